/- Part of TopAudits. -/
import Derived.Test.YtmgdbfmlnmahpaaGreatDoorG49
import Derived.Test.YtmgdbfmlnmahpaaGreatDoorG01
import Derived.Deep.Strs
import Derived.Lib.LaidU8T
import Derived.Deep.Slices
import Derived.ChangeSame
namespace Go.Proofs.YtmgdbfmlnmahpaaGreatDoor
set_option linter.unusedSimpArgs false
set_option linter.unusedVariables false
set_option maxRecDepth 100000
set_option maxHeartbeats 4000000
open Go.Proofs.Tryz
open Go.ChangeShapes Go.WideShapes Go.ChangeAt Go.RowKit Go.Joins Go.Deep
variable {cs:List Value} {fuel:Nat} {c:Value}
section
variable {H:Type} {enc:TypeId×Value->H} {w:World} {base:Nat} {spare:Nat->Bool} {held:Bool} {r:Reach} {b0:Nat} {v:Value} {d:DataW H} {p:List MemPlace}
theorem sN {P:Program}{α:Type}{k:Nat}{ec:α->List Value}{Q:α->Prop}{t e:TypeId}(ht:P.underlying t=some (.slice e))(hce:P.cellsOf e=k)(hk0:0<k)(hk:∀x,(ec x).length=k)(hone:∀x,∀u∈ec x,u.oneCell'=true)
  (hr:∀(fuel:Nat) (cs:List Value) (x:DataW H×List MemPlace),DataW.trod enc P w base spare held fuel e cs=some x->∃y,cs=ec y/\Q y) {fuel:Nat} {c:Value} {x:DataW H×List MemPlace} (h:DataW.trod enc P w base spare held fuel t [c]=some x):
  ∃(s:Option Addr) (L:List α) (cap:Nat),c=.slice s L.length cap/\Rd k ec w s L/\(∀x∈L,Q x)/\L.length<=cap/\cap<=9223372036854775807/\(s=none->cap=0):=by
 rcases open_slice ht h with⟨h0,_⟩|⟨a,len,cap,m,n,D,Pl,hcs,hb,hl,hm,hmm,_,hi⟩
 .simp at h0;exact⟨none,[],0,h0,λi x hx=>by simp at hx,by simp,aH,by omega,λ_=>rfl⟩
 .simp at hcs;subst hcs;rw[hce] at hi;have hml:len<=m:=by rw[hmm];split<;>omega
  have hall:∀i,i<len->∃y,Q y/\(∀j,j<k->w.cell? ((a.add (i*k)).add j)=(ec y)[j]?):=by
   intro i hil;obtain⟨cs',hc,ht⟩:=hi i (by omega);obtain⟨_,_,hat⟩:=World.cells?_some hc;obtain⟨y,rfl,he⟩:=hr _ _ _ ht;exact⟨y,he,hat⟩
  obtain⟨b,off,spot⟩:=a
  by_cases hz:len=0
  .subst hz;exact⟨_,[],cap,rfl,λi x hx=>by simp at hx,by simp,by simp,by unfold maxLen at hm;omega,by simp⟩
  .have hfst:∀y:α,∃u,(ec y)[0]? =some u:=λy=>⟨_,cZ (by rw[hk];exact hk0)⟩;have hsp:spot=none:=by
    obtain⟨y,_,he⟩:=hall 0 (by omega);obtain⟨u,hu⟩:=hfst y;have h1:=he 0 hk0;have h2:=World.cell?_spot (h1.trans hu)
    simpa[Addr.add] using h2
   subst hsp;have hch:∃L:List α,L.length=len/\∀(i:Nat) (x:α),L[i]? =some x->Q x/\(∀j,j<k->w.cell? ((Addr.add ⟨b,off,none⟩ (i*k)).add j)=(ec x)[j]?):=by
    have key:∀q,q<=len->∃L:List α,L.length=q/\∀(i:Nat) (x:α),L[i]? =some x->Q x/\(∀j,j<k->w.cell? ((Addr.add ⟨b,off,none⟩ (i*k)).add j)=(ec x)[j]?):=by
     intro q
     induction q with
     |zero=>exact λ_=>⟨[],rfl,λi x hx=>by simp at hx⟩
     |succ q ih=>
      intro hk;obtain⟨L,hL,hx⟩:=ih (by omega);obtain⟨e,he⟩:=hall q (by omega);refine⟨L++[e],by simp[hL],λi x hi'=> ?_⟩
      by_cases hik:i<L.length
      .rw[List.getElem?_append_left hik] at hi';exact hx i x hi'
      .rw[List.getElem?_append_right (by omega)] at hi';have:i=q:=by
        have:=(gJ.1 hi').1;simp at this;omega
       subst this;simp[hL] at hi';subst hi';exact he
    exact key len aH
   obtain⟨L,hL,hx⟩:=hch;have hgl:b<w.heap.size:=by
    obtain⟨y,_,he⟩:=hall 0 (by omega);obtain⟨u,hu⟩:=hfst y;have h1:=(he 0 hk0).trans hu;have h2:=World.block_lt_of_cell? w _ h1
    simpa only[Addr.add_lit] using h2
   refine⟨_,L,cap,by rw[hL],λi x hi'=> ?_,λx hm'=> ?_,by omega,by unfold maxLen at hm;omega,by simp⟩
   .obtain⟨_,hc⟩:=hx i x hi';refine⟨b,off,rfl,hgl,λj u hu=> ?_⟩;have hj:j<k:=by rw[<-hk x];exact(gJ.1 hu).1
    have:=hc j hj;rw[hu] at this
    simpa only[Addr.add_lit] using this
   .obtain⟨i,hi'⟩:=List.mem_iff_getElem?.1 hm';exact(hx i x hi').1
theorem iK :prog.cellsOf 22=1:=by kernel_rfl
theorem zP :prog.cellsOf 45=2:=by kernel_rfl
theorem aPw (fuel:Nat)(cs:List Value)(x:DataW H×List MemPlace)(h:DataW.trod enc prog w base spare held fuel 45 cs=some x):∃y:Nat×Nat,cs=jH y/\(y.1<=aJ/\y.2<=aJ):=by
 obtain⟨y0,y1,n,_,hl,h0,h1⟩:=trod_struct2 underlying45 h;rw[zP] at hl
 match cs,hl with
 |[c0,c1],_=>
  obtain⟨n0,e0,_,w0⟩:=DataW.trod_int underlying22 h0;obtain⟨n1,e1,_,w1⟩:=DataW.trod_int underlying22 h1;simp[iK] at e0 e1;have b0:=bounds_u64 w0;have b1:=bounds_u64 w1;subst e0 e1;obtain⟨m0,rfl⟩:=Int.eq_ofNat_of_zero_le b0.1;obtain⟨m1,rfl⟩:=Int.eq_ofNat_of_zero_le b1.1;exact⟨(m0,m1),rfl,by unfold aJ;omega,by unfold aJ;omega⟩
theorem aRw (hv:Value.okWide prog w r b0 22 v)(h:DataW.Trod enc prog w base spare held 22 v d p):∃n:Nat,v=.int .u64 n/\n<=aJ:=by
 obtain⟨n,rfl,_,_,hw⟩:=open_int underlying22 hv h;have:=bounds_u64 hw;obtain⟨m,rfl⟩:=Int.eq_ofNat_of_zero_le this.1;exact⟨m,rfl,by unfold aJ;omega⟩
theorem vM :prog.cellsOf 3=1:=by kernel_rfl
theorem aJe :prog.cellsOf 9=1:=by kernel_rfl
theorem aC1 :prog.cellsOf 59=3:=by kernel_rfl
theorem aPz :prog.cellsOf 39=3:=by kernel_rfl
theorem aNi :prog.cellsOf 43=10:=by kernel_rfl
theorem aE6 :prog.cellsOf 51=13:=by kernel_rfl
theorem aOp :prog.cellsOf 25=1:=by kernel_rfl
theorem aNm :prog.cellsOf 41=1:=by kernel_rfl
theorem oD {x:DataW H×List MemPlace}(h:DataW.trod enc prog w base spare held fuel 22 cs=some x)(hc:cs=[c]):∃n:Nat,c=.int .u64 n/\n<=aJ:=by
 obtain⟨n0,e0,_,w0⟩:=DataW.trod_int underlying22 h;have b0:=bounds_u64 w0;obtain⟨m0,rfl⟩:=Int.eq_ofNat_of_zero_le b0.1;rw[hc] at e0;exact⟨m0,by simpa using e0,by unfold aJ;omega⟩
theorem aBz {x:DataW H×List MemPlace}(h:DataW.trod enc prog w base spare held fuel 3 cs=some x)(hc:cs=[c]):∃n:Int,c=.int .i64 n/\-9223372036854775808<=n/\n<=9223372036854775807:=by
 obtain⟨n0,e0,_,w0⟩:=DataW.trod_int underlying3 h;have b0:=bounds_i64 w0;rw[hc] at e0;exact⟨n0,by simpa using e0,b0.1,b0.2⟩
theorem aPh {x:DataW H×List MemPlace}(h:DataW.trod enc prog w base spare held fuel 9 cs=some x)(hc:cs=[c]):∃s:ByteArray,c=.string s/\s.size<=9223372036854775807:=by
 obtain⟨s,e,_,hs⟩:=DataW.trod_string underlying9 h;rw[hc] at e;exact⟨s,by simpa using e,hs⟩
theorem aU6 (fuel:Nat)(cs:List Value)(x:DataW H×List MemPlace)(h:DataW.trod enc prog w base spare held fuel 22 cs=some x):∃y:Nat,cs=cM y/\True:=by
 obtain⟨n0,e0,_,w0⟩:=DataW.trod_int underlying22 h;have b0:=bounds_u64 w0;obtain⟨m0,rfl⟩:=Int.eq_ofNat_of_zero_le b0.1;exact⟨m0,e0,trivial⟩
theorem aKz (x:Nat×Nat):∀u∈jH x,u.oneCell'=true:=by
 intro u hu;simp[jH] at hu;rcases hu with rfl|rfl<;>rfl
theorem aTx {x:DataW H×List MemPlace}(h:DataW.trod enc prog w base spare held fuel 25 cs=some x)(hc:cs=[c]):
  ∃(s:Option Addr) (L:List (Nat×Nat)) (cap:Nat),c=.slice s L.length cap/\Rd 2 jH w s L/\SmI L/\L.length<=cap/\cap<=9223372036854775807/\(s=none->cap=0):=by
 rw[hc] at h;exact sN (P:=prog) (ec:=jH) (Q:=λy=>y.1<=aJ/\y.2<=aJ) underlying25 zP (by decide) zQ aKz aPw h
theorem aTs {x:DataW H×List MemPlace}(h:DataW.trod enc prog w base spare held fuel 41 cs=some x)(hc:cs=[c]):
  ∃(s:Option Addr) (L:List Nat) (cap:Nat),c=.slice s L.length cap/\Rd 1 cM w s L/\L.length<=cap/\cap<=9223372036854775807/\(s=none->cap=0):=by
 rw[hc] at h;obtain⟨s,L,cap,h1,h2,-,h3⟩:=sN (P:=prog) (ec:=cM) (Q:=λ_=>True) underlying41 iK (by decide) aY fF aU6 h;exact⟨s,L,cap,h1,h2,h3⟩
theorem aQr (fuel:Nat)(cs:List Value)(x:DataW H×List MemPlace)(h:DataW.trod enc prog w base spare held fuel 59 cs=some x):∃y:mH,cs=yR y/\y.id<=aJ:=by
 obtain⟨y0,y1,y2,n,_,hl,h0,h1,h2⟩:=trod_struct3 underlying59 h;rw[aC1] at hl
 match cs,hl with
 |[c0,c1,c2],_=>
  obtain⟨n0,rfl,b0⟩:=oD h0 (c:=c0) (by simp[iK]);obtain⟨n1,rfl,-⟩:=aBz h1 (c:=c1) (by simp[vM]);obtain⟨n2,rfl,b2⟩:=oD h2 (c:=c2) (by simp[iK]);exact⟨⟨n0,n1,n2⟩,rfl,b0⟩
theorem aQu (fuel:Nat)(cs:List Value)(x:DataW H×List MemPlace)(h:DataW.trod enc prog w base spare held fuel 51 cs=some x):∃y:kB,cs=sJ y/\pN w y.r:=by
 obtain⟨y0,y1,n,_,hl,hX,hR⟩:=trod_struct2 underlying51 h;rw[aE6] at hl
 match cs,hl with
 |[c0,c1,c2,c3,c4,c5,c6,c7,c8,c9,c10,c11,c12],_=>
  simp only[aPz,aNi,List.drop_succ_cons,List.drop_zero,List.take_succ_cons,List.take_zero] at hX hR;obtain⟨_,_,_,m,_,_,h0,h1,h2⟩:=trod_struct3 underlying39 hX;obtain⟨xs,m',_,_,_,hlen,hf⟩:=DataW.trod_struct underlying43 hR
  match xs,hlen with
  |[z0,z1,z2,z3,z4,z5,z6,z7,z8,z9],_=>
   obtain⟨n0,rfl,b0⟩:=oD h0 (c:=c0) (by simp[iK]);obtain⟨n1,rfl,-⟩:=aBz h1 (c:=c1) (by simp[vM]);obtain⟨n2,rfl,b2⟩:=oD h2 (c:=c2) (by simp[iK]);obtain⟨n3,rfl,b3,B3⟩:=aBz (hf 0 _ rfl) (c:=c3) (by simp[vM]);obtain⟨n4,rfl,b4⟩:=oD (hf 1 _ rfl) (c:=c4) (by simp[iK]);obtain⟨s5,rfl,b5⟩:=aPh (hf 2 _ rfl) (c:=c5) (by simp[aJe]);obtain⟨s6,rfl,b6⟩:=aPh (hf 3 _ rfl) (c:=c6) (by simp[aJe]);obtain⟨n7,rfl,-⟩:=aBz (hf 4 _ rfl) (c:=c7) (by simp[vM]);obtain⟨s8,L8,p8,rfl,r8,q8,l8,m8,o8⟩:=aTx (hf 5 _ rfl) (c:=c8) (by simp[aOp]);obtain⟨n9,rfl,b9⟩:=oD (hf 6 _ rfl) (c:=c9) (by simp[iK]);obtain⟨n10,rfl,b10⟩:=oD (hf 7 _ rfl) (c:=c10) (by simp[iK]);obtain⟨n11,rfl,b11⟩:=oD (hf 8 _ rfl) (c:=c11) (by simp[iK]);obtain⟨s12,L12,p12,rfl,r12,l12,m12,o12⟩:=aTs (hf 9 _ rfl) (c:=c12) (by simp[aNm]);exact⟨⟨n0,n1,n2,⟨n3,n4,s5,s6,n7,L8,⟨s8,p8⟩,n9,n10,n11,L12,⟨s12,p12⟩⟩⟩,rfl,⟨b3,B3,b4,b5,b6,q8,l8,m8,o8,b9,b11,l12,m12,o12,r8,r12⟩⟩
theorem aNt (hv:Value.okWide prog w r b0 31 v)(h:DataW.Trod enc prog w base spare held 31 v d p):
  ∃(s:Option Addr) (L:List mH) (cap:Nat),v=.slice s L.length cap/\Rd 3 yR w s L/\(∀c∈L,c.id<=aJ)/\L.length<=cap/\cap<=9223372036854775807/\(s=none->cap=0):=by
 obtain⟨a0,len,cap,rfl⟩:=okWide_slice underlying31 hv;obtain⟨fuel,hf⟩:=h;exact sN (P:=prog) (ec:=yR) (Q:=λc=>c.id<=aJ) underlying31 aC1 (by decide) aEo (λx u hu=>by simp[yR] at hu;rcases hu with rfl|rfl|rfl<;>rfl) aQr (c:=.slice a0 len cap) hf
theorem aM6 (hv:Value.okWide prog w r b0 47 v)(h:DataW.Trod enc prog w base spare held 47 v d p):
  ∃(s:Option Addr) (L:List kB) (cap:Nat),v=.slice s L.length cap/\Rd 13 sJ w s L/\(∀x∈L,pN w x.r)/\L.length<=cap/\cap<=9223372036854775807/\(s=none->cap=0):=by
 obtain⟨a0,len,cap,rfl⟩:=okWide_slice underlying47 hv;obtain⟨fuel,hf⟩:=h;exact sN (P:=prog) (ec:=sJ) (Q:=λx=>pN w x.r) underlying47 aE6 (by decide) lQ aDp aQu (c:=.slice a0 len cap) hf
end
theorem gE :prog.globalNamed "errors.errorType" =some 1:=by kernel_rfl
theorem rtE :(prog.cutTypes.find? (·.1== "internal/reflectlite.rtype")).map (·.2)=some 392:=by kernel_rfl
theorem aVl :prog.types.size=520:=by kernel_rfl
theorem aV3 :((List.range 520).filter λt=>prog.rowNamed t [101,114,114,111,114])=[137]:=by kernel_rfl
theorem aOy {W:World}(h:laidMetH prog aDt W):aQ W:=by
 have h':laidMet prog aPs W/\handlesMet prog [("errors.errorType",Rows.laid_errors_errorType)] W:=h;obtain⟨name,u,ty,e1,e2,e3,e4,e5⟩:=h'.2 _ (List.mem_singleton.2 rfl);have en:name=[101,114,114,111,114]:=(oSi e1).symm;subst en;obtain rfl:=oSi (rtE.symm.trans e2);have hm:ty∈(List.range 520).filter λt=>prog.rowNamed t [101,114,114,111,114]:=List.mem_filter.2 ⟨List.mem_range.2 (by rw[<-aVl];exact e3),e4⟩;rw[aV3] at hm;obtain rfl:=List.mem_singleton.1 hm;have hh:typeHandle prog 137=pv 4 137:=by kernel_rfl
 rw[hh] at e5;have hE:=World.var?_cell gE e5 0;exact⟨by simpa[lP] using hE,
  utf8Tabs_of_readsT (ρ:=Tryz.lays197_ren) {Tryz.lays197 with} ⟨by kernel_rfl,by kernel_rfl,by kernel_rfl,by kernel_rfl,by kernel_rfl,by kernel_rfl,by kernel_rfl⟩ (Lib.laidMet.reads h'.1 (.tail _ (.head _))) (Lib.laidMet.reads h'.1 (.head _))⟩
end Go.Proofs.YtmgdbfmlnmahpaaGreatDoor
