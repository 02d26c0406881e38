/- Part of TopAudits. -/
import Derived.Test.YtmgdbfmlnmahpaaGreatDoorG40
namespace Go.Proofs.YtmgdbfmlnmahpaaGreatDoor
set_option linter.unusedSimpArgs false
set_option linter.unusedVariables false
set_option maxRecDepth 100000
set_option maxHeartbeats 4000000
open Go.Proofs.Tryz
open Go.RowKit
abbrev lv (bf:Int)(s:Option Addr)(n cap:Nat):Value:=.agg #[.int .u64 bf,.slice s n cap]
def dN (bf:Int)(L:List bT):Int:=match L[L.length-1]? with|none=>bf|some x=>x.sum
def bC (L:List bT):Int:=match L[L.length-1]? with|none=>0|some x=>x.seq
theorem mR (bf:Int)(h0:0<=bf)(h1:bf<18446744073709551616)(L:List bT)(hL:∀x∈L,x.Ok):0<=dN bf L/\dN bf L<18446744073709551616:=by
 unfold dN;split
 .exact⟨h0,h1⟩
 .rename_i x hx;have:=hL x (bK hx);exact⟨this.m0,this.m1⟩
theorem gL (L:List bT)(hL:∀x∈L,x.Ok):0<=bC L/\bC L<18446744073709551616:=by
 unfold bC;split
 .omega
 .rename_i x hx;have:=hL x (bK hx);exact⟨this.s0,this.s1⟩
set_option maxRecDepth 100000 in
theorem aO2 (bf:Int)(L:List bT)(hl:L.length<=1000)(s:Option Addr)(cap:Nat)(w:World)(hE:lE w s L):
  Calls prog 103 #[lv bf s L.length cap] w λe w'=>e=.returned (.int .u64 (dN bf L))/\Below w.heap.size w w':=by
 by_cases h0:L.length=0
 .obtain rfl:L=[]:=List.eq_nil_of_length_eq_zero h0;have HS:=aA (show dN bf []=bf from rfl);simp only[List.length_nil];go_enter func103,ntmps103;go_wp2_with fail;go_ret;exact⟨by rw[HS.out];rfl,aW.alloc aH _⟩
 .have hx:=cZ (show L.length-1<L.length by omega);have HS:=aA (show dN bf L=(L[L.length-1]'(by omega)).sum by unfold dN;rw[hx]);obtain⟨g,o,rfl,hg,c0,c1,c2,c3⟩:=hE _ _ hx;generalize(L[L.length-1]'(by omega))=x at*;obtain⟨n,hn⟩:∃n,L.length=n+1:=⟨L.length-1,by omega⟩;rw[hn] at hl c0 c1 c2 c3⊢;simp only[Nat.add_sub_cancel] at c0 c1 c2 c3;clear hn hE hx h0;go_enter func103,ntmps103;go_wp2_with fail;go_ret;exact⟨by rw[HS.out];rfl,aW.alloc aH _⟩
set_option maxRecDepth 100000 in
theorem aD3 (bf:Int)(L:List bT)(hl:L.length<=1000)(s:Option Addr)(cap:Nat)(w:World)(hE:lE w s L):
  Calls prog 101 #[lv bf s L.length cap] w λe w'=>e=.returned (.int .u64 (bC L))/\Below w.heap.size w w':=by
 by_cases h0:L.length=0
 .obtain rfl:L=[]:=List.eq_nil_of_length_eq_zero h0;have HS:=aA (show bC []=0 from rfl);simp only[List.length_nil];go_enter func101,ntmps101;go_wp2_with fail;go_ret;exact⟨by rw[HS.out];rfl,aW.alloc aH _⟩
 .have hx:=cZ (show L.length-1<L.length by omega);have HS:=aA (show bC L=(L[L.length-1]'(by omega)).seq by unfold bC;rw[hx]);obtain⟨g,o,rfl,hg,c0,c1,c2,c3⟩:=hE _ _ hx;generalize(L[L.length-1]'(by omega))=x at*;obtain⟨n,hn⟩:∃n,L.length=n+1:=⟨L.length-1,by omega⟩;rw[hn] at hl c0 c1 c2 c3⊢;simp only[Nat.add_sub_cancel] at c0 c1 c2 c3;clear hn hE hx h0;go_enter func101,ntmps101;go_wp2_with fail;go_ret;exact⟨by rw[HS.out];rfl,aW.alloc aH _⟩
def aCu (p x:bT):Prop:=p.seq<18446744073709551615/\x.seq=p.seq+1/\p.at'<=x.at'
structure tH (a b:BitVec 64)(bf:Int)(L:List bT):Prop where
 n:L.length<=30
 e:L=[]->bf=0
 f:∀x:bT,L[0]? =some x->1<=x.seq/\(x.seq=1->bf=0)
 t:∀(i:Nat) (x:bT),L[i]? =some x->x.text.size<=200
 s:∀(i:Nat) (p x:bT),L[i]? =some p->L[i+1]? =some x->aCu p x
 c:(eF a b bf L).2=true
theorem cP {r:Bool}{p:Prop}(h:r=true↔p)(hn:¬p):r=false:=by
 cases r
 .rfl
 .exact absurd (h.1 rfl) hn
theorem pF {r:Bool}{p:Prop}(h:r=true↔p)(hn:p):r=true:=h.2 hn
set_option maxRecDepth 100000 in
theorem kP (p x:bT)(hp:p.Ok)(hx:x.Ok)(r:Bool)(hr:r=true↔aCu p x)(w:World):
  Calls prog 144 #[p.v,x.v] w λe w'=>e=.returned (.bool r)/\Below w.heap.size w w':=by
 obtain⟨s0,s1,a0,a1,t,m0,m1⟩:=hp;obtain⟨t0,t1,b0,b1,u,n0,n1⟩:=hx;have HR:=aA hr;clear hr;unfold bT.v
 by_cases h1:p.seq<18446744073709551615
 .by_cases h2:x.seq=p.seq+1
  .have h2b:(x.seq==p.seq+1)=true:=by simp[h2]
   by_cases h3:p.at'<=x.at'
   .have hR:=aA (pF HR.out ⟨h1,h2,h3⟩);go_enter func144,ntmps144;go_wp2_with fail;go_ret;exact⟨by rw[hR.out];rfl,(aW.alloc aH _).alloc (by simp) _⟩
   .have hR:=aA (cP HR.out (λh=>h3 h.2.2));go_enter func144,ntmps144;go_wp2_with fail;go_ret;exact⟨by rw[hR.out];rfl,(aW.alloc aH _).alloc (by simp) _⟩
  .have h2b:(x.seq==p.seq+1)=false:=by simp[h2]
   have hR:=aA (cP HR.out (λh=>h2 h.2.1));go_enter func144,ntmps144;go_wp2_with fail;go_ret;exact⟨by rw[hR.out];rfl,(aW.alloc aH _).alloc (by simp) _⟩
 .have hR:=aA (cP HR.out (λh=>h1 h.1));go_enter func144,ntmps144;go_wp2_with fail;go_ret;exact⟨by rw[hR.out];rfl,(aW.alloc aH _).alloc (by simp) _⟩
set_option maxRecDepth 100000 in
theorem aAi (a b:BitVec 64)(bf:Int)(h0:0<=bf)(h1:bf<18446744073709551616)(L:List bT)(hL:∀x∈L,x.Ok)(hl:L.length<=1000)(s:Option Addr)(cap:Nat)(r:Bool)(hr:r=true↔tH a b bf L)(w:World)(hE:lE w s L):
  Calls prog 100 #[kv a b,lv bf s L.length cap] w λe w'=>e=.returned (.bool r)/\Below w.heap.size w w':=by
 have HR:=aA hr;clear hr
 by_cases hn:30<L.length
 .have hR:=aA (cP HR.out (λh=>absurd h.n (by omega)));go_enter func100,ntmps100;go_wp2_with fail;go_ret;exact⟨by rw[hR.out];rfl,(aW.alloc aH _).alloc (by simp) _⟩
 by_cases hz:L.length=0
 .obtain rfl:L=[]:=List.eq_nil_of_length_eq_zero hz;have HB:Hid (r=(bf==0)):=by
   show _=_
   by_cases hb:bf=0
   .rw[pF HR.out ⟨by simp,λ_=>hb,by simp,by simp,by simp,rfl⟩];simp[hb]
   .rw[cP HR.out (λh=>hb (h.e rfl))];simp[hb]
  simp only[List.length_nil];go_enter func100,ntmps100;go_wp2_with fail;go_ret;exact⟨by rw[HB.out];rfl,(aW.alloc aH _).alloc (by simp) _⟩
 have hx0:=cZ (show 0<L.length by omega);have hok0:(L[0]'(by omega)).Ok:=hL _ (List.getElem_mem _);obtain⟨g,o,rfl,hg,c0,c1,c2,c3⟩:=hE 0 _ hx0;generalize(L[0]'(by omega))=x0 at*;have HX0:=aA hx0;rw[Nat.zero_mul,Nat.add_zero] at c0 c1 c2 c3;have q0:=hok0.s0;have q1:=hok0.s1;have hzb:((L.length:Int)==0)=false:=by rw[beq_eq_false_iff_ne];omega
 clear hx0
 by_cases hq:x0.seq<1
 .have hR:=aA (cP HR.out (λh=>absurd (h.f _ HX0.out).1 (by omega)));go_enter func100,ntmps100;go_wp2_with fail;go_ret;exact⟨by rw[hR.out];rfl,(aW.alloc aH _).alloc (by simp) _⟩
 by_cases hq1:x0.seq=1/\bf≠0
 .have hq1b:(x0.seq==1)=true:=by simp[hq1.1]
  have hb1:(bf !=0)=true:=by simp[hq1.2]
  have hR:=aA (cP HR.out (λh=>hq1.2 ((h.f _ HX0.out).2 hq1.1)));clear hq1;go_enter func100,ntmps100;go_wp2_with fail;go_ret;exact⟨by rw[hR.out];rfl,(aW.alloc aH _).alloc (by simp) _⟩
 have HF:=aA (show 1<=x0.seq/\(x0.seq=1->bf=0) from⟨by omega,λh=>Classical.byContradiction λhb=>hq1 ⟨h,hb⟩⟩);clear hq1
 by_cases hs1:x0.seq=1
 .have hbf:=HF.out.2 hs1;have hbb:(bf !=0)=false:=by simp[hbf]
  have hq1b:(x0.seq==1)=true:=by simp[hs1]
  clear hbf;go_enter func100,ntmps100;go_wp2_with fail;have HB0:Below w.heap.size w ((w.alloc (.cells #[Value.int IntKind.u64 (un a),Value.int IntKind.u64 (un b)] 24)).alloc (.cells #[Value.int IntKind.u64 bf,.slice (some ⟨g,o,none⟩) L.length cap] 79)):=(aW.alloc aH _).alloc (by simp) _;have HZ0:w.heap.size+1<((w.alloc (.cells #[Value.int IntKind.u64 (un a),Value.int IntKind.u64 (un b)] 24)).alloc (.cells #[Value.int IntKind.u64 bf,.slice (some ⟨g,o,none⟩) L.length cap] 79)).heap.size:=by simp
  have K00:((w.alloc (.cells #[Value.int IntKind.u64 (un a),Value.int IntKind.u64 (un b)] 24)).alloc (.cells #[Value.int IntKind.u64 bf,.slice (some ⟨g,o,none⟩) L.length cap] 79)).cell? ⟨w.heap.size,0,none⟩=some (.int .u64 (un a)):=by go_simp
  have K10:((w.alloc (.cells #[Value.int IntKind.u64 (un a),Value.int IntKind.u64 (un b)] 24)).alloc (.cells #[Value.int IntKind.u64 bf,.slice (some ⟨g,o,none⟩) L.length cap] 79)).cell? ⟨w.heap.size,1,none⟩=some (.int .u64 (un b)):=by go_simp
  have G00:((w.alloc (.cells #[Value.int IntKind.u64 (un a),Value.int IntKind.u64 (un b)] 24)).alloc (.cells #[Value.int IntKind.u64 bf,.slice (some ⟨g,o,none⟩) L.length cap] 79)).cell? ⟨w.heap.size+1,0,none⟩=some (.int .u64 bf):=by go_simp
  have G10:((w.alloc (.cells #[Value.int IntKind.u64 (un a),Value.int IntKind.u64 (un b)] 24)).alloc (.cells #[Value.int IntKind.u64 bf,.slice (some ⟨g,o,none⟩) L.length cap] 79)).cell? ⟨w.heap.size+1,1,none⟩=some (.slice (some ⟨g,o,none⟩) L.length cap):=by go_simp
  generalize((w.alloc (.cells #[Value.int IntKind.u64 (un a),Value.int IntKind.u64 (un b)] 24)).alloc (.cells #[Value.int IntKind.u64 bf,.slice (some ⟨g,o,none⟩) L.length cap] 79))=w4 at*
  go_loopw [42] (λi wr=>∃(k:Nat),k<=L.length/\i=.int .i64 k/\Hid ((∀(i:Nat) (x:bT),i<k->L[i]? =some x->x.text.size<=200)/\(∀(i:Nat) (p x:bT),i+1<k->L[i]? =some p->L[i+1]? =some x->aCu p x))/\Below w.heap.size w wr/\w.heap.size+1<wr.heap.size/\wr.cell? ⟨w.heap.size,0,none⟩=some (.int .u64 (un a))/\wr.cell? ⟨w.heap.size,1,none⟩=some (.int .u64 (un b))/\wr.cell? ⟨w.heap.size+1,0,none⟩=some (.int .u64 bf)/\wr.cell? ⟨w.heap.size+1,1,none⟩=some (.slice (some ⟨g,o,none⟩) L.length cap)) (λi _=>L.length-(intOf i).toNat)
  case atStart=>exact⟨0,cJ _,rfl,aA ⟨λi x h=>absurd h (by omega),λi p x h=>absurd h (by omega)⟩,HB0,HZ0,K00,K10,G00,G10⟩
  case round=>
   obtain⟨k,hk,rfl,HI,HB,HZ,K0,K1,G0,G1⟩:=hrel;clear HB0 HZ0 K00 K10 G00 G10 c0 c1 c2 c3
   by_cases hlt:k<L.length
   .have hx:=cZ hlt;have hok:(L[k]'hlt).Ok:=hL _ (List.getElem_mem _);obtain⟨g',o',he,hg',c0,c1,c2,c3⟩:=hE k _ hx;obtain⟨rfl,rfl⟩:g'=g/\o'=o:=by simp at he;exact⟨he.1.symm,he.2.symm⟩
    generalize(L[k]'hlt)=x at*;have hgz:g'<wr.heap.size:=by have:=HB.size;omega
    have d0:=(HB.cell (p:=⟨g',_,none⟩) hg').trans c0;have d1:=(HB.cell (p:=⟨g',_,none⟩) hg').trans c1;have d2:=(HB.cell (p:=⟨g',_,none⟩) hg').trans c2;have d3:=(HB.cell (p:=⟨g',_,none⟩) hg').trans c3;have HX:=aA hx;have hts:=hok.t;clear c0 c1 c2 c3 hx he
    by_cases ht:200<x.text.size
    .have hR:=aA (cP HR.out (λh=>absurd (h.t k x HX.out) (by omega)));go_wp2_with fail;go_ret;exact⟨by rw[hR.out];rfl,HB.alloc HB.size _⟩
    .by_cases hk0:k=0
     .subst hk0;rw[Nat.zero_mul,Nat.add_zero] at d0 d1 d2 d3;go_wp2_with fail;have hBx:Below wr.heap.size wr (wr.alloc (.cells #[Value.int .u64 x.seq,.int .u64 x.at',.string x.text,.int .u64 x.sum] 53)):=aW.alloc aH _;have hzx:wr.heap.size<(wr.alloc (.cells #[Value.int .u64 x.seq,.int .u64 x.at',.string x.text,.int .u64 x.sum] 53)).heap.size:=by simp
      have e0:=Cw.cell (w:=(wr.alloc (.cells #[Value.int .u64 x.seq,.int .u64 x.at',.string x.text,.int .u64 x.sum] 53))) wr.heap.size 0 (.int .u64 x.seq) hzx (by go_simp);have e1:=Cw.cell (w:=(wr.alloc (.cells #[Value.int .u64 x.seq,.int .u64 x.at',.string x.text,.int .u64 x.sum] 53))) wr.heap.size 1 (.int .u64 x.at') hzx (by go_simp);have e2:=Cw.cell (w:=(wr.alloc (.cells #[Value.int .u64 x.seq,.int .u64 x.at',.string x.text,.int .u64 x.sum] 53))) wr.heap.size 2 (.string x.text) hzx (by go_simp);have e3:=Cw.cell (w:=(wr.alloc (.cells #[Value.int .u64 x.seq,.int .u64 x.at',.string x.text,.int .u64 x.sum] 53))) wr.heap.size 3 (.int .u64 x.sum) hzx (by go_simp);have f0:=Cw.cell (w:=(wr.alloc (.cells #[Value.int .u64 x.seq,.int .u64 x.at',.string x.text,.int .u64 x.sum] 53))) w.heap.size 0 (.int .u64 (un a)) (by omega) ((hBx.cell (p:=⟨w.heap.size,0,none⟩) (by show w.heap.size<_;omega)).trans K0);have f1:=Cw.cell (w:=(wr.alloc (.cells #[Value.int .u64 x.seq,.int .u64 x.at',.string x.text,.int .u64 x.sum] 53))) w.heap.size 1 (.int .u64 (un b)) (by omega) ((hBx.cell (p:=⟨w.heap.size,1,none⟩) (by show w.heap.size<_;omega)).trans K1);have l0:=Cw.cell (w:=(wr.alloc (.cells #[Value.int .u64 x.seq,.int .u64 x.at',.string x.text,.int .u64 x.sum] 53))) (w.heap.size+1) 0 (.int .u64 bf) (by omega) ((hBx.cell (p:=⟨w.heap.size+1,0,none⟩) HZ).trans G0);have l1:=Cw.cell (w:=(wr.alloc (.cells #[Value.int .u64 x.seq,.int .u64 x.at',.string x.text,.int .u64 x.sum] 53))) (w.heap.size+1) 1 (.slice (some ⟨g',o',none⟩) L.length cap) (by omega) ((hBx.cell (p:=⟨w.heap.size+1,1,none⟩) HZ).trans G1);clear d0 d1 d2 d3 K0 K1 G0 G1;generalize(wr.alloc (.cells #[Value.int .u64 x.seq,.int .u64 x.at',.string x.text,.int .u64 x.sum] 53))=w5 at*;refine lO (by kernel_rfl) (by kernel_rfl) ?_
      repeat(first|go_big_quiet_step (fail)|quiet_step (fail))
      refine wpQuiet_nil ?_;intro y;have hy:Below wr.heap.size wr y.W:=hBx.trans (y.below.mono (by omega));have m0:=f0 y;have m1:=f1 y;have m2:=l0 y;have m3:=l1 y;have hyz:=hy.size;clear e0 e1 e2 e3 f0 f1 l0 l1;generalize y.W=W at*;go_wp2_with fail;go_roundw
      case rel=>
       refine⟨1,by omega,by go_num,aA ⟨λi z hi hz'=> ?_,λi p z hi=>absurd hi (by omega)⟩,HB.trans (hy.mono HB.size),by omega,m0,m1,m2,m3⟩;obtain rfl:i=0:=by omega
       have:=hz'.symm.trans HX.out;simp at this;subst this;omega
      case measure=>simp[intOf];omega
     .obtain⟨j,rfl⟩:∃j,k=j+1:=⟨k-1,by omega⟩;have hp:=cZ (show j<L.length by omega);have hokp:(L[j]'(by omega)).Ok:=hL _ (List.getElem_mem _);obtain⟨g'',o'',he,hg'',c0,c1,c2,c3⟩:=hE j _ hp;obtain⟨rfl,rfl⟩:g''=g'/\o''=o':=by simp at he;exact⟨he.1.symm,he.2.symm⟩
      generalize(L[j]'(by omega))=p at*;have b0:=(HB.cell (p:=⟨g'',_,none⟩) hg'').trans c0;have b1:=(HB.cell (p:=⟨g'',_,none⟩) hg'').trans c1;have b2:=(HB.cell (p:=⟨g'',_,none⟩) hg'').trans c2;have b3:=(HB.cell (p:=⟨g'',_,none⟩) hg'').trans c3;have HP:=aA hp;clear c0 c1 c2 c3 hp he;obtain⟨q,hq2⟩:∃q:Bool,q=true↔aCu p x:=by
       classical
       exact⟨decide (aCu p x),decide_eq_true_iff⟩
      go_wp2_with fail;have hBx:Below wr.heap.size wr (wr.alloc (.cells #[Value.int .u64 x.seq,.int .u64 x.at',.string x.text,.int .u64 x.sum] 53)):=aW.alloc aH _;have hzx:wr.heap.size<(wr.alloc (.cells #[Value.int .u64 x.seq,.int .u64 x.at',.string x.text,.int .u64 x.sum] 53)).heap.size:=by simp
      have e0:=Cw.cell (w:=(wr.alloc (.cells #[Value.int .u64 x.seq,.int .u64 x.at',.string x.text,.int .u64 x.sum] 53))) wr.heap.size 0 (.int .u64 x.seq) hzx (by go_simp);have e1:=Cw.cell (w:=(wr.alloc (.cells #[Value.int .u64 x.seq,.int .u64 x.at',.string x.text,.int .u64 x.sum] 53))) wr.heap.size 1 (.int .u64 x.at') hzx (by go_simp);have e2:=Cw.cell (w:=(wr.alloc (.cells #[Value.int .u64 x.seq,.int .u64 x.at',.string x.text,.int .u64 x.sum] 53))) wr.heap.size 2 (.string x.text) hzx (by go_simp);have e3:=Cw.cell (w:=(wr.alloc (.cells #[Value.int .u64 x.seq,.int .u64 x.at',.string x.text,.int .u64 x.sum] 53))) wr.heap.size 3 (.int .u64 x.sum) hzx (by go_simp);have f0:=Cw.cell (w:=(wr.alloc (.cells #[Value.int .u64 x.seq,.int .u64 x.at',.string x.text,.int .u64 x.sum] 53))) w.heap.size 0 (.int .u64 (un a)) (by omega) ((hBx.cell (p:=⟨w.heap.size,0,none⟩) (by show w.heap.size<_;omega)).trans K0);have f1:=Cw.cell (w:=(wr.alloc (.cells #[Value.int .u64 x.seq,.int .u64 x.at',.string x.text,.int .u64 x.sum] 53))) w.heap.size 1 (.int .u64 (un b)) (by omega) ((hBx.cell (p:=⟨w.heap.size,1,none⟩) (by show w.heap.size<_;omega)).trans K1);have l0:=Cw.cell (w:=(wr.alloc (.cells #[Value.int .u64 x.seq,.int .u64 x.at',.string x.text,.int .u64 x.sum] 53))) (w.heap.size+1) 0 (.int .u64 bf) (by omega) ((hBx.cell (p:=⟨w.heap.size+1,0,none⟩) HZ).trans G0);have l1:=Cw.cell (w:=(wr.alloc (.cells #[Value.int .u64 x.seq,.int .u64 x.at',.string x.text,.int .u64 x.sum] 53))) (w.heap.size+1) 1 (.slice (some ⟨g'',o'',none⟩) L.length cap) (by omega) ((hBx.cell (p:=⟨w.heap.size+1,1,none⟩) HZ).trans G1);have p0:=Cw.cell (w:=(wr.alloc (.cells #[Value.int .u64 x.seq,.int .u64 x.at',.string x.text,.int .u64 x.sum] 53))) g'' (o''+j*4) (.int .u64 p.seq) (by omega) ((hBx.cell (p:=⟨g'',o''+j*4,none⟩) hgz).trans b0)
      have p1:=Cw.cell (w:=(wr.alloc (.cells #[Value.int .u64 x.seq,.int .u64 x.at',.string x.text,.int .u64 x.sum] 53))) g'' (o''+j*4+1) (.int .u64 p.at') (by omega) ((hBx.cell (p:=⟨g'',o''+j*4+1,none⟩) hgz).trans b1);have p2:=Cw.cell (w:=(wr.alloc (.cells #[Value.int .u64 x.seq,.int .u64 x.at',.string x.text,.int .u64 x.sum] 53))) g'' (o''+j*4+2) (.string p.text) (by omega) ((hBx.cell (p:=⟨g'',o''+j*4+2,none⟩) hgz).trans b2);have p3:=Cw.cell (w:=(wr.alloc (.cells #[Value.int .u64 x.seq,.int .u64 x.at',.string x.text,.int .u64 x.sum] 53))) g'' (o''+j*4+3) (.int .u64 p.sum) (by omega) ((hBx.cell (p:=⟨g'',o''+j*4+3,none⟩) hgz).trans b3);clear d0 d1 d2 d3 K0 K1 G0 G1;generalize(wr.alloc (.cells #[Value.int .u64 x.seq,.int .u64 x.at',.string x.text,.int .u64 x.sum] 53))=w5 at*;refine lO (by kernel_rfl) (by kernel_rfl) ?_
      repeat(first|go_big_quiet_step ((go_at_call 144;exact Cw.call (kP p x hokp hok q hq2 _)))|quiet_step ((go_at_call 144;exact Cw.call (kP p x hokp hok q hq2 _))))
      refine wpQuiet_nil ?_;intro y;have hy:Below wr.heap.size wr y.W:=hBx.trans (y.below.mono (by omega));have m0:=f0 y;have m1:=f1 y;have m2:=l0 y;have m3:=l1 y;have hyz:=hy.size;clear p0 p1 p2 p3 b0 b1 b2 b3 e0 e1 e2 e3 f0 f1 l0 l1;generalize y.W=W at*;cases q
      .have hR:=aA (cP HR.out (λh=>absurd (hq2.2 (h.s j p x HP.out HX.out)) (by simp)));go_wp2_with fail;go_ret;exact⟨by rw[hR.out];rfl,HB.trans (hy.mono HB.size)⟩
      .have HQ:=aA (hq2.1 rfl);clear hq2;go_wp2_with fail;go_roundw
       case rel=>
        refine⟨j+1+1,hlt,by go_num,aA ⟨λi z hi hz'=> ?_,λi p' z hi hp' hz'=> ?_⟩,HB.trans (hy.mono HB.size),by omega,m0,m1,m2,m3⟩
        .by_cases hij:i=j+1
         .subst hij;have:=hz'.symm.trans HX.out;simp at this;subst this;omega
         .exact HI.out.1 i z (by omega) hz'
        .by_cases hij:i=j
         .subst hij;have e1:=hz'.symm.trans HX.out;have e2:=hp'.symm.trans HP.out;simp at e1 e2;subst e1 e2;exact HQ.out
         .exact HI.out.2 i p' z (by omega) hp' hz'
       case measure=>simp[intOf];omega
   .obtain rfl:k=L.length:=by omega
    have HCH:Hid (r=(eF a b bf L).2):=by
     show _=_
     by_cases hc:(eF a b bf L).2=true
     .rw[hc];exact pF HR.out ⟨by omega,λh=>absurd (congrArg List.length h) (by simpa using hz),λy hy=>by
       have:=hy.symm.trans HX0.out;simp at this;subst this;exact HF.out,λi y hy=>HI.out.1 i y (gJ.1 hy).1 hy,λi p y hp hy=>HI.out.2 i p y (gJ.1 hy).1 hp hy,hc⟩
     .rw[cP HR.out (λh=>hc h.c)]
      simpa using hc
    go_wp2_with fail;refine(uN a b bf h0 h1 L hL hl _ cap _ (hE.below HB)).mono ?_;rintro e w5 ⟨rfl,hb5⟩;go_wp2_with fail;go_ret;exact⟨by rw[HCH.out];rfl,HB.trans (hb5.mono HB.size)⟩
 .have hq1b:(x0.seq==1)=false:=by simp[hs1]
  go_enter func100,ntmps100;go_wp2_with fail;have HB0:Below w.heap.size w ((w.alloc (.cells #[Value.int IntKind.u64 (un a),Value.int IntKind.u64 (un b)] 24)).alloc (.cells #[Value.int IntKind.u64 bf,.slice (some ⟨g,o,none⟩) L.length cap] 79)):=(aW.alloc aH _).alloc (by simp) _;have HZ0:w.heap.size+1<((w.alloc (.cells #[Value.int IntKind.u64 (un a),Value.int IntKind.u64 (un b)] 24)).alloc (.cells #[Value.int IntKind.u64 bf,.slice (some ⟨g,o,none⟩) L.length cap] 79)).heap.size:=by simp
  have K00:((w.alloc (.cells #[Value.int IntKind.u64 (un a),Value.int IntKind.u64 (un b)] 24)).alloc (.cells #[Value.int IntKind.u64 bf,.slice (some ⟨g,o,none⟩) L.length cap] 79)).cell? ⟨w.heap.size,0,none⟩=some (.int .u64 (un a)):=by go_simp
  have K10:((w.alloc (.cells #[Value.int IntKind.u64 (un a),Value.int IntKind.u64 (un b)] 24)).alloc (.cells #[Value.int IntKind.u64 bf,.slice (some ⟨g,o,none⟩) L.length cap] 79)).cell? ⟨w.heap.size,1,none⟩=some (.int .u64 (un b)):=by go_simp
  have G00:((w.alloc (.cells #[Value.int IntKind.u64 (un a),Value.int IntKind.u64 (un b)] 24)).alloc (.cells #[Value.int IntKind.u64 bf,.slice (some ⟨g,o,none⟩) L.length cap] 79)).cell? ⟨w.heap.size+1,0,none⟩=some (.int .u64 bf):=by go_simp
  have G10:((w.alloc (.cells #[Value.int IntKind.u64 (un a),Value.int IntKind.u64 (un b)] 24)).alloc (.cells #[Value.int IntKind.u64 bf,.slice (some ⟨g,o,none⟩) L.length cap] 79)).cell? ⟨w.heap.size+1,1,none⟩=some (.slice (some ⟨g,o,none⟩) L.length cap):=by go_simp
  generalize((w.alloc (.cells #[Value.int IntKind.u64 (un a),Value.int IntKind.u64 (un b)] 24)).alloc (.cells #[Value.int IntKind.u64 bf,.slice (some ⟨g,o,none⟩) L.length cap] 79))=w4 at*
  go_loopw [42] (λi wr=>∃(k:Nat),k<=L.length/\i=.int .i64 k/\Hid ((∀(i:Nat) (x:bT),i<k->L[i]? =some x->x.text.size<=200)/\(∀(i:Nat) (p x:bT),i+1<k->L[i]? =some p->L[i+1]? =some x->aCu p x))/\Below w.heap.size w wr/\w.heap.size+1<wr.heap.size/\wr.cell? ⟨w.heap.size,0,none⟩=some (.int .u64 (un a))/\wr.cell? ⟨w.heap.size,1,none⟩=some (.int .u64 (un b))/\wr.cell? ⟨w.heap.size+1,0,none⟩=some (.int .u64 bf)/\wr.cell? ⟨w.heap.size+1,1,none⟩=some (.slice (some ⟨g,o,none⟩) L.length cap)) (λi _=>L.length-(intOf i).toNat)
  case atStart=>exact⟨0,cJ _,rfl,aA ⟨λi x h=>absurd h (by omega),λi p x h=>absurd h (by omega)⟩,HB0,HZ0,K00,K10,G00,G10⟩
  case round=>
   obtain⟨k,hk,rfl,HI,HB,HZ,K0,K1,G0,G1⟩:=hrel;clear HB0 HZ0 K00 K10 G00 G10 c0 c1 c2 c3
   by_cases hlt:k<L.length
   .have hx:=cZ hlt;have hok:(L[k]'hlt).Ok:=hL _ (List.getElem_mem _);obtain⟨g',o',he,hg',c0,c1,c2,c3⟩:=hE k _ hx;obtain⟨rfl,rfl⟩:g'=g/\o'=o:=by simp at he;exact⟨he.1.symm,he.2.symm⟩
    generalize(L[k]'hlt)=x at*;have hgz:g'<wr.heap.size:=by have:=HB.size;omega
    have d0:=(HB.cell (p:=⟨g',_,none⟩) hg').trans c0;have d1:=(HB.cell (p:=⟨g',_,none⟩) hg').trans c1;have d2:=(HB.cell (p:=⟨g',_,none⟩) hg').trans c2;have d3:=(HB.cell (p:=⟨g',_,none⟩) hg').trans c3;have HX:=aA hx;have hts:=hok.t;clear c0 c1 c2 c3 hx he
    by_cases ht:200<x.text.size
    .have hR:=aA (cP HR.out (λh=>absurd (h.t k x HX.out) (by omega)));go_wp2_with fail;go_ret;exact⟨by rw[hR.out];rfl,HB.alloc HB.size _⟩
    .by_cases hk0:k=0
     .subst hk0;rw[Nat.zero_mul,Nat.add_zero] at d0 d1 d2 d3;go_wp2_with fail;have hBx:Below wr.heap.size wr (wr.alloc (.cells #[Value.int .u64 x.seq,.int .u64 x.at',.string x.text,.int .u64 x.sum] 53)):=aW.alloc aH _;have hzx:wr.heap.size<(wr.alloc (.cells #[Value.int .u64 x.seq,.int .u64 x.at',.string x.text,.int .u64 x.sum] 53)).heap.size:=by simp
      have e0:=Cw.cell (w:=(wr.alloc (.cells #[Value.int .u64 x.seq,.int .u64 x.at',.string x.text,.int .u64 x.sum] 53))) wr.heap.size 0 (.int .u64 x.seq) hzx (by go_simp);have e1:=Cw.cell (w:=(wr.alloc (.cells #[Value.int .u64 x.seq,.int .u64 x.at',.string x.text,.int .u64 x.sum] 53))) wr.heap.size 1 (.int .u64 x.at') hzx (by go_simp);have e2:=Cw.cell (w:=(wr.alloc (.cells #[Value.int .u64 x.seq,.int .u64 x.at',.string x.text,.int .u64 x.sum] 53))) wr.heap.size 2 (.string x.text) hzx (by go_simp);have e3:=Cw.cell (w:=(wr.alloc (.cells #[Value.int .u64 x.seq,.int .u64 x.at',.string x.text,.int .u64 x.sum] 53))) wr.heap.size 3 (.int .u64 x.sum) hzx (by go_simp);have f0:=Cw.cell (w:=(wr.alloc (.cells #[Value.int .u64 x.seq,.int .u64 x.at',.string x.text,.int .u64 x.sum] 53))) w.heap.size 0 (.int .u64 (un a)) (by omega) ((hBx.cell (p:=⟨w.heap.size,0,none⟩) (by show w.heap.size<_;omega)).trans K0);have f1:=Cw.cell (w:=(wr.alloc (.cells #[Value.int .u64 x.seq,.int .u64 x.at',.string x.text,.int .u64 x.sum] 53))) w.heap.size 1 (.int .u64 (un b)) (by omega) ((hBx.cell (p:=⟨w.heap.size,1,none⟩) (by show w.heap.size<_;omega)).trans K1);have l0:=Cw.cell (w:=(wr.alloc (.cells #[Value.int .u64 x.seq,.int .u64 x.at',.string x.text,.int .u64 x.sum] 53))) (w.heap.size+1) 0 (.int .u64 bf) (by omega) ((hBx.cell (p:=⟨w.heap.size+1,0,none⟩) HZ).trans G0);have l1:=Cw.cell (w:=(wr.alloc (.cells #[Value.int .u64 x.seq,.int .u64 x.at',.string x.text,.int .u64 x.sum] 53))) (w.heap.size+1) 1 (.slice (some ⟨g',o',none⟩) L.length cap) (by omega) ((hBx.cell (p:=⟨w.heap.size+1,1,none⟩) HZ).trans G1);clear d0 d1 d2 d3 K0 K1 G0 G1;generalize(wr.alloc (.cells #[Value.int .u64 x.seq,.int .u64 x.at',.string x.text,.int .u64 x.sum] 53))=w5 at*;refine lO (by kernel_rfl) (by kernel_rfl) ?_
      repeat(first|go_big_quiet_step (fail)|quiet_step (fail))
      refine wpQuiet_nil ?_;intro y;have hy:Below wr.heap.size wr y.W:=hBx.trans (y.below.mono (by omega));have m0:=f0 y;have m1:=f1 y;have m2:=l0 y;have m3:=l1 y;have hyz:=hy.size;clear e0 e1 e2 e3 f0 f1 l0 l1;generalize y.W=W at*;go_wp2_with fail;go_roundw
      case rel=>
       refine⟨1,by omega,by go_num,aA ⟨λi z hi hz'=> ?_,λi p z hi=>absurd hi (by omega)⟩,HB.trans (hy.mono HB.size),by omega,m0,m1,m2,m3⟩;obtain rfl:i=0:=by omega
       have:=hz'.symm.trans HX.out;simp at this;subst this;omega
      case measure=>simp[intOf];omega
     .obtain⟨j,rfl⟩:∃j,k=j+1:=⟨k-1,by omega⟩;have hp:=cZ (show j<L.length by omega);have hokp:(L[j]'(by omega)).Ok:=hL _ (List.getElem_mem _);obtain⟨g'',o'',he,hg'',c0,c1,c2,c3⟩:=hE j _ hp;obtain⟨rfl,rfl⟩:g''=g'/\o''=o':=by simp at he;exact⟨he.1.symm,he.2.symm⟩
      generalize(L[j]'(by omega))=p at*;have b0:=(HB.cell (p:=⟨g'',_,none⟩) hg'').trans c0;have b1:=(HB.cell (p:=⟨g'',_,none⟩) hg'').trans c1;have b2:=(HB.cell (p:=⟨g'',_,none⟩) hg'').trans c2;have b3:=(HB.cell (p:=⟨g'',_,none⟩) hg'').trans c3;have HP:=aA hp;clear c0 c1 c2 c3 hp he;obtain⟨q,hq2⟩:∃q:Bool,q=true↔aCu p x:=by
       classical
       exact⟨decide (aCu p x),decide_eq_true_iff⟩
      go_wp2_with fail;have hBx:Below wr.heap.size wr (wr.alloc (.cells #[Value.int .u64 x.seq,.int .u64 x.at',.string x.text,.int .u64 x.sum] 53)):=aW.alloc aH _;have hzx:wr.heap.size<(wr.alloc (.cells #[Value.int .u64 x.seq,.int .u64 x.at',.string x.text,.int .u64 x.sum] 53)).heap.size:=by simp
      have e0:=Cw.cell (w:=(wr.alloc (.cells #[Value.int .u64 x.seq,.int .u64 x.at',.string x.text,.int .u64 x.sum] 53))) wr.heap.size 0 (.int .u64 x.seq) hzx (by go_simp);have e1:=Cw.cell (w:=(wr.alloc (.cells #[Value.int .u64 x.seq,.int .u64 x.at',.string x.text,.int .u64 x.sum] 53))) wr.heap.size 1 (.int .u64 x.at') hzx (by go_simp);have e2:=Cw.cell (w:=(wr.alloc (.cells #[Value.int .u64 x.seq,.int .u64 x.at',.string x.text,.int .u64 x.sum] 53))) wr.heap.size 2 (.string x.text) hzx (by go_simp);have e3:=Cw.cell (w:=(wr.alloc (.cells #[Value.int .u64 x.seq,.int .u64 x.at',.string x.text,.int .u64 x.sum] 53))) wr.heap.size 3 (.int .u64 x.sum) hzx (by go_simp);have f0:=Cw.cell (w:=(wr.alloc (.cells #[Value.int .u64 x.seq,.int .u64 x.at',.string x.text,.int .u64 x.sum] 53))) w.heap.size 0 (.int .u64 (un a)) (by omega) ((hBx.cell (p:=⟨w.heap.size,0,none⟩) (by show w.heap.size<_;omega)).trans K0);have f1:=Cw.cell (w:=(wr.alloc (.cells #[Value.int .u64 x.seq,.int .u64 x.at',.string x.text,.int .u64 x.sum] 53))) w.heap.size 1 (.int .u64 (un b)) (by omega) ((hBx.cell (p:=⟨w.heap.size,1,none⟩) (by show w.heap.size<_;omega)).trans K1);have l0:=Cw.cell (w:=(wr.alloc (.cells #[Value.int .u64 x.seq,.int .u64 x.at',.string x.text,.int .u64 x.sum] 53))) (w.heap.size+1) 0 (.int .u64 bf) (by omega) ((hBx.cell (p:=⟨w.heap.size+1,0,none⟩) HZ).trans G0);have l1:=Cw.cell (w:=(wr.alloc (.cells #[Value.int .u64 x.seq,.int .u64 x.at',.string x.text,.int .u64 x.sum] 53))) (w.heap.size+1) 1 (.slice (some ⟨g'',o'',none⟩) L.length cap) (by omega) ((hBx.cell (p:=⟨w.heap.size+1,1,none⟩) HZ).trans G1);have p0:=Cw.cell (w:=(wr.alloc (.cells #[Value.int .u64 x.seq,.int .u64 x.at',.string x.text,.int .u64 x.sum] 53))) g'' (o''+j*4) (.int .u64 p.seq) (by omega) ((hBx.cell (p:=⟨g'',o''+j*4,none⟩) hgz).trans b0)
      have p1:=Cw.cell (w:=(wr.alloc (.cells #[Value.int .u64 x.seq,.int .u64 x.at',.string x.text,.int .u64 x.sum] 53))) g'' (o''+j*4+1) (.int .u64 p.at') (by omega) ((hBx.cell (p:=⟨g'',o''+j*4+1,none⟩) hgz).trans b1);have p2:=Cw.cell (w:=(wr.alloc (.cells #[Value.int .u64 x.seq,.int .u64 x.at',.string x.text,.int .u64 x.sum] 53))) g'' (o''+j*4+2) (.string p.text) (by omega) ((hBx.cell (p:=⟨g'',o''+j*4+2,none⟩) hgz).trans b2);have p3:=Cw.cell (w:=(wr.alloc (.cells #[Value.int .u64 x.seq,.int .u64 x.at',.string x.text,.int .u64 x.sum] 53))) g'' (o''+j*4+3) (.int .u64 p.sum) (by omega) ((hBx.cell (p:=⟨g'',o''+j*4+3,none⟩) hgz).trans b3);clear d0 d1 d2 d3 K0 K1 G0 G1;generalize(wr.alloc (.cells #[Value.int .u64 x.seq,.int .u64 x.at',.string x.text,.int .u64 x.sum] 53))=w5 at*;refine lO (by kernel_rfl) (by kernel_rfl) ?_
      repeat(first|go_big_quiet_step ((go_at_call 144;exact Cw.call (kP p x hokp hok q hq2 _)))|quiet_step ((go_at_call 144;exact Cw.call (kP p x hokp hok q hq2 _))))
      refine wpQuiet_nil ?_;intro y;have hy:Below wr.heap.size wr y.W:=hBx.trans (y.below.mono (by omega));have m0:=f0 y;have m1:=f1 y;have m2:=l0 y;have m3:=l1 y;have hyz:=hy.size;clear p0 p1 p2 p3 b0 b1 b2 b3 e0 e1 e2 e3 f0 f1 l0 l1;generalize y.W=W at*;cases q
      .have hR:=aA (cP HR.out (λh=>absurd (hq2.2 (h.s j p x HP.out HX.out)) (by simp)));go_wp2_with fail;go_ret;exact⟨by rw[hR.out];rfl,HB.trans (hy.mono HB.size)⟩
      .have HQ:=aA (hq2.1 rfl);clear hq2;go_wp2_with fail;go_roundw
       case rel=>
        refine⟨j+1+1,hlt,by go_num,aA ⟨λi z hi hz'=> ?_,λi p' z hi hp' hz'=> ?_⟩,HB.trans (hy.mono HB.size),by omega,m0,m1,m2,m3⟩
        .by_cases hij:i=j+1
         .subst hij;have:=hz'.symm.trans HX.out;simp at this;subst this;omega
         .exact HI.out.1 i z (by omega) hz'
        .by_cases hij:i=j
         .subst hij;have e1:=hz'.symm.trans HX.out;have e2:=hp'.symm.trans HP.out;simp at e1 e2;subst e1 e2;exact HQ.out
         .exact HI.out.2 i p' z (by omega) hp' hz'
       case measure=>simp[intOf];omega
   .obtain rfl:k=L.length:=by omega
    have HCH:Hid (r=(eF a b bf L).2):=by
     show _=_
     by_cases hc:(eF a b bf L).2=true
     .rw[hc];exact pF HR.out ⟨by omega,λh=>absurd (congrArg List.length h) (by simpa using hz),λy hy=>by
       have:=hy.symm.trans HX0.out;simp at this;subst this;exact HF.out,λi y hy=>HI.out.1 i y (gJ.1 hy).1 hy,λi p y hp hy=>HI.out.2 i p y (gJ.1 hy).1 hp hy,hc⟩
     .rw[cP HR.out (λh=>hc h.c)]
      simpa using hc
    go_wp2_with fail;refine(uN a b bf h0 h1 L hL hl _ cap _ (hE.below HB)).mono ?_;rintro e w5 ⟨rfl,hb5⟩;go_wp2_with fail;go_ret;exact⟨by rw[HCH.out];rfl,HB.trans (hb5.mono HB.size)⟩

structure jE (a b:BitVec 64)(bf:Int)(L:List bT)(at':Int)(tx:ByteArray):Prop where
 r:tH a b bf L
 t:tx.size<=200
 m:bC L≠18446744073709551615
 l:∀x:bT,L[L.length-1]? =some x->x.at'<=at'
def cK (a b:BitVec 64)(bf:Int)(L:List bT)(at':Int)(tx:ByteArray):bT:=⟨bC L+1,at',tx,eG a b (dN bf L) ⟨bC L+1,at',tx,0⟩⟩
def nG (bf:Int)(L:List bT):Int:=if L.length=30 then(match L[0]? with|some x=>x.sum|none=>bf) else bf
def jM (L:List bT):List bT:=if L.length=30 then L.drop 1 else L
def iP (a b:BitVec 64)(bf:Int)(L:List bT)(at':Int)(tx:ByteArray):List bT:=jM L++[cK a b bf L at' tx]
abbrev aD6 :Value:=.tuple #[.agg #[.int .u64 0,.slice none 0 0],.int .i64 160]
structure aEi (a b:BitVec 64)(bf:Int)(s:Option Addr)(n cap:Nat)(w w3:World):Prop where
 bel:Below w.heap.size w w3
 z:w.heap.size+1+1<w3.heap.size
 k0:w3.cell? ⟨w.heap.size,0,none⟩=some (.int .u64 (un a))
 k1:w3.cell? ⟨w.heap.size,1,none⟩=some (.int .u64 (un b))
 g0:w3.cell? ⟨w.heap.size+1,0,none⟩=some (.int .u64 bf)
 g1:w3.cell? ⟨w.heap.size+1,1,none⟩=some (.slice s n cap)
 r0:w3.cell? ⟨w.heap.size+1+1,0,none⟩=some (.int .u64 0)
 r1:w3.cell? ⟨w.heap.size+1+1,1,none⟩=some (.slice none 0 0)
 f0:w3.frozen? ⟨w.heap.size+1+1,0,none⟩=false
 f1:w3.frozen? ⟨w.heap.size+1+1,1,none⟩=false
theorem aVs (a b:BitVec 64)(bf:Int)(s:Option Addr)(L:List bT)(cap:Nat)(w:World):aEi a b bf s L.length cap w (((w.alloc (.cells #[Value.int IntKind.u64 (un a),Value.int IntKind.u64 (un b)] 24)).alloc (.cells #[Value.int IntKind.u64 bf,.slice s L.length cap] 79)).alloc (.cells #[Value.int IntKind.u64 0,.slice none 0 0] 79)) where
 bel:=(((aW.alloc aH _).alloc (by simp) _).alloc (by simp;omega) _)
 z:=by simp
 k0:=by go_simp
 k1:=by go_simp
 g0:=by go_simp
 g1:=by go_simp
 r0:=by go_simp
 r1:=by go_simp
 f0:=by go_simp
 f1:=by go_simp
theorem aEi.aX7 {a b:BitVec 64}{bf:Int}{s:Option Addr}{n cap B:Nat}{w w3 w4:World}(h:aEi a b bf s n cap w w3)(hb:Below B w3 w4)(hz:w.heap.size+1+1<B):aEi a b bf s n cap w w4:=
 ⟨h.bel.trans (hb.mono (by omega)),kG h.z hb.size,
  (hb.cell (p:=⟨w.heap.size,0,none⟩) (by show w.heap.size<_;omega)).trans h.k0,(hb.cell (p:=⟨w.heap.size,1,none⟩) (by show w.heap.size<_;omega)).trans h.k1,
  (hb.cell (p:=⟨w.heap.size+1,0,none⟩) (by show w.heap.size+1<_;omega)).trans h.g0,(hb.cell (p:=⟨w.heap.size+1,1,none⟩) (by show w.heap.size+1<_;omega)).trans h.g1,
  (hb.cell (p:=⟨w.heap.size+1+1,0,none⟩) hz).trans h.r0,(hb.cell (p:=⟨w.heap.size+1+1,1,none⟩) hz).trans h.r1,
  (hb.frozen (p:=⟨w.heap.size+1+1,0,none⟩) hz).trans h.f0,(hb.frozen (p:=⟨w.heap.size+1+1,1,none⟩) hz).trans h.f1⟩
theorem aEi.below {a b:BitVec 64}{bf:Int}{s:Option Addr}{n cap:Nat}{w w3 w4:World}(h:aEi a b bf s n cap w w3)(hb:Below w3.heap.size w3 w4):aEi a b bf s n cap w w4:=h.aX7 hb h.z
set_option maxRecDepth 100000 in
theorem aLv (a b:BitVec 64)(bf:Int)(h0:0<=bf)(h1:bf<18446744073709551616)(L:List bT)(hL:∀x∈L,x.Ok)(hl:L.length<=1000)(s:Option Addr)(cap:Nat)(at':Int)(tx:ByteArray)(ht:tx.size<=1000)(w:World)(hE:lE w s L)
  (hno:¬jE a b bf L at' tx):
  Calls prog 67 #[kv a b,lv bf s L.length cap,.int .u64 at',.string tx] w λe w'=>e=.returned aD6/\Below w.heap.size w w':=by
 have HNO:=aA hno;clear hno;obtain⟨r,hr⟩:∃r:Bool,r=true↔tH a b bf L:=by
  classical
  exact⟨decide (tH a b bf L),decide_eq_true_iff⟩
 have HW:=aVs a b bf s L cap w;obtain⟨m0,m1⟩:=gL L hL;go_enter func67,ntmps67;go_wp2_with fail;generalize(((w.alloc (.cells #[Value.int IntKind.u64 (un a),Value.int IntKind.u64 (un b)] 24)).alloc (.cells #[Value.int IntKind.u64 bf,.slice s L.length cap] 79)).alloc (.cells #[Value.int IntKind.u64 0,.slice none 0 0] 79))=w3 at*;refine(aAi a b bf h0 h1 L hL hl s cap r hr _ (hE.below HW.bel)).mono ?_;rintro e w4 ⟨rfl,hb4⟩;have HW4:=HW.below hb4;clear HW;obtain⟨hB,hz,k0,k1,g0,g1,r0,r1,f0,f1⟩:=HW4;cases r
 .clear hr;go_wp2_with fail;refine bodyPost_ret (v:=aD6) (by simp[results,results67,go_sem,r0,r1]) rfl ⟨rfl,?_⟩;exact((hB).setCell (p:=⟨w.heap.size+1+1,0,none⟩) (by show w.heap.size<=w.heap.size+1+1;omega) _).setCell (p:=⟨w.heap.size+1+1,1,none⟩) (by show w.heap.size<=w.heap.size+1+1;omega) _
 .have HR:=aA (hr.1 rfl);clear hr
  by_cases ht2:200<tx.size
  .go_wp2_with fail;refine bodyPost_ret (v:=aD6) (by simp[results,results67,go_sem,r0,r1]) rfl ⟨rfl,?_⟩;exact((hB).setCell (p:=⟨w.heap.size+1+1,0,none⟩) (by show w.heap.size<=w.heap.size+1+1;omega) _).setCell (p:=⟨w.heap.size+1+1,1,none⟩) (by show w.heap.size<=w.heap.size+1+1;omega) _
  .go_wp2_with fail;refine(aD3 bf L hl s cap _ (hE.below hB)).mono ?_;rintro e w5 ⟨rfl,hb5⟩;have HW5:=aEi.below ⟨hB,hz,k0,k1,g0,g1,r0,r1,f0,f1⟩ hb5;clear hB hz k0 k1 g0 g1 r0 r1 f0 f1;obtain⟨hB,hz,k0,k1,g0,g1,r0,r1,f0,f1⟩:=HW5
   by_cases hm:bC L=18446744073709551615
   .have hmb:(bC L==18446744073709551615)=true:=by simp[hm]
    clear hm;go_wp2_with fail;refine bodyPost_ret (v:=aD6) (by simp[results,results67,go_sem,r0,r1]) rfl ⟨rfl,?_⟩;exact((hB).setCell (p:=⟨w.heap.size+1+1,0,none⟩) (by show w.heap.size<=w.heap.size+1+1;omega) _).setCell (p:=⟨w.heap.size+1+1,1,none⟩) (by show w.heap.size<=w.heap.size+1+1;omega) _
   .have hmb:(bC L==18446744073709551615)=false:=by simp[hm]
    have HM:=aA hm;clear hm
    by_cases h0':L.length=0
    .exact absurd ⟨HR.out,by omega,HM.out,λx hx=>by rw[List.eq_nil_of_length_eq_zero h0'] at hx;simp at hx⟩ HNO.out
    .have hx:=cZ (show L.length-1<L.length by omega);have hok:(L[L.length-1]'(by omega)).Ok:=hL _ (List.getElem_mem _);obtain⟨g,o,rfl,hg,c0,c1,c2,c3⟩:=hE _ _ hx;generalize(L[L.length-1]'(by omega))=x at*;have HX:=aA hx
     by_cases hat:at'<x.at'
     .obtain⟨n,hn⟩:∃n,L.length=n+1:=⟨L.length-1,by omega⟩;have d1:=(hB.cell (p:=⟨g,_,none⟩) hg).trans c1;rw[hn] at hl d1 g1⊢;simp only[Nat.add_sub_cancel] at d1;clear c0 c1 c2 c3 hx h0';go_wp2_with fail;refine bodyPost_ret (v:=aD6) (by simp[results,results67,go_sem,r0,r1]) rfl ⟨rfl,?_⟩;exact((hB).setCell (p:=⟨w.heap.size+1+1,0,none⟩) (by show w.heap.size<=w.heap.size+1+1;omega) _).setCell (p:=⟨w.heap.size+1+1,1,none⟩) (by show w.heap.size<=w.heap.size+1+1;omega) _
     .exact absurd ⟨HR.out,by omega,HM.out,λy hy=>by
       have:=hy.symm.trans HX.out;simp at this;subst this;omega⟩ HNO.out
theorem aK1 (bf:Int):dN bf []=bf:=rfl
theorem xI (bf:Int)(x:bT)(L:List bT):dN bf (x::L)=dN x.sum L:=by
 unfold dN;cases L with
 |nil=>rfl
 |cons y L=>simp
theorem aGs (L:List bT)(x:bT):bC (L++[x])=x.seq:=by
 unfold bC;simp
theorem aAw (a b:BitVec 64)(bf:Int):eF a b bf []=(0,true):=rfl
theorem mL (a b:BitVec 64)(bf:Int)(x:bT)(L:List bT):eF a b bf (x::L)=if x.sum=eG a b bf x then((eF a b x.sum L).1+1,(eF a b x.sum L).2) else(0,false):=rfl
theorem rK (a b:BitVec 64)(bf:Int)(L M:List bT):eF a b bf (L++M)=if(eF a b bf L).2=true then((eF a b bf L).1+(eF a b (dN bf L) M).1,(eF a b (dN bf L) M).2) else eF a b bf L:=by
 induction L generalizing bf with
 |nil=>simp[aAw,aK1]
 |cons x L ih=>
  rw[List.cons_append,mL,mL,xI]
  by_cases h:x.sum=eG a b bf x
  .rw[if_pos h,if_pos h,ih]
   by_cases h2:(eF a b x.sum L).2=true
   .rw[if_pos h2,if_pos h2];simp only[Prod.mk.injEq,and_true];omega
   .rw[if_neg h2,if_neg h2]
  .rw[if_neg h,if_neg h];simp
theorem zY (a b:BitVec 64)(bf:Int)(x:bT):(eF a b bf [x]).2=decide (x.sum=eG a b bf x):=by
 rw[mL,aAw];split<;>simp[*]
theorem aL9 (a b:BitVec 64)(bf:Int)(L:List bT)(hL:∀x∈L,x.Ok)(at':Int)(q0:0<=at')(q1:at'<18446744073709551616)(tx:ByteArray)(ht:tx.size<=200)(hm:bC L≠18446744073709551615):(cK a b bf L at' tx).Ok:=by
 obtain⟨m0,m1⟩:=gL L hL;have hs:=zC a b (dN bf L) ⟨bC L+1,at',tx,0⟩;exact⟨by show 0<=bC L+1;omega,by show bC L+1<_;omega,q0,q1,by show tx.size<=1000;omega,hs.1,hs.2⟩
theorem aQw (a b:BitVec 64)(bf:Int)(L:List bT)(hL:∀x∈L,x.Ok)(at':Int)(q0:0<=at')(q1:at'<18446744073709551616)(tx:ByteArray)(h:jE a b bf L at' tx):∀x∈iP a b bf L at' tx,x.Ok:=by
 intro x hx;unfold iP at hx;rcases List.mem_append.1 hx with hx|hx
 .unfold jM at hx;split at hx
  .exact hL x (List.mem_of_mem_drop hx)
  .exact hL x hx
 .simp at hx;subst hx;exact aL9 a b bf L hL at' q0 q1 tx h.t h.m
theorem aLf {L:List bT}{x:bT}(h:L[L.length-1]? =some x):bC L=x.seq:=by unfold bC;rw[h]
theorem aM0 (a b:BitVec 64)(bf:Int)(L:List bT)(hL:∀x∈L,x.Ok)(at':Int)(tx:ByteArray)(h:jE a b bf L at' tx):tH a b (nG bf L) (iP a b bf L at' tx):=by
 obtain⟨hr,ht,hm,hl⟩:=h;have hn:=hr.n;have hK:jM L=L.drop (if L.length=30 then 1 else 0):=by
  unfold jM;split<;>simp
 have hKl:(jM L).length<=29:=by rw[hK,List.length_drop];split<;>omega
 have hget:∀i,(jM L)[i]? =L[(if L.length=30 then 1 else 0)+i]? :=by intro i;rw[hK,List.getElem?_drop]
 have hKlen:(jM L).length=L.length-(if L.length=30 then 1 else 0):=by rw[hK,List.length_drop]
 refine⟨?_,?_,?_,?_,?_,?_⟩
 .unfold iP;simp;omega
 .intro e;unfold iP at e;simp at e
 .intro x hx;unfold iP at hx
  by_cases hz:(jM L).length=0
  .have hz':L=[]:=by
    cases L with
    |nil=>rfl
    |cons y M=>
     rw[hKlen] at hz;split at hz
     .rename_i h30;rw[h30] at hz;omega
     .simp at hz
   subst hz';rw[List.eq_nil_of_length_eq_zero hz] at hx;simp at hx;subst hx;exact⟨by show 1<=bC []+1;simp[bC],λ_=>hr.e rfl⟩
  .rw[List.getElem?_append_left (by omega),hget] at hx
   by_cases h30:L.length=30
   .rw[if_pos h30] at hx;have h0:=cZ (show 0<L.length by omega);have hf:=(hr.f _ h0).1;have hs:=hr.s 0 _ _ h0 hx;obtain⟨_,e2,_⟩:=hs;exact⟨by omega,λe=>by omega⟩
   .rw[if_neg h30] at hx;have:=hr.f x hx;unfold nG;rw[if_neg h30];exact this
 .intro i x hx;unfold iP at hx
  by_cases hi:i<(jM L).length
  .rw[List.getElem?_append_left hi,hget] at hx;exact hr.t _ x hx
  .rw[List.getElem?_append_right (by omega)] at hx;have:x=cK a b bf L at' tx:=by
    have h1:=(gJ.1 hx).1;simp at h1;have:i-(jM L).length=0:=by omega
    rw[this] at hx
    simpa using hx.symm
   subst this;exact ht
 .intro i p x hp hx;unfold iP at hp hx;have hi1:i+1<(jM L++[cK a b bf L at' tx]).length:=(gJ.1 hx).1;simp at hi1;rw[List.getElem?_append_left (by omega),hget] at hp
  by_cases hi:i+1<(jM L).length
  .rw[List.getElem?_append_left hi,hget] at hx;exact hr.s _ p x hp hx
  .rw[List.getElem?_append_right (by omega),show i+1-(jM L).length=0 by omega] at hx;simp at hx;subst hx;have hlast:(if L.length=30 then 1 else 0)+i=L.length-1:=by
    rw[hKlen] at hi hi1;split at hi<;>simp_all<;>omega
   rw[hlast] at hp;have hls:=aLf hp;refine⟨?_,?_,hl p hp⟩
   .have:=(hL p (bK hp)).s1;omega
   .show bC L+1=p.seq+1;omega
 .have hc:=hr.c;unfold iP;have hsum:(cK a b bf L at' tx).sum=eG a b (dN bf L) (cK a b bf L at' tx):=rfl
  by_cases h30:L.length=30
  .cases L with
   |nil=>simp at h30
   |cons y M=>
    have e1:jM (y::M)=M:=by unfold jM;rw[if_pos h30];rfl
    have e2:nG bf (y::M)=y.sum:=by unfold nG;rw[if_pos h30];rfl
    rw[e1,e2,rK];rw[mL] at hc;split at hc
    .rw[if_pos hc];show(eF a b (dN y.sum M) _).2=true;rw[zY];rw[xI] at hsum;exact decide_eq_true hsum
    .simp at hc
  .have e1:jM L=L:=by unfold jM;rw[if_neg h30]
   have e2:nG bf L=bf:=by unfold nG;rw[if_neg h30]
   rw[e1,e2,rK,if_pos hc];show(eF a b (dN bf L) _).2=true;rw[zY];exact decide_eq_true hsum
theorem aL2 (a b:BitVec 64)(bf:Int)(L:List bT)(at':Int)(tx:ByteArray):bC (iP a b bf L at' tx)=bC L+1:=by
 unfold iP;exact aGs _ _
end Go.Proofs.YtmgdbfmlnmahpaaGreatDoor
