/- Part of TopAudits. -/
import Derived.Test.YtmgdbfmlnmahpaaGreatDoorG38
import Derived.Test.YtmgdbfmlnmahpaaGreatDoorG39
import Derived.Test.YtmgdbfmlnmahpaaGreatDoorG36
import Derived.Test.YtmgdbfmlnmahpaaGreatDoorG08
import Derived.Deep.RegionWith
namespace Go.Proofs.YtmgdbfmlnmahpaaGreatDoor
set_option linter.unusedSimpArgs false
set_option linter.unusedVariables false
set_option maxRecDepth 100000
set_option maxHeartbeats 4000000
open Go.Proofs.Tryz
open Go.RowKit
structure bT where
 seq:Int
 at':Int
 text:ByteArray
 sum:Int
def bT.v (x:bT):Value:=.agg #[.int .u64 x.seq,.int .u64 x.at',.string x.text,.int .u64 x.sum]
structure bT.Ok (x:bT):Prop where
 s0:0<=x.seq
 s1:x.seq<18446744073709551616
 a0:0<=x.at'
 a1:x.at'<18446744073709551616
 t:x.text.size<=1000
 m0:0<=x.sum
 m1:x.sum<18446744073709551616
abbrev kv (a b:BitVec 64):Value:=.agg #[.int .u64 (un a),.int .u64 (un b)]
def iH (bf:Int)(x:bT):ByteArray:=eZ bf.toNat++eZ x.seq.toNat++eZ x.at'.toNat++eZ x.text.size++x.text
def eG (a b:BitVec 64)(bf:Int)(x:bT):Int:=un (yH a b (iH bf x).data.toList)
theorem aBo (bf:Int)(x:bT):(iH bf x).size<=x.text.size+36:=by
 have h1:=dZ bf.toNat
 have h2:=dZ x.seq.toNat
 have h3:=dZ x.at'.toNat
 have h4:=dZ x.text.size;unfold iH;simp only[ByteArray.size_append];omega
theorem zC (a b:BitVec 64)(bf:Int)(x:bT):0<=eG a b bf x/\eG a b bf x<18446744073709551616:=by
 unfold eG;exact⟨zV _,aR8 _⟩
theorem nE (a b:ByteArray):Lib.strCells (a++b)=Lib.strCells a++Lib.strCells b:=by
 simp[Lib.strCells,ByteArray.data_append]
theorem zK (s:ByteArray):Lib.strCells s=Lib.byteCells s.data.toList:=rfl
def vB (bf sq at' tz:Int):Nat->ByteArray
 |0=>⟨#[]⟩
 |1=>eZ bf.toNat
 |2=>eZ bf.toNat++eZ sq.toNat
 |3=>eZ bf.toNat++eZ sq.toNat++eZ at'.toNat
 |_=>eZ bf.toNat++eZ sq.toNat++eZ at'.toNat++eZ tz.toNat
theorem wU (bf sq at' tz:Int)(k:Nat):(vB bf sq at' tz k).size<=36:=by
 have h1:=dZ bf.toNat
 have h2:=dZ sq.toNat
 have h3:=dZ at'.toNat
 have h4:=dZ tz.toNat
 unfold vB;split
 .exact cJ _
 all_goals(try simp only[ByteArray.size_append]);omega
theorem aIy (bf sq at' tz:Int)(k:Nat)(n:Int)(hk:k<4)(hn:[bf,sq,at',tz][k]? =some n):Lib.strCells (vB bf sq at' tz k)++Lib.strCells (eZ n.toNat)=Lib.strCells (vB bf sq at' tz (k+1)):=by
 rw[<-nE];have e:k=0\/k=1\/k=2\/k=3:=by omega
 rcases e with rfl|rfl|rfl|rfl<;>simp at hn<;>subst hn<;>simp[vB];congr 1
set_option maxRecDepth 100000 in
theorem eE (a b:BitVec 64)(bf:Int)(h0:0<=bf)(h1:bf<18446744073709551616)(x:bT)(hx:x.Ok)(w:World):
  Calls prog 102 #[kv a b,.int .u64 bf,x.v] w λe w'=>e=.returned (.int .u64 (eG a b bf x))/\Below w.heap.size w w':=by
 obtain⟨s0,s1,a0,a1,t,m0,m1⟩:=hx;have HZ:=aA (aBo bf x);obtain⟨sq,at',tx,sm⟩:=x;simp only at s0 s1 a0 a1 t m0 m1 HZ;unfold bT.v;simp only;go_enter func102,ntmps102;go_wp2_with fail;have H0:Lib.IsBuilder 286 5 (w.heap.size+2) (w.heap.size+2) [] ((((w.alloc (.cells #[Value.int IntKind.u64 (un a),Value.int IntKind.u64 (un b)] 24)).alloc (.cells #[Value.int .u64 sq,.int .u64 at',.string tx,.int .u64 sm] 53)).alloc (.cells #[.pointer none,.slice none 0 0] 286)).alloc (.cells #[Value.int .u64 bf,.int .u64 sq,.int .u64 at',.int .u64 tx.size] 22)):=by
  have h:=Lib.fresh_isBuilder 286 5 ((w.alloc (.cells #[Value.int IntKind.u64 (un a),Value.int IntKind.u64 (un b)] 24)).alloc (.cells #[Value.int .u64 sq,.int .u64 at',.string tx,.int .u64 sm] 53));have hs:((w.alloc (.cells #[Value.int IntKind.u64 (un a),Value.int IntKind.u64 (un b)] 24)).alloc (.cells #[Value.int .u64 sq,.int .u64 at',.string tx,.int .u64 sm] 53)).heap.size=w.heap.size+2:=by simp
  rw[hs] at h;exact pX h (aW.alloc aH _)
 have HB0:Below w.heap.size w ((((w.alloc (.cells #[Value.int IntKind.u64 (un a),Value.int IntKind.u64 (un b)] 24)).alloc (.cells #[Value.int .u64 sq,.int .u64 at',.string tx,.int .u64 sm] 53)).alloc (.cells #[.pointer none,.slice none 0 0] 286)).alloc (.cells #[Value.int .u64 bf,.int .u64 sq,.int .u64 at',.int .u64 tx.size] 22)):=(((aW.alloc aH _).alloc (by simp) _).alloc (by simp;omega) _).alloc (by simp;omega) _;have HK0:((((w.alloc (.cells #[Value.int IntKind.u64 (un a),Value.int IntKind.u64 (un b)] 24)).alloc (.cells #[Value.int .u64 sq,.int .u64 at',.string tx,.int .u64 sm] 53)).alloc (.cells #[.pointer none,.slice none 0 0] 286)).alloc (.cells #[Value.int .u64 bf,.int .u64 sq,.int .u64 at',.int .u64 tx.size] 22)).heap[w.heap.size]? =some (.cells #[Value.int IntKind.u64 (un a),Value.int IntKind.u64 (un b)] 24 (0,0)):=by
  rw[Below.heap_alloc _ _ _ (by simp;omega),Below.heap_alloc _ _ _ (by simp;omega),Below.heap_alloc _ _ _ (by simp)];exact heap_alloc_new w _
 have HE0:((((w.alloc (.cells #[Value.int IntKind.u64 (un a),Value.int IntKind.u64 (un b)] 24)).alloc (.cells #[Value.int .u64 sq,.int .u64 at',.string tx,.int .u64 sm] 53)).alloc (.cells #[.pointer none,.slice none 0 0] 286)).alloc (.cells #[Value.int .u64 bf,.int .u64 sq,.int .u64 at',.int .u64 tx.size] 22)).heap[w.heap.size+1]? =some (.cells #[Value.int .u64 sq,.int .u64 at',.string tx,.int .u64 sm] 53 (0,0)):=by
  rw[Below.heap_alloc _ _ _ (by simp),Below.heap_alloc _ _ _ (by simp)];have:=heap_alloc_new (w.alloc (.cells #[Value.int IntKind.u64 (un a),Value.int IntKind.u64 (un b)] 24)) (.cells #[Value.int .u64 sq,.int .u64 at',.string tx,.int .u64 sm] 53)
  simpa using this
 have HS0:((((w.alloc (.cells #[Value.int IntKind.u64 (un a),Value.int IntKind.u64 (un b)] 24)).alloc (.cells #[Value.int .u64 sq,.int .u64 at',.string tx,.int .u64 sm] 53)).alloc (.cells #[.pointer none,.slice none 0 0] 286)).alloc (.cells #[Value.int .u64 bf,.int .u64 sq,.int .u64 at',.int .u64 tx.size] 22)).heap[w.heap.size+3]? =some (.cells #[Value.int .u64 bf,.int .u64 sq,.int .u64 at',.int .u64 tx.size] 22 (0,0)):=by
  have:=heap_alloc_new (((w.alloc (.cells #[Value.int IntKind.u64 (un a),Value.int IntKind.u64 (un b)] 24)).alloc (.cells #[Value.int .u64 sq,.int .u64 at',.string tx,.int .u64 sm] 53)).alloc (.cells #[.pointer none,.slice none 0 0] 286)) (.cells #[Value.int .u64 bf,.int .u64 sq,.int .u64 at',.int .u64 tx.size] 22)
  simpa using this
 generalize((((w.alloc (.cells #[Value.int IntKind.u64 (un a),Value.int IntKind.u64 (un b)] 24)).alloc (.cells #[Value.int .u64 sq,.int .u64 at',.string tx,.int .u64 sm] 53)).alloc (.cells #[.pointer none,.slice none 0 0] 286)).alloc (.cells #[Value.int .u64 bf,.int .u64 sq,.int .u64 at',.int .u64 tx.size] 22))=w4 at*
 go_loopw [21] (λi wr=>∃k:Nat,k<=4/\i=.int .i64 k/\Lib.IsBuilder 286 5 (w.heap.size+2) (w.heap.size+2) (Lib.strCells (vB bf sq at' (tx.size:Int) k)) wr/\Below w.heap.size w wr/\wr.heap[w.heap.size]? =some (.cells #[Value.int IntKind.u64 (un a),Value.int IntKind.u64 (un b)] 24 (0,0))/\wr.heap[w.heap.size+1]? =some (.cells #[Value.int .u64 sq,.int .u64 at',.string tx,.int .u64 sm] 53 (0,0))/\wr.heap[w.heap.size+3]? =some (.cells #[Value.int .u64 bf,.int .u64 sq,.int .u64 at',.int .u64 tx.size] 22 (0,0))) (λi _=>4-(intOf i).toNat)
 case atStart=>exact⟨0,cJ _,rfl,H0,HB0,HK0,HE0,HS0⟩
 case round=>
  obtain⟨k,hk,rfl,H,HB,HK,HE,HS⟩:=hrel;clear H0 HB0 HK0 HE0 HS0
  by_cases hlt:k<4
  .obtain⟨n,hn,hn0,hn1⟩:∃n:Int,[bf,sq,at',(tx.size:Int)][k]? =some n/\0<=n/\n<18446744073709551616:=by
    have e:k=0\/k=1\/k=2\/k=3:=by omega
    rcases e with rfl|rfl|rfl|rfl
    .exact⟨_,rfl,by omega,by omega⟩
    .exact⟨_,rfl,by omega,by omega⟩
    .exact⟨_,rfl,by omega,by omega⟩
    .exact⟨_,rfl,by omega,by omega⟩
   have hc:wr.cell? ⟨w.heap.size+3,k,none⟩=some (.int .u64 n):=by
    rw[Lib.cell_of_heap HS];have e:k=0\/k=1\/k=2\/k=3:=by omega
    rcases e with rfl|rfl|rfl|rfl<;>simp at hn<;>subst hn<;>rfl
   have HN:=aA (aIy bf sq at' (tx.size:Int) k n hlt hn);have hps:=wU bf sq at' (tx.size:Int) k;have hz:=dZ n.toNat
   clear hn;go_wp2_with fail;refine(aJz n hn0 hn1 _).mono ?_;rintro e w1 ⟨rfl,hb1⟩;have H1:=pX H hb1;have hsz:=hb1.size;have hsw:=HB.size;have hbl:=H.elim Lib.BuilderAt.lt Lib.BuilderAt.lt;have hsl:w.heap.size+3<wr.heap.size:=by
    rcases Nat.lt_or_ge (w.heap.size+3) wr.heap.size with h'|h'
    .exact h'
    .simp[Array.getElem?_eq_none h'] at HS
   go_wp2_with fail;refine(nF (w.heap.size+2) (w.heap.size+2) _ _ _ H1 (by rw[Lib.strCells_length];omega) (by omega)).mono ?_;rintro e w2 ⟨rfl,H2,hb2,ho2⟩;go_wp2_with fail;go_roundw
   case rel=>
    refine⟨k+1,hlt,by go_num,by rw[<-HN.out];exact H2,(HB.trans (hb1.mono hsw)).trans (hb2.mono (by omega)),?_,?_,?_⟩
    .exact(hb2.block _ (by omega)).trans ((hb1.block _ (by omega)).trans HK)
    .exact(hb2.block _ (by omega)).trans ((hb1.block _ (by omega)).trans HE)
    .exact ho2 _ _ _ _ (by omega) (by decide) ((hb1.block _ (by omega)).trans HS)
   case measure=>simp[intOf];omega
  .obtain rfl:k=4:=by omega
   have hps:=wU bf sq at' (tx.size:Int) 4;have hsw:=HB.size;have hbl:=H.elim Lib.BuilderAt.lt Lib.BuilderAt.lt;have c2:wr.cell? ⟨w.heap.size+1,2,none⟩=some (.string tx):=by rw[Lib.cell_of_heap HE];rfl
   go_wp2_with fail;refine(nF (w.heap.size+2) (w.heap.size+2) _ _ _ H (by rw[Lib.strCells_length];omega) (by omega)).mono ?_;rintro e w2 ⟨rfl,H2,hb2,ho2⟩;rw[<-nE,zK] at H2;have HT:(vB bf sq at' (tx.size:Int) 4++tx)=iH bf ⟨sq,at',tx,sm⟩:=by
    unfold vB iH;simp
   rw[HT] at H2;have HK2:w2.heap[w.heap.size]? =some (.cells #[Value.int IntKind.u64 (un a),Value.int IntKind.u64 (un b)] 24 (0,0)):=(hb2.block _ (by omega)).trans HK;have k0:w2.drew.cell? ⟨w.heap.size,0,none⟩=some (.int .u64 (un a)):=by
    have:w2.drew.heap[w.heap.size]? =some (.cells #[Value.int IntKind.u64 (un a),Value.int IntKind.u64 (un b)] 24 (0,0)):=HK2;rw[Lib.cell_of_heap this];rfl
   have k1:w2.drew.cell? ⟨w.heap.size,1,none⟩=some (.int .u64 (un b)):=by
    have:w2.drew.heap[w.heap.size]? =some (.cells #[Value.int IntKind.u64 (un a),Value.int IntKind.u64 (un b)] 24 (0,0)):=HK2;rw[Lib.cell_of_heap this];rfl
   have H2':Lib.IsBuilder 286 5 (w.heap.size+2) (w.heap.size+2) (Lib.byteCells (iH bf ⟨sq,at',tx,sm⟩).data.toList) w2.drew:=H2;have hne:(iH bf ⟨sq,at',tx,sm⟩).data.toList≠[]:=by
    intro e;have hs:(iH bf ⟨sq,at',tx,sm⟩).size=0:=by
     have:=congrArg List.length e
     simpa using this
    have:=dZ bf.toNat
    unfold iH at hs;simp only[ByteArray.size_append] at hs;omega
   have hsz2:=hb2.size;clear H H2 c2 HK HE HS HT hps;go_wp2_with fail
   go_region_with (first
    |(go_at_call 147;refine(Tryz.Builder_String _ _ _ _ H2' hne).mono ?_;rintro e w3 ⟨rfl,hb3⟩;have k2:=(hb3.cell (p:=⟨w.heap.size,0,none⟩) (by show w.heap.size<_;omega)).trans k0;have k3:=(hb3.cell (p:=⟨w.heap.size,1,none⟩) (by show w.heap.size<_;omega)).trans k1)
    |(go_at_call 41;refine(aCm a b (iH bf ⟨sq,at',tx,sm⟩) (by have:=HZ.out;omega) _).mono ?_;rintro e w4 ⟨rfl,hb4⟩))
   all_goals go_wp2_with fail
   all_goals refine bodyPost_ret (v:=.int .u64 (eG a b bf ⟨sq,at',tx,sm⟩)) (by simp[results,results102,go_sem,Act.put,eG]) rfl ⟨rfl,?_⟩
   all_goals exact(HB.trans (hb2.mono (by omega))).trans (((aW.drew).trans (hb3.mono (by omega))).trans (hb4.mono (by have:=hb3.size;have e:w2.drew.heap.size=w2.heap.size:=rfl;omega)))
def lE (W:World)(s:Option Addr)(L:List bT):Prop:=
 ∀(i:Nat) (x:bT),L[i]? =some x->∃g o,s=some ⟨g,o,none⟩/\g<W.heap.size/\W.cell? ⟨g,o+i*4,none⟩=some (.int .u64 x.seq)/\W.cell? ⟨g,o+i*4+1,none⟩=some (.int .u64 x.at')/\W.cell? ⟨g,o+i*4+2,none⟩=some (.string x.text)/\W.cell? ⟨g,o+i*4+3,none⟩=some (.int .u64 x.sum)
theorem lE.below {W W':World}{s:Option Addr}{L:List bT}(h:lE W s L)(hb:Below W.heap.size W W'):lE W' s L:=by
 intro i x hx;obtain⟨g,o,rfl,hg,c0,c1,c2,c3⟩:=h i x hx;exact⟨g,o,rfl,kG hg hb.size,(hb.cell (p:=⟨g,_,none⟩) hg).trans c0,(hb.cell (p:=⟨g,_,none⟩) hg).trans c1,(hb.cell (p:=⟨g,_,none⟩) hg).trans c2,(hb.cell (p:=⟨g,_,none⟩) hg).trans c3⟩
def eF (a b:BitVec 64):Int->List bT->Nat×Bool
 |_,[]=>(0,true)
 |bf,x::L=>if x.sum=eG a b bf x then((eF a b x.sum L).1+1,(eF a b x.sum L).2) else(0,false)
set_option maxRecDepth 100000 in
theorem uN (a b:BitVec 64)(bf:Int)(h0:0<=bf)(h1:bf<18446744073709551616)(L:List bT)(hL:∀x∈L,x.Ok)(hl:L.length<=1000)(s:Option Addr)(cap:Nat)(w:World)(hE:lE w s L):
  Calls prog 145 #[kv a b,.int .u64 bf,.slice s L.length cap] w λe w'=>e=.returned (.tuple #[.int .i64 (eF a b bf L).1,.bool (eF a b bf L).2])/\Below w.heap.size w w':=by
 go_enter func145,ntmps145;go_wp2_with fail;have HB0:Below w.heap.size w (w.alloc (.cells #[Value.int IntKind.u64 (un a),Value.int IntKind.u64 (un b)] 24)):=aW.alloc aH _;have HZ0:w.heap.size<(w.alloc (.cells #[Value.int IntKind.u64 (un a),Value.int IntKind.u64 (un b)] 24)).heap.size:=by simp
 have K00:(w.alloc (.cells #[Value.int IntKind.u64 (un a),Value.int IntKind.u64 (un b)] 24)).cell? ⟨w.heap.size,0,none⟩=some (.int .u64 (un a)):=by go_simp
 have K10:(w.alloc (.cells #[Value.int IntKind.u64 (un a),Value.int IntKind.u64 (un b)] 24)).cell? ⟨w.heap.size,1,none⟩=some (.int .u64 (un b)):=by go_simp
 generalize(w.alloc (.cells #[Value.int IntKind.u64 (un a),Value.int IntKind.u64 (un b)] 24))=w4 at*
 go_loopw [1,12] (λc i wr=>∃(k:Nat) (bk:Int),k<=L.length/\i=.int .i64 k/\c=.int .u64 bk/\0<=bk/\bk<18446744073709551616/\eF a b bf L=((eF a b bk (L.drop k)).1+k,(eF a b bk (L.drop k)).2)/\Below w.heap.size w wr/\w.heap.size<wr.heap.size/\wr.cell? ⟨w.heap.size,0,none⟩=some (.int .u64 (un a))/\wr.cell? ⟨w.heap.size,1,none⟩=some (.int .u64 (un b))) (λ_ i _=>L.length-(intOf i).toNat)
 case atStart=>exact⟨0,bf,cJ _,rfl,rfl,h0,h1,by simp,HB0,HZ0,K00,K10⟩
 case round=>
  obtain⟨k,bk,hk,rfl,rfl,hb0,hb1,hch,HB,HZ,K0,K1⟩:=hrel;clear HB0 HZ0 K00 K10;have HC:=aA hch;clear hch
  by_cases hlt:k<L.length
  .have hx:=cZ hlt;have hok:(L[k]'hlt).Ok:=hL _ (List.getElem_mem _);have hdrop:L.drop k=L[k]'hlt::L.drop (k+1):=List.drop_eq_getElem_cons hlt;obtain⟨g,o,rfl,hg,c0,c1,c2,c3⟩:=hE k _ hx;generalize(L[k]'hlt)=x at*;have d0:=(HB.cell (p:=⟨g,_,none⟩) hg).trans c0;have d1:=(HB.cell (p:=⟨g,_,none⟩) hg).trans c1;have d2:=(HB.cell (p:=⟨g,_,none⟩) hg).trans c2;have d3:=(HB.cell (p:=⟨g,_,none⟩) hg).trans c3;have HD:=aA hdrop;have HX:=aA hx;clear c0 c1 c2 c3 hdrop hx;go_wp2_with fail;have hBx:Below wr.heap.size wr (wr.alloc (.cells #[Value.int .u64 x.seq,.int .u64 x.at',.string x.text,.int .u64 x.sum] 53)):=aW.alloc aH _;have hzx:wr.heap.size<(wr.alloc (.cells #[Value.int .u64 x.seq,.int .u64 x.at',.string x.text,.int .u64 x.sum] 53)).heap.size:=by simp
   have e0:=Cw.cell (w:=(wr.alloc (.cells #[Value.int .u64 x.seq,.int .u64 x.at',.string x.text,.int .u64 x.sum] 53))) wr.heap.size 0 (.int .u64 x.seq) hzx (by go_simp);have e1:=Cw.cell (w:=(wr.alloc (.cells #[Value.int .u64 x.seq,.int .u64 x.at',.string x.text,.int .u64 x.sum] 53))) wr.heap.size 1 (.int .u64 x.at') hzx (by go_simp);have e2:=Cw.cell (w:=(wr.alloc (.cells #[Value.int .u64 x.seq,.int .u64 x.at',.string x.text,.int .u64 x.sum] 53))) wr.heap.size 2 (.string x.text) hzx (by go_simp);have e3:=Cw.cell (w:=(wr.alloc (.cells #[Value.int .u64 x.seq,.int .u64 x.at',.string x.text,.int .u64 x.sum] 53))) wr.heap.size 3 (.int .u64 x.sum) hzx (by go_simp);have f0:=Cw.cell (w:=(wr.alloc (.cells #[Value.int .u64 x.seq,.int .u64 x.at',.string x.text,.int .u64 x.sum] 53))) w.heap.size 0 (.int .u64 (un a)) (by omega) ((hBx.cell (p:=⟨w.heap.size,0,none⟩) HZ).trans K0);have f1:=Cw.cell (w:=(wr.alloc (.cells #[Value.int .u64 x.seq,.int .u64 x.at',.string x.text,.int .u64 x.sum] 53))) w.heap.size 1 (.int .u64 (un b)) (by omega) ((hBx.cell (p:=⟨w.heap.size,1,none⟩) HZ).trans K1);clear d0 d1 d2 d3 K0 K1;generalize(wr.alloc (.cells #[Value.int .u64 x.seq,.int .u64 x.at',.string x.text,.int .u64 x.sum] 53))=w5 at*;refine lO (by kernel_rfl) (by kernel_rfl) ?_
   repeat(first|go_big_quiet_step ((go_at_call 102;exact Cw.call (eE a b bk hb0 hb1 x hok _)))|quiet_step ((go_at_call 102;exact Cw.call (eE a b bk hb0 hb1 x hok _))))
   refine wpQuiet_nil ?_;intro y;have hy:Below wr.heap.size wr y.W:=hBx.trans (y.below.mono (by omega));have g0:=f0 y;have g1:=f1 y;have g3:=e3 y;have hyz:=hy.size;clear e0 e1 e2 e3 f0 f1;generalize y.W=W at*
   by_cases hs:x.sum=eG a b bk x
   .have hsb:(x.sum !=eG a b bk x)=false:=by simp[<-hs]
    have hm0:=hok.m0;have hm1:=hok.m1;go_wp2_with fail;go_roundw
    case rel=>
     refine⟨k+1,x.sum,hlt,by go_num,by first|rfl|(simp;done)|(rw[hs]),hm0,hm1,?_,HB.trans (hy.mono HB.size),by omega,g0,g1⟩;rw[HC.out,HD.out,eF,if_pos hs];simp only[Prod.mk.injEq,and_true];omega
    case measure=>simp[intOf];omega
   .have hsb:(x.sum !=eG a b bk x)=true:=by simp[hs]
    go_wp2_with fail;go_ret2;refine⟨?_,HB.trans (hy.mono HB.size)⟩;rw[HC.out,HD.out,eF,if_neg hs];simp
  .obtain rfl:k=L.length:=by omega
   go_wp2_with fail;go_ret2;refine⟨?_,HB⟩;rw[HC.out,List.drop_length,eF];simp
def bT.cells (x:bT):List Value:=[.int .u64 x.seq,.int .u64 x.at',.string x.text,.int .u64 x.sum]
def fA (L:List bT):List Value:=L.flatMap bT.cells
theorem kU (x:bT)(L:List bT):fA (x::L)=.int .u64 x.seq:: .int .u64 x.at':: .string x.text:: .int .u64 x.sum::fA L:=rfl
theorem zB (L M:List bT):fA (L++M)=fA L++fA M:=by simp[fA]
theorem pW (L:List bT):(fA L).length=L.length*4:=by
 induction L with
 |nil=>rfl
 |cons x L ih=>rw[kU];simp[ih];omega
theorem aAk (L:List bT)(i:Nat)(x:bT)(h:L[i]? =some x):
  (fA L)[i*4]? =some (.int .u64 x.seq)/\(fA L)[i*4+1]? =some (.int .u64 x.at')/\(fA L)[i*4+2]? =some (.string x.text)/\(fA L)[i*4+3]? =some (.int .u64 x.sum):=by
 induction L generalizing i with
 |nil=>simp at h
 |cons y L ih=>
  cases i with
  |zero=>simp at h;subst h;simp[kU]
  |succ i=>
   simp only[List.getElem?_cons_succ] at h;have:=ih i h;have e:(i+1)*4=i*4+4:=by omega
   rw[e,kU];exact this
theorem aG8 (L:List bT):∀u∈fA L,u.oneCell'=true:=by
 induction L with
 |nil=>simp[fA]
 |cons x L ih=>
  intro u hu;rw[kU] at hu;simp only[List.mem_cons] at hu;rcases hu with rfl|rfl|rfl|rfl|hu
  .rfl
  .rfl
  .rfl
  .rfl
  .exact ih u hu
theorem aDe (L:List bT)(j:Nat)(u:Value)(h:(fA L)[j]? =some u):∃x,L[j/4]? =some x/\x.cells[j%4]? =some u:=by
 have hj:j<L.length*4:=by
  have:=(gJ.1 h).1;rwa[pW] at this
 have hx:L[j/4]? =some (L[j/4]'(by omega)):=cZ (by omega);refine⟨_,hx,?_⟩;obtain⟨h0,h1,h2,h3⟩:=aAk L (j/4) _ hx;generalize(L[j/4]'(by omega))=x at*;have e:j%4=0\/j%4=1\/j%4=2\/j%4=3:=by omega
 rcases e with e|e|e|e
 .have e':j/4*4=j:=by omega
  rw[e'] at h0;rw[e];exact h0.symm.trans h
 .have e':j/4*4+1=j:=by omega
  rw[e'] at h1;rw[e];exact h1.symm.trans h
 .have e':j/4*4+2=j:=by omega
  rw[e'] at h2;rw[e];exact h2.symm.trans h
 .have e':j/4*4+3=j:=by omega
  rw[e'] at h3;rw[e];exact h3.symm.trans h
abbrev pR (w:World)(B:Nat)(v:Value)(L:List bT):Prop:=w.ownsRow B 53 4 v L.length (fA L)
theorem yB {w:World}{B:Nat}{v:Value}{L:List bT}(h:pR w B v L):∃s cap,v=.slice s L.length cap/\(s=none->cap=0)/\lE w s L/\(∀a,s=some a->∃g,a=⟨g,0,none⟩/\B<=g/\g<w.heap.size):=by
 have h':=h;rcases h.2 with⟨rfl,h0⟩|⟨g,cap,cur,rfl,hBg,hg,hnc,hcm,hcs,htake⟩
 .obtain rfl:L=[]:=List.eq_nil_of_length_eq_zero h0;exact⟨none,0,rfl,λ_=>rfl,λi x hx=>by simp at hx,by simp⟩
 .have hlt:g<w.heap.size:=by
   rcases Nat.lt_or_ge g w.heap.size with h'|h'
   .exact h'
   .simp[Array.getElem?_eq_none h'] at hg
  refine⟨some ⟨g,0,none⟩,cap,rfl,by simp,λi x hx=> ?_,λa ha=>⟨g,by simpa using ha.symm,hBg,hlt⟩⟩;have hi:i<L.length:=(gJ.1 hx).1;obtain⟨h0,h1,h2,h3⟩:=aAk L i x hx;refine⟨g,0,rfl,hlt,?_,?_,?_,?_⟩
  .rw[Nat.zero_add,h'.cellAt _ (by omega)];exact h0
  .rw[Nat.zero_add,h'.cellAt _ (by omega)];exact h1
  .rw[Nat.zero_add,h'.cellAt _ (by omega)];exact h2
  .rw[Nat.zero_add,h'.cellAt _ (by omega)];exact h3
theorem vN :(prog.info? 53).map (λi=>(i.zero,i.size,i.bytes))=some (some (.agg #[.int .u64 0,.int .u64 0,.string ⟨#[]⟩,.int .u64 0]),4,40):=by kernel_rfl
theorem fH {w:World}{ops:Array Oper}{rest:List Oper}{o:Oper}{a:Act}{Q:Exit->Act->World->Prop}(hgd:o.guard=none)(s x:Operand)
  (ho:o.op=.call {callee:=.builtin .append,args:= #[s,x],argTypes:= #[34,34]}) (B:Nat) (v:Value) (L:List bT) (hs:a.eval s=v) (hown:pR w B v L)
  (M:List bT) (m:Nat) (hm:m=M.length) (sx:Option Addr) (cx:Nat) (hx:a.eval x=.slice sx m cx) (hc:sx=none->cx=0) (hM:lE w sx M) (hn:L.length+M.length<=100000) (hB:B<=w.heap.size)
  (h:∀v' w',pR w' B v' (L++M)->w.grownBy w' v.ownBlock->wpList prog ops Q rest (a.put o.dst v') w'):
  wpList prog ops Q (o::rest) a w:=by
 subst hm;obtain⟨i0,hi,hz0,hz1,hz2⟩:=info_parts vN;cases sx with
 |none=>
  obtain rfl:M=[]:=by
   cases M with
   |nil=>rfl
   |cons y M=>obtain⟨g,o,he,_⟩:=hM 0 y rfl;cases he
  obtain rfl:=hc rfl;refine wpList_append_own_none hgd s x 34 ho B 53 i0 4 underlying34 hi v L.length (fA L) hs hown hx ?_;refine h v w ?_ ⟨rfl,rfl,rfl,aH,λ_ _ _=>rfl⟩;unfold pR;rw[List.append_nil];exact hown
 |some ad=>
  refine wpList_append_own _ hgd s x 34 ho B 53 i0 _ 4 40 underlying34 hi hz0 hz1 hz2 rfl (by decide) v L.length (fA L) hs hown ad M.length cx (fA M) hx (pW M) ?_ (aG8 M) (by unfold maxLen;omega) (by omega) hB ?_
  .intro j u hj;obtain⟨y,hy,hu⟩:=aDe M j u hj;obtain⟨g,o,he,hg,c0,c1,c2,c3⟩:=hM _ _ hy;cases he;rw[Addr.add_lit];have e:j%4=0\/j%4=1\/j%4=2\/j%4=3:=by omega
   rcases e with e|e|e|e<;>rw[e] at hu<;>simp[bT.cells] at hu<;>subst hu
   .have e':o+j/4*4=o+j:=by omega
    rw[e'] at c0;exact c0
   .have e':o+j/4*4+1=o+j:=by omega
    rw[e'] at c1;exact c1
   .have e':o+j/4*4+2=o+j:=by omega
    rw[e'] at c2;exact c2
   .have e':o+j/4*4+3=o+j:=by omega
    rw[e'] at c3;exact c3
  .intro v' w' hown' hg _;refine h v' w' ?_ hg;unfold pR;rw[zB,List.length_append];exact hown'
theorem sM (w:World)(x:bT):lE (w.alloc (.cells #[.int .u64 x.seq,.int .u64 x.at',.string x.text,.int .u64 x.sum] 53)) (some ⟨w.heap.size,0,none⟩) [x]:=by
 intro i y hy;have hi:i=0:=by
  have:=(gJ.1 hy).1;simp at this;exact this
 subst hi;simp at hy;subst hy;exact⟨w.heap.size,0,rfl,by simp,by rw[World.cell?_alloc_new];rfl,by rw[World.cell?_alloc_new];rfl,by rw[World.cell?_alloc_new];rfl,by rw[World.cell?_alloc_new];rfl⟩
section
attribute [local go_sem] oF oG fL sB oH lN tC qI aU1
theorem aEu (c:UInt8)(s:ByteArray):((⟨#[c]⟩:ByteArray)++s).size=s.size+1:=by
 rw[ByteArray.size_append,Nat.add_comm];rfl
def qJ (a b:BitVec 64)(l:List UInt8):BitVec 64:=yH a b (0::l)
def qY (a b:BitVec 64)(l:List UInt8):BitVec 64:=yH a b (1::l)
set_option maxRecDepth 100000 in
theorem aKm (a b:BitVec 64)(s:ByteArray)(hs:s.size<=100000)(w:World):
  Calls prog 26 #[kv a b,.string s] w λe w'=>e=.returned (kv (qJ a b s.data.toList) (qY a b s.data.toList))/\Below w.heap.size w w':=by
 go_enter func26,ntmps26
 go_wp2
 have hB0:Below w.heap.size w ((w.alloc (Obj.cells #[Value.int IntKind.u64 (un a),Value.int IntKind.u64 (un b)] 24)).alloc (Obj.cells #[Value.int IntKind.u64 0,Value.int IntKind.u64 0] 24)):=(aW.alloc aH _).alloc (by simp) _;have hz0:((w.alloc (Obj.cells #[Value.int IntKind.u64 (un a),Value.int IntKind.u64 (un b)] 24)).alloc (Obj.cells #[Value.int IntKind.u64 0,Value.int IntKind.u64 0] 24)).heap.size=w.heap.size+2:=by simp
 have c0:=Cw.cell (w:=(w.alloc (Obj.cells #[Value.int IntKind.u64 (un a),Value.int IntKind.u64 (un b)] 24)).alloc (Obj.cells #[Value.int IntKind.u64 0,Value.int IntKind.u64 0] 24)) w.heap.size 0 (.int .u64 (un a)) (by rw[hz0];omega) (by go_simp);have c1:=Cw.cell (w:=(w.alloc (Obj.cells #[Value.int IntKind.u64 (un a),Value.int IntKind.u64 (un b)] 24)).alloc (Obj.cells #[Value.int IntKind.u64 0,Value.int IntKind.u64 0] 24)) w.heap.size 1 (.int .u64 (un b)) (by rw[hz0];omega) (by go_simp);have d0:=Cw.cell (w:=(w.alloc (Obj.cells #[Value.int IntKind.u64 (un a),Value.int IntKind.u64 (un b)] 24)).alloc (Obj.cells #[Value.int IntKind.u64 0,Value.int IntKind.u64 0] 24)) (w.heap.size+1) 0 (.int .u64 0) (by rw[hz0];omega) (by go_simp);have d1:=Cw.cell (w:=(w.alloc (Obj.cells #[Value.int IntKind.u64 (un a),Value.int IntKind.u64 (un b)] 24)).alloc (Obj.cells #[Value.int IntKind.u64 0,Value.int IntKind.u64 0] 24)) (w.heap.size+1) 1 (.int .u64 0) (by rw[hz0];omega) (by go_simp);have f0:=Cw.frozen (w:=(w.alloc (Obj.cells #[Value.int IntKind.u64 (un a),Value.int IntKind.u64 (un b)] 24)).alloc (Obj.cells #[Value.int IntKind.u64 0,Value.int IntKind.u64 0] 24)) (w.heap.size+1) 0 (by rw[hz0];omega) (by go_simp);have f1:=Cw.frozen (w:=(w.alloc (Obj.cells #[Value.int IntKind.u64 (un a),Value.int IntKind.u64 (un b)] 24)).alloc (Obj.cells #[Value.int IntKind.u64 0,Value.int IntKind.u64 0] 24)) (w.heap.size+1) 1 (by rw[hz0];omega) (by go_simp);have hz1:w.heap.size<=((w.alloc (Obj.cells #[Value.int IntKind.u64 (un a),Value.int IntKind.u64 (un b)] 24)).alloc (Obj.cells #[Value.int IntKind.u64 0,Value.int IntKind.u64 0] 24)).heap.size:=hB0.size;clear hz0;generalize(w.alloc (Obj.cells #[Value.int IntKind.u64 (un a),Value.int IntKind.u64 (un b)] 24)).alloc (Obj.cells #[Value.int IntKind.u64 0,Value.int IntKind.u64 0] 24)=w0 at*
 refine xU 9 (by kernel_rfl) (by kernel_rfl) ?_;simp only[List.take_succ_cons,List.take_zero,List.drop_succ_cons,List.drop_zero]
 repeat(first|go_big_quiet_step ((go_at_call 41;exact Cw.call (aCm _ _ _ (by rw[aEu];omega) _)))|quiet_step ((go_at_call 41;exact Cw.call (aCm _ _ _ (by rw[aEu];omega) _))))
 refine wpQuiet_nil ?_;intro x;have hx:Below w.heap.size w x.W:=hB0.trans (x.below.mono hz1);have e0:=c0 x;have e1:=c1 x;have g0:=d0 x;have g1:=d1 x;have j0:=f0 x;have j1:=f1 x;clear c0 c1 d0 d1 f0 f1;generalize x.W=W at*
 go_wp2
 refine bodyPost_ret (v:=kv (qJ a b s.data.toList) (qY a b s.data.toList)) (by simp[results,results26,go_sem,qJ,qY,g0,g1]) rfl ⟨rfl,?_⟩;exact(hx.setCell (p:=⟨w.heap.size+1,0,none⟩) (by simp) _).setCell (p:=⟨w.heap.size+1,1,none⟩) (by simp) _
end
end Go.Proofs.YtmgdbfmlnmahpaaGreatDoor
