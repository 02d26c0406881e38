/- Part of TopAudits. -/
import Derived.Test.YtmgdbfmlnmahpaaGreatDoorG36
import Derived.Maps.Own
namespace Go.Proofs.YtmgdbfmlnmahpaaGreatDoor
set_option linter.unusedSimpArgs false
set_option linter.unusedVariables false
set_option maxRecDepth 100000
set_option maxHeartbeats 4000000
open Go.Proofs.Tryz
open Go.RowKit
theorem qG (r:Int)(h1:1<=r)(h3:r<=3)(w:World):
  Calls prog 39 #[.int .i64 r] w λe w'=>e=.returned (.bool true)/\w'=w:=by
 go_enter func39,ntmps39
 go_wp2
 go_ret;exact⟨rfl,rfl⟩
theorem aK6 (r:Int)(h:r<1\/3<r)(w:World):
  Calls prog 39 #[.int .i64 r] w λe w'=>e=.returned (.bool false)/\w'=w:=by
 rcases h with h|h
 .go_enter func39,ntmps39
  go_wp2
  go_ret;exact⟨rfl,rfl⟩
 .have h1:1<=r:=by omega
  go_enter func39,ntmps39
  go_wp2
  go_ret;exact⟨by simp;omega,rfl⟩
def nL (r op:Int):Bool:=(r==1&&(op==1||op==7))||(r==2&&(op==2||op==3||op==6||op==7))||(r==3&&(decide (1<=op)&&decide (op<=7)))
abbrev aP2 :Value:=.agg #[.int .i64 0,.int .i64 1,.int .i64 0,.int .i64 0,.int .i64 0,.int .i64 0,.int .i64 0,.int .i64 1]
abbrev aN9 :Value:=.agg #[.int .i64 0,.int .i64 0,.int .i64 1,.int .i64 1,.int .i64 0,.int .i64 0,.int .i64 1,.int .i64 1]
abbrev aOd :Value:=.agg #[.int .i64 0,.int .i64 1,.int .i64 1,.int .i64 1,.int .i64 1,.int .i64 1,.int .i64 1,.int .i64 1]
def aJk (r:Nat):Value:=if r=1 then aP2 else if r=2 then aN9 else aOd
abbrev aFd :Value->Option (DataW Value×List MemPlace):=λv=>some (.held v,[])
theorem rV :Maps.Keyed prog 3:=Maps.int_keyed underlying3
theorem aCi :prog.underlying 114=some (.map 3 113):=underlying114
theorem aQ6 (w:World):(zeroValue 113).run prog w=.ok (.agg #[.int .i64 0,.int .i64 0,.int .i64 0,.int .i64 0,.int .i64 0,.int .i64 0,.int .i64 0,.int .i64 0]) w:=by kernel_rfl
theorem aBy (n:Int)(h0:1<=n)(h3:n<=3):keyOf prog 3 (.int .i64 n)=some (.int .i64 n):=Maps.keyOf_int_mk underlying3 (by
 rcases(show n=1\/n=2\/n=3 by omega) with rfl|rfl|rfl<;>decide)
theorem aTl (r:Nat)(h1:1<=r)(h3:r<=3)(z:DataW Value):
  ((((DataW.map []).put (.int .i64 1) (.held aP2)).put (.int .i64 2) (.held aN9)).put (.int .i64 3) (.held aOd)).atKey (.int .i64 r) z=.held (aJk r):=by
 rcases(show r=1\/r=2\/r=3 by omega) with rfl|rfl|rfl<;>kernel_rfl
theorem aVo (w:World):∃w1 w2 w3,(Instr.mapUpdate 114 (.map (some w.heap.size)) (.int .i64 1) aP2).run prog (w.alloc (.map #[] 0))=.ok () w1/\
  (Instr.mapUpdate 114 (.map (some w.heap.size)) (.int .i64 2) aN9).run prog w1=.ok () w2/\(Instr.mapUpdate 114 (.map (some w.heap.size)) (.int .i64 3) aOd).run prog w2=.ok () w3/\
  (∀r:Nat,1<=r->r<=3->(Instr.lookup 114 (.map (some w.heap.size)) (.int .i64 r) false).run prog w3=.ok (aJk r) w3)/\Below w.heap.size w w3:=by
 have o0:=World.ownsMap_made w prog 3 aFd;obtain⟨w1,h1,o1,g1⟩:=o0.update rV aCi (by unfold maxLen;omega) (aBy 1 (by decide) (by decide)) (val:=aP2) (d:=.held aP2) (ps:=[]) rfl;obtain⟨w2,h2,o2,g2⟩:=o1.update rV aCi (by unfold maxLen;omega) (aBy 2 (by decide) (by decide)) (val:=aN9) (d:=.held aN9) (ps:=[]) rfl;obtain⟨w3,h3,o3,g3⟩:=o2.update rV aCi (by unfold maxLen;omega) (aBy 3 (by decide) (by decide)) (val:=aOd) (d:=.held aOd) (ps:=[]) rfl;refine⟨w1,w2,w3,h1,h2,h3,λr r1 r3=> ?_,?_⟩
 .obtain⟨v,ps,hrun,hv⟩:=o3.lookup rV aCi (aQ6 _) (zp:=[]) rfl (aBy r (by omega) (by omega));rw[aTl r r1 r3] at hv;simp only[aFd,Option.some.injEq,Prod.mk.injEq,DataW.held.injEq] at hv;rw[hrun,hv.1]
 .have b0:Below w.heap.size w (w.alloc (.map #[] 0)):=aW.alloc aH _;have b1:=b0.grown g1 b0.size (λk e=>by cases e;exact aH);have b2:=b1.grown g2 b1.size (λk e=>by cases e;exact aH);exact b2.grown g3 b2.size (λk e=>by cases e;exact aH)
theorem aVv (r:Nat)(op:Int)(h1:1<=r)(h3:r<=3)(o1:1<=op)(o7:op<=7)(w:World):
  (Instr.index 113 (aJk r) (.int .i64 op)).run prog w=.ok (.int .i64 (if nL r op then 1 else 0)) w:=by
 rcases(show op=1\/op=2\/op=3\/op=4\/op=5\/op=6\/op=7 by omega) with rfl|rfl|rfl|rfl|rfl|rfl|rfl<;>
 rcases(show r=1\/r=2\/r=3 by omega) with rfl|rfl|rfl<;>kernel_rfl
theorem vV {r op:Int}(h:r<1\/3<r\/op<1\/7<op):nL r op=false:=by
 unfold nL;rw[Bool.eq_false_iff];intro h;simp at h;omega
set_option maxRecDepth 100000 in
theorem aR7 (r op:Int)(w:World):
  Calls prog 22 #[.int .i64 r,.int .i64 op] w λe w'=>e=.returned (.bool (nL r op))/\Below w.heap.size w w':=by
 by_cases h1:r<1\/3<r
 .rw[vV (by omega)];go_enter func22,ntmps22;go_wp2_with(go_at_call 39;refine(aK6 r h1 _).mono ?_;rintro e w' ⟨rfl,rfl⟩);go_ret;exact⟨rfl,aW⟩
 have hr1:1<=r:=by omega
 have hr3:r<=3:=by omega
 clear h1
 by_cases h2:op<1
 .rw[vV (by omega)];go_enter func22,ntmps22;go_wp2_with(go_at_call 39;refine(qG r hr1 hr3 _).mono ?_;rintro e w' ⟨rfl,rfl⟩);go_ret;exact⟨rfl,aW⟩
 by_cases h3:7<op
 .rw[vV (by omega)];go_enter func22,ntmps22;go_wp2_with(go_at_call 39;refine(qG r hr1 hr3 _).mono ?_;rintro e w' ⟨rfl,rfl⟩);go_ret;exact⟨rfl,aW⟩
 obtain⟨r,rfl⟩:=Int.eq_ofNat_of_zero_le (show 0<=r by omega);obtain⟨w1,w2,w3,u1,u2,u3,hl,hb⟩:=aVo w;have hl:=hl r (by omega) (by omega);have hi:=aVv r op (by omega) (by omega) (by omega) (by omega);have hmm:= @run_makeMap prog;have hbb:((if nL r op then(1:Int) else 0)==1)=nL r op:=by cases nL r op<;>rfl
 have HB:=aA hbb;clear hbb;generalize(if nL r op then(1:Int) else 0)=x at*;generalize nL r op=m at*;generalize aJk r=ar at*;go_enter func22,ntmps22;go_wp2_with(go_at_call 39;refine(qG r hr1 hr3 _).mono ?_;rintro e w' ⟨rfl,rfl⟩);go_ret;exact⟨by rw[<-HB.out];rfl,hb⟩
end Go.Proofs.YtmgdbfmlnmahpaaGreatDoor
