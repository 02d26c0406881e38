/- Part of TopAudits. -/
import Derived.Test.YtmgdbfmlnmahpaaGreatDoorG33
import Derived.Test.YtmgdbfmlnmahpaaGreatDoorG35
import Derived.Test.YtmgdbfmlnmahpaaGreatDoorG37
import Derived.Test.YtmgdbfmlnmahpaaGreatDoorG42
namespace Go.Proofs.YtmgdbfmlnmahpaaGreatDoor
set_option linter.unusedSimpArgs false
set_option linter.unusedVariables false
set_option maxRecDepth 100000
set_option maxHeartbeats 4000000
open Go.Proofs.Tryz
section
open Go.RowKit Go.Shelf
theorem gD (b:Nat)(w:World):Calls prog 46 #[pv b 0] w λe w'=>e=.returned (.bool false)/\w'=w:=by
 go_enter func46,ntmps46;go_wp2_with fail;go_ret;exact⟨rfl,rfl⟩
theorem uP (b:Nat)(w:World):Calls prog 14 #[pv b 0] w λe w'=>e=.returned (.bool false)/\w'=w:=by
 go_enter func14,ntmps14;go_wp2_with fail;go_ret;exact⟨rfl,rfl⟩
theorem aJ2 (w:World):Calls prog 25 #[] w λe w'=>e=.returned (.agg #[.int .u64 1,.slice none 0 0])/\Below w.heap.size w w':=by
 go_enter func25,ntmps25;go_wp2_with fail;exact bodyPost_ret (v:=.agg #[.int .u64 1,.slice none 0 0]) (by simp[results,results25,go_sem]) rfl ⟨rfl,aW.alloc aH _⟩
end
section
open Go.RowKit
variable {cs:Array Value} {bl:List cH} {b:Nat} {T:TypeId} {W w:World}
theorem eO (w:World)(b:Nat)(cs:Array Value):(w.setRow b cs).heap.size=w.heap.size:=by simp[World.setRow]
theorem Stb.start (h:w.heap[b]? =some (.cells cs T (0,0))):St (w.setRow b cs) [(b,cs,T)] (λ_=>True) w:=by
 refine⟨⟨rfl,rfl,rfl,by rw[eO];exact aH,λk _=> ?_⟩,?_,List.pairwise_singleton _ _,trivial,λ_ _ _ _=>trivial⟩
 .by_cases e:k=b
  .subst e;rw[setRow_heap w k cs cs T _ h,h]
  .exact(setRow_other w b k cs e).symm
 .intro x hx;simp at hx;subst hx;exact h
theorem Stb.zero {w0:World}{E:World->Prop}(h:St w0 bl E W):St {W with heap:= #[]} bl (λ_=>True) W:=
 ⟨⟨rfl,rfl,rfl,cJ _,λ_ hk=>absurd hk (Nat.not_lt_zero _)⟩,h.blk,h.nd,trivial,λ_ _ _ _=>trivial⟩
theorem Stb.set {cs0:Array Value}(h0:w.heap[b]? =some (.cells cs0 T (0,0)))(h:St (w.setRow b cs) bl (λ_=>True) W)(i:Nat)(hi:bl[i]? =some (b,cs,T)){o:Nat}{v:Value}:
  St (w.setRow b (cs.setIfInBounds o v)) (jP bl i o v) (λ_=>True) (W.setCell ⟨b,o,none⟩ v):=by
 have hz:=(Stb.zero h).set i hi (cJ _) (o:=o) (v:=v) (λ_=>trivial);refine⟨⟨h.below.os,h.below.tape,h.below.output,?_,λk hk=> ?_⟩,hz.blk,hz.nd,trivial,λ_ _ _ _=>trivial⟩
 .have:=h.below.size;rw[eO] at this⊢
  simpa[World.setCell] using this
 .rw[eO] at hk
  by_cases e:k=b
  .subst e;rw[setRow_heap w k cs0 _ T _ h0];exact cU (h.blk _ (bK hi)) o v
  .rw[setRow_other w b k _ e,Below.heap_setCell W ⟨b,o,none⟩ v k e,h.below.block k (by rw[eO];exact hk),setRow_other w b k _ e]
end
section
open Go.RowKit
variable {cs:Array Value} {bl:List cH} {S S':List Nat} {b:Nat} {T:TypeId} {W W' w w' w0:World}
structure bX (S:List Nat)(w w':World):Prop where
 os:w'.os=w.os
 tape:w'.tape=w.tape
 output:w'.output=w.output
 size:w.heap.size<=w'.heap.size
 block:∀k,k<w.heap.size->k∉S->w'.heap[k]? =w.heap[k]?
theorem bX.refl (S:List Nat)(w:World):bX S w w:=⟨rfl,rfl,rfl,aH,λ_ _ _=>rfl⟩
theorem bX.of (h:Below w.heap.size w w'):bX S w w':=⟨h.os,h.tape,h.output,h.size,λk hk _=>h.block k hk⟩
theorem bX.trans (h:bX S w W)(h':bX S' W W')(hS:∀k∈S',k∈S\/w.heap.size<=k):bX S w W':=
 ⟨h'.os.trans h.os,h'.tape.trans h.tape,h'.output.trans h.output,dR h.size h'.size,λk hk hn=>(h'.block k (kG hk h.size) (λhm=>by rcases hS k hm with e|e;exact hn e;omega)).trans (h.block k hk hn)⟩
theorem bX.mono (h:bX S' w W)(hS:∀k∈S',k∈S\/w.heap.size<=k):bX S w W:=(bX.refl S w).trans h hS
theorem bX.below (h:bX [] w w'):Below w.heap.size w w':=⟨h.os,h.tape,h.output,h.size,λk hk=>h.block k hk (by simp)⟩
theorem bX.ofRow {cs0:Array Value}(h0:w.heap[b]? =some (.cells cs0 T (0,0)))(h:Below w.heap.size (w.setRow b cs) w'):bX [b] w w'/\w'.heap[b]? =some (.cells cs T (0,0)):=by
 refine⟨⟨h.os,h.tape,h.output,?_,λk hk hn=> ?_⟩,?_⟩
 .have:=h.size;rwa[eO] at this
 .exact(h.block k hk).trans (setRow_other w b k _ (by simpa using hn))
 .exact(h.block b (aC h0)).trans (setRow_heap w b cs0 cs T _ h0)
theorem bX.set (h:bX S w W){A o:Nat}{v:Value}(hA:A∈S\/w.heap.size<=A):bX S w (W.setCell ⟨A,o,none⟩ v):=by
 refine⟨h.os,h.tape,h.output,?_,λk hk hn=> ?_⟩
 .simpa[World.setCell] using h.size
 .have hne:k≠A:=by rintro rfl;rcases hA with e|e;exact hn e;omega
  exact(Below.heap_setCell W ⟨A,o,none⟩ v k hne).trans (h.block k hk hn)
structure Fr (w0:World)(S:List Nat)(bl:List cH)(W:World):Prop where
 st:St {w0 with heap:= #[]} bl (λ_=>True) W
 fr:bX S w0 W
theorem Fr.start (w:World)(S:List Nat):Fr w S [] w:=⟨Stb.zero (St.start w),bX.refl _ _⟩
theorem Fr.add (h:Fr w0 S bl W){b:Nat}{cs:Array Value}{T:TypeId}(hb:W.heap[b]? =some (.cells cs T (0,0)))(hn:∀x∈bl,b≠x.1):Fr w0 S ((b,cs,T)::bl) W:=
 ⟨⟨h.st.below,λx hx=>by rcases List.mem_cons.1 hx with rfl|hx;exact hb;exact h.st.blk x hx,List.pairwise_cons.2 ⟨λx hx=>hn x hx,h.st.nd⟩,trivial,λ_ _ _ _=>trivial⟩,h.fr⟩
theorem Fr.to (h:Fr w0 S bl W)(hb:Below W.heap.size W W'):Fr w0 S bl W':=⟨h.st.to hb,h.fr.trans (bX.of (S:=[]) hb) (by simp)⟩
theorem Fr.alloc (h:Fr w0 S bl W){cs:Array Value}{T:TypeId}:Fr w0 S ((W.heap.size,cs,T)::bl) (W.alloc (.cells cs T)):=⟨h.st.alloc,h.fr.trans (bX.of (S:=[]) (aW.alloc aH _)) (by simp)⟩
theorem Fr.set (h:Fr w0 S bl W)(i:Nat){A:Nat}{cs:Array Value}{T:TypeId}(hi:bl[i]? =some (A,cs,T))(hA:A∈S\/w0.heap.size<=A){o:Nat}{v:Value}:Fr w0 S (jP bl i o v) (W.setCell ⟨A,o,none⟩ v):=⟨h.st.aW5 i hi (cJ _),h.fr.set hA⟩
theorem Fr.less (h:Fr w0 S bl W)(bl':List cH)(hs:bl'.Sublist bl):Fr w0 S bl' W:=⟨h.st.less bl' hs,h.fr⟩
theorem Fr.rules (h:Fr w0 S bl W):aI W bl:=h.st.rules
theorem Fr.blk (h:Fr w0 S bl W)(i:Nat){A:Nat}{cs:Array Value}{T:TypeId}(hi:bl[i]? =some (A,cs,T)):W.heap[A]? =some (.cells cs T (0,0)):=h.st.blk _ (bK hi)
theorem Fr.rl {R:Prop}(h:Fr w0 S bl W)(e:aI W bl=R:=by simp only[aI];rfl):R:=e▸h.rules
theorem Fr.rs {R:Prop}(h:Fr w0 S bl W)(e:aI W bl=R:=by simp only[aI,World.size_alloc];rfl):R:=e▸h.rules
theorem Fr.sx {bl':List cH}(h:Fr w0 S bl W)(i:Nat){A:Nat}{cs:Array Value}{T:TypeId}(hi:bl[i]? =some (A,cs,T))(hA:A∈S\/w0.heap.size<=A){o:Nat}{v:Value}
  (e:jP bl i o v=bl':=by simp only[jP,List.modify_succ_cons,List.modify_zero_cons,List.setIfInBounds_toArray,List.set_cons_zero,List.set_cons_succ];rfl):Fr w0 S bl' (W.setCell ⟨A,o,none⟩ v):=e▸h.set i hi hA
theorem Fr.row {cs':Array Value}(h:Fr w0 S ((b,cs,T)::bl) W)(hc:bX S' W W')(hS:∀k∈S',k∈S\/w0.heap.size<=k)(hb:W'.heap[b]? =some (.cells cs' T (0,0)))(hn:∀x∈bl,x.1∉S'):Fr w0 S ((b,cs',T)::bl) W':=by
 have hp:=List.pairwise_cons.1 h.st.nd;refine⟨⟨⟨hc.os.trans h.st.below.os,hc.tape.trans h.st.below.tape,hc.output.trans h.st.below.output,cJ _,λ_ hk=>absurd hk (Nat.not_lt_zero _)⟩,λx hx=> ?_,List.pairwise_cons.2 hp,trivial,λ_ _ _ _=>trivial⟩,h.fr.trans hc hS⟩;rcases List.mem_cons.1 hx with rfl|hx
 .exact hb
 .have h1:=h.st.blk x (by simp[hx]);exact(hc.block x.1 (aC h1) (hn x hx)).trans h1
theorem Fr.aYm {d:Nat}{cs' ds ds':Array Value}{U:TypeId}(h:Fr w0 S ((b,cs,T)::(d,ds,U)::bl) W)(hc:bX S' W W')(hS:∀k∈S',k∈S\/w0.heap.size<=k)(hb:W'.heap[b]? =some (.cells cs' T (0,0)))(hd:W'.heap[d]? =some (.cells ds' U (0,0)))(hn:∀x∈bl,x.1∉S'):Fr w0 S ((b,cs',T)::(d,ds',U)::bl) W':=by
 have hp:=List.pairwise_cons.1 h.st.nd;have hq:=List.pairwise_cons.1 hp.2;refine⟨⟨⟨hc.os.trans h.st.below.os,hc.tape.trans h.st.below.tape,hc.output.trans h.st.below.output,cJ _,λ_ hk=>absurd hk (Nat.not_lt_zero _)⟩,λx hx=> ?_,List.pairwise_cons.2 ⟨λx hx=> ?_,List.pairwise_cons.2 hq⟩,trivial,λ_ _ _ _=>trivial⟩,h.fr.trans hc hS⟩
 .rcases List.mem_cons.1 hx with rfl|hx
  .exact hb
  .rcases List.mem_cons.1 hx with rfl|hx
   .exact hd
   .have h1:=h.st.blk x (by simp[hx]);exact(hc.block x.1 (aC h1) (hn x hx)).trans h1
 .rcases List.mem_cons.1 hx with rfl|hx
  .exact hp.1 (d,ds,U) (by simp)
  .exact hp.1 x (by simp[hx])
theorem Fr.front {l1 l2:List cH}{x:cH}(h:Fr w0 S (l1++x::l2) W):Fr w0 S (x::(l1++l2)) W:=by
 have hp:(l1++x::l2).Perm (x::(l1++l2)):=List.perm_middle;exact⟨⟨h.st.below,λy hy=>h.st.blk y (hp.symm.subset hy),(hp.pairwise_iff (λh e=>h e.symm)).1 h.st.nd,trivial,λ_ _ _ _=>trivial⟩,h.fr⟩
def Off (S:List Nat)(d:Hd):Prop:=∀g o,d.s=some ⟨g,o,none⟩->g∉S
theorem Off.fresh {d:Hd}{B:Nat}(h:aT B d)(hS:∀k∈S,k<B):Off S d:=λg o e hm=>by have:=h g o e;have:=hS g hm;omega
theorem bS.fr {α:Type}{k:Nat}{enc:α->List Value}{h:Hd}{L:List α}(r:bS k enc W h L)(hf:Off S h)(hk:bX S W W'):bS k enc W' h L:=by
 refine⟨λi x hx=> ?_,r.cap,r.max,r.nil,r.plain⟩;obtain⟨g,o,e,hg,hc⟩:=r.rd i x hx;refine⟨g,o,e,kG hg hk.size,λj u hu=> ?_⟩;rw[<-hc j u hu];simp only[World.cell?,hk.block g hg (hf g o e)]
def aWd (S:List Nat)(h:aR):Prop:=Off S h.e/\Off S h.c/\Off S h.g
theorem bW.fr {x:Sk}{h:aR}(r:bW W x h)(hf:aWd S h)(hk:bX S W W'):bW W' x h:=⟨r.e.fr hf.1 hk,r.c.fr hf.2.1 hk,r.g.fr hf.2.2 hk⟩
end
end Go.Proofs.YtmgdbfmlnmahpaaGreatDoor
