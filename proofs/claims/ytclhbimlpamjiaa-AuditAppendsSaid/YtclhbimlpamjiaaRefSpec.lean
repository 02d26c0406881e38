/- Facts on what the reference's Append tells. -/
import Derived.Test.YtclhbimlpamjiaaAppSpec
namespace Go.Proofs.Ytclhbimlpamjiaa
open Go.RowKit

/-- a log that reads so, and the number 0 -/
def IsRefApp (bf : Int) (L : List Ent) : Value → World → Prop := fun v W => ∃ s c, v = .tuple #[lv bf s L.length c, .int .i64 0] ∧ Ents W s L
theorem stableRefApp (bf : Int) (L : List Ent) : Stable (IsRefApp bf L) := fun _ _ _ ⟨s, c, h1, h2⟩ hb => ⟨s, c, h1, h2.below hb⟩
def IsRefLog (bf : Int) (L : List Ent) : Value → World → Prop := fun v W => ∃ s c, v = lv bf s L.length c ∧ Ents W s L
theorem stableRefLog (bf : Int) (L : List Ent) : Stable (IsRefLog bf L) := fun _ _ _ ⟨s, c, h1, h2⟩ hb => ⟨s, c, h1, h2.below hb⟩
/-- entries do not lie in a small block -/
theorem Ents.small {W : World} {s : Option Addr} {L : List Ent} (h : Ents W s L) {A : Nat} {cs : Array Value} {T : TypeId} (hN : W.heap[A]? = some (.cells cs T (0, 0))) (hz : cs.size < 4) (o : Nat) (v : Value) : Ents (W.setCell ⟨A, o, none⟩ v) s L := by
  intro i x hx
  obtain ⟨g, p, rfl, hg, c0, c1, c2, c3⟩ := h i x hx
  have hne : ¬ (A = g) := by
    intro e
    subst e
    rw [blk_cell hN] at c3
    have := (Array.getElem?_eq_some_iff.1 c3).1
    omega
  refine ⟨g, p, rfl, by simpa [World.setCell] using hg, ?_, ?_, ?_, ?_⟩
  · exact (World.cell?_setCell_other W ⟨A, o, none⟩ ⟨g, _, none⟩ v (by simp [hne])).trans c0
  · exact (World.cell?_setCell_other W ⟨A, o, none⟩ ⟨g, _, none⟩ v (by simp [hne])).trans c1
  · exact (World.cell?_setCell_other W ⟨A, o, none⟩ ⟨g, _, none⟩ v (by simp [hne])).trans c2
  · exact (World.cell?_setCell_other W ⟨A, o, none⟩ ⟨g, _, none⟩ v (by simp [hne])).trans c3
theorem refSame_nil (w : World) : Calls Try.prog 17 #[lv 0 none 0 0, lv 0 none 0 0] w fun e w' => e = .returned (.bool true) ∧ Below w.heap.size w w' :=
  refSame_any 0 0 [] [] (by simp) (by simp) none none 0 0 true ⟨fun _ => ⟨rfl, rfl⟩, fun _ => rfl⟩ w ownE_nil ownE_nil
end Go.Proofs.Ytclhbimlpamjiaa
