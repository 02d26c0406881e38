/- A part of the proof of TopCounts. -/
import Derived.Test.YtmgdbfmlnmahpaaGreatDoorCards
import Derived.JoinedOf
import Derived.KernelRfl
namespace Go.Proofs.YtmgdbfmlnmahpaaGreatDoor.topCounts
theorem c0 : (Rows.topCountsRow.wf (OpenSpec.ofChange Rows.topCountsSpec)) = true := by kernel_rfl
theorem c1 : (laidOutB Tryz.prog) = true := by kernel_rfl
theorem c2 : (mapsRowed Tryz.prog) = true := by kernel_rfl
theorem c3 : (Tryz.f3.params.all (Tryz.prog.readableRec ·)) = true := by kernel_rfl
theorem c4 : (namedTie Tryz.prog Rows.topCountsRow.named Rows.topCountsSpec.vars) = true := by kernel_rfl
theorem c5 : ((Rows.topCountsRow.stops == [])) = true := by kernel_rfl
theorem c6 : ((Tryz.prog.stops == [])) = true := by kernel_rfl
theorem c7 : ((Rows.topCountsRow.knobs == [])) = true := by kernel_rfl
theorem c8 : ((Tryz.prog.stopKnobs == [])) = true := by kernel_rfl
theorem c9 : ((Rows.topCountsRow.inPlace == Tryz.prog.inPlace 3)) = true := by kernel_rfl
theorem c10 : ((Rows.topCountsRow.unfollowed == Tryz.prog.unfollowed 3)) = true := by kernel_rfl
theorem c11 : ((Rows.topCountsRow.recurses == Tryz.prog.recurses 3)) = true := by kernel_rfl
theorem c12 : ((Rows.topCountsRow.named == Tryz.prog.varsNamed 3)) = true := by kernel_rfl
theorem c13 : ((Rows.topCountsRow.maps == (Tryz.f3.params.toList ++ Rows.topCountsSpec.plain.varTypes Tryz.prog).any (Tryz.prog.mapsRec ·))) = true := by kernel_rfl
theorem c14 : ((Rows.topCountsRow.ifaces == (Tryz.f3.params.toList ++ Rows.topCountsSpec.plain.varTypes Tryz.prog).any (Tryz.prog.ifacesRec ·))) = true := by kernel_rfl
theorem c15 : ((Rows.topCountsRow.mapsOut == Tryz.prog.mapsAmong Tryz.f3.resultTypes.toList)) = true := by kernel_rfl
theorem c16 : ((Rows.topCountsRow.loops == (Tryz.f3.params.toList ++ Rows.topCountsSpec.plain.varTypes Tryz.prog).any (Tryz.prog.loopsFrom ·))) = true := by kernel_rfl
theorem c17 : ((Rows.topCountsRow.wideKeys == (Tryz.f3.params.toList ++ Rows.topCountsSpec.plain.varTypes Tryz.prog ++ Tryz.f3.resultTypes.toList).any (Tryz.prog.wideKeysFrom ·))) = true := by kernel_rfl
theorem c18 : (Rows.topCountsSpec.vars.all (Tryz.prog.varReadable ·)) = true := by kernel_rfl
theorem c19 : (Tryz.f3.resultTypes.all (fun t => Tryz.prog.readableRec t && decide (t < Tryz.prog.types.size))) = true := by kernel_rfl
theorem c20 : ((Rows.topCountsRow.ifacesOut == Tryz.f3.resultTypes.toList.any (Tryz.prog.ifacesRec ·))) = true := by kernel_rfl
theorem c21 : ((Rows.topCountsRow.loopsOut == Tryz.f3.resultTypes.toList.any (Tryz.prog.loopsFrom ·))) = true := by kernel_rfl
theorem c22 : ((Rows.topCountsRow.plainKeys == Tryz.prog.plainKeys)) = true := by kernel_rfl
theorem c23 : (Rows.topCountsRow.shortTexts.isNone) = true := by kernel_rfl
theorem c24 : (Tryz.prog.stopsHeard) = true := by kernel_rfl
theorem c25 : (Tryz.prog.mayEnter) = true := by kernel_rfl
theorem c26 : ((Rows.topCountsRow.lifted == Tryz.prog.liftsFinal)) = true := by kernel_rfl
theorem c27 : ((Tryz.prog.make == some Rows.topCountsRow.make)) = true := by kernel_rfl
theorem c28 : ((Rows.topCountsRow.kinds == (if Rows.topCountsRow.domain.isEmpty then [] else Tryz.f3.params.toList.map fun t => match Tryz.prog.underlying t with | some (.int k) => some k | _ => none))) = true := by kernel_rfl
theorem c29 : ((Rows.topCountsRow.pinned == Rows.topCountsRow.pinnedBy)) = true := by kernel_rfl
theorem c30 : ((Rows.topCountsRow.veiled == (Tryz.f3.params.toList ++ Rows.topCountsSpec.plain.varTypes Tryz.prog ++ Tryz.f3.resultTypes.toList).any (Tryz.prog.veiledRec ·))) = true := by kernel_rfl
theorem c31 : (Rows.topCountsRow.veiledFits Tryz.prog Tryz.f3.params.toList (Tryz.f3.params.toList ++ Rows.topCountsSpec.plain.varTypes Tryz.prog ++ Tryz.f3.resultTypes.toList)) = true := by kernel_rfl
theorem both {a b : Bool} (ha : a = true) (hb : b = true) : (a && b) = true := by rw [ha, hb]; rfl
end Go.Proofs.YtmgdbfmlnmahpaaGreatDoor.topCounts
namespace Go.Proofs.YtmgdbfmlnmahpaaGreatDoor.topCounts
set_option maxRecDepth 100000 in
theorem closed : joinedFacts Tryz.prog 3 Tryz.f3 Rows.topCountsSpec Rows.topCountsRow = true := by
  unfold joinedFacts
  refine both ?_ c31
  refine both ?_ c30
  refine both ?_ c29
  refine both ?_ c28
  refine both ?_ c27
  refine both ?_ c26
  refine both ?_ c25
  refine both ?_ c24
  refine both ?_ c23
  refine both ?_ c22
  refine both ?_ c21
  refine both ?_ c20
  refine both ?_ c19
  refine both ?_ c18
  refine both ?_ c17
  refine both ?_ c16
  refine both ?_ c15
  refine both ?_ c14
  refine both ?_ c13
  refine both ?_ c12
  refine both ?_ c11
  refine both ?_ c10
  refine both ?_ c9
  refine both ?_ c8
  refine both ?_ c7
  refine both ?_ c6
  refine both ?_ c5
  refine both ?_ c4
  refine both ?_ c3
  refine both ?_ c2
  refine both ?_ c1
  exact c0
end Go.Proofs.YtmgdbfmlnmahpaaGreatDoor.topCounts
