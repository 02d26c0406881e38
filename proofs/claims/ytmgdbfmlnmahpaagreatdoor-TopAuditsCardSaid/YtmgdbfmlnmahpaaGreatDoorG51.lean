/- Part of TopAudits. -/
import Derived.Test.YtmgdbfmlnmahpaaGreatDoorCards
import Derived.JoinedOf
import Derived.KernelRfl
namespace Go.Proofs.YtmgdbfmlnmahpaaGreatDoor.topAudits
theorem c0 :(Rows.topAuditsRow.wf (OpenSpec.ofChange Rows.topAuditsSpec))=true:=by kernel_rfl
theorem c1 :(laidOutB Tryz.prog)=true:=by kernel_rfl
theorem c2 :(mapsRowed Tryz.prog)=true:=by kernel_rfl
theorem c3 :(Tryz.f4.params.all (Tryz.prog.readableRec ·))=true:=by kernel_rfl
theorem c4 :(namedTie Tryz.prog Rows.topAuditsRow.named Rows.topAuditsSpec.vars)=true:=by kernel_rfl
theorem c5 :((Rows.topAuditsRow.stops==[]))=true:=by kernel_rfl
theorem c6 :((Tryz.prog.stops==[]))=true:=by kernel_rfl
theorem c7 :((Rows.topAuditsRow.knobs==[]))=true:=by kernel_rfl
theorem c8 :((Tryz.prog.stopKnobs==[]))=true:=by kernel_rfl
theorem c9 :((Rows.topAuditsRow.inPlace==Tryz.prog.inPlace 4))=true:=by kernel_rfl
theorem c10 :((Rows.topAuditsRow.unfollowed==Tryz.prog.unfollowed 4))=true:=by kernel_rfl
theorem c11 :((Rows.topAuditsRow.recurses==Tryz.prog.recurses 4))=true:=by kernel_rfl
theorem c12 :((Rows.topAuditsRow.named==Tryz.prog.varsNamed 4))=true:=by kernel_rfl
theorem c13 :((Rows.topAuditsRow.maps==(Tryz.f4.params.toList++Rows.topAuditsSpec.plain.varTypes Tryz.prog).any (Tryz.prog.mapsRec ·)))=true:=by kernel_rfl
theorem c14 :((Rows.topAuditsRow.ifaces==(Tryz.f4.params.toList++Rows.topAuditsSpec.plain.varTypes Tryz.prog).any (Tryz.prog.ifacesRec ·)))=true:=by kernel_rfl
theorem c15 :((Rows.topAuditsRow.mapsOut==Tryz.prog.mapsAmong Tryz.f4.resultTypes.toList))=true:=by kernel_rfl
theorem c16 :((Rows.topAuditsRow.loops==(Tryz.f4.params.toList++Rows.topAuditsSpec.plain.varTypes Tryz.prog).any (Tryz.prog.loopsFrom ·)))=true:=by kernel_rfl
theorem c17 :((Rows.topAuditsRow.wideKeys==(Tryz.f4.params.toList++Rows.topAuditsSpec.plain.varTypes Tryz.prog++Tryz.f4.resultTypes.toList).any (Tryz.prog.wideKeysFrom ·)))=true:=by kernel_rfl
theorem c18 :(Rows.topAuditsSpec.vars.all (Tryz.prog.varReadable ·))=true:=by kernel_rfl
theorem c19 :(Tryz.f4.resultTypes.all (λt=>Tryz.prog.readableRec t&&decide (t<Tryz.prog.types.size)))=true:=by kernel_rfl
theorem c20 :((Rows.topAuditsRow.ifacesOut==Tryz.f4.resultTypes.toList.any (Tryz.prog.ifacesRec ·)))=true:=by kernel_rfl
theorem c21 :((Rows.topAuditsRow.loopsOut==Tryz.f4.resultTypes.toList.any (Tryz.prog.loopsFrom ·)))=true:=by kernel_rfl
theorem c22 :((Rows.topAuditsRow.plainKeys==Tryz.prog.plainKeys))=true:=by kernel_rfl
theorem c23 :(Rows.topAuditsRow.shortTexts.isNone)=true:=by kernel_rfl
theorem c24 :(Tryz.prog.stopsHeard)=true:=by kernel_rfl
theorem c25 :(Tryz.prog.mayEnter)=true:=by kernel_rfl
theorem c26 :((Rows.topAuditsRow.lifted==Tryz.prog.liftsFinal))=true:=by kernel_rfl
theorem c27 :((Tryz.prog.make==some Rows.topAuditsRow.make))=true:=by kernel_rfl
theorem c28 :((Rows.topAuditsRow.kinds==(if Rows.topAuditsRow.domain.isEmpty then [] else Tryz.f4.params.toList.map λt=>match Tryz.prog.underlying t with|some (.int k)=>some k|_=>none)))=true:=by kernel_rfl
theorem c29 :((Rows.topAuditsRow.pinned==Rows.topAuditsRow.pinnedBy))=true:=by kernel_rfl
theorem c30 :((Rows.topAuditsRow.veiled==(Tryz.f4.params.toList++Rows.topAuditsSpec.plain.varTypes Tryz.prog++Tryz.f4.resultTypes.toList).any (Tryz.prog.veiledRec ·)))=true:=by kernel_rfl
theorem c31 :(Rows.topAuditsRow.veiledFits Tryz.prog Tryz.f4.params.toList (Tryz.f4.params.toList++Rows.topAuditsSpec.plain.varTypes Tryz.prog++Tryz.f4.resultTypes.toList))=true:=by kernel_rfl
theorem both {a b:Bool}(ha:a=true)(hb:b=true):(a&&b)=true:=by rw[ha,hb];rfl
end Go.Proofs.YtmgdbfmlnmahpaaGreatDoor.topAudits
namespace Go.Proofs.YtmgdbfmlnmahpaaGreatDoor.topAudits
set_option maxRecDepth 100000 in
theorem closed :joinedFacts Tryz.prog 4 Tryz.f4 Rows.topAuditsSpec Rows.topAuditsRow=true:=by
 unfold joinedFacts;refine both ?_ c31;refine both ?_ c30;refine both ?_ c29;refine both ?_ c28;refine both ?_ c27;refine both ?_ c26;refine both ?_ c25;refine both ?_ c24;refine both ?_ c23;refine both ?_ c22;refine both ?_ c21;refine both ?_ c20;refine both ?_ c19;refine both ?_ c18;refine both ?_ c17;refine both ?_ c16;refine both ?_ c15;refine both ?_ c14;refine both ?_ c13;refine both ?_ c12;refine both ?_ c11;refine both ?_ c10;refine both ?_ c9;refine both ?_ c8;refine both ?_ c7;refine both ?_ c6;refine both ?_ c5;refine both ?_ c4;refine both ?_ c3;refine both ?_ c2;refine both ?_ c1;exact c0
end Go.Proofs.YtmgdbfmlnmahpaaGreatDoor.topAudits
