/- Part of TopAudits. -/
import Derived.Test.YtmgdbfmlnmahpaaGreatDoorProg
import Derived.Lib.Builder
import Derived.Lib.AppendStr
import Derived.Laws.Entries
import Derived.WalkKit
import Derived.WalkLawsBesides
import Derived.WalkSpells
import Derived.Outline
import Derived.Lib.Hide
import Derived.Lib.SmallJoins
import Derived.Laws.OwnMore
import Derived.Shelf.Strings.Builder1
namespace Go.Proofs.YtmgdbfmlnmahpaaGreatDoor
set_option linter.unusedSimpArgs false
set_option linter.unusedVariables false
set_option maxRecDepth 100000
set_option maxHeartbeats 4000000
open Go.Proofs.Tryz
open Go.RowKit
theorem infoByte :(prog.info? 5).map (λi=>(i.zero,i.size,i.bytes))=some (some (.int .u8 0),1,1):=by kernel_rfl
theorem sizeBuilder :(prog.info? 286).map (·.size)=some 2:=by kernel_rfl
theorem liesBuilder :liesAt prog prog.depth 286 (2/prog.cellsOf 286) 0 286 1=true:=by kernel_rfl
set_option maxHeartbeats 1000000 in
set_option maxRecDepth 100000 in
theorem wF (b:Nat)(w:World)(h0:w.cell? ⟨b,0,none⟩=some (.pointer (some ⟨b,0,none⟩))):
  Calls prog 181 #[.pointer (some ⟨b,0,none⟩)] w λe w'=>e=.returned (.tuple #[])/\w'=w:=by
 obtain⟨j,hj,_⟩:=Option.map_eq_some_iff.1 sizeBuilder;go_enter func181,ntmps181
 go_wp2
 rw[Lib.run_neq_ptr_same w _ underlying284 hj]
 go_wp2
 go_end0;exact⟨rfl,rfl⟩
set_option maxHeartbeats 1000000 in
set_option maxRecDepth 100000 in
theorem vH (b:Nat)(w:World)(h0:w.cell? ⟨b,0,none⟩=some (.pointer none))(hsh:w.shape? b=some (286,2))(hfz:w.frozen? ⟨b,0,none⟩=false):
  Calls prog 181 #[.pointer (some ⟨b,0,none⟩)] w λe w'=>e=.returned (.tuple #[])/\w'=w.setCell ⟨b,0,none⟩ (.pointer (some ⟨b,0,none⟩)):=by
 obtain⟨j,hj,hjs⟩:=Option.map_eq_some_iff.1 sizeBuilder;go_enter func181,ntmps181
 go_wp2
 rw[Lib.run_to_unsafe w ⟨b,0,none⟩ underlying284 underlying352 hj (by rw[hjs];decide) hsh (Nat.zero_lt_succ 1)];simp only[Result.andThen];rw[Oper.upon_value]
 go_wp2
 rw[run_callFunc_extern func218 (by kernel_rfl) (by kernel_rfl) (by kernel_rfl) (e:=Extern.AbiNoEscape.same) (by kernel_rfl)];rw[Lib.run_noEscape];simp only[Result.andThen];rw[Oper.upon_value]
 go_wp2
 rw[Lib.run_from_unsafe w ⟨b,0,none⟩ underlying352 underlying284 hj hsh liesBuilder];simp only[Result.andThen];rw[Oper.upon_value]
 go_wp2
 go_end0;exact⟨rfl,rfl⟩
def Oth (b:Nat)(w w':World):Prop:=∀(k:Nat) (cs:Array Value) (T:TypeId) (fr:Nat×Nat),k≠b->T≠5->w.heap[k]? =some (.cells cs T fr)->w'.heap[k]? =some (.cells cs T fr)
theorem Oth.trans {b:Nat}{w w1 w2:World}(h:Oth b w w1)(k:Oth b w1 w2):Oth b w w2:=λi cs T fr hb hT he=>k i cs T fr hb hT (h i cs T fr hb hT he)
theorem Oth.refl (b:Nat)(w:World):Oth b w w:=λ_ _ _ _ _ _ h=>h
theorem pX {T e:TypeId}{B b:Nat}{bs:List Value}{w w':World}(h:Lib.IsBuilder T e B b bs w)(hb:Below w.heap.size w w'):Lib.IsBuilder T e B b bs w':=by
 have one:∀p,Lib.BuilderAt T e B b p bs w->Lib.BuilderAt T e B b p bs w':=by
  intro p hp;have hlt:=hp.lt;obtain⟨hB,v,hbk,hown,hne⟩:=hp;exact⟨hB,v,by rw[hb.block b hlt,hbk],hown.kept (row:=none) ⟨hb.os,hb.tape,hb.output,hb.size,λk hk _=>hb.block k hk⟩ (by cases hq:v.ownBlock<;>simp),hne⟩
 rcases h with h|h
 .exact .inl (one _ h)
 .exact .inr (one _ h)
theorem yX (B b:Nat)(bs:List Value)(w:World)(h:Lib.IsBuilder 286 5 B b bs w):
  Calls prog 181 #[.pointer (some ⟨b,0,none⟩)] w λe w'=>e=.returned (.tuple #[])/\(Lib.BuilderAt 286 5 B b (.pointer (some ⟨b,0,none⟩)) bs w'/\Below B w w'/\Oth b w w'):=by
 rcases h with h|h
 .refine(vH b w h.cell0 h.shape h.frozen0).mono ?_;rintro e w' ⟨rfl,rfl⟩;exact⟨rfl,h.used _,(Below.refl B w).setCell (p:=⟨b,0,none⟩) h.1 _,λk cs T fr hk _ he=>(Below.heap_setCell w ⟨b,0,none⟩ _ k hk).trans he⟩
 .refine(wF b w h.cell0).mono ?_;rintro e w' ⟨rfl,rfl⟩;exact⟨rfl,h,Below.refl B _,Oth.refl _ _⟩
set_option maxHeartbeats 2000000 in
set_option maxRecDepth 100000 in
theorem nF (B b:Nat)(bs:List Value)(s:ByteArray)(w:World)(h:Lib.IsBuilder 286 5 B b bs w)(hlen:bs.length+s.size<=140737488355328)(hBw:B<=w.heap.size):
  Calls prog 146 #[.pointer (some ⟨b,0,none⟩),.string s] w λe w'=>e=.returned (.tuple #[.int .i64 s.size,.nilIface])/\(Lib.IsBuilder 286 5 B b (bs++Lib.strCells s) w'/\Below B w w'/\Oth b w w'):=by
 obtain⟨i0,hi,hz0,hz1,hz2⟩:=info_parts infoByte;go_enter func146,ntmps146;go_wp2_with(go_at_call 181;refine(yX B b bs _ h).mono ?_);rintro e w1 ⟨rfl,h1,hb1,ho1⟩;obtain⟨hB,v,hbk,hown,hne⟩:=h1;have c0:w1.cell? ⟨b,0,none⟩=some (.pointer (some ⟨b,0,none⟩)):=by rw[Lib.cell_of_heap hbk];rfl
 have c1:w1.cell? ⟨b,1,none⟩=some v:=by rw[Lib.cell_of_heap hbk];rfl
 go_wp2_with(at_builtin;refine Lib.wpList_append_own_string _ rfl _ _ 117 9 rfl B 5 i0 underlying117 underlying9 hi hz0 hz1 hz2 _ _ _ rfl hown s rfl ?c3 ?c4 ?c5 ?_)
 case c3=>unfold maxLen;omega
 case c4=>omega
 case c5=>have:=hb1.size;omega
 intro v' w2 hown' hgrow _;have hlt:b<w1.heap.size:=by
  rcases Nat.lt_or_ge b w1.heap.size with h'|h'
  .exact h'
  .simp[Array.getElem?_eq_none h'] at hbk
 have hb2:w2.heap[b]? =some (.cells #[.pointer (some ⟨b,0,none⟩),v] 286 (0,0)):=by
  rw[hgrow.block b hlt (λe=>hne e.symm)];exact hbk
 have d0:w2.cell? ⟨b,0,none⟩=some (.pointer (some ⟨b,0,none⟩)):=by rw[Lib.cell_of_heap hb2];rfl
 have d1:w2.cell? ⟨b,1,none⟩=some v:=by rw[Lib.cell_of_heap hb2];rfl
 have f1:w2.frozen? ⟨b,1,none⟩=false:=Lib.frozen_of_heap hb2 1;obtain⟨ao,n',cap,rfl⟩:∃ao n' cap,v'=.slice ao n' cap:=by
  rcases hown'.2 with⟨hv,_⟩|⟨g,cap,cur,hv,_⟩
  .exact⟨_,_,_,hv⟩
  .exact⟨_,_,_,hv⟩
 go_wp2
 go_ret2;refine⟨rfl,.inr ?_,?_,?_⟩
 .exact Lib.BuilderAt.put (T:=286) (e:=5) hB hb2 (bs':=bs++Lib.strCells s) (by simpa[Lib.strCells_length] using hown') (by decide)
 .exact(hb1.grown hgrow (by have:=hb1.size;omega) (λk hk=>(hown.lt k hk).1)).setCell (p:=⟨b,1,none⟩) hB _
 .refine ho1.trans λk cs T fr hk hT he=> ?_;have hkl:k<w1.heap.size:=by
   rcases Nat.lt_or_ge k w1.heap.size with h'|h'
   .exact h'
   .simp[Array.getElem?_eq_none h'] at he
  rw[Below.heap_setCell _ ⟨b,1,none⟩ _ k hk,hgrow.block k hkl (λe=>Lib.ownBlock_ne hown he hT e.symm),he]
end Go.Proofs.YtmgdbfmlnmahpaaGreatDoor
