/- Part of TopAudits. -/
import Derived.Test.YtmgdbfmlnmahpaaGreatDoorChecked
import Derived.WalkKit
import Derived.LaidEql
import Derived.Stop.Asserts
import Derived.RowKitTokens
namespace Go.Proofs.YtmgdbfmlnmahpaaGreatDoor
set_option linter.unusedSimpArgs false
set_option linter.unusedVariables false
set_option maxRecDepth 100000
set_option maxHeartbeats 4000000
open Go.Proofs.Tryz
open Go.RowKit Go.Extern.Stop Go.Stop Go.Extern
theorem aCl (t:Addr)(w:World):(ReflectliteValue.unpack (.iface 323 (.pointer (some t)))).run prog w
  =.ok (.agg #[.pointer (some ⟨4,323,none⟩),.pointer (some ⟨w.heap.size,0,none⟩),.int .u64 150]) (w.alloc (.cells #[.pointer (some t)] 323)):=by kernel_rfl
theorem aK5 (a:Addr)(w:World):(ReflectliteValue.methodAny (ReflectliteValue.valueError "reflectlite.Value.Type" 0) (λt _ _ _=>ReflectliteType.toType t) #[.agg #[.pointer (some ⟨4,323,none⟩),.pointer (some a),.int .u64 150]]).run prog w
  =.ok (.iface 392 (.agg #[.pointer (some ⟨4,323,none⟩)])) w:=by kernel_rfl
theorem zE (h:Value)(w:World):(Go.method 620 392 (.agg #[h]) "Kind").run prog w=.ok (252,h) w:=by kernel_rfl
theorem aM1 (w:World):((ReflectliteType.abiMethod λt=>Functor.map (λa:Nat=>Value.int IntKind.u8 (a:Int)) (Rtype.kind t)) #[.pointer (some ⟨4,323,none⟩)]).run prog w=.ok (.int .u8 22) w:=by kernel_rfl
theorem aMy (w:World):((ReflectliteType.abiMethod λt=>Functor.map (λa:Nat=>Value.int IntKind.u8 (a:Int)) (Rtype.kind t)) #[.pointer (some ⟨4,193,none⟩)]).run prog w=.ok (.int .u8 22) w:=by kernel_rfl
theorem rlm (z:Sem Value)(f:TypeId->Addr->Nat->Nat->Sem Value)(v:Value):
  ReflectliteValue.method z f #[v]=(do match<-ReflectliteValue.parts v with|none=>z|some (t,a,fl)=>f t a fl (fl%32)):=rfl
theorem wD (a:Addr)(w:World):(ReflectliteValue.parts (.agg #[.pointer (some ⟨4,323,none⟩),.pointer (some a),.int .u64 150])).run prog w=.ok (some (323,a,150)) w:=by kernel_rfl
theorem aHt (a p:Addr)(W:World)(ha:W.cell? a=some (.pointer (some p))):
  (ReflectliteValue.method (ReflectliteValue.valueError "reflectlite.Value.IsNil" 0) ReflectliteValue.isNil #[.agg #[.pointer (some ⟨4,323,none⟩),.pointer (some a),.int .u64 150]]).run prog W=.ok (.bool false) W:=by
 rw[rlm];simp only[Sem.run_bind,wD,Result.andThen];simp[ReflectliteValue.isNil,loadVar,isAgg,underlying,underlying323,ha,Result.andThen]
theorem zJ (h:Value)(w:World):(Go.method 620 392 (.agg #[h]) "Elem").run prog w=.ok (366,.agg #[h]) w:=by kernel_rfl
theorem pQ (h:Value)(w:World):(Go.method 620 392 (.agg #[h]) "Implements").run prog w=.ok (367,.agg #[h]) w:=by kernel_rfl
theorem nK (h:Value)(w:World):(Go.method 620 392 (.agg #[h]) "AssignableTo").run prog w=.ok (364,.agg #[h]) w:=by kernel_rfl
theorem aM3 (w:World):(ReflectliteType.method ReflectliteType.elem #[.agg #[.pointer (some ⟨4,323,none⟩)]]).run prog w=.ok (.iface 392 (.agg #[.pointer (some ⟨4,193,none⟩)])) w:=by kernel_rfl
theorem vJ (w:World):(ReflectliteType.relation "Implements" ReflectliteType.implements_ #[.agg #[.pointer (some ⟨4,193,none⟩)],.iface 392 (.agg #[.pointer (some ⟨4,137,none⟩)])]).run prog w=.ok (.bool true) w:=by kernel_rfl
theorem aDv (v:Value)(w:World):(ReflectliteType.typeOf #[.iface 193 v]).run prog w=.ok (.iface 392 (.agg #[.pointer (some ⟨4,193,none⟩)])) w:=by kernel_rfl
theorem vE (w:World):(ReflectliteType.relation "AssignableTo" ReflectliteType.assignableTo #[.agg #[.pointer (some ⟨4,193,none⟩)],.iface 392 (.agg #[.pointer (some ⟨4,193,none⟩)])]).run prog w=.ok (.bool true) w:=by kernel_rfl
theorem aCe (e:Addr)(w:World):(ReflectliteValue.unpack (.iface 193 (.pointer (some e)))).run prog w
  =.ok (.agg #[.pointer (some ⟨4,193,none⟩),.pointer (some ⟨w.heap.size,0,none⟩),.int .u64 150]) (w.alloc (.cells #[.pointer (some e)] 193)):=by kernel_rfl
theorem aEs (w:World):(Rtype.elem? 323).run prog w=.ok (some 193) w:=by kernel_rfl
theorem aRy (p:Addr)(w:World):(ReflectliteValue.mk 193 p ReflectliteValue.flagAddr).run prog w=.ok (.agg #[.pointer (some ⟨4,193,none⟩),.pointer (some p),.int .u64 406]) w:=by kernel_rfl
theorem aHz (a p:Addr)(W:World)(ha:W.cell? a=some (.pointer (some p))):
  (ReflectliteValue.method (ReflectliteValue.valueError "reflectlite.Value.Elem" 0) ReflectliteValue.elem #[.agg #[.pointer (some ⟨4,323,none⟩),.pointer (some a),.int .u64 150]]).run prog W
   =.ok (.agg #[.pointer (some ⟨4,193,none⟩),.pointer (some p),.int .u64 406]) W:=by
 rw[rlm];simp only[Sem.run_bind,wD,Result.andThen];simp[ReflectliteValue.elem,loadVar,isAgg,underlying,underlying323,ha,Result.andThen,aEs,aRy]
theorem rls (v x:Value):ReflectliteValue.set #[v,x]=(do
  let(some (dst,a,fl),some (src,b,_)):=(<-ReflectliteValue.parts v,<-ReflectliteValue.parts x)
   |unsupported (.noEntry "extern/(internal/reflectlite.Value).Set.zeroValue")
  if fl/ReflectliteValue.flagAddr%2==0 then unsupported (.noEntry "extern/(internal/reflectlite.Value).Set.unaddressable")
  let val<-loadVar src b
  if<-Rtype.directlyAssignable dst src then storeVar dst a val
  else if<-Rtype.implements dst src then
   if(<-Rtype.kind src)==20 then
    match val with
    | .nilIface=>unsupported (.noEntry "extern/reflectlite: a nil value of one interface type handed on as a value of another")
    |_=>storeVar dst a val
   else storeVar dst a (.iface src val)
  else panicString ("reflectlite.Set: value of type " ++(<-Rtype.spelt src)++ " is not assignable to type " ++(<-Rtype.spelt dst))
  pure (.tuple #[])):=rfl
theorem aDa (a:Addr)(w:World):(ReflectliteValue.parts (.agg #[.pointer (some ⟨4,193,none⟩),.pointer (some a),.int .u64 406])).run prog w=.ok (some (193,a,406)) w:=by kernel_rfl
theorem aH8 (a:Addr)(w:World):(ReflectliteValue.parts (.agg #[.pointer (some ⟨4,193,none⟩),.pointer (some a),.int .u64 150])).run prog w=.ok (some (193,a,150)) w:=by kernel_rfl
theorem aEy (w:World):(Rtype.directlyAssignable 193 193).run prog w=.ok true w:=by kernel_rfl
theorem aO0 (ta b e:Addr)(old:Value)(W:World)(hb:W.cell? b=some (.pointer (some e)))(ht:W.cell? ta=some old)(hf:W.frozen? ta=false):
  (ReflectliteValue.set #[.agg #[.pointer (some ⟨4,193,none⟩),.pointer (some ta),.int .u64 406],.agg #[.pointer (some ⟨4,193,none⟩),.pointer (some b),.int .u64 150]]).run prog W
   =.ok (.tuple #[]) (W.setCell ta (.pointer (some e))):=by
 rw[rls];simp only[Sem.run_bind,aDa,aH8,Result.andThen];simp[ReflectliteValue.flagAddr,loadVar,isAgg,underlying,underlying193,hb,Result.andThen,aEy,storeVar,Value.cells,storeCells,Addr.add];rw[run_store prog W ta _ _ (by rfl)];simp[ht,hf]
set_option maxRecDepth 100000 in
set_option maxHeartbeats 4000000 in
theorem aSw (e t:Addr)(old:Value)(w:World)(hg:w.cell? ⟨1,0,none⟩=some (.iface 392 (.agg #[.pointer (some ⟨4,137,none⟩)])))(ht0:w.cell? t=some old)(hf0:w.frozen? t=false):
  Calls prog 172 #[.iface 193 (.pointer (some e)),.iface 323 (.pointer (some t))] w λev w'=>ev=.returned (.bool true)/\w'=((((w.alloc (.cells #[.pointer (some t)] 323)).alloc (.cells #[.pointer (some ⟨4,323,none⟩),.pointer (some ⟨w.heap.size,0,none⟩),.int .u64 150] 355)).alloc (.cells #[.pointer (some ⟨4,323,none⟩),.pointer (some ⟨w.heap.size,0,none⟩),.int .u64 150] 355)).alloc (.cells #[.pointer (some e)] 193)).setCell t (.pointer (some e)):=by
 have h6:= @run_callFunc_extern prog 209 _ (λargs=>ReflectliteValue.unpack (args.getD 0 (.tuple #[]))) func209 (by kernel_rfl) (by kernel_rfl) (by kernel_rfl) (by kernel_rfl);have h7:= @run_callFunc_extern prog 210 _ (ReflectliteValue.methodAny (ReflectliteValue.valueError "reflectlite.Value.Type" 0) (λt _ _ _=>ReflectliteType.toType t)) func210 (by kernel_rfl) (by kernel_rfl) (by kernel_rfl) (by kernel_rfl);have h8:= @run_callFunc_extern prog 211 _ (ReflectliteValue.method (ReflectliteValue.valueError "reflectlite.Value.IsNil" 0) ReflectliteValue.isNil) func211 (by kernel_rfl) (by kernel_rfl) (by kernel_rfl) (by kernel_rfl);have h27:= @run_callFunc_extern prog 252 _ (ReflectliteType.abiMethod λt=>do pure (.int .u8 (<-Rtype.kind t))) func252 (by kernel_rfl) (by kernel_rfl) (by kernel_rfl) (by kernel_rfl);have h37:= @run_callFunc_extern prog 366 _ (ReflectliteType.method ReflectliteType.elem) func366 (by kernel_rfl) (by kernel_rfl) (by kernel_rfl) (by kernel_rfl);have h38:= @run_callFunc_extern prog 367 _ (ReflectliteType.relation "Implements" ReflectliteType.implements_) func367 (by kernel_rfl) (by kernel_rfl) (by kernel_rfl) (by kernel_rfl);have h10:= @run_callFunc_extern prog 230 _ ReflectliteType.typeOf func230 (by kernel_rfl) (by kernel_rfl) (by kernel_rfl) (by kernel_rfl);have h35:= @run_callFunc_extern prog 364 _ (ReflectliteType.relation "AssignableTo" ReflectliteType.assignableTo) func364 (by kernel_rfl) (by kernel_rfl) (by kernel_rfl) (by kernel_rfl);have h11:= @run_callFunc_extern prog 231 _ (ReflectliteValue.method (ReflectliteValue.valueError "reflectlite.Value.Elem" 0) ReflectliteValue.elem) func231 (by kernel_rfl) (by kernel_rfl) (by kernel_rfl) (by kernel_rfl)
 have h12:= @run_callFunc_extern prog 232 _ ReflectliteValue.set func232 (by kernel_rfl) (by kernel_rfl) (by kernel_rfl) (by kernel_rfl);have tO:=aDv;have mA:=nK;have a25:=vE;have v25:=aCe;have f6:=aCl;have f7:=aK5;have mK:=zE;have mE:=zJ;have mI:=pQ;have k27:=aM1;have k25:=aMy;have e27:=aM3;have i25:=vJ;have n8:=aHt ⟨w.heap.size,0,none⟩ t ((w.alloc (.cells #[.pointer (some t)] 323)).alloc (.cells #[.pointer (some ⟨4,323,none⟩),.pointer (some ⟨w.heap.size,0,none⟩),.int .u64 150] 355)) (by simp);have hlt:1<w.heap.size:=by
  rcases Nat.lt_or_ge 1 w.heap.size with h|h
  .exact h
  .simp[World.cell?,Array.getElem?_eq_none h] at hg
 have hg2:((w.alloc (.cells #[.pointer (some t)] 323)).alloc (.cells #[.pointer (some ⟨4,323,none⟩),.pointer (some ⟨w.heap.size,0,none⟩),.int .u64 150] 355)).cell? ⟨1,0,none⟩=some (.iface 392 (.agg #[.pointer (some ⟨4,137,none⟩)])):=by
  rw[World.cell?_alloc_lt _ _ ⟨1,0,none⟩ (by simp;omega),World.cell?_alloc_lt _ _ ⟨1,0,none⟩ hlt];exact hg
 have htl:t.block<w.heap.size:=by
  rcases Nat.lt_or_ge t.block w.heap.size with h|h
  .exact h
  .simp[World.cell?,Array.getElem?_eq_none h] at ht0
 have el:=aHz ⟨w.heap.size,0,none⟩ t (((w.alloc (.cells #[.pointer (some t)] 323)).alloc (.cells #[.pointer (some ⟨4,323,none⟩),.pointer (some ⟨w.heap.size,0,none⟩),.int .u64 150] 355)).alloc (.cells #[.pointer (some ⟨4,323,none⟩),.pointer (some ⟨w.heap.size,0,none⟩),.int .u64 150] 355)) (by rw[World.cell?_alloc_lt _ _ ⟨w.heap.size,0,none⟩ (by simp;omega)];simp);have st:=aO0 t ⟨w.heap.size+1+1+1,0,none⟩ e old ((((w.alloc (.cells #[.pointer (some t)] 323)).alloc (.cells #[.pointer (some ⟨4,323,none⟩),.pointer (some ⟨w.heap.size,0,none⟩),.int .u64 150] 355)).alloc (.cells #[.pointer (some ⟨4,323,none⟩),.pointer (some ⟨w.heap.size,0,none⟩),.int .u64 150] 355)).alloc (.cells #[.pointer (some e)] 193))
  (by rw[World.cell?_alloc_at _ _ _ _ (by simp)];rfl)
  (by rw[World.cell?_alloc_lt _ _ t (by simp;omega),World.cell?_alloc_lt _ _ t (by simp;omega),World.cell?_alloc_lt _ _ t (by simp;omega),World.cell?_alloc_lt _ _ t htl];exact ht0)
  (by rw[World.frozen?_alloc_old _ _ t (by simp;omega),World.frozen?_alloc_old _ _ t (by simp;omega),World.frozen?_alloc_old _ _ t (by simp;omega),World.frozen?_alloc_old _ _ t (Nat.ne_of_lt htl)];exact hf0)
 go_enter func172,ntmps172
 go_wp2
 refine wp_loop_rounds 1 ?_;rw[rounds_succ]
 go_wp2
 go_ret;exact⟨rfl,rfl⟩
end Go.Proofs.YtmgdbfmlnmahpaaGreatDoor
