/- Part of TopAudits. -/
import Derived.Test.YtmgdbfmlnmahpaaGreatDoorG17
namespace Go.Proofs.YtmgdbfmlnmahpaaGreatDoor
set_option linter.unusedSimpArgs false
set_option linter.unusedVariables false
set_option maxRecDepth 100000
set_option maxHeartbeats 4000000
open Go.Proofs.Tryz
open Go.RowKit Go.Shelf
def aR.a :Sk->aR->Value
 | .dist L,h=>.agg #[h.e.v L.length]
 | .reg j R,h=>.agg #[.int .i64 ((8-j:Nat):Int),.string R]
 | .cnt j L,h=>.agg #[.int .i64 2,.int .i64 (bM j:Int),h.c.v L.length]
 | .hst j l,h=>.agg #[.int .i64 ((3-j:Nat):Int),h.g.v l.length]
def Sk.bt :Sk->Nat
 | .dist _=>268
 | .reg _ _=>271
 | .cnt _ _=>272
 | .hst _ _=>274
abbrev aR.b (x:Sk)(h:aR):Value:=.iface x.bt (h.a x)
theorem aBq (L:List Nat)(hx:Sk.Ok (.dist L))(h:aR)(w:World)(hK:bW w (.dist L) h):
  Calls prog 132 #[h.v (.dist L)] w λe w'=>e=.returned (.tuple #[h.b (.dist L),.bool true])/\Below w.heap.size w w':=by
 obtain⟨⟨es,ec⟩,⟨cs,cc⟩,⟨gs,gc⟩⟩:=h;show Calls prog 132 #[.agg #[.int .i64 1,.int .i64 0,.slice es L.length ec,.int .i64 0,.string ⟨#[]⟩,.int .i64 0,.int .i64 0,.slice cs 0 cc,.int .i64 0,.slice gs 0 gc]] w λe w'=>e=.returned (.tuple #[.iface 268 (.agg #[.slice es L.length ec]),.bool true])/\Below w.heap.size w w';obtain⟨hx1,hx2,hx3⟩:=hx;have HR:=aA (λW hW=>iN L hx1 es ec (by omega) hK.e.cap W (hK.e.rd.aWu aH hW));clear hx1 hx2 hx3 hK;have st:=(St.start w).alloc (cs:= #[.int .i64 1,.int .i64 0,.slice es L.length ec,.int .i64 0,.string ⟨#[]⟩,.int .i64 0,.int .i64 0,.slice cs 0 cc,.int .i64 0,.slice gs 0 gc]) (T:=203);go_enter func132,ntmps132;go_wp2_with fail;obtain⟨bl2,E2,hne2,sh2,rl,hEx,hbx,hst⟩:=st.aW1;simp only[aI,World.size_alloc] at rl;refine aZ sh2 (by kernel_rfl) (by kernel_rfl) ?_
 repeat(first|go_big_quiet_step ((go_at_call 174;exact Cs.call (HR.out _ (hbx _).out)))|quiet_step ((go_at_call 174;exact Cs.call (HR.out _ (hbx _).out))))
 refine wpQuiet_nil ?_;intro y;have st4:=(hst y).out;clear hbx rl hst sh2 hEx st;generalize y.W=w4 at*;have hb:=st4.below;have rl:=st4.rl;go_wp2_with fail;go_ret2;exact⟨rfl,hb⟩
theorem aEm (j:Nat)(R:ByteArray)(hx:Sk.Ok (.reg j R))(h:aR)(w:World)(hK:bW w (.reg j R) h):
  Calls prog 132 #[h.v (.reg j R)] w λe w'=>e=.returned (.tuple #[h.b (.reg j R),.bool true])/\Below w.heap.size w w':=by
 obtain⟨⟨es,ec⟩,⟨cs,cc⟩,⟨gs,gc⟩⟩:=h;show Calls prog 132 #[.agg #[.int .i64 1,.int .i64 j,.slice es 0 ec,.int .i64 ((8-j:Nat):Int),.string R,.int .i64 0,.int .i64 0,.slice cs 0 cc,.int .i64 0,.slice gs 0 gc]] w λe w'=>e=.returned (.tuple #[.iface 271 (.agg #[.int .i64 ((8-j:Nat):Int),.string R]),.bool true])/\Below w.heap.size w w';obtain⟨hj,hR⟩:=hx;have HR:=aA (λW (hW:Below w.heap.size w W)=>gP (mG hj) R hR W);have st:=(St.start w).alloc (cs:= #[.int .i64 1,.int .i64 j,.slice es 0 ec,.int .i64 ((8-j:Nat):Int),.string R,.int .i64 0,.int .i64 0,.slice cs 0 cc,.int .i64 0,.slice gs 0 gc]) (T:=203);obtain⟨h1,h2⟩:=hj;clear hK hR;rcases(show j=1\/j=2\/j=3\/j=4 by omega) with rfl|rfl|rfl|rfl
 all_goals
  simp only[Nat.reduceSub,Int.cast_ofNat_Int,bM,Nat.reducePow,Nat.reduceDiv] at*;go_enter func132,ntmps132;go_wp2_with fail;obtain⟨bl2,E2,hne2,sh2,rl,hEx,hbx,hst⟩:=st.aW1;simp only[aI,World.size_alloc] at rl;refine aZ sh2 (by kernel_rfl) (by kernel_rfl) ?_
  repeat(first|go_big_quiet_step ((go_at_call 175;exact Cs.call (HR.out _ (hbx _).out)))|quiet_step ((go_at_call 175;exact Cs.call (HR.out _ (hbx _).out))))
  refine wpQuiet_nil ?_;intro y;have st4:=(hst y).out;clear hbx rl hst sh2 hEx st;generalize y.W=w4 at*;have hb:=st4.below;have rl:=st4.rl;go_wp2_with fail;go_ret2;exact⟨rfl,hb⟩
theorem aEc (j:Nat)(L:List Nat)(hx:Sk.Ok (.cnt j L))(h:aR)(w:World)(hK:bW w (.cnt j L) h):
  Calls prog 133 #[h.v (.cnt j L)] w λe w'=>e=.returned (.tuple #[h.b (.cnt j L),.bool true])/\Below w.heap.size w w':=by
 obtain⟨⟨es,ec⟩,⟨cs,cc⟩,⟨gs,gc⟩⟩:=h;show Calls prog 133 #[.agg #[.int .i64 2,.int .i64 j,.slice es 0 ec,.int .i64 0,.string ⟨#[]⟩,.int .i64 2,.int .i64 (bM j:Int),.slice cs L.length cc,.int .i64 0,.slice gs 0 gc]] w λe w'=>e=.returned (.tuple #[.iface 272 (.agg #[.int .i64 2,.int .i64 (bM j:Int),.slice cs L.length cc]),.bool true])/\Below w.heap.size w w';obtain⟨hj,-,hl⟩:=hx;have HR:=aA (λW (hW:Below w.heap.size w W)=>iX (pB hj) cs cc W);rw[<-hl] at HR;generalize L.length=n at*;have st:=(St.start w).alloc (cs:= #[.int .i64 2,.int .i64 j,.slice es 0 ec,.int .i64 0,.string ⟨#[]⟩,.int .i64 2,.int .i64 (bM j:Int),.slice cs n cc,.int .i64 0,.slice gs 0 gc]) (T:=203);clear hK hl;rcases(show j=0\/j=1\/j=2\/j=3 by omega) with rfl|rfl|rfl|rfl
 all_goals
  simp only[Nat.reduceSub,Int.cast_ofNat_Int,bM,Nat.reducePow,Nat.reduceDiv] at*;go_enter func133,ntmps133;go_wp2_with fail;obtain⟨bl2,E2,hne2,sh2,rl,hEx,hbx,hst⟩:=st.aW1;simp only[aI,World.size_alloc] at rl;refine aZ sh2 (by kernel_rfl) (by kernel_rfl) ?_
  repeat(first|go_big_quiet_step ((go_at_call 176;exact Cs.call (HR.out _ (hbx _).out)))|quiet_step ((go_at_call 176;exact Cs.call (HR.out _ (hbx _).out))))
  refine wpQuiet_nil ?_;intro y;have st4:=(hst y).out;clear hbx rl hst sh2 hEx st;generalize y.W=w4 at*;have hb:=st4.below;have rl:=st4.rl;go_wp2_with fail;go_ret2;exact⟨rfl,hb⟩
theorem aC5 (j:Nat)(l:List (Nat×Nat))(hx:Sk.Ok (.hst j l))(h:aR)(w:World)(hK:bW w (.hst j l) h):
  Calls prog 134 #[h.v (.hst j l)] w λe w'=>e=.returned (.tuple #[h.b (.hst j l),.bool true])/\Below w.heap.size w w':=by
 obtain⟨⟨es,ec⟩,⟨cs,cc⟩,⟨gs,gc⟩⟩:=h;show Calls prog 134 #[.agg #[.int .i64 3,.int .i64 j,.slice es 0 ec,.int .i64 0,.string ⟨#[]⟩,.int .i64 0,.int .i64 0,.slice cs 0 cc,.int .i64 ((3-j:Nat):Int),.slice gs l.length gc]] w λe w'=>e=.returned (.tuple #[.iface 274 (.agg #[.int .i64 ((3-j:Nat):Int),.slice gs l.length gc]),.bool true])/\Below w.heap.size w w';obtain⟨hj,hl⟩:=hx;have HR:=aA (λW hW=>iL (show 3-j<=3 by omega) l hl gs gc (by have:=(fU (by omega) hl).2;omega) hK.g.cap W (hK.g.rd.aWu aH hW));have st:=(St.start w).alloc (cs:= #[.int .i64 3,.int .i64 j,.slice es 0 ec,.int .i64 0,.string ⟨#[]⟩,.int .i64 0,.int .i64 0,.slice cs 0 cc,.int .i64 ((3-j:Nat):Int),.slice gs l.length gc]) (T:=203);clear hK hl;rcases(show j=0\/j=1\/j=2\/j=3 by omega) with rfl|rfl|rfl|rfl
 all_goals
  simp only[Nat.reduceSub,Int.cast_ofNat_Int,bM,Nat.reducePow,Nat.reduceDiv] at*;go_enter func134,ntmps134;go_wp2_with fail;obtain⟨bl2,E2,hne2,sh2,rl,hEx,hbx,hst⟩:=st.aW1;simp only[aI,World.size_alloc] at rl;refine aZ sh2 (by kernel_rfl) (by kernel_rfl) ?_
  repeat(first|go_big_quiet_step ((go_at_call 177;exact Cs.call (HR.out _ (hbx _).out)))|quiet_step ((go_at_call 177;exact Cs.call (HR.out _ (hbx _).out))))
  refine wpQuiet_nil ?_;intro y;have st4:=(hst y).out;clear hbx rl hst sh2 hEx st;generalize y.W=w4 at*;have hb:=st4.below;have rl:=st4.rl;go_wp2_with fail;go_ret2;exact⟨rfl,hb⟩
@[go_sem] theorem aSg (v:Value)(w:World):(Instr.typeAssert (.iface 268 v) 133 268 false).run prog w=.ok v w:=by kernel_rfl
@[go_sem] theorem aG0 (v:Value)(w:World):(Instr.typeAssert (.iface 268 v) 133 268 true).run prog w=.ok (.tuple #[v,.bool true]) w:=by kernel_rfl
@[go_sem] theorem aD5 (v:Value)(w:World):(Instr.typeAssert (.iface 268 v) 133 271 true).run prog w=.ok (.tuple #[.agg #[.int .i64 0,.string ⟨#[]⟩],.bool false]) w:=by kernel_rfl
@[go_sem] theorem aFv (v:Value)(w:World):(Instr.typeAssert (.iface 268 v) 133 272 true).run prog w=.ok (.tuple #[.agg #[.int .i64 0,.int .i64 0,.slice none 0 0],.bool false]) w:=by kernel_rfl
@[go_sem] theorem aH4 (v:Value)(w:World):(Instr.typeAssert (.iface 268 v) 133 274 true).run prog w=.ok (.tuple #[.agg #[.int .i64 0,.slice none 0 0],.bool false]) w:=by kernel_rfl
@[go_sem] theorem aQf (v:Value)(w:World):(Instr.typeAssert (.iface 271 v) 133 271 false).run prog w=.ok v w:=by kernel_rfl
@[go_sem] theorem aDc (v:Value)(w:World):(Instr.typeAssert (.iface 271 v) 133 268 true).run prog w=.ok (.tuple #[.agg #[.slice none 0 0],.bool false]) w:=by kernel_rfl
@[go_sem] theorem aB7 (v:Value)(w:World):(Instr.typeAssert (.iface 271 v) 133 271 true).run prog w=.ok (.tuple #[v,.bool true]) w:=by kernel_rfl
@[go_sem] theorem aCs (v:Value)(w:World):(Instr.typeAssert (.iface 271 v) 133 272 true).run prog w=.ok (.tuple #[.agg #[.int .i64 0,.int .i64 0,.slice none 0 0],.bool false]) w:=by kernel_rfl
@[go_sem] theorem aEf (v:Value)(w:World):(Instr.typeAssert (.iface 271 v) 133 274 true).run prog w=.ok (.tuple #[.agg #[.int .i64 0,.slice none 0 0],.bool false]) w:=by kernel_rfl
@[go_sem] theorem aQn (v:Value)(w:World):(Instr.typeAssert (.iface 272 v) 133 272 false).run prog w=.ok v w:=by kernel_rfl
@[go_sem] theorem aFy (v:Value)(w:World):(Instr.typeAssert (.iface 272 v) 133 268 true).run prog w=.ok (.tuple #[.agg #[.slice none 0 0],.bool false]) w:=by kernel_rfl
@[go_sem] theorem aCr (v:Value)(w:World):(Instr.typeAssert (.iface 272 v) 133 271 true).run prog w=.ok (.tuple #[.agg #[.int .i64 0,.string ⟨#[]⟩],.bool false]) w:=by kernel_rfl
@[go_sem] theorem aCw (v:Value)(w:World):(Instr.typeAssert (.iface 272 v) 133 272 true).run prog w=.ok (.tuple #[v,.bool true]) w:=by kernel_rfl
@[go_sem] theorem aFx (v:Value)(w:World):(Instr.typeAssert (.iface 272 v) 133 274 true).run prog w=.ok (.tuple #[.agg #[.int .i64 0,.slice none 0 0],.bool false]) w:=by kernel_rfl
@[go_sem] theorem aSl (v:Value)(w:World):(Instr.typeAssert (.iface 274 v) 133 274 false).run prog w=.ok v w:=by kernel_rfl
@[go_sem] theorem aGu (v:Value)(w:World):(Instr.typeAssert (.iface 274 v) 133 268 true).run prog w=.ok (.tuple #[.agg #[.slice none 0 0],.bool false]) w:=by kernel_rfl
@[go_sem] theorem aEe (v:Value)(w:World):(Instr.typeAssert (.iface 274 v) 133 271 true).run prog w=.ok (.tuple #[.agg #[.int .i64 0,.string ⟨#[]⟩],.bool false]) w:=by kernel_rfl
@[go_sem] theorem aFw (v:Value)(w:World):(Instr.typeAssert (.iface 274 v) 133 272 true).run prog w=.ok (.tuple #[.agg #[.int .i64 0,.int .i64 0,.slice none 0 0],.bool false]) w:=by kernel_rfl
@[go_sem] theorem aIn (v:Value)(w:World):(Instr.typeAssert (.iface 274 v) 133 274 true).run prog w=.ok (.tuple #[v,.bool true]) w:=by kernel_rfl
abbrev aR.w (x:Sk)(h:aR):Value:=.agg #[h.b x,.int .i64 x.kind,.int .i64 x.lev]
theorem wQ (L:List Nat)(hx:Sk.Ok (.dist L))(h:aR)(w:World)(hK:bW w (.dist L) h):
  Calls prog 89 #[h.w (.dist L)] w (qR w (·=(.dist L))):=by
 have HX:=aA hx;obtain⟨⟨es,ec⟩,⟨cs,cc⟩,⟨gs,gc⟩⟩:=h;have hlen:L.length<=64:=hx.len.1;show Calls prog 89 #[.agg #[.iface 268 (.agg #[.slice es L.length ec]),.int .i64 1,.int .i64 0]] w _;have st0:=((((St.start w).alloc (cs:= #[.iface 268 (.agg #[.slice es L.length ec]),.int .i64 1,.int .i64 0]) (T:=135)).alloc (cs:= #[.int .i64 0,.int .i64 0,.slice none 0 0,.int .i64 0,.string ⟨#[]⟩,.int .i64 0,.int .i64 0,.slice none 0 0,.int .i64 0,.slice none 0 0]) (T:=103)).alloc (cs:= #[.int .i64 1,.int .i64 0,.slice none 0 0,.int .i64 0,.string ⟨#[]⟩,.int .i64 0,.int .i64 0,.slice none 0 0,.int .i64 0,.slice none 0 0]) (T:=103)).alloc (cs:= #[.slice es L.length ec]) (T:=268);simp only[World.size_alloc] at st0;clear hx;go_enter func89,ntmps89;go_wp2_with fail;refine(fJ L (by omega) ⟨es,ec⟩ _ (hK.e.aWu st0.below)).mono ?_;rintro e w1 ⟨⟨ds,dc⟩,rfl,hd,hf,hb1⟩;have st1:=st0.to hb1;have hlt:=st1.below.size;have hB:w.heap.size+1+1+1<w1.heap.size:=aC (st1.blk (w.heap.size+1+1+1,#[.slice es L.length ec],268) (by simp));have HD:=aA hd;have HF:=hf.mono (show w.heap.size+1+1+1<=_ by simp);have rl:=st1.rl;clear st0 hb1 hK hd hf;change aT (w.heap.size+1+1+1) ⟨ds,dc⟩ at HF;go_wp2_with fail;refine bodyPost_ret (v:=.agg #[.int .i64 1,.int .i64 0,.slice ds L.length dc,.int .i64 0,.string ⟨#[]⟩,.int .i64 0,.int .i64 0,.slice none 0 0,.int .i64 0,.slice none 0 0]) (by simp[results,results89,go_sem,rl]) rfl ⟨_,⟨⟨ds,dc⟩,⟨none,0⟩,⟨none,0⟩⟩,⟨rfl,HX.out⟩,rfl,?_,?_,?_⟩
 .refine⟨bS.up HD.out HF ?_,bS.none _,bS.none _⟩
  repeat(with_reducible refine aM.set ?_ (by omega) _)
  exact aM.refl _ _
 .have HF:=HF.mono (show w.heap.size<=w.heap.size+1+1+1 by omega);exact⟨HF,aT.none _,aT.none _⟩
 .repeat(with_reducible refine Below.setCell ?_ (by simp;try omega) _)
  exact st1.below
theorem zF (j:Nat)(L:List Nat)(hx:Sk.Ok (.cnt j L))(h:aR)(w:World)(hK:bW w (.cnt j L) h):
  Calls prog 89 #[h.w (.cnt j L)] w (qR w (·=(.cnt j L))):=by
 have HX:=aA hx;obtain⟨⟨es,ec⟩,⟨cs,cc⟩,⟨gs,gc⟩⟩:=h;have hlen:L.length<=64:=hx.len.2.1;show Calls prog 89 #[.agg #[.iface 272 (.agg #[.int .i64 2,.int .i64 (bM j:Int),.slice cs L.length cc]),.int .i64 2,.int .i64 j]] w _;have st0:=((((St.start w).alloc (cs:= #[.iface 272 (.agg #[.int .i64 2,.int .i64 (bM j:Int),.slice cs L.length cc]),.int .i64 2,.int .i64 j]) (T:=135)).alloc (cs:= #[.int .i64 0,.int .i64 0,.slice none 0 0,.int .i64 0,.string ⟨#[]⟩,.int .i64 0,.int .i64 0,.slice none 0 0,.int .i64 0,.slice none 0 0]) (T:=103)).alloc (cs:= #[.int .i64 2,.int .i64 j,.slice none 0 0,.int .i64 0,.string ⟨#[]⟩,.int .i64 2,.int .i64 (bM j:Int),.slice cs L.length cc,.int .i64 0,.slice none 0 0]) (T:=103)).alloc (cs:= #[.int .i64 2,.int .i64 (bM j:Int),.slice cs L.length cc]) (T:=272);simp only[World.size_alloc] at st0;clear hx;go_enter func89,ntmps89;go_wp2_with fail;refine(fJ L (by omega) ⟨cs,cc⟩ _ (hK.c.aWu st0.below)).mono ?_;rintro e w1 ⟨⟨ds,dc⟩,rfl,hd,hf,hb1⟩;have st1:=st0.to hb1;have hlt:=st1.below.size;have hB:w.heap.size+1+1+1<w1.heap.size:=aC (st1.blk (w.heap.size+1+1+1,#[.int .i64 2,.int .i64 (bM j:Int),.slice cs L.length cc],272) (by simp));have HD:=aA hd;have HF:=hf.mono (show w.heap.size+1+1+1<=_ by simp);have rl:=st1.rl;clear st0 hb1 hK hd hf;change aT (w.heap.size+1+1+1) ⟨ds,dc⟩ at HF;go_wp2_with fail;refine bodyPost_ret (v:=.agg #[.int .i64 2,.int .i64 j,.slice none 0 0,.int .i64 0,.string ⟨#[]⟩,.int .i64 2,.int .i64 (bM j:Int),.slice ds L.length dc,.int .i64 0,.slice none 0 0]) (by simp[results,results89,go_sem,rl]) rfl ⟨_,⟨⟨none,0⟩,⟨ds,dc⟩,⟨none,0⟩⟩,⟨rfl,HX.out⟩,rfl,?_,?_,?_⟩
 .refine⟨bS.none _,bS.up HD.out HF ?_,bS.none _⟩
  repeat(with_reducible refine aM.set ?_ (by omega) _)
  exact aM.refl _ _
 .have HF:=HF.mono (show w.heap.size<=w.heap.size+1+1+1 by omega);exact⟨aT.none _,HF,aT.none _⟩
 .repeat(with_reducible refine Below.setCell ?_ (by simp;try omega) _)
  exact st1.below
theorem zA (j:Nat)(L:List (Nat×Nat))(hx:Sk.Ok (.hst j L))(h:aR)(w:World)(hK:bW w (.hst j L) h):
  Calls prog 89 #[h.w (.hst j L)] w (qR w (·=(.hst j L))):=by
 have HX:=aA hx;obtain⟨⟨es,ec⟩,⟨cs,cc⟩,⟨gs,gc⟩⟩:=h;have hlen:L.length<=1001:=hx.len.2.2;show Calls prog 89 #[.agg #[.iface 274 (.agg #[.int .i64 ((3-j:Nat):Int),.slice gs L.length gc]),.int .i64 3,.int .i64 j]] w _;have st0:=((((St.start w).alloc (cs:= #[.iface 274 (.agg #[.int .i64 ((3-j:Nat):Int),.slice gs L.length gc]),.int .i64 3,.int .i64 j]) (T:=135)).alloc (cs:= #[.int .i64 0,.int .i64 0,.slice none 0 0,.int .i64 0,.string ⟨#[]⟩,.int .i64 0,.int .i64 0,.slice none 0 0,.int .i64 0,.slice none 0 0]) (T:=103)).alloc (cs:= #[.int .i64 3,.int .i64 j,.slice none 0 0,.int .i64 0,.string ⟨#[]⟩,.int .i64 0,.int .i64 0,.slice none 0 0,.int .i64 ((3-j:Nat):Int),.slice gs L.length gc]) (T:=103)).alloc (cs:= #[.int .i64 ((3-j:Nat):Int),.slice gs L.length gc]) (T:=274);simp only[World.size_alloc] at st0;clear hx;go_enter func89,ntmps89;go_wp2_with fail;refine(mJ L (by omega) ⟨gs,gc⟩ _ (hK.g.aWu st0.below)).mono ?_;rintro e w1 ⟨⟨ds,dc⟩,rfl,hd,hf,hb1⟩;have st1:=st0.to hb1;have hlt:=st1.below.size;have hB:w.heap.size+1+1+1<w1.heap.size:=aC (st1.blk (w.heap.size+1+1+1,#[.int .i64 ((3-j:Nat):Int),.slice gs L.length gc],274) (by simp));have HD:=aA hd;have HF:=hf.mono (show w.heap.size+1+1+1<=_ by simp);have rl:=st1.rl;clear st0 hb1 hK hd hf;change aT (w.heap.size+1+1+1) ⟨ds,dc⟩ at HF;go_wp2_with fail;refine bodyPost_ret (v:=.agg #[.int .i64 3,.int .i64 j,.slice none 0 0,.int .i64 0,.string ⟨#[]⟩,.int .i64 0,.int .i64 0,.slice none 0 0,.int .i64 ((3-j:Nat):Int),.slice ds L.length dc]) (by simp[results,results89,go_sem,rl]) rfl ⟨_,⟨⟨none,0⟩,⟨none,0⟩,⟨ds,dc⟩⟩,⟨rfl,HX.out⟩,rfl,?_,?_,?_⟩
 .refine⟨bS.none _,bS.none _,bS.up HD.out HF ?_⟩
  repeat(with_reducible refine aM.set ?_ (by omega) _)
  exact aM.refl _ _
 .have HF:=HF.mono (show w.heap.size<=w.heap.size+1+1+1 by omega);exact⟨aT.none _,aT.none _,HF⟩
 .repeat(with_reducible refine Below.setCell ?_ (by simp;try omega) _)
  exact st1.below
theorem zD (j:Nat)(R:ByteArray)(hx:Sk.Ok (.reg j R))(h:aR)(w:World)(hK:bW w (.reg j R) h):
  Calls prog 89 #[h.w (.reg j R)] w (qR w (·=.reg j R)):=by
 have HX:=aA hx;obtain⟨⟨es,ec⟩,⟨cs,cc⟩,⟨gs,gc⟩⟩:=h;show Calls prog 89 #[.agg #[.iface 271 (.agg #[.int .i64 ((8-j:Nat):Int),.string R]),.int .i64 1,.int .i64 j]] w _;have st0:=((((St.start w).alloc (cs:= #[.iface 271 (.agg #[.int .i64 ((8-j:Nat):Int),.string R]),.int .i64 1,.int .i64 j]) (T:=135)).alloc (cs:= #[.int .i64 0,.int .i64 0,.slice none 0 0,.int .i64 0,.string ⟨#[]⟩,.int .i64 0,.int .i64 0,.slice none 0 0,.int .i64 0,.slice none 0 0]) (T:=103)).alloc (cs:= #[.int .i64 1,.int .i64 j,.slice none 0 0,.int .i64 0,.string ⟨#[]⟩,.int .i64 0,.int .i64 0,.slice none 0 0,.int .i64 0,.slice none 0 0]) (T:=103)).alloc (cs:= #[.int .i64 ((8-j:Nat):Int),.string R]) (T:=271);simp only[World.size_alloc] at st0;clear hx hK;obtain⟨cj,hcj⟩:∃cj,((8-j:Nat):Int)=cj:=⟨_,rfl⟩;have HCJ:=aA hcj;rw[hcj] at st0⊢;clear hcj;go_enter func89,ntmps89;go_wp2_with fail;refine bodyPost_ret (v:=.agg #[.int .i64 1,.int .i64 j,.slice none 0 0,.int .i64 cj,.string R,.int .i64 0,.int .i64 0,.slice none 0 0,.int .i64 0,.slice none 0 0]) (by simp[results,results89,go_sem]) rfl ⟨_,⟨⟨none,0⟩,⟨none,0⟩,⟨none,0⟩⟩,⟨rfl,HX.out⟩,by rw[<-HCJ.out];rfl,⟨bS.none _,bS.none _,bS.none _⟩,⟨aT.none _,aT.none _,aT.none _⟩,?_⟩;exact(((aW.alloc aH _).alloc (by simp) _).alloc (by simp;try omega) _).alloc (by simp;try omega) _
theorem wJ (x:Sk)(hx:x.Ok)(h:aR)(w:World)(hK:bW w x h):Calls prog 89 #[h.w x] w (qR w (·=x)):=by
 cases x with
 |dist L=>exact wQ L hx h w hK
 |reg j R=>exact zD j R hx h w hK
 |cnt j L=>exact zF j L hx h w hK
 |hst j L=>exact zA j L hx h w hK
theorem aOe (x:Sk)(hx:x.Ok)(h:aR)(w:World)(hK:bW w x h):Calls prog x.fn #[h.v x] w λe w'=>e=.returned (.tuple #[h.b x,.bool true])/\Below w.heap.size w w':=by
 cases x with
 |dist L=>exact aBq L hx h w hK
 |reg j R=>exact aEm j R hx h w hK
 |cnt j L=>exact aEc j L hx h w hK
 |hst j L=>exact aC5 j L hx h w hK
theorem aKs (x:Sk)(args:Array Value)(w:World):(callFunc x.fn args).run prog w=.ok (.enter x.fn args) w:=by
 cases x with
 |dist L=>exact enters_of func132 (by kernel_rfl) rfl args w
 |reg j R=>exact enters_of func132 (by kernel_rfl) rfl args w
 |cnt j L=>exact enters_of func133 (by kernel_rfl) rfl args w
 |hst j L=>exact enters_of func134 (by kernel_rfl) rfl args w
def fD (w:World)(S:Sk->Prop)(e:Ending)(w':World):Prop:=∃(x:Sk) (h:aR),(S x/\x.Ok)/\e=.returned (.tuple #[h.v x,.int .i64 0])/\bW w' x h/\cQ w.heap.size h/\RowKit.Below w.heap.size w w'
theorem fD.mono {w:World}{S T:Sk->Prop}(hs:∀x,S x->T x){e:Ending}{w':World}(h:fD w S e w'):fD w T e w':=by
 obtain⟨x,k,⟨h1,h2⟩,h3⟩:=h;exact⟨x,k,⟨hs x h1,h2⟩,h3⟩
theorem xF (x:Sk)(hx:x.Ok)(h:aR)(w:World)(hK:bW w x h):
  Calls prog 84 #[h.w x,.nilIface] w (fD w (·=x)):=by
 have HS:=aA (show∀W,Below w.heap.size w W->Calls prog 89 #[.agg #[h.b x,.int .i64 x.kind,.int .i64 x.lev]] W (qR W (·=x)) from λW hW=>wJ x hx h W (hK.aWu hW));show Calls prog 84 #[.agg #[h.b x,.int .i64 x.kind,.int .i64 x.lev],.nilIface] w _;obtain⟨bd,hbd⟩:∃bd,h.b x=bd:=⟨_,rfl⟩;rw[hbd] at HS⊢;clear hbd;have st0:=((St.start w).alloc (cs:= #[bd,.int .i64 x.kind,.int .i64 x.lev]) (T:=135)).alloc (cs:= #[.int .i64 0,.int .i64 0,.slice none 0 0,.int .i64 0,.string ⟨#[]⟩,.int .i64 0,.int .i64 0,.slice none 0 0,.int .i64 0,.slice none 0 0]) (T:=103);simp only[World.size_alloc] at st0;clear hK;go_enter func84,ntmps84;go_wp2_with fail;refine(HS.out _ st0.below).mono ?_;rintro e w1 ⟨y,⟨⟨es,ec⟩,⟨cs,cc⟩,⟨gs,gc⟩⟩,⟨hy,-⟩,rfl,hd,hf,hb1⟩;cases hy;have st1:=st0.to hb1;have rl:=st1.rl;have HF:cQ (w.heap.size+1+1) _:=hf.mono (by simp);have HD:=aA hd;have HX:=aA hx;clear st0 hb1 hd hf HS hx;go_wp2_with fail;refine bodyPost_ret (v:=.tuple #[.agg #[.int .i64 x.kind,.int .i64 x.lev,.slice es x.e.length ec,.int .i64 x.bits,.string x.aWx,.int .i64 x.rows,.int .i64 x.aWv,.slice cs x.c.length cc,.int .i64 x.aWw,.slice gs x.g.length gc],.int .i64 0]) (by simp[results,results84,go_sem,rl]) rfl ⟨x,_,⟨rfl,HX.out⟩,rfl,bW.up HD.out HF ?_,HF.mono (by omega),?_⟩
 .repeat(with_reducible refine aM.set ?_ (by omega) _)
  exact aM.refl _ _
 .repeat(with_reducible refine Below.setCell ?_ (by simp;try omega) _)
  exact st1.below
def aBm (B:Nat):Value->World->Prop:=λv W=>∃b,v=.map (some b)/\B<=b/\aFf W b
theorem aEq (B:Nat):bO (aBm B):=λ_ _ _ ⟨b,h1,h2,h3⟩ hb=>⟨b,h1,h2,h3.keep hb⟩
def aUb (x:Sk):Value->World->Prop:=λv W=>∃h:aR,v=h.v x/\bW W x h
theorem aNv (x:Sk):bO (aUb x):=λ_ _ _ ⟨h,h1,h2⟩ hb=>⟨h,h1,h2.aWu hb⟩
theorem mO (x:Sk)(hx:x.Ok)(h:aR)(w:World)(hK:bW w x h):
  Calls prog 54 #[h.v x] w λe w'=>e=.returned (.tuple #[h.w x,.nilIface])/\Below w.heap.size w w':=by
 have HS:=aA (show∀W,Below w.heap.size w W->Calls prog 89 #[.agg #[h.b x,.int .i64 x.kind,.int .i64 x.lev]] W (qR W (·=x)) from λW hW=>wJ x hx h W (hK.aWu hW));have HE:=aA (λW hW=>aOe x hx h W (hK.aWu hW));have HQ:=aA (λh' W hW hK'=>aH0 x hx h h' W (hK.aWu hW) hK');have HB:=aA (λW=>mZ x W);have HL:=aA (λW b (hM:aFf W b)=>hM.look x);have hbt:¬(x.bot:Int)<(x.lev:Int):=by have:=x.aXe hx;omega
 have hlv:¬(x.lev:Int)<0:=by omega
 have hent:=λargs w=>aKs x args w;obtain⟨⟨es,ec⟩,⟨cs,cc⟩,⟨gs,gc⟩⟩:=h;change Calls prog 54 #[.agg #[.int .i64 x.kind,.int .i64 x.lev,.slice es x.e.length ec,.int .i64 x.bits,.string x.aWx,.int .i64 x.rows,.int .i64 x.aWv,.slice cs x.c.length cc,.int .i64 x.aWw,.slice gs x.g.length gc]] w λe w'=>e=.returned (.tuple #[.agg #[aR.b x ⟨⟨es,ec⟩,⟨cs,cc⟩,⟨gs,gc⟩⟩,.int .i64 x.kind,.int .i64 x.lev],.nilIface])/\_;simp only[aR.b] at HS HE⊢;obtain⟨bV,hbV⟩:∃bV,aR.a x ⟨⟨es,ec⟩,⟨cs,cc⟩,⟨gs,gc⟩⟩=bV:=⟨_,rfl⟩;rw[hbV] at HS HE⊢;clear hbV;generalize x.bt=bD at*;generalize(x.bot:Int)=bt at*;generalize x.fn=fnx at*;have st0:=(((St.start w).alloc (cs:= #[.int .i64 x.kind,.int .i64 x.lev,.slice es x.e.length ec,.int .i64 x.bits,.string x.aWx,.int .i64 x.rows,.int .i64 x.aWv,.slice cs x.c.length cc,.int .i64 x.aWw,.slice gs x.g.length gc]) (T:=103)).alloc (cs:= #[.nilIface,.int .i64 0,.int .i64 0]) (T:=135)).alloc (cs:= #[.int .i64 100]) (T:=195);simp only[World.size_alloc] at st0;clear hK;go_enter func54,ntmps54;go_wp2_with fail;refine rA st0 9 [.fct (aBm w.heap.size) (aEq _),.val (pv w.heap.size 0),.val (.int .i64 x.kind),.val (.tuple #[.func (.func fnx) #[] #[],.bool true]),.val (.tuple #[.func (.func fnx) #[] #[],.bool true]),.val (.func (.func fnx) #[] #[]),.val (.bool true),.val (.func (.func fnx) #[] #[]),.val (.bool true)] ?spec ?endd
 case spec=>
  refine⟨?_,?_,?_,?_,?_,?_,?_,?_,?_,trivial⟩
  all_goals(intro ρ W kc kf hW sW rl hu hd;simp only[aI,World.size_alloc] at rl)
  .refine aF rfl ?_;go_simp;refine⟨aW,(aKj W).mono ?_⟩;rintro e w' ⟨b,rfl,hB,hM,hb'⟩;exact⟨_,rfl,hb',b,rfl,dR sW.below.size hB,hM⟩
  have u1:ρ (.tmp 1)=pv w.heap.size 0:=cR hu 1;rotate_left;have u13:ρ (.tmp 13)=_:=aK hd 1 13;rotate_left;have f12:aBm w.heap.size (ρ (.tmp 12)) W:=aK hd 0 12;have u14:ρ (.tmp 14)=_:=aK hd 2 14;obtain⟨b,u12,hB,hM⟩:=f12;have hlk:=HL.out W b hM;rotate_left;have u15:ρ (.tmp 15)=_:=aK hd 3 15;rotate_left;have u11:ρ (.tmp 11)=_:=aK hd 4 11;rotate_left;have u11:ρ (.tmp 11)=_:=aK hd 4 11;rotate_left;have u16:ρ (.tmp 16)=_:=aK hd 5 16;rotate_left;have u17:ρ (.tmp 17)=_:=aK hd 6 17;rotate_left
  all_goals(refine aF rfl ?_;go_simp;exact aG rfl)
 case endd=>
  rintro v W hW sW rl ⟨hf0,-⟩;clear rl;obtain⟨b,vb,_,_⟩:=hf0;rw[vb];clear vb hW st0 HL;have rl:=sW.rl;refine wpList_nil ?_;go_frame;go_wp2_with fail;have stH:=sW;obtain⟨bl2,E2,hne2,sh2,rl,hEx,hbx,hst⟩:=stH.aW1;simp only[aI] at rl;refine aZ sh2 (by kernel_rfl) (by kernel_rfl) ?_
  repeat(first|go_big_quiet_step ((go_at_call 87;exact Cs.aW0 (HB.out _)))|quiet_step ((go_at_call 87;exact Cs.aW0 (HB.out _))))
  refine wpQuiet_nil ?_;intro y;have st4:=(hst y).out;clear hbx rl hst sh2 hEx stH sW;generalize y.W=w4 at*;have rl:=st4.rl;go_wp2_with fail;refine(HE.out _ st4.below).mono ?_;rintro e w5 ⟨rfl,hb5⟩;have st5:=(st4.to hb5).alloc (cs:= #[.iface bD bV,.int .i64 x.kind,.int .i64 x.lev]) (T:=135);have rl:=(st4.to hb5).rl;clear st4 hb5 HE HB hent;go_wp2_with fail;refine rA st5 5 [.val (.agg #[.int .i64 x.kind,.int .i64 x.lev,.slice es x.e.length ec,.int .i64 x.bits,.string x.aWx,.int .i64 x.rows,.int .i64 x.aWv,.slice cs x.c.length cc,.int .i64 x.aWw,.slice gs x.g.length gc]),.val (.agg #[.iface bD bV,.int .i64 x.kind,.int .i64 x.lev]),.fct (aUb x) (aNv x),.val (.bool true),.val (.bool false)] ?spec ?endd
  case spec=>
   refine⟨?_,?_,?_,?_,?_,trivial⟩
   all_goals(intro ρ W kc kf hW sW rl hu hd;simp only[aI,World.size_alloc] at rl)
   have u1:ρ (.tmp 1)=pv w.heap.size 0:=cR hu 1;rotate_left;have u8:ρ (.tmp 8)=pv w5.heap.size 0:=cR hu 8;rotate_left
   .have u55:ρ (.tmp 55)=_:=aK hd 1 55;refine aF rfl ?_;go_simp;refine⟨aW,(HS.out W sW.below).mono ?_⟩;rintro e w' ⟨y,h',⟨hy,-⟩,rfl,hk,_,hb'⟩;cases hy;exact⟨_,rfl,hb',h',rfl,hk⟩
   .have u54:ρ (.tmp 54)=_:=aK hd 0 54;have f56:aUb x (ρ (.tmp 56)) W:=aK hd 2 56;obtain⟨h',u56,hk⟩:=f56;refine aF rfl ?_;go_simp;exact gY (HQ.out h' W sW.below hk) (λ_ _=>rfl)
   have u57:ρ (.tmp 57)=_:=aK hd 3 57;rotate_left
   all_goals(refine aF rfl ?_;go_simp;exact aG rfl)
  case endd=>
   rintro v W hW sW rl ⟨hf2,-⟩;clear rl;refine wpList_nil ?_;go_frame;have rl:=sW.rl;obtain⟨h9,v9,_⟩:=hf2;rw[v9];go_wp2_with fail;refine bodyPost_ret (v:=.tuple #[.agg #[.iface bD bV,.int .i64 x.kind,.int .i64 x.lev],.nilIface]) (by simp[results,results54,go_sem,rl]) rfl ⟨rfl,?_⟩
   repeat(with_reducible refine Below.setCell ?_ (by simp;try omega) _)
   exact sW.below
end Go.Proofs.YtmgdbfmlnmahpaaGreatDoor
