/- Part of TopAudits. -/
import Derived.Test.YtmgdbfmlnmahpaaGreatDoorG24
import Derived.Laws.Runes
import Derived.Test.YtmgdbfmlnmahpaaGreatDoorG27
namespace Go.Proofs.YtmgdbfmlnmahpaaGreatDoor
set_option linter.unusedSimpArgs false
set_option linter.unusedVariables false
set_option maxRecDepth 100000
set_option maxHeartbeats 4000000
open Go.Proofs.Tryz
open Go.RowKit Go.Shelf
section
variable {b m n:Nat} {W W' w:World}
theorem hU :Maps.Keyed prog 21:=Maps.int_keyed underlying21
theorem mU :prog.underlying 297=some (.map 21 295):=underlying297
theorem sX (w:World):(zeroValue 295).run prog w=.ok .nilFunc w:=by kernel_rfl
theorem aGh (n:Int)(h:(Lit.int .i32 n).wf=true):keyOf prog 21 (.int .i32 n)=some (.int .i32 n):=Maps.keyOf_int_mk underlying21 h
abbrev rfV (n b:Nat):Value:=.func (.func n) #[pv b 0] #[]
def oP (b:Nat):DataW Value:=(((DataW.map []).put (.int .i32 61) (.held (rfV 182 b))).put (.int .i32 44) (.held (rfV 183 b))).put (.int .i32 92) (.held (rfV 184 b))
def vK (W:World)(b m:Nat):Prop:=W.ownsMap prog 21 gQ m 3 (oP b)
theorem vK.kept {row:Option Nat}(h:vK W b m)(hg:W.grownBy W' row)(hr:∀r,row=some r->r≠m):vK W' b m:=World.ownsMap.kept h hg (by intro e;exact hr m e.symm rfl)
theorem vK.look (h:vK W b m):((Instr.lookup 297 (.map (some m)) (.int .i32 61) true).run prog W=.ok (.tuple #[rfV 182 b,.bool true]) W/\
  (Instr.lookup 297 (.map (some m)) (.int .i32 44) true).run prog W=.ok (.tuple #[rfV 183 b,.bool true]) W/\(Instr.lookup 297 (.map (some m)) (.int .i32 92) true).run prog W=.ok (.tuple #[rfV 184 b,.bool true]) W):=by
 refine⟨?_,?_,?_⟩
 all_goals
  first
  |(obtain⟨v,ps,hrun,hv⟩:=World.ownsMap.look_ok h hU mU (sX _) (zp:=[]) rfl (aGh 61 (by decide))
    rw[show(oP b).atKey (.int .i32 61) (.held .nilFunc)=.held (rfV 182 b) by kernel_rfl] at hv;rw[show Maps.has (oP b) (.int .i32 61)=true by kernel_rfl] at hrun;simp only[gQ,Option.some.injEq,Prod.mk.injEq,DataW.held.injEq] at hv;rw[hrun,hv.1])
  |(obtain⟨v,ps,hrun,hv⟩:=World.ownsMap.look_ok h hU mU (sX _) (zp:=[]) rfl (aGh 44 (by decide))
    rw[show(oP b).atKey (.int .i32 44) (.held .nilFunc)=.held (rfV 183 b) by kernel_rfl] at hv;rw[show Maps.has (oP b) (.int .i32 44)=true by kernel_rfl] at hrun;simp only[gQ,Option.some.injEq,Prod.mk.injEq,DataW.held.injEq] at hv;rw[hrun,hv.1])
  |(obtain⟨v,ps,hrun,hv⟩:=World.ownsMap.look_ok h hU mU (sX _) (zp:=[]) rfl (aGh 92 (by decide))
    rw[show(oP b).atKey (.int .i32 92) (.held .nilFunc)=.held (rfV 184 b) by kernel_rfl] at hv;rw[show Maps.has (oP b) (.int .i32 92)=true by kernel_rfl] at hrun;simp only[gQ,Option.some.injEq,Prod.mk.injEq,DataW.held.injEq] at hv;rw[hrun,hv.1])
theorem vK.none (h:vK W b m)(c:Nat)(h0:c<=1114111)(h1:c≠61)(h2:c≠44)(h3:c≠92):(Instr.lookup 297 (.map (some m)) (.int .i32 (c:Int)) true).run prog W=.ok (.tuple #[.nilFunc,.bool false]) W:=by
 obtain⟨v,ps,hrun,hv⟩:=World.ownsMap.look_ok h hU mU (sX _) (zp:=[]) rfl (aGh (c:Int) (by simp[Lit.wf,IntKind.min,IntKind.max,IntKind.bits,IntKind.signed];omega));have n1:(Lit.int .i32 (c:Int))≠.int .i32 61:=by intro e;injection e with _ e;omega
 have n2:(Lit.int .i32 (c:Int))≠.int .i32 44:=by intro e;injection e with _ e;omega
 have n3:(Lit.int .i32 (c:Int))≠.int .i32 92:=by intro e;injection e with _ e;omega
 have h1:(oP b).atKey (.int .i32 (c:Int)) (.held .nilFunc)=.held .nilFunc:=by
  unfold oP;rw[Maps.atKey_put_other n3,Maps.atKey_put_other n2,Maps.atKey_put_other n1];rfl
 have h2:Maps.has (oP b) (.int .i32 (c:Int))=false:=by
  unfold oP;rw[Maps.has_put_other n3,Maps.has_put_other n2,Maps.has_put_other n1];rfl
 rw[h1] at hv;rw[h2] at hrun;simp only[gQ,Option.some.injEq,Prod.mk.injEq,DataW.held.injEq] at hv;rw[hrun,hv.1]
abbrev rdC (nm vl:ByteArray)(pl rn:Int)(lv:Value)(m:Nat):Array Value:= #[.string nm,.string vl,.int .i64 pl,.int .i64 rn,lv,.map (some m)]
structure aTn (W:World)(b m:Nat)(nm vl:ByteArray)(pl rn:Int)(lv:Value):Prop where
 blk:W.heap[b]? =some (.cells (rdC nm vl pl rn lv m) 299 (0,0))
 map:vK W b m
theorem vK.ne (h:vK W b m){g:Nat}{cs:Array Value}{T:TypeId}(hg:W.heap[g]? =some (.cells cs T (0,0))):g≠m:=by
 rintro rfl;obtain⟨es,clock,hb,_⟩:=h;rw[hb] at hg;cases hg
theorem yY (w:World):Calls prog 149 #[] w λe w'=>∃b m,e=.returned (pv b 0)/\w.heap.size<=b/\aTn w' b m ⟨#[]⟩ ⟨#[]⟩ 0 0 (.slice none 0 0)/\Below w.heap.size w w':=by
 have b00:Below w.heap.size w (w.alloc (.cells (rdC ⟨#[]⟩ ⟨#[]⟩ 0 0 (.slice none 0 0) 0) 299)):=aW.alloc aH _;have hz:(w.alloc (.cells #[.string ⟨#[]⟩,.string ⟨#[]⟩,.int .i64 0,.int .i64 0,.slice none 0 0,.map none] 299)).heap.size=w.heap.size+1:=by simp
 have o0:=World.ownsMap_made (w.alloc (.cells #[.string ⟨#[]⟩,.string ⟨#[]⟩,.int .i64 0,.int .i64 0,.slice none 0 0,.map none] 299)) prog 21 gQ;rw[hz] at o0;obtain⟨w1,h1,o1,g1⟩:=o0.update hU mU (by unfold maxLen;omega) (aGh 61 (by decide)) (val:=rfV 182 w.heap.size) (d:=.held (rfV 182 w.heap.size)) (ps:=[]) rfl;obtain⟨w2,h2,o2,g2⟩:=o1.update hU mU (by unfold maxLen;omega) (aGh 44 (by decide)) (val:=rfV 183 w.heap.size) (d:=.held (rfV 183 w.heap.size)) (ps:=[]) rfl;obtain⟨w3,h3,o3,g3⟩:=o2.update hU mU (by unfold maxLen;omega) (aGh 92 (by decide)) (val:=rfV 184 w.heap.size) (d:=.held (rfV 184 w.heap.size)) (ps:=[]) rfl;have b0:Below w.heap.size w ((w.alloc (.cells #[.string ⟨#[]⟩,.string ⟨#[]⟩,.int .i64 0,.int .i64 0,.slice none 0 0,.map none] 299)).alloc (.map #[] 0)):=(aW.alloc aH _).alloc (by simp) _;have b1:=b0.grown g1 b0.size (λk e=>by cases e;exact Nat.le_succ _);have b2:=b1.grown g2 b1.size (λk e=>by cases e;exact Nat.le_succ _);have b3:=b2.grown g3 b2.size (λk e=>by cases e;exact Nat.le_succ _);have hB0:((w.alloc (.cells #[.string ⟨#[]⟩,.string ⟨#[]⟩,.int .i64 0,.int .i64 0,.slice none 0 0,.map none] 299)).alloc (.map #[] 0)).heap[w.heap.size]? =some (.cells #[.string ⟨#[]⟩,.string ⟨#[]⟩,.int .i64 0,.int .i64 0,.slice none 0 0,.map none] 299 (0,0)):=(Below.heap_alloc _ _ _ (by simp)).trans (kH w _);have hne:w.heap.size≠w.heap.size+1:=by omega
 have hB1:=(g1.block _ (aC hB0) (by simp)).trans hB0;have hB2:=(g2.block _ (aC hB1) (by simp)).trans hB1;have hB3:=(g3.block _ (aC hB2) (by simp)).trans hB2;have hmm:= @run_makeMap prog;have O:=aA o3;have HB3:=aA hB3;have hc3:=aE hB3;have hf3:=bB hB3;have hl3:=aC hB3;clear o0 o1 o2 o3 g1 g2 g3 b0 b1 b2 b00 hB0 hB1 hB2 hB3 hz;go_enter func149,ntmps149;go_wp2_with fail;go_ret;refine⟨w.heap.size,w.heap.size+1,rfl,aH,⟨cU HB3.out 5 _,?_⟩,b3.setCell (p:=⟨w.heap.size,5,none⟩) aH _⟩;exact vK.kept (row:=some w.heap.size) O.out (bF _ _ _ _) (λr e=>by cases e;omega)
structure kZ where
 nm:ByteArray
 vl:ByteArray
 pl:Nat
 rn:Nat
 L:List dQ
def kZ.start :kZ:=⟨⟨#[]⟩,⟨#[]⟩,0,0,[]⟩
def dY (x:kZ)(c:Nat):Option kZ:=
 if x.pl=0 then(if¬(97<=c/\c<=122)\/x.nm.size=12 then none else some {x with nm:=x.nm++Utf8.encode (c:Int)})
 else(if¬(32<=c/\c≠127)\/x.rn=24 then none else some {x with vl:=x.vl++Utf8.encode (c:Int),rn:=x.rn+1})
def qM (x:kZ):Option kZ:=if x.pl≠1\/x.L.length=6 then none else some ⟨⟨#[]⟩,⟨#[]⟩,0,0,x.L++[⟨x.nm,x.vl⟩]⟩
def jK (x:kZ)(c:Nat):Option kZ:=
 if x.pl=2 then dY {x with pl:=1} c
 else if c=61 then(if x.pl=1 then dY x c else if x.nm=⟨#[]⟩ then none else some {x with pl:=1})
 else if c=44 then qM x
 else if c=92 then(if x.pl=0 then none else some {x with pl:=2})
 else dY x c
theorem aFa (r:Int):(Utf8.encode r).size<=4:=by
 unfold Utf8.encode;simp only
 repeat' split
 all_goals(simp[ByteArray.size])
structure kZ.Ok (n:Nat)(x:kZ):Prop where
 nm:x.nm.size<=n
 vl:x.vl.size<=n
 pl:x.pl<=2
 rn:x.rn<=24
 len:x.L.length<=6
 ls:∀y∈x.L,y.name.size<=n/\y.val.size<=n
theorem kZ.Ok.mono {x:kZ}(h:x.Ok n)(hm:n<=m):x.Ok m:=⟨by have:=h.nm;omega,by have:=h.vl;omega,h.pl,h.rn,h.len,λy hy=>by have:=h.ls y hy;omega⟩
theorem tF {x y:kZ}{c:Nat}(h:x.Ok n)(hy:dY x c=some y):y.Ok (n+4):=by
 have h':=h.mono (Nat.le_add_right n 4);have he:=aFa (c:Int);have h1:=h.nm;have h2:=h.vl;have h3:=h.rn;unfold dY at hy;split at hy
 .split at hy
  .cases hy
  .cases hy;exact⟨by simp only[ByteArray.size_append];omega,h'.vl,h'.pl,h'.rn,h'.len,h'.ls⟩
 .split at hy
  .cases hy
  .rename_i hq;cases hy;exact⟨h'.nm,by simp only[ByteArray.size_append];omega,h'.pl,by simp only;omega,h'.len,h'.ls⟩
theorem aJa {x y:kZ}(h:x.Ok n)(hy:qM x=some y):y.Ok n:=by
 unfold qM at hy;split at hy
 .cases hy
 .rename_i hq;cases hy;refine⟨cJ _,cJ _,cJ _,cJ _,?_,λy hy=> ?_⟩
  .have:=h.len;simp only[List.length_append,List.length_singleton];omega
  .rcases List.mem_append.1 hy with hy|hy
   .exact h.ls y hy
   .simp at hy;subst hy;exact⟨h.nm,h.vl⟩
theorem aOx {x y:kZ}{c:Nat}(h:x.Ok n)(hy:jK x c=some y):y.Ok (n+4):=by
 have h':=h.mono (Nat.le_add_right n 4);unfold jK at hy;split at hy
 .exact tF (x:={x with pl:=1}) ⟨h.nm,h.vl,Nat.succ_le_succ (cJ _),h.rn,h.len,h.ls⟩ hy
 .split at hy
  .split at hy
   .exact tF h hy
   .split at hy
    .cases hy
    .cases hy;exact⟨h'.nm,h'.vl,by simp,h'.rn,h'.len,h'.ls⟩
  .split at hy
   .exact(aJa h hy).mono (Nat.le_add_right n 4)
   .split at hy
    .split at hy
     .cases hy
     .cases hy;exact⟨h'.nm,h'.vl,by simp,h'.rn,h'.len,h'.ls⟩
    .exact tF h hy
def jO (B:Nat)(W:World)(b m:Nat)(x:kZ):Prop:=∃v,aTn W b m x.nm x.vl (x.pl:Int) (x.rn:Int) v/\aL 2 cO 229 W B v x.L
abbrev flt (s:ByteArray):Value:=.iface 292 (.agg #[.string s])
def vF (B:Nat)(w:World)(b m:Nat)(y:Option kZ)(e:Ending)(w':World):Prop:=
 ((∃z,y=some z/\e=.returned .nilIface/\jO B w' b m z)\/(y=none/\(∃s,e=.returned (flt s))/\∃z,jO B w' b m z))/\Below B w w'/\Lib.OthersKept 229 (some b) w w'
theorem tI {e:TypeId}{b:Option Nat}(h:Below W.heap.size W W'):Lib.OthersKept e b W W':=λk o hk _ _=>(h.block k (Array.getElem?_eq_some_iff.1 hk).1).trans hk
theorem jO.aX3 {B:Nat}{x y:kZ}{v:Value}(h:aTn w b m x.nm x.vl (x.pl:Int) (x.rn:Int) v)(ho:aL 2 cO 229 w B v x.L)(hB:B<=b)(hL:y.L=x.L)(hg:w.grownBy W' (some b))
  (hb:W'.heap[b]? =some (.cells (rdC y.nm y.vl (y.pl:Int) (y.rn:Int) v m) 299 (0,0))) (hBw:B<=w.heap.size) (e:Ending) (he:e=.returned .nilIface):vF B w b m (some y) e W':=by
 refine⟨.inl ⟨y,rfl,he,v,⟨hb,h.map.kept hg (λr e=>by cases e;exact h.map.ne h.blk)⟩,?_⟩,?_,?_⟩
 .rw[hL];refine World.ownsRow.kept (row:=some b) ho hg ?_;rcases ho.2 with⟨rfl,_⟩|⟨g,cap,cur,rfl,_,hgb,_⟩
  .exact .inl rfl
  .refine .inr λe'=> ?_;obtain rfl:g=b:=by simpa[Value.ownBlock] using e'
   rw[h.blk] at hgb;injection hgb with hgb;injection hgb with _ hgb;exact absurd hgb (by decide)
 .exact⟨hg.os,hg.tape,hg.output,hg.size,λk hk=>hg.block k (kG hk hBw) (by intro e;cases e;omega)⟩
 .exact λk o hk hne _=>(hg.block k (Array.getElem?_eq_some_iff.1 hk).1 hne).trans hk
theorem vF.bad {B:Nat}{x:kZ}(h:jO B w b m x)(s:ByteArray)(e:Ending)(he:e=.returned (flt s)):vF B w b m none e w:=⟨.inr ⟨rfl,⟨s,he⟩,x,h⟩,aW,Lib.OthersKept.refl _ _ _⟩
theorem aQk {p q:Prop}[Decidable p][Decidable q](h:¬(p/\q)):(decide p&&decide q)=false:=by
 cases hp:decide p<;>cases hq:decide q<;>simp_all
theorem uB (B b m:Nat)(hB:B<=b)(n:Nat)(hn:n<=100000)(x:kZ)(hx:x.Ok n)(c:Nat)(hc:c<=1114111)(w:World)(h:jO B w b m x):
  Calls prog 185 #[pv b 0,.int .i32 (c:Int)] w (vF B w b m (dY x c)):=by
 have H:=aA h;obtain⟨v,hr,ho⟩:=h;have HT:=aA (λ(y:kZ) W' hL hg hb e he=>jO.aX3 (y:=y) (W':=W') hr ho hB hL hg hb (dR hB (Nat.le_of_lt (aC hr.blk))) e he);have HB:=aA hr.blk;have hcl:=aE hr.blk;have hfr:=bB hr.blk;have hlt:=aC hr.blk;have h1:=hx.nm;have h2:=hx.vl;have h3:=hx.rn;have henc:=aFa (c:Int);obtain⟨nm,vl,pl,rn,L⟩:=x;simp only at h1 h2 h3 HT HB hcl H;clear hr ho hx
 by_cases h0:pl=0
 .subst h0
  by_cases hq:97<=c/\c<=122
  .have hv:(decide (97<=(c:Int))&&decide ((c:Int)<=122))=true:=by simp;omega
   by_cases h12:nm.size=12
   .have h12':(nm.size:Int)=12:=by omega
    rw[show dY ⟨nm,vl,0,rn,L⟩ c=none by simp[dY,h12]];clear hq;go_enter func185,ntmps185;go_wp2_with fail;refine(fM _ _).mono ?_;rw[hv];rintro e w3 ⟨rfl,rfl⟩;go_wp2_with fail;go_ret;exact vF.bad H.out _ _ rfl
   .have h12':¬(nm.size:Int)=12:=by omega
    rw[show dY ⟨nm,vl,0,rn,L⟩ c=some ⟨nm++Utf8.encode (c:Int),vl,0,rn,L⟩ by simp only[dY,if_pos,hq];simp[h12]];clear hq h2 h3;go_enter func185,ntmps185;go_wp2_with fail;refine(fM _ _).mono ?_;rw[hv];rintro e w3 ⟨rfl,rfl⟩;have hadd:∀W,(Op.stringOp .add nm (Utf8.encode (c:Int))).run prog W=.ok (.string (nm++Utf8.encode (c:Int))) W:=λW=>run_string_add_sum W _ _ (by omega);clear h1 hn henc hv hc;go_wp2_with fail;go_ret;exact HT.out _ _ rfl (bF _ _ _ _) (cU HB.out 0 _) _ rfl
  .have hv:(decide (97<=(c:Int))&&decide ((c:Int)<=122))=false:=aQk (by omega);rw[show dY ⟨nm,vl,0,rn,L⟩ c=none by simp only[dY,if_pos,hq];simp];clear hq;go_enter func185,ntmps185;go_wp2_with fail;refine(fM _ _).mono ?_;rw[hv];rintro e w3 ⟨rfl,rfl⟩;go_wp2_with fail;go_ret;exact vF.bad H.out _ _ rfl
 .have hz:((pl:Int)==0)=false:=by simp;exact h0
  by_cases hq:32<=c/\c≠127
  .have hv:(decide (32<=(c:Int))&& !decide ((c:Int)=127))=true:=by simp;omega
   by_cases h12:rn=24
   .subst h12;rw[show dY ⟨nm,vl,pl,24,L⟩ c=none by simp[dY,h0]];clear hq h0 hn hc h1 h2 h3 henc;go_enter func185,ntmps185;go_wp2_with fail;refine(eX _ _).mono ?_;rw[hv];rintro e w3 ⟨rfl,rfl⟩;clear hv;go_wp2_with fail;go_ret;exact vF.bad H.out _ _ rfl
   .have h12':¬(rn:Int)=24:=by omega
    rw[show dY ⟨nm,vl,pl,rn,L⟩ c=some ⟨nm,vl++Utf8.encode (c:Int),pl,rn+1,L⟩ by simp only[dY,if_neg h0];rw[if_neg (by omega)]];have H9:=aA (aB henc (aB h2 hn));have HW:Hid (wrap64 ((rn:Int)+1)=((rn+1:Nat):Int)):=by show _=_;simp[wrap64];omega
    clear hq h1 h0 hn hc h2 h3 henc;go_enter func185,ntmps185;go_wp2_with fail;refine(eX _ _).mono ?_;rw[hv];rintro e w3 ⟨rfl,rfl⟩;have hadd:∀W,(Op.stringOp .add vl (Utf8.encode (c:Int))).run prog W=.ok (.string (vl++Utf8.encode (c:Int))) W:=λW=>run_string_add_sum W _ _ (by have:=H9.out;omega);clear hv;go_wp2_with fail;go_ret;rw[HW.out];exact HT.out _ _ rfl (gM (bF _ _ _ _) (bF _ _ _ _)) (cU (cU HB.out 1 _) 3 _) _ rfl
  .have hv:(decide (32<=(c:Int))&& !decide ((c:Int)=127))=false:=by
    rcases Classical.not_and_iff_not_or_not.1 hq with h|h
    .simp;omega
    .have:c=127:=by omega
     subst this;rfl
   rw[show dY ⟨nm,vl,pl,rn,L⟩ c=none by simp only[dY,if_neg h0,hq];simp];clear hq h0 hn hc h1 h2 h3 henc;go_enter func185,ntmps185;go_wp2_with fail;refine(eX _ _).mono ?_;rw[hv];rintro e w3 ⟨rfl,rfl⟩;clear hv;go_wp2_with fail;go_ret;exact vF.bad H.out _ _ rfl
end
section
variable {cs:Array Value} {B b m:Nat} {W W' w:World}
attribute [local irreducible] Utf8.encode
structure pP (w:World)(B b m:Nat)(cs:Array Value)(W:World):Prop where
 st:St {w with heap:= #[]} [(b,cs,299)] (λ_=>True) W
 map:vK W b m
 fr:Below B w W
 ok:Lib.OthersKept 229 (some b) w W
theorem pP.aWu (h:pP w B b m cs W)(hB:B<=w.heap.size)(hb:Below W.heap.size W W'):pP w B b m cs W':=
 ⟨h.st.to hb,h.map.kept (aU hb none) (λr e=>by cases e),h.fr.trans (hb.mono (dR hB h.fr.size)),h.ok.trans (tI hb)⟩
theorem pP.grown (h:pP w B b m cs W)(hB:B<=w.heap.size){row:Option Nat}(hg:W.grownBy W' row)(hr:∀r,row=some r->B<=r/\∃cur,W.heap[r]? =some (.cells cur 229 (0,0))):pP w B b m cs W':=by
 refine⟨⟨⟨hg.os.trans h.st.below.os,hg.tape.trans h.st.below.tape,hg.output.trans h.st.below.output,cJ _,λ_ hk=>absurd hk (Nat.not_lt_zero _)⟩,λx hx=> ?_,h.st.nd,trivial,λ_ _ _ _=>trivial⟩,h.map.kept hg (λr e=> ?_),h.fr.grown hg (dR hB h.fr.size) (λr e=>(hr r e).1),h.ok.grown hg (λg e=>by obtain⟨_,cur,hc⟩:=hr g e;exact⟨_,_,hc⟩)⟩
 .have hx':x=(b,cs,299):=by simpa using hx
  subst hx';exact gZ hg (λr e=>(hr r e).2) (show(299:TypeId)≠229 by decide) (h.st.blk _ (List.mem_cons_self ..))
 .rintro rfl;obtain⟨_,cur,hc⟩:=hr r e;exact h.map.ne hc rfl
def aFq (ob:Option Nat)(x:dQ):Value->World->Prop:=λv W=>∃A,v=.slice (some ⟨A,0,none⟩) 1 1/\ob≠some A/\W.heap[A]? =some (.cells #[.string x.name,.string x.val] 229 (0,0))
theorem aMm (ob:Option Nat)(x:dQ):bO (aFq ob x):=λ_ _ _ ⟨A,h1,h2,h3⟩ hb=>⟨A,h1,h2,(hb.block A (aC h3)).trans h3⟩
theorem aIe (ob:Option Nat)(x:dQ):sS (λW W'=>W.grownBy W' ob) (aFq ob x):=λ_ _ _ ⟨A,h1,h2,h3⟩ hg=>⟨A,h1,h2,(hg.block A (aC h3) (λe=>h2 e.symm)).trans h3⟩
def aHr (B:Nat)(L:List dQ):Value->World->Prop:=λv W=>aL 2 cO 229 W B v L
theorem aGv (B:Nat)(L:List dQ):bO (aHr B L):=λ_ W W' h hb=>aL.keep W W' h hb
theorem aUn {A B:Prop}(h:(A/\B)\/A):A:=h.elim (·.1) id
theorem pP.fin (h:pP w B b m cs W)(hBw:B<=w.heap.size)(hB:B<=b){v:Value}{y:kZ}(ho:aL 2 cO 229 W B v y.L)(hg:W.grownBy W' (some b))(hb:W'.heap[b]? =some (.cells (rdC y.nm y.vl (y.pl:Int) (y.rn:Int) v m) 299 (0,0)))(e:Ending)(he:e=.returned .nilIface):vF B w b m (some y) e W':=by
 have hb0:=h.st.blk _ (List.mem_cons_self ..);refine⟨.inl ⟨y,rfl,he,v,⟨hb,h.map.kept hg (λr e=>by cases e;exact h.map.ne hb0)⟩,ho.aW7 (e:=299) (by decide) hg (λr e=>by cases e;exact⟨_,hb0⟩)⟩,?_,?_⟩
 .exact h.fr.trans ⟨hg.os,hg.tape,hg.output,hg.size,λk hk=>hg.block k (kG hk (dR hBw h.fr.size)) (by intro e;cases e;omega)⟩
 .exact h.ok.trans (λk o hk hne _=>(hg.block k (Array.getElem?_eq_some_iff.1 hk).1 hne).trans hk)
theorem aJc (B b m:Nat)(hB:B<=b)(n:Nat)(hn:n<=100000)(x:kZ)(hx:x.Ok n)(w:World)(h:jO B w b m x):
  Calls prog 151 #[pv b 0] w (vF B w b m (qM x)):=by
 have H:=aA h;obtain⟨v,hr,ho⟩:=h;have hcl:=aE hr.blk;have hfr:=bB hr.blk;have hlt:=aC hr.blk;have hlen:=hx.len;obtain⟨nm,vl,pl,rn,L⟩:=x;obtain⟨ss,sc,rfl,hf1,hf2,hf3,hf4,hf5⟩:=ho.form cE;simp only at hcl hlen hr ho H;clear hx
 by_cases h0:pl=1
 case neg=>
  have hz:((pl:Int)==1)=false:=by simp;omega
  rw[show qM ⟨nm,vl,pl,rn,L⟩=none by simp[qM,h0]];clear hr ho h0 hlen hn;go_enter func151,ntmps151;go_wp2_with fail;go_ret;exact vF.bad H.out _ _ rfl
 subst h0
 by_cases h6:L.length=6
 .have hz:((L.length:Int)==6)=true:=by simp;omega
  rw[show qM ⟨nm,vl,1,rn,L⟩=none by simp[qM,h6]];clear hr ho hlen hn;go_enter func151,ntmps151;go_wp2_with fail;go_ret;exact vF.bad H.out _ _ rfl
 have hz:((L.length:Int)==6)=false:=by simp;omega
 rw[show qM ⟨nm,vl,1,rn,L⟩=some ⟨⟨#[]⟩,⟨#[]⟩,0,0,L++[⟨nm,vl⟩]⟩ by simp[qM,h6]];have X0:pP w B b m (rdC nm vl 1 (rn:Int) (.slice ss L.length sc) m) w:=⟨⟨⟨rfl,rfl,rfl,cJ _,λ_ hk=>absurd hk (Nat.not_lt_zero _)⟩,λy hy=>by
  have hy':y=(b,rdC nm vl 1 (rn:Int) (.slice ss L.length sc) m,299):=by simpa using hy
  subst hy';exact hr.blk,List.pairwise_singleton _ _,trivial,λ_ _ _ _=>trivial⟩,hr.map,aW,Lib.OthersKept.refl _ _ _⟩
 have hBw:B<=w.heap.size:=by omega
 have HX:=aA (aB X0 ho);have HBB:=aA (aB hBw (aB hB hlen));have HROW:Hid (∀W,aL 2 cO 229 W B (.slice ss L.length sc) L->∀r,(Value.slice ss L.length sc).ownBlock=some r->B<=r/\∃cur,W.heap[r]? =some (.cells cur 229 (0,0))):=λW h r e=>h.row r e;clear hr ho X0 h6 hn hlen hBw hf1 hf2 hf3 hf4 hf5 H;go_enter func151,ntmps151;go_wp2_with fail;refine wP 13 10 (Fs [dC (pv b 0),dC (pv b 0),dC (pv b 0),dC (pv b 4),dC (.slice ss L.length sc),dC (pv b 0),dC (pv b 0),dC (pv b 0),dC (.agg #[.string nm,.string vl]),aFq (Value.slice ss L.length sc).ownBlock ⟨nm,vl⟩,aHr B (L++[⟨nm,vl⟩]),dC (pv b 0),dC (pv b 4)]) (λbG W=>cond bG (pP w B b m (rdC nm vl 1 (rn:Int) (.slice ss L.length sc) m) W) (pP w B b m (rdC nm vl 1 (rn:Int) (.slice ss L.length sc) m) W/\aL 2 cO 229 W B (.slice ss L.length sc) L)) (λW W'=>W.grownBy W' (Value.slice ss L.length sc).ownBlock) (by kernel_rfl) (by kernel_rfl) (by kernel_rfl) (by decide) ?h0 (tG _ ?stab) (xW _ _ _ ?stabR) ?keepG ?spec ?endd
 case h0=>exact⟨HX.out.1.aWu HBB.out.1 aW.drew,aL.keep _ _ HX.out.2 aW.drew⟩
 case stab=>
  simp only[List.forall_mem_cons];exact⟨aS _,aS _,aS _,aS _,aS _,aS _,aS _,aS _,aS _,aMm _ _,aGv _ _,aS _,aS _,by simp⟩
 case stabR=>exact⟨bE _ _,bE _ _,bE _ _,bE _ _,bE _ _,bE _ _,bE _ _,bE _ _,bE _ _,aIe _ _,trivial,bE _ _,bE _ _,trivial⟩
 case keepG=>
  intro b' W1 W2 h hb;cases b' with
  |false=>exact⟨h.1.aWu HBB.out.1 hb,aL.keep _ _ h.2 hb⟩
  |true=>exact pP.aWu h HBB.out.1 hb
 case spec=>
  refine⟨?_,?_,?_,?_,?_,?_,?_,?_,?_,?_,?_,?_,?_,trivial⟩;rotate_left 10
  .intro a W hW hu hd;have kc:∀c,a.eval (Operand.const c)=c:=λ_=>rfl;have kf:∀f,a.eval (Operand.func f)=.func (.func f) #[] #[]:=λ_=>rfl;have hW:pP w B b m (rdC nm vl 1 (rn:Int) (.slice ss L.length sc) m) W/\aL 2 cO 229 W B (.slice ss L.length sc) L:=hW;have u22:a.eval (Operand.tmp 22)=.slice ss L.length sc:=hd 4 22 (by kernel_rfl) rfl;have f27:aFq (Value.slice ss L.length sc).ownBlock ⟨nm,vl⟩ (a.eval (Operand.tmp 27)) W:=hd 9 27 (by kernel_rfl) rfl;obtain⟨A,u27,hA,hN⟩:=f27;change cond true _ _;rw[cond_true];exact sD aSr cE rQ rfl (.tmp 22) (.tmp 27) rfl B _ L u22 hW.2 [⟨nm,vl⟩] 1 rfl A 0 1 u27 (Rd.aW2 cE hN rfl) (by have:=HBB.out.2.2;simp;omega) (by decide) (dR HBB.out.1 hW.1.fr.size) (λv' W' ho hg=>⟨hg,ho,hW.1.grown HBB.out.1 hg (HROW.out W hW.2)⟩)
  rotate_right 10
  all_goals(intro a W hW hu hd;have kc:∀c,a.eval (Operand.const c)=c:=λ_=>rfl;have kf:∀f,a.eval (Operand.func f)=.func (.func f) #[] #[]:=λ_=>rfl;have hW:(pP w B b m (rdC nm vl 1 (rn:Int) (.slice ss L.length sc) m) W/\aL 2 cO 229 W B (.slice ss L.length sc) L)\/(pP w B b m (rdC nm vl 1 (rn:Int) (.slice ss L.length sc) m) W):=hW;have sW:=(aUn hW).st;have rl:=sW.rules;simp only[aI,World.size_alloc] at rl)
  have u0:a.eval (Operand.tmp 0)=pv b 0:=hu 0 (by decide);rotate_left;have u0:a.eval (Operand.tmp 0)=pv b 0:=hu 0 (by decide);rotate_left;have u19:a.eval (Operand.tmp 19)=pv b 0:=hd 1 19 (by kernel_rfl) rfl;rotate_left;have u20:a.eval (Operand.tmp 20)=pv b 0:=hd 2 20 (by kernel_rfl) rfl;rotate_left;have u21:a.eval (Operand.tmp 21)=pv b 4:=hd 3 21 (by kernel_rfl) rfl;rotate_left;have u0:a.eval (Operand.tmp 0)=pv b 0:=hu 0 (by decide);rotate_left;have u23:a.eval (Operand.tmp 23)=pv b 0:=hd 5 23 (by kernel_rfl) rfl;rotate_left;have u24:a.eval (Operand.tmp 24)=pv b 0:=hd 6 24 (by kernel_rfl) rfl;rotate_left;have u25:a.eval (Operand.tmp 25)=pv b 0:=hd 7 25 (by kernel_rfl) rfl;rotate_left
  .have u26:a.eval (Operand.tmp 26)=.agg #[.string nm,.string vl]:=hd 8 26 (by kernel_rfl) rfl;show eH _ _ _ _ _ _;unfold eH;rw[if_pos (by rfl)];clear hu hd;generalize a.eval=ρ at*;go_simp;exact⟨aW.alloc aH _,W.heap.size,rfl,(λe=>by
    rcases hW with⟨_,ho⟩|h
    .obtain⟨_,cur,hr⟩:=HROW.out W ho _ e;have:=aC hr;omega
    .have:=HX.out.2.lt _ e;have:=h.fr.size;omega),kH _ _⟩
  have u18:a.eval (Operand.tmp 18)=pv b 0:=hd 0 18 (by kernel_rfl) rfl;rotate_left;have u29:a.eval (Operand.tmp 29)=pv b 0:=hd 11 29 (by kernel_rfl) rfl;rotate_left
  all_goals(show eH _ _ _ _ _ _;unfold eH;rw[if_pos (by rfl)];clear hu hd;generalize a.eval=ρ at*;go_simp;exact aG rfl)
 case endd=>
  intro v W hW hv;have hW:pP w B b m (rdC nm vl 1 (rn:Int) (.slice ss L.length sc) m) W:=hW;have v0:v 0=(pv b 0):=hv 0 (by omega);have v1:v 1=(pv b 0):=hv 1 (by omega);have v2:v 2=(pv b 0):=hv 2 (by omega);have v3:v 3=(pv b 4):=hv 3 (by omega);have v4:v 4=(.slice ss L.length sc):=hv 4 (by omega);have v5:v 5=(pv b 0):=hv 5 (by omega);have v6:v 6=(pv b 0):=hv 6 (by omega);have v7:v 7=(pv b 0):=hv 7 (by omega);have v8:v 8=(.agg #[.string nm,.string vl]):=hv 8 (by omega);have hf9:aFq (Value.slice ss L.length sc).ownBlock ⟨nm,vl⟩ (v 9) W:=hv 9 (by omega);have hf10:aHr B (L++[⟨nm,vl⟩]) (v 10) W:=hv 10 (by omega);have v11:v 11=(pv b 0):=hv 11 (by omega);have v12:v 12=(pv b 4):=hv 12 (by omega);clear hv;simp only[List.take_succ_cons,List.take_zero,List.drop_succ_cons,List.drop_zero,fS,Nat.zero_add,Nat.reduceAdd];rw[v0,v1,v2,v3,v4,v5,v6,v7,v8,v11,v12];clear v0 v1 v2 v3 v4 v5 v6 v7 v8 v11 v12;obtain⟨ss',sc',v10,-,-,-,-,-⟩:=aL.form cE hf10;rw[List.length_append,List.length_singleton] at v10;rw[v10] at hf10⊢;generalize v 9=q9 at*;have rl:=hW.st.rl;have HW:=aA (aB hW (show aL 2 cO 229 W B (.slice ss' (L.length+1) sc') (L++[⟨nm,vl⟩]) from hf10));clear hf9 hf10 v10 hW hcl hfr hlt;go_wp2_with fail;go_ret;have hb0:=HW.out.1.st.blk _ (List.mem_cons_self ..);exact HW.out.1.fin HBB.out.1 HBB.out.2.1 (y:=⟨⟨#[]⟩,⟨#[]⟩,0,0,L++[⟨nm,vl⟩]⟩) HW.out.2 (gM (gM (gM (gM (bF _ _ _ _) (bF _ _ _ _)) (bF _ _ _ _)) (bF _ _ _ _)) (bF _ _ _ _)) (cU (cU (cU (cU (cU hb0 4 _) 0 _) 1 _) 2 _) 3 _) _ rfl
theorem aGm (B b m:Nat)(hB:B<=b)(n:Nat)(hn:n<=100000)(x:kZ)(hx:x.Ok n)(w:World)(h:jO B w b m x):
  Calls prog 182 #[pv b 0,.int .i32 61] w (vF B w b m (if x.pl=1 then dY x 61 else if x.nm=⟨#[]⟩ then none else some {x with pl:=1})):=by
 have H:=aA h;have HP:=aA (uB B b m hB n hn x hx 61 (by omega) w h);obtain⟨v,hr,ho⟩:=h;have HT:=aA (λ(y:kZ) W' hL hg hb e he=>jO.aX3 (y:=y) (W':=W') hr ho hB hL hg hb (dR hB (Nat.le_of_lt (aC hr.blk))) e he);have HB:=aA hr.blk;have hcl:=aE hr.blk;have hfr:=bB hr.blk;have hlt:=aC hr.blk;obtain⟨nm,vl,pl,rn,L⟩:=x;simp only at HT HB hcl H HP⊢;clear hr ho hx hn
 by_cases h0:pl=1
 .have hz:((pl:Int)==1)=true:=by simp;omega
  rw[if_pos h0];clear h0;go_enter func182,ntmps182;go_wp2_with fail;refine HP.out.mono ?_;rintro e w1 hp;obtain⟨v1,rfl⟩:∃v1,e=.returned v1:=by
   rcases hp.1 with⟨_,_,h,_⟩|⟨_,⟨_,h⟩,_⟩
   .exact⟨_,h⟩
   .exact⟨_,h⟩
  have HP1:=aA hp;clear hp;go_wp2_with fail;go_ret;exact HP1.out
 .have hz:((pl:Int)==1)=false:=by simp;omega
  rw[if_neg h0];clear h0
  by_cases he:nm=⟨#[]⟩
  .subst he;rw[if_pos rfl];go_enter func182,ntmps182;go_wp2_with fail;go_ret;exact vF.bad H.out _ _ rfl
  .rw[if_neg he];have hie:=qP he;clear he;go_enter func182,ntmps182;go_wp2_with fail;go_ret;exact HT.out _ _ rfl (bF _ _ _ _) (cU HB.out 2 _) _ rfl
theorem aLi (B b m:Nat)(hB:B<=b)(x:kZ)(w:World)(h:jO B w b m x):
  Calls prog 184 #[pv b 0,.int .i32 92] w (vF B w b m (if x.pl=0 then none else some {x with pl:=2})):=by
 have H:=aA h;obtain⟨v,hr,ho⟩:=h;have HT:=aA (λ(y:kZ) W' hL hg hb e he=>jO.aX3 (y:=y) (W':=W') hr ho hB hL hg hb (dR hB (Nat.le_of_lt (aC hr.blk))) e he);have HB:=aA hr.blk;have hcl:=aE hr.blk;have hfr:=bB hr.blk;have hlt:=aC hr.blk;obtain⟨nm,vl,pl,rn,L⟩:=x;simp only at HT HB hcl H⊢;clear hr ho
 by_cases h0:pl=0
 .have hz:((pl:Int)==0)=true:=by simp;exact h0
  rw[if_pos h0];clear h0;go_enter func184,ntmps184;go_wp2_with fail;go_ret;exact vF.bad H.out _ _ rfl
 .have hz:((pl:Int)==0)=false:=by simp;exact h0
  rw[if_neg h0];clear h0;go_enter func184,ntmps184;go_wp2_with fail;go_ret;exact HT.out _ _ rfl (bF _ _ _ _) (cU HB.out 2 _) _ rfl
theorem vF.ret {y:Option kZ}{e:Ending}{w':World}(h:vF B w b m y e w'):∃v,e=.returned v:=by
 rcases h.1 with⟨_,_,h,_⟩|⟨_,⟨_,h⟩,_⟩
 .exact⟨_,h⟩
 .exact⟨_,h⟩
theorem aK2 (B b m:Nat)(hB:B<=b)(n:Nat)(hn:n<=100000)(x:kZ)(hx:x.Ok n)(c:Value)(w:World)(h:jO B w b m x):
  Calls prog 183 #[pv b 0,c] w (vF B w b m (qM x)):=by
 have HP:=aA (aJc B b m hB n hn x hx w h);clear h hx hn;go_enter func183,ntmps183;go_wp2_with fail;refine HP.out.mono ?_;rintro e w1 hp;obtain⟨v1,rfl⟩:=hp.ret;have HP1:=aA hp;clear hp;go_wp2_with fail;go_ret;exact HP1.out
theorem vF.after {w1:World}{y:Option kZ}{e:Ending}{w':World}(h:vF B w1 b m y e w')(hb:Below B w w1)(hk:Lib.OthersKept 229 (some b) w w1):vF B w b m y e w':=⟨h.1,hb.trans h.2.1,hk.trans h.2.2⟩
theorem aO4 (B b m:Nat)(hB:B<=b)(n:Nat)(hn:n<=100000)(x:kZ)(hx:x.Ok n)(c:Nat)(hc:c<=1114111)(w:World)(h:jO B w b m x):
  Calls prog 150 #[pv b 0,.int .i32 (c:Int)] w (vF B w b m (jK x c)):=by
 have H:=aA h;have HX:=aA hx;have h':=h;obtain⟨v,hr,ho⟩:=h;have HT:=aA (λ(y:kZ) W' hL hg hb e he=>jO.aX3 (y:=y) (W':=W') hr ho hB hL hg hb (dR hB (Nat.le_of_lt (aC hr.blk))) e he);have hcl:=aE hr.blk;have hfr:=bB hr.blk;have hlt:=aC hr.blk;have HB:=aA hr.blk;have HMAP:=aA hr.map
 by_cases h0:x.pl=2
 .have hz:((x.pl:Int)==2)=true:=by simp;omega
  have HS:=aA (HT.out {x with pl:=1} (w.setCell ⟨b,2,none⟩ (.int .i64 1)) rfl (bF _ _ _ _) (cU HB.out 2 _) (.returned .nilIface) rfl);have HP:=aA (λW hW=>uB B b m hB n hn {x with pl:=1} ⟨hx.nm,hx.vl,Nat.succ_le_succ (cJ _),hx.rn,hx.len,hx.ls⟩ c hc W hW);have HE:Hid (jK x c=dY {x with pl:=1} c):=by show _=_;unfold jK;rw[if_pos h0]
  obtain⟨nm,vl,pl,rn,L⟩:=x;simp only at hz hcl HS HP HE h0;clear hr ho hx h' hn hc h0 HB HT;go_enter func150,ntmps150;go_wp2_with fail;have hst:jO B (w.setCell ⟨b,2,none⟩ (.int .i64 1)) b m ⟨nm,vl,1,rn,L⟩:=by
   rcases HS.out.1 with⟨z,hz,_,h⟩|⟨h,_⟩
   .cases hz;exact h
   .cases h
  refine(HP.out _ hst).mono ?_;rintro e w1 hp;obtain⟨v1,rfl⟩:=hp.ret;have HP1:=aA (hp.after HS.out.2.1 HS.out.2.2);clear hp hst;go_wp2_with fail;go_ret;rw[HE.out];exact HP1.out
 have hz:((x.pl:Int)==2)=false:=by simp;omega
 have hfin:∀e w1,vF B w b m (jK x c) e w1->vF B w b m (jK x c) e w1:=λ_ _ h=>h
 by_cases h1:c=61
 .subst h1;have HP:=aA (aGm B b m hB n hn x hx w h');have HE:Hid (jK x 61=(if x.pl=1 then dY x 61 else if x.nm=⟨#[]⟩ then none else some {x with pl:=1})):=by show _=_;unfold jK;rw[if_neg h0,if_pos rfl]
  have hk:=HMAP.out.look.1;obtain⟨nm,vl,pl,rn,L⟩:=x;simp only at hz hcl HP HE;clear hr ho hx h' hn hc h0 HB HT hfin;go_enter func150,ntmps150;go_wp2_with fail;refine HP.out.mono ?_;rintro e w1 hp;obtain⟨v1,rfl⟩:=hp.ret;have HP1:=aA hp;clear hp;go_wp2_with fail;go_ret;rw[HE.out];exact HP1.out
 by_cases h2:c=44
 .subst h2;have HP:=aA (aK2 B b m hB n hn x hx (.int .i32 44) w h');have HE:Hid (jK x 44=qM x):=by show _=_;unfold jK;rw[if_neg h0,if_neg (by decide),if_pos rfl]
  have hk:=HMAP.out.look.2.1;obtain⟨nm,vl,pl,rn,L⟩:=x;simp only at hz hcl HP HE;clear hr ho hx h' hn hc h0 HB HT hfin h1;go_enter func150,ntmps150;go_wp2_with fail;refine HP.out.mono ?_;rintro e w1 hp;obtain⟨v1,rfl⟩:=hp.ret;have HP1:=aA hp;clear hp;go_wp2_with fail;go_ret;rw[HE.out];exact HP1.out
 by_cases h3:c=92
 .subst h3;have HP:=aA (aLi B b m hB x w h');have HE:Hid (jK x 92=(if x.pl=0 then none else some {x with pl:=2})):=by show _=_;unfold jK;rw[if_neg h0,if_neg (by decide),if_neg (by decide),if_pos rfl]
  have hk:=HMAP.out.look.2.2;obtain⟨nm,vl,pl,rn,L⟩:=x;simp only at hz hcl HP HE;clear hr ho hx h' hn hc h0 HB HT hfin h1 h2;go_enter func150,ntmps150;go_wp2_with fail;refine HP.out.mono ?_;rintro e w1 hp;obtain⟨v1,rfl⟩:=hp.ret;have HP1:=aA hp;clear hp;go_wp2_with fail;go_ret;rw[HE.out];exact HP1.out
 have HP:=aA (uB B b m hB n hn x hx c hc w h');have HE:Hid (jK x c=dY x c):=by show _=_;unfold jK;rw[if_neg h0,if_neg h1,if_neg h2,if_neg h3]
 have hk:=HMAP.out.none c hc h1 h2 h3;obtain⟨nm,vl,pl,rn,L⟩:=x;simp only at hz hcl HP HE;clear hr ho hx h' hn hc h0 HB HT hfin h1 h2 h3;go_enter func150,ntmps150;go_wp2_with fail;refine HP.out.mono ?_;rintro e w1 hp;obtain⟨v1,rfl⟩:=hp.ret;have HP1:=aA hp;clear hp;go_wp2_with fail;go_ret;rw[HE.out];exact HP1.out
end
end Go.Proofs.YtmgdbfmlnmahpaaGreatDoor
