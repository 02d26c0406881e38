/- Part of TopAudits. -/
import Derived.Test.YtmgdbfmlnmahpaaGreatDoorG24
import Derived.Test.YtmgdbfmlnmahpaaGreatDoorG25
namespace Go.Proofs.YtmgdbfmlnmahpaaGreatDoor
set_option linter.unusedSimpArgs false
set_option linter.unusedVariables false
set_option maxRecDepth 100000
set_option maxHeartbeats 4000000
open Go.Proofs.Tryz
open Go.RowKit Go.Shelf
section
variable {s:ByteArray}
def yL :ByteArray:=⟨#[97,61,120]⟩
theorem aBp (s:ByteArray)(c:UInt8)(w:World):Calls prog 168 #[.string s,.string ⟨#[c]⟩] w λe w'=>e=.returned (.int .i64 (Lib.indexByte s.data.toList c))/\w'=w:=by
 have H:=aA (Tryz.stringslite_Index_one s c w);go_enter func168,ntmps168;go_wp2_with fail;refine H.out.mono ?_;rintro e w1 ⟨rfl,rfl⟩;go_wp2_with fail;go_ret;exact⟨rfl,rfl⟩
theorem aO1 (s:ByteArray)(c:UInt8)(h:¬Lib.indexByte s.data.toList c<0):∃k:Nat,Lib.indexByte s.data.toList c=(k:Int)/\k<s.size:=by
 obtain⟨k,hk⟩:∃k:Nat,Lib.indexByte s.data.toList c=(k:Int):=⟨_,(Int.toNat_of_nonneg (by omega)).symm⟩;refine⟨k,hk,?_⟩;have h1:=(Lib.indexByte_some hk).1;have:=(gJ.1 h1).1
 simpa using this
def aUr (s:ByteArray)(e:Ending):Prop:=∃(a c:ByteArray) (f:Bool),e=.returned (.tuple #[.string a,.string c,.bool f])/\a.size<=s.size/\c.size<=s.size/\(s=yL->a=⟨#[97]⟩/\c=⟨#[120]⟩/\f=true)
theorem aLw (s:ByteArray)(hs:s.size<=1000000)(w:World):Calls prog 125 #[.string s,.string ⟨#[61]⟩] w λe w'=>aUr s e/\Below w.heap.size w w':=by
 have H:=aA (Tryz.stringslite_Index_one s 61 w)
 by_cases hi:Lib.indexByte s.data.toList 61<0
 .have hne:s≠yL:=by rintro rfl;exact absurd hi (by decide)
  have hi':¬0<=Lib.indexByte s.data.toList 61:=by omega
  go_enter func125,ntmps125;go_wp2_with fail;refine H.out.mono ?_;rintro e w1 ⟨rfl,rfl⟩;go_wp2_with fail;exact bodyPost_ret (v:=.tuple #[.string s,.string ⟨#[]⟩,.bool false]) (by simp[results,results125,go_sem]) rfl ⟨⟨_,_,_,rfl,aH,cJ _,λh=>(hne h).elim⟩,aW⟩
 .obtain⟨k,hk,hlt⟩:=aO1 s 61 hi;rw[hk] at H;have hax:s=yL->k=1:=by rintro rfl;have:Lib.indexByte yL.data.toList 61=1:=(by decide);omega
  have HA:=aA hax;clear hax hk hi;go_enter func125,ntmps125;go_wp2_with fail;refine H.out.mono ?_;rintro e w1 ⟨rfl,rfl⟩;have sl1:∀W:World,(Instr.slice 9 (.string s) none (some (.int .i64 k)) none).run prog W=.ok (.string (s.extract 0 k)) W:=λW=>by
   rw[run_slice_string_h W _ s underlying9 .i64 (k:Int) (by omega) (by omega)];simp
  have sl2:∀W:World,(Instr.slice 9 (.string s) (some (.int .i64 ((k:Int)+1))) none none).run prog W=.ok (.string (s.extract (k+1) s.size)) W:=λW=>by
   rw[run_slice_string_l W _ s underlying9 .i64 ((k:Int)+1) (by omega) (by omega)];rfl
  go_wp2_with fail;have st:=St.start w1;obtain⟨bl2,E2,hne2,sh2,rl,hEx,hbx,hst⟩:=st.aW1;refine aZ sh2 (by kernel_rfl) (by kernel_rfl) ?_
  repeat(first|go_big_quiet_step (fail)|quiet_step (fail))
  refine wpQuiet_nil ?_;intro y;have hb:=(hbx y).out;clear hbx rl hst sh2 hEx;generalize y.W=w4 at*;go_wp2_with fail;refine bodyPost_ret (v:=.tuple #[.string (s.extract 0 k),.string (s.extract (k+1) s.size),.bool true]) (by simp[results,results125,go_sem]) rfl ⟨⟨_,_,_,rfl,by simp;omega,by simp,λh=> ?_⟩,hb⟩;have:=HA.out h;subst this;subst h;exact⟨by decide,by decide,rfl⟩
theorem aR5 (s:ByteArray)(hs:s.size<=1000000)(w:World):Calls prog 78 #[.string s,.string ⟨#[61]⟩] w λe w'=>aUr s e/\Below w.heap.size w w':=by
 have H:=aA (aLw s hs w);go_enter func78,ntmps78;go_wp2_with fail;refine H.out.mono ?_;rintro e w1 ⟨⟨a,c,f,rfl,h⟩,hb⟩;have HH:=aA h;clear h H;go_wp2_with fail;exact bodyPost_ret (v:=.tuple #[.string a,.string c,.bool f]) (by simp[results,results78,go_sem]) rfl ⟨⟨a,c,f,rfl,HH.out⟩,hb⟩
abbrev aNq (s:ByteArray)(w:World):World:=((w.alloc (.cells #[.string s] 9)).alloc (.cells #[.string ⟨#[59]⟩] 9)).alloc (.cells #[.int .i64 0] 3)
abbrev aS6 (n:Nat):Value:=.func (.func 166) #[] #[pv (n+1) 0,pv n 0,pv (n+1+1) 0]
theorem aKb (s:ByteArray)(w:World):Calls prog 124 #[.string s,.string ⟨#[59]⟩,.int .i64 0] w λe w'=>e=.returned (aS6 w.heap.size)/\w'=aNq s w:=by
 have hmf:∀(fn:Fn) (first cap:Array Value) (w:World),(Instr.makeFunc fn first cap).run prog w=.ok (.func fn first cap) w:=λ_ _ _ _=>rfl;go_enter func124,ntmps124;go_wp2_with fail;go_ret;exact⟨rfl,rfl⟩
theorem aBf (s:ByteArray)(w:World):Calls prog 77 #[.string s,.string ⟨#[59]⟩] w λe w'=>e=.returned (aS6 w.heap.size)/\w'=aNq s w:=by
 go_enter func77,ntmps77;go_wp2_with fail;refine(aKb _ _).mono ?_;rintro e w1 ⟨rfl,rfl⟩;go_wp2_with fail;go_ret;exact⟨rfl,rfl⟩
def aNf (W:World)(b:Nat):Nat:=match W.heap[b]? with
 |some (.cells cs _ _)=>(match(cs[0]? :Option Value) with|some (Value.string s)=>s.size|_=>0)
 |_=>0
theorem aEp {W:World}{b:Nat}(h:W.heap[b]? =some (.cells #[.string s] 9 (0,0))):aNf W b=s.size:=by simp[aNf,h]
def spN (s:ByteArray):Nat:=open Classical in if s=yL then 1 else s.size+1
theorem aNl {n:Nat}(h:n<=s.size)(hx:s=yL->n=0):n<spN s:=by
 unfold spN;split
 .rename_i e;have:=hx e;omega
 .omega
theorem aTq {n:Nat}(h:n<spN s)(e:s=yL):n=0:=by
 unfold spN at h;rw[if_pos e] at h;omega
abbrev aPo (b:Nat):List cH:=[(b+1+1,#[.int .i64 0],3),(b+1,#[.string ⟨#[59]⟩],9)]
abbrev aSm (b:Nat):List cH:=(b,#[],9)::aPo b
theorem aO9 (s:ByteArray)(hs:s.size<=1000000)(b:Nat)(n:Nat)(hn:1<=n)(lb:Nat)(J Jx:List ByteArray->World->Prop)(bJ:jJ (some b) J)
  (hY:∀(pre:List ByteArray) (x:ByteArray) (W:World),J pre W->(x.size<=s.size/\(s=yL->x=s))->pre.length<spN s->YieldAt Fence.wide (n-1) prog lb #[.string x] W λe W'=>(e=.returned (.bool true)/\J (pre++[x]) W'/\KpB (aSm b) W W')\/(e=.returned (.bool false)/\Jx (pre++[x]) W'))
  (W:World) (hb:W.heap[b]? =some (.cells #[.string s] 9 (0,0))) (hW:eR (aPo b) W) (h0:J [] W):
  CallsIn Fence.wide n prog 166 #[.func (.yield lb) #[] #[],pv (b+1) 0,pv b 0,pv (b+1+1) 0] W λe W'=>(∃v,e=.returned v)/\((∃xs,(s=yL->xs=[s])/\J xs W')\/(∃pre,True/\Jx pre W')):=by
 have hc1:=aE (hW (b+1,#[.string ⟨#[59]⟩],9) (by simp)) 0;refine callsIn_of_wp func166 rfl trivial ?_ rfl;simp only[ntmps166,List.size_toArray,List.length_cons,List.length_nil,Nat.reduceAdd,Nat.reduceSub,Array.replicate_succ,Array.replicate_zero,List.push_toArray,List.append_toArray,List.nil_append,List.cons_append];gi_wp2_with fail;clear hc1
 gi_loopw [7,8] (λ_ _ wr=>∃(pre:List ByteArray) (rest:ByteArray),wr.heap[b]? =some (.cells #[.string rest] 9 (0,0))/\eR (aPo b) wr/\J pre wr/\pre.length+rest.size<=s.size/\(s=yL->rest=s/\pre=[])) (λ_ _ wr=>aNf wr b)
 case atStart=>exact⟨[],s,hb,hW,h0,by simp,λ_=>⟨rfl,rfl⟩⟩
 case round=>
  clear hb hW h0;obtain⟨pre,rest,hb,hW,hJ,hl,hx⟩:=hrel;have hc0:=aE hb 0;have hc1:=aE (hW (b+1,#[.string ⟨#[59]⟩],9) (by simp)) 0;have hc2:=aE (hW (b+1+1,#[.int .i64 0],3) (by simp)) 0;have HI:=aA (aBp rest 59 wr);have HL:=aA hl;have HX:=aA hx;have hLS:=aEp hb;have hbl:=aC hb
  by_cases hi:Lib.indexByte rest.data.toList 59<0
  .obtain⟨fn,tmps,assign,body,hy,hR⟩:=hY pre rest _ hJ ⟨by omega,λh=>(hx h).1⟩ (aNl (by omega) (λh=>by rw[(hx h).2];rfl));clear hl hx hY hW hb hJ;gi_wp2_with fail;refine⟨trivial,(callsIn_wide.2 HI.out).mono ?_⟩;rintro e w1 ⟨rfl,hw1⟩;subst hw1;gi_wp2_with fail;refine hR.mono ?_;rintro e W3 (⟨rfl,hJ3,hk3⟩|⟨rfl,hJx3⟩)
   .clear hy hR hc0 hc1;gi_wp2_with fail
    first|go_end0|refine bodyPost_ret (results_none rfl _ _ _) rfl ?_
    exact⟨⟨_,rfl⟩,.inl ⟨_,λh=>by rw[(HX.out h).1,(HX.out h).2];rfl,hJ3⟩⟩
   .clear hy hR hc0 hc1;gi_wp2_with fail
    first|go_end0|refine bodyPost_ret (results_none rfl _ _ _) rfl ?_
    exact⟨⟨_,rfl⟩,.inr ⟨_,trivial,hJx3⟩⟩
  .obtain⟨k,hk,hlt⟩:=aO1 rest 59 hi;have hne:s≠yL:=by
    intro h;rw[(hx h).1,h] at hk;have:Lib.indexByte yL.data.toList 59= -1:=by decide
    omega
   rw[hk] at HI;obtain⟨fn,tmps,assign,body,hy,hR⟩:=hY pre (rest.extract 0 k) _ hJ ⟨by simp;omega,λh=>(hne h).elim⟩ (aNl (by omega) (λh=>(hne h).elim));have HNE:=aA hne;have HW:=aA (aB hb hW);have sl1:∀W:World,(Instr.slice 9 (.string rest) none (some (.int .i64 k)) none).run prog W=.ok (.string (rest.extract 0 k)) W:=λW=>by
    rw[run_slice_string_h W _ rest underlying9 .i64 (k:Int) (by omega) (by omega)];simp
   have sl2:∀W:World,(Instr.slice 9 (.string rest) (some (.int .i64 ((k:Int)+1))) none none).run prog W=.ok (.string (rest.extract (k+1) rest.size)) W:=λW=>by
    rw[run_slice_string_l W _ rest underlying9 .i64 ((k:Int)+1) (by omega) (by omega)];rfl
   have hk':wrap64 (k:Int)=(k:Int):=by unfold wrap64;omega
   have hk2:wrap64 ((k:Int)+1)=(k:Int)+1:=by unfold wrap64;omega
   clear hl hx hY hW hb hJ hi hk hne;gi_wp2_with fail;refine⟨trivial,(callsIn_wide.2 HI.out).mono ?_⟩;rintro e w1 ⟨rfl,hw1⟩;subst hw1;gi_wp2_with fail;refine hR.mono ?_;rintro e W3 (⟨rfl,hJ3,hk3⟩|⟨rfl,hJx3⟩)
   .have hb3:=(hk3 (b,#[],9) (by simp)).trans HW.out.1;have h13:=(hk3 (b+1,#[.string ⟨#[59]⟩],9) (by simp)).trans (HW.out.2 (b+1,#[.string ⟨#[59]⟩],9) (by simp));have h23:=(hk3 (b+1+1,#[.int .i64 0],3) (by simp)).trans (HW.out.2 (b+1+1,#[.int .i64 0],3) (by simp));have d0:=aE hb3 0;have f0:=bB hb3 0;have d1:=aE h13 0;have d2:=aE h23 0;have HB3:=aA (aB hb3 (aB h13 h23));clear hy hR hc0 hc1 hc2 hb3 h13 h23 hk3;gi_wp2_with fail;have hb4:(W3.setCell ⟨b,0,none⟩ (.string (rest.extract (k+1) rest.size))).heap[b]? =some (.cells #[.string (rest.extract (k+1) rest.size)] 9 (0,0)):=by
     rw[heap_setCell_same _ _ _ _ _ _ HB3.out.1];rfl
    go_roundw
    case rel=>
     refine⟨pre++[rest.extract 0 k],rest.extract (k+1) rest.size,hb4,λy hy=> ?_,bJ _ _ _ hJ3 (grownBy_setCell' _ _ _),by have:=HL.out;simp;omega,λh=>(HNE.out h).elim⟩;simp at hy;rcases hy with rfl|rfl
     .exact(Below.heap_setCell _ _ _ _ (by simp<;>omega)).trans HB3.out.2.2
     .exact(Below.heap_setCell _ _ _ _ (by simp)).trans HB3.out.2.1
    case measure=>
     rw[aEp hb4,hLS];simp;omega
   .clear hy hR hc0 hc1;gi_wp2_with fail
    first|go_end0|refine bodyPost_ret (results_none rfl _ _ _) rfl ?_
    exact⟨⟨_,rfl⟩,.inr ⟨_,trivial,hJx3⟩⟩
theorem aLu (s:ByteArray)(hs:s.size<=1000000)(b:Nat)(n:Nat)(hn:1<=n)(W:World)(hb:W.heap[b]? =some (.cells #[.string s] 9 (0,0)))(hW:eR (aPo b) W):
  aBd Fence.wide n prog 166 #[pv (b+1) 0,pv b 0,pv (b+1+1) 0] (λx:ByteArray=> #[.string x]) (λx _=>x.size<=s.size/\(s=yL->x=s)) (KpB (aSm b)) (λxs=>s=yL->xs=[s]) (λ_=>True) (spN s) (some b) W:=λlb J Jx bJ _ hY h0=>
 aO9 s hs b n hn lb J Jx bJ hY W hb hW h0
end
section
theorem aUa :eM prog 125 184 2 32:=eM.mk (z:=.agg #[.string ⟨#[]⟩,.string ⟨#[]⟩]) underlying125 (by kernel_rfl) rfl (by decide)
def aUk (s:ByteArray)(T:List dQ):Prop:=T.length<=4/\∀x∈T,x.name.size<=s.size/\x.val.size<=s.size
def aWb (s:ByteArray)(e:Ending)(w':World):Prop:=∃(d:Hd) (T:List dQ) (ok:Bool),e=.returned (.tuple #[d.v T.length,.bool ok])/\bS 2 cO w' d T/\aUk s T/\(s=yL->ok=true/\T=[bA])/\(s=⟨#[]⟩->ok=true/\T=[])
abbrev aUw (n:Nat)(v:Value)(bef:ByteArray)(rg:Bool):List cH:=[(n+1+1,#[.string bef],9),(n+1,#[.bool rg],4),(n,#[v],125)]
def aC7 (w:World)(s:ByteArray)(pre:List ByteArray)(W:World):Prop:=∃(v:Value) (T:List dQ) (bef:ByteArray),St w (aUw w.heap.size v bef true) (λ_=>True) W/\aL 2 cO 184 W (w.heap.size+6) v T/\w.heap.size+6<=W.heap.size/\aUk s T/\(s=yL->(pre=[]->T=[]/\bef=⟨#[]⟩)/\(pre≠[]->T=[bA]))
def aFe (w:World)(s:ByteArray)(c:Code)(_:List ByteArray)(W:World):Prop:=c=Code.exit 0/\s≠yL/\∃(v:Value) (bef:ByteArray),St w (aUw w.heap.size v bef false) (λ_=>True) W
theorem aC7.own (w:World)(s:ByteArray)(n:Nat)(hn:w.heap.size<=n):OwnFrom n (aC7 w s):=by
 rintro pre A B row ⟨v,T,bef,h1,h2,h3,h4⟩ hg hr;exact⟨v,T,bef,h1.own hg hr hn,oE h2 hg (λr e=>(hr r e).2),dR h3 hg.size,h4⟩
theorem aC7.aXl (w:World)(s:ByteArray):jJ (some (w.heap.size+1+1+1)) (aC7 w s):=by
 rintro pre A B ⟨v,T,bef,h1,h2,h3,h4⟩ hg;exact⟨v,T,bef,h1.aW6 hg (by omega) (by intro x hx;simp at hx;rcases hx with rfl|rfl|rfl<;>simp<;>omega),h2.other hg (by omega),dR h3 hg.size,h4⟩
theorem aFe.own (w:World)(s:ByteArray)(c:Code)(n:Nat)(hn:w.heap.size<=n):OwnFrom n (aFe w s c):=by
 rintro pre A B row ⟨h0,h1,v,bef,h2⟩ hg hr;exact⟨h0,h1,v,bef,h2.own hg hr hn⟩
theorem aFe.aXl (w:World)(s:ByteArray)(c:Code):jJ (some (w.heap.size+1+1+1)) (aFe w s c):=by
 rintro pre A B ⟨h0,h1,v,bef,h2⟩ hg;exact⟨h0,h1,v,bef,h2.aW6 hg (by omega) (by intro x hx;simp at hx;rcases hx with rfl|rfl|rfl<;>simp<;>omega)⟩
attribute [local go_sem] Oper.semAt_some
theorem wA (s:ByteArray)(hs:s.size<=100000)(w:World)(hG:aQ w):Calls prog 50 #[.string s] w λe w'=>aWb s e w'/\Below w.heap.size w w':=by
 by_cases h0:s=⟨#[]⟩
 .subst h0;refine(callsIn_wide (n:=5)).1 ?_;refine callsIn_of_wp_marks func50 rfl trivial ?_ rfl;simp only[ntmps50,List.size_toArray,List.length_cons,List.length_nil,Nat.reduceAdd,Nat.reduceSub,Array.replicate_succ,Array.replicate_zero,List.push_toArray,List.append_toArray,List.nil_append,List.cons_append];refine wpIn_wide.2 ?_;go_wp2_with fail;refine wp_scope_straight ?_;go_wp2_with fail;rw[Exit.noGoto_ret];refine⟨.tuple #[.slice none 0 0,.bool true],by simp[results,results50,go_sem],?_⟩;exact⟨⟨⟨none,0⟩,[],true,rfl,bS.none _,⟨cJ _,by simp⟩,(λh=>by cases h),λ_=>⟨rfl,rfl⟩⟩,aW⟩
 have hie:=qP h0;have HS:=aA (aB h0 (aB hs hG));have st0:=((((((St.start w).alloc (cs:= #[.slice none 0 0]) (T:=125)).alloc (cs:= #[.bool true]) (T:=4)).alloc (cs:= #[.string ⟨#[]⟩]) (T:=9)).alloc (cs:= #[.string s]) (T:=9)).alloc (cs:= #[.string ⟨#[59]⟩]) (T:=9)).alloc (cs:= #[.int .i64 0]) (T:=3);simp only[World.size_alloc] at st0;clear h0 hs hG;refine(callsIn_wide (n:=5)).1 ?_;refine callsIn_of_wp_marks func50 rfl trivial ?_ rfl;simp only[ntmps50,List.size_toArray,List.length_cons,List.length_nil,Nat.reduceAdd,Nat.reduceSub,Array.replicate_succ,Array.replicate_zero,List.push_toArray,List.append_toArray,List.nil_append,List.cons_append];refine wpIn_wide.2 ?_;go_wp2_with fail;refine wp_scope_straight ?_;go_wp2_with fail;refine wp_label ?_;go_wp2_with fail;refine(aBf _ _).mono ?_;rintro e w2 ⟨rfl,hw2⟩;rw[show(((w.alloc (Obj.cells #[Value.slice none 0 0] 125)).alloc (Obj.cells #[Value.bool true] 4)).alloc (Obj.cells #[Value.string ⟨#[]⟩] 9)).heap.size=w.heap.size+1+1+1 by simp];subst hw2;go_wp2_with fail;have hz3:(aNq s (((w.alloc (.cells #[.slice none 0 0] 125)).alloc (.cells #[.bool true] 4)).alloc (.cells #[.string ⟨#[]⟩] 9))).heap.size=w.heap.size+6:=by simp
 have st3:St w _ _ (aNq s (((w.alloc (.cells #[.slice none 0 0] 125)).alloc (.cells #[.bool true] 4)).alloc (.cells #[.string ⟨#[]⟩] 9))):=st0;clear st0;generalize aNq s (((w.alloc (.cells #[.slice none 0 0] 125)).alloc (.cells #[.bool true] 4)).alloc (.cells #[.string ⟨#[]⟩] 9))=w3 at*;have hw3:w.heap.size<=w3.heap.size:=by omega
 have hlie:eR (aPo (w.heap.size+1+1+1)) w3:=λx hx=>st3.blk x (by simp at hx;rcases hx with rfl|rfl<;>simp);have hbs:=st3.blk (w.heap.size+1+1+1,#[.string s],9) (by simp);have stc:aC7 w s [] w3:=⟨_,[],_,((st3.less _ (List.sublist_cons_self _ _)).less _ (List.sublist_cons_self _ _)).less _ (List.sublist_cons_self _ _),aL.nil _ _,by omega,⟨cJ _,by simp⟩,λ_=>⟨λ_=>⟨rfl,rfl⟩,λh=>(h rfl).elim⟩⟩;refine(wpIn_wide (n:=5)).1 (bU (n:=5) (b:=some (w.heap.size+1+1+1)) (λ_ e=>by cases e;omega) rfl (by omega) (gf:=166) (lb:= #[pv (w.heap.size+1+1+1+1) 0,pv (w.heap.size+1+1+1) 0,pv (w.heap.size+1+1+1+1+1) 0]) rfl trivial (enters_of func166 (by kernel_rfl) rfl)
  (λW hb=>aLu s (by have:=HS.out.2.1;omega) (w.heap.size+1+1+1) 4 (by omega) W ((hb.block _ (by omega)).trans hbs) (hlie.below hb)) (λh k=>λx hx=>(k x hx).trans (h x hx)) ?kb (λ_=>rfl)
  (aC7 w s) (aFe w s) (aC7.own w s _ hw3) (λc=>aFe.own w s c _ hw3) (aC7.aXl w s) (λc=>aFe.aXl w s c) stc
  (λx c=>{tmps:= #[.string s,undef,.slice none 0 0,.bool false,pv w.heap.size 0,pv (w.heap.size+1) 0,pv (w.heap.size+1+1) 0,.string x,undef,undef,undef,.string s,.bool false,.string s,aS6 (w.heap.size+1+1+1),.string x,undef,undef,undef,undef,undef,undef,undef,undef,undef,undef,undef,undef,undef,undef,undef,undef,undef,undef,undef,undef,undef,undef,undef,undef,undef,undef,undef,undef,undef,undef,undef,undef,undef,undef,undef,undef,undef,undef],defers:=[]})
  (λx c W=>x.size<=s.size/\(s=yL->x=s)) (λx c _ _ _ _ h _ _=>h) ?assign ?body ?done ?stop)
 case kb=>
  intro W l' o' hl' hlt x hx;simp at hx;rcases hx with rfl|rfl|rfl<;>exact World.putObj_heap_other (by show _≠_;simp;omega)
 case assign=>
  intro l' pre x W K hI hP hK;have HK:=aA (hK 0 W (KeepsOthers.refl _) (λ_ _=>rfl) hI hP);clear hK hP hI;gi_wp2_with fail;exact HK.out
 case body=>
  rintro l' pre x c W ⟨v,T,bef,stI,ho,hBW,hT,hX⟩ ⟨hx1,hx2⟩ hN;obtain⟨ss,sc,rfl,-⟩:=ho.form cE;have hG:aQ W:=HS.out.2.2.aWu stI.below;have HX:=aA (show s=yL->pre=[]/\x=yL/\T=[]/\bef=⟨#[]⟩ from λh=>by
   have hp:pre=[]:=List.eq_nil_of_length_eq_zero (aTq hN h);have h1:=(hX h).1 hp;exact⟨hp,by rw[hx2 h,h],h1.1,h1.2⟩)
  have hz:w.heap.size+6<=W.heap.size:=hBW;have hs:=HS.out.2.1;have HCut:=aA (aR5 x (by omega) W);have HH:=aA (aB ho (aB hT hx1));have rl:=stI.rl;have HST:=aA stI;have hstop:∀W',Below W.heap.size W W'->s≠yL->KeepsOthers W (W'.setCell ⟨w.heap.size+1,0,none⟩ (.bool false))/\aFe w s (Code.exit 0) (pre++[x]) (W'.setCell ⟨w.heap.size+1,0,none⟩ (.bool false)):=λW' hW hno=>by
   have st5:=St.sx (HST.out.to hW) 1 (A:=w.heap.size+1) rfl (o:=0) (v:=.bool false) (by omega);exact⟨(aX hW).trans (KeepsOthers.setCell W' ⟨w.heap.size+1,0,none⟩ (.bool false)),rfl,hno,_,_,st5⟩
  have HSTOP:=aA hstop;clear stc st3 hlie hbs hstop hX hx1 hx2 ho hT hBW hN hie stI;gi_wp2_with fail;refine⟨trivial,(CallsIn.inRound l' (callsIn_wide.2 HCut.out)).mono ?_⟩;rintro e w4 ⟨⟨nm,pt,f,rfl,hn1,hn2,hcx⟩,hb4⟩;have st4:=HST.out.to hb4;have rl4:=st4.rl;have HC:=aA hcx;have HB4:=aA hb4;have hnm:nm.size<=100000:=by have:=HH.out.2.2;omega
  have hpt:pt.size<=100000:=by have:=HH.out.2.2;omega
  have HN:=aA (aB hn1 (aB hn2 (aB hnm hpt)));have HG4:=aA (hG.aWu hb4);clear rl hcx hG hn1 hn2 hnm hpt hb4;cases f with
  |false=>
   gi_wp2_with fail;refine⟨trivial,?_⟩;gi_wp2_with fail;refine⟨trivial,?_⟩;gi_wp2_with fail;exact HSTOP.out _ HB4.out (λh=>by have h1:=HX.out h;have:=(HC.out h1.2.1).2.2;cases this)
  |true=>
  by_cases h4:T.length=4
  .have h4':(T.length:Int)=4:=by omega
   gi_wp2_with fail;refine⟨trivial,?_⟩;gi_wp2_with fail;refine⟨trivial,?_⟩;gi_wp2_with fail;exact HSTOP.out _ HB4.out (λh=>by rw[(HX.out h).2.2.1] at h4;cases h4)
  have h4':¬(T.length:Int)=4:=by omega
  have HNM:=aA (aF9 nm HN.out.2.2.1 w4 HG4.out);have HL4:=aA h4;clear h4;gi_wp2_with fail;refine⟨trivial,(CallsIn.inRound l' (callsIn_wide.2 HNM.out)).mono ?_⟩;rintro e w5 ⟨⟨b,rfl,hb⟩,hb5⟩;have st5:=st4.to hb5;have HB:=aA hb;have HB5:=aA (HB4.out.trans (hb5.mono HB4.out.size));have HG5:=aA (HG4.out.aWu hb5);clear rl4 st4 hb hb5 HNM;have rl5:=st5.rl;cases b with
  |false=>
   gi_wp2_with fail;refine⟨trivial,?_⟩;gi_wp2_with fail;exact HSTOP.out _ HB5.out (λh=>by have:=HB.out (HC.out (HX.out h).2.1).1;cases this)
  |true=>
  obtain⟨q,hq⟩:∃q,(Op.bytesLess nm.toList bef.toList||nm.toList==bef.toList)=q:=⟨_,rfl⟩;cases q with
  |true=>
   gi_wp2_with fail;refine⟨trivial,?_⟩;gi_wp2_with fail;exact HSTOP.out _ HB5.out (λh=>by rw[(HC.out (HX.out h).2.1).1,(HX.out h).2.2.2] at hq;revert hq;decide+kernel)
  |false=>
  have HPT:=aA (yP pt HN.out.2.2.2 w5 HG5.out);gi_wp2_with fail;refine⟨trivial,(CallsIn.inRound l' (callsIn_wide.2 HPT.out)).mono ?_⟩;rintro e w6 ⟨⟨b2,rfl,hb2⟩,hb6⟩;have st6:=st5.to hb6;have HB2:=aA hb2;have HB6:=aA (HB5.out.trans (hb6.mono HB5.out.size));clear rl5 st5 hb2 hb6 HPT hq;have rl6:=st6.rl;cases b2 with
  |false=>
   gi_wp2_with fail;exact HSTOP.out _ HB6.out (λh=>by have:=HB2.out (HC.out (HX.out h).2.1).2.1;cases this)
  |true=>
  have ho6:=aA (aL.keep _ _ HH.out.1 HB6.out);have hz6:w.heap.size+6<=w6.heap.size:=dR hz HB6.out.size;have hT4:=HH.out.2.1.1;have HT4:=aA hT4;clear hT4;gi_wp2_with(gi_at_builtin;go_must (refine aB6 aUa cE rQ rfl (.tmp 44) (.tmp 48) rfl (w.heap.size+6) (.slice ss T.length sc) T (⟨nm,pt⟩:dQ) rfl st6 ho6.out (by omega) (by intro z hz;simp at hz;rcases hz with rfl|rfl|rfl<;>simp<;>omega) hz6 _ rfl w6.heap.size rfl rfl (by have:=HT4.out;omega) (by decide) ?_;intro v' w7 ap;obtain⟨s7,c7,e7,-⟩:=ap.own.form cE;subst e7;have rl7:=ap.st.rules;simp only[aI] at rl7;have HAP:=aA ap;clear ap rl6));have ho7:=HAP.out.own;rw[show(T++[(⟨nm,pt⟩:dQ)]).length=T.length+1 by simp] at ho7;have st8:=HAP.out.st.sx 2 (A:=w.heap.size) rfl (o:=0) (v:=.slice s7 (T.length+1) c7) aH;have st9:=st8.sx 0 (A:=w.heap.size+1+1) rfl (o:=0) (v:=.string nm) (by omega);have hz7:w.heap.size+6<=w7.heap.size:=dR hz6 HAP.out.size;refine⟨(((aX HB6.out).trans HAP.out.others).trans (KeepsOthers.setCell w7 ⟨w.heap.size,0,none⟩ _)).trans (KeepsOthers.setCell _ ⟨w.heap.size+1+1,0,none⟩ (.string nm)),λy hy=> ?_,_,T++[⟨nm,pt⟩],nm,st9,(ho7.other (grownBy_setCell' w7 w.heap.size _) (by omega)).other (grownBy_setCell' _ (w.heap.size+1+1) (.string nm)) (by omega),by simpa[World.setCell] using hz7,⟨?_,?_⟩,?_⟩
  .simp at hy;rcases hy with rfl|rfl|rfl<;>exact(Below.heap_setCell _ ⟨w.heap.size+1+1,0,none⟩ _ _ (by show _≠_;simp<;>omega)).trans ((Below.heap_setCell w7 ⟨w.heap.size,0,none⟩ _ _ (by show _≠_;simp<;>omega)).trans ((HAP.out.low _ (by simp<;>omega)).trans (HB6.out.block _ (by simp<;>omega))))
  .have:=HH.out.2.1.1;have:=HL4.out;simp;omega
  .intro y hy;simp at hy;rcases hy with hy|rfl
   .exact HH.out.2.1.2 y hy
   .have h1:=HN.out;have h2:=HH.out.2.2;exact⟨by show nm.size<=_;omega,by show pt.size<=_;omega⟩
  .intro h;have h1:=HX.out h;have h2:=HC.out h1.2.1;exact⟨λh=>by simp at h,λ_=>by rw[h1.2.2.1,h2.1,h2.2.1];rfl⟩
 case done=>
  rintro D xs W hD hxs ⟨v,T,bef,st9,ho,hBW,hT,hX⟩ hK;obtain⟨d,rfl,-⟩:=bS.own cE ho;have rl:=st9.rl;have HD:=aA (aB ho (aB hT (aB hX (aB hxs hK))));clear ho hT hX hxs hie stc st3 hlie hbs;simp only[Hd.v] at rl;go_wp2_with fail;refine⟨by simp,.inl ⟨_,_,rfl,run_takeDeferred HD.out.2.2.2.2,?_⟩⟩;refine⟨_,by simp[results,results50,go_sem],⟨d,T,true,rfl,?_,HD.out.2.1,λh=>⟨rfl,(HD.out.2.2.1 h).2 (by intro e;have:=HD.out.2.2.2.1 h;rw[e] at this;cases this)⟩,λh=>(HS.out.1 h).elim⟩,(st9.own (base:=w.heap.size) (grownBy_putObj' W D _) (λr e=>by cases e;exact⟨by omega,_,HD.out.2.2.2.2,rfl⟩) aH).below⟩;obtain⟨d',e',h'⟩:=bS.own cE (oE HD.out.1 (grownBy_putObj' W D (.deferred none)) (λr e=>by cases e;exact⟨_,HD.out.2.2.2.2,rfl⟩));have:d=d':=by cases d;cases d';simp[Hd.v] at e';rw[e'.1,e'.2]
  rw[this];exact h'
 case stop=>
  rintro D c pre W hD hp ⟨rfl,hno,v,bef,st9⟩ hK;have rl:=st9.rl;have HNO:=aA hno;clear hno hie stc st3 hlie hbs;refine wpIn_wide.2 ?_;go_wp2_with fail;refine⟨by simp,.inl ⟨_,_,rfl,run_takeDeferred hK,?_⟩⟩;exact⟨_,by simp[results,results50,go_sem],⟨⟨none,0⟩,[],false,rfl,bS.none _,⟨cJ _,by simp⟩,λh=>(HNO.out h).elim,λh=>(HS.out.1 h).elim⟩,(st9.own (base:=w.heap.size) (grownBy_putObj' W D _) (λr e=>by cases e;exact⟨by omega,_,hK,rfl⟩) aH).below⟩
end
end Go.Proofs.YtmgdbfmlnmahpaaGreatDoor
