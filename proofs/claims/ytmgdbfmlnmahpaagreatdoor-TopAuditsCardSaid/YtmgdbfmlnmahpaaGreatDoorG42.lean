/- Part of TopAudits. -/
import Derived.Test.YtmgdbfmlnmahpaaGreatDoorG41
namespace Go.Proofs.YtmgdbfmlnmahpaaGreatDoor
set_option linter.unusedSimpArgs false
set_option linter.unusedVariables false
set_option maxRecDepth 100000
set_option maxHeartbeats 4000000
open Go.Proofs.Tryz
open Go.RowKit
theorem tW (n:Nat)(bf:Int)(L:List bT)(hn:L.length=n)(hl:n<=1000)(s:Option Addr)(cap:Nat)(w:World)(hE:lE w s L):
  Calls prog 101 #[lv bf s n cap] w λe w'=>e=.returned (.int .u64 (bC L))/\Below w.heap.size w w':=by
 subst hn;exact aD3 bf L hl s cap w hE
theorem tZ (n:Nat)(bf:Int)(L:List bT)(hn:L.length=n)(hl:n<=1000)(s:Option Addr)(cap:Nat)(w:World)(hE:lE w s L):
  Calls prog 103 #[lv bf s n cap] w λe w'=>e=.returned (.int .u64 (dN bf L))/\Below w.heap.size w w':=by
 subst hn;exact aO2 bf L hl s cap w hE
theorem aBn (n:Nat)(a b:BitVec 64)(bf:Int)(h0:0<=bf)(h1:bf<18446744073709551616)(L:List bT)(hL:∀x∈L,x.Ok)(hn:L.length=n)(hl:n<=1000)(s:Option Addr)(cap:Nat)(r:Bool)(hr:r=true↔tH a b bf L)(w:World)(hE:lE w s L):
  Calls prog 100 #[kv a b,lv bf s n cap] w λe w'=>e=.returned (.bool r)/\Below w.heap.size w w':=by
 subst hn;exact aAi a b bf h0 h1 L hL hl s cap r hr w hE
set_option maxRecDepth 100000 in
theorem aD7 (a b:BitVec 64)(bf:Int)(h0:0<=bf)(h1:bf<18446744073709551616)(L:List bT)(hL:∀x∈L,x.Ok)(s:Option Addr)(cap:Nat)(hcap:L.length<=cap)(hcn:s=none->cap=0)(at':Int)(q0:0<=at')(q1:at'<18446744073709551616)(tx:ByteArray)(w:World)(hE:lE w s L)
  (hyes:jE a b bf L at' tx) (hz:L.length=0):
  Calls prog 67 #[kv a b,lv bf s L.length cap,.int .u64 at',.string tx] w λe w'=>∃v,e=.returned (.tuple #[.agg #[.int .u64 (nG bf L),v],.int .i64 0])/\pR w' w.heap.size v (iP a b bf L at' tx)/\Below w.heap.size w w':=by
 obtain⟨hr,ht,hm,hlast⟩:=hyes;have hl:=hr.n;have hl':L.length<=1000:=by omega
 obtain⟨m0,m1⟩:=gL L hL;obtain⟨n0,n1⟩:=mR bf h0 h1 L hL;have hmb:(bC L==18446744073709551615)=false:=by simp[hm]
 have hm1:bC L+1<18446744073709551616:=by omega
 have HR:=aA hr;clear hm hr;obtain rfl:L=[]:=List.eq_nil_of_length_eq_zero hz;simp only[List.length_nil] at hcap⊢;clear hlast;have d1:True:=trivial;have hlk:([]:List bT).length=0:=rfl;clear hl;have hl:0<=30:=by omega
 have st0:=St.start w;go_enter func67,ntmps67;go_wp2_with fail;refine(St.aXb st0.alloc.alloc.alloc (λst=>aBn 0 a b bf h0 h1 [] hL rfl hl' _ cap true ⟨λ_=>HR.out,λ_=>rfl⟩ _ (hE.below st.below))).mono ?_;rintro e w4 ⟨rfl,st4⟩;have rl:=st4.rs;go_wp2_with fail;refine(St.aXb st4 (λst=>tW 0 bf [] rfl hl' _ cap _ (hE.below st.below))).mono ?_;rintro e w5 ⟨rfl,st5⟩;clear rl st4 HR;have rl:=st5.rs;go_wp2_with fail;refine(St.aXb st5 (λst=>tW 0 bf [] rfl hl' _ cap _ (hE.below st.below))).mono ?_;rintro e w6 ⟨rfl,st6⟩;clear rl st5 d1;have rl:=st6.rs;have hokN:bT.Ok ⟨bC []+1,at',tx,0⟩:=⟨by show 0<=bC []+1;omega,hm1,q0,q1,by show tx.size<=1000;omega,by show(0:Int)<=0;omega,by show(0:Int)<_;omega⟩;go_wp2_with fail;clear rl;have st7:=st6.alloc (cs:= #[Value.int .u64 (bC []+1),.int .u64 at',.string tx,.int .u64 0]) (T:=53);obtain⟨bl7,E7,hne,sh7,rl,_,hbx,hst⟩:=st7.aW1;refine bP sh7 6 (by kernel_rfl) (by kernel_rfl) ?_;simp only[aI,World.size_alloc] at rl;simp only[List.take_succ_cons,List.take_zero,List.drop_succ_cons,List.drop_zero]
 repeat(first|go_big_quiet_step (first|(go_at_call 103;exact Cs.call (tZ 0 bf [] rfl hl' _ cap _ (hE.below (hbx _).out)))|(go_at_call 102;exact Cs.call (eE a b (dN bf []) n0 n1 ⟨bC []+1,at',tx,0⟩ hokN _)))|quiet_step (first|(go_at_call 103;exact Cs.call (tZ 0 bf [] rfl hl' _ cap _ (hE.below (hbx _).out)))|(go_at_call 102;exact Cs.call (eE a b (dN bf []) n0 n1 ⟨bC []+1,at',tx,0⟩ hokN _))))
 refine wpQuiet_nil ?_;intro y;have st8:=(hst y).out;clear hbx rl st7 hst sh7;generalize y.W=w8 at*;have rl:=st8.rs;go_wp2_with fail;have st9:=st8.aW5 0 rfl (o:=3) (v:=.int .u64 (eG a b (dN bf []) ⟨bC []+1,at',tx,0⟩)) (by have:=st6.below.size;omega);clear rl;simp only[jP,List.modify_zero_cons,List.setIfInBounds_toArray,List.set_cons_succ,List.set_cons_zero] at st9;clear st8 st6;generalize(w8.setCell {block:=w6.heap.size,off:=3} (Value.int IntKind.u64 (eG a b (dN bf []) {seq:=bC []+1,at':=at',text:=tx,sum:=0})))=w9 at*;obtain⟨bl9,E9,hne9,sh9,rl,_,hbx,hst⟩:=st9.aW1;refine aZ sh9 (by kernel_rfl) (by kernel_rfl) ?_;simp only[aI,World.size_alloc] at rl
 repeat(first|go_big_quiet_step (fail)|quiet_step (fail))
 refine wpQuiet_nil ?_;intro y2;have st10:=(hst y2).out;clear hbx rl hst sh9 st9;generalize y2.W=w10 at*;have rl:=st10.rs;obtain⟨i0,hi,hz0,hz1,hz2⟩:=info_parts vN;go_wp2_with(at_make;refine wpList_make_own _ rfl _ _ 34 rfl w10.heap.size 53 i0 _ 4 underlying34 hi hz0 hz1 .i64 .i64 _ (0+1) rfl rfl (by simp) (by rw[hz2];omega) (by unfold maxLen;omega) aH ?_);intro w11 hown11 hg11;have st11:=st10.grown hg11 (by simp);clear rl;have rl:=st11.rs;have e30:jM []=[]:=rfl;have e31:nG bf []=bf:=rfl;have HEK:=aA e30;have HEB:=aA e31;clear e30 e31;go_wp2_with(at_builtin;refine fH rfl (.tmp 76) (.tmp 77) rfl w10.heap.size _ [] rfl hown11 [] 0 rfl s cap rfl hcn (hE.below st11.below) (by simp<;>omega) hg11.size ?_);intro v12 w12 hown12 hg12;have st12:=st11.aXc st10 hown11 hg12;clear rl;have rl:=st12.rs
 replace hown12:pR w12 w10.heap.size v12 []:=hown12
 have hsz12:=dR hg11.size hg12.size;go_wp2_with(at_builtin;refine fH rfl (.tmp 79) (.tmp 81) rfl w10.heap.size v12 [] rfl (hown12.alloc _) [cK a b bf [] at' tx] 1 rfl (some ⟨w12.heap.size,0,none⟩) 1 rfl (by simp) (sM w12 (cK a b bf [] at' tx)) (by simp<;>omega) (by simp<;>omega) ?_);intro v13 w13 hown13 hg13;have st13:=(st12.to (aW.alloc aH _)).aXc st10 (hown12.alloc _) hg13;obtain⟨s13,c13,hv13,_,_,_⟩:=yB hown13;subst hv13;have hBz:=(st10.rules).2.2.1;clear rl;have rl:=st13.rs;go_wp2_with fail;have hBz:w.heap.size+1+1<w10.heap.size:=by
  have:=st10.blk _ (List.mem_cons_of_mem _ (List.mem_cons_self ..));have:=aC this
  simpa using this
 have hap:=aA (show iP a b bf [] at' tx=[]++[cK a b bf [] at' tx] by unfold iP;rw[HEK.out]);refine bodyPost_ret (v:=.tuple #[.agg #[.int .u64 bf,.slice s13 ([]++[cK a b bf [] at' tx]).length c13],.int .i64 0]) (by simp[results,results67,go_sem,rl]) rfl ⟨.slice s13 _ c13,by rw[HEB.out],?_,?_⟩
 .rw[hap.out];exact fP (ownsRow_setCell_below (ownsRow_setCell_below hown13 (a:=⟨w.heap.size+1+1,0,none⟩) hBz _) (a:=⟨w.heap.size+1+1,1,none⟩) hBz _) st10.below.size
 .exact(st13.below.setCell (p:=⟨w.heap.size+1+1,0,none⟩) (by show w.heap.size<=w.heap.size+1+1;omega) _).setCell (p:=⟨w.heap.size+1+1,1,none⟩) (by show w.heap.size<=w.heap.size+1+1;omega) _
set_option maxRecDepth 100000 in
theorem aC8 (a b:BitVec 64)(bf:Int)(h0:0<=bf)(h1:bf<18446744073709551616)(L:List bT)(hL:∀x∈L,x.Ok)(s:Option Addr)(cap:Nat)(_:L.length<=cap)(hcn:s=none->cap=0)(at':Int)(q0:0<=at')(q1:at'<18446744073709551616)(tx:ByteArray)(w:World)(hE:lE w s L)
  (hyes:jE a b bf L at' tx) (hz:0<L.length) (h30:L.length<30):
  Calls prog 67 #[kv a b,lv bf s L.length cap,.int .u64 at',.string tx] w λe w'=>∃v,e=.returned (.tuple #[.agg #[.int .u64 (nG bf L),v],.int .i64 0])/\pR w' w.heap.size v (iP a b bf L at' tx)/\Below w.heap.size w w':=by
 obtain⟨hr,ht,hm,hlast⟩:=hyes;have hl:=hr.n;have hl':L.length<=1000:=by omega
 obtain⟨m0,m1⟩:=gL L hL;obtain⟨n0,n1⟩:=mR bf h0 h1 L hL;have hmb:(bC L==18446744073709551615)=false:=by simp[hm]
 have hm1:bC L+1<18446744073709551616:=by omega
 have HR:=aA hr;clear hm hr;have hx:=cZ (show L.length-1<L.length by omega);obtain⟨g,o,rfl,hg,c0,c1,c2,c3⟩:=hE _ _ hx;have hxo:=hL _ (List.getElem_mem (show L.length-1<L.length by omega));have hxa:=hlast _ hx;have hx0:=hxo.a0;have hx1:=hxo.a1;generalize(L[L.length-1]'(by omega))=x at*;clear c0 c2 c3 hx hlast hxo;have st0:=St.start w;go_enter func67,ntmps67;go_wp2_with fail;refine(St.aXb st0.alloc.alloc.alloc (λst=>aBn L.length a b bf h0 h1 L hL rfl hl' _ cap true ⟨λ_=>HR.out,λ_=>rfl⟩ _ (hE.below st.below))).mono ?_;rintro e w4 ⟨rfl,st4⟩;have rl:=st4.rs;go_wp2_with fail;refine(St.aXb st4 (λst=>tW L.length bf L rfl hl' _ cap _ (hE.below st.below))).mono ?_;rintro e w5 ⟨rfl,st5⟩;clear rl st4 HR;have rl:=st5.rs;have d1:=(st5.below.cell (p:=⟨g,_,none⟩) hg).trans c1;go_wp2_with fail;refine(St.aXb st5 (λst=>tW L.length bf L rfl hl' _ cap _ (hE.below st.below))).mono ?_;rintro e w6 ⟨rfl,st6⟩;clear rl st5 d1;have rl:=st6.rs;have hokN:bT.Ok ⟨bC L+1,at',tx,0⟩:=⟨by show 0<=bC L+1;omega,hm1,q0,q1,by show tx.size<=1000;omega,by show(0:Int)<=0;omega,by show(0:Int)<_;omega⟩;go_wp2_with fail;clear rl;have st7:=st6.alloc (cs:= #[Value.int .u64 (bC L+1),.int .u64 at',.string tx,.int .u64 0]) (T:=53);obtain⟨bl7,E7,hne,sh7,rl,_,hbx,hst⟩:=st7.aW1;refine bP sh7 6 (by kernel_rfl) (by kernel_rfl) ?_;simp only[aI,World.size_alloc] at rl;simp only[List.take_succ_cons,List.take_zero,List.drop_succ_cons,List.drop_zero]
 repeat(first|go_big_quiet_step (first|(go_at_call 103;exact Cs.call (tZ L.length bf L rfl hl' _ cap _ (hE.below (hbx _).out)))|(go_at_call 102;exact Cs.call (eE a b (dN bf L) n0 n1 ⟨bC L+1,at',tx,0⟩ hokN _)))|quiet_step (first|(go_at_call 103;exact Cs.call (tZ L.length bf L rfl hl' _ cap _ (hE.below (hbx _).out)))|(go_at_call 102;exact Cs.call (eE a b (dN bf L) n0 n1 ⟨bC L+1,at',tx,0⟩ hokN _))))
 refine wpQuiet_nil ?_;intro y;have st8:=(hst y).out;clear hbx rl st7 hst sh7;generalize y.W=w8 at*;have rl:=st8.rs;go_wp2_with fail;have st9:=st8.aW5 0 rfl (o:=3) (v:=.int .u64 (eG a b (dN bf L) ⟨bC L+1,at',tx,0⟩)) (by have:=st6.below.size;omega);clear rl;simp only[jP,List.modify_zero_cons,List.setIfInBounds_toArray,List.set_cons_succ,List.set_cons_zero] at st9;clear st8 st6;generalize(w8.setCell {block:=w6.heap.size,off:=3} (Value.int IntKind.u64 (eG a b (dN bf L) {seq:=bC L+1,at':=at',text:=tx,sum:=0})))=w9 at*;obtain⟨bl9,E9,hne9,sh9,rl,_,hbx,hst⟩:=st9.aW1;refine aZ sh9 (by kernel_rfl) (by kernel_rfl) ?_;simp only[aI,World.size_alloc] at rl
 repeat(first|go_big_quiet_step (fail)|quiet_step (fail))
 refine wpQuiet_nil ?_;intro y2;have st10:=(hst y2).out;clear hbx rl hst sh9 st9;generalize y2.W=w10 at*;have rl:=st10.rs;have h30b:((L.length:Int)==30)=false:=by rw[beq_eq_false_iff_ne];omega
 obtain⟨i0,hi,hz0,hz1,hz2⟩:=info_parts vN;go_wp2_with(at_make;refine wpList_make_own _ rfl _ _ 34 rfl w10.heap.size 53 i0 _ 4 underlying34 hi hz0 hz1 .i64 .i64 _ (L.length+1) rfl rfl (by simp) (by rw[hz2];omega) (by unfold maxLen;omega) aH ?_);intro w11 hown11 hg11;have st11:=st10.grown hg11 (by simp);clear rl;have rl:=st11.rs;have e30:jM L=L:=by unfold jM;rw[if_neg (by omega)]
 have e31:nG bf L=bf:=by unfold nG;rw[if_neg (by omega)]
 have HEK:=aA e30;have HEB:=aA e31;clear e30 e31;go_wp2_with(at_builtin;refine fH rfl (.tmp 76) (.tmp 77) rfl w10.heap.size _ [] rfl hown11 L L.length rfl (some ⟨g,o,none⟩) cap rfl (by simp) (hE.below st11.below) (by simp<;>omega) hg11.size ?_);intro v12 w12 hown12 hg12;have st12:=st11.aXc st10 hown11 hg12;clear rl;have rl:=st12.rs
 replace hown12:pR w12 w10.heap.size v12 L:=hown12
 have hsz12:=dR hg11.size hg12.size;go_wp2_with(at_builtin;refine fH rfl (.tmp 79) (.tmp 81) rfl w10.heap.size v12 L rfl (hown12.alloc _) [cK a b bf L at' tx] 1 rfl (some ⟨w12.heap.size,0,none⟩) 1 rfl (by simp) (sM w12 (cK a b bf L at' tx)) (by simp<;>omega) (by simp<;>omega) ?_);intro v13 w13 hown13 hg13;have st13:=(st12.to (aW.alloc aH _)).aXc st10 (hown12.alloc _) hg13;obtain⟨s13,c13,hv13,_,_,_⟩:=yB hown13;subst hv13;have hBz:=(st10.rules).2.2.1;clear rl;have rl:=st13.rs;go_wp2_with fail;have hBz:w.heap.size+1+1<w10.heap.size:=by
  have:=st10.blk _ (List.mem_cons_of_mem _ (List.mem_cons_self ..));have:=aC this
  simpa using this
 have hap:=aA (show iP a b bf L at' tx=L++[cK a b bf L at' tx] by unfold iP;rw[HEK.out]);refine bodyPost_ret (v:=.tuple #[.agg #[.int .u64 bf,.slice s13 (L++[cK a b bf L at' tx]).length c13],.int .i64 0]) (by simp[results,results67,go_sem,rl]) rfl ⟨.slice s13 _ c13,by rw[HEB.out],?_,?_⟩
 .rw[hap.out];exact fP (ownsRow_setCell_below (ownsRow_setCell_below hown13 (a:=⟨w.heap.size+1+1,0,none⟩) hBz _) (a:=⟨w.heap.size+1+1,1,none⟩) hBz _) st10.below.size
 .exact(st13.below.setCell (p:=⟨w.heap.size+1+1,0,none⟩) (by show w.heap.size<=w.heap.size+1+1;omega) _).setCell (p:=⟨w.heap.size+1+1,1,none⟩) (by show w.heap.size<=w.heap.size+1+1;omega) _
set_option maxRecDepth 100000 in
theorem aFu (a b:BitVec 64)(bf:Int)(h0:0<=bf)(h1:bf<18446744073709551616)(L:List bT)(hL:∀x∈L,x.Ok)(s:Option Addr)(cap:Nat)(hcap:L.length<=cap)(hcn:s=none->cap=0)(at':Int)(q0:0<=at')(q1:at'<18446744073709551616)(tx:ByteArray)(w:World)(hE:lE w s L)
  (hyes:jE a b bf L at' tx) (h30:30<=L.length):
  Calls prog 67 #[kv a b,lv bf s L.length cap,.int .u64 at',.string tx] w λe w'=>∃v,e=.returned (.tuple #[.agg #[.int .u64 (nG bf L),v],.int .i64 0])/\pR w' w.heap.size v (iP a b bf L at' tx)/\Below w.heap.size w w':=by
 obtain⟨hr,ht,hm,hlast⟩:=hyes;have hl:=hr.n;have hl':L.length<=1000:=by omega
 obtain⟨m0,m1⟩:=gL L hL;obtain⟨n0,n1⟩:=mR bf h0 h1 L hL;have hmb:(bC L==18446744073709551615)=false:=by simp[hm]
 have hm1:bC L+1<18446744073709551616:=by omega
 have HR:=aA hr;clear hm hr;have hx:=cZ (show L.length-1<L.length by omega);obtain⟨g,o,rfl,hg,c0,c1,c2,c3⟩:=hE _ _ hx;have hxo:=hL _ (List.getElem_mem (show L.length-1<L.length by omega));have hxa:=hlast _ hx;have hx0:=hxo.a0;have hx1:=hxo.a1;generalize(L[L.length-1]'(by omega))=x at*;clear c0 c2 c3 hx hlast hxo;have st0:=St.start w;go_enter func67,ntmps67;go_wp2_with fail;refine(St.aXb st0.alloc.alloc.alloc (λst=>aBn L.length a b bf h0 h1 L hL rfl hl' _ cap true ⟨λ_=>HR.out,λ_=>rfl⟩ _ (hE.below st.below))).mono ?_;rintro e w4 ⟨rfl,st4⟩;have rl:=st4.rs;go_wp2_with fail;refine(St.aXb st4 (λst=>tW L.length bf L rfl hl' _ cap _ (hE.below st.below))).mono ?_;rintro e w5 ⟨rfl,st5⟩;clear rl st4 HR;have rl:=st5.rs;have d1:=(st5.below.cell (p:=⟨g,_,none⟩) hg).trans c1;go_wp2_with fail;refine(St.aXb st5 (λst=>tW L.length bf L rfl hl' _ cap _ (hE.below st.below))).mono ?_;rintro e w6 ⟨rfl,st6⟩;clear rl st5 d1;have rl:=st6.rs;have hokN:bT.Ok ⟨bC L+1,at',tx,0⟩:=⟨by show 0<=bC L+1;omega,hm1,q0,q1,by show tx.size<=1000;omega,by show(0:Int)<=0;omega,by show(0:Int)<_;omega⟩;go_wp2_with fail;clear rl;have st7:=st6.alloc (cs:= #[Value.int .u64 (bC L+1),.int .u64 at',.string tx,.int .u64 0]) (T:=53);obtain⟨bl7,E7,hne,sh7,rl,_,hbx,hst⟩:=st7.aW1;refine bP sh7 6 (by kernel_rfl) (by kernel_rfl) ?_;simp only[aI,World.size_alloc] at rl;simp only[List.take_succ_cons,List.take_zero,List.drop_succ_cons,List.drop_zero]
 repeat(first|go_big_quiet_step (first|(go_at_call 103;exact Cs.call (tZ L.length bf L rfl hl' _ cap _ (hE.below (hbx _).out)))|(go_at_call 102;exact Cs.call (eE a b (dN bf L) n0 n1 ⟨bC L+1,at',tx,0⟩ hokN _)))|quiet_step (first|(go_at_call 103;exact Cs.call (tZ L.length bf L rfl hl' _ cap _ (hE.below (hbx _).out)))|(go_at_call 102;exact Cs.call (eE a b (dN bf L) n0 n1 ⟨bC L+1,at',tx,0⟩ hokN _))))
 refine wpQuiet_nil ?_;intro y;have st8:=(hst y).out;clear hbx rl st7 hst sh7;generalize y.W=w8 at*;have rl:=st8.rs;go_wp2_with fail;have st9:=st8.aW5 0 rfl (o:=3) (v:=.int .u64 (eG a b (dN bf L) ⟨bC L+1,at',tx,0⟩)) (by have:=st6.below.size;omega);clear rl;simp only[jP,List.modify_zero_cons,List.setIfInBounds_toArray,List.set_cons_succ,List.set_cons_zero] at st9;clear st8 st6;generalize(w8.setCell {block:=w6.heap.size,off:=3} (Value.int IntKind.u64 (eG a b (dN bf L) {seq:=bC L+1,at':=at',text:=tx,sum:=0})))=w9 at*;obtain⟨bl9,E9,hne9,sh9,rl,_,hbx,hst⟩:=st9.aW1;refine aZ sh9 (by kernel_rfl) (by kernel_rfl) ?_;simp only[aI,World.size_alloc] at rl
 repeat(first|go_big_quiet_step (fail)|quiet_step (fail))
 refine wpQuiet_nil ?_;intro y2;have st10:=(hst y2).out;clear hbx rl hst sh9 st9;generalize y2.W=w10 at*;have rl:=st10.rs;have h30b:((L.length:Int)==30)=true:=by rw[beq_iff_eq];omega
 have hy:=cZ (show 0<L.length by omega);obtain⟨g',o',hgo,_,_,_,_,b3⟩:=hE _ _ hy;obtain⟨rfl,rfl⟩:g'=g/\o'=o:=by simp at hgo;exact⟨hgo.1.symm,hgo.2.symm⟩
 have HS0:=aA (show nG bf L=(L[0]'(by omega)).sum by unfold nG;rw[if_pos (by omega),hy]);generalize(L[0]'(by omega))=y0 at*;clear hy hgo;rw[Nat.zero_mul,Nat.add_zero] at b3;go_wp2_with fail;clear rl;obtain⟨bl10,E10,hne10,sh10,rl,_,hbx,hst⟩:=st10.aW1;refine aZ sh10 (by kernel_rfl) (by kernel_rfl) ?_;simp only[aI,World.size_alloc] at rl;have b3':∀x:Cs w bl10 E10,x.W.cell? ⟨g',o'+3,none⟩=some (.int .u64 y0.sum):=λx=>((hbx x).out.cell (p:=⟨g',_,none⟩) hg).trans b3;have hcap1:1<cap:=by omega
 have hcap2:1<=cap:=by omega
 have hl2:1<=L.length:=by omega
 repeat(first|go_big_quiet_step (fail)|quiet_step (fail))
 refine wpQuiet_nil ?_;intro y3;have st10':=(hst y3).out;clear hbx rl hst sh10 st10 b3' b3;generalize y3.W=w10' at*;have rl:=st10'.rs;have hE1:lE w (some ⟨g',o'+4,none⟩) (L.drop 1):=by
  intro i z hz';rw[List.getElem?_drop] at hz';obtain⟨g2,o2,he2,q⟩:=hE _ _ hz';obtain⟨rfl,rfl⟩:g2=g'/\o2=o':=by simp at he2;exact⟨he2.1.symm,he2.2.symm⟩
  refine⟨g2,o2+4,rfl,?_⟩;rw[show o2+4+i*4=o2+(1+i)*4 by omega];exact q
 have HKL:=aA (show L.length-1=(L.drop 1).length by simp);have HEK0:=aA (show jM L=L.drop 1 by unfold jM;rw[if_pos (by omega)]);have hkl:(L.drop 1).length<=29:=by simp;omega
 generalize L.drop 1=K at*;obtain⟨i0,hi,hz0,hz1,hz2⟩:=info_parts vN;go_wp2_with(at_make;refine wpList_make_own _ rfl _ _ 34 rfl w10'.heap.size 53 i0 _ 4 underlying34 hi hz0 hz1 .i64 .i64 _ ((L.length-1)+1) rfl rfl (by simp) (by rw[hz2];omega) (by unfold maxLen;omega) aH ?_);intro w11 hown11 hg11;have st11:=st10'.grown hg11 (by simp);clear rl;have rl:=st11.rs;have e30:jM L=K:=HEK0.out;have e31:nG bf L=y0.sum:=HS0.out;have HEK:=aA e30;have HEB:=aA e31;clear e30 e31;go_wp2_with(at_builtin;refine fH rfl (.tmp 76) (.tmp 77) rfl w10'.heap.size _ [] rfl hown11 K (L.length-1) HKL.out (some ⟨g',o'+4,none⟩) (cap-1) rfl (by simp) (hE1.below st11.below) (by simp<;>omega) hg11.size ?_);intro v12 w12 hown12 hg12;have st12:=st11.aXc st10' hown11 hg12;clear rl;have rl:=st12.rs
 replace hown12:pR w12 w10'.heap.size v12 K:=hown12
 have hsz12:=dR hg11.size hg12.size;go_wp2_with(at_builtin;refine fH rfl (.tmp 79) (.tmp 81) rfl w10'.heap.size v12 K rfl (hown12.alloc _) [cK a b bf L at' tx] 1 rfl (some ⟨w12.heap.size,0,none⟩) 1 rfl (by simp) (sM w12 (cK a b bf L at' tx)) (by simp<;>omega) (by simp<;>omega) ?_);intro v13 w13 hown13 hg13;have st13:=(st12.to (aW.alloc aH _)).aXc st10' (hown12.alloc _) hg13;obtain⟨s13,c13,hv13,_,_,_⟩:=yB hown13;subst hv13;have hBz:=(st10'.rules).2.2.1;clear rl;have rl:=st13.rs;go_wp2_with fail;have hBz:w.heap.size+1+1<w10'.heap.size:=by
  have:=st10'.blk _ (List.mem_cons_of_mem _ (List.mem_cons_self ..));have:=aC this
  simpa using this
 have hap:=aA (show iP a b bf L at' tx=K++[cK a b bf L at' tx] by unfold iP;rw[HEK.out]);refine bodyPost_ret (v:=.tuple #[.agg #[.int .u64 y0.sum,.slice s13 (K++[cK a b bf L at' tx]).length c13],.int .i64 0]) (by simp[results,results67,go_sem,rl]) rfl ⟨.slice s13 _ c13,by rw[HEB.out],?_,?_⟩
 .rw[hap.out];exact fP (ownsRow_setCell_below (ownsRow_setCell_below hown13 (a:=⟨w.heap.size+1+1,0,none⟩) hBz _) (a:=⟨w.heap.size+1+1,1,none⟩) hBz _) st10'.below.size
 .exact(st13.below.setCell (p:=⟨w.heap.size+1+1,0,none⟩) (by show w.heap.size<=w.heap.size+1+1;omega) _).setCell (p:=⟨w.heap.size+1+1,1,none⟩) (by show w.heap.size<=w.heap.size+1+1;omega) _
theorem aG2 (a b:BitVec 64)(bf:Int)(h0:0<=bf)(h1:bf<18446744073709551616)(L:List bT)(hL:∀x∈L,x.Ok)(s:Option Addr)(cap:Nat)(hcap:L.length<=cap)(hcn:s=none->cap=0)(at':Int)(q0:0<=at')(q1:at'<18446744073709551616)(tx:ByteArray)(w:World)(hE:lE w s L)
  (hyes:jE a b bf L at' tx):
  Calls prog 67 #[kv a b,lv bf s L.length cap,.int .u64 at',.string tx] w λe w'=>∃v,e=.returned (.tuple #[.agg #[.int .u64 (nG bf L),v],.int .i64 0])/\pR w' w.heap.size v (iP a b bf L at' tx)/\Below w.heap.size w w':=by
 by_cases hz:L.length=0
 .exact aD7 a b bf h0 h1 L hL s cap hcap hcn at' q0 q1 tx w hE hyes hz
 .by_cases h30:L.length<30
  .exact aC8 a b bf h0 h1 L hL s cap hcap hcn at' q0 q1 tx w hE hyes (by omega) h30
  .exact aFu a b bf h0 h1 L hL s cap hcap hcn at' q0 q1 tx w hE hyes (by omega)
def eW (q:Int)(L:List bT):List bT:=L.filter λx=>decide (q<=x.seq)
theorem aF2 (q:Int)(L:List bT)(x:bT):eW q (L++[x])=if q<=x.seq then eW q L++[x] else eW q L:=by
 unfold eW;rw[List.filter_append]
 by_cases h:q<=x.seq
 .rw[if_pos h];simp[h]
 .rw[if_neg h];simp[h]
theorem aBa (q:Int)(L:List bT):(eW q L).length<=L.length:=List.length_filter_le _ _
theorem St.aX1 {w0:World}{bl:List cH}{w w':World}{B:Nat}{e:TypeId}{size:Nat}{v v':Value}{n n':Nat}{xs xs':List Value}(h:St w0 bl (λW=>W.ownsRow B e size v n xs) w)(hB:∀x∈bl,x.1<B)(hB0:w0.heap.size<=B)
  (hg:w.grownBy w' v.ownBlock) (hown':w'.ownsRow B e size v' n' xs'):St w0 bl (λW=>W.ownsRow B e size v' n' xs') w':=
 ((h.aW3 (F:=λ_=>True) trivial (λ_ _ _ _=>trivial)).grown hg (λk hk=>by
  have h1:=(h.ex.lt k hk).1;exact⟨by omega,λx hx=>by have:=hB x hx;omega⟩)).aW3 hown' mV
set_option maxRecDepth 100000 in
theorem aNh (bf:Int)(L:List bT)(hL:∀x∈L,x.Ok)(hl:L.length<=1000)(s:Option Addr)(c:Nat)(q:Int)(q0:0<=q)(q1:q<18446744073709551616)(w:World)(hE:lE w s L):
  Calls prog 59 #[lv bf s L.length c,.int .u64 q] w λe w'=>∃v,e=.returned v/\pR w' w.heap.size v (eW q L)/\Below w.heap.size w w':=by
 have st0:=((St.start w).alloc (cs:= #[.int .u64 bf,.slice s L.length c]) (T:=79)).aW3 (F:=λW=>pR W (w.heap.size+1) (.slice none 0 0) (eW q (L.take 0))) (World.ownsRow_nil _ _ _ _) mV;go_enter func59,ntmps59;go_wp2_with fail
 go_loopw [5,11] (λv i wr=>∃k:Nat,k<=L.length/\i=.int .i64 k/\St w [(w.heap.size,#[.int .u64 bf,.slice s L.length c],79)] (λW=>pR W (w.heap.size+1) v (eW q (L.take k))) wr) (λ_ i _=>L.length-(intOf i).toNat)
 case atStart=>exact⟨0,cJ _,rfl,st0⟩
 case round=>
  obtain⟨k,hk,rfl,st⟩:=hrel;clear st0;have rl:=st.rs
  by_cases hlt:k<L.length
  .have hx:=cZ hlt;have hok:=hL _ (List.getElem_mem hlt);obtain⟨g,o,rfl,hg,c0,c1,c2,c3⟩:=hE k _ hx;have d0:=(st.below.cell (p:=⟨g,_,none⟩) hg).trans c0;have d1:=(st.below.cell (p:=⟨g,_,none⟩) hg).trans c1;have d2:=(st.below.cell (p:=⟨g,_,none⟩) hg).trans c2;have d3:=(st.below.cell (p:=⟨g,_,none⟩) hg).trans c3;have HT:=aA (show eW q (L.take (k+1))=if q<=(L[k]'hlt).seq then eW q (L.take k)++[L[k]'hlt] else eW q (L.take k) by
    rw[List.take_add_one,hx];exact aF2 _ _ _)
   have hfl:(eW q (L.take k)).length<=1000:=dR (aBa _ _) (by simp;omega);generalize(L[k]'hlt)=x at*;have z0:=hok.s0;have z1:=hok.s1;have hsz:=st.below.size;have hsz1:w.heap.size+1<=wr.heap.size:=by have:=rl.2.2.1;omega
   clear c0 c1 c2 c3 hx;generalize eW q (L.take k)=N at*
   by_cases hq:q<=x.seq
   .have HT1:=HT.out;rw[if_pos hq] at HT1;have HT2:=aA HT1;clear HT1 HT;go_wp2_with(at_builtin;refine fH rfl (.tmp 19) (.tmp 21) rfl (w.heap.size+1) u5 N rfl ((st.ex.alloc _).alloc _) [x] 1 rfl (some ⟨(wr.alloc (.cells #[Value.int .u64 x.seq,.int .u64 x.at',.string x.text,.int .u64 x.sum] 53)).heap.size,0,none⟩) 1 (by simp[Act.eval]) (by simp) (sM (wr.alloc (.cells #[Value.int .u64 x.seq,.int .u64 x.at',.string x.text,.int .u64 x.sum] 53)) x) (by simp<;>omega) (by simp<;>omega) ?next)
    case next=>
     intro v' w' hown' hg';have st2:=St.aX1 (st.to ((aW.alloc aH _).alloc (by simp) _)) (by simp) (by omega) hg' hown';clear rl d0 d1 d2 d3;go_wp2_with fail;go_roundw
     case rel=>exact⟨k+1,hlt,by go_num,by rw[HT2.out];exact st2⟩
     case measure=>simp[intOf];omega
   .have HT1:=HT.out;rw[if_neg hq] at HT1;have HT2:=aA HT1;clear HT1 HT;go_wp2_with fail;go_roundw
    case rel=>exact⟨k+1,hlt,by go_num,by rw[HT2.out];exact st.to (aW.alloc aH _)⟩
    case measure=>simp[intOf];omega
  .obtain rfl:k=L.length:=by omega
   have HF:=aA (show eW q L=eW q (L.take L.length) by rw[List.take_length]);go_wp2_with fail;exact bodyPost_ret (results_tmp (t:=4) rfl _ _ _) rfl ⟨_,rfl,by rw[HF.out];exact fP st.ex (by omega),st.below⟩
end Go.Proofs.YtmgdbfmlnmahpaaGreatDoor
