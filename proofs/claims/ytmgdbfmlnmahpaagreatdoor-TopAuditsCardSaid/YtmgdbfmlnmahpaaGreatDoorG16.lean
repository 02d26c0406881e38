/- Part of TopAudits. -/
import Derived.Test.YtmgdbfmlnmahpaaGreatDoorG11
import Derived.Test.YtmgdbfmlnmahpaaGreatDoorG12
import Derived.Laws.EntriesVeiled
namespace Go.Proofs.YtmgdbfmlnmahpaaGreatDoor
set_option linter.unusedSimpArgs false
set_option linter.unusedVariables false
set_option maxRecDepth 100000
set_option maxHeartbeats 4000000
open Go.Proofs.Tryz
open Go.RowKit Go.Shelf
section
variable {g n t:Nat} {W:World}
def jA (b n t:Nat):Prop:=(b=3/\n=8/\t=62)\/(b=4/\n=16/\t=61)\/(b=5/\n=32/\t=60)\/(b=6/\n=64/\t=59)\/(b=7/\n=128/\t=58)\/(b=8/\n=256/\t=57)
theorem jA.bounds {b:Nat}(h:jA b n t):3<=b/\b<=8/\8<=n/\n<=256/\t+b=65:=by
 rcases h with⟨rfl,rfl,rfl⟩|⟨rfl,rfl,rfl⟩|⟨rfl,rfl,rfl⟩|⟨rfl,rfl,rfl⟩|⟨rfl,rfl,rfl⟩|⟨rfl,rfl,rfl⟩<;>simp
def pM (n t:Nat)(R:ByteArray):Prop:=R.data.size=n/\∀(i:Nat) (x:UInt8),R.data[i]? =some x->x.toNat<=t
def Rg (g n t:Nat)(W:World):Prop:=g<W.heap.size/\∀j,j<n->W.frozen? ⟨g,j,none⟩=false/\∃r:Nat,r<=t/\W.cell? ⟨g,j,none⟩=some (.int .u8 (r:Int))
theorem Rg.keep :∀W W':World,Rg g n t W->Below W.heap.size W W'->Rg g n t W':=by
 rintro W W' ⟨h1,h2⟩ hb;refine⟨kG h1 hb.size,λj hj=> ?_⟩;have e:=hb.block g h1;obtain⟨h3,r,h4,h5⟩:=h2 j hj;exact⟨by rw[<-h3];simp only[World.frozen?,e],r,h4,by rw[<-h5];simp only[World.cell?,e]⟩
theorem Rg.set (h:Rg g n t W)(j r:Nat)(hr:r<=t):Rg g n t (W.setCell ⟨g,j,none⟩ (.int .u8 (r:Int))):=by
 refine⟨by simpa[World.setCell] using h.1,λi hi=> ?_⟩;obtain⟨h3,r',h4,h5⟩:=h.2 i hi;have hlt:=h.1;obtain⟨o,ho⟩:∃o,W.heap[g]? =some o:=⟨_,Array.getElem?_eq_getElem hlt⟩;have ho':W.heap[g]=o:=by simpa[Array.getElem?_eq_getElem hlt] using ho
 cases o with
 |cells cs T mk=>
  have hn:(W.setCell ⟨g,j,none⟩ (.int .u8 (r:Int))).heap[g]? =some (.cells (cs.setIfInBounds j (.int .u8 (r:Int))) T mk):=by
   show(W.heap.modify g _)[g]? =_;rw[Array.getElem?_eq_getElem (by simpa using hlt),Array.getElem_modify_self,ho'];rfl
  simp only[World.cell?,ho] at h5;simp only[World.frozen?,ho] at h3;refine⟨by simp only[World.frozen?,hn];exact h3,?_⟩
  by_cases e:j=i
  .subst e;have hj:j<cs.size:=(Array.getElem?_eq_some_iff.1 h5).1;exact⟨r,hr,by simp only[World.cell?,hn];simp[hj]⟩
  .exact⟨r',h4,by simp only[World.cell?,hn];rw[Array.getElem?_setIfInBounds_ne e];exact h5⟩
 |_=>simp[World.cell?,ho] at h5
theorem Rg.made (h:W.heap[g]? =some (.cells (List.replicate n (Value.int .u8 0)).toArray 5 (0,0))):Rg g n t W:=
 ⟨aC h,λj hj=>⟨bB h j,0,cJ _,by rw[aE h];simp[hj]⟩⟩
theorem Rg.bts {R:ByteArray}(h:Bts g R.data.toList W)(hR:pM n t R):Rg g n t W:=by
 refine⟨h.lt,λj hj=>⟨h.free j (by simpa[hR.1] using hj),?_⟩⟩;obtain⟨x,hx⟩:∃x,R.data[j]? =some x:=⟨_,Array.getElem?_eq_getElem (by rw[hR.1];exact hj)⟩;exact⟨x.toNat,hR.2 j x hx,h.cell j x (by simpa using hx)⟩
theorem Rg.text (h:Rg g n t W)(ht:t<=255):∃R:ByteArray,pM n t R/\∀j x,R.data.toList[j]? =some x->W.cell? ⟨g,j,none⟩=some (.int .u8 (x.toNat:Int)):=by
 have key:∀k,k<=n->∃l:List UInt8,l.length=k/\∀j x,l[j]? =some x->x.toNat<=t/\W.cell? ⟨g,j,none⟩=some (.int .u8 (x.toNat:Int)):=by
  intro k
  induction k with
  |zero=>intro _;exact⟨[],rfl,by simp⟩
  |succ k ih=>
   intro hk;obtain⟨l,h1,h2⟩:=ih (by omega);obtain⟨-,r,h4,h5⟩:=h.2 k (by omega);refine⟨l++[UInt8.ofNat r],by simp[h1],λj x hx=> ?_⟩;rw[List.getElem?_append] at hx;split at hx
   .exact h2 j x hx
   .have hj:j=k:=by
     have:=(gJ.1 hx).1;simp at this;omega
    subst hj;rw[h1,Nat.sub_self] at hx;simp only[List.getElem?_cons_zero,Option.some.injEq] at hx;subst hx;have e:(UInt8.ofNat r).toNat=r:=by simp;omega
    rw[e];exact⟨h4,h5⟩
 obtain⟨l,h1,h2⟩:=key n aH;refine⟨⟨l.toArray⟩,⟨by simpa using h1,λi x hx=>(h2 i x (by simpa using hx)).1⟩,λj x hx=>(h2 j x (by simpa using hx)).2⟩
theorem qH {b:Nat}(hIs:jA b n t)(w:World):Calls prog 214 #[.int .i64 b] w λe w'=>e=.returned (.bool true)/\w'=w:=by
 obtain⟨h1,h2,-⟩:=hIs.bounds;have h3:3<=(b:Int):=by omega
 have h4:(b:Int)<=8:=by omega
 clear hIs;go_enter func214,ntmps214;go_wp2_with fail;go_ret;exact⟨rfl,rfl⟩
@[go_sem] theorem aUg (w:World):(Instr.typeAssert .nilIface 137 450 true).run prog w=.ok (.tuple #[.agg #[.string ⟨#[]⟩],.bool false]) w:=by kernel_rfl
theorem aCz (x y:Nat)(w:World):Calls prog 276 #[.int .u8 (x:Int),.int .u8 (y:Int)] w λe w'=>e=.returned (.int .u8 ((max x y:Nat):Int))/\w'=w:=by
 go_enter func276,ntmps276;go_wp2_with fail;go_ret;exact⟨by show Ending.returned (.int .u8 (max (x:Int) (y:Int)))=.returned (.int .u8 ((max x y:Nat):Int));rw[show((max x y:Nat):Int)=max (x:Int) (y:Int) by omega],rfl⟩
theorem aMb (k x:Nat)(h:2^k<=x)(hx:x<2^64):k+1<=Lib.bitLen x:=by
 rw[Lib.bitLen_shift k x h hx];have p:0<2^k:=Nat.pow_pos (by decide);have h1:1<=x/2^k:=(Nat.le_div_iff_mul_le p).2 (by omega);have h2:x/2^k<2^64:=Nat.lt_of_le_of_lt (Nat.div_le_self _ _) hx;rw[Lib.bitLen_half _ (by omega) h2];omega
theorem aO3 (x:Nat)(hx:x<=aJ)(w:World):Calls prog 286 #[.int .u64 x] w λe w'=>e=.returned (.int .i64 (64-(Lib.bitLen x:Int)))/\w'=w:=by
 have HL:=aA (fN (x:Int) w (by omega) (by have:x<=18446744073709551615:=hx;omega));have hle:Lib.bitLen x<=64:=Lib.bitLen_le x 64 (by omega) (by have h:x<=18446744073709551615:=hx;omega);rw[show(x:Int).toNat=x from rfl] at HL;generalize Lib.bitLen x=r at*;clear hx;go_enter func286,ntmps286;go_wp2_with fail;refine HL.out.mono ?_;rintro e w1 ⟨rfl,rfl⟩;go_wp2_with fail;go_ret;exact⟨rfl,rfl⟩
theorem aL8 (x:Nat)(hx:x<=aJ)(w:World):Calls prog 283 #[.int .u64 x] w λe w'=>e=.returned (.int .i64 (64-(Lib.bitLen x:Int)))/\w'=w:=by
 have HL:=aA (aO3 x hx w);generalize Lib.bitLen x=r at*;clear hx;go_enter func283,ntmps283;go_wp2_with fail;refine HL.out.mono ?_;rintro e w1 ⟨rfl,rfl⟩;go_wp2_with fail;go_ret;exact⟨rfl,rfl⟩
end
section
variable {b n t:Nat}
theorem aL7 (x b:Nat):∃z:Nat,IntKind.u64.wrap ((x:Int)*2^b)=(z:Int)/\z=x*2^b%2^64:=by
 refine⟨x*2^b%2^64,?_,rfl⟩;have e:(x:Int)*2^b=((x*2^b:Nat):Int):=by push_cast;rfl
 rw[e,IntKind.wrap_u64];omega
theorem jA.two (h:jA b n t):n=2^b:=by
 rcases h with⟨rfl,rfl,rfl⟩|⟨rfl,rfl,rfl⟩|⟨rfl,rfl,rfl⟩|⟨rfl,rfl,rfl⟩|⟨rfl,rfl,rfl⟩|⟨rfl,rfl,rfl⟩<;>rfl
theorem aSy {x:Nat}(h:jA b n t)(hx:x<=aJ):∃a:Nat,(x:Int)/2^(64-b)=(a:Int)/\a<n:=by
 refine⟨x/2^(64-b),by push_cast;rfl,?_⟩;have h8:=h.bounds;rw[h.two];refine Nat.div_lt_of_lt_mul ?_;rw[<-Nat.pow_add,show 64-b+b=64 by omega];have:x<=18446744073709551615:=hx;omega
theorem aSt {x z:Nat}(hb:b<=64)(hz:z=x*2^b%2^64)(h0:z≠0):2^b<=z/\z<2^64:=by
 refine⟨?_,by rw[hz];exact Nat.mod_lt _ (by decide)⟩;have e:z=2^b*(x%2^(64-b)):=by
  rw[hz,show(2:Nat)^64=2^b*2^(64-b) by rw[<-Nat.pow_add];congr 1;omega,Nat.mul_comm x,Nat.mul_mod_mul_left]
 rw[e] at h0⊢;exact Nat.le_mul_of_pos_right _ (Nat.pos_of_ne_zero λe0=>h0 (by rw[e0];rfl))
theorem aA5 (hIs:jA b n t)(x:Nat)(hx:x<=aJ)(w:World):
  Calls prog 278 #[.int .i64 b,.int .u64 x] w λe w'=>(∃a r:Nat,a<n/\1<=r/\r<=t/\e=.returned (.tuple #[.int .i64 a,.int .i64 r]))/\w'=w:=by
 have HB:=aA (λW=>qH hIs W);obtain⟨z,hz,hz2⟩:=aL7 x b;obtain⟨a,ha,han⟩:=aSy hIs hx;have hx':x<=18446744073709551615:=hx;have hb8:=hIs.bounds
 by_cases h0:z=0
 .subst h0;clear hz2;have HAN:=aA han;clear han;rcases hIs with⟨rfl,rfl,rfl⟩|⟨rfl,rfl,rfl⟩|⟨rfl,rfl,rfl⟩|⟨rfl,rfl,rfl⟩|⟨rfl,rfl,rfl⟩|⟨rfl,rfl,rfl⟩
  all_goals
   simp only[Int.cast_ofNat_Int,Nat.reduceSub,Int.reducePow] at*;go_enter func278,ntmps278;go_wp2_with fail;refine(HB.out _).mono ?_;rintro e w1 ⟨rfl,rfl⟩;go_wp2_with fail;go_ret2;exact⟨⟨a,_,HAN.out,by decide,by decide,rfl⟩,rfl⟩
 .obtain⟨h1,h2⟩:=aSt (by omega) hz2 h0;have hbl:=aMb b z h1 h2;have hle:Lib.bitLen z<=64:=Lib.bitLen_le z 64 (by omega) h2;have HA:=aA (λW=>aL8 z (by show z<=18446744073709551615;omega) W);have hz0:¬(z:Int)=0:=by omega
  have HAN:=aA han;have HRN:Hid (1<=65-Lib.bitLen z/\65-Lib.bitLen z<=t):=⟨by omega,by omega⟩;have hl1:(1:Int)<=(Lib.bitLen z:Int):=by omega
  have hl2:(Lib.bitLen z:Int)<=64:=by omega
  have hfin:Hid ((64-(Lib.bitLen z:Int))+1=((65-Lib.bitLen z:Nat):Int)):=by show _=_;omega
  clear han hz2 h0 h1 h2 hbl hle;generalize Lib.bitLen z=L at*;rcases hIs with⟨rfl,rfl,rfl⟩|⟨rfl,rfl,rfl⟩|⟨rfl,rfl,rfl⟩|⟨rfl,rfl,rfl⟩|⟨rfl,rfl,rfl⟩|⟨rfl,rfl,rfl⟩
  all_goals
   simp only[Int.cast_ofNat_Int,Nat.reduceSub,Int.reducePow] at*;go_enter func278,ntmps278;go_wp2_with fail;refine(HB.out _).mono ?_;rintro e w1 ⟨rfl,rfl⟩;go_wp2_with fail;refine(HA.out _).mono ?_;rintro e w2 ⟨rfl,rfl⟩;go_wp2_with fail;go_ret2;exact⟨⟨a,_,HAN.out,HRN.out.1,HRN.out.2,by rw[<-hfin.out];rfl⟩,rfl⟩
end
section
variable {t:Nat}
def rkR (R:ByteArray)(k:Nat):Nat:=(R.data.getD k 0).toNat
def rkL (R:ByteArray):List (Nat×Nat):=(List.range R.data.size).map λi=>(i,rkR R i)
theorem aJh (R:ByteArray):(rkL R).length=R.data.size:=by simp[rkL]
theorem aQa (R:ByteArray){k:Nat}(hk:k<R.data.size):(rkL R).take k++[(k,rkR R k)]=(rkL R).take (k+1):=by
 have h2:(rkL R)[k]? =some (k,rkR R k):=by
  rw[rkL,List.getElem?_map,List.getElem?_range hk,Option.map_some]
 rw[List.take_add_one (l:=rkL R),h2];rfl
theorem pM.le {n:Nat}{R:ByteArray}(h:pM n t R){k:Nat}(hk:k<n):rkR R k<=t:=by
 have hk':k<R.data.size:=by rw[h.1];exact hk
 refine h.2 k _ ?_;rw[Array.getD_eq_getD_getElem?,Array.getElem?_eq_getElem hk'];rfl
theorem uF (R:ByteArray)(w:World):
  Calls prog 215 #[.string R] w λe w'=>e=.returned (.func (.func 234) #[] #[pv w.heap.size 0])/\w'=w.alloc (.cells #[.string R] 9):=by
 go_enter func215,ntmps215;go_wp2_with fail;go_ret;exact⟨rfl,rfl⟩
theorem aMz {N:Nat}(R:ByteArray)(hR:pM N t R)(hN:N<=256)(bl:List cH)(Bw:Nat)(hBw:(Bw,#[.string R],9)∈bl)
  (n:Nat) (hn:1<=n) (l:Nat) (J Jx:List (Nat×Nat)->World->Prop)
  (hY:∀(pre:List (Nat×Nat)) (x:Nat×Nat) (W:World),J pre W->(x.1<N/\x.2<=t)->pre.length<(rkL R).length->YieldAt Fence.wide (n-1) prog l #[.int .i64 x.1,.int .u8 (x.2:Int)] W λe W'=>
   (e=.returned (.bool true)/\J (pre++[x]) W'/\KpB bl W W')\/(e=.returned (.bool false)/\Jx (pre++[x]) W'))
  (W:World) (hW:eR bl W) (h0:J [] W):
  CallsIn Fence.wide n prog 234 #[.func (.yield l) #[] #[],pv Bw 0] W λe W'=>(∃v,e=.returned v)/\
   ((∃xs,xs=rkL R/\J xs W')\/(∃pre,pre<+:rkL R/\Jx pre W')):=by
 have HLN:=aA (aJh R);have HNX:=aA (λk (hk:k<N)=>aQa R (k:=k) (by rw[hR.1];exact hk));have HLE:=aA (λk (hk:k<N)=>hR.le hk);have hsz:R.size=N:=hR.1;have hsz2:R.data.size=N:=hR.1;have HIX:Hid (∀(k:Nat) (h:k<R.size),R[k].toNat=rkR R k):=by
  show∀(k:Nat) (h:k<R.size),_;intro k h;rw[rkR,Array.getD_eq_getD_getElem?,Array.getElem?_eq_getElem (show k<R.data.size from h)];rfl
 generalize rkL R=Q at*;have hcw:=aE (hW _ hBw) 0;have HSZ:=aA hsz;refine callsIn_of_wp func234 rfl trivial ?_ rfl;simp only[ntmps234,List.size_toArray,List.length_cons,List.length_nil,Nat.reduceAdd,Nat.reduceSub,Array.replicate_succ,Array.replicate_zero,List.push_toArray,List.append_toArray,List.nil_append,List.cons_append];gi_wp2_with fail;clear hcw
 gi_loopw [6] (λi wr=>∃k:Nat,k<=N/\i=.int .i64 k/\eR bl wr/\J (Q.take k) wr) (λi _=>N-(intOf i).toNat)
 case atStart=>exact⟨0,by omega,rfl,hW,h0⟩
 case round=>
  clear hW h0;obtain⟨k,hk,rfl,hb,hJ⟩:=hrel
  by_cases hlt:k<N
  .have hcw:=aE (hb _ hBw) 0;obtain⟨fn,tmps,assign,body,hy,hR2⟩:=hY (Q.take k) (k,rkR R k) wr hJ ⟨hlt,HLE.out k hlt⟩ (by rw[List.length_take,HLN.out,hsz2];omega);have HN2:=aA (HNX.out k hlt);have hks:k<R.size:=by rw[HSZ.out];exact hlt
   have hix:=HIX.out k hks;generalize rkR R k=r at*;clear hJ;gi_wp2_with fail;refine hR2.mono ?_;rintro e W3 (⟨rfl,hJ3,hk3⟩|⟨rfl,hJx3⟩)
   .rw[HN2.out] at hJ3;have hb3:=hb.keep hk3;clear hy hR2 hb hY hk3 hcw;gi_wp2_with fail;go_roundw
    case rel=>exact⟨k+1,hlt,by go_num,hb3,hJ3⟩
    case measure=>simp[intOf];omega
   .rw[HN2.out] at hJx3;clear hy hR2 hb hY hcw;gi_wp2_with fail;refine bodyPost_ret (results_none rfl _ _ _) rfl ?_;exact⟨⟨_,rfl⟩,.inr ⟨_,List.take_prefix _ _,hJx3⟩⟩
  .obtain rfl:k=N:=by omega
   rw[List.take_of_length_le (by rw[HLN.out,hsz2];exact aH)] at hJ;clear hY;gi_wp2_with fail;go_end0;exact⟨⟨_,rfl⟩,.inl ⟨_,rfl,hJ⟩⟩
theorem tJ {N:Nat}(R:ByteArray)(hR:pM N t R)(hN:N<=256)(bl:List cH)(Bw:Nat)(hBw:(Bw,#[.string R],9)∈bl)(n:Nat)(hn:1<=n)(W:World)(hW:eR bl W):
  aBd Fence.wide n prog 234 #[pv Bw 0] (λx:Nat×Nat=> #[Value.int .i64 x.1,Value.int .u8 (x.2:Int)]) (λx _=>x.1<N/\x.2<=t) (KpB bl) (λxs=>xs=rkL R) (λpre=>pre<+:rkL R) (rkL R).length none W:=λl J Jx _ _ hY h0=>
 aMz R hR hN bl Bw hBw n hn l J Jx hY W hW h0
end
section
def aUi (b:Nat)(w:World)(R:ByteArray)(b1 b3:Nat)(_:List (Nat×Nat))(W:World):Prop:=
 St w [(b3,#[.string R],9),(b1,#[.bool true],4),(w.heap.size,#[.int .i64 b,.string R],96)] (λ_=>True) W
attribute [local go_sem] Oper.semAt_some
theorem gP {b n t:Nat}(hIs:jA b n t)(R:ByteArray)(hR:pM n t R)(w:World):
  Calls prog 175 #[.agg #[.int .i64 b,.string R]] w λe w'=>e=.returned (.bool true)/\Below w.heap.size w w':=by
 have HB:=aA (λW=>qH hIs W);have h8:=hIs.bounds;have hsz:R.size=n:=hR.1;have h2:=hIs.two;have hne:wrap64 (2^b)=(R.size:Int):=by
  rw[hsz];rcases hIs with⟨rfl,rfl,rfl⟩|⟨rfl,rfl,rfl⟩|⟨rfl,rfl,rfl⟩|⟨rfl,rfl,rfl⟩|⟨rfl,rfl,rfl⟩|⟨rfl,rfl,rfl⟩<;>simp[wrap64]
 have hnn:((R.size:Int) !=(R.size:Int))=false:=by simp
 have hb0:(b:Int)<=8:=by omega
 have hb1:3<=(b:Int):=by omega
 have hbt:Hid ((t:Int)=65-(b:Int)):=by show _=_;omega
 have HRS:=aA (λbl Bw hBw W hW=>tJ R hR (by omega) bl Bw hBw 4 (by omega) W hW);clear hsz h2 h8 hIs hR;have st0:=(St.start w).alloc (cs:= #[.int .i64 b,.string R]) (T:=96);refine(callsIn_wide (n:=5)).1 ?_;refine callsIn_of_wp_marks func175 rfl trivial ?_ rfl;simp only[ntmps175,List.size_toArray,List.length_cons,List.length_nil,Nat.reduceAdd,Nat.reduceSub,Array.replicate_succ,Array.replicate_zero,List.push_toArray,List.append_toArray,List.nil_append,List.cons_append];refine wpIn_wide.2 ?_;go_wp2_with fail;refine wp_scope_straight ?_;go_wp2_with fail;obtain⟨bl2,E2,hne2,sh2,rl,hEx,hbx,hst⟩:=st0.aW1;simp only[aI] at rl;refine aZ sh2 (by kernel_rfl) (by kernel_rfl) ?_
 repeat(first|go_big_quiet_step ((go_at_call 214;exact Cs.aW0 (HB.out _)))|quiet_step ((go_at_call 214;exact Cs.aW0 (HB.out _))))
 refine wpQuiet_nil ?_;intro y;have st4:=(hst y).out;clear hbx rl hst sh2 hEx st0;generalize y.W=w4 at*;go_wp2_with fail;refine wp_label ?_;have st5:=st4.alloc (cs:= #[.bool true]) (T:=4);have rl:=st5.rl;have hz5:(w4.alloc (.cells #[.bool true] 4)).heap.size=w4.heap.size+1:=by simp
 have hw4:=st4.below.size;have HZ5:=aA hz5;clear st4 hz5;generalize w4.alloc (.cells #[.bool true] 4)=w5 at*;go_wp2_with fail;refine(uF R w5).mono ?_;rintro e w6 ⟨rfl,rfl⟩;go_wp2_with fail;have st6:=st5.alloc (cs:= #[.string R]) (T:=9);have hz6:(w5.alloc (.cells #[.string R] 9)).heap.size=w5.heap.size+1:=by simp
 have hz56:w4.heap.size<w5.heap.size:=by have:=HZ5.out;omega
 clear st5 rl;generalize w5.alloc (.cells #[.string R] 9)=w6 at*;have hlie:eR [(w5.heap.size,#[.string R],9)] w6:=λx hx=>st6.blk x (by simp at hx;rcases hx with rfl;simp);have stc:aUi b w R w4.heap.size w5.heap.size [] w6:=st6;have hw6:w.heap.size<=w6.heap.size:=st6.below.size;have HZ6:=aA hz6;clear hz6 hne hnn;refine(wpIn_wide (n:=5)).1 (bU (n:=5) (b:=none) (λ_ e=>by cases e) rfl (by omega) (gf:=234) (lb:= #[pv w5.heap.size 0]) rfl trivial (enters_of func234 (by kernel_rfl) rfl)
  (λW hb=>HRS.out _ w5.heap.size (by simp) W (hlie.below hb)) (λh k=>λx hx=>(k x hx).trans (h x hx)) ?kb (λ_=>rfl)
  (aUi b w R w4.heap.size w5.heap.size) (λc pre W=>False)
  (λ_ _ _ _ h hg hr=>St.own h hg hr hw6) (λc _ _ _ _ h _ _=>h)
  (λ_ _ _ h hg=>St.grown h hg (λk e=>by cases e)) (λc _ _ _ h _=>h) stc
  (λx _=>{tmps:= #[.agg #[.int .i64 b,.string R],pv w.heap.size 0,.bool false,pv w4.heap.size 0,undef,.int .u8 (x.2:Int),pv w.heap.size 0,.int .i64 b,.bool true,.bool false,.bool false,pv w.heap.size 1,.string R,.int .i64 R.size,pv w.heap.size 0,.int .i64 b,.int .i64 R.size,.bool false,.bool false,pv w.heap.size 1,.string R,.func (.func 234) #[] #[pv w5.heap.size 0],.int .i64 x.1,.int .u8 (x.2:Int),undef,undef,undef,undef,undef,undef,undef],defers:=[]})
  (λx _ _=>x.2<=t) (λ_ _ _ _ _ _ h _ _=>h) ?assign ?body ?done ?stop)
 case kb=>
  intro W l o' hl' hlt x hx;have:=aC (hlie x hx);exact World.putObj_heap_other (by omega)
 case assign=>
  intro l pre x W K hI hP hK;have HK:=aA (hK 0 W (KeepsOthers.refl _) (λ_ _=>rfl) hI hP.2);clear hK;gi_wp2_with fail;exact HK.out
 case body=>
  rintro l pre ⟨x1,x2⟩ c W stI hP hN;simp only at hP;have rl:=St.rules stI;simp only[aI] at rl;have hle:¬(65-(b:Int)<(x2:Int)):=by rw[<-hbt.out];omega
  have hx0:(x2:Int)<=255:=by have:=hbt.out;omega
  clear stc st6 hlie;gi_wp2_with fail;exact⟨KeepsOthers.refl _,λ_ _=>rfl,stI⟩
 case done=>
  rintro D xs W hD rfl st9 hK;have st9':St w _ _ W:=st9;have rl:=st9'.rl;go_wp2_with fail;refine⟨by simp,.inl ⟨_,_,rfl,run_takeDeferred hK,?_⟩⟩;exact⟨_,by simp[results,results175,go_sem],rfl,(st9'.own (base:=w.heap.size) (grownBy_putObj' W D _) (λr e=>by cases e;exact⟨by omega,_,hK,rfl⟩) aH).below⟩
 case stop=>
  rintro D c pre W hD hp h hK;exact h.elim
end
section
variable {b n t:Nat}
abbrev bN :Value:=.func (.func 276) #[] #[]
abbrev oS (b:Nat)(R:ByteArray)(A n cap:Nat):Value:=.agg #[.int .i64 b,.string R,.slice (some ⟨A,0,none⟩) n cap,bN]
theorem rP (hIs:jA b n t)(R:ByteArray)(hR:pM n t R)(w:World):
  Calls prog 296 #[.agg #[.int .i64 b,.string R]] w λe w'=>∃A cap,e=.returned (.tuple #[oS b R A n cap,.nilIface])/\w.heap.size<=A/\Rg A n t w'/\Below w.heap.size w w':=by
 have HR:=aA (λW=>gP hIs R hR W);have st0:=((St.start w).alloc (cs:= #[.int .i64 b,.string R]) (T:=96)).alloc (cs:= #[.int .i64 0,.string ⟨#[]⟩,.slice none 0 0,.nilFunc]) (T:=437);simp only[World.size_alloc] at st0;have hcv:=aM5;have hsz:R.size=n:=hR.1;go_enter func296,ntmps296;go_wp2_with fail;refine(HR.out _).mono ?_;rintro e w1 ⟨rfl,hb1⟩;have st1:=st0.to hb1;have rl:=st1.rl;clear st0 hb1 HR;go_wp2_with fail;obtain⟨cap,hcap⟩:∃cap,grownCap w1 n 0 5=cap:=⟨_,rfl⟩;rw[hcap];clear hcap;have st2:=((((St.sx st1 0 (A:=w.heap.size+1) rfl (o:=0) (v:=.int .i64 b) (by omega)).sx 0 (A:=w.heap.size+1) rfl (o:=1) (v:=.string R) (by omega)).sx 0 (A:=w.heap.size+1) rfl (o:=2) (v:=.slice (some ⟨w1.heap.size,0,none⟩) n cap) (by omega))).sx 0 (A:=w.heap.size+1) rfl (o:=3) (v:=bN) (by omega);have hz:((((w1.setCell ⟨w.heap.size+1,0,none⟩ (.int .i64 b)).setCell ⟨w.heap.size+1,1,none⟩ (.string R)).setCell ⟨w.heap.size+1,2,none⟩ (.slice (some ⟨w1.heap.size,0,none⟩) n cap)).setCell ⟨w.heap.size+1,3,none⟩ bN).heap.size=w1.heap.size:=by simp[World.setCell]
 generalize(((w1.setCell ⟨w.heap.size+1,0,none⟩ (.int .i64 b)).setCell ⟨w.heap.size+1,1,none⟩ (.string R)).setCell ⟨w.heap.size+1,2,none⟩ (.slice (some ⟨w1.heap.size,0,none⟩) n cap)).setCell ⟨w.heap.size+1,3,none⟩ bN=w2 at*;have hB:=Rg.bts (t:=t) (Bts.made w2 R cap) hR;rw[hz] at hB;have st3:=st2.to ((aW.alloc aH (.cells (bytesRow R cap) 5 ((bytesRow R cap).size,(bytesRow R cap).size+1))).drew);have hw1:=st2.below.size;rw[hz] at hw1;clear rl hz st1 st2;have rl:=st3.rl;exact bodyPost_ret (v:=.tuple #[oS b R w1.heap.size n cap,.nilIface]) (by simp[results,results296,go_sem,rl]) rfl ⟨_,cap,rfl,hw1,hB,st3.below⟩
theorem sY (hIs:jA b n t)(w:World):
  Calls prog 270 #[.int .i64 b] w λe w'=>∃A,e=.returned (.tuple #[oS b ⟨#[]⟩ A n n,.nilIface])/\w.heap.size<=A/\Rg A n t w'/\Below w.heap.size w w':=by
 have HB:=aA (λW=>qH hIs W);have hw2:wrap64 (2^min b 64)=(n:Int):=by
  rcases hIs with⟨rfl,rfl,rfl⟩|⟨rfl,rfl,rfl⟩|⟨rfl,rfl,rfl⟩|⟨rfl,rfl,rfl⟩|⟨rfl,rfl,rfl⟩|⟨rfl,rfl,rfl⟩<;>simp[wrap64]
 have HN:Hid (Value.int .i64 (wrap64 (2^min b 64))=.int .i64 n):=congrArg (Value.int .i64) hw2;have hn256:=hIs.bounds.2.2.2.1;clear hw2 hIs;have st0:=(St.start w).alloc (cs:= #[.int .i64 0,.string ⟨#[]⟩,.slice none 0 0,.nilFunc]) (T:=437);go_enter func270,ntmps270;go_wp2_with fail;refine(HB.out _).mono ?_;rintro e w1 ⟨rfl,rfl⟩;go_wp2_with(at_make;refine aI8 (z:=.int .u8 0) (bytes:=1) underlying117 (by kernel_rfl) rfl rfl (.tmp 12) (.tmp 12) rfl n HN.out HN.out st0 (by omega) (by decide) ?_;intro w2 st2 hb2;simp only[World.size_alloc] at st2;have rl:=st2.rules;simp only[aI] at rl);have st3:=((((st2.sx 1 rfl (o:=0) (v:=.int .i64 b) aH).sx 1 rfl (o:=1) (v:=.string ⟨#[]⟩) aH).sx 1 rfl (o:=2) (v:=.slice (some ⟨w.heap.size+1,0,none⟩) n n) aH)).sx 1 rfl (o:=3) (v:=bN) aH;exact bodyPost_ret (v:=.tuple #[oS b ⟨#[]⟩ (w.heap.size+1) n n,.nilIface]) (by simp[results,results270,go_sem,rl]) rfl ⟨_,rfl,Nat.le_succ _,Rg.made (st3.blk _ (bK (i:=0) rfl)),st3.below⟩
theorem oL (hn:n<=256)(ht:t<=255)(R:ByteArray)(A cap i r:Nat)(hi:i<n)(hr:r<=t){w0:World}{bl:List cH}(hA:w0.heap.size<=A)(w:World)(st:St w0 bl (Rg A n t) w)(hne:∀x∈bl,x.1≠A):
  Calls prog 279 #[oS b R A n cap,.int .i64 i,.int .u8 (r:Int)] w λe w'=>e=.returned (.tuple #[])/\KeepsOthers w w'/\St w0 bl (Rg A n t) w':=by
 obtain⟨hAlt,hcell⟩:=st.ex;obtain⟨hfz,o,ho,hc⟩:=hcell i hi;have HG:=aA (λW=>aCz o r W);have hmx:max o r<=t:=by omega
 generalize max o r=m at*;have hin:(i:Int)<(n:Int):=by omega
 have hnn:(n:Int)<=256:=by omega
 have st1:=((St.aXp st (F:=λW'=>Below w.heap.size w W') aW (λ_ _ h hb=>h.trans (hb.mono h.size)))).alloc (cs:= #[.int .i64 b,.string R,.slice (some ⟨A,0,none⟩) n cap,bN]) (T:=437);go_enter func279,ntmps279;go_wp2_with fail;obtain⟨bl2,E2,hne2,sh2,rl,hEx,hbx,hst⟩:=st1.aW1;simp only[aI,World.size_alloc] at rl;have hcz:∀z:Cs w0 bl2 E2,z.W.cell? ⟨A,i,none⟩=some (.int .u8 (o:Int)):=λz=>((hEx z).out.2.cell (p:=⟨A,i,none⟩) hAlt).trans hc;refine bP sh2 13 (by kernel_rfl) (by kernel_rfl) ?_;simp only[List.take_succ_cons,List.take_zero,List.drop_succ_cons,List.drop_zero]
 repeat(first|go_big_quiet_step ((go_at_call 276;exact Cs.aW0 (HG.out _)))|quiet_step ((go_at_call 276;exact Cs.aW0 (HG.out _))))
 refine wpQuiet_nil ?_;intro y;have st4:=(hst y).out;clear hbx rl hst sh2 hEx hcz;generalize y.W=w4 at*;obtain⟨hf4,o4,ho4,hc4⟩:=st4.ex.1.2 i hi;go_wp2_with fail;have st5:=(st4.less bl (List.sublist_cons_self _ _)).aYi (g:=A) (o:=i) (v:=.int .u8 (m:Int)) hA hne (Rg.set st4.ex.1 i m hmx) Rg.keep;have hko:=(aX st4.ex.2).trans (KeepsOthers.setCell w4 ⟨A,i,none⟩ (.int .u8 (m:Int)));go_end0;exact⟨rfl,hko,st5⟩
theorem kY (ht:t<=255)(R:ByteArray)(A cap:Nat)(w:World)(hRg:Rg A n t w):
  Calls prog 273 #[oS b R A n cap] w λe w'=>(∃Q:ByteArray,pM n t Q/\e=.returned (.agg #[.int .i64 b,.string Q]))/\Below w.heap.size w w':=by
 have st0:=((St.start w).alloc (cs:= #[.int .i64 b,.string R,.slice (some ⟨A,0,none⟩) n cap,bN]) (T:=437)).alloc (cs:= #[.int .i64 0,.string ⟨#[]⟩]) (T:=96);simp only[World.size_alloc] at st0;obtain⟨Q,hQ,hQc⟩:=(hRg.keep _ _ st0.below).text ht;have hcv:=run_convert_bytes_back ((w.alloc (.cells #[.int .i64 b,.string R,.slice (some ⟨A,0,none⟩) n cap,bN] 437)).alloc (.cells #[.int .i64 0,.string ⟨#[]⟩] 96)) 117 9 5 ⟨A,0,none⟩ cap Q.data.toList underlying117 underlying5 underlying9 (λj hj=>by
  rw[Addr.add_lit,Nat.zero_add];exact hQc j _ (cZ hj))
 have hl:Q.data.toList.length=n:=by simpa using hQ.1
 rw[hl] at hcv;have hQe:(⟨Q.data.toList.toArray⟩:ByteArray)=Q:=by simp
 rw[hQe] at hcv;go_enter func273,ntmps273;go_wp2_with fail;exact bodyPost_ret (v:=.agg #[.int .i64 b,.string Q]) (by simp[results,results273,go_sem]) rfl ⟨⟨Q,hQ,rfl⟩,(aW.alloc aH _).alloc (by simp) _⟩
end
section
def KpN (bl:List cH)(s:Option Addr)(l:List Nat)(A B:World):Prop:=KpB bl A B/\(dH A s l->dH B s l)
theorem aPv (bl:List cH)(Bl:Nat)(L:List Nat)(s:Option Addr)(cap:Nat)(hlen:L.length<=1000000)(hBl:(Bl,#[.slice s L.length cap],41)∈bl)(n:Nat)(hn:1<=n)(l:Nat)(J Jx:List Nat->World->Prop)
  (hY:∀(pre:List Nat) (x:Nat) (W:World),J pre W->x∈L->pre.length<L.length->YieldAt Fence.wide (n-1) prog l #[.int .u64 x] W λe W'=>
   (e=.returned (.bool true)/\J (pre++[x]) W'/\KpN bl s L W W')\/(e=.returned (.bool false)/\Jx (pre++[x]) W'))
  (W:World) (hW:eR bl W) (hL:dH W s L) (h0:J [] W):
  CallsIn Fence.wide n prog 282 #[.func (.yield l) #[] #[],pv Bl 0] W λe W'=>(∃v,e=.returned v)/\
   ((∃xs,xs=L/\J xs W')\/(∃pre,pre<+:L/\Jx pre W')):=by
 have hB:=aE (hW _ hBl) 0;refine callsIn_of_wp func282 rfl trivial ?_ rfl;simp only[ntmps282,List.size_toArray,List.length_cons,List.length_nil,Nat.reduceAdd,Nat.reduceSub,Array.replicate_succ,Array.replicate_zero,List.push_toArray,List.append_toArray,List.nil_append,List.cons_append];gi_wp2_with fail
 gi_loopw [7] (λi wr=>∃k:Nat,k<=L.length/\i=.int .i64 k/\eR bl wr/\dH wr s L/\J (L.take k) wr) (λi _=>L.length-(intOf i).toNat)
 case atStart=>exact⟨0,cJ _,rfl,hW,hL,h0⟩
 case round=>
  clear hB hL hW;obtain⟨k,hk,rfl,hb,hL,hJ⟩:=hrel
  by_cases hlt:k<L.length
  .obtain⟨x,hx⟩:∃x,L[k]? =some x:=⟨_,cZ hlt⟩;have hL9:=aA hL;obtain⟨g,o,rfl,hg,hc1⟩:=hL.at hx;have HS:Hid (L.take k++[x]=L.take (k+1)):=by show _=_;rw[List.take_add_one,hx];rfl
   obtain⟨fn,tmps,assign,body,hy,hR⟩:=hY (L.take k) x wr hJ (bK hx) (by rw[List.length_take];omega);clear hx hL;gi_wp2_with fail;refine hR.mono ?_;rintro e W3 (⟨rfl,hJ3,hk3⟩|⟨rfl,hJx3⟩)
   .rw[HS.out] at hJ3;have hb3:=hb.keep hk3.1;have hL3:=hk3.2 hL9.out;clear hy hR hc1 hJ hY HS hb hk3;gi_wp2_with fail;go_roundw
    case rel=>exact⟨k+1,hlt,by go_num,hb3,hL3,hJ3⟩
    case measure=>simp[intOf];omega
   .rw[HS.out] at hJx3;clear hy hR hc1 hJ hY HS;gi_wp2_with fail;refine bodyPost_ret (results_none rfl _ _ _) rfl ?_;exact⟨⟨_,rfl⟩,.inr ⟨_,List.take_prefix _ _,hJx3⟩⟩
  .obtain rfl:k=L.length:=by omega
   rw[List.take_of_length_le aH] at hJ;clear hY;gi_wp2_with fail;go_end0;exact⟨⟨_,rfl⟩,.inl ⟨_,rfl,hJ⟩⟩
theorem aKr (bl:List cH)(Bl:Nat)(L:List Nat)(s:Option Addr)(cap:Nat)(hlen:L.length<=1000000)(hBl:(Bl,#[.slice s L.length cap],41)∈bl)(n:Nat)(hn:1<=n)(W:World)(hW:eR bl W)(hL:dH W s L):
  aBd Fence.wide n prog 282 #[pv Bl 0] (λx:Nat=> #[Value.int .u64 x]) (λx _=>x∈L) (KpN bl s L) (λxs=>xs=L) (λpre=>pre<+:L) L.length none W:=λl J Jx _ _ hY h0=>
 aPv bl Bl L s cap hlen hBl n hn l J Jx hY W hW hL h0
theorem Rg.own {g n t base:Nat}{A B:World}{row:Option Nat}(h:Rg g n t A)(hg:A.grownBy B row)(hr:∀r,row=some r->base<=r/\∃o:Obj,A.heap[r]? =some o/\o.isCells=false)(hn:0<n):Rg g n t B:=by
 have hne:some g≠row:=by
  intro e;obtain⟨_,o,ho,hc⟩:=hr g e.symm;obtain⟨_,r,_,h4⟩:=h.2 0 hn;simp only[World.cell?,ho] at h4;cases o<;>simp_all [Obj.isCells]
 have e:=hg.block g h.1 hne;refine⟨kG h.1 hg.size,λj hj=> ?_⟩;obtain⟨h3,r,h4,h5⟩:=h.2 j hj;exact⟨by rw[<-h3];simp only[World.frozen?,e],r,h4,by rw[<-h5];simp only[World.cell?,e]⟩
def aUt (b n t:Nat)(w0:World)(R:ByteArray)(A cap:Nat)(s:Option Addr)(L:List Nat)(c2 B1 B2:Nat)(bl:List cH)(_:List Nat)(W:World):Prop:=
 St w0 ((B2,#[.slice s L.length c2],41)::(B1,#[.int .i64 b,.string R,.slice (some ⟨A,0,none⟩) n cap,bN],437)::bl) (λ_=>True) W/\Rg A n t W
attribute [local go_sem] Oper.semAt_some
theorem vA {b n t:Nat}(hIs:jA b n t)(R:ByteArray)(A cap:Nat)(L:List Nat)(hL:dK L)(hlen:L.length<=1000000)(s:Option Addr)(c2:Nat){w0:World}{bl:List cH}(hA:w0.heap.size<=A)(hne:∀x∈bl,x.1≠A)
  (hN:∀W,St w0 bl (Rg A n t) W->dH W s L) (w:World) (st:St w0 bl (Rg A n t) w):
  Calls prog 272 #[oS b R A n cap,.slice s L.length c2] w λe w'=>e=.returned (.tuple #[])/\St w0 bl (Rg A n t) w':=by
 have HPL:=aA (λx (hx:x∈L) W=>aA5 hIs x (hL x hx) W);have h8:=hIs.bounds;have ht:t<=255:=by omega
 have HT:=aA (λ(bl:List cH) (hne:∀x∈bl,x.1≠A) i r (hi:i<n) (hr:r<=t) W (st:St w0 bl (Rg A n t) W)=>oL (b:=b) h8.2.2.2.1 ht R A cap i r hi hr hA W st hne);have hAl:=st.ex.1;have st1:=st.alloc (cs:= #[.int .i64 b,.string R,.slice (some ⟨A,0,none⟩) n cap,bN]) (T:=437);refine(callsIn_wide (n:=5)).1 ?_;refine callsIn_of_wp_marks func272 rfl trivial ?_ rfl;simp only[ntmps272,List.size_toArray,List.length_cons,List.length_nil,Nat.reduceAdd,Nat.reduceSub,Array.replicate_succ,Array.replicate_zero,List.push_toArray,List.append_toArray,List.nil_append,List.cons_append];refine wpIn_wide.2 ?_;go_wp2_with fail;have hz1:(w.alloc (.cells #[.int .i64 b,.string R,.slice (some ⟨A,0,none⟩) n cap,bN] 437)).heap.size=w.heap.size+1:=by simp
 have HZ1:=aA hz1;clear hz1;generalize w.alloc (.cells #[.int .i64 b,.string R,.slice (some ⟨A,0,none⟩) n cap,bN] 437)=w1 at*;refine(uJ s L.length c2 w1).mono ?_;rintro e w2 ⟨rfl,rfl⟩;go_wp2_with fail;have st2:=st1.alloc (cs:= #[.slice s L.length c2]) (T:=41);have hz2:(w1.alloc (.cells #[.slice s L.length c2] 41)).heap.size=w1.heap.size+1:=by simp
 have HZ2:=aA hz2;clear hz2;generalize w1.alloc (.cells #[.slice s L.length c2] 41)=w2 at*;have hw12:w1.heap.size<w2.heap.size:=by have:=HZ2.out;omega
 have hw2:w0.heap.size<=w2.heap.size:=st2.below.size;have stc:aUt b n t w0 R A cap s L c2 w.heap.size w1.heap.size bl [] w2:=⟨st2.aW3 trivial (λ_ _ _ _=>trivial),st2.ex⟩;have hlie:eR [(w1.heap.size,#[.slice s L.length c2],41)] w2:=λx hx=>st2.blk x (by simp at hx;rcases hx with rfl;simp);have HN:=aA hN;have hL2:dH w2 s L:=hN w2 (st2.less bl ((List.sublist_cons_self _ _).trans (List.sublist_cons_self _ _)));have hn0:0<n:=by omega
 clear hL st st1 hN;refine(wpIn_wide (n:=5)).1 (bU (n:=5) (b:=none) (λ_ e=>by cases e) rfl (by omega) (gf:=282) (lb:= #[pv w1.heap.size 0]) rfl trivial (enters_of func282 (by kernel_rfl) rfl)
  (λW hb=>aKr [(w1.heap.size,#[.slice s L.length c2],41)] w1.heap.size L s c2 hlen (by simp) 4 (by omega) W (hlie.below hb) (hL2.aWu aH hb)) (λh k=>⟨λx hx=>(k.1 x hx).trans (h.1 x hx),λr=>k.2 (h.2 r)⟩) ?kb (λ_=>rfl)
  (aUt b n t w0 R A cap s L c2 w.heap.size w1.heap.size bl) (λc pre W=>False)
  (λ_ _ _ _ h hg hr=>⟨St.own h.1 hg hr hw2,h.2.own hg hr hn0⟩) (λc _ _ _ _ h _ _=>h)
  (λ_ _ _ h hg=>⟨St.grown h.1 hg (λk e=>by cases e),h.2.own (base:=0) hg (λr e=>by cases e) hn0⟩) (λc _ _ _ h _=>h) stc
  (λx _=>{tmps:= #[oS b R A n cap,.slice s L.length c2,pv w.heap.size 0,undef,.int .u64 x,undef,undef,.slice s L.length c2,.func (.func 282) #[] #[pv w1.heap.size 0],.int .u64 x,undef,undef,undef,undef,undef,undef,undef,undef,undef,undef,undef,undef,undef],defers:=[]})
  (λx _ _=>x∈L) (λ_ _ _ _ _ _ h _ _=>h) ?assign ?body ?done ?stop)
 case kb=>
  intro W l' o' hl' hlt;refine⟨λx hx=> ?_,λr i x hx=> ?_⟩
  .simp at hx;subst hx;exact World.putObj_heap_other (by show w1.heap.size≠_;omega)
  .obtain⟨g0,o0,e0,hg0,_⟩:=hL2 i x hx;obtain⟨g,o,e,hg,hc⟩:=r i x hx;rw[e0] at e;cases e;refine⟨g0,o0,e0,by simpa[World.putObj] using hg,λj u hu=> ?_⟩;rw[<-hc j u hu];simp only[World.cell?,World.putObj_heap_other (show g0≠l' by omega)]
 case assign=>
  intro l pre x W K hI hP hK;have HK:=aA (hK 0 W (KeepsOthers.refl _) ⟨λ_ _=>rfl,λr=>r⟩ hI hP);clear hK;gi_wp2_with fail;exact HK.out
 case body=>
  rintro l pre x c W ⟨stI,hRg⟩ hP hlt;have stJ:St w0 ((w1.heap.size,#[.slice s L.length c2],41)::(w.heap.size,#[.int .i64 b,.string R,.slice (some ⟨A,0,none⟩) n cap,bN],437)::bl) (Rg A n t) W:=stI.aW3 hRg Rg.keep;have hne2:∀y∈((w1.heap.size,#[.slice s L.length c2],41)::(w.heap.size,#[.int .i64 b,.string R,.slice (some ⟨A,0,none⟩) n cap,bN],437)::bl:List cH),y.1≠A:=by
   intro y hy;have hz1:=HZ1.out;rcases List.mem_cons.1 hy with rfl|hy
   .show w1.heap.size≠A;omega
   .rcases List.mem_cons.1 hy with rfl|hy
    .show w.heap.size≠A;omega
    .exact hne y hy
  have rl:=stJ.rl;have HPx:=aA (λW=>HPL.out x hP W);have HTx:=aA (λi r hi hr=>HT.out _ hne2 i r hi hr W stJ);clear HPL HT stI hRg hP stc hlie hL2 st2 hne2;gi_wp2_with fail;refine⟨trivial,(CallsIn.inRound l (callsIn_wide.2 (HPx.out _))).mono ?_⟩;rintro e w5 ⟨⟨a,r,ha,hr1,hr,rfl⟩,rfl⟩;have HT2:=aA (HTx.out a r ha hr);have hr255:(r:Int)<=255:=by omega
  clear HTx;gi_wp2_with fail;refine⟨trivial,(CallsIn.inRound l (callsIn_wide.2 HT2.out)).mono ?_⟩;rintro e w6 ⟨rfl,hko,st6⟩;clear rl;gi_wp2_with fail;refine⟨hko,⟨λy hy=> ?_,λr=>HN.out _ (st6.less bl ((List.sublist_cons_self _ _).trans (List.sublist_cons_self _ _)))⟩,st6.aW3 trivial (λ_ _ _ _=>trivial),st6.ex⟩;simp at hy;subst hy;exact(st6.blk _ (bK (i:=0) rfl)).trans (stJ.blk _ (bK (i:=0) rfl)).symm
 case done=>
  rintro D xs W hD rfl ⟨st9,hR9⟩ hK;have st8:=St.less st9 bl ((List.sublist_cons_self _ _).trans (List.sublist_cons_self _ _));go_wp2_with fail;refine⟨by simp,.inl ⟨_,_,rfl,run_takeDeferred hK,?_⟩⟩;exact⟨_,results_none rfl _ _ _,rfl,(st8.own (base:=w0.heap.size) (grownBy_putObj' W D _) (λr e=>by cases e;exact⟨by omega,_,hK,rfl⟩) aH).aW3 (hR9.own (base:=0) (grownBy_putObj' W D _) (λr e=>by cases e;exact⟨cJ _,_,hK,rfl⟩) hn0) Rg.keep⟩
 case stop=>
  rintro D c pre W hD hp h hK;exact h.elim
end
def fY (b n t:Nat)(w:World)(e:Ending)(w':World):Prop:=∃Q:ByteArray,pM n t Q/\e=.returned (.tuple #[.agg #[.int .i64 b,.string Q],.int .i64 0])/\Below w.heap.size w w'
theorem aMl {b n t:Nat}(hIs:jA b n t)(L:List Nat)(hL:dK L)(s:Option Addr)(cap:Nat)(hlen:L.length<=1000000)(w:World)(hN:dH w s L):
  Calls prog 266 #[.int .i64 b,.slice s L.length cap] w (fY b n t w):=by
 have HB:=aA (λW=>sY hIs W);have HA:=aA (λA bl hA hne W st=>vA hIs ⟨#[]⟩ A n L hL hlen s cap (w0:=w) (bl:=bl) hA hne (λW st=>hN.aWu aH st.below) W st);have HD:=aA (λA W hR=>kY (b:=b) (n:=n) (t:=t) (by have:=hIs.bounds;omega) ⟨#[]⟩ A n W hR);clear hIs hL hlen hN;have st0:=(St.start w).alloc (cs:= #[.int .i64 0,.string ⟨#[]⟩]) (T:=96);go_enter func266,ntmps266;go_wp2_with fail;refine(HB.out _).mono ?_;rintro e w1 ⟨A,rfl,hA,hR1,hb1⟩;have hA1:w.heap.size<A:=by simp at hA;omega
 have st1:=((st0.to hb1).aW3 hR1 Rg.keep).alloc (cs:= #[.int .i64 b,.string ⟨#[]⟩,.slice (some ⟨A,0,none⟩) n n,bN]) (T:=437);have hAl:=hR1.1;have hne:∀x∈([(w1.heap.size,#[.int .i64 b,.string ⟨#[]⟩,.slice (some ⟨A,0,none⟩) n n,bN],437),(w.heap.size,#[.int .i64 0,.string ⟨#[]⟩],96)]:List cH),x.1≠A:=by
  intro x hx;simp at hx;rcases hx with rfl|rfl
  .show w1.heap.size≠A;omega
  .show w.heap.size≠A;omega
 have HA2:=aA (λW st=>HA.out A _ (by omega) hne W st);clear st0 hb1 hR1 HB HA hne hA;go_wp2_with fail;refine(HA2.out _ st1).mono ?_;rintro e w2 ⟨rfl,st2⟩;have rl:=st2.rl;clear st1 HA2;go_wp2_with fail;refine(HD.out A w2 st2.ex).mono ?_;rintro e w3 ⟨⟨Q,hQ,rfl⟩,hb3⟩;have st3:=(st2.to hb3).aW3 (F:=λ_=>True) trivial (λ_ _ _ _=>trivial);have rl:=st3.rl;clear st2 hb3 HD;go_wp2_with fail;have st4:=(St.aW5 st3 1 (A:=w.heap.size) rfl (o:=0) (v:=.int .i64 b) aH).aW5 1 (A:=w.heap.size) rfl (o:=1) (v:=.string Q) aH;exact bodyPost_ret (v:=.tuple #[.agg #[.int .i64 b,.string Q],.int .i64 0]) (by simp[results,results266,go_sem,rl]) rfl ⟨Q,hQ,rfl,st4.below⟩
theorem aHx {b n t:Nat}(hIs:jA b n t)(R:ByteArray)(hR:pM n t R)(a:Nat)(ha:a<=aJ)(w:World):
  Calls prog 292 #[.agg #[.int .i64 b,.string R],.int .u64 a] w (fY b n t w):=by
 have HB:=aA (λW=>rP hIs R hR W);have HA:=aA (λA cap B bl hA hne hB W st=>vA hIs R A cap [a] (by intro x hx;simp at hx;subst hx;exact ha) (by simp) (some ⟨B,0,none⟩) 1 (w0:=w) (bl:=bl) hA hne hB W st);have HD:=aA (λA cap W hR=>kY (b:=b) (n:=n) (t:=t) (by have:=hIs.bounds;omega) R A cap W hR);clear hIs ha hR;have st0:=((St.start w).alloc (cs:= #[.int .i64 b,.string R]) (T:=96)).alloc (cs:= #[.int .i64 0,.string ⟨#[]⟩]) (T:=96);simp only[World.size_alloc] at st0;go_enter func292,ntmps292;go_wp2_with fail;refine(HB.out _).mono ?_;rintro e w1 ⟨A,cap,rfl,hA,hR1,hb1⟩;have hA1:w.heap.size+1<A:=by simp at hA;omega
 have hAl:=hR1.1;have st1:=(((st0.to hb1).aW3 hR1 Rg.keep).alloc (cs:= #[.int .i64 b,.string R,.slice (some ⟨A,0,none⟩) n cap,bN]) (T:=437)).alloc (cs:= #[.int .u64 a]) (T:=22);simp only[World.size_alloc] at st1;have hne:∀x∈([(w1.heap.size+1,#[.int .u64 a],22),(w1.heap.size,#[.int .i64 b,.string R,.slice (some ⟨A,0,none⟩) n cap,bN],437),(w.heap.size+1,#[.int .i64 0,.string ⟨#[]⟩],96),(w.heap.size,#[.int .i64 b,.string R],96)]:List cH),x.1≠A:=by
  intro x hx;simp at hx;rcases hx with rfl|rfl|rfl|rfl
  .show w1.heap.size+1≠A;omega
  .show w1.heap.size≠A;omega
  .show w.heap.size+1≠A;omega
  .show w.heap.size≠A;omega
 have HA2:=aA (λW st=>HA.out A cap (w1.heap.size+1) _ (by omega) hne (λW st=>Rd.aW2 aY (st.blk _ (bK (i:=0) rfl)) rfl) W st);clear st0 hb1 hR1 HB HA hne hA;go_wp2_with fail;refine(HA2.out _ st1).mono ?_;rintro e w2 ⟨rfl,st2⟩;have rl:=st2.rl;clear st1 HA2;go_wp2_with fail;refine(HD.out A cap w2 st2.ex).mono ?_;rintro e w3 ⟨⟨Q,hQ,rfl⟩,hb3⟩;have st3:=(st2.to hb3).aW3 (F:=λ_=>True) trivial (λ_ _ _ _=>trivial);have rl:=st3.rl;clear st2 hb3 HD;go_wp2_with fail;have st4:=(St.aW5 st3 2 (A:=w.heap.size+1) rfl (o:=0) (v:=.int .i64 b) (by omega)).aW5 2 (A:=w.heap.size+1) rfl (o:=1) (v:=.string Q) (by omega);exact bodyPost_ret (v:=.tuple #[.agg #[.int .i64 b,.string Q],.int .i64 0]) (by simp[results,results292,go_sem,rl]) rfl ⟨Q,hQ,rfl,st4.below⟩
section
def aVm (b n t:Nat)(w:World)(R Q:ByteArray)(A cap B1 B2:Nat)(_:List (Nat×Nat))(W:World):Prop:=
 St w [(B2,#[.string Q],9),(B1,#[.int .i64 b,.string R,.slice (some ⟨A,0,none⟩) n cap,bN],437),(w.heap.size+1+1,#[.int .i64 0,.string ⟨#[]⟩],96),(w.heap.size+1,#[.int .i64 b,.string Q],96),(w.heap.size,#[.int .i64 b,.string R],96)] (λ_=>True) W/\Rg A n t W
attribute [local go_sem] Oper.semAt_some
theorem aCo {b n t:Nat}(hIs:jA b n t)(R:ByteArray)(hR:pM n t R)(Q:ByteArray)(hQ:pM n t Q)(w:World):
  Calls prog 295 #[.agg #[.int .i64 b,.string R],.agg #[.int .i64 b,.string Q]] w (fY b n t w):=by
 have HB:=aA (λW=>rP hIs R hR W);have HR:=aA (λW=>gP hIs Q hQ W);have h8:=hIs.bounds;have ht:t<=255:=by omega
 have HT:=aA (λA cap bl hA hne i r hi hr W st=>oL (b:=b) (n:=n) (t:=t) h8.2.2.2.1 ht R A cap i r hi hr (w0:=w) (bl:=bl) hA W st hne);have HD:=aA (λA cap W hR=>kY (b:=b) (n:=n) (t:=t) ht R A cap W hR);have HRS:=aA (λbl Bw hBw W hW=>tJ Q hQ (by omega) bl Bw hBw 4 (by omega) W hW);have hn0:0<n:=by omega
 have ht8:t<=64:=by omega
 clear hIs hR hQ h8 ht;have st0:=(((St.start w).alloc (cs:= #[.int .i64 b,.string R]) (T:=96)).alloc (cs:= #[.int .i64 b,.string Q]) (T:=96)).alloc (cs:= #[.int .i64 0,.string ⟨#[]⟩]) (T:=96);simp only[World.size_alloc] at st0;refine(callsIn_wide (n:=5)).1 ?_;refine callsIn_of_wp_marks func295 rfl trivial ?_ rfl;simp only[ntmps295,List.size_toArray,List.length_cons,List.length_nil,Nat.reduceAdd,Nat.reduceSub,Array.replicate_succ,Array.replicate_zero,List.push_toArray,List.append_toArray,List.nil_append,List.cons_append];refine wpIn_wide.2 ?_;go_wp2_with fail;refine(HB.out _).mono ?_;rintro e w1 ⟨A,cap,rfl,hA,hR1,hb1⟩;have hA1:w.heap.size+1+1<A:=by simp at hA;omega
 have hAl:=hR1.1;have st1:=((st0.to hb1).aW3 hR1 Rg.keep).alloc (cs:= #[.int .i64 b,.string R,.slice (some ⟨A,0,none⟩) n cap,bN]) (T:=437);have rl:=st1.rs;clear st0 hb1 hR1 HB hA;go_wp2_with fail;refine(HR.out _).mono ?_;rintro e w3 ⟨rfl,hb3⟩;have st3:=st1.to hb3;have hz23:w1.heap.size<w3.heap.size:=by have:=hb3.size;simp at this;omega
 clear rl;have rl:=st3.rl;clear st1 hb3 HR;go_wp2_with fail;refine(uF Q w3).mono ?_;rintro e w4 ⟨rfl,rfl⟩;go_wp2_with fail;have st4:=st3.alloc (cs:= #[.string Q]) (T:=9);have hz4:(w3.alloc (.cells #[.string Q] 9)).heap.size=w3.heap.size+1:=by simp
 have HZ4:=aA hz4;clear hz4 rl;generalize w3.alloc (.cells #[.string Q] 9)=w4 at*;have hw34:w3.heap.size<w4.heap.size:=by have:=HZ4.out;omega
 have hw4:w.heap.size<=w4.heap.size:=st4.below.size;have stc:aVm b n t w R Q A cap w1.heap.size w3.heap.size [] w4:=⟨st4.aW3 trivial (λ_ _ _ _=>trivial),st4.ex⟩;have hlie:eR [(w3.heap.size,#[.string Q],9)] w4:=λx hx=>st4.blk x (by simp at hx;rcases hx with rfl;simp);clear st3;refine(wpIn_wide (n:=5)).1 (bU (n:=5) (b:=none) (λ_ e=>by cases e) rfl (by omega) (gf:=234) (lb:= #[pv w3.heap.size 0]) rfl trivial (enters_of func234 (by kernel_rfl) rfl)
  (λW hb=>HRS.out [(w3.heap.size,#[.string Q],9)] w3.heap.size (by simp) W (hlie.below hb)) (λh k=>λx hx=>(k x hx).trans (h x hx)) ?kb (λ_=>rfl)
  (aVm b n t w R Q A cap w1.heap.size w3.heap.size) (λc pre W=>False)
  (λ_ _ _ _ h hg hr=>⟨St.own h.1 hg hr hw4,h.2.own hg hr hn0⟩) (λc _ _ _ _ h _ _=>h)
  (λ_ _ _ h hg=>⟨St.grown h.1 hg (λk e=>by cases e),h.2.own (base:=0) hg (λr e=>by cases e) hn0⟩) (λc _ _ _ h _=>h) stc
  (λx _=>{tmps:= #[.agg #[.int .i64 b,.string R],.agg #[.int .i64 b,.string Q],pv w.heap.size 0,pv (w.heap.size+1) 0,pv (w.heap.size+1+1) 0,.int .i64 0,pv w1.heap.size 0,.nilIface,.int .i64 x.1,.int .u8 (x.2:Int),.tuple #[oS b R A n cap,.nilIface],.agg #[.int .i64 b,.string R],.tuple #[oS b R A n cap,.nilIface],oS b R A n cap,.nilIface,.nilIface,.bool true,.bool true,.agg #[.int .i64 b,.string Q],.bool true,.bool false,.bool false,pv (w.heap.size+1) 0,.int .i64 b,pv w.heap.size 0,.int .i64 b,.bool false,.bool false,.bool false,undef,undef,.nilIface,.bool false,undef,undef,undef,pv (w.heap.size+1) 1,.string Q,.func (.func 234) #[] #[pv w3.heap.size 0],.int .i64 x.1,.int .u8 (x.2:Int),undef,undef,undef,undef,undef,undef],defers:=[]})
  (λx _ _=>x.1<n/\x.2<=t) (λ_ _ _ _ _ _ h _ _=>h) ?assign ?body ?done ?stop)
 case kb=>
  intro W l o' hl' hlt x hx;have:=aC (hlie x hx);exact World.putObj_heap_other (by omega)
 case assign=>
  intro l pre x W K hI hP hK;have HK:=aA (hK 0 W (KeepsOthers.refl _) (λ_ _=>rfl) hI hP);clear hK;gi_wp2_with fail;exact HK.out
 case body=>
  rintro l pre ⟨x1,x2⟩ c W ⟨stI,hRg⟩ hP hN;have stJ:St w [(w3.heap.size,#[.string Q],9),(w1.heap.size,#[.int .i64 b,.string R,.slice (some ⟨A,0,none⟩) n cap,bN],437),(w.heap.size+1+1,#[.int .i64 0,.string ⟨#[]⟩],96),(w.heap.size+1,#[.int .i64 b,.string Q],96),(w.heap.size,#[.int .i64 b,.string R],96)] (Rg A n t) W:=stI.aW3 hRg Rg.keep;have hne2:∀y∈([(w3.heap.size,#[.string Q],9),(w1.heap.size,#[.int .i64 b,.string R,.slice (some ⟨A,0,none⟩) n cap,bN],437),(w.heap.size+1+1,#[.int .i64 0,.string ⟨#[]⟩],96),(w.heap.size+1,#[.int .i64 b,.string Q],96),(w.heap.size,#[.int .i64 b,.string R],96)]:List cH),y.1≠A:=by
   intro y hy;simp at hy;rcases hy with rfl|rfl|rfl|rfl|rfl
   .show w3.heap.size≠A;omega
   .show w1.heap.size≠A;omega
   .show w.heap.size+1+1≠A;omega
   .show w.heap.size+1≠A;omega
   .show w.heap.size≠A;omega
  have rl:=stJ.rl;simp only at hP;have HTx:=aA (HT.out A cap _ (by omega) hne2 x1 x2 hP.1 hP.2 W stJ);have hr255:(x2:Int)<=255:=by have:=hP.2;omega
  clear HT stI hRg stc hlie st4 hne2 hP;gi_wp2_with fail;refine⟨trivial,(CallsIn.inRound l (callsIn_wide.2 HTx.out)).mono ?_⟩;rintro e w6 ⟨rfl,hko,st6⟩;clear rl;gi_wp2_with fail;refine⟨hko,λy hy=> ?_,st6.aW3 trivial (λ_ _ _ _=>trivial),st6.ex⟩;simp at hy;subst hy;exact(st6.blk _ (bK (i:=0) rfl)).trans (stJ.blk _ (bK (i:=0) rfl)).symm
 case done=>
  rintro D xs W hD rfl ⟨st9,hR9⟩ hK;have stJ:St w [(w3.heap.size,#[.string Q],9),(w1.heap.size,#[.int .i64 b,.string R,.slice (some ⟨A,0,none⟩) n cap,bN],437),(w.heap.size+1+1,#[.int .i64 0,.string ⟨#[]⟩],96),(w.heap.size+1,#[.int .i64 b,.string Q],96),(w.heap.size,#[.int .i64 b,.string R],96)] (Rg A n t) W:=st9.aW3 hR9 Rg.keep;have rl:=stJ.rl;clear st9 stc st4 hlie;go_wp2_with fail;refine(HD.out A cap W hR9).mono ?_;rintro e w7 ⟨⟨P,hP,rfl⟩,hb7⟩;have hK7:=(hb7.block D (aC hK)).trans hK;have st7:=(stJ.to hb7).aW3 (F:=λ_=>True) trivial (λ_ _ _ _=>trivial);have rl:=st7.rl;clear stJ hb7 HD;go_wp2_with fail;have st8:=(St.sx st7 2 (A:=w.heap.size+1+1) rfl (o:=0) (v:=.int .i64 b) (by omega)).sx 2 (A:=w.heap.size+1+1) rfl (o:=1) (v:=.string P) (by omega);have hne:D≠w.heap.size+1+1:=by omega
  have hK':((w7.setCell ⟨w.heap.size+1+1,0,none⟩ (.int .i64 b)).setCell ⟨w.heap.size+1+1,1,none⟩ (.string P)).heap[D]? =some (.deferred (some [])):=(Below.heap_setCell _ ⟨w.heap.size+1+1,1,none⟩ _ D hne).trans ((Below.heap_setCell _ ⟨w.heap.size+1+1,0,none⟩ _ D hne).trans hK7);generalize(w7.setCell ⟨w.heap.size+1+1,0,none⟩ (.int .i64 b)).setCell ⟨w.heap.size+1+1,1,none⟩ (.string P)=W' at*;refine⟨by simp,.inl ⟨_,_,rfl,run_takeDeferred hK',?_⟩⟩;have hc:∀o,(W'.putObj D (.deferred none)).cell? ⟨w.heap.size+1+1,o,none⟩=(#[.int .i64 b,.string P]:Array Value)[o]? :=λo=>aE ((World.putObj_heap_other (by omega)).trans (st8.blk _ (bK (i:=2) rfl))) o;exact⟨.tuple #[.agg #[.int .i64 b,.string P],.int .i64 0],by simp[results,results295,go_sem,hc],P,hP,rfl,st8.below.grown (grownBy_putObj' W' D _) st8.below.size (λk e=>by cases e;omega)⟩
 case stop=>
  rintro D c pre W hD hp h hK;exact h.elim
end
theorem mQ {b n t:Nat}(h1:jA b n (t+1))(h2:jA (b+1) (2*n) t)(R:ByteArray)(hR:pM (2*n) t R)(w:World):
  Calls prog 294 #[.agg #[.int .i64 ((b+1:Nat):Int),.string R]] w (fY b n (t+1) w):=by
 have HR:=aA (λW=>gP h2 R hR W);have HB:=aA (λW=>sY h1 W);have h8:=h1.bounds;have ht:t+1<=255:=by omega
 have HT:=aA (λA bl hA hne i r hi hr W st=>oL (b:=b) (n:=n) (t:=t+1) h8.2.2.2.1 ht ⟨#[]⟩ A n i r hi hr (w0:=w) (bl:=bl) hA W st hne);have HD:=aA (λA W hR=>kY (b:=b) (n:=n) (t:=t+1) ht ⟨#[]⟩ A n W hR);have hw2:wrap64 (2^b)=(n:Int):=by
  rcases h1 with⟨rfl,rfl,_⟩|⟨rfl,rfl,_⟩|⟨rfl,rfl,_⟩|⟨rfl,rfl,_⟩|⟨rfl,rfl,_⟩|⟨rfl,rfl,_⟩<;>simp[wrap64]
 have hsz:R.size=2*n:=hR.1;have HSZ:=aA hsz;have HIX:Hid (∀(k:Nat) (h:k<R.size),R[k].toNat=rkR R k/\rkR R k<=t):=by
  show∀(k:Nat) (h:k<R.size),_;intro k h;refine⟨?_,hR.le (by omega)⟩;rw[rkR,Array.getD_eq_getD_getElem?,Array.getElem?_eq_getElem (show k<R.data.size from h)];rfl
 have hb1:((b+1:Nat):Int)-1=(b:Int):=by omega
 have hb8:b<=8:=h8.2.1;have hn256:n<=256:=h8.2.2.2.1;clear h1 h2 h8 hR hsz;have st0:=((St.start w).alloc (cs:= #[.int .i64 ((b+1:Nat):Int),.string R]) (T:=96)).alloc (cs:= #[.int .i64 0,.string ⟨#[]⟩]) (T:=96);simp only[World.size_alloc] at st0;obtain⟨c,hc⟩:∃c,b+1=c:=⟨_,rfl⟩;rw[hc] at HR hb1 st0⊢;have hc9:(c:Int)<=9:=by omega
 have hc3:1<=(c:Int):=by omega
 go_enter func294,ntmps294;go_wp2_with fail;refine(HR.out _).mono ?_;rintro e w1 ⟨rfl,hb1'⟩;have st1:=st0.to hb1';have rl:=st1.rl;clear st0 hb1' HR;go_wp2_with fail;refine(HB.out _).mono ?_;rintro e w2 ⟨A,rfl,hA,hR1,hb2⟩;have hA1:w.heap.size+1<A:=by have:=aC (st1.blk (w.heap.size+1,#[.int .i64 0,.string ⟨#[]⟩],96) (by simp));omega
 have hAl:=hR1.1;have st2:=((st1.to hb2).aW3 hR1 Rg.keep).alloc (cs:= #[.int .i64 b,.string ⟨#[]⟩,.slice (some ⟨A,0,none⟩) n n,bN]) (T:=437);clear st1 hb2 hR1 HB hA rl;have rl:=st2.rs;go_wp2_with fail;have hw12:w.heap.size+1<w2.heap.size:=by omega
 have hne:∀x∈([(w2.heap.size,#[.int .i64 b,.string ⟨#[]⟩,.slice (some ⟨A,0,none⟩) n n,bN],437),(w.heap.size+1,#[.int .i64 0,.string ⟨#[]⟩],96),(w.heap.size,#[.int .i64 c,.string R],96)]:List cH),x.1≠A:=by
  intro x hx;simp at hx;rcases hx with rfl|rfl|rfl
  .show w2.heap.size≠A;omega
  .show w.heap.size+1≠A;omega
  .show w.heap.size≠A;omega
 have HTx:=aA (λi r hi hr W st=>HT.out A _ (by omega) hne i r hi hr W st);clear HT hne rl;rw[hw2];clear hw2
 go_loopw [28] (λi wr=>∃k:Nat,k<=n/\i=.int .i64 k/\St w [(w2.heap.size,#[.int .i64 b,.string ⟨#[]⟩,.slice (some ⟨A,0,none⟩) n n,bN],437),(w.heap.size+1,#[.int .i64 0,.string ⟨#[]⟩],96),(w.heap.size,#[.int .i64 c,.string R],96)] (Rg A n (t+1)) wr) (λi _=>n-(intOf i).toNat)
 case atStart=>exact⟨0,cJ _,rfl,st2⟩
 case round=>
  clear st2;obtain⟨k,hk,rfl,st⟩:=hrel;have rl:=st.rl
  by_cases hlt:k<n
  .obtain⟨j,hj⟩:∃j,2*k=j:=⟨_,rfl⟩;have hjz:2*(k:Int)=(j:Int):=by omega
   have hz1:j<R.size:=by rw[HSZ.out];omega
   have hz2:j+1<R.size:=by rw[HSZ.out];omega
   obtain⟨hi1,hl1⟩:=HIX.out j hz1;obtain⟨hi2,hl2⟩:=HIX.out (j+1) hz2;have hj512:j<=512:=by omega
   have hkn:(k:Int)<(n:Int):=by omega
   have HN1:=aA (HTx.out k (rkR R j+1) hlt (by omega));have HN2:=aA (HTx.out k 1 hlt (by omega));have ht8:t<=254:=by omega
   have hp1:IntKind.u8.wrap ((rkR R j:Nat)+1:Int)=((rkR R j+1:Nat):Int):=by simp[IntKind.wrap,IntKind.bits,IntKind.signed];omega
   generalize rkR R j=r0 at*;generalize rkR R (j+1)=r1 at*;clear hj HTx
   by_cases h0:r0=0
   .subst h0
    by_cases h1:r1=0
    .subst h1;go_wp2_with fail;go_roundw
     case rel=>exact⟨k+1,hlt,by go_num,st⟩
     case measure=>simp[intOf];omega
    .have h1':¬(r1:Int)=0:=by omega
     go_wp2_with fail;refine(HN2.out _ st).mono ?_;rintro e w5 ⟨rfl,-,st5⟩;clear rl;have rl:=st5.rl;go_wp2_with fail;go_roundw
     case rel=>exact⟨k+1,hlt,by go_num,st5⟩
     case measure=>simp[intOf];omega
   .have h0':¬(r0:Int)=0:=by omega
    by_cases h1:r1=0
    .subst h1;go_wp2_with fail;refine(HN1.out _ st).mono ?_;rintro e w5 ⟨rfl,-,st5⟩;clear rl;have rl:=st5.rl;go_wp2_with fail;go_roundw
     case rel=>exact⟨k+1,hlt,by go_num,st5⟩
     case measure=>simp[intOf];omega
    .have h1':¬(r1:Int)=0:=by omega
     go_wp2_with fail;refine(HN1.out _ st).mono ?_;rintro e w5 ⟨rfl,-,st5⟩;clear rl;have rl:=st5.rl;go_wp2_with fail;refine(HN2.out _ st5).mono ?_;rintro e w6 ⟨rfl,-,st6⟩;clear rl;have rl:=st6.rl;go_wp2_with fail;go_roundw
     case rel=>exact⟨k+1,hlt,by go_num,st6⟩
     case measure=>simp[intOf];omega
  .obtain rfl:k=n:=by omega
   go_wp2_with fail;refine(HD.out A wr st.ex).mono ?_;rintro e w7 ⟨⟨P,hP,rfl⟩,hb7⟩;have st7:=(st.to hb7).aW3 (F:=λ_=>True) trivial (λ_ _ _ _=>trivial);have rl:=st7.rl;clear st hb7 HD;go_wp2_with fail;have st8:=(St.aW5 st7 1 (A:=w.heap.size+1) rfl (o:=0) (v:=.int .i64 b) (by omega)).aW5 1 (A:=w.heap.size+1) rfl (o:=1) (v:=.string P) (by omega);exact bodyPost_ret (v:=.tuple #[.agg #[.int .i64 b,.string P],.int .i64 0]) (by simp[results,results294,go_sem,rl]) rfl ⟨P,hP,rfl,st8.below⟩
end Go.Proofs.YtmgdbfmlnmahpaaGreatDoor
