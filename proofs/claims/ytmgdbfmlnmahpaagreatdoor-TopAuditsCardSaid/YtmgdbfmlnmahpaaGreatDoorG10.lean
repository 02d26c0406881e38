/- Part of TopAudits. -/
import Derived.Test.YtmgdbfmlnmahpaaGreatDoorG07
import Derived.Test.YtmgdbfmlnmahpaaGreatDoorG09
namespace Go.Proofs.YtmgdbfmlnmahpaaGreatDoor
set_option linter.unusedSimpArgs false
set_option linter.unusedVariables false
set_option maxRecDepth 100000
set_option maxHeartbeats 4000000
open Go.Proofs.Tryz
open Go.RowKit Go.Shelf
section
variable {cn cw:Nat}
theorem wG :∀n:Nat,((List.replicate n 0).flatMap cM)=List.replicate n (Value.int .u64 0)
 |0=>rfl
 |n+1=>by rw[List.replicate_succ,List.replicate_succ,List.flatMap_cons,wG n];rfl
abbrev nM (cw:Nat)(s:Option Addr)(n cap:Nat):Value:=.agg #[.int .i64 2,.int .i64 cw,.slice s n cap]
theorem uR (hIs:iF cw cn)(w:World):Calls prog 127 #[.int .i64 2,.int .i64 cw] w λe w'=>e=.returned (.bool true)/\w'=w:=by
 obtain⟨_,rfl|rfl|rfl|rfl⟩:=hIs
 all_goals
  go_enter func127,ntmps127;go_wp2_with fail;go_ret;exact⟨rfl,rfl⟩
@[go_sem] theorem aUq (w:World):(Instr.typeAssert .nilIface 137 255 true).run prog w=.ok (.tuple #[.agg #[.string ⟨#[]⟩],.bool false]) w:=by kernel_rfl
theorem yJ (w:World):Calls prog 82 #[.nilIface] w λe w'=>e=.returned (.int .i64 0)/\Below w.heap.size w w':=by
 go_enter func82,ntmps82;go_wp2_with fail;go_ret;exact⟨rfl,aW.alloc aH _⟩
theorem iX (hIs:iF cw cn)(s:Option Addr)(cap:Nat)(w:World):
  Calls prog 176 #[nM cw s cn cap] w λe w'=>e=.returned (.bool true)/\Below w.heap.size w w':=by
 have st:=(St.start w).alloc (cs:= #[.int .i64 2,.int .i64 cw,.slice s cn cap]) (T:=98);have HS:=aA (λW=>uR hIs W);obtain⟨rfl,hc⟩:=hIs;have h4:4<=cw/\cw<=32:=by omega
 obtain⟨h4,h5⟩:=h4;have hb:(((2*cw:Nat):Int)==2*(cw:Int))=true:=beq_iff_eq.2 (by simp);clear hc;go_enter func176,ntmps176;go_wp2_with fail;refine(HS.out _).mono ?_;rintro e w1 ⟨rfl,rfl⟩;go_wp2_with fail;go_ret;exact⟨rfl,st.below⟩
theorem lY (A:Nat)(a b:Nat)(ha:a<=aJ)(hb:b<=aJ)(w:World)(hA:w.heap[A]? =some (.cells #[.int .u64 a,.int .u64 b] 22 (0,0))):
  Calls prog 310 #[.slice (some ⟨A,0,none⟩) 2 2] w λe w'=>e=.returned (.int .u64 (jF a b:Nat))/\w'=w:=by
 have c0:=aE hA 0;have c1:=aE hA 1;have hm:aJ=18446744073709551615:=rfl;have ha':(a:Int)<=18446744073709551615:=by have:=ha;rw[hm] at this;omega
 have hb':(b:Int)<=18446744073709551615:=by have:=hb;rw[hm] at this;omega
 by_cases hs:18446744073709551615<a+b
 .have HSAT:Hid (((jF a b:Nat):Int)=18446744073709551615):=by
   show _=_;unfold jF;rw[hm];omega
  clear hm ha hb;go_enter func310,ntmps310;go_wp2_with fail
  go_loop [3,8] (λsm i=>(i=.int .i64 0/\sm=.int .u64 0)\/(i=.int .i64 1/\sm=.int .u64 a)) (λ_ i=>2-(intOf i).toNat)
  case atStart=>exact .inl ⟨rfl,rfl⟩
  case round=>
   rcases hrel with⟨rfl,rfl⟩|⟨rfl,rfl⟩
   .go_wp2_with fail
    go_round
    case rel=>exact .inr ⟨rfl,by first|rfl|simp⟩
    case measure=>simp[intOf]
   .have hd:18446744073709551615-(a:Int)<(b:Int):=by omega
    go_wp2_with fail;go_ret;exact⟨by rw[HSAT.out];rfl,rfl⟩
 .have HSAT:Hid (((jF a b:Nat):Int)=(a:Int)+(b:Int)):=by
   show _=_;unfold jF;rw[hm];omega
  clear hm ha hb;go_enter func310,ntmps310;go_wp2_with fail
  go_loop [3,8] (λsm i=>(i=.int .i64 0/\sm=.int .u64 0)\/(i=.int .i64 1/\sm=.int .u64 a)\/(i=.int .i64 2/\sm=.int .u64 ((a:Int)+(b:Int)))) (λ_ i=>2-(intOf i).toNat)
  case atStart=>exact .inl ⟨rfl,rfl⟩
  case round=>
   rcases hrel with⟨rfl,rfl⟩|⟨rfl,rfl⟩|⟨rfl,rfl⟩
   .go_wp2_with fail
    go_round
    case rel=>exact .inr (.inl ⟨rfl,by first|rfl|simp⟩)
    case measure=>simp[intOf]
   .have hd:¬(18446744073709551615-(a:Int)<(b:Int)):=by omega
    have hs2:(a:Int)+(b:Int)<=18446744073709551615:=by omega
    go_wp2_with fail
    go_round
    case rel=>exact .inr (.inr ⟨rfl,by first|rfl|simp⟩)
    case measure=>simp[intOf]
   .go_wp2_with fail;go_ret;exact⟨by rw[HSAT.out];rfl,rfl⟩
theorem aOl (p:Int)(old n Bn:Nat)(ho:old<=aJ)(hn:n<=aJ)(w:World)(hB:w.cell? ⟨Bn,0,none⟩=some (.int .u64 n)):
  Calls prog 309 (#[.int .i64 p,.int .u64 old]++ #[pv Bn 0]) w λe w'=>e=.returned (.int .u64 (jF old n:Nat))/\Below w.heap.size w w':=by
 show Calls prog 309 #[.int .i64 p,.int .u64 old,pv Bn 0] w _;have HT:=aA (lY w.heap.size old n ho hn (w.alloc (.cells #[.int .u64 old,.int .u64 n] 22)) (kH _ _));have hb:=(Below.refl w.heap.size w).alloc aH (.cells #[.int .u64 old,.int .u64 n] 22);generalize jF old n=r at*;clear ho hn;go_enter func309,ntmps309;go_wp2_with fail;refine HT.out.mono ?_;rintro e w1 ⟨rfl,rfl⟩;go_wp2_with fail;go_ret;exact⟨rfl,hb⟩
theorem aGk (hIs:iF cw cn)(p:Nat)(old By:Nat)(L:List Nat)(s:Option Addr)(cap:Nat)(hl:L.length=cn)(hcap:L.length<=cap)(hp:p<cn)(ho:old<=aJ)(hL:dK L)(w:World)(hN:dH w s L)(hB:w.heap[By]? =some (.cells #[.int .i64 2,.int .i64 cw,.slice s L.length cap] 98 (0,0))):
  Calls prog 313 (#[.int .i64 p,.int .u64 old]++ #[pv By 0]) w λe w'=>e=.returned (.int .u64 (jF old (L.getD p 0):Nat))/\Below w.heap.size w w':=by
 show Calls prog 313 #[.int .i64 p,.int .u64 old,pv By 0] w _;obtain⟨x,hx⟩:∃x,L[p]? =some x:=⟨_,cZ (by omega)⟩;obtain⟨g,o,rfl,hg,hc⟩:=hN.at hx;have hxm:=hL x (bK hx);have e0:L.getD p 0=x:=by simp[List.getD,hx]
 rw[e0];have HT:=aA (lY w.heap.size old x ho hxm (w.alloc (.cells #[.int .u64 old,.int .u64 x] 22)) (kH _ _));have hb:=(Below.refl w.heap.size w).alloc aH (.cells #[.int .u64 old,.int .u64 x] 22);have hc2:=aE hB 2;have hpl:p<L.length:=by omega
 clear hl e0 hx ho hxm hB;generalize jF old x=r at*;go_enter func313,ntmps313;go_wp2_with fail;refine HT.out.mono ?_;rintro e w1 ⟨rfl,rfl⟩;go_wp2_with fail;go_ret;exact⟨rfl,hb⟩
theorem aL6 (cw:Nat)(hc0:4<=cw)(hc1:cw<=32)(r h:Nat)(hr:r<2)(hh:h<=aJ):wrap64 ((IntKind.u64.wrap ((h:Int)/4294967296+IntKind.u64.wrap ((r:Int)*((h:Int)%4294967296)))).tmod (cw:Int))=((aH1 cw r h:Nat):Int):=by
 have hh':h<=18446744073709551615:=hh;have e1:IntKind.u64.wrap ((r:Int)*((h:Int)%4294967296))=((r*(h%4294967296):Nat):Int):=by
  have hc:r=0\/r=1:=by omega
  rcases hc with rfl|rfl<;>simp[IntKind.wrap,IntKind.bits,IntKind.signed]<;>omega
 rw[e1];have hle:r*(h%4294967296)<=4294967295:=by
  have hc:r=0\/r=1:=by omega
  rcases hc with rfl|rfl<;>omega
 unfold aH1;generalize r*(h%4294967296)=m at*;have e2:IntKind.u64.wrap ((h:Int)/4294967296+(m:Int))=((h/4294967296+m:Nat):Int):=by
  simp[IntKind.wrap,IntKind.bits,IntKind.signed];omega
 rw[e2];generalize h/4294967296+m=q;have e3:((q:Int)).tmod (cw:Int)=((q%cw:Nat):Int):=by
  rw[Int.tmod_eq_emod_of_nonneg (by omega)];simp
 rw[e3];have:q%cw<cw:=Nat.mod_lt _ (by omega);generalize q%cw=s at*;simp[wrap64];omega
theorem aQl (hIs:iF cw cn)(r h:Nat)(hr:r<2)(hh:h<=aJ)(v:Value)(w:World):
  Calls prog 255 #[.agg #[.int .i64 2,.int .i64 cw,v],.int .i64 r,.int .u64 h] w λe w'=>e=.returned (.int .i64 (aH1 cw r h:Nat))/\Below w.heap.size w w':=by
 have st:=(St.start w).alloc (cs:= #[.int .i64 2,.int .i64 cw,v]) (T:=186);have HH:=aA hh;have h4:4<=cw:=by have:=hIs.2;omega
 have h5:cw<=32:=by have:=hIs.2;omega
 have hcu:IntKind.u64.wrap (cw:Int)=(cw:Int):=by simp[IntKind.wrap,IntKind.bits,IntKind.signed];omega
 have hcz:¬(cw:Int)=0:=by omega
 clear hh hIs;go_enter func255,ntmps255;go_wp2_with fail;go_ret;exact⟨congrArg (λz:Int=>Ending.returned (.int .i64 z)) (aL6 cw h4 h5 r h hr HH.out),st.below⟩
theorem aFg (s:Option Addr)(n cap:Nat)(h:Int)(w:World):
  Calls prog 308 #[nM cw s n cap,.int .u64 h] w λe w'=>e=.returned (.func (.func 314) #[] #[pv w.heap.size 0,pv (w.heap.size+1) 0])/\w'=(w.alloc (.cells #[.int .i64 2,.int .i64 cw,.slice s n cap] 186)).alloc (.cells #[.int .u64 h] 22):=by
 go_enter func308,ntmps308;go_wp2_with fail;go_ret;exact⟨rfl,rfl⟩
theorem aDy (s:Option Addr)(n cap:Nat)(w:World):
  Calls prog 311 #[nM cw s n cap] w λe w'=>e=.returned (.func (.func 315) #[] #[pv w.heap.size 0])/\w'=w.alloc (.cells #[.int .i64 2,.int .i64 cw,.slice s n cap] 186):=by
 go_enter func311,ntmps311;go_wp2_with fail;go_ret;exact⟨rfl,rfl⟩
theorem tX (hIs:iF cw cn)(w:World):
  Calls prog 81 #[.int .i64 2,.int .i64 cw] w λe w'=>∃A,e=.returned (.tuple #[nM cw (some ⟨A,0,none⟩) cn cn,.nilIface])/\w.heap.size<=A/\w'.heap[A]? =some (.cells ((fZ cn).flatMap cM).toArray 22 (0,0))/\Below w.heap.size w w':=by
 have st:=(St.start w).alloc (cs:= #[.int .i64 0,.int .i64 0,.slice none 0 0]) (T:=186);have HS:=aA (λW=>uR hIs W);have hcn:cn=2*cw:=hIs.1;have h4:4<=cw:=by have:=hIs.2;omega
 have h5:cw<=32:=by have:=hIs.2;omega
 have HN:Hid (Value.int .i64 (2*(cw:Int))=.int .i64 cn):=by show _=_;rw[hcn];simp
 have HZ:Hid ((List.replicate cn (Value.int .u64 0)).toArray=((fZ cn).flatMap cM).toArray):=by show _=_;unfold fZ;rw[wG]
 have hn64:cn<=64:=by omega
 clear hIs hcn;go_enter func81,ntmps81;go_wp2_with fail;refine(HS.out _).mono ?_;rintro e w1 ⟨rfl,rfl⟩;go_wp2_with(at_make;refine aI8 (z:=.int .u64 0) (bytes:=8) underlying41 (by kernel_rfl) rfl rfl (.tmp 17) (.tmp 17) rfl cn HN.out HN.out st (by omega) (by decide) ?_;intro w2 st2 hb2;simp only[World.size_alloc] at st2;have rl:=st2.rules;simp only[aI] at rl);rw[HZ.out] at st2;have st3:=(((st2.sx 1 rfl (o:=0) (v:=.int .i64 2) aH).sx 1 rfl (o:=1) (v:=.int .i64 cw) aH).sx 1 rfl (o:=2) (v:=.slice (some ⟨w.heap.size+1,0,none⟩) cn cn) aH);exact bodyPost_ret (v:=.tuple #[nM cw (some ⟨w.heap.size+1,0,none⟩) cn cn,.nilIface]) (by simp[results,results81,go_sem,rl]) rfl ⟨_,rfl,Nat.le_succ _,st3.blk _ (bK (i:=0) rfl),st3.below⟩
def aS9 (cw cn:Nat)(w:World)(L:List Nat)(e:Ending)(w':World):Prop:=
 ∃A,e=.returned (.tuple #[nM cw (some ⟨A,0,none⟩) cn cn,.nilIface])/\w.heap.size<=A/\w'.heap[A]? =some (.cells (L.flatMap cM).toArray 22 (0,0))/\Below w.heap.size w w'
def aI1 (cw cn:Nat)(w:World)(L:List Nat)(e:Ending)(w':World):Prop:=
 ∃A,e=.returned (.tuple #[nM cw (some ⟨A,0,none⟩) cn cn,.int .i64 0])/\w.heap.size<=A/\w'.heap[A]? =some (.cells (L.flatMap cM).toArray 22 (0,0))/\Below w.heap.size w w'
theorem uI (hIs:iF cw cn)(L:List Nat)(hl:L.length=cn)(s:Option Addr)(cap:Nat)(w:World)(hL:dH w s L):
  Calls prog 306 #[nM cw s cn cap] w (aS9 cw cn w L):=by
 have st0:=((St.start w).alloc (cs:= #[.int .i64 2,.int .i64 cw,.slice s cn cap]) (T:=98)).alloc (cs:= #[.int .i64 0,.int .i64 0,.slice none 0 0]) (T:=186);simp only[World.size_alloc] at st0;have HL:=aA hl;clear hl;go_enter func306,ntmps306;go_wp2_with fail;refine(iX hIs s cap _).mono ?_;rintro e w1 ⟨rfl,hb1⟩;have st1:=st0.to hb1;have rl:=st1.rl;clear st0 hb1;go_wp2_with fail;refine(tX hIs _).mono ?_;rintro e w2 ⟨A,rfl,hA,hN,hb2⟩;have st2:=((st1.aW8 (st1.to hb2) hA hN).alloc (cs:= #[.int .i64 2,.int .i64 cw,.slice (some ⟨A,0,none⟩) cn cn]) (T:=186));have hwA:w.heap.size<=A:=by have:=st1.below.size;omega
 have hL2:=hL.aWu aH st2.below;have rl:=st2.rs;clear st1 hb2 hA hN;go_wp2_with(refine aPk (bl1:=[(w2.heap.size,#[.int .i64 2,.int .i64 cw,.slice (some ⟨A,0,none⟩) cn cn],186)]) (bl2:=[(w.heap.size+1,#[.int .i64 0,.int .i64 0,.slice none 0 0],186),(w.heap.size,#[.int .i64 2,.int .i64 cw,.slice s cn cap],98)]) oK aY fF rfl (.tmp 22) (.tmp 24) rfl A _ L cn HL.out.symm (by rw[List.size_toArray,eD aY,Nat.mul_one,iE]) rfl s cap rfl st2 hwA hL2 ?_;intro w4 st4 hk4 hz4;have rl4:=st4.rules;simp only[List.cons_append,List.nil_append,aI] at rl4);have st5:=(((st4.aW5 2 rfl (o:=0) (v:=.int .i64 2) (Nat.le_add_right _ _)).aW5 2 rfl (o:=1) (v:=.int .i64 cw) (Nat.le_add_right _ _)).aW5 2 rfl (o:=2) (v:=.slice (some ⟨A,0,none⟩) cn cn) (Nat.le_add_right _ _));simp only[jP,List.cons_append,List.nil_append,List.modify_succ_cons,List.modify_zero_cons,List.setIfInBounds_toArray,List.set_cons_zero,List.set_cons_succ] at st5;exact bodyPost_ret (v:=.tuple #[nM cw (some ⟨A,0,none⟩) cn cn,.nilIface]) (by simp[results,results306,go_sem,rl4]) rfl ⟨A,rfl,hwA,st5.blk _ (bK (i:=1) rfl),st5.below⟩
theorem aLs (hIs:iF cw cn)(w:World):Calls prog 51 #[.int .i64 2,.int .i64 cw] w (aI1 cw cn w (fZ cn)):=by
 have st0:=(St.start w).alloc (cs:= #[.int .i64 0,.int .i64 0,.slice none 0 0]) (T:=98);go_enter func51,ntmps51;go_wp2_with fail;refine(tX hIs _).mono ?_;rintro e w2 ⟨A,rfl,hA,hN,hb2⟩;have hwA:w.heap.size<=A:=by simp at hA;omega
 have st2:=((st0.aW8 (st0.to hb2) hA hN).alloc (cs:= #[.int .i64 2,.int .i64 cw,.slice (some ⟨A,0,none⟩) cn cn]) (T:=186));clear st0 hb2 hA hN;go_wp2_with fail;obtain⟨bl5,E5,hne5,sh5,rl,hEx,hbx,hst⟩:=st2.aW1;refine bP sh5 4 (by kernel_rfl) (by kernel_rfl) ?_;simp only[List.take_succ_cons,List.take_zero,List.drop_succ_cons,List.drop_zero];simp only[aI] at rl
 repeat(first|go_big_quiet_step ((go_at_call 82;exact Cs.call (yJ _)))|quiet_step ((go_at_call 82;exact Cs.call (yJ _))))
 refine wpQuiet_nil ?_;intro y;have st6:=(hst y).out;clear hbx rl hst sh5 hEx st2;generalize y.W=w6 at*;have rl:=st6.rl;go_wp2_with fail;have st7:=(((st6.sx 2 rfl (o:=0) (v:=.int .i64 2) aH).sx 2 rfl (o:=1) (v:=.int .i64 cw) aH).sx 2 rfl (o:=2) (v:=.slice (some ⟨A,0,none⟩) cn cn) aH);exact bodyPost_ret (v:=.tuple #[nM cw (some ⟨A,0,none⟩) cn cn,.int .i64 0]) (by simp[results,results51,go_sem,rl]) rfl ⟨A,rfl,hwA,st7.blk _ (bK (i:=1) rfl),st7.below⟩
end
section
def KpB (bl:List cH)(A B:World):Prop:=∀x∈bl,B.heap[x.1]? =A.heap[x.1]?
def uE (g:Nat->Nat->Nat)(L:List Nat)(Ps:List Nat):List Nat:=Ps.foldl (λl p=>l.set p (g p (l.getD p 0))) L
theorem aN8 (g:Nat->Nat->Nat)(L Ps:List Nat)(p:Nat):uE g L (Ps++[p])=(uE g L Ps).set p (g p ((uE g L Ps).getD p 0)):=by simp[uE]
theorem nA (g:Nat->Nat->Nat):∀(Ps L:List Nat),(uE g L Ps).length=L.length:=by
 intro Ps
 induction Ps with
 |nil=>intro L;rfl
 |cons p Ps ih=>intro L;have:=ih (L.set p (g p (L.getD p 0)));simpa[uE] using this
theorem pK (g:Nat->Nat->Nat)(hg:∀p n,n<=aJ->g p n<=aJ):∀(Ps L:List Nat),dK L->dK (uE g L Ps):=by
 intro Ps
 induction Ps with
 |nil=>intro L h;exact h
 |cons p Ps ih=>
  intro L h;refine ih _ ?_;intro x hx;rcases List.mem_or_eq_of_mem_set hx with h'|h'
  .exact h x h'
  .rw[h'];exact hg _ _ (aIh h _)
theorem aNc (L:List Nat)(p n:Nat):(((L.set p n).flatMap cM).toArray)=((L.flatMap cM).toArray).setIfInBounds p (.int .u64 n):=by
 have e:∀M:List Nat,M.flatMap cM=M.map λn:Nat=>Value.int .u64 n:=by
  intro M
  induction M with
  |nil=>rfl
  |cons x M ih=>simp[cM,ih]
 rw[e,e,List.map_set];simp
def aIv (cw cn:Nat)(w0:World)(b:Nat)(fv:Value)(A:Nat)(g:Nat->Nat->Nat)(L:List Nat)(bl:List cH)(pre:List Nat)(W:World):Prop:=
 St w0 ((b+1,#[fv],470)::(b,#[.int .i64 2,.int .i64 cw,.slice (some ⟨A,0,none⟩) cn cn],186)::(A,((uE g L pre).flatMap cM).toArray,22)::bl) (λ_=>True) W
theorem aIv.own (cw cn:Nat)(w0:World)(b:Nat)(fv:Value)(A:Nat)(g:Nat->Nat->Nat)(L:List Nat)(bl:List cH)(n:Nat)(hn:w0.heap.size<=n):OwnFrom n (aIv cw cn w0 b fv A g L bl):=λ_ _ _ _ h hg hr=>St.own h hg hr hn
theorem aIv.aXl (cw cn:Nat)(w0:World)(b:Nat)(fv:Value)(A:Nat)(g:Nat->Nat->Nat)(L:List Nat)(bl:List cH):jJ none (aIv cw cn w0 b fv A g L bl):=λ_ _ _ h hg=>St.grown h hg (λk e=>by cases e)
attribute [local go_sem] Oper.semAt_some
theorem qN {cw cn:Nat}{w0 w:World}{bl:List cH}(A:Nat)(L:List Nat)(hl:L.length=cn)(hs:dK L)(st:St w0 ((A,(L.flatMap cM).toArray,22)::bl) (λ_=>True) w)(hA:w0.heap.size<=A)
  (it:Nat) (lb:Array Value) (Ps:List Nat) (egi:∀args w,(callFunc it args).run prog w=.ok (.enter it args) w)
  (hseq:∀W,St w0 ((A,(L.flatMap cM).toArray,22)::bl) (λ_=>True) W->aBd Fence.wide 4 prog it lb (λp:Nat=> #[Value.int .i64 p]) (λp _=>p<cn) (KpB bl) (λxs=>xs=Ps) (λpre=>pre<+:Ps) Ps.length none W)
  (tf:Nat) (cb:Array Value) (g:Nat->Nat->Nat) (hg:∀p n,n<=aJ->g p n<=aJ) (eg:∀args w,(callFunc tf args).run prog w=.ok (.enter tf args) w)
  (hto:∀W,Below w0.heap.size w0 W->(∀x∈bl,W.heap[x.1]? =some (.cells x.2.1 x.2.2 (0,0)))->∀p old:Nat,p<cn->old<=aJ->Calls prog tf (#[.int .i64 p,.int .u64 old]++cb) W λe W'=>e=.returned (.int .u64 (g p old:Nat))/\Below W.heap.size W W'):
  Calls prog 307 #[nM cw (some ⟨A,0,none⟩) cn cn,.func (.func it) #[] lb,.func (.func tf) #[] cb] w λe w'=>e=.returned (.tuple #[])/\St w0 ((A,((uE g L Ps).flatMap cM).toArray,22)::bl) (λ_=>True) w':=by
 have HL:=aA hl;have HSQ:=aA hseq;have HTO:=aA hto;clear hl hseq hto;have st1:=(st.alloc (cs:= #[.int .i64 2,.int .i64 cw,.slice (some ⟨A,0,none⟩) cn cn]) (T:=186)).alloc (cs:= #[.func (.func tf) #[] cb]) (T:=470);simp only[World.size_alloc] at st1;refine(callsIn_wide (n:=5)).1 ?_;refine callsIn_of_wp_marks func307 rfl trivial ?_ rfl;simp only[ntmps307,List.size_toArray,List.length_cons,List.length_nil,Nat.reduceAdd,Nat.reduceSub,Array.replicate_succ,Array.replicate_zero,List.push_toArray,List.append_toArray,List.nil_append,List.cons_append];refine wpIn_wide.2 ?_;go_wp2_with fail;have hz:((w.alloc (.cells #[.int .i64 2,.int .i64 cw,.slice (some ⟨A,0,none⟩) cn cn] 186)).alloc (.cells #[.func (.func tf) #[] cb] 470)).heap.size=w.heap.size+2:=by simp
 generalize(w.alloc (.cells #[.int .i64 2,.int .i64 cw,.slice (some ⟨A,0,none⟩) cn cn] 186)).alloc (.cells #[.func (.func tf) #[] cb] 470)=w3 at*;have hz0:=st.below.size;refine(wpIn_wide (n:=5)).1 (bU (n:=5) (b:=none) (λ_ e=>by cases e) rfl (by omega) (gf:=it) (lb:=lb) rfl trivial egi
  (λW hb=>HSQ.out W ((st1.less _ (List.Sublist.cons _ (List.sublist_cons_self _ _))).to hb)) (λh k=>λx hx=>(k x hx).trans (h x hx)) ?kb (λ_=>rfl)
  (aIv cw cn w0 w.heap.size (.func (.func tf) #[] cb) A g L bl) (λ_ _ _=>False) (aIv.own _ _ _ _ _ _ _ _ _ _ (by rw[hz];omega)) (λ_ _ _ _ _ h _ _=>h) (aIv.aXl _ _ _ _ _ _ _ _ _) (λ_ _ _ _ h _=>h) st1
  (λx _=>{tmps:= #[nM cw (some ⟨A,0,none⟩) cn cn,.func (.func it) #[] lb,.func (.func tf) #[] cb,pv w.heap.size 0,undef,pv (w.heap.size+1) 0,.int .i64 x,.func (.func it) #[] lb,.int .i64 x,undef,undef,undef,undef,undef,undef,undef,undef,undef,undef,undef,undef,undef,undef],defers:=[]})
  (λx _ _=>x<cn) (λ_ _ _ _ _ _ h _ _=>h) ?assign ?body ?done ?stop)
 case kb=>
  intro W l o' hl' hlt x hx;have:=aC (st1.blk x (by simp[hx]));exact World.putObj_heap_other (by omega)
 case assign=>
  intro l pre x W K hI hP hK;have HK:=aA (hK 0 W (KeepsOthers.refl _) (λ_ _=>rfl) hI hP);clear hK;gi_wp2_with fail;exact HK.out
 case body=>
  rintro l pre x c W stI hP hN;have hlen:(uE g L pre).length=cn:=by rw[nA];exact HL.out
  obtain⟨old,hold⟩:∃old,(uE g L pre)[x]? =some old:=⟨_,cZ (by omega)⟩;have hsm:=pK g hg pre L hs;have hom:=hsm old (bK hold);have hget:(uE g L pre).getD x 0=old:=by simp[List.getD,hold]
  have HS:Hid (((uE g L (pre++[x])).flatMap cM).toArray=(((uE g L pre).flatMap cM).toArray).setIfInBounds x (.int .u64 (g x old:Nat))):=by
   show _=_;rw[aN8,hget,aNc]
  have hcell:((uE g L pre).flatMap cM).toArray[x]? =some (.int .u64 old):=by
   rw[List.getElem?_toArray];have:=nB aY (uE g L pre) x old hold 0 (.int .u64 old) rfl
   simpa using this
  have HC:=aA hcell;have stW:St w0 ((w.heap.size+1,#[.func (.func tf) #[] cb],470)::(w.heap.size,#[.int .i64 2,.int .i64 cw,.slice (some ⟨A,0,none⟩) cn cn],186)::(A,((uE g L pre).flatMap cM).toArray,22)::bl) (λW'=>True/\Below W.heap.size W W') W:=St.aXp stI (F:=λW'=>Below W.heap.size W W') aW (λ_ _ h hb=>h.trans (hb.mono h.size));have hmx:prog.follows .mixedOrders=true:=by kernel_rfl
  have hbA:A<w.heap.size:=aC (st.blk (A,(L.flatMap cM).toArray,22) (by simp));have stJ:=stI;clear hcell hget hold hlen hN stI st1;gi_wp2_with fail;obtain⟨bl2,E2,hne2,sh2,rl,hEx,hbx,hst⟩:=stW.aW1;have hc1:∀z:Cs w0 bl2 E2,z.W.cell? ⟨w.heap.size+1,0,none⟩=some (.func (.func tf) #[] cb):=λz=>(rl z).1 0;have hc2:∀z:Cs w0 bl2 E2,z.W.cell? ⟨w.heap.size,2,none⟩=some (.slice (some ⟨A,0,none⟩) cn cn):=λz=>(rl z).2.2.2.1 2;have hc3:∀z:Cs w0 bl2 E2,z.W.cell? ⟨A,x,none⟩=some (.int .u64 old):=λz=>((rl z).2.2.2.2.2.2.1 x).trans HC.out;clear rl;refine kR sh2 14 (by kernel_rfl) (by kernel_rfl) (by kernel_rfl) ?_;simp only[List.take_succ_cons,List.take_zero,List.drop_succ_cons,List.drop_zero]
  repeat(first|go_big_quiet_step ((exact Cs.call (HTO.out _ (hbx _).out (λy hy=>(hst _).out.blk y (by simp[hy])) x old hP hom)))|quiet_step ((exact Cs.call (HTO.out _ (hbx _).out (λy hy=>(hst _).out.blk y (by simp[hy])) x old hP hom))))
  refine wpQuiet_nil ?_;intro y;have st3:=(hst y).out;clear hc1 hc2 hc3 hbx hst sh2 hEx stW;generalize y.W=w4 at*;have rl4:=st3.rl;have hcA:w4.cell? ⟨A,x,none⟩=some (.int .u64 old):=(rl4.2.2.2.2.2.2.1 x).trans HC.out;have hfA:w4.frozen? ⟨A,x,none⟩=false:=rl4.2.2.2.2.2.2.2.1 x;clear rl4;gi_wp2_with fail;have hbW:=st3.ex.2;have st4:=(st3.aW3 (F:=λ_=>True) trivial (λ_ _ _ _=>trivial)).aW5 2 rfl (o:=x) (v:=.int .u64 (g x old:Nat)) hA;simp only[jP,List.modify_succ_cons,List.modify_zero_cons] at st4;rw[<-HS.out] at st4;refine⟨(aX hbW).trans (KeepsOthers.setCell _ _ _),λy hy=> ?_,st4⟩;have hne:y.1≠A:=λe=>(List.pairwise_cons.1 st.nd).1 y hy e.symm;have hylt:=aC (st.blk y (by simp[hy]));have hWz:w.heap.size<=W.heap.size:=by
   have:=aC (stJ.blk (w.heap.size,#[.int .i64 2,.int .i64 cw,.slice (some ⟨A,0,none⟩) cn cn],186) (by simp));omega
  exact(Below.heap_setCell w4 ⟨A,x,none⟩ _ y.1 hne).trans (hbW.block y.1 (by omega))
 case done=>
  rintro D xs W hD rfl st9 hK;have st9':St w0 ((A,((uE g L xs).flatMap cM).toArray,22)::bl) (λ_=>True) W:=St.less st9 _ (List.Sublist.cons _ (List.sublist_cons_self _ _));clear st9 st1;go_wp2_with fail;refine⟨by simp,.inl ⟨_,_,rfl,run_takeDeferred hK,?_⟩⟩;exact⟨_,results_none rfl _ _ _,rfl,st9'.own (base:=w0.heap.size) (grownBy_putObj' W D _) (λr e=>by cases e;exact⟨by omega,_,hK,rfl⟩) aH⟩
 case stop=>
  rintro D c pre W hD hp h;exact h.elim
end
section
variable {bl:List cH} {cn cw:Nat}
theorem uH {n:Nat}{P:Program}{id:Nat}{Q:Exit->Act->World->Prop}{a:Act}{w w0:World}{E:World->Prop}{l:List Oper}(st:St w0 bl E w)(m:Nat)(hm:P.follows .mixedOrders=true)(hB:Region.lexTailB .any l.toArray m=true)
  (h:wpQuiet P l.toArray (λW=>∃x:Cs w0 bl E,W=x.W) (λa'=>∀x:Cs w0 bl E,wpListIn Fence.wide n P l.toArray Q (l.drop m) a' x.W) (l.take m) a):(Code.region id l.toArray true).wpIn Fence.wide n P Q a w:=
 jL (λW=>∃x:Cs w0 bl E,W=x.W) m hm hB ⟨⟨w.drew,st.drew⟩,rfl⟩ (by
  have e:(λa':Act=>∀w',(∃x:Cs w0 bl E,w'=x.W)->wpListIn Fence.wide n P l.toArray Q (l.drop m) a' w')=λa'=>∀x:Cs w0 bl E,wpListIn Fence.wide n P l.toArray Q (l.drop m) a' x.W:=by
   funext a';exact propext ⟨λh x=>h _ ⟨x,rfl⟩,λh w' ⟨x,e⟩=>e▸h x⟩
  rw[e];exact h)
def eR (bl:List cH)(W:World):Prop:=∀x∈bl,W.heap[x.1]? =some (.cells x.2.1 x.2.2 (0,0))
theorem eR.keep {A B:World}(h:eR bl A)(k:KpB bl A B):eR bl B:=λx hx=>(k x hx).trans (h x hx)
theorem eR.below {A B:World}(h:eR bl A)(k:Below A.heap.size A B):eR bl B:=λx hx=>(k.block x.1 (aC (h x hx))).trans (h x hx)
def gX (cw h:Nat):List Nat:=[aFl cw 0 h,aFl cw 1 h]
theorem aN3 (hIs:iF cw cn)(bl:List cH)(Bw Bh:Nat)(v:Value)(h:Nat)(hh:h<=aJ)(hBw:(Bw,#[.int .i64 2,.int .i64 cw,v],186)∈bl)(hBh:(Bh,#[.int .u64 h],22)∈bl)
  (n:Nat) (hn:1<=n) (l:Nat) (J Jx:List Nat->World->Prop) (bJ:jJ none J)
  (hY:∀(pre:List Nat) (x:Nat) (W:World),J pre W->x<cn->pre.length<(gX cw h).length->YieldAt Fence.wide (n-1) prog l #[.int .i64 x] W λe W'=>
   (e=.returned (.bool true)/\J (pre++[x]) W'/\KpB bl W W')\/(e=.returned (.bool false)/\Jx (pre++[x]) W'))
  (W:World) (hW:eR bl W) (h0:J [] W):
  CallsIn Fence.wide n prog 314 #[.func (.yield l) #[] #[],pv Bw 0,pv Bh 0] W λe W'=>(∃v,e=.returned v)/\
   ((∃xs,xs=gX cw h/\J xs W')\/(∃pre,pre<+:gX cw h/\Jx pre W')):=by
 have hcw:=aE (hW _ hBw);refine callsIn_of_wp func314 rfl trivial ?_ rfl;simp only[ntmps314,List.size_toArray,List.length_cons,List.length_nil,Nat.reduceAdd,Nat.reduceSub,Array.replicate_succ,Array.replicate_zero,List.push_toArray,List.append_toArray,List.nil_append,List.cons_append];gi_wp2_with fail;clear hcw
 gi_loopw [8] (λi wr=>∃k:Nat,k<=2/\i=.int .i64 k/\eR bl wr/\J ((gX cw h).take k) wr) (λi _=>2-(intOf i).toNat)
 case atStart=>exact⟨0,by omega,rfl,hW,h0⟩
 case round=>
  clear hW h0;obtain⟨k,hk,rfl,hb,hJ⟩:=hrel
  by_cases hlt:k<2
  .have HS:Hid ((gX cw h).take k++[aFl cw k h]=(gX cw h).take (k+1)):=by
    have hc:k=0\/k=1:=by omega
    rcases hc with rfl|rfl<;>rfl
   have hcw:=aE (hb _ hBw);have hch:=aE (hb _ hBh) 0;have HCOL:=aA (λW=>aQl hIs k h hlt hh v W);have hpl:=aQ0 hIs k h hlt;have hpd:(k:Int)*(cw:Int)+((aH1 cw k h:Nat):Int)=((aFl cw k h:Nat):Int):=by simp[aFl]
   have hcl:=aI3 hIs k h;have HPD:=aA hpd;clear hpd;generalize aH1 cw k h=cc at*;have hlo:=hIs.lo;have hhi:=hIs.hi;have hkc:0<=(k:Int)*(cw:Int)/\(k:Int)*(cw:Int)<=32:=by
    have hc:k=0\/k=1:=by omega
    rcases hc with rfl|rfl<;>simp<;>omega
   have hw1:wrap64 ((k:Int)*(cw:Int))=(k:Int)*(cw:Int):=by
    generalize(k:Int)*(cw:Int)=z at*;simp[wrap64];omega
   have hw2:wrap64 ((k:Int)*(cw:Int)+(cc:Int))=(k:Int)*(cw:Int)+(cc:Int):=by
    generalize(k:Int)*(cw:Int)=z at*;simp[wrap64];omega
   clear hkc;have hmx:prog.follows .mixedOrders=true:=by kernel_rfl
   clear hcw hch;gi_wp2_with fail;obtain⟨bl2,E2,hne2,sh2,rl,hEx,hbx,hst⟩:=(St.start wr).aW1;have hcz:∀z:Cs wr bl2 E2,∀o,z.W.cell? ⟨Bw,o,none⟩=(#[.int .i64 2,.int .i64 cw,v]:Array Value)[o]? :=λz=>aE (((hbx z).out.block _ (aC (hb _ hBw))).trans (hb _ hBw));have hcy:∀z:Cs wr bl2 E2,z.W.cell? ⟨Bh,0,none⟩=some (.int .u64 h):=λz=>aE (((hbx z).out.block _ (aC (hb _ hBh))).trans (hb _ hBh)) 0;clear rl;refine uH sh2 11 (by kernel_rfl) (by kernel_rfl) ?_;simp only[List.take_succ_cons,List.take_zero,List.drop_succ_cons,List.drop_zero]
   repeat(first|go_big_quiet_step ((go_at_call 255;exact Cs.call (HCOL.out _)))|quiet_step ((go_at_call 255;exact Cs.call (HCOL.out _))))
   refine wpQuiet_nil ?_;intro y;have hb4:=(hbx y).out;clear hcz hcy hbx hst sh2 hEx;generalize y.W=w4 at*;have hJ4:=bJ _ _ _ hJ (aU hb4 none);have hl4:=hb.below hb4;obtain⟨fn,tmps,assign,body,hy,hR⟩:=hY ((gX cw h).take k) (aFl cw k h) w4 hJ4 hpl (by rw[List.length_take];show min k 2<2;omega);rw[<-HPD.out] at hy;clear hb hJ;gi_wp2_with fail;refine hR.mono ?_;rintro e W3 (⟨rfl,hJ3,hk3⟩|⟨rfl,hJx3⟩)
   .rw[HS.out] at hJ3;have hb3:=hl4.keep hk3;clear hy hR hJ4 hl4 hY HS;gi_wp2_with fail;go_roundw
    case rel=>exact⟨k+1,hlt,by go_num,hb3,hJ3⟩
    case measure=>simp[intOf];omega
   .rw[HS.out] at hJx3;clear hy hR hJ4 hl4 hY HS;gi_wp2_with fail;refine bodyPost_ret (results_none rfl _ _ _) rfl ?_;exact⟨⟨_,rfl⟩,.inr ⟨_,List.take_prefix _ _,hJx3⟩⟩
  .obtain rfl:k=2:=by omega
   clear hY;gi_wp2_with fail;go_end0;exact⟨⟨_,rfl⟩,.inl ⟨_,rfl,hJ⟩⟩
theorem aDd (hIs:iF cw cn)(bl:List cH)(Bw Bh:Nat)(v:Value)(h:Nat)(hh:h<=aJ)(hBw:(Bw,#[.int .i64 2,.int .i64 cw,v],186)∈bl)(hBh:(Bh,#[.int .u64 h],22)∈bl)(n:Nat)(hn:1<=n)(W:World)(hW:eR bl W):
  aBd Fence.wide n prog 314 #[pv Bw 0,pv Bh 0] (λp:Nat=> #[Value.int .i64 p]) (λp _=>p<cn) (KpB bl) (λxs=>xs=gX cw h) (λpre=>pre<+:gX cw h) (gX cw h).length none W:=λl J Jx bJ _ hY h0=>
 aN3 hIs bl Bw Bh v h hh hBw hBh n hn l J Jx bJ hY W hW h0
theorem aR4 (h64:cn<=64)(bl:List cH)(Bw:Nat)(s:Option Addr)(cap:Nat)(hBw:(Bw,#[.int .i64 2,.int .i64 cw,.slice s cn cap],186)∈bl)
  (n:Nat) (hn:1<=n) (l:Nat) (J Jx:List Nat->World->Prop)
  (hY:∀(pre:List Nat) (x:Nat) (W:World),J pre W->x<cn->pre.length<(List.range cn).length->YieldAt Fence.wide (n-1) prog l #[.int .i64 x] W λe W'=>
   (e=.returned (.bool true)/\J (pre++[x]) W'/\KpB bl W W')\/(e=.returned (.bool false)/\Jx (pre++[x]) W'))
  (W:World) (hW:eR bl W) (h0:J [] W):
  CallsIn Fence.wide n prog 315 #[.func (.yield l) #[] #[],pv Bw 0] W λe W'=>(∃v,e=.returned v)/\
   ((∃xs,xs=List.range cn/\J xs W')\/(∃pre,pre<+:List.range cn/\Jx pre W')):=by
 obtain⟨R,hR0⟩:∃R,List.range cn=R:=⟨_,rfl⟩;have hRl:R.length=cn:=by rw[<-hR0];simp
 have HRg:Hid (∀k,k<cn->R.take k++[k]=R.take (k+1)):=by
  show∀_,_;intro k hk;rw[<-hR0,List.take_add_one,List.getElem?_range hk];rfl
 rw[hR0] at hY⊢;rw[hRl] at hY;have hRL:=aA hRl;clear hR0 hRl;have hcw:=aE (hW _ hBw);refine callsIn_of_wp func315 rfl trivial ?_ rfl;simp only[ntmps315,List.size_toArray,List.length_cons,List.length_nil,Nat.reduceAdd,Nat.reduceSub,Array.replicate_succ,Array.replicate_zero,List.push_toArray,List.append_toArray,List.nil_append,List.cons_append];gi_wp2_with fail;clear hcw
 gi_loopw [8] (λi wr=>∃k:Nat,k<=cn/\i=.int .i64 k/\eR bl wr/\J (R.take k) wr) (λi _=>cn-(intOf i).toNat)
 case atStart=>exact⟨0,by omega,rfl,hW,h0⟩
 case round=>
  clear hW h0;obtain⟨k,hk,rfl,hb,hJ⟩:=hrel
  by_cases hlt:k<cn
  .obtain⟨fn,tmps,assign,body,hy,hR⟩:=hY (R.take k) k wr hJ hlt (by rw[List.length_take,hRL.out];omega);clear hJ;gi_wp2_with fail;refine hR.mono ?_;rintro e W3 (⟨rfl,hJ3,hk3⟩|⟨rfl,hJx3⟩)
   .rw[HRg.out k hlt] at hJ3;have hb3:=hb.keep hk3;clear hy hR hb hY hk3;gi_wp2_with fail;go_roundw
    case rel=>exact⟨k+1,hlt,by go_num,hb3,hJ3⟩
    case measure=>simp[intOf];omega
   .rw[HRg.out k hlt] at hJx3;clear hy hR hb hY;gi_wp2_with fail;refine bodyPost_ret (results_none rfl _ _ _) rfl ?_;exact⟨⟨_,rfl⟩,.inr ⟨_,List.take_prefix _ _,hJx3⟩⟩
  .obtain rfl:k=cn:=by omega
   rw[List.take_of_length_le (by rw[hRL.out];exact aH)] at hJ;clear hY;gi_wp2_with fail;go_end0;exact⟨⟨_,rfl⟩,.inl ⟨_,rfl,hJ⟩⟩
theorem aJq (h64:cn<=64)(bl:List cH)(Bw:Nat)(s:Option Addr)(cap:Nat)(hBw:(Bw,#[.int .i64 2,.int .i64 cw,.slice s cn cap],186)∈bl)(n:Nat)(hn:1<=n)(W:World)(hW:eR bl W):
  aBd Fence.wide n prog 315 #[pv Bw 0] (λp:Nat=> #[Value.int .i64 p]) (λp _=>p<cn) (KpB bl) (λxs=>xs=List.range cn) (λpre=>pre<+:List.range cn) (List.range cn).length none W:=λl J Jx _ _ hY h0=>
 aR4 h64 bl Bw s cap hBw n hn l J Jx hY W hW h0
end
end Go.Proofs.YtmgdbfmlnmahpaaGreatDoor
