/- Part of TopAudits. -/
import Derived.Test.YtmgdbfmlnmahpaaGreatDoorG32
namespace Go.Proofs.YtmgdbfmlnmahpaaGreatDoor
set_option linter.unusedSimpArgs false
set_option linter.unusedVariables false
set_option maxRecDepth 100000
set_option maxHeartbeats 4000000
open Go.Proofs.Tryz
open Go.RowKit Go.Shelf
structure Gr where
 id:Nat
 to:Nat
 sc:ByteArray
def eL (x:Gr):List Value:=[.int .u64 x.id,.int .u64 x.to,.string x.sc]
theorem eI (x:Gr):(eL x).length=3:=rfl
theorem oZ (x:Gr):∀v∈eL x,v.oneCell'=true:=by intro v hv;simp[eL] at hv;rcases hv with rfl|rfl|rfl<;>rfl
theorem wM :eM prog 75 208 3 32:=eM.mk (z:=.agg #[.int .u64 0,.int .u64 0,.string ⟨#[]⟩]) underlying75 (by kernel_rfl) rfl (by decide)
structure GOk (L:List Gr):Prop where
 len:L.length<=10
 sm:∀x∈L,x.sc.size<=100000
theorem aNs {W:World}{s:Option Addr}{L:List Gr}(h:Rd 3 eL W s L){i:Nat}{x:Gr}(hx:L[i]? =some x):∃g o,s=some ⟨g,o,none⟩/\g<W.heap.size/\W.cell? ⟨g,o+i*3,none⟩=some (.int .u64 x.id)/\W.cell? ⟨g,o+i*3+1,none⟩=some (.int .u64 x.to)/\W.cell? ⟨g,o+i*3+2,none⟩=some (.string x.sc):=by
 obtain⟨g,o,e,hg,hc⟩:=h i x hx;exact⟨g,o,e,hg,hc 0 _ rfl,hc 1 _ rfl,hc 2 _ rfl⟩
theorem kX (L:List Gr)(hL:GOk L)(nx:Nat)(s:Option Addr)(cap:Nat)(w:World)(hG:aQ w)(hR:Rd 3 eL w s L):Calls prog 90 #[.agg #[.int .u64 nx,.slice s L.length cap]] w λe w'=>mW (λ_=>True) e/\Below w.heap.size w w':=by
 have HH:=aA (aB hL (aB hG hR));have hl:=hL.len;have h10:¬10<(L.length:Int):=by omega
 have st0:=(St.start w).alloc (cs:= #[.int .u64 nx,.slice s L.length cap]) (T:=77);clear hL hG hR
 by_cases h1:(nx:Int)<1
 .go_enter func90,ntmps90;go_wp2_with fail;go_ret;exact⟨⟨_,rfl,trivial⟩,st0.below⟩
 go_enter func90,ntmps90;go_wp2_with fail
 go_loopw [3,18] (λl i wr=>∃(k z:Nat),k<=L.length/\i=.int .i64 k/\l=.int .u64 z/\St w [(w.heap.size,#[.int .u64 nx,.slice s L.length cap],77)] (λ_=>True) wr) (λ_ i _=>L.length-(intOf i).toNat)
 case atStart=>exact⟨0,0,cJ _,rfl,rfl,st0⟩
 case round=>
  clear st0;obtain⟨k,z,hk,rfl,rfl,st⟩:=hrel
  by_cases hlt:k<L.length
  .obtain⟨⟨xi,xt,xs⟩,hx⟩:∃x,L[k]? =some x:=⟨_,cZ hlt⟩;obtain⟨g,o,rfl,hg,hc1,hc2,hc3⟩:=aNs (HH.out.2.2.aWu aH st.below) hx;have hsm:=HH.out.1.sm _ (bK hx);simp only at hc1 hc2 hc3 hsm;have st1:=st.alloc (cs:= #[.int .u64 xi,.int .u64 xt,.string xs]) (T:=208);have HS:=aA (λW (hW:Below w.heap.size w W)=>kQ xs hsm W (HH.out.2.1.aWu hW));have rl:=st1.rl;clear hx hsm st
   by_cases ha:(xi:Int)<=(z:Int)
   .go_wp2_with fail;go_ret;exact⟨⟨_,rfl,trivial⟩,st1.below⟩
   by_cases hb:(xi:Int)≥(nx:Int)
   .go_wp2_with fail;go_ret;exact⟨⟨_,rfl,trivial⟩,st1.below⟩
   go_wp2_with fail;refine(HS.out _ st1.below).mono ?_;rintro e w2 ⟨⟨b,rfl,-⟩,hb2⟩;have st2:=st1.to hb2;clear rl st1 hb2 HS hc1 hc2 hc3;have rl:=st2.rl;cases b with
   |false=>
    go_wp2_with fail;go_ret;exact⟨⟨_,rfl,trivial⟩,st2.below⟩
   |true=>
    go_wp2_with fail;go_roundw
    case rel=>exact⟨k+1,xi,hlt,by go_num,rfl,st2.less _ (List.sublist_cons_self _ _)⟩
    case measure=>simp[intOf];omega
  .obtain rfl:k=L.length:=by omega
   go_wp2_with fail;go_ret;exact⟨⟨_,rfl,trivial⟩,st.below⟩
def aLo (A B:Nat)(to:Int)(ls:Option Addr)(L:List dQ)(lc:Nat)(W:World):Prop:=aQ W/\Rd 2 cO W ls L/\W.cell? ⟨A,0,none⟩=some (.int .u64 to)/\W.cell? ⟨B,0,none⟩=some (.slice ls L.length lc)/\A<W.heap.size/\B<W.heap.size
theorem aLo.aWu {A B:Nat}{to:Int}{ls:Option Addr}{L:List dQ}{lc:Nat}{W W':World}(h:aLo A B to ls L lc W)(hb:Below W.heap.size W W'):aLo A B to ls L lc W':=
 ⟨h.1.aWu hb,h.2.1.aWu aH hb,(hb.cell (p:=⟨A,0,none⟩) h.2.2.2.2.1).trans h.2.2.1,(hb.cell (p:=⟨B,0,none⟩) h.2.2.2.2.2).trans h.2.2.2.1,kG h.2.2.2.2.1 hb.size,kG h.2.2.2.2.2 hb.size⟩
theorem aP0 (x:Gr)(hx:x.sc.size<=100000)(A B:Nat)(to:Int)(ls:Option Addr)(L:List dQ)(hL:lD L)(lc:Nat)(w:World)(hE:aLo A B to ls L lc w):
  Calls prog 208 #[.agg #[.int .u64 x.id,.int .u64 x.to,.string x.sc],pv A 0,pv B 0] w λe w'=>mW (λ_=>True) e/\Below w.heap.size w w':=by
 obtain⟨xi,xt,xs⟩:=x;have st0:=(St.start w).alloc (cs:= #[.int .u64 xi,.int .u64 xt,.string xs]) (T:=208);have h1:=hE.aWu st0.below;have c1:=h1.2.2.1;have c2:=h1.2.2.2.1;have HM:=aA (uV xs hx L hL ls lc _ h1.1 h1.2.1);clear hE h1;show Calls prog 208 #[.agg #[.int .u64 xi,.int .u64 xt,.string xs],_,_] w _
 by_cases ht:(xt:Int)=to
 .have ht':((xt:Int)==to)=true:=by simpa using ht
  subst ht;go_enter func208,ntmps208;go_wp2_with fail;refine HM.out.mono ?_;rintro e w2 ⟨⟨b,E,rfl,hE,-⟩,hb2⟩;have hb:=(st0.to hb2).below;clear st0 hb2 c1 c2 HM;rcases hE with rfl|rfl
  all_goals
   go_wp2_with fail;go_ret;exact⟨⟨_,rfl,trivial⟩,hb⟩
 .have ht':((xt:Int)==to)=false:=by simpa using ht
  have hb:=st0.below;clear HM;go_enter func208,ntmps208;go_wp2_with fail;go_ret;exact⟨⟨_,rfl,trivial⟩,hb⟩
theorem aKg (M:List Gr)(hM:GOk M)(s:Option Addr)(cap:Nat)(A B:Nat)(to:Int)(ls:Option Addr)(L:List dQ)(hL:lD L)(lc:Nat)(w:World)(hR:Rd 3 eL w s M)(hE:aLo A B to ls L lc w):
  Calls prog 91 #[.slice s M.length cap,.func (.func 208) #[] #[pv A 0,pv B 0]] w λe w'=>(∃i:Int,e=.returned (.int .i64 i))/\Below w.heap.size w w':=by
 have HH:=aA (aB hM (aB hR (aB hE hL)));have hl:=hM.len;clear hM hR hE hL;go_enter func91,ntmps91;go_wp2_with fail
 go_loopw [8] (λi wr=>∃k:Nat,k<=M.length/\i=.int .i64 k/\Below w.heap.size w wr) (λi _=>M.length-(intOf i).toNat)
 case atStart=>exact⟨0,cJ _,rfl,aW⟩
 case round=>
  obtain⟨k,hk,rfl,hbw⟩:=hrel
  by_cases hlt:k<M.length
  .obtain⟨x,hx⟩:∃x,M[k]? =some x:=⟨_,cZ hlt⟩;obtain⟨g,o,rfl,hg,hc1,hc2,hc3⟩:=aNs (HH.out.2.1.aWu aH hbw) hx;have HF:=aA (aP0 x (HH.out.1.sm _ (bK hx)) A B to ls L HH.out.2.2.2 lc wr (HH.out.2.2.1.aWu hbw));clear hx;go_wp2_with fail;refine HF.out.mono ?_;rintro e w2 ⟨⟨b,rfl,-⟩,hb2⟩;have hb:=hbw.trans (hb2.mono hbw.size);clear hc1 hc2 hc3 hb2;cases b with
   |true=>
    go_wp2_with fail;go_ret;exact⟨⟨_,rfl⟩,hb⟩
   |false=>
    go_wp2_with fail;go_roundw
    case rel=>exact⟨k+1,hlt,by go_num,hb⟩
    case measure=>simp[intOf];omega
  .obtain rfl:k=M.length:=by omega
   go_wp2_with fail;go_ret;exact⟨⟨_,rfl⟩,hbw⟩
theorem aKf (M:List Gr)(hM:GOk M)(nx:Nat)(s:Option Addr)(cap:Nat)(to:Int)(ls:Option Addr)(L:List dQ)(hL:lD L)(lc:Nat)(w:World)(hG:aQ w)(hR:Rd 3 eL w s M)(hLs:Rd 2 cO w ls L):
  Calls prog 171 #[.agg #[.int .u64 nx,.slice s M.length cap],.int .u64 to,.slice ls L.length lc] w λe w'=>mW (λ_=>True) e/\Below w.heap.size w w':=by
 have hmf:∀(fn:Fn) (first cap:Array Value) (w:World),(Instr.makeFunc fn first cap).run prog w=.ok (.func fn first cap) w:=λ_ _ _ _=>rfl;have st0:=(((St.start w).alloc (cs:= #[.int .u64 nx,.slice s M.length cap]) (T:=77)).alloc (cs:= #[.int .u64 to]) (T:=22)).alloc (cs:= #[.slice ls L.length lc]) (T:=161);simp only[World.size_alloc] at st0;have HH:=aA (aB hM (aB hG (aB hR (aB hLs hL))));have HR:=aA (λW (hW:Below w.heap.size w W)=>kX M hM nx s cap W (hG.aWu hW) (hR.aWu aH hW));clear hM hG hR hLs hL;go_enter func171,ntmps171;go_wp2_with fail;refine(HR.out _ st0.below).mono ?_;rintro e w1 ⟨⟨b,rfl,-⟩,hb1⟩;have st1:=st0.to hb1;clear st0 hb1 HR;have rl:=st1.rl;cases b with
 |false=>
  go_wp2_with fail;go_ret;exact⟨⟨_,rfl,trivial⟩,st1.below⟩
 |true=>
 have hE:aLo (w.heap.size+1) (w.heap.size+1+1) to ls L lc w1:=⟨HH.out.2.1.aWu st1.below,HH.out.2.2.2.1.aWu aH st1.below,aE (st1.blk (w.heap.size+1,#[.int .u64 to],22) (by simp)) 0,aE (st1.blk (w.heap.size+1+1,#[.slice ls L.length lc],161) (by simp)) 0,aC (st1.blk (w.heap.size+1,#[.int .u64 to],22) (by simp)),aC (st1.blk (w.heap.size+1+1,#[.slice ls L.length lc],161) (by simp))⟩;have HI:=aA (aKg M HH.out.1 s cap (w.heap.size+1) (w.heap.size+1+1) to ls L HH.out.2.2.2.2 lc w1 (HH.out.2.2.1.aWu aH st1.below) hE);have HC:Hid (Calls prog 207 #[.slice s M.length cap,.func (.func 208) #[] #[pv (w.heap.size+1) 0,pv (w.heap.size+1+1) 0]] w1 λe w'=>mW (λ_=>True) e/\Below w1.heap.size w1 w'):=by
  show Calls _ _ _ _ _;clear hmf st1 rl hE;go_enter func207,ntmps207;go_wp2_with fail;refine HI.out.mono ?_;rintro e w2 ⟨⟨i,rfl⟩,hb2⟩;go_wp2_with fail;go_ret;exact⟨⟨_,rfl,trivial⟩,hb2⟩
 clear hE;go_wp2_with fail;refine HC.out.mono ?_;rintro e w2 ⟨⟨b,rfl,-⟩,hb2⟩;have hb:=(st1.to hb2).below;go_wp2_with fail;go_ret;exact⟨⟨_,rfl,trivial⟩,hb⟩
def aVf (T:List aP)(e:Ending)(w':World):Prop:=
 (∃E:Int,E≠0/\e=.returned (.tuple #[.slice none 0 0,.int .i64 E]))\/∃(d:Hd) (P:List Nat),e=.returned (.tuple #[d.v P.length,.int .i64 0])/\bS 1 rL w' d P/\P.length<=T.length/\(∀p∈P,p<T.length)
theorem aHl (M:List Gr)(hM:GOk M)(nx:Nat)(s:Option Addr)(cap:Nat)(to:Int)(T:List aP)(hT:pS T)(t:Hd)(sc:ByteArray)(hsc:sc.size<=100000)(w:World)(hG:aQ w)(hR:Rd 3 eL w s M)(hRT:mN w t T):
  Calls prog 128 #[.agg #[.int .u64 nx,.slice s M.length cap],.int .u64 to,.slice t.s T.length t.cap,.string sc] w λe w'=>aVf T e w'/\Below w.heap.size w w':=by
 obtain⟨ts,tc⟩:=t;have st0:=(St.start w).alloc (cs:= #[.int .u64 nx,.slice s M.length cap]) (T:=77);have HH:=aA (aB hM (aB hG (aB hR (aB hT hRT))));have HR:=aA (λW (hW:Below w.heap.size w W)=>kX M hM nx s cap W (hG.aWu hW) (hR.aWu aH hW));have HM:=aA (λW (hW:Below w.heap.size w W)=>uM T hT ⟨ts,tc⟩ sc hsc W (hG.aWu hW) (hRT.aWu hW));have hl:=hT.len;clear hM hG hR hT hRT hsc;show Calls prog 128 #[.agg #[.int .u64 nx,.slice s M.length cap],.int .u64 to,.slice ts T.length tc,.string sc] w _;simp only at HM;go_enter func128,ntmps128;go_wp2_with fail;refine(HR.out _ st0.below).mono ?_;rintro e w1 ⟨⟨b,rfl,-⟩,hb1⟩;have st1:=st0.to hb1;clear st0 hb1 HR;cases b with
 |false=>
  go_wp2_with fail;go_ret2;exact⟨.inl ⟨150,by decide,rfl⟩,st1.below⟩
 |true=>
 go_wp2_with fail;refine(HM.out _ st1.below).mono ?_;rintro e w2 ⟨⟨E,hE,rfl,-⟩|⟨⟨ps,pc⟩,P,rfl,hp,hpl,hpT,-⟩,hb2⟩
 .have hb:=(st1.to hb2).below;have hEb:(E==0)=false:=by simpa using hE
  have HE:=aA hE;clear st1 hb2 hE HM;go_wp2_with fail;go_ret2;exact⟨.inl ⟨E,HE.out,rfl⟩,hb⟩
 have st2:=st1.to hb2;have HP:=aA (aB hp (aB hpT hpl));have hz2:=st2.below.size;clear st1 hb2 hp hpT HM;simp only[Hd.v];go_wp2_with fail
 go_loopw [12,29] (λv i wr=>∃(k:Nat) (vv:Value) (Q:List Nat),v=vv/\k<=P.length/\i=.int .i64 k/\aL 1 rL 3 wr w2.heap.size vv Q/\Below w2.heap.size w2 wr/\Q.length<=k/\(∀p∈Q,p<T.length)) (λ_ i _=>P.length-(intOf i).toNat)
 case atStart=>exact⟨0,_,[],rfl,cJ _,rfl,aL.nil _ _,aW,aH,by simp⟩
 case round=>
  obtain⟨k,vv,Q,rfl,hk,rfl,ho,hbw,hQ,hQT⟩:=hrel
  by_cases hlt:k<P.length
  .obtain⟨p,hpx⟩:∃p,P[k]? =some p:=⟨_,cZ hlt⟩;obtain⟨gp,op,hps,hgp,hpc⟩:=(HP.out.1.aWu hbw).rd k p hpx;have hpc0:=hpc 0 _ rfl;simp only at hps;subst hps;rw[Nat.mul_one,Nat.add_zero] at hpc0;have hpT:=HP.out.2.1 p (bK hpx);obtain⟨g,o,hts⟩:=HH.out.2.2.2.2.addr (by intro h;rw[h] at hpT;simp at hpT);simp only at hts;subst hts;obtain⟨⟨lab,sk,sn,⟨ls,lc⟩,⟨⟨es,ec⟩,⟨cs,cc⟩,⟨gs,gc⟩⟩⟩,hx⟩:∃x,T[p]? =some x:=⟨_,cZ hpT⟩;have hO:=(HH.out.2.2.2.1.ok _ (bK hx)).2;have hS:=HH.out.2.2.2.2.s _ (bK hx);have st3:=st2.to hbw;have HC:=aA (show∀W,Below w.heap.size w W->W.cell? ⟨g,o+p*12,none⟩=some (.slice ls lab.length lc) from λW hW=>(cG (HH.out.2.2.2.2.aWu hW) hx).2.1);have HMY:=aA (λW (hW:Below w.heap.size w W)=>aKf M HH.out.1 nx s cap to ls lab hO lc W (HH.out.2.1.aWu hW) (HH.out.2.2.1.aWu aH hW) (hS.l.rd.aWu aH hW));obtain⟨qs,qc,rfl,-⟩:=ho.form fV;have HQ:=aA (aB ho (aB hQ (aB hQT hbw)));clear hpc hpx hx hO hS ho hQT hbw hgp;go_wp2_with fail;refine rA st3 8 [.val (.agg #[.int .u64 nx,.slice s M.length cap]),.val (.int .u64 to),.val (.slice (some ⟨g,o,none⟩) T.length tc),.val (.int .i64 p),.val (pv g (o+p*12)),.val (pv g (o+p*12)),.val (.slice ls lab.length lc),.fct IsB rY] ?spec ?endd
   case spec=>
    refine⟨?_,?_,?_,?_,?_,?_,?_,?_,trivial⟩
    all_goals(intro ρ W kc kf hW sW rl hu hd;simp only[aI] at rl)
    have u4:ρ (.tmp 4)=pv w.heap.size 0:=cR hu 4;rotate_left;have u1:ρ (.tmp 1)=.int .u64 to:=cR hu 1;rotate_left;have u2:ρ (.tmp 2)=.slice (some ⟨g,o,none⟩) T.length tc:=cR hu 2;rotate_left;have u14:ρ (.tmp 14)=.int .i64 p:=cR hu 14;rotate_left;have u35:ρ (.tmp 35)=_:=aK hd 2 35;have u36:ρ (.tmp 36)=_:=aK hd 3 36;rotate_left;have u37:ρ (.tmp 37)=_:=aK hd 4 37;rotate_left;have u38:ρ (.tmp 38)=_:=aK hd 5 38;have hc:=HC.out W sW.below;rotate_left
    .have u33:ρ (.tmp 33)=_:=aK hd 0 33;have u34:ρ (.tmp 34)=_:=aK hd 1 34;have u39:ρ (.tmp 39)=_:=aK hd 6 39;refine aF rfl ?_;go_simp;refine⟨aW,(HMY.out W sW.below).mono ?_⟩;rintro e w' ⟨⟨b,rfl,-⟩,hb'⟩;exact⟨_,rfl,hb',_,rfl⟩
    all_goals(refine aF rfl ?_;go_simp;exact aG rfl)
   case endd=>
    rintro v W hW sW rl ⟨h7,-⟩;simp only[aI] at rl;obtain⟨b,hb7⟩:=h7;rw[hb7];have hbW:Below w2.heap.size w2 W:=HQ.out.2.2.2.trans (hW.mono HQ.out.2.2.2.size);have ho7:=aA (aL.keep _ _ HQ.out.1 hW);clear rl sW hW st3 hb7 hpc0;refine wpList_nil ?_;go_frame;cases b with
    |false=>
     go_wp2_with fail;go_roundw
     case rel=>exact⟨k+1,_,Q,rfl,hlt,by go_num,ho7.out,hbW,by omega,HQ.out.2.2.1⟩
     case measure=>simp[intOf];omega
    |true=>
     have hz:=hbW.size;go_wp2_with(at_builtin;refine fI aJb fV sK rfl (.tmp 41) (.tmp 43) rfl w2.heap.size (.slice qs Q.length qc) Q p rfl ((St.start w2).to hbW) ho7.out aH (by simp) hz _ rfl W.heap.size rfl rfl (by omega) (by decide) ?_;intro v' w5 ap);have HAP:=aA ap;clear ap;go_wp2_with fail;go_roundw
     case rel=>exact⟨k+1,v',Q++[p],rfl,hlt,by go_num,HAP.out.own,HAP.out.st.below,by simp;omega,λq hq=>by rcases List.mem_append.1 hq with hq|hq;exact HQ.out.2.2.1 q hq;simp at hq;omega⟩
     case measure=>simp[intOf];omega
  .obtain rfl:k=P.length:=by omega
   obtain⟨d,rfl,hd⟩:=bS.own fV ho;have HD:=aA (aB hd (aB hQ (aB hQT (st2.to hbw).below)));clear hQ hQT ho hd hbw;simp only[Hd.v];go_wp2_with fail;go_ret2;exact⟨.inr ⟨d,Q,rfl,HD.out.1,by have:=HD.out.2.1;omega,HD.out.2.2.1⟩,HD.out.2.2.2⟩
def MgN (T:List aP)(sc:ByteArray)(kd:Int):Prop:=lG T/\(qC sc/\False)/\kd=1
def aV8 (w:World)(T:List aP)(sc:ByteArray)(kd:Int)(e:Ending)(w':World):Prop:=
 (∃E:Int,E≠0/\e=.returned (.tuple #[.agg #[.int .i64 0,.int .i64 0,.slice none 0 0,.int .i64 0,.string ⟨#[]⟩,.int .i64 0,.int .i64 0,.slice none 0 0,.int .i64 0,.slice none 0 0],.int .i64 E])/\¬MgN T sc kd)\/∃(y:Sk) (h:aR),e=.returned (.tuple #[h.v y,.int .i64 0])/\y.Ok/\y.kind=kd/\bW w' y h/\cQ w.heap.size h/\(MgN T sc kd->(T=[]->y=.dist [])/\∀x L,T=[x]->x.sk=.dist L->y=.dist L)
theorem aCd (M:List Gr)(hM:GOk M)(nx:Nat)(s:Option Addr)(cap:Nat)(to:Int)(T:List aP)(hT:pS T)(t:Hd)(sc:ByteArray)(hsc:sc.size<=100000)(kd:Int)(w:World)(hG:aQ w)(hRG:Rd 3 eL w s M)(hR:mN w t T):Calls prog 83 #[.agg #[.int .u64 nx,.slice s M.length cap],.int .u64 to,.slice t.s T.length t.cap,.string sc,.int .i64 kd] w λe w'=>aV8 w T sc kd e w'/\Below w.heap.size w w':=by
 have HM:=aA (λW (hW:Below w.heap.size w W)=>aHl M hM nx s cap to T hT t sc hsc W (hG.aWu hW) (hRG.aWu aH hW) (hR.aWu hW));have HN:=aA (λW (_:Below w.heap.size w W)=>rC kd W);obtain⟨ts,tc⟩:=t;have HT:=aA (aB hR (aB hT hG.e));have hl:=hT.len;have st0:=((St.start w).alloc (cs:= #[.int .u64 nx,.slice s M.length cap]) (T:=77)).alloc (cs:= #[.int .i64 0,.int .i64 0,.slice none 0 0,.int .i64 0,.string ⟨#[]⟩,.int .i64 0,.int .i64 0,.slice none 0 0,.int .i64 0,.slice none 0 0]) (T:=103);simp only[World.size_alloc] at st0;clear hT hG hR hRG hM;show Calls prog 83 #[.agg #[.int .u64 nx,.slice s M.length cap],.int .u64 to,.slice ts T.length tc,.string sc,.int .i64 kd] w _;simp only at HM;go_enter func83,ntmps83;go_wp2_with fail;refine(HM.out _ st0.below).mono ?_;rintro e w1 ⟨⟨E,hE,rfl⟩|⟨⟨ps,pc⟩,P,rfl,hp,hpl,hpT⟩,hb1⟩
 .have st1:=st0.to hb1;have rl:=st1.rl;have HE:=aA hE;have hEb:(E==0)=false:=by simpa using hE
  have hz9:=st1.below.size;clear st0 hb1 hE;go_wp2_with fail;refine bodyPost_ret (v:=.tuple #[.agg #[.int .i64 0,.int .i64 0,.slice none 0 0,.int .i64 0,.string ⟨#[]⟩,.int .i64 0,.int .i64 0,.slice none 0 0,.int .i64 0,.slice none 0 0],.int .i64 E]) (by simp[results,results83,go_sem,rl]) rfl ⟨.inl ⟨E,HE.out,rfl,λh=>h.2.1.2⟩,?_⟩
  repeat(with_reducible refine Below.setCell ?_ (by simp;try omega) _)
  exact st1.below
 have HP:=aA (aB hp (aB hpl (aB hpT (show lG T/\(qC sc/\False)->P=List.range T.length from λh=>h.2.2.elim))));have st1:=st0.to hb1;clear st0 hb1 hp hpT HM;simp only[Hd.v];go_wp2_with fail;have hz1:=st1.below.size;have hR1:(w.heap.size+1)<w1.heap.size:=aC (st1.blk ((w.heap.size+1),#[.int .i64 0,.int .i64 0,.slice none 0 0,.int .i64 0,.string ⟨#[]⟩,.int .i64 0,.int .i64 0,.slice none 0 0,.int .i64 0,.slice none 0 0],103) (by simp));refine(HN.out w1 st1.below).mono ?_;rintro e w2 (⟨y,⟨⟨ES,EC⟩,⟨CS,CC⟩,⟨GS,GC⟩⟩,⟨⟨hyk,hy1⟩,hyo⟩,rfl,hd,hf,hb2⟩|⟨rfl,hne,hb2⟩);rotate_left
 .have st2:=st1.to hb2;have rl:=st2.rl;have hst2:=st2.alloc (cs:= #[.int .i64 0,.int .i64 0,.slice none 0 0,.int .i64 0,.string ⟨#[]⟩,.int .i64 0,.int .i64 0,.slice none 0 0,.int .i64 0,.slice none 0 0]) (T:=103);have rl2:=hst2.rl;have HNE:=aA hne;clear st1 hb2 hne;go_wp2_with fail;refine bodyPost_ret (v:=.tuple #[.agg #[.int .i64 0,.int .i64 0,.slice none 0 0,.int .i64 0,.string ⟨#[]⟩,.int .i64 0,.int .i64 0,.slice none 0 0,.int .i64 0,.slice none 0 0],.int .i64 101]) (by simp[results,results83,go_sem,rl,rl2]) rfl ⟨.inl ⟨101,by decide,rfl,λh=>HNE.out h.2.2⟩,?_⟩;have hb9:=st2.below;have hz9:=hb9.size
  with_reducible refine Below.alloc ?_ (by simp;try omega) _
  repeat(with_reducible refine Below.setCell ?_ (by simp;try omega) _)
  exact hb9
 have stB:=st1.to hb2;have hz2:=hb2.size;have hR2:(w.heap.size+1)<w2.heap.size:=aC (stB.blk ((w.heap.size+1),#[.int .i64 0,.int .i64 0,.slice none 0 0,.int .i64 0,.string ⟨#[]⟩,.int .i64 0,.int .i64 0,.slice none 0 0,.int .i64 0,.slice none 0 0],103) (by simp));have st2:=stB.alloc (cs:= #[.int .i64 y.kind,.int .i64 y.lev,.slice ES y.e.length EC,.int .i64 y.bits,.string y.aWx,.int .i64 y.rows,.int .i64 y.aWv,.slice CS y.c.length CC,.int .i64 y.aWw,.slice GS y.g.length GC]) (T:=103);have hal:=(Below.refl w2.heap.size w2).alloc aH (.cells #[.int .i64 y.kind,.int .i64 y.lev,.slice ES y.e.length EC,.int .i64 y.bits,.string y.aWx,.int .i64 y.rows,.int .i64 y.aWv,.slice CS y.c.length CC,.int .i64 y.aWw,.slice GS y.g.length GC] 103);have HI:MgS w w2.heap.size ((w.heap.size+1)+1) [((w.heap.size+1),#[.int .i64 0,.int .i64 0,.slice none 0 0,.int .i64 0,.string ⟨#[]⟩,.int .i64 0,.int .i64 0,.slice none 0 0,.int .i64 0,.slice none 0 0],103),(w.heap.size,#[.int .u64 nx,.slice s M.length cap],77)] y ⟨⟨ES,EC⟩,⟨CS,CC⟩,⟨GS,GC⟩⟩ (w2.alloc (.cells #[.int .i64 y.kind,.int .i64 y.lev,.slice ES y.e.length EC,.int .i64 y.bits,.string y.aWx,.int .i64 y.rows,.int .i64 y.aWv,.slice CS y.c.length CC,.int .i64 y.aWw,.slice GS y.g.length GC] 103)):=⟨st2,hd.aWu hal,hf.mono hR1,kJ.old hd aH⟩;have HY:=aA (aB hyk (aB hy1 hyo));have HPd:=aA (show∀W,dI w2.heap.size w2 W->bS 1 rL W ⟨ps,pc⟩ P from λW hW=>bS.but (g:=w2.heap.size) (HP.out.1.aWu hb2) (λh=>gU.old (HP.out.1.aWu hb2) h aH) hW);have HB2:=aA stB.below;clear st1 stB st2 hb2 hd hf hal hyk hy1 hyo;simp only[aR.v,Hd.v];have hzA:w2.heap.size<(w2.alloc (.cells #[.int .i64 y.kind,.int .i64 y.lev,.slice ES y.e.length EC,.int .i64 y.bits,.string y.aWx,.int .i64 y.rows,.int .i64 y.aWv,.slice CS y.c.length CC,.int .i64 y.aWw,.slice GS y.g.length GC] 103)).heap.size:=by simp
 have HBA:=aA (show dI w2.heap.size w2 (w2.alloc (.cells #[.int .i64 y.kind,.int .i64 y.lev,.slice ES y.e.length EC,.int .i64 y.bits,.string y.aWx,.int .i64 y.rows,.int .i64 y.aWv,.slice CS y.c.length CC,.int .i64 y.aWw,.slice GS y.g.length GC] 103)) from dI.of ((Below.refl w2.heap.size w2).alloc aH _));have rl:=HI.st.rl;go_wp2_with fail;generalize w2.alloc (.cells #[.int .i64 y.kind,.int .i64 y.lev,.slice ES y.e.length EC,.int .i64 y.bits,.string y.aWx,.int .i64 y.rows,.int .i64 y.aWv,.slice CS y.c.length CC,.int .i64 y.aWw,.slice GS y.g.length GC] 103)=v2 at*;generalize hAA:w2.heap.size=A at*;clear rl
 go_loopw [40] (λi wr=>∃(k:Nat) (y:Sk) (h:aR),k<=P.length/\i=.int .i64 k/\MgS w A ((w.heap.size+1)+1) [((w.heap.size+1),#[.int .i64 0,.int .i64 0,.slice none 0 0,.int .i64 0,.string ⟨#[]⟩,.int .i64 0,.int .i64 0,.slice none 0 0,.int .i64 0,.slice none 0 0],103),(w.heap.size,#[.int .u64 nx,.slice s M.length cap],77)] y h wr/\dI A w2 wr/\y.Ok/\y.kind=kd/\(MgN T sc kd->MgY T k y)) (λi _=>P.length-(intOf i).toNat)
 case atStart=>exact⟨0,y,_,cJ _,rfl,HI,HBA.out,HY.out.2.2,HY.out.1,λh=>⟨λ_=>HY.out.2.1 h.2.2,λ_ _ _ _ h=>by cases h⟩⟩
 case round=>
  clear HI HBA;obtain⟨k,z,⟨⟨ES,EC⟩,⟨CS,CC⟩,⟨GS,GC⟩⟩,hk,rfl,hI,hbut,hzo,hzk,hzx⟩:=hrel
  by_cases hlt:k<P.length
  .obtain⟨p,hp⟩:∃p,P[k]? =some p:=⟨_,cZ hlt⟩;obtain⟨gp,op,hps,hgp,hpc⟩:=(HPd.out wr hbut).rd k p hp;have hpc0:=hpc 0 _ rfl;simp only at hps;subst hps;rw[Nat.mul_one,Nat.add_zero] at hpc0;have hpT:=HP.out.2.2.1 p (bK hp);obtain⟨g,o,hts⟩:=HT.out.1.addr (by intro h;rw[h] at hpT;simp at hpT);simp only at hts;subst hts;obtain⟨⟨lab,sk,sn,⟨ls,lc⟩,⟨⟨es,ec⟩,⟨cs,cc⟩,⟨gs,gc⟩⟩⟩,hx⟩:∃x,T[p]? =some x:=⟨_,cZ hpT⟩;have hS:=HT.out.1.s _ (bK hx);have hO:=(HT.out.2.1.ok _ (bK hx)).1;have hBw:Below w.heap.size w wr:=hI.st.below;have tce:=cG (HT.out.1.aWu hBw) hx;have HC:=aA (show∀W,Below w.heap.size w W->_ from λW hW=>cG (HT.out.1.aWu hW) hx);have hck:wr.cell? ⟨g,o+p*12+1,none⟩=some (.int .i64 sk.kind):=tce.2.2.1;have HX:=aA (aB hp (aB hx hzx));clear tce hpc hp hx hzx
   by_cases hkk:sk.kind=kd
   .have hkk':sk.kind=z.kind:=hkk.trans hzk.symm;have HG:=aA (show∀W,Below wr.heap.size wr W->Calls prog 53 #[.agg #[.int .i64 z.kind,.int .i64 z.lev,.slice ES z.e.length EC,.int .i64 z.bits,.string z.aWx,.int .i64 z.rows,.int .i64 z.aWv,.slice CS z.c.length CC,.int .i64 z.aWw,.slice GS z.g.length GC],.agg #[.int .i64 sk.kind,.int .i64 sk.lev,.slice es sk.e.length ec,.int .i64 sk.bits,.string sk.aWx,.int .i64 sk.rows,.int .i64 sk.aWv,.slice cs sk.c.length cc,.int .i64 sk.aWw,.slice gs sk.g.length gc]] W (fD W (gW z sk)) from λW hW=>jS z sk hkk' hzo hO ⟨⟨ES,EC⟩,⟨CS,CC⟩,⟨GS,GC⟩⟩ ⟨⟨es,ec⟩,⟨cs,cc⟩,⟨gs,gc⟩⟩ W (HT.out.2.2.aWu (hBw.trans (hW.mono hBw.size))) (hI.r.aWu hW) (hS.k.aWu (hBw.trans (hW.mono hBw.size))));have st3:=hI.st;have HZ:=aA (aB hI (aB hbut (aB hzo hzk)));have hAw:A<wr.heap.size:=aC (st3.blk _ (bK (i:=0) rfl));have hkb:(sk.kind==kd)=true:=by simpa using hkk
    clear hS hO hI hbut hzo hzk hkk hkk';go_wp2_with fail;refine rE st3 10 [9] [.val (.agg #[.int .i64 z.kind,.int .i64 z.lev,.slice ES z.e.length EC,.int .i64 z.bits,.string z.aWx,.int .i64 z.rows,.int .i64 z.aWv,.slice CS z.c.length CC,.int .i64 z.aWw,.slice GS z.g.length GC]),.val (.slice (some ⟨g,o,none⟩) T.length tc),.val (.int .i64 p),.val (pv g (o+p*12)),.val (pv g (o+p*12+1)),.val (.agg #[.int .i64 sk.kind,.int .i64 sk.lev,.slice es sk.e.length ec,.int .i64 sk.bits,.string sk.aWx,.int .i64 sk.rows,.int .i64 sk.aWv,.slice cs sk.c.length cc,.int .i64 sk.aWw,.slice gs sk.g.length gc]),.fct (uC wr.heap.size (gW z sk)) (sQ _ _),.fct (uC wr.heap.size (gW z sk)) (sQ _ _),.fct (aT9 wr.heap.size (gW z sk)) (aDg _ _),.val (.int .i64 0)] ?spec ?late ?endd
    case spec=>
     refine⟨?_,?_,?_,?_,?_,?_,?_,?_,?_,?_,trivial⟩
     all_goals(intro ρ W kc kf hW sW rl hu hd;simp only[aI] at rl)
     have u14:ρ (.tmp 14)=pv A 0:=cR hu 14;rotate_left;have u2:ρ (.tmp 2)=.slice (some ⟨g,o,none⟩) T.length tc:=cR hu 2;rotate_left;have u16:ρ (.tmp 16)=.int .i64 p:=cR hu 16;rotate_left;have u54:ρ (.tmp 54)=_:=aK hd 1 54;have u55:ρ (.tmp 55)=_:=aK hd 2 55;rotate_left;have u56:ρ (.tmp 56)=_:=aK hd 3 56;rotate_left;have u57:ρ (.tmp 57)=_:=aK hd 4 57;have tce:=HC.out W sW.below;rotate_left
     .have u53:ρ (.tmp 53)=_:=aK hd 0 53;have u58:ρ (.tmp 58)=_:=aK hd 5 58;refine aF rfl ?_;go_simp;refine⟨aW,(HG.out W hW).mono ?_⟩;rintro e w' ⟨z9,h9,⟨hm9,ho9⟩,rfl,hd9,hf9,hb'⟩;exact⟨_,rfl,hb',z9,h9,⟨hm9,ho9⟩,rfl,hd9,hf9.mono hW.size⟩
     .have f59:uC wr.heap.size (gW z sk) (ρ (.tmp 59)) W:=aK hd 6 59;obtain⟨z9,h9,hm9,u59,hd9,hf9⟩:=f59;refine aF rfl ?_;go_simp;exact aG ⟨z9,h9,hm9,rfl,hd9,hf9⟩
     .have f52:uC wr.heap.size (gW z sk) (ρ (.tmp 52)) W:=aK hd 7 52;obtain⟨z9,h9,hm9,u52,hd9,hf9⟩:=f52;refine aF rfl ?_;go_simp;exact aG ⟨z9,h9,hm9,rfl,hd9,hf9⟩
     have f52:uC wr.heap.size (gW z sk) (ρ (.tmp 52)) W:=aK hd 7 52;obtain⟨z9,h9,hm9,u52,hd9,hf9⟩:=f52;rotate_left
     all_goals(refine aF rfl ?_;go_simp;exact aG rfl)
    case late=>
     intro q hqm oq hoq ρ W kc hu hd;simp only[List.mem_cons,List.not_mem_nil,or_false] at hqm;rcases hqm with rfl
     .cases hoq;obtain⟨z9,h9,hm9,u52,hd9,hf9⟩:uC wr.heap.size (gW z sk) (ρ (.tmp 52)) W:=aK hd 7 52;refine⟨.int .i64 0,λW'=> ?_,λ_=>rfl⟩;go_simp
    case endd=>
     rintro v W hW sW rl ⟨h6,h7,h8,-⟩;simp only[aI] at rl;obtain⟨z9,⟨⟨es9,ec9⟩,⟨cs9,cc9⟩,⟨gs9,gc9⟩⟩,⟨hm9,ho9⟩,v8,hd9,hf9⟩:=h8;rw[v8];simp only[aR.v,Hd.v];clear h6 h7 v8;generalize v 6=v6 at*;generalize v 7=v7 at*;have st5:=sW.aWy (dR hz1 (by have:=hz2;omega)) (.int .i64 z9.kind) (.int .i64 z9.lev) (.slice es9 z9.e.length ec9) (.int .i64 z9.bits) (.string z9.aWx) (.int .i64 z9.rows) (.int .i64 z9.aWv) (.slice cs9 z9.c.length cc9) (.int .i64 z9.aWw) (.slice gs9 z9.g.length gc9);have HF:=aA (aB hm9 (aB ho9 (aB hd9 (aB hf9 (aB st5 hW)))));clear hm9 ho9 hd9 hf9 st5 hW sW st3 HG;go_wp2_with fail;go_roundw
     case rel=>
      have hfA:cQ (A+1) ⟨⟨es9,ec9⟩,⟨cs9,cc9⟩,⟨gs9,gc9⟩⟩:=HF.out.2.2.2.1.mono (by omega);have hku:aM (A+1) W _:=(aM.refl (A+1) W).aWy (A:=A) (by omega) (.int .i64 z9.kind) (.int .i64 z9.lev) (.slice es9 z9.e.length ec9) (.int .i64 z9.bits) (.string z9.aWx) (.int .i64 z9.rows) (.int .i64 z9.aWv) (.slice cs9 z9.c.length cc9) (.int .i64 z9.aWw) (.slice gs9 z9.g.length gc9);refine⟨k+1,z9,⟨⟨es9,ec9⟩,⟨cs9,cc9⟩,⟨gs9,gc9⟩⟩,hlt,by go_num,⟨HF.out.2.2.2.2.1,HF.out.2.2.1.up hfA hku,HF.out.2.2.2.1.mono (by omega),kJ.of hfA (by omega)⟩,(HZ.out.2.1.trans (dI.of HF.out.2.2.2.2.2)).aWy (.int .i64 z9.kind) (.int .i64 z9.lev) (.slice es9 z9.e.length ec9) (.int .i64 z9.bits) (.string z9.aWx) (.int .i64 z9.rows) (.int .i64 z9.aWv) (.slice cs9 z9.c.length cc9) (.int .i64 z9.aWw) (.slice gs9 z9.g.length gc9),HF.out.2.1,HF.out.1.1.trans HZ.out.2.2.2,λh=> ?_⟩;have h1:=HP.out.2.2.2 ⟨h.1,h.2.1⟩;have h2:=HX.out.1;rw[h1] at h2;obtain⟨_,h3⟩:=gJ.1 h2;rw[List.getElem_range] at h3;subst h3;obtain⟨q1,q2,q3⟩:=h.1.mem HX.out.2.1;refine⟨λh=>by omega,λx L a b _=> ?_⟩;rw[q3] at a;cases a;simp only at b;subst b;have hz0:=(HX.out.2.2 h).1 q1;have hok:=(HT.out.2.1.ok _ (bK HX.out.2.1)).1;have h5:=HF.out.1.2 [] L hz0 rfl (by rw[mM L hok.1];exact hok.2.2);rw[mM L hok.1] at h5;exact h5
     case measure=>simp[intOf];omega
   .have HZ:=aA (aB hI (aB hbut (aB hzo hzk)));have HKK:=aA hkk;have hkb:(sk.kind==kd)=false:=by simpa using hkk
    clear hS hO hI hbut hzo hzk;go_wp2_with fail;go_roundw
    case rel=>
     refine⟨k+1,z,_,hlt,by go_num,HZ.out.1,HZ.out.2.1,HZ.out.2.2.1,HZ.out.2.2.2,λh=>⟨λh=>by omega,λx L a b _=> ?_⟩⟩;obtain⟨q1,q2,q3⟩:=h.1.mem HX.out.2.1;rw[q3] at a;cases a;simp only at b;subst b;exact(HKK.out h.2.2.symm).elim
    case measure=>simp[intOf];omega
  .obtain rfl:k=P.length:=by omega
   have st3:=hI.st;have rl:=st3.rl;have hAw:A<wr.heap.size:=aC (st3.blk _ (bK (i:=0) rfl));have HZ:=aA (aB hI (aB hbut (aB hzo (aB hzk hzx))));clear hI hbut hzo hzk hzx st3;go_wp2_with fail;refine bodyPost_ret (v:=.tuple #[.agg #[.int .i64 z.kind,.int .i64 z.lev,.slice ES z.e.length EC,.int .i64 z.bits,.string z.aWx,.int .i64 z.rows,.int .i64 z.aWv,.slice CS z.c.length CC,.int .i64 z.aWw,.slice GS z.g.length GC],.int .i64 0]) (by simp[results,results83,go_sem,rl]) rfl ⟨.inr ⟨z,⟨⟨ES,EC⟩,⟨CS,CC⟩,⟨GS,GC⟩⟩,rfl,HZ.out.2.2.1,HZ.out.2.2.2.1,HZ.out.1.r.up HZ.out.1.f ((aM.refl _ _).aWy (A:=(w.heap.size+1)) (Nat.lt_succ_self _) (.int .i64 z.kind) (.int .i64 z.lev) (.slice ES z.e.length EC) (.int .i64 z.bits) (.string z.aWx) (.int .i64 z.rows) (.int .i64 z.aWv) (.slice CS z.c.length CC) (.int .i64 z.aWw) (.slice GS z.g.length GC)),HZ.out.1.f.mono (by omega),λh=> ?_⟩,?_⟩
   .have h1:=HP.out.2.2.2 ⟨h.1,h.2.1⟩;have h2:=HZ.out.2.2.2.2 h;rw[h1,List.length_range] at h2;exact⟨λh=>h2.1 (by rw[h];rfl),λx L a b=>h2.2 x L a b (by rw[a];rfl)⟩
   .repeat(with_reducible refine Below.setCell ?_ (by simp;try omega) _)
    exact HZ.out.1.st.below
def aWh (w:World)(nx:Nat)(e:Ending)(w':World):Prop:=
 (∃E:Int,E≠0/\e=.returned (.tuple #[.agg #[.int .u64 0,.slice none 0 0],.int .u64 0,.int .i64 E]))\/∃(d:Hd) (L':List Gr),e=.returned (.tuple #[.agg #[.int .u64 ((nx+1:Nat):Int),d.v L'.length],.int .u64 nx,.int .i64 0])/\bS 3 eL w' d L'/\GOk L'/\aT w.heap.size d/\nx+1<=aJ
theorem aE5 (L:List Gr)(hL:GOk L)(nx:Nat)(hnx:nx<=aJ)(s:Option Addr)(cap:Nat)(to:Nat)(sc:ByteArray)(hsc:sc.size<=100000)(w:World)(hG:aQ w)(hR:bS 3 eL w ⟨s,cap⟩ L):Calls prog 56 #[.agg #[.int .u64 nx,.slice s L.length cap],.int .u64 to,.string sc] w λe w'=>aWh w nx e w'/\Below w.heap.size w w':=by
 have st0:=((St.start w).alloc (cs:= #[.int .u64 nx,.slice s L.length cap]) (T:=77)).alloc (cs:= #[.int .u64 0,.slice none 0 0]) (T:=77);simp only[World.size_alloc] at st0;have HR:=aA (λW (hW:Below w.heap.size w W)=>kX L hL nx s cap W (hG.aWu hW) (hR.rd.aWu aH hW));have HS:=aA (λW (hW:Below w.heap.size w W)=>kQ sc hsc W (hG.aWu hW));have HH:=aA (aB hL (aB hR (aB hsc hnx)));have hl:=hL.len;clear hL hG hR hsc hnx;go_enter func56,ntmps56;go_wp2_with fail;refine(HR.out _ st0.below).mono ?_;rintro e w1 ⟨⟨b,rfl,-⟩,hb1⟩;have st1:=st0.to hb1;clear st0 hb1 HR;cases b with
 |false=>
  have rl:=st1.rl;have hz9:=st1.below.size;go_wp2_with fail;refine bodyPost_ret (v:=.tuple #[.agg #[.int .u64 0,.slice none 0 0],.int .u64 0,.int .i64 150]) (by simp[results,results56,go_sem,rl]) rfl ⟨.inl ⟨150,by decide,rfl⟩,?_⟩
  repeat(with_reducible refine Below.setCell ?_ (by simp;try omega) _)
  exact st1.below
 |true=>
 go_wp2_with fail;refine(HS.out _ st1.below).mono ?_;rintro e w2 ⟨⟨b,rfl,-⟩,hb2⟩;have st2:=st1.to hb2;clear st1 hb2 HS;cases b with
 |false=>
  have rl:=st2.rl;have hz9:=st2.below.size;go_wp2_with fail;refine bodyPost_ret (v:=.tuple #[.agg #[.int .u64 0,.slice none 0 0],.int .u64 0,.int .i64 50]) (by simp[results,results56,go_sem,rl]) rfl ⟨.inl ⟨50,by decide,rfl⟩,?_⟩
  repeat(with_reducible refine Below.setCell ?_ (by simp;try omega) _)
  exact st2.below
 |true=>
 by_cases h10:L.length=10
 .have h10':(L.length:Int)=10:=by omega
  have rl:=st2.rl;have hz9:=st2.below.size;go_wp2_with fail;refine bodyPost_ret (v:=.tuple #[.agg #[.int .u64 0,.slice none 0 0],.int .u64 0,.int .i64 151]) (by simp[results,results56,go_sem,rl]) rfl ⟨.inl ⟨151,by decide,rfl⟩,?_⟩
  repeat(with_reducible refine Below.setCell ?_ (by simp;try omega) _)
  exact st2.below
 have h10':¬(L.length:Int)=10:=by omega
 by_cases hmx:(nx:Int)=18446744073709551615
 .have hmb:((nx:Int)==18446744073709551615)=true:=by simpa using hmx
  clear hmx;have rl:=st2.rl;have hz9:=st2.below.size;go_wp2_with fail;refine bodyPost_ret (v:=.tuple #[.agg #[.int .u64 0,.slice none 0 0],.int .u64 0,.int .i64 151]) (by simp[results,results56,go_sem,rl]) rfl ⟨.inl ⟨151,by decide,rfl⟩,?_⟩
  repeat(with_reducible refine Below.setCell ?_ (by simp;try omega) _)
  exact st2.below
 have hmb:((nx:Int)==18446744073709551615)=false:=by simpa using hmx
 have HMX:=aA hmx;clear hmx;have rl:=st2.rl;have hz2:=st2.below.size;go_wp2_with(first
  |(at_make;refine rU (enc:=eL) wM rfl _ _ rfl (L.length+1) rfl (by simp[Act.eval,Act.put]) (by omega) (by decide) ?_;intro w4 hO hb4;have st4:=st2.to hb4;clear rl;have rl:=st4.rules;simp only[aI] at rl)
  |(at_builtin;refine cY wM eI oZ rfl (.tmp 33) (.tmp 35) rfl w2.heap.size (.slice (some ⟨w2.heap.size,0,none⟩) 0 (L.length+1)) ([]:List Gr) rfl st4 hO hz2 (by intro z hz;exact aC (st2.blk z hz)) hb4.size L L.length rfl s cap rfl (λh=>by have:=HH.out.2.1.nil h;have:=HH.out.2.1.cap;simp only at*;omega) (HH.out.2.1.rd.aWu aH st4.below) (by simp;omega) (by decide) ?_;intro v5 w5 ap5;have st5:=ap5.st;clear rl;have rl:=st5.rules;simp only[aI] at rl;obtain⟨s5,c5,e5,-⟩:=ap5.own.form eI;subst e5;have ho5:=ap5.own;rw[List.nil_append] at ho5)
  |(at_builtin;refine fI wM eI oZ rfl (.tmp 37) (.tmp 43) rfl w2.heap.size (.slice s5 L.length c5) L (⟨nx,to,sc⟩:Gr) rfl st5 ho5 hz2 (by intro z hz;exact aC (st2.blk z hz)) (dR hb4.size ap5.size) _ rfl w5.heap.size rfl rfl (by omega) (by decide) ?_;intro v6 w6 ap6;have st6:=ap6.st)
  |fail)
 have HAP:=aA (aB ap6.own ap6.st);obtain⟨d6,hv6,hd6,hf6⟩:=bS.aXa eI ap6.own;subst hv6;have HD6:=aA (aB hd6 hf6);have rl6:=st6.rl;have hnx2:nx+1<=aJ:=by have:=HMX.out;have:=HH.out.2.2.2;unfold aJ at*;omega
 have hwr:IntKind.u64.wrap ((nx:Int)+1)=((nx+1:Nat):Int):=by rw[IntKind.wrap_u64];unfold aJ at hnx2;omega
 have HNX:=aA hnx2;clear rl st4 st5 ho5 ap5 ap6 hO hb4 hd6 hf6 hnx2;have HLE:=aA (show(L++[(⟨nx,to,sc⟩:Gr)]).length<=10 by simp;omega);obtain⟨n6,hn6⟩:∃n6,(L++[(⟨nx,to,sc⟩:Gr)]).length=n6:=⟨_,rfl⟩;have HN6:=aA hn6;rw[hn6];clear hn6;simp only[Hd.v];have hw1:w.heap.size+1<w2.heap.size:=aC (st2.blk (w.heap.size+1,#[.int .u64 0,.slice none 0 0],77) (by simp));clear HAP
 go_region
 go_wp2_with fail;refine bodyPost_ret (v:=.tuple #[.agg #[.int .u64 ((nx:Int)+1),.slice d6.s n6 d6.cap],.int .u64 nx,.int .i64 0]) (by simp[results,results56,go_sem,rl6]) rfl ⟨.inr ⟨d6,L++[(⟨nx,to,sc⟩:Gr)],?_,?_,?_,HD6.out.2.mono hz2,HNX.out⟩,?_⟩
 .rw[HN6.out];rfl
 .exact HD6.out.1.up (B:=w2.heap.size) HD6.out.2 (((aM.refl _ _).set (by omega) _).set (by omega) _)
 .exact⟨HLE.out,λx hx=>by rcases List.mem_append.1 hx with hx|hx;exact HH.out.1.sm x hx;simp at hx;subst hx;exact HH.out.2.2.1⟩
 .refine Below.drew ?_
  repeat(with_reducible refine Below.setCell ?_ (by simp;try omega) _)
  exact st6.below
theorem aEn (L:List Gr)(hl:L.length<=100000)(g o cap:Nat)(w:World)(hL:bS 3 eL w ⟨some ⟨g,o,none⟩,cap⟩ L):
  Calls prog 94 #[.slice (some ⟨g,o,none⟩) L.length cap] w λe w'=>∃v,e=.returned v/\aL 3 eL 208 w' w.heap.size v L/\Below w.heap.size w w':=by
 obtain⟨hrd,hcap,hmax,hnil,hpl⟩:=hL;simp only at hrd hcap hmax hnil hpl;have hlb:L.length+0<=1000000:=by omega
 have HL:=aA hrd;clear hpl hnil hmax;have hq:=Lib.run_eql_slice_nil (P:=prog);go_enter func94,ntmps94;go_wp2_with(at_builtin;refine cY wM eI oZ rfl (.tmp 5) (.tmp 6) rfl w.heap.size (.slice (some ⟨w.heap.size,0,none⟩) 0 0) ([]:List Gr) rfl ((St.start w).to (aW.alloc aH _)) (lH w 208 3 eL) aH (by simp) ?_ L L.length rfl (some ⟨g,o,none⟩) cap rfl (λh=>by cases h) (HL.out.aWu aH (aW.alloc aH _)) ?_ (by decide) ?_)
 .simp
 .simpa using hlb
 intro v' w' ap;have hown:=ap.own;obtain⟨d,rfl,hd,hf⟩:=bS.aXa eI ap.own;go_wp2_with fail;go_ret;exact⟨_,rfl,hown,ap.st.below⟩
theorem aNg (x:Gr)(A:Nat)(id:Nat)(w:World)(hA:w.cell? ⟨A,0,none⟩=some (.int .u64 id))(hAl:A<w.heap.size):
  Calls prog 92 #[.agg #[.int .u64 x.id,.int .u64 x.to,.string x.sc],pv A 0] w λe w'=>mW (λ_=>True) e/\Below w.heap.size w w':=by
 obtain⟨xi,xt,xs⟩:=x;have st0:=(St.start w).alloc (cs:= #[.int .u64 xi,.int .u64 xt,.string xs]) (T:=208);have c1:=(st0.below.cell (p:=⟨A,0,none⟩) hAl).trans hA;clear hA;show Calls prog 92 #[.agg #[.int .u64 xi,.int .u64 xt,.string xs],_] w _;have hb:=st0.below;go_enter func92,ntmps92;go_wp2_with fail;go_ret;exact⟨⟨_,rfl,trivial⟩,hb⟩
theorem aLy (M:List Gr)(hM:GOk M)(s:Option Addr)(cap:Nat)(A:Nat)(id:Nat)(w:World)(hR:Rd 3 eL w s M)(hA:w.cell? ⟨A,0,none⟩=some (.int .u64 id))(hAl:A<w.heap.size):
  Calls prog 91 #[.slice s M.length cap,.func (.func 92) #[] #[pv A 0]] w λe w'=>(∃i:Int,e=.returned (.int .i64 i)/\(i= -1\/∃k:Nat,i=(k:Int)/\k<M.length))/\Below w.heap.size w w':=by
 have HH:=aA (aB hM (aB hR (aB hA hAl)));have hl:=hM.len;clear hM hR hA hAl;go_enter func91,ntmps91;go_wp2_with fail
 go_loopw [8] (λi wr=>∃k:Nat,k<=M.length/\i=.int .i64 k/\Below w.heap.size w wr) (λi _=>M.length-(intOf i).toNat)
 case atStart=>exact⟨0,cJ _,rfl,aW⟩
 case round=>
  obtain⟨k,hk,rfl,hbw⟩:=hrel
  by_cases hlt:k<M.length
  .obtain⟨x,hx⟩:∃x,M[k]? =some x:=⟨_,cZ hlt⟩;obtain⟨g,o,rfl,hg,hc1,hc2,hc3⟩:=aNs (HH.out.2.1.aWu aH hbw) hx;have HF:=aA (aNg x A id wr ((hbw.cell (p:=⟨A,0,none⟩) HH.out.2.2.2).trans HH.out.2.2.1) (kG HH.out.2.2.2 hbw.size));clear hx;go_wp2_with fail;refine HF.out.mono ?_;rintro e w2 ⟨⟨b,rfl,-⟩,hb2⟩;have hb:=hbw.trans (hb2.mono hbw.size);clear hc1 hc2 hc3 hb2;cases b with
   |true=>
    go_wp2_with fail;go_ret;exact⟨⟨_,rfl,.inr ⟨k,rfl,hlt⟩⟩,hb⟩
   |false=>
    go_wp2_with fail;go_roundw
    case rel=>exact⟨k+1,hlt,by go_num,hb⟩
    case measure=>simp[intOf];omega
  .obtain rfl:k=M.length:=by omega
   go_wp2_with fail;go_ret;exact⟨⟨_,rfl,.inl rfl⟩,hbw⟩
end Go.Proofs.YtmgdbfmlnmahpaaGreatDoor
