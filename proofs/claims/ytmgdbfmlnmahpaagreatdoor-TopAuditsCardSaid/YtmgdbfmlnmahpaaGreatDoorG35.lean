/- Part of TopAudits. -/
import Derived.Test.YtmgdbfmlnmahpaaGreatDoorG34
namespace Go.Proofs.YtmgdbfmlnmahpaaGreatDoor
set_option linter.unusedSimpArgs false
set_option linter.unusedVariables false
set_option maxRecDepth 100000
set_option maxHeartbeats 4000000
open Go.Proofs.Tryz
open Go.RowKit Go.Shelf
section
variable {k:Nat}
theorem zU {α:Type}{enc:α->List Value}(hk:∀x,(enc x).length=k):∀(L:List α) (i:Nat),(L.take i).flatMap enc=(L.flatMap enc).take (i*k)
 |[],i=>by simp
 |x::L,0=>by simp
 |x::L,i+1=>by
  have h1:(enc x).take ((i+1)*k)=enc x:=List.take_of_length_le (by rw[hk,Nat.add_mul];omega);rw[List.take_succ_cons,List.flatMap_cons,List.flatMap_cons,zU hk L i,List.take_append,h1,hk];congr 2;rw[Nat.add_mul];omega
theorem aL.takeN {α:Type}{enc:α->List Value}{e:TypeId}(hk:∀x,(enc x).length=k){W:World}{B g n cap:Nat}{L:List α}(h:aL k enc e W B (.slice (some ⟨g,0,none⟩) n cap) L)(hn:n=L.length)(i:Nat)(hi:i<=n):aL k enc e W B (.slice (some ⟨g,0,none⟩) i cap) (L.take i):=by
 subst hn;have hl:(L.take i).length=i:=by simp;omega
 rcases h.2 with⟨hv,_⟩|⟨g',cap',cur,hv,hB,hbk,hcap,hcm,hcs,hct⟩
 .cases hv
 .cases hv;unfold aL;rw[hl];refine⟨by rw[eD hk,hl],.inr ⟨g,cap,cur,rfl,hB,hbk,by omega,hcm,hcs,?_⟩⟩;rw[zU hk,<-hct,List.take_take,Nat.min_eq_left (Nat.mul_le_mul_right k hi)]
theorem aCt {α:Type}{enc:α->List Value}{P:Program}{t e:TypeId}{bytes:Nat}(el:eM P t e k bytes)(hk:∀x,(enc x).length=k)(h1:∀x,∀v∈enc x,v.oneCell'=true){ops:Array Oper}{rest:List Oper}{o:Oper}{a:Act}{Q:Exit->Act->World->Prop}{W:World}(hgd:o.guard=none)(s x:Operand)
  (ho:o.op=.call {callee:=.builtin .append,args:= #[s,x],argTypes:= #[t,t]}) (B g n cap:Nat) (L:List α) (hn:n=L.length) (hs:a.eval s=.slice (some ⟨g,0,none⟩) n cap) (hown:aL k enc e W B (.slice (some ⟨g,0,none⟩) n cap) L)
  (M:List α) (m:Nat) (hm:m=M.length) (g' o' cx:Nat) (hx:a.eval x=.slice (some ⟨g',o',none⟩) m cx) (hM:Rd k enc W (some ⟨g',o',none⟩) M) (hroom:n+m<=cap)
  (h:∀w',aL k enc e w' B (.slice (some ⟨g,0,none⟩) (n+m) cap) (L++M)->W.grownBy w' (some g)->wpList P ops Q rest (a.put o.dst (.slice (some ⟨g,0,none⟩) (n+m) cap)) w'):
  wpList P ops Q (o::rest) a W:=by
 obtain⟨h2,h0,i,z,h3,h4,h5,h6,h7⟩:=el;subst hn;subst hm;refine wpList_append_own_spare _ hgd s x t ho B e i k h2 h3 h5 g L.length cap (L.flatMap enc) hs hown ⟨g',o',none⟩ M.length cx (M.flatMap enc) hx (eD hk M) (λj u hj=>kW hk h0 hM j u hj) (qU h1 M) hroom ?_;intro w' hown' hgr;exact h w' (by unfold aL;rw[List.length_append,List.flatMap_append];exact hown') hgr
def zG :Value:=.agg #[.int .u64 0,.int .u64 0,.string ⟨#[]⟩]
theorem aT7 :∀v∈zG.cells,v.oneCell'=true:=by
 intro v hv;simp[zG,Value.cells] at hv;rcases hv with rfl|rfl|rfl<;>rfl
theorem aQj (w:World):(zeroValue 208).run prog w=.ok zG w:=by kernel_rfl
theorem aGo {W:World}{g i m c:Nat}{cur:Array Value}(hb:W.heap[g]? =some (.cells cur 208 (0,0)))(hm0:0<m)(hs:(i+m)*3<=cur.size)(ty:TypeId):
  (Builtin.clear_ #[75] ty #[.slice (some ⟨g,i*3,none⟩) m c]).run prog W=.ok (.tuple #[]) (mB W g (i*3) (Builtin.zeroCells zG.cells m).toList):=by
 have hsz:(Builtin.zeroCells zG.cells m).toList.length=m*3:=by simp[size_zeroCells,zG,Value.cells]
 have hst:=run_storeCells_cells (P:=prog) g (i*3) (Builtin.zeroCells zG.cells m).toList 0 W (λj hj=>by
  rw[hsz] at hj;rw[aE hb,Array.getElem?_eq_getElem (by omega)];rfl) (λj hj=>bB hb _) (aAs _ (by simpa using aT7) _)
 simp only[Nat.add_zero] at hst;obtain⟨m',rfl⟩:∃m',m=m'+1:=⟨m-1,by omega⟩;rw[aB3];have hz:=aQj W;unfold zG at hst hz⊢;simp[Builtin.clear_,run_underlying underlying75,hz,hst]
theorem szG (W:World):(sizeOf (prog.elem 75)).run prog W=.ok 3 W:=by kernel_rfl
theorem aTw (g n c a:Nat)(h:a<=c)(W:World):(Instr.slice 75 (.slice (some ⟨g,0,none⟩) n c) none (some (.int .i64 a)) none).run prog W=.ok (.slice (some ⟨g,0,none⟩) a c) W:=by
 rw[run_slice_h W _ _ n c (by kernel_rfl) .i64 (a:Int) (by omega) (by omega),szG];simp[Result.andThen,sliced,Addr.add_lit]
def zO (g c b:Nat):Nat:=if c=b then 0 else b*3
theorem aPd (g n c b:Nat)(h:b<=n)(W:World):(Instr.slice 75 (.slice (some ⟨g,0,none⟩) n c) (some (.int .i64 b)) none none).run prog W=.ok (.slice (some ⟨g,zO g c b,none⟩) (n-b) (c-b)) W:=by
 rw[run_slice_l W _ _ n c (by kernel_rfl) .i64 (b:Int) (by omega) (by omega),szG];simp only[Result.andThen,sliced,Int.toNat_natCast,zO]
 by_cases e:c=b
 .simp[e,Addr.add_lit]
 .simp[e,Addr.add_lit]
theorem aRg (g n c i j:Nat)(h1:i<=j)(h2:j<=n)(h3:n<=c):∃v,∀W:World,(Instr.slice 75 (.slice (some ⟨g,0,none⟩) n c) (some (.int .i64 i)) (some (.int .i64 j)) (some (.int .i64 n))).run prog W=.ok v W:=by
 have h:=λW=>run_slice_lhm (P:=prog) W 75 (some ⟨g,0,none⟩) n c (by kernel_rfl) .i64 .i64 .i64 (i:Int) (j:Int) (n:Int) (by omega) (by omega) (by omega) (by omega);simp only[szG,Result.andThen] at h;exact⟨_,h⟩
theorem aRh (g n c i j:Nat)(h1:i<j)(h2:j<=c)(W:World):(Instr.slice 75 (.slice (some ⟨g,0,none⟩) n c) (some (.int .i64 i)) (some (.int .i64 j)) none).run prog W=.ok (.slice (some ⟨g,i*3,none⟩) (j-i) (c-i)) W:=by
 rw[run_slice_lh W _ _ n c (by kernel_rfl) .i64 .i64 (i:Int) (j:Int) (by omega) (by omega) (by omega),szG];simp only[Result.andThen,sliced,Int.toNat_natCast];rw[if_neg (by omega)];simp[Addr.add_lit]
theorem aOt (B g cap i:Nat)(L:List Gr)(n:Nat)(hn:n=L.length)(hl:n<=10)(hi:i<n)(w:World)(hO:aL 3 eL 208 w B (.slice (some ⟨g,0,none⟩) n cap) L):
  Calls prog 93 #[.slice (some ⟨g,0,none⟩) n cap,.int .i64 i,.int .i64 ((i+1:Nat):Int)] w λe w'=>∃L':List Gr,e=.returned (.slice (some ⟨g,0,none⟩) L'.length cap)/\bS 3 eL w' ⟨some ⟨g,0,none⟩,cap⟩ L'/\L'.length<=10/\(∀x∈L',x∈L)/\dI g w w':=by
 obtain⟨cur,hbk,hcap,hcm,hcs⟩:∃cur:Array Value,w.heap[g]? =some (.cells cur 208 (0,0))/\n<=cap/\cap<=9223372036854775807/\cur.size=cap*3:=by
  rcases hO.2 with⟨hv,_⟩|⟨g',cap',cur,hv,hB,hbk,hcap,hcm,hcs,hct⟩
  .cases hv
  .cases hv;exact⟨cur,hbk,by omega,by unfold maxLen at hcm;omega,hcs⟩
 have hgw:=aC hbk;obtain⟨v13,h13⟩:=aRg g n cap i (i+1) (by omega) (by omega) hcap;have h22:=aTw g n cap i (by omega);have h25:=aPd g n cap (i+1) (by omega);have h31:=aRh g (n-1) cap (n-1) n (by omega) hcap;rw[show n-(n-1)=1 by omega] at h31;have hbe:((i:Int)==((i+1:Nat):Int))=false:=by simp;omega
 have HH:=aA (aB hO (aB hn (aB hbk (aB hcm hcs))));clear hO hn hbk hcm hcs;go_enter func93,ntmps93;go_wp2_with fail;have st0:=St.start w;refine rS st0 6 [.val (.slice (some ⟨g,0,none⟩) n cap),.val (.int .i64 i),.val (.slice (some ⟨g,0,none⟩) i cap),.val (.slice (some ⟨g,0,none⟩) n cap),.val (.int .i64 ((i+1:Nat):Int)),.val (.slice (some ⟨g,zO g cap (i+1),none⟩) (n-(i+1)) (cap-(i+1)))] ?spec ?endd
 case spec=>
  refine⟨?_,?_,?_,?_,?_,?_,trivial⟩
  all_goals(intro ρ W kc kf hW sW rl hu hd;simp only[aI] at rl)
  have u0:ρ (.tmp 0)=.slice (some ⟨g,0,none⟩) n cap:=cR hu 0;rotate_left;have u1:ρ (.tmp 1)=.int .i64 i:=cR hu 1;rotate_left;have u20:ρ (.tmp 20)=_:=aK hd 0 20;have u21:ρ (.tmp 21)=_:=aK hd 1 21;rotate_left;have u0:ρ (.tmp 0)=.slice (some ⟨g,0,none⟩) n cap:=cR hu 0;rotate_left;have u2:ρ (.tmp 2)=.int .i64 ((i+1:Nat):Int):=cR hu 2;rotate_left
  .have u23:ρ (.tmp 23)=_:=aK hd 3 23;have u24:ρ (.tmp 24)=_:=aK hd 4 24;refine aF rfl ?_;go_simp;rw[if_pos (by omega)];refine aG (show Value.slice _ _ _=Value.slice _ _ _ from ?_);unfold zO
   by_cases e:cap=i+1<;>simp[e]
  all_goals(refine aF rfl ?_;go_simp;exact aG rfl)
 case endd=>
  intro v W hW sW rl _;simp only[aI] at rl;have hO:=aL.keep _ _ HH.out.1 hW;have hO1:=aL.takeN eI hO HH.out.2.1 i (by omega);have hM:Rd 3 eL W (some ⟨g,zO g cap (i+1),none⟩) (L.drop (i+1)):=by
   have hrd:=(bS.aXa eI hO);obtain⟨⟨d1,d2⟩,e,hd,-⟩:=hrd;injection e with e1 _ e3;subst e1;subst e3
   by_cases e:cap=i+1
   .have:L.drop (i+1)=[]:=List.drop_eq_nil_of_le (by have:=HH.out.2.1;omega);rw[this];exact Rd.nil _ _
   .have:=Rd.drop hd.rd (i+1);unfold zO;rw[if_neg e]
    simpa using this
  refine aCt wM eI oZ rfl (.tmp 22) (.tmp 25) rfl B g i cap (L.take i) (by have:=HH.out.2.1;simp;omega) rfl hO1 (L.drop (i+1)) (n-(i+1)) (by have:=HH.out.2.1;simp;omega) g _ _ rfl hM (by omega) ?_;intro w5 ho5 hg5;rw[show i+(n-(i+1))=n-1 by omega];have hL':(L.take i++L.drop (i+1)).length=n-1:=by have:=HH.out.2.1;simp;omega
  rw[show i+(n-(i+1))=n-1 by omega] at ho5;obtain⟨cur5,hbk5,hcs5⟩:∃cur:Array Value,w5.heap[g]? =some (.cells cur 208 (0,0))/\cur.size=cap*3:=by
   rcases ho5.2 with⟨hv,_⟩|⟨g',cap',cur,hv,hB,hbk,hcap,hcm,hcs,hct⟩
   .cases hv
   .simp only[Value.slice.injEq,Option.some.injEq,Addr.mk.injEq] at hv;obtain⟨⟨rfl,-⟩,-,rfl⟩:=hv;exact⟨cur,hbk,hcs⟩
  have hcl:=λty=>aGo (i:=n-1) (m:=1) (c:=cap-(n-1)) hbk5 (by omega) (by omega) ty;obtain⟨zs,hzs⟩:∃zs,(Builtin.zeroCells zG.cells 1).toList=zs:=⟨_,rfl⟩;have hzl:zs.length=3:=by rw[<-hzs];simp[size_zeroCells,zG,Value.cells]
  rw[hzs] at hcl;obtain⟨cur6,e1,e2,e3,e4⟩:=nW g _ zs ((n-1)*3) w5 cur5 hbk5 (by rw[hzl];omega);have HB:=aA (jV g zs ((n-1)*3) w w5 ((dI.of hW).trans ⟨hg5.os,hg5.tape,hg5.output,hg5.size,λk hk hn=>hg5.block k hk (λe=>hn (by cases e;rfl))⟩));have HR:Hid (bS 3 eL (mB w5 g ((n-1)*3) zs) ⟨some ⟨g,0,none⟩,cap⟩ (L.take i++L.drop (i+1))):=aA (by
   obtain⟨⟨d1,d2⟩,e,hd,-⟩:=bS.aXa eI ho5;injection e with q1 _ q3;subst q1;subst q3;refine⟨λk x hx=> ?_,hd.cap,hd.max,hd.nil,hd.plain⟩;have hk:=(gJ.1 hx).1;rw[hL'] at hk;obtain⟨g',o',e',hg',hc'⟩:=hd.rd k x hx;cases e';refine⟨g,0,rfl,by rw[zW];exact hg',λj u hj=> ?_⟩;have hj3:j<3:=by have:=(gJ.1 hj).1;rwa[eI] at this
   rw[<-hc' j u hj,aE e1,aE hbk5];exact e3 _ (.inl (by omega)))
  have HLL:=aA (aB hL' (show∀x∈L.take i++L.drop (i+1),x∈L from λx hx=>by
   rcases List.mem_append.1 hx with hx|hx
   .exact List.mem_of_mem_take hx
   .exact List.mem_of_mem_drop hx))
  generalize L.take i++L.drop (i+1)=L' at*;clear hbk5 hcs5 hzs hzl e1 e2 e3 e4 ho5 hg5 hO hO1 hM hL' hW sW h22 h25 h13;go_wp2_with fail;go_ret;refine⟨L',?_,HR.out,by have:=HLL.out.1;omega,HLL.out.2,HB.out⟩;rw[HLL.out.1];rfl
end
def aV2 (w:World)(e:Ending)(w':World):Prop:=
 ∃(d:Hd) (L':List Gr) (nx':Nat) (E:Int),e=.returned (.tuple #[.agg #[.int .u64 nx',.slice d.s L'.length d.cap],.int .i64 E])/\bS 3 eL w' d L'/\GOk L'/\aT w.heap.size d/\nx'<=aJ
theorem aBs (L:List Gr)(hL:GOk L)(nx:Nat)(hnx:nx<=aJ)(s:Option Addr)(cap:Nat)(id:Nat)(w:World)(hG:aQ w)(hR:bS 3 eL w ⟨s,cap⟩ L):Calls prog 58 #[.agg #[.int .u64 nx,.slice s L.length cap],.int .u64 id] w λe w'=>aV2 w e w'/\Below w.heap.size w w':=by
 have hmf:∀(fn:Fn) (first cap:Array Value) (w:World),(Instr.makeFunc fn first cap).run prog w=.ok (.func fn first cap) w:=λ_ _ _ _=>rfl;have st0:=(((St.start w).alloc (cs:= #[.int .u64 nx,.slice s L.length cap]) (T:=77)).alloc (cs:= #[.int .u64 id]) (T:=22)).alloc (cs:= #[.int .u64 0,.slice none 0 0]) (T:=77);simp only[World.size_alloc] at st0;have HR:=aA (λW (hW:Below w.heap.size w W)=>kX L hL nx s cap W (hG.aWu hW) (hR.rd.aWu aH hW));have HI:=aA (λW (hW:Below w.heap.size w W) (hA:W.cell? ⟨w.heap.size+1,0,none⟩=some (.int .u64 id)) (hl:w.heap.size+1<W.heap.size)=>aLy L hL s cap (w.heap.size+1) id W (hR.rd.aWu aH hW) hA hl);have HH:=aA (aB hL (aB hR hnx));clear hL hG hR hnx;go_enter func58,ntmps58;go_wp2_with fail;refine(HR.out _ st0.below).mono ?_;rintro e w1 ⟨⟨b,rfl,-⟩,hb1⟩;have st1:=st0.to hb1;clear st0 hb1 HR;cases b with
 |false=>
  have rl:=st1.rl;have hz9:=st1.below.size;go_wp2_with fail;refine bodyPost_ret (v:=.tuple #[.agg #[.int .u64 0,.slice none 0 0],.int .i64 150]) (by simp[results,results58,go_sem,rl]) rfl ⟨⟨⟨none,0⟩,[],0,150,rfl,bS.none _,⟨by simp,λx hx=>by cases hx⟩,aT.none _,cJ _⟩,?_⟩
  repeat(with_reducible refine Below.setCell ?_ (by simp;try omega) _)
  exact st1.below
 |true=>
 have rl:=st1.rl;go_wp2_with fail;refine(HI.out _ st1.below (aE (st1.blk (w.heap.size+1,#[.int .u64 id],22) (by simp)) 0) (aC (st1.blk (w.heap.size+1,#[.int .u64 id],22) (by simp)))).mono ?_;rintro e w2 ⟨⟨i,rfl,hi⟩,hb2⟩;have st2:=st1.to hb2;clear st1 hb2 HI rl;rcases hi with rfl|⟨k,rfl,hk⟩
 .have hlt:decide ((-1:Int)<0)=true:=by decide
  have rl:=st2.rl;have hz9:=st2.below.size;go_wp2_with fail;refine bodyPost_ret (v:=.tuple #[.agg #[.int .u64 0,.slice none 0 0],.int .i64 121]) (by simp[results,results58,go_sem,rl]) rfl ⟨⟨⟨none,0⟩,[],0,121,rfl,bS.none _,⟨by simp,λx hx=>by cases hx⟩,aT.none _,cJ _⟩,?_⟩
  repeat(with_reducible refine Below.setCell ?_ (by simp;try omega) _)
  exact st2.below
 have hk0:decide ((k:Int)<0)=false:=by simp
 obtain⟨⟨d1,d2⟩,hs⟩:∃d:Nat×Nat,s=some ⟨d.1,d.2,none⟩:=by
  cases hs':s with
  |none=>
   have:=kV (show Rd 3 eL w none L by have:=HH.out.2.1.rd;simp only[hs'] at this;exact this);rw[this] at hk;simp at hk
  |some a=>
   obtain⟨g,o,e⟩:=HH.out.2.1.plain a hs';exact⟨(g,o),by rw[e]⟩
 subst hs;have HC:=aA (aEn L (by have:=HH.out.1.len;omega) d1 d2 cap w2 (HH.out.2.1.aWu st2.below));have rl:=st2.rl;clear hk0;have hz2:=st2.below.size;have HLT:=aA (aC (st2.blk (w.heap.size+1+1,#[.int .u64 0,.slice none 0 0],77) (by simp)));go_wp2_with fail;refine HC.out.mono ?_;rintro e w3 ⟨v,rfl,hO,hb3⟩;obtain⟨g,c3,hv,hg⟩:∃g c3,v=.slice (some ⟨g,0,none⟩) L.length c3/\w2.heap.size<=g:=by
  rcases hO.2 with⟨hv,hz⟩|⟨g,cap',cur,hv,hB,_⟩
  .omega
  .exact⟨g,cap',hv,hB⟩
 subst hv;have st3:=st2.to hb3;have HD:=aA (aOt w2.heap.size g c3 k L L.length rfl HH.out.1.len hk w3 hO);have HW:=aA (aB hg (aB hb3 (aB hO st3.below)));clear st2 rl HC hO hb3 hg;have rl:=st3.rl;have hkc:((k+1:Nat):Int)=wrap64 ((k:Int)+1):=by have:=HH.out.1.len;unfold RowKit.wrap64;omega
 rw[hkc] at HD;clear hkc;go_wp2_with fail;refine HD.out.mono ?_;rintro e w4 ⟨L',rfl,hd,hl',hm,hbut⟩;have hb34:Below w.heap.size w w4:=⟨hbut.os.trans HW.out.2.2.2.os,hbut.tape.trans HW.out.2.2.2.tape,hbut.output.trans HW.out.2.2.2.output,dR HW.out.2.2.2.size hbut.size,λq hq=>(hbut.block q (kG hq HW.out.2.2.2.size) (by have:=HW.out.1;omega)).trans (HW.out.2.2.2.block q hq)⟩;have st4:=st3.less [] (List.nil_sublist _);have stz:St w [(w.heap.size+1+1,#[.int .u64 0,.slice none 0 0],77),(w.heap.size+1,#[.int .u64 id],22),(w.heap.size,#[.int .u64 nx,.slice (some ⟨d1,d2,none⟩) L.length cap],77)] (λ_=>True) w4:=⟨hb34,λz hz=>by
  have h1:=st3.blk z hz;refine(hbut.block z.1 (aC h1) ?_).trans h1;have:=HW.out.1;have:=HLT.out;simp only[List.mem_cons,List.not_mem_nil,or_false] at hz;rcases hz with rfl|rfl|rfl<;>simp only<;>omega,st3.nd,trivial,λ_ _ _ _=>trivial⟩
 have HD4:=aA (aB hd (aB hl' hm));clear st3 st4 rl HD hd hl' hm hbut hb34;have rl:=stz.rl;go_wp2_with fail;refine bodyPost_ret (v:=.tuple #[.agg #[.int .u64 nx,.slice (some ⟨g,0,none⟩) L'.length c3],.int .i64 0]) (by simp[results,results58,go_sem,rl]) rfl ⟨⟨⟨some ⟨g,0,none⟩,c3⟩,L',nx,0,rfl,?_,⟨HD4.out.2.1,λx hx=>HH.out.1.sm x (HD4.out.2.2 x hx)⟩,λg' o e=>by cases e;have:=HW.out.1;omega,HH.out.2.2⟩,?_⟩
 .exact HD4.out.1.up (B:=w2.heap.size) (λg' o e=>by cases e;exact HW.out.1) (((aM.refl _ _).set (by have:=HLT.out;omega) _).set (by have:=HLT.out;omega) _)
 .repeat(with_reducible refine Below.setCell ?_ (by simp;try omega) _)
  exact stz.below
end Go.Proofs.YtmgdbfmlnmahpaaGreatDoor
