/- Part of TopAudits. -/
import Derived.Test.YtmgdbfmlnmahpaaGreatDoorG31
namespace Go.Proofs.YtmgdbfmlnmahpaaGreatDoor
set_option linter.unusedSimpArgs false
set_option linter.unusedVariables false
set_option maxRecDepth 100000
set_option maxHeartbeats 4000000
open Go.Proofs.Tryz
open Go.RowKit Go.Shelf
section
variable {A g:Nat} {x:Sk} {h:aR} {W a:World}
theorem St.aWy {w0:World}{bl:List cH}{T:TypeId}{c0 c1 c2 c3 c4 c5 c6 c7 c8 c9:Value}(h:St w0 ((A,#[c0,c1,c2,c3,c4,c5,c6,c7,c8,c9],T)::bl) (λ_=>True) W)(hA:w0.heap.size<=A)(d0 d1 d2 d3 d4 d5 d6 d7 d8 d9:Value):St w0 ((A,#[d0,d1,d2,d3,d4,d5,d6,d7,d8,d9],T)::bl) (λ_=>True) (((((((((((W).setCell ⟨A,0,none⟩ d0).setCell ⟨A,1,none⟩ d1).setCell ⟨A,2,none⟩ d2).setCell ⟨A,3,none⟩ d3).setCell ⟨A,4,none⟩ d4).setCell ⟨A,5,none⟩ d5).setCell ⟨A,6,none⟩ d6).setCell ⟨A,7,none⟩ d7).setCell ⟨A,8,none⟩ d8).setCell ⟨A,9,none⟩ d9):=by
 have h:=h.sx 0 (A:=A) rfl hA (o:=0) (v:=d0);have h:=h.sx 0 (A:=A) rfl hA (o:=1) (v:=d1);have h:=h.sx 0 (A:=A) rfl hA (o:=2) (v:=d2);have h:=h.sx 0 (A:=A) rfl hA (o:=3) (v:=d3);have h:=h.sx 0 (A:=A) rfl hA (o:=4) (v:=d4);have h:=h.sx 0 (A:=A) rfl hA (o:=5) (v:=d5);have h:=h.sx 0 (A:=A) rfl hA (o:=6) (v:=d6);have h:=h.sx 0 (A:=A) rfl hA (o:=7) (v:=d7);have h:=h.sx 0 (A:=A) rfl hA (o:=8) (v:=d8);have h:=h.sx 0 (A:=A) rfl hA (o:=9) (v:=d9);exact h
theorem dI.set {b:World}(h:dI g a b)(o:Nat)(v:Value):dI g a (b.setCell ⟨g,o,none⟩ v):=⟨h.os,h.tape,h.output,by simpa[World.setCell] using h.size,λk hk hn=>(Below.heap_setCell b ⟨g,o,none⟩ v k hn).trans (h.block k hk hn)⟩
theorem dI.aWy (h:dI A a W)(d0 d1 d2 d3 d4 d5 d6 d7 d8 d9:Value):dI A a (((((((((((W).setCell ⟨A,0,none⟩ d0).setCell ⟨A,1,none⟩ d1).setCell ⟨A,2,none⟩ d2).setCell ⟨A,3,none⟩ d3).setCell ⟨A,4,none⟩ d4).setCell ⟨A,5,none⟩ d5).setCell ⟨A,6,none⟩ d6).setCell ⟨A,7,none⟩ d7).setCell ⟨A,8,none⟩ d8).setCell ⟨A,9,none⟩ d9):=(((((((((h.set 0 d0).set 1 d1).set 2 d2).set 3 d3).set 4 d4).set 5 d5).set 6 d6).set 7 d7).set 8 d8).set 9 d9
theorem aM.aWy {B:Nat}(h:aM B a W)(hA:A<B)(d0 d1 d2 d3 d4 d5 d6 d7 d8 d9:Value):aM B a (((((((((((W).setCell ⟨A,0,none⟩ d0).setCell ⟨A,1,none⟩ d1).setCell ⟨A,2,none⟩ d2).setCell ⟨A,3,none⟩ d3).setCell ⟨A,4,none⟩ d4).setCell ⟨A,5,none⟩ d5).setCell ⟨A,6,none⟩ d6).setCell ⟨A,7,none⟩ d7).setCell ⟨A,8,none⟩ d8).setCell ⟨A,9,none⟩ d9):=(((((((((h.set hA d0).set hA d1).set hA d2).set hA d3).set hA d4).set hA d5).set hA d6).set hA d7).set hA d8).set hA d9
def kJ (g:Nat)(x:Sk)(h:aR):Prop:=(x.e≠[]->gU g h.e)/\(x.c≠[]->gU g h.c)/\(x.g≠[]->gU g h.g)
theorem kJ.of {B:Nat}(f:cQ B h)(hB:g<B):kJ g x h:=⟨λ_=>.of f.1 hB,λ_=>.of f.2.1 hB,λ_=>.of f.2.2 hB⟩
theorem kJ.old (r:bW W x h){g:Nat}(hg:W.heap.size<=g):kJ g x h:=⟨λe=>.old r.e e hg,λe=>.old r.c e hg,λe=>.old r.g e hg⟩
theorem bW.but {W':World}(r:bW W x h)(hn:kJ g x h)(hb:dI g W W'):bW W' x h:=⟨r.e.but hn.1 hb,r.c.but hn.2.1 hb,r.g.but hn.2.2 hb⟩
abbrev skC (x:Sk)(h:aR):Array Value:= #[.int .i64 x.kind,.int .i64 x.lev,h.e.v x.e.length,.int .i64 x.bits,.string x.aWx,.int .i64 x.rows,.int .i64 x.aWv,h.c.v x.c.length,.int .i64 x.aWw,h.g.v x.g.length]
structure MgS (w:World)(A B:Nat)(bl:List cH)(y:Sk)(h:aR)(W:World):Prop where
 st:St w ((A,skC y h,103)::bl) (λ_=>True) W
 r:bW W y h
 f:cQ B h
 o:kJ A y h
def uC (B:Nat)(M:Sk->Prop):Value->World->Prop:=λv W=>∃(y:Sk) (h:aR),(M y/\y.Ok)/\v=.tuple #[h.v y,.int .i64 0]/\bW W y h/\cQ B h
theorem sQ (B:Nat)(M:Sk->Prop):bO (uC B M):=λ_ _ _ ⟨y,h,h0,h1,h2,h3⟩ hb=>⟨y,h,h0,h1,h2.aWu hb,h3⟩
def aT9 (B:Nat)(M:Sk->Prop):Value->World->Prop:=λv W=>∃(y:Sk) (h:aR),(M y/\y.Ok)/\v=h.v y/\bW W y h/\cQ B h
theorem aDg (B:Nat)(M:Sk->Prop):bO (aT9 B M):=λ_ _ _ ⟨y,h,h0,h1,h2,h3⟩ hb=>⟨y,h,h0,h1,h2.aWu hb,h3⟩
def aVp (kd:Int)(w:World)(e:Ending)(w':World):Prop:=fD w (λy=>y.kind=kd/\(kd=1->y=.dist [])) e w'\/(e=.returned (.tuple #[.agg #[.int .i64 0,.int .i64 0,.slice none 0 0,.int .i64 0,.string ⟨#[]⟩,.int .i64 0,.int .i64 0,.slice none 0 0,.int .i64 0,.slice none 0 0],.int .i64 101])/\kd≠1/\Below w.heap.size w w')
theorem rC (kd:Int)(w:World):Calls prog 32 #[.int .i64 kd] w (aVp kd w):=by
 by_cases h1:kd=1
 .subst h1;exact(aQz w).mono λ_ _ h=>.inl (h.mono λy hy=>by subst hy;exact⟨rfl,λ_=>rfl⟩)
 by_cases h2:kd=2
 .subst h2;exact(aRk w).mono λ_ _ h=>.inl (h.mono λy hy=>by subst hy;exact⟨rfl,λh=>by cases h⟩)
 by_cases h3:kd=3
 .subst h3;exact(aRr w).mono λ_ _ h=>.inl (h.mono λy hy=>by subst hy;exact⟨rfl,λh=>by cases h⟩)
 go_enter func32,ntmps32;go_wp2_with fail;refine bodyPost_ret (v:=.tuple #[.agg #[.int .i64 0,.int .i64 0,.slice none 0 0,.int .i64 0,.string ⟨#[]⟩,.int .i64 0,.int .i64 0,.slice none 0 0,.int .i64 0,.slice none 0 0],.int .i64 101]) (by simp[results,results32,go_sem]) rfl (.inr ⟨rfl,h1,?_⟩)
 repeat(with_reducible refine Below.setCell ?_ (by simp;try omega) _)
 exact(aW.alloc aH _).alloc (by simp) _
def MgX (T:List aP)(sc:ByteArray)(kd:Int):Prop:=lG T/\qC sc/\kd=1
def MgY (T:List aP)(k:Nat)(y:Sk):Prop:=(k=0->y=.dist [])/\∀x L,T=[x]->x.sk=.dist L->k=1->y=.dist L
def MgP (w:World)(T:List aP)(sc:ByteArray)(kd:Int)(e:Ending)(w':World):Prop:=
 (∃E:Int,E≠0/\e=.returned (.tuple #[.agg #[.int .i64 0,.int .i64 0,.slice none 0 0,.int .i64 0,.string ⟨#[]⟩,.int .i64 0,.int .i64 0,.slice none 0 0,.int .i64 0,.slice none 0 0],.int .i64 E])/\¬MgX T sc kd)\/∃(y:Sk) (h:aR),e=.returned (.tuple #[h.v y,.int .i64 0])/\y.Ok/\y.kind=kd/\bW w' y h/\cQ w.heap.size h/\(MgX T sc kd->(T=[]->y=.dist [])/\∀x L,T=[x]->x.sk=.dist L->y=.dist L)
theorem aA9 (T:List aP)(hT:pS T)(t:Hd)(sc:ByteArray)(hsc:sc.size<=100000)(kd:Int)(w:World)(hG:aQ w)(hR:mN w t T):Calls prog 76 #[.slice t.s T.length t.cap,.string sc,.int .i64 kd] w λe w'=>MgP w T sc kd e w'/\Below w.heap.size w w':=by
 have HM:=aA (λW (hW:Below w.heap.size w W)=>uM T hT t sc hsc W (hG.aWu hW) (hR.aWu hW));have HN:=aA (λW (_:Below w.heap.size w W)=>rC kd W);have hG1:∀W,Below w.heap.size w W->lP W:=λW hW=>(hG.aWu hW).e;obtain⟨ts,tc⟩:=t;have HT:=aA (aB hR (aB hT hG.e));have hl:=hT.len;have st0:=(St.start w).alloc (cs:= #[.int .i64 0,.int .i64 0,.slice none 0 0,.int .i64 0,.string ⟨#[]⟩,.int .i64 0,.int .i64 0,.slice none 0 0,.int .i64 0,.slice none 0 0]) (T:=103);clear hT hG hR hG1;show Calls prog 76 #[.slice ts T.length tc,.string sc,.int .i64 kd] w _;simp only at HM;go_enter func76,ntmps76;go_wp2_with fail;refine(HM.out _ st0.below).mono ?_;rintro e w1 ⟨⟨E,hE,rfl,hno⟩|⟨⟨ps,pc⟩,P,rfl,hp,hpl,hpT,hpx⟩,hb1⟩
 .have st1:=st0.to hb1;have rl:=st1.rl;have HE:=aA (aB hE hno);have hEb:(E==0)=false:=by simpa using hE
  clear st0 hb1 hE hno;go_wp2_with fail;refine bodyPost_ret (v:=.tuple #[.agg #[.int .i64 0,.int .i64 0,.slice none 0 0,.int .i64 0,.string ⟨#[]⟩,.int .i64 0,.int .i64 0,.slice none 0 0,.int .i64 0,.slice none 0 0],.int .i64 E]) (by simp[results,results76,go_sem,rl]) rfl ⟨.inl ⟨E,HE.out.1,rfl,λh=>HE.out.2 ⟨h.1,h.2.1⟩⟩,?_⟩
  repeat(with_reducible refine Below.setCell ?_ (by simp;try omega) _)
  exact st1.below
 have HP:=aA (aB hp (aB hpl (aB hpT hpx)));have st1:=st0.to hb1;clear st0 hb1 hp hpT hpx HM;simp only[Hd.v];go_wp2_with fail;have hz1:=st1.below.size;have hR1:w.heap.size<w1.heap.size:=aC (st1.blk (w.heap.size,#[.int .i64 0,.int .i64 0,.slice none 0 0,.int .i64 0,.string ⟨#[]⟩,.int .i64 0,.int .i64 0,.slice none 0 0,.int .i64 0,.slice none 0 0],103) (by simp));refine(HN.out w1 st1.below).mono ?_;rintro e w2 (⟨y,⟨⟨ES,EC⟩,⟨CS,CC⟩,⟨GS,GC⟩⟩,⟨⟨hyk,hy1⟩,hyo⟩,rfl,hd,hf,hb2⟩|⟨rfl,hne,hb2⟩);rotate_left
 .have st2:=st1.to hb2;have rl:=st2.rl;have hst2:=st2.alloc (cs:= #[.int .i64 0,.int .i64 0,.slice none 0 0,.int .i64 0,.string ⟨#[]⟩,.int .i64 0,.int .i64 0,.slice none 0 0,.int .i64 0,.slice none 0 0]) (T:=103);have rl2:=hst2.rl;have HNE:=aA hne;clear st1 hb2 hne;go_wp2_with fail;refine bodyPost_ret (v:=.tuple #[.agg #[.int .i64 0,.int .i64 0,.slice none 0 0,.int .i64 0,.string ⟨#[]⟩,.int .i64 0,.int .i64 0,.slice none 0 0,.int .i64 0,.slice none 0 0],.int .i64 101]) (by simp[results,results76,go_sem,rl,rl2]) rfl ⟨.inl ⟨101,by decide,rfl,λh=>HNE.out h.2.2⟩,?_⟩;have hb9:=st2.below;have hz9:=hb9.size
  with_reducible refine Below.alloc ?_ (by simp;try omega) _
  repeat(with_reducible refine Below.setCell ?_ (by simp;try omega) _)
  exact hb9
 have stB:=st1.to hb2;have hz2:=hb2.size;have hR2:w.heap.size<w2.heap.size:=aC (stB.blk (w.heap.size,#[.int .i64 0,.int .i64 0,.slice none 0 0,.int .i64 0,.string ⟨#[]⟩,.int .i64 0,.int .i64 0,.slice none 0 0,.int .i64 0,.slice none 0 0],103) (by simp));have st2:=stB.alloc (cs:= #[.int .i64 y.kind,.int .i64 y.lev,.slice ES y.e.length EC,.int .i64 y.bits,.string y.aWx,.int .i64 y.rows,.int .i64 y.aWv,.slice CS y.c.length CC,.int .i64 y.aWw,.slice GS y.g.length GC]) (T:=103);have hal:=(Below.refl w2.heap.size w2).alloc aH (.cells #[.int .i64 y.kind,.int .i64 y.lev,.slice ES y.e.length EC,.int .i64 y.bits,.string y.aWx,.int .i64 y.rows,.int .i64 y.aWv,.slice CS y.c.length CC,.int .i64 y.aWw,.slice GS y.g.length GC] 103);have HI:MgS w w2.heap.size (w.heap.size+1) [(w.heap.size,#[.int .i64 0,.int .i64 0,.slice none 0 0,.int .i64 0,.string ⟨#[]⟩,.int .i64 0,.int .i64 0,.slice none 0 0,.int .i64 0,.slice none 0 0],103)] y ⟨⟨ES,EC⟩,⟨CS,CC⟩,⟨GS,GC⟩⟩ (w2.alloc (.cells #[.int .i64 y.kind,.int .i64 y.lev,.slice ES y.e.length EC,.int .i64 y.bits,.string y.aWx,.int .i64 y.rows,.int .i64 y.aWv,.slice CS y.c.length CC,.int .i64 y.aWw,.slice GS y.g.length GC] 103)):=⟨st2,hd.aWu hal,hf.mono hR1,kJ.old hd aH⟩;have HY:=aA (aB hyk (aB hy1 hyo));have HPd:=aA (show∀W,dI w2.heap.size w2 W->bS 1 rL W ⟨ps,pc⟩ P from λW hW=>bS.but (g:=w2.heap.size) (HP.out.1.aWu hb2) (λh=>gU.old (HP.out.1.aWu hb2) h aH) hW);have HB2:=aA stB.below;clear st1 stB st2 hb2 hd hf hal hyk hy1 hyo;simp only[aR.v,Hd.v];have hzA:w2.heap.size<(w2.alloc (.cells #[.int .i64 y.kind,.int .i64 y.lev,.slice ES y.e.length EC,.int .i64 y.bits,.string y.aWx,.int .i64 y.rows,.int .i64 y.aWv,.slice CS y.c.length CC,.int .i64 y.aWw,.slice GS y.g.length GC] 103)).heap.size:=by simp
 have HBA:=aA (show dI w2.heap.size w2 (w2.alloc (.cells #[.int .i64 y.kind,.int .i64 y.lev,.slice ES y.e.length EC,.int .i64 y.bits,.string y.aWx,.int .i64 y.rows,.int .i64 y.aWv,.slice CS y.c.length CC,.int .i64 y.aWw,.slice GS y.g.length GC] 103)) from dI.of ((Below.refl w2.heap.size w2).alloc aH _));have rl:=HI.st.rl;go_wp2_with fail;generalize w2.alloc (.cells #[.int .i64 y.kind,.int .i64 y.lev,.slice ES y.e.length EC,.int .i64 y.bits,.string y.aWx,.int .i64 y.rows,.int .i64 y.aWv,.slice CS y.c.length CC,.int .i64 y.aWw,.slice GS y.g.length GC] 103)=v2 at*;generalize hAA:w2.heap.size=A at*;clear rl
 go_loopw [34] (λi wr=>∃(k:Nat) (y:Sk) (h:aR),k<=P.length/\i=.int .i64 k/\MgS w A (w.heap.size+1) [(w.heap.size,#[.int .i64 0,.int .i64 0,.slice none 0 0,.int .i64 0,.string ⟨#[]⟩,.int .i64 0,.int .i64 0,.slice none 0 0,.int .i64 0,.slice none 0 0],103)] y h wr/\dI A w2 wr/\y.Ok/\y.kind=kd/\(MgX T sc kd->MgY T k y)) (λi _=>P.length-(intOf i).toNat)
 case atStart=>exact⟨0,y,_,cJ _,rfl,HI,HBA.out,HY.out.2.2,HY.out.1,λh=>⟨λ_=>HY.out.2.1 h.2.2,λ_ _ _ _ h=>by cases h⟩⟩
 case round=>
  clear HI HBA;obtain⟨k,z,⟨⟨ES,EC⟩,⟨CS,CC⟩,⟨GS,GC⟩⟩,hk,rfl,hI,hbut,hzo,hzk,hzx⟩:=hrel
  by_cases hlt:k<P.length
  .obtain⟨p,hp⟩:∃p,P[k]? =some p:=⟨_,cZ hlt⟩;obtain⟨gp,op,hps,hgp,hpc⟩:=(HPd.out wr hbut).rd k p hp;have hpc0:=hpc 0 _ rfl;simp only at hps;subst hps;rw[Nat.mul_one,Nat.add_zero] at hpc0;have hpT:=HP.out.2.2.1 p (bK hp);obtain⟨g,o,hts⟩:=HT.out.1.addr (by intro h;rw[h] at hpT;simp at hpT);simp only at hts;subst hts;obtain⟨⟨lab,sk,sn,⟨ls,lc⟩,⟨⟨es,ec⟩,⟨cs,cc⟩,⟨gs,gc⟩⟩⟩,hx⟩:∃x,T[p]? =some x:=⟨_,cZ hpT⟩;have hS:=HT.out.1.s _ (bK hx);have hO:=(HT.out.2.1.ok _ (bK hx)).1;have hBw:Below w.heap.size w wr:=hI.st.below;have tce:=cG (HT.out.1.aWu hBw) hx;have HC:=aA (show∀W,Below w.heap.size w W->_ from λW hW=>cG (HT.out.1.aWu hW) hx);have hck:wr.cell? ⟨g,o+p*12+1,none⟩=some (.int .i64 sk.kind):=tce.2.2.1;have HX:=aA (aB hp (aB hx hzx));clear tce hpc hp hx hzx
   by_cases hkk:sk.kind=kd
   .have hkk':sk.kind=z.kind:=hkk.trans hzk.symm;have HG:=aA (show∀W,Below wr.heap.size wr W->Calls prog 53 #[.agg #[.int .i64 z.kind,.int .i64 z.lev,.slice ES z.e.length EC,.int .i64 z.bits,.string z.aWx,.int .i64 z.rows,.int .i64 z.aWv,.slice CS z.c.length CC,.int .i64 z.aWw,.slice GS z.g.length GC],.agg #[.int .i64 sk.kind,.int .i64 sk.lev,.slice es sk.e.length ec,.int .i64 sk.bits,.string sk.aWx,.int .i64 sk.rows,.int .i64 sk.aWv,.slice cs sk.c.length cc,.int .i64 sk.aWw,.slice gs sk.g.length gc]] W (fD W (gW z sk)) from λW hW=>jS z sk hkk' hzo hO ⟨⟨ES,EC⟩,⟨CS,CC⟩,⟨GS,GC⟩⟩ ⟨⟨es,ec⟩,⟨cs,cc⟩,⟨gs,gc⟩⟩ W (HT.out.2.2.aWu (hBw.trans (hW.mono hBw.size))) (hI.r.aWu hW) (hS.k.aWu (hBw.trans (hW.mono hBw.size))));have st3:=hI.st;have HZ:=aA (aB hI (aB hbut (aB hzo hzk)));have hAw:A<wr.heap.size:=aC (st3.blk _ (bK (i:=0) rfl));have hkb:(sk.kind==kd)=true:=by simpa using hkk
    clear hS hO hI hbut hzo hzk hkk hkk';go_wp2_with fail;refine rE st3 10 [9] [.val (.agg #[.int .i64 z.kind,.int .i64 z.lev,.slice ES z.e.length EC,.int .i64 z.bits,.string z.aWx,.int .i64 z.rows,.int .i64 z.aWv,.slice CS z.c.length CC,.int .i64 z.aWw,.slice GS z.g.length GC]),.val (.slice (some ⟨g,o,none⟩) T.length tc),.val (.int .i64 p),.val (pv g (o+p*12)),.val (pv g (o+p*12+1)),.val (.agg #[.int .i64 sk.kind,.int .i64 sk.lev,.slice es sk.e.length ec,.int .i64 sk.bits,.string sk.aWx,.int .i64 sk.rows,.int .i64 sk.aWv,.slice cs sk.c.length cc,.int .i64 sk.aWw,.slice gs sk.g.length gc]),.fct (uC wr.heap.size (gW z sk)) (sQ _ _),.fct (uC wr.heap.size (gW z sk)) (sQ _ _),.fct (aT9 wr.heap.size (gW z sk)) (aDg _ _),.val (.int .i64 0)] ?spec ?late ?endd
    case spec=>
     refine⟨?_,?_,?_,?_,?_,?_,?_,?_,?_,?_,trivial⟩
     all_goals(intro ρ W kc kf hW sW rl hu hd;simp only[aI] at rl)
     have u10:ρ (.tmp 10)=pv A 0:=cR hu 10;rotate_left;have u0:ρ (.tmp 0)=.slice (some ⟨g,o,none⟩) T.length tc:=cR hu 0;rotate_left;have u12:ρ (.tmp 12)=.int .i64 p:=cR hu 12;rotate_left;have u48:ρ (.tmp 48)=_:=aK hd 1 48;have u49:ρ (.tmp 49)=_:=aK hd 2 49;rotate_left;have u50:ρ (.tmp 50)=_:=aK hd 3 50;rotate_left;have u51:ρ (.tmp 51)=_:=aK hd 4 51;have tce:=HC.out W sW.below;rotate_left
     .have u47:ρ (.tmp 47)=_:=aK hd 0 47;have u52:ρ (.tmp 52)=_:=aK hd 5 52;refine aF rfl ?_;go_simp;refine⟨aW,(HG.out W hW).mono ?_⟩;rintro e w' ⟨z9,h9,⟨hm9,ho9⟩,rfl,hd9,hf9,hb'⟩;exact⟨_,rfl,hb',z9,h9,⟨hm9,ho9⟩,rfl,hd9,hf9.mono hW.size⟩
     .have f53:uC wr.heap.size (gW z sk) (ρ (.tmp 53)) W:=aK hd 6 53;obtain⟨z9,h9,hm9,u53,hd9,hf9⟩:=f53;refine aF rfl ?_;go_simp;exact aG ⟨z9,h9,hm9,rfl,hd9,hf9⟩
     .have f46:uC wr.heap.size (gW z sk) (ρ (.tmp 46)) W:=aK hd 7 46;obtain⟨z9,h9,hm9,u46,hd9,hf9⟩:=f46;refine aF rfl ?_;go_simp;exact aG ⟨z9,h9,hm9,rfl,hd9,hf9⟩
     have f46:uC wr.heap.size (gW z sk) (ρ (.tmp 46)) W:=aK hd 7 46;obtain⟨z9,h9,hm9,u46,hd9,hf9⟩:=f46;rotate_left
     all_goals(refine aF rfl ?_;go_simp;exact aG rfl)
    case late=>
     intro q hqm oq hoq ρ W kc hu hd;simp only[List.mem_cons,List.not_mem_nil,or_false] at hqm;rcases hqm with rfl
     .cases hoq;obtain⟨z9,h9,hm9,u46,hd9,hf9⟩:uC wr.heap.size (gW z sk) (ρ (.tmp 46)) W:=aK hd 7 46;refine⟨.int .i64 0,λW'=> ?_,λ_=>rfl⟩;go_simp
    case endd=>
     rintro v W hW sW rl ⟨h6,h7,h8,-⟩;simp only[aI] at rl;obtain⟨z9,⟨⟨es9,ec9⟩,⟨cs9,cc9⟩,⟨gs9,gc9⟩⟩,⟨hm9,ho9⟩,v8,hd9,hf9⟩:=h8;rw[v8];simp only[aR.v,Hd.v];clear h6 h7 v8;generalize v 6=v6 at*;generalize v 7=v7 at*;have st5:=sW.aWy (dR hz1 (by have:=hz2;omega)) (.int .i64 z9.kind) (.int .i64 z9.lev) (.slice es9 z9.e.length ec9) (.int .i64 z9.bits) (.string z9.aWx) (.int .i64 z9.rows) (.int .i64 z9.aWv) (.slice cs9 z9.c.length cc9) (.int .i64 z9.aWw) (.slice gs9 z9.g.length gc9);have HF:=aA (aB hm9 (aB ho9 (aB hd9 (aB hf9 (aB st5 hW)))));clear hm9 ho9 hd9 hf9 st5 hW sW st3 HG;go_wp2_with fail;go_roundw
     case rel=>
      have hfA:cQ (A+1) ⟨⟨es9,ec9⟩,⟨cs9,cc9⟩,⟨gs9,gc9⟩⟩:=HF.out.2.2.2.1.mono (by omega);have hku:aM (A+1) W _:=(aM.refl (A+1) W).aWy (A:=A) (by omega) (.int .i64 z9.kind) (.int .i64 z9.lev) (.slice es9 z9.e.length ec9) (.int .i64 z9.bits) (.string z9.aWx) (.int .i64 z9.rows) (.int .i64 z9.aWv) (.slice cs9 z9.c.length cc9) (.int .i64 z9.aWw) (.slice gs9 z9.g.length gc9);refine⟨k+1,z9,⟨⟨es9,ec9⟩,⟨cs9,cc9⟩,⟨gs9,gc9⟩⟩,hlt,by go_num,⟨HF.out.2.2.2.2.1,HF.out.2.2.1.up hfA hku,HF.out.2.2.2.1.mono (by omega),kJ.of hfA (by omega)⟩,(HZ.out.2.1.trans (dI.of HF.out.2.2.2.2.2)).aWy (.int .i64 z9.kind) (.int .i64 z9.lev) (.slice es9 z9.e.length ec9) (.int .i64 z9.bits) (.string z9.aWx) (.int .i64 z9.rows) (.int .i64 z9.aWv) (.slice cs9 z9.c.length cc9) (.int .i64 z9.aWw) (.slice gs9 z9.g.length gc9),HF.out.2.1,HF.out.1.1.trans HZ.out.2.2.2,λh=> ?_⟩;have h1:=HP.out.2.2.2 ⟨h.1,h.2.1⟩;have h2:=HX.out.1;rw[h1] at h2;obtain⟨_,h3⟩:=gJ.1 h2;rw[List.getElem_range] at h3;subst h3;obtain⟨q1,q2,q3⟩:=h.1.mem HX.out.2.1;refine⟨λh=>by omega,λx L a b _=> ?_⟩;rw[q3] at a;cases a;simp only at b;subst b;have hz0:=(HX.out.2.2 h).1 q1;have hok:=(HT.out.2.1.ok _ (bK HX.out.2.1)).1;have h5:=HF.out.1.2 [] L hz0 rfl (by rw[mM L hok.1];exact hok.2.2);rw[mM L hok.1] at h5;exact h5
     case measure=>simp[intOf];omega
   .have HZ:=aA (aB hI (aB hbut (aB hzo hzk)));have HKK:=aA hkk;have hkb:(sk.kind==kd)=false:=by simpa using hkk
    clear hS hO hI hbut hzo hzk;go_wp2_with fail;go_roundw
    case rel=>
     refine⟨k+1,z,_,hlt,by go_num,HZ.out.1,HZ.out.2.1,HZ.out.2.2.1,HZ.out.2.2.2,λh=>⟨λh=>by omega,λx L a b _=> ?_⟩⟩;obtain⟨q1,q2,q3⟩:=h.1.mem HX.out.2.1;rw[q3] at a;cases a;simp only at b;subst b;exact(HKK.out h.2.2.symm).elim
    case measure=>simp[intOf];omega
  .obtain rfl:k=P.length:=by omega
   have st3:=hI.st;have rl:=st3.rl;have hAw:A<wr.heap.size:=aC (st3.blk _ (bK (i:=0) rfl));have HZ:=aA (aB hI (aB hbut (aB hzo (aB hzk hzx))));clear hI hbut hzo hzk hzx st3;go_wp2_with fail;refine bodyPost_ret (v:=.tuple #[.agg #[.int .i64 z.kind,.int .i64 z.lev,.slice ES z.e.length EC,.int .i64 z.bits,.string z.aWx,.int .i64 z.rows,.int .i64 z.aWv,.slice CS z.c.length CC,.int .i64 z.aWw,.slice GS z.g.length GC],.int .i64 0]) (by simp[results,results76,go_sem,rl]) rfl ⟨.inr ⟨z,⟨⟨ES,EC⟩,⟨CS,CC⟩,⟨GS,GC⟩⟩,rfl,HZ.out.2.2.1,HZ.out.2.2.2.1,HZ.out.1.r.up HZ.out.1.f ((aM.refl _ _).aWy (A:=w.heap.size) (Nat.lt_succ_self _) (.int .i64 z.kind) (.int .i64 z.lev) (.slice ES z.e.length EC) (.int .i64 z.bits) (.string z.aWx) (.int .i64 z.rows) (.int .i64 z.aWv) (.slice CS z.c.length CC) (.int .i64 z.aWw) (.slice GS z.g.length GC)),HZ.out.1.f.mono (by omega),λh=> ?_⟩,?_⟩
   .have h1:=HP.out.2.2.2 ⟨h.1,h.2.1⟩;have h2:=HZ.out.2.2.2.2 h;rw[h1,List.length_range] at h2;exact⟨λh=>h2.1 (by rw[h];rfl),λx L a b=>h2.2 x L a b (by rw[a];rfl)⟩
   .repeat(with_reducible refine Below.setCell ?_ (by simp;try omega) _)
    exact HZ.out.1.st.below
end
theorem aFn (a b:Nat)(w:World):Calls prog 98 #[.int .u64 a,.int .u64 b] w λe w'=>e=.returned (if b<a then .tuple #[.int .u64 0,.int .i64 140] else .tuple #[.int .u64 b,.int .i64 0])/\w'=w:=by
 by_cases h:b<a
 .have hn:decide ((b:Int)<(a:Int))=true:=by simp;omega
  rw[if_pos h];go_enter func98,ntmps98;go_wp2_with fail;go_ret2;exact⟨rfl,rfl⟩
 .have hn:decide ((b:Int)<(a:Int))=false:=by simp;omega
  rw[if_neg h];go_enter func98,ntmps98;go_wp2_with fail;go_ret2;exact⟨rfl,rfl⟩
theorem aMq (now ttl sn:Int)(c0 c1 c2 c3 c4 c5 c6 c7 c8 c9 c10:Value)(w:World):Calls prog 180 #[.agg #[c0,c1,c2,c3,c4,c5,c6,c7,c8,c9,c10,.int .u64 sn],.int .u64 now,.int .u64 ttl] w λe w'=>mW (λb=>now<=sn->b=false) e/\Below w.heap.size w w':=by
 have st0:=(St.start w).alloc (cs:= #[c0,c1,c2,c3,c4,c5,c6,c7,c8,c9,c10,.int .u64 sn]) (T:=167)
 by_cases h:sn<now
 .have hn:decide (sn<now)=true:=by simpa using h
  go_enter func180,ntmps180;go_wp2_with fail;go_ret;exact⟨⟨_,rfl,λh'=>by omega⟩,st0.below⟩
 .have hn:decide (sn<now)=false:=by simpa using h
  go_enter func180,ntmps180;go_wp2_with fail;go_ret;exact⟨⟨false,rfl,rfl⟩,st0.below⟩
theorem aD8 (now ttl sn:Int)(c0 c1 c2 c3 c4 c5 c6 c7 c8 c9 c10:Value)(w:World):Calls prog 143 #[.agg #[.int .u64 now,.int .u64 ttl],.agg #[c0,c1,c2,c3,c4,c5,c6,c7,c8,c9,c10,.int .u64 sn]] w λe w'=>mW (λb=>now<=sn->b=false) e/\Below w.heap.size w w':=by
 have HS:=aA (λW=>aMq now ttl sn c0 c1 c2 c3 c4 c5 c6 c7 c8 c9 c10 W);have st0:=((St.start w).alloc (cs:= #[.int .u64 now,.int .u64 ttl]) (T:=280)).alloc (cs:= #[c0,c1,c2,c3,c4,c5,c6,c7,c8,c9,c10,.int .u64 sn]) (T:=167);simp only[World.size_alloc] at st0;go_enter func143,ntmps143;go_wp2_with fail;refine(HS.out _).mono ?_;rintro e w1 ⟨⟨b,rfl,hb⟩,hb1⟩;have st1:=st0.to hb1;have HB:=aA hb;clear hb HS;go_wp2_with fail;go_ret;exact⟨⟨b,rfl,HB.out⟩,st1.below⟩
def aUj (w:World)(T:List aP)(e:Ending)(w':World):Prop:=∃T':List aP,e=.returned (.slice (some ⟨w.heap.size,0,none⟩) T.length T.length)/\T'.map aP.core=T.map aP.core/\aL 12 aN 167 w' w.heap.size (.slice (some ⟨w.heap.size,0,none⟩) T.length T.length) T'/\(∀x∈T',yK w' x/\gK (w.heap.size+1) x)/\Below w.heap.size w w'
theorem aCf (T:List aP)(hT:pS T)(t:Hd)(w:World)(hR:mN w t T):Calls prog 142 #[.slice t.s T.length t.cap] w (aUj w T):=by
 obtain⟨ts,tc⟩:=t;have hl:=hT.len;have HT0:=aA (aB hT hR);clear hT hR;show Calls prog 142 #[.slice ts T.length tc] w _;go_enter func142,ntmps142;go_wp2_with(at_make;refine rU (enc:=aN) xC rfl _ _ rfl T.length rfl rfl (by omega) (by decide) ?_;intro wm hO hbm);have HT:=aA (aB HT0.out.1 (aB (HT0.out.2.aWu hbm) (tA.old HT0.out.2 aH)));have hgw:w.heap.size<wm.heap.size:=(hO.lt _ rfl).2;have HBM:=aA hbm;obtain⟨S,hS0⟩:∃S:List aP,S=[]:=⟨_,rfl⟩;obtain⟨n,hn0⟩:∃n:Nat,n=0:=⟨_,rfl⟩;obtain⟨cap,hcap⟩:∃cap:Nat,cap=T.length:=⟨_,rfl⟩;have hn:n=S.length:=by rw[hS0,hn0];rfl
 have hroom:n+T.length<=cap:=by omega
 have H0:aEv wm w.heap.size w.heap.size cap S [] n wm:=⟨[],by simpa using hn,rfl,by rw[hS0,hn0,hcap];simpa using hO,by simp,dI.refl _ _⟩;have HC:=aA (aB hS0 (aB hn0 hcap));clear hO hbm HT0
 go_loopw [3,11] (λv i wr=>∃k:Nat,k<=T.length/\i=.int .i64 k/\v=.slice (some ⟨w.heap.size,0,none⟩) (n+k) cap/\aEv wm w.heap.size w.heap.size cap S (T.take k) (n+k) wr) (λ_ i _=>T.length-(intOf i).toNat)
 case atStart=>exact⟨0,cJ _,rfl,(by rw[HC.out.2.1,HC.out.2.2]),by simpa using H0⟩
 clear hS0 hn0 hcap
 case round=>
  clear H0;obtain⟨k,hk,rfl,rfl,T',hn',hcore,hO,hS',hbut⟩:=hrel
  by_cases hlt:k<T.length
  .obtain⟨g1,o,hts⟩:=HT.out.2.1.addr (by intro h;rw[h] at hlt;simp at hlt);simp only at hts;subst hts;obtain⟨⟨lab,sk,sn,⟨ls,lc⟩,⟨⟨es,ec⟩,⟨cs,cc⟩,⟨gs,gc⟩⟩⟩,hx⟩:∃x,T[k]? =some x:=⟨_,cZ hlt⟩;have hR:=HT.out.2.1.but HT.out.2.2 hbut;have hS:=hR.s _ (bK hx);have hOk:=HT.out.1.ok _ (bK hx);have hsm:=Sk.small hOk.1;have tce:=cG hR hx;have HC0:=aA (λW (hW:Below wr.heap.size wr W)=>qW lab (by have h:=hOk.2.len;simp only at h;omega) ⟨ls,lc⟩ W (hS.l.aWu hW));have HC1:=aA (λW (hW:Below wr.heap.size wr W)=>fJ sk.e hsm.1 ⟨es,ec⟩ W (hS.k.e.aWu hW));have HC2:=aA (λW (hW:Below wr.heap.size wr W)=>fJ sk.c hsm.2.1 ⟨cs,cc⟩ W (hS.k.c.aWu hW));have HC3:=aA (λW (hW:Below wr.heap.size wr W)=>mJ sk.g hsm.2.2 ⟨gs,gc⟩ W (hS.k.g.aWu hW));have HX:=aA (aB hx (aB hn' (aB hcore (aB hO (aB hS' hbut)))));have hgr:w.heap.size<wr.heap.size:=kG hgw hbut.size;have hsz:=hbut.size;have st0:=(St.start wr).alloc (cs:= #[.slice ls lab.length lc,.int .i64 sk.kind,.int .i64 sk.lev,.slice es sk.e.length ec,.int .i64 sk.bits,.string sk.aWx,.int .i64 sk.rows,.int .i64 sk.aWv,.slice cs sk.c.length cc,.int .i64 sk.aWw,.slice gs sk.g.length gc,.int .u64 sn]) (T:=167);clear hx hR hS hOk hsm hn' hcore hO hS' hbut;go_wp2_with fail;refine(HC0.out _ st0.below).mono ?_;rintro e w1 ⟨⟨lS,lC⟩,rfl,hd,hf,hb1⟩;have hz:=aC (st0.blk _ (bK (i:=0) rfl));have HFl:=hf.mono (show wr.heap.size+1<=_ from hz);have HDl:=aA hd;have st1:=st0.to hb1;have rl:=st1.rl;clear st0 hb1 hd hf hz HC0
   try clear tce
   simp only[Hd.v];go_wp2_with fail;have st0:=St.sx st1 0 (A:=wr.heap.size) rfl (o:=0) (v:=.slice lS lab.length lC) aH
   replace HDl:=aA (HDl.out.up HFl ((aM.refl _ _).set (b:=wr.heap.size) (o:=0) (Nat.lt_succ_self _) (.slice lS lab.length lC)))
   clear st1 rl;refine(HC1.out _ st0.below).mono ?_;rintro e w2 ⟨⟨eS,eC⟩,rfl,hd,hf,hb1⟩;have hz:=aC (st0.blk _ (bK (i:=0) rfl));have HFe:=hf.mono (show wr.heap.size+1<=_ from hz)
   replace HDl:=aA (HDl.out.aWu hb1)
   have HDe:=aA hd;have st1:=st0.to hb1;have rl:=st1.rl;clear st0 hb1 hd hf hz HC1;simp only[Hd.v];go_wp2_with fail;have st0:=St.sx st1 0 (A:=wr.heap.size) rfl (o:=3) (v:=.slice eS sk.e.length eC) aH
   replace HDl:=aA (HDl.out.up HFl ((aM.refl _ _).set (b:=wr.heap.size) (o:=3) (Nat.lt_succ_self _) (.slice eS sk.e.length eC)))
   replace HDe:=aA (HDe.out.up HFe ((aM.refl _ _).set (b:=wr.heap.size) (o:=3) (Nat.lt_succ_self _) (.slice eS sk.e.length eC)))
   clear st1 rl;refine(HC2.out _ st0.below).mono ?_;rintro e w3 ⟨⟨cS,cC⟩,rfl,hd,hf,hb1⟩;have hz:=aC (st0.blk _ (bK (i:=0) rfl));have HFc:=hf.mono (show wr.heap.size+1<=_ from hz)
   replace HDl:=aA (HDl.out.aWu hb1)
   replace HDe:=aA (HDe.out.aWu hb1)
   have HDc:=aA hd;have st1:=st0.to hb1;have rl:=st1.rl;clear st0 hb1 hd hf hz HC2;simp only[Hd.v];go_wp2_with fail;have st0:=St.sx st1 0 (A:=wr.heap.size) rfl (o:=8) (v:=.slice cS sk.c.length cC) aH
   replace HDl:=aA (HDl.out.up HFl ((aM.refl _ _).set (b:=wr.heap.size) (o:=8) (Nat.lt_succ_self _) (.slice cS sk.c.length cC)))
   replace HDe:=aA (HDe.out.up HFe ((aM.refl _ _).set (b:=wr.heap.size) (o:=8) (Nat.lt_succ_self _) (.slice cS sk.c.length cC)))
   replace HDc:=aA (HDc.out.up HFc ((aM.refl _ _).set (b:=wr.heap.size) (o:=8) (Nat.lt_succ_self _) (.slice cS sk.c.length cC)))
   clear st1 rl;refine(HC3.out _ st0.below).mono ?_;rintro e w4 ⟨⟨gS,gC⟩,rfl,hd,hf,hb1⟩;have hz:=aC (st0.blk _ (bK (i:=0) rfl));have HFg:=hf.mono (show wr.heap.size+1<=_ from hz)
   replace HDl:=aA (HDl.out.aWu hb1)
   replace HDe:=aA (HDe.out.aWu hb1)
   replace HDc:=aA (HDc.out.aWu hb1)
   have HDg:=aA hd;have st1:=st0.to hb1;have rl:=st1.rl;clear st0 hb1 hd hf hz HC3;have hb4:=Below.setCell st1.below (p:=⟨wr.heap.size,10,none⟩) aH (.slice gS sk.g.length gC);have HO2:=aA (aL.keep _ _ HX.out.2.2.2.1 hb4);have HB4:=aA hb4;simp only[Hd.v];have hroomk:n+k+1<=cap:=by omega
   have HLEN:Hid (n+k=(S++T').length):=by have:=HX.out.2.1;show _=_;simp;omega
   go_wp2_with(first|(refine iI rfl (.tmp 44) rfl _ _ _ _ _ _ _ _ _ _ _ _ rfl ?_)|(at_builtin;refine oW xC cN rX rfl (.tmp 43) (.tmp 45) rfl w.heap.size w.heap.size (n+k) cap (S++T') HLEN.out (⟨lab,sk,sn,⟨lS,lC⟩,⟨⟨eS,eC⟩,⟨cS,cC⟩,⟨gS,gC⟩⟩⟩:aP) rfl HO2.out _ rfl _ rfl rfl hroomk ?_;intro w5 ho5 hgr5));have hal:=(Below.refl _ (w4.setCell ⟨wr.heap.size,10,none⟩ (.slice gS sk.g.length gC))).alloc aH (.cells #[.slice lS lab.length lC,.int .i64 sk.kind,.int .i64 sk.lev,.slice eS sk.e.length eC,.int .i64 sk.bits,.string sk.aWx,.int .i64 sk.rows,.int .i64 sk.aWv,.slice cS sk.c.length cC,.int .i64 sk.aWw,.slice gS sk.g.length gC,.int .u64 sn] 167);have hbw5:dI w.heap.size wr w5:=(dI.of (hb4.trans (hal.mono hb4.size))).trans (dI.grown hgr5);have hku:aM (wr.heap.size+1) w4 (w4.setCell ⟨wr.heap.size,10,none⟩ (.slice gS sk.g.length gC)):=(aM.refl _ _).set (Nat.lt_succ_self _) _;have HNEW:Hid (yK w5 (⟨lab,sk,sn,⟨lS,lC⟩,⟨⟨eS,eC⟩,⟨cS,cC⟩,⟨gS,gC⟩⟩⟩:aP)/\gK (wr.heap.size+1) (⟨lab,sk,sn,⟨lS,lC⟩,⟨⟨eS,eC⟩,⟨cS,cC⟩,⟨gS,gC⟩⟩⟩:aP)):=by
    refine⟨yK.but (g:=w.heap.size) ⟨(HDl.out.up HFl hku).aWu hal,(HDe.out.up HFe hku).aWu hal,(HDc.out.up HFc hku).aWu hal,(HDg.out.up HFg hku).aWu hal⟩ (iW.of (B:=wr.heap.size+1) ⟨HFl,HFe,HFc,HFg⟩ (by omega)) (dI.grown hgr5),HFl,HFe,HFc,HFg⟩
   have HFIN:=aA (aB ho5 hbw5);clear hal hbw5 hku ho5 hgr5 hb4 st1 rl;go_wp2_with fail;go_roundw
   case rel=>
    refine⟨k+1,hlt,by go_num,(by congr 1;omega),T'++[⟨lab,sk,sn,⟨lS,lC⟩,⟨⟨eS,eC⟩,⟨cS,cC⟩,⟨gS,gC⟩⟩⟩],by have:=HX.out.2.1;simp;omega,?_,?_,?_,HX.out.2.2.2.2.2.trans HFIN.out.2⟩
    .rw[List.take_add_one,HX.out.1,List.map_append,List.map_append,HX.out.2.2.1];rfl
    .rw[<-List.append_assoc];exact HFIN.out.1
    .intro y hy;rcases List.mem_append.1 hy with hy|hy
     .obtain⟨h1,h2⟩:=HX.out.2.2.2.2.1 y hy;exact⟨h1.but (iW.of h2 hgw) HFIN.out.2,h2⟩
     .simp at hy;subst hy;exact⟨HNEW.1,HNEW.2.mono (by omega)⟩
   case measure=>simp[intOf];omega
  .obtain rfl:k=T.length:=by omega
   rw[List.take_length] at hcore;go_wp2_with fail;go_ret;obtain⟨q1,q2,q3⟩:=HC.out;rw[q1,q2,q3,Nat.zero_add,List.nil_append] at hO;refine⟨T',(by rw[q2,q3,Nat.zero_add];rfl),hcore,hO,λx hx=>⟨(hS' x hx).1,(hS' x hx).2.mono (by omega)⟩,hbut.below HBM.out aH⟩
section
variable {M:List aP} {g:Nat} {W:World}
def mB (W:World)(g:Nat):Nat->List Value->World
 |_,[]=>W
 |q,v::l=>mB (W.setCell ⟨g,q,none⟩ v) g (q+1) l
theorem zW (g:Nat):∀(l:List Value) (q:Nat) (W:World),(mB W g q l).heap.size=W.heap.size
 |[],_,_=>rfl
 |v::l,q,W=>by rw[mB,zW g l];simp[World.setCell]
theorem jV (g:Nat):∀(l:List Value) (q:Nat) (a W:World),dI g a W->dI g a (mB W g q l)
 |[],_,_,_,h=>h
 |v::l,q,a,W,h=>jV g l (q+1) a _ (h.set q v)
theorem nW (g:Nat)(T:TypeId):∀(l:List Value) (q:Nat) (W:World) (cur:Array Value),W.heap[g]? =some (.cells cur T (0,0))->q+l.length<=cur.size->
  ∃cur',(mB W g q l).heap[g]? =some (.cells cur' T (0,0))/\cur'.size=cur.size/\(∀p,p<q\/q+l.length<=p->cur'[p]? =cur[p]?)/\(∀j,j<l.length->cur'[q+j]? =l[j]?)
 |[],q,W,cur,h,_=>⟨cur,h,rfl,λ_ _=>rfl,λj hj=>absurd hj (Nat.not_lt_zero _)⟩
 |v::l,q,W,cur,h,hs=>by
  simp only[List.length_cons] at hs;obtain⟨cur',h1,h2,h3,h4⟩:=nW g T l (q+1) (W.setCell ⟨g,q,none⟩ v) (cur.setIfInBounds q v) (cU h q v) (by simp;omega);refine⟨cur',h1,by simpa using h2,λp hp=> ?_,λj hj=> ?_⟩
  .simp only[List.length_cons] at hp;rw[h3 p (by omega)];rw[Array.getElem?_setIfInBounds];rw[if_neg (by omega)]
  .cases j with
   |zero=>
    rw[Nat.add_zero,h3 q (by omega),Array.getElem?_setIfInBounds,if_pos rfl,if_pos (by omega)];rfl
   |succ j=>
    have:=h4 j (by simpa using hj);rw[show q+(j+1)=q+1+j by omega,this];rfl
def eN (W:World)(g:Nat)(M:List aP):Prop:=∃cur,W.heap[g]? =some (.cells cur 167 (0,0))/\M.length*12<=cur.size/\∀k x,M[k]? =some x->∀j u,(aN x)[j]? =some u->cur[k*12+j]? =some u
theorem eN.of {B n cap:Nat}(h:aL 12 aN 167 W B (.slice (some ⟨g,0,none⟩) n cap) M)(hn:n=M.length):eN W g M:=by
 rcases h.2 with⟨hv,_⟩|⟨g',cap',cur,hv,hB,hbk,hcap,hcm,hcs,hct⟩
 .cases hv
 .cases hv;refine⟨cur,hbk,?_,λk x hx j u hj=> ?_⟩
  .rw[hcs];have:=Nat.mul_le_mul_right 12 hcap;omega
  .have hf:=nB cN M k x hx j u hj;have hlt:=(gJ.1 hf).1;rw[eD cN] at hlt;rw[<-hf,<-hct,List.getElem?_take,if_pos hlt,Array.getElem?_toList]
theorem eN.rd (h:eN W g M):Rd 12 aN W (some ⟨g,0,none⟩) M:=by
 obtain⟨cur,h1,h2,h3⟩:=h;intro k x hx;refine⟨g,0,rfl,aC h1,λj u hj=> ?_⟩;rw[Nat.zero_add,aE h1];exact h3 k x hx j u hj
theorem eN.blk (h:eN W g M):∃cur,W.heap[g]? =some (.cells cur 167 (0,0)):=by
 obtain⟨cur,h1,_⟩:=h;exact⟨cur,h1⟩
theorem eN.aWu {W':World}(h:eN W g M)(hb:Below W.heap.size W W'):eN W' g M:=by
 obtain⟨cur,h1,h2⟩:=h;exact⟨cur,(hb.block g (aC h1)).trans h1,h2⟩
theorem eN.set (h:eN W g M)(i:Nat)(hi:i<M.length)(y:aP):eN (mB W g (i*12) (aN y)) g (M.set i y):=by
 obtain⟨cur,h1,h2,h3⟩:=h;have hil:i*12+12<=M.length*12:=by omega
 obtain⟨cur',e1,e2,e3,e4⟩:=nW g _ (aN y) (i*12) W cur h1 (by rw[cN];omega);refine⟨cur',e1,by rw[e2];simpa using h2,λk x hx j u hj=> ?_⟩;have hj12:j<12:=by have:=(gJ.1 hj).1;rwa[cN] at this
 rw[List.getElem?_set] at hx;split at hx
 .rename_i e;subst e;simp[hi] at hx;subst hx;rw[e4 j (by rw[cN];exact hj12)];exact hj
 .rename_i e;rw[e3 _ (by rw[cN];omega)];exact h3 k x hx j u hj
theorem eN.low {W':World}{n:Nat}{cur':Array Value}(h:eN W g M)(hn:n<=M.length)(hb:W'.heap[g]? =some (.cells cur' 167 (0,0)))(hs:n*12<=cur'.size)(hc:∀p,p<n*12->W'.cell? ⟨g,p,none⟩=W.cell? ⟨g,p,none⟩):eN W' g (M.take n):=by
 obtain⟨cur,h1,h2,h3⟩:=h;refine⟨cur',hb,dR (Nat.mul_le_mul_right 12 (by simp;omega)) hs,λk x hx j u hj=> ?_⟩;have hj12:j<12:=by have:=(gJ.1 hj).1;rwa[cN] at this
 rw[List.getElem?_take] at hx;split at hx
 .rename_i hk;have:=hc (k*12+j) (by omega);rw[aE hb,aE h1] at this;rw[this];exact h3 k x hx j u hj
 .cases hx
abbrev wtV (now ttl:Int):Value:=.func (.func 143) #[.agg #[.int .u64 now,.int .u64 ttl]] #[]
def IxP (now:Int)(T:List aP)(e:Ending):Prop:=∃i:Int,e=.returned (.int .i64 i)/\(i= -1\/∃k:Nat,i=(k:Int)/\k<T.length/\¬∀x∈T,now<=(x.seen:Int))
theorem aHi (now ttl:Int)(T:List aP)(hl:T.length<=20)(t:Hd)(w:World)(hR:mN w t T):Calls prog 179 #[.slice t.s T.length t.cap,wtV now ttl] w λe w'=>IxP now T e/\Below w.heap.size w w':=by
 obtain⟨ts,tc⟩:=t;have HT:=aA hR;have HW:=aA (λsn c0 c1 c2 c3 c4 c5 c6 c7 c8 c9 c10 W=>aD8 now ttl sn c0 c1 c2 c3 c4 c5 c6 c7 c8 c9 c10 W);clear hR;show Calls prog 179 #[.slice ts T.length tc,wtV now ttl] w _;go_enter func179,ntmps179;go_wp2_with fail
 go_loopw [8] (λi wr=>∃k:Nat,k<=T.length/\i=.int .i64 k/\Below w.heap.size w wr) (λi _=>T.length-(intOf i).toNat)
 case atStart=>exact⟨0,cJ _,rfl,aW⟩
 case round=>
  obtain⟨k,hk,rfl,hbw⟩:=hrel
  by_cases hlt:k<T.length
  .obtain⟨g,o,hts⟩:=HT.out.addr (by intro h;rw[h] at hlt;simp at hlt);simp only at hts;subst hts;obtain⟨⟨lab,sk,sn,⟨ls,lc⟩,⟨⟨es,ec⟩,⟨cs,cc⟩,⟨gs,gc⟩⟩⟩,hx⟩:∃x,T[k]? =some x:=⟨_,cZ hlt⟩;have tce:=cG (HT.out.aWu hbw) hx;have HX:=aA (bK hx);clear hx;go_wp2_with fail;refine(HW.out _ _ _ _ _ _ _ _ _ _ _ _ _).mono ?_;rintro e w2 ⟨⟨b,rfl,hst⟩,hb2⟩;have HS:=aA hst;have hb:=hbw.trans (hb2.mono hbw.size);clear tce hb2 hst;cases b with
   |true=>
    go_wp2_with fail;go_ret;exact⟨⟨_,rfl,.inr ⟨k,rfl,hlt,λh=>by have:=HS.out (h _ HX.out);cases this⟩⟩,hb⟩
   |false=>
    go_wp2_with fail;go_roundw
    case rel=>exact⟨k+1,hlt,by go_num,hb⟩
    case measure=>simp[intOf];omega
  .obtain rfl:k=T.length:=by omega
   go_wp2_with fail;go_ret;exact⟨⟨_,rfl,.inl rfl⟩,hbw⟩
end
theorem aB3 (g:Nat):∀(l:List Value) (q:Nat) (W:World),mB W g q l=W.setCells g q l
 |[],_,_=>rfl
 |v::l,q,W=>by rw[mB,World.setCells,aB3 g l]
def zS :Value:=.agg #[.slice none 0 0,.int .i64 0,.int .i64 0,.slice none 0 0,.int .i64 0,.string ⟨#[]⟩,.int .i64 0,.int .i64 0,.slice none 0 0,.int .i64 0,.slice none 0 0,.int .u64 0]
theorem aT1 :∀v∈zS.cells,v.oneCell'=true:=by
 intro v hv;simp[zS,Value.cells] at hv;rcases hv with rfl|rfl|rfl|rfl|rfl|rfl|rfl|rfl|rfl|rfl|rfl|rfl<;>rfl
theorem aRe (w:World):(zeroValue 167).run prog w=.ok zS w:=by kernel_rfl
theorem aAs (z:Array Value)(hz:∀v∈z,v.oneCell'=true)(n:Nat):∀v∈(Builtin.zeroCells z n).toList,v.oneCell'=true:=by
 intro v hv;unfold Builtin.zeroCells at hv;simp only[Array.toList_map,List.mem_map,Array.mem_toList_iff,Array.mem_range] at hv;obtain⟨i,hi,rfl⟩:=hv;have hp:0<z.size:=by
  rcases Nat.eq_zero_or_pos z.size with h|h
  .rw[h] at hi;simp at hi
  .exact h
 have hm:=Nat.mod_lt i hp;rw[getElem!_pos z _ hm];exact hz _ (Array.getElem_mem hm)
theorem aF1 {W:World}{g i n:Nat}{cur:Array Value}(hb:W.heap[g]? =some (.cells cur 167 (0,0)))(hi:i<n)(hs:n*12<=cur.size)(ty:TypeId):
  (Builtin.clear_ #[74] ty #[.slice (some ⟨g,i*12,none⟩) (n-i) (n-i)]).run prog W=.ok (.tuple #[]) (mB W g (i*12) (Builtin.zeroCells zS.cells (n-i)).toList):=by
 have hsz:(Builtin.zeroCells zS.cells (n-i)).toList.length=(n-i)*12:=by simp[size_zeroCells,zS,Value.cells]
 have hst:=run_storeCells_cells (P:=prog) g (i*12) (Builtin.zeroCells zS.cells (n-i)).toList 0 W (λj hj=>by
  rw[hsz] at hj;rw[aE hb,Array.getElem?_eq_getElem (by omega)];rfl) (λj hj=>bB hb _) (aAs _ (by simpa using aT1) _)
 simp only[Nat.add_zero] at hst;obtain⟨m,hm⟩:∃m,n-i=m+1:=⟨n-i-1,by omega⟩;rw[hm] at hst⊢;rw[aB3];have hz:=aRe W;unfold zS at hst hz⊢;simp[Builtin.clear_,run_underlying underlying74,hz,hst]
theorem aQt {g i n:Nat}(hi:i<n)(W:World):(Instr.slice 74 (.slice (some ⟨g,0,none⟩) n n) (some (.int .i64 i)) none none).run prog W=.ok (.slice (some ⟨g,i*12,none⟩) (n-i) (n-i)) W:=by
 have:=xH (some ⟨g,0,none⟩) n n i (by omega) W;rw[this];simp only[nD];rw[if_neg (by omega)];simp[Addr.add_lit]
def aVy (w:World)(now:Int)(g:Nat)(T:List aP)(e:Ending)(w':World):Prop:=∃M:List aP,e=.returned (.slice (some ⟨g,0,none⟩) M.length T.length)/\eN w' g M/\M.length<=T.length/\(∀x∈M,x∈T)/\dI g w w'/\((∀x∈T,now<=(x.seen:Int))->M=T)
theorem aC9 (now ttl:Int)(g:Nat)(T:List aP)(hl:T.length<=20)(w:World)(hR:eN w g T)(hS:∀x∈T,yK w x/\iW g x):Calls prog 141 #[.slice (some ⟨g,0,none⟩) T.length T.length,wtV now ttl] w (aVy w now g T):=by
 have HI:=aA (aHi now ttl T hl ⟨some ⟨g,0,none⟩,T.length⟩ w ⟨⟨hR.rd,aH,by show T.length<=_;omega,(λh=>by cases h),dJ.some _ _⟩,λx hx=>(hS x hx).1⟩);have HW:=aA (λsn c0 c1 c2 c3 c4 c5 c6 c7 c8 c9 c10 W=>aD8 now ttl sn c0 c1 c2 c3 c4 c5 c6 c7 c8 c9 c10 W);have HR:=aA hR;have hgw:g<w.heap.size:=by obtain⟨cur,h⟩:=hR.blk;exact aC h
 clear hS hR;simp only at HI;go_enter func141,ntmps141;go_wp2_with fail;refine HI.out.mono ?_;rintro e w1 ⟨⟨i0,rfl,rfl|⟨k,rfl,hk,hno⟩⟩,hb1⟩
 .go_wp2_with fail;go_ret;exact⟨T,rfl,HR.out.aWu hb1,aH,λ_ h=>h,dI.of hb1,λ_=>rfl⟩
 have HNO:=aA hno;have HB1:=aA hb1;have hne1:((k:Int)== -1)=false:=beq_eq_false_iff_ne.2 (by omega);clear hno hb1 HI;go_wp2_with fail
 go_loopw [5,6] (λa b wr=>∃(i j:Nat) (M:List aP),a=.int .i64 i/\b=.int .i64 j/\i<j/\j<=T.length/\M.length=T.length/\eN wr g M/\(∀x∈M,x∈T)/\dI g w wr) (λ_ b _=>T.length-(intOf b).toNat)
 case atStart=>exact⟨k,k+1,T,rfl,by go_num,Nat.lt_succ_self _,hk,rfl,HR.out.aWu HB1.out,λ_ h=>h,dI.of HB1.out⟩
 case round=>
  obtain⟨i,j,M,rfl,rfl,hij,hj,hM,hrow,hMT,hbut⟩:=hrel;have hgr:g<wr.heap.size:=kG hgw hbut.size
  by_cases hlt:j<T.length
  .obtain⟨⟨lab,sk,sn,⟨ls,lc⟩,⟨⟨es,ec⟩,⟨cs,cc⟩,⟨gs,gc⟩⟩⟩,hx⟩:∃x,M[j]? =some x:=⟨_,cZ (by omega)⟩;obtain⟨g',o',eg,hg',hc⟩:=hrow.rd j _ hx;cases eg;have hc0:=hc 0 _ rfl;have hc1:=hc 1 _ rfl;have hc2:=hc 2 _ rfl;have hc3:=hc 3 _ rfl;have hc4:=hc 4 _ rfl;have hc5:=hc 5 _ rfl;have hc6:=hc 6 _ rfl;have hc7:=hc 7 _ rfl;have hc8:=hc 8 _ rfl;have hc9:=hc 9 _ rfl;have hc10:=hc 10 _ rfl;have hc11:=hc 11 _ rfl;simp only[Nat.zero_add,Nat.add_zero] at hc0 hc1 hc2 hc3 hc4 hc5 hc6 hc7 hc8 hc9 hc10 hc11;have st0:=(St.start wr).alloc (cs:= #[.slice ls lab.length lc,.int .i64 sk.kind,.int .i64 sk.lev,.slice es sk.e.length ec,.int .i64 sk.bits,.string sk.aWx,.int .i64 sk.rows,.int .i64 sk.aWv,.slice cs sk.c.length cc,.int .i64 sk.aWw,.slice gs sk.g.length gc,.int .u64 sn]) (T:=167);have HX:=aA (aB hx (aB hM (aB hrow (aB hMT hbut))));clear hx hM hrow hMT hbut hc hg';go_wp2_with fail;refine(HW.out _ _ _ _ _ _ _ _ _ _ _ _ _).mono ?_;rintro e w2 ⟨⟨b,rfl,-⟩,hb2⟩;have st1:=st0.to hb2;have hbB:=st1.below;clear hb2 st0 hc0 hc1 hc2 hc3 hc4 hc5 hc6 hc7 hc8 hc9 hc10 hc11;have rl:=st1.rl;cases b with
   |true=>
    clear rl;go_wp2_with fail;go_roundw
    case rel=>exact⟨i,j+1,M,rfl,by go_num,by omega,hlt,HX.out.2.1,HX.out.2.2.1.aWu hbB,HX.out.2.2.2.1,HX.out.2.2.2.2.trans (dI.of hbB)⟩
    case measure=>simp[intOf];omega
   |false=>
    have hrow2:=HX.out.2.2.1.aWu hbB;obtain⟨cur,hcur,hcs,hcx⟩:=hrow2;have hfr:∀o,w2.frozen? ⟨g,o,none⟩=false:=λo=>bB hcur o;have hcl:∀o,w2.cell? ⟨g,o,none⟩=cur[o]? :=λo=>aE hcur o;have hcM:M.length*12<=cur.size:=hcs;have hMl:=HX.out.2.1;obtain⟨y,hy⟩:∃y,M[i]? =some y:=⟨_,cZ (by omega)⟩;have HROW:=aA (show eN w2 g M from⟨cur,hcur,hcs,hcx⟩);have hq0:w2.cell? ⟨g,i*12,none⟩=some (y.l.v y.lab.length):=by rw[aE hcur];exact hcx i y hy 0 _ rfl
    have hq1:w2.cell? ⟨g,i*12+1,none⟩=some (.int .i64 y.sk.kind):=by rw[aE hcur];exact hcx i y hy 1 _ rfl
    have hq2:w2.cell? ⟨g,i*12+2,none⟩=some (.int .i64 y.sk.lev):=by rw[aE hcur];exact hcx i y hy 2 _ rfl
    have hq3:w2.cell? ⟨g,i*12+3,none⟩=some (y.k.e.v y.sk.e.length):=by rw[aE hcur];exact hcx i y hy 3 _ rfl
    have hq4:w2.cell? ⟨g,i*12+4,none⟩=some (.int .i64 y.sk.bits):=by rw[aE hcur];exact hcx i y hy 4 _ rfl
    have hq5:w2.cell? ⟨g,i*12+5,none⟩=some (.string y.sk.aWx):=by rw[aE hcur];exact hcx i y hy 5 _ rfl
    have hq6:w2.cell? ⟨g,i*12+6,none⟩=some (.int .i64 y.sk.rows):=by rw[aE hcur];exact hcx i y hy 6 _ rfl
    have hq7:w2.cell? ⟨g,i*12+7,none⟩=some (.int .i64 y.sk.aWv):=by rw[aE hcur];exact hcx i y hy 7 _ rfl
    have hq8:w2.cell? ⟨g,i*12+8,none⟩=some (y.k.c.v y.sk.c.length):=by rw[aE hcur];exact hcx i y hy 8 _ rfl
    have hq9:w2.cell? ⟨g,i*12+9,none⟩=some (.int .i64 y.sk.aWw):=by rw[aE hcur];exact hcx i y hy 9 _ rfl
    have hq10:w2.cell? ⟨g,i*12+10,none⟩=some (y.k.g.v y.sk.g.length):=by rw[aE hcur];exact hcx i y hy 10 _ rfl
    have hq11:w2.cell? ⟨g,i*12+11,none⟩=some (.int .u64 (y.seen:Nat)):=by rw[aE hcur];exact hcx i y hy 11 _ rfl
    have hil:i<T.length:=by omega
    clear hcl hcur hcs hcx hcM hy hMl;go_wp2_with fail;have hF1:=HROW.out.set i (by have:=HX.out.2.1;omega) (⟨lab,sk,sn,⟨ls,lc⟩,⟨⟨es,ec⟩,⟨cs,cc⟩,⟨gs,gc⟩⟩⟩:aP);have hF2:=jV g (aN (⟨lab,sk,sn,⟨ls,lc⟩,⟨⟨es,ec⟩,⟨cs,cc⟩,⟨gs,gc⟩⟩⟩:aP)) (i*12) w w2 (HX.out.2.2.2.2.trans (dI.of hbB));have HF:=aA (aB hF1 hF2);clear hF1 hF2;go_roundw
    case rel=>
     refine⟨i+1,j+1,M.set i ⟨lab,sk,sn,⟨ls,lc⟩,⟨⟨es,ec⟩,⟨cs,cc⟩,⟨gs,gc⟩⟩⟩,by go_num,by go_num,by omega,hlt,by rw[List.length_set];exact HX.out.2.1,HF.out.1,λx hx=> ?_,HF.out.2⟩;rcases List.mem_or_eq_of_mem_set hx with hx|rfl
     .exact HX.out.2.2.2.1 x hx
     .exact HX.out.2.2.2.1 _ (bK HX.out.1)
    case measure=>simp[intOf];omega
  .obtain rfl:j=T.length:=by omega
   obtain⟨cur,hcur,hcs,hcx⟩:=hrow;have hsl:=λW=>aQt (g:=g) hij W;have hcl:=λty=>aF1 hcur hij (by rw[<-hM];exact hcs) ty;have hto:∀W,(Instr.slice 74 (.slice (some ⟨g,0,none⟩) T.length T.length) none (some (.int .i64 i)) none).run prog W=.ok (.slice (some ⟨g,0,none⟩) i T.length) W:=λW=>aP6 _ (dJ.some _ _) _ _ _ (by omega) W;obtain⟨zs,hzs⟩:∃zs,(Builtin.zeroCells zS.cells (T.length-i)).toList=zs:=⟨_,rfl⟩;have hzl:zs.length=(T.length-i)*12:=by rw[<-hzs];simp[size_zeroCells,zS,Value.cells]
   rw[hzs] at hcl;obtain⟨cur',e1,e2,e3,e4⟩:=nW g _ zs (i*12) wr cur hcur (by rw[hzl];omega);have hlow:eN (mB wr g (i*12) zs) g (M.take i):=eN.low ⟨cur,hcur,hcs,hcx⟩ (by omega) e1 (by rw[e2];omega) (λp hp=>by rw[aE e1,aE hcur];exact e3 p (.inl hp));have HL:=aA (aB hlow (aB (jV g zs (i*12) w wr hbut) (aB hMT hM)));clear hcur hcs hcx hzs hzl e1 e2 e3 e4 hlow hbut hMT hM;go_wp2_with fail;go_ret;refine⟨M.take i,?_,HL.out.1,?_,λx hx=>HL.out.2.2.1 x (List.mem_of_mem_take hx),HL.out.2.1,λh=>(HNO.out h).elim⟩
   .rw[show(M.take i).length=i by have:=HL.out.2.2.2;simp;omega];rfl
   .have:=HL.out.2.2.2;simp;omega
def aUs (B:Nat)(T:List aP):Value->World->Prop:=λv W=>∃(g:Nat) (T':List aP),v=.slice (some ⟨g,0,none⟩) T.length T.length/\B<=g/\T'.map aP.core=T.map aP.core/\aL 12 aN 167 W g (.slice (some ⟨g,0,none⟩) T.length T.length) T'/\∀x∈T',yK W x/\gK (g+1) x
theorem aOs (B:Nat)(T:List aP):bO (aUs B T):=λ_ _ _ ⟨g,T',h1,h2,h3,h4,h5⟩ hb=>⟨g,T',h1,h2,h3,aL.keep _ _ h4 hb,λx hx=>⟨(h5 x hx).1.aWu hb,(h5 x hx).2⟩⟩
def aV4 (w:World)(now:Int)(T:List aP)(e:Ending)(w':World):Prop:=
 (∃E:Int,E≠0/\e=.returned (.tuple #[.slice none 0 0,.int .i64 0,.int .i64 E])/\¬lG T)\/∃(t':Hd) (T':List aP) (n:Int),e=.returned (.tuple #[t'.v T'.length,.int .i64 n,.int .i64 0])/\aEx w.heap.size t' T' w'/\T'.length<=T.length/\((∀x∈T,now<=(x.seen:Int))->T'.map aP.core=T.map aP.core)
theorem aCb (T:List aP)(hT:pS T)(t:Hd)(now ttl:Int)(w:World)(hG:aQ w)(hR:mN w t T):Calls prog 99 #[.slice t.s T.length t.cap,.int .u64 now,.int .u64 ttl] w λe w'=>aV4 w now T e w'/\Below w.heap.size w w':=by
 have HR:=aA (eP T hT t w hG hR);obtain⟨ts,tc⟩:=t;have HT:=aA (aB hT hR);have HC:=aA (λW (hW:Below w.heap.size w W)=>aCf T hT ⟨ts,tc⟩ W (hR.aWu hW));have hl:=hT.len;clear hT hG hR;show Calls prog 99 #[.slice ts T.length tc,.int .u64 now,.int .u64 ttl] w _;simp only at HR HC;go_enter func99,ntmps99;go_wp2_with fail;refine HR.out.mono ?_;rintro e w1 ⟨⟨b,rfl,hb⟩,hb1⟩;have HB:=aA hb;clear HR hb;cases b with
 |false=>
  go_wp2_with fail;refine bodyPost_ret (v:=.tuple #[.slice none 0 0,.int .i64 0,.int .i64 120]) (by simp[results,results99,go_sem]) rfl ⟨.inl ⟨_,by decide,rfl,λh=>by have:=HB.out h;cases this⟩,hb1⟩
 |true=>
 have st1:=((St.start w).to hb1).alloc (cs:= #[.int .u64 now,.int .u64 ttl]) (T:=280);have hz1:=hb1.size;clear hb1;go_wp2_with fail;refine rS st1 4 [.val (.slice ts T.length tc),.fct (aUs (w1.heap.size+1) T) (aOs _ _),.val (.agg #[.int .u64 now,.int .u64 ttl]),.val (wtV now ttl)] ?spec ?endd
 case spec=>
  refine⟨?_,?_,?_,?_,trivial⟩
  all_goals(intro ρ W kc kf hW sW rl hu hd;simp only[aI] at rl)
  have u0:ρ (.tmp 0)=.slice ts T.length tc:=cR hu 0;rotate_left
  .have u17:ρ (.tmp 17)=_:=aK hd 0 17;refine aF rfl ?_;go_simp;refine⟨aW,(HC.out W sW.below).mono ?_⟩;rintro e w' ⟨T',rfl,h1,h2,h3,hb'⟩;exact⟨_,rfl,hb',W.heap.size,T',rfl,by have:=aC (sW.blk _ (bK (i:=0) rfl));omega,h1,h2,h3⟩
  have u9:ρ (.tmp 9)=pv w1.heap.size 0:=cR hu 9;rotate_left;have u19:ρ (.tmp 19)=_:=aK hd 2 19;have hmf:∀(fn:Fn) (first cap:Array Value) (w:World),(Instr.makeFunc fn first cap).run prog w=.ok (.func fn first cap) w:=λ_ _ _ _=>rfl;rotate_left
  all_goals(refine aF rfl ?_;go_simp;exact aG rfl)
 case endd=>
  rintro v W hW sW rl ⟨h1,-⟩;simp only[aI] at rl;obtain⟨g,T',hv,hgB,hcore,hO,hS⟩:=h1;rw[hv];clear hv;have hOk:=pS.core HT.out.1 hcore;have hTl:T'.length=T.length:=by have:=congrArg List.length hcore;simpa using this
  have hb:=sW.below;have HD:=aA (aC9 now ttl g T' hOk.len W (eN.of hO hTl.symm) (λx hx=>⟨(hS x hx).1,iW.of (hS x hx).2 (Nat.lt_succ_self _)⟩));rw[hTl] at HD;have HH:=aA (aB hgB (aB hcore (aB hS (aB hOk (aB hTl hb)))));have hgW:g<W.heap.size:=(hO.lt g rfl).2;clear hgB hcore hS hOk hTl hb hO sW hW st1 rl HC;go_wp2_with fail;refine HD.out.mono ?_;rintro e w5 ⟨M,rfl,hrow,hMl,hMT,hbut,hall⟩;have HM:=aA (aB hrow (aB hMl (aB hMT (aB hbut hall))));clear hrow hMl hMT hbut hall HD;go_wp2_with fail;have hwg:w.heap.size<=g:=dR hz1 (dR (by simp) HH.out.1);have hlen:M.length<=T.length:=by have h1:=HM.out.2.1;have h2:=HH.out.2.2.2.2.1;omega
  refine bodyPost_ret (v:=.tuple #[.slice (some ⟨g,0,none⟩) M.length T'.length,.int .i64 (wrap64 ((T.length:Int)-(M.length:Int))),.int .i64 0]) (by simp[results,results99,go_sem]) rfl ⟨.inr ⟨⟨some ⟨g,0,none⟩,T'.length⟩,M,_,rfl,⟨⟨⟨HM.out.1.rd,HM.out.2.1,by show T'.length<=_;have:=HH.out.2.2.2.2.1;omega,(λh=>by cases h),dJ.some _ _⟩,λx hx=> ?_⟩,⟨by omega,λx hx=>HH.out.2.2.2.1.ok x (HM.out.2.2.1 x hx)⟩,λg' o e=>by cases e;exact hwg,λx hx=>(HH.out.2.2.1 x (HM.out.2.2.1 x hx)).2.mono (by omega)⟩,hlen,λh=> ?_⟩,HM.out.2.2.2.1.below HH.out.2.2.2.2.2 hwg⟩
  .obtain⟨a,b⟩:=HH.out.2.2.1 x (HM.out.2.2.1 x hx);exact a.but (iW.of b (Nat.lt_succ_self _)) HM.out.2.2.2.1
  .have h1:=HM.out.2.2.2.2 (λx hx=>by
    have hc:x.core∈T.map aP.core:=by rw[<-HH.out.2.1];exact List.mem_map.2 ⟨x,hx,rfl⟩
    obtain⟨y,hy,he⟩:=List.mem_map.1 hc;simp only[aP.core,Prod.mk.injEq] at he;rw[<-he.2.2];exact h y hy)
   rw[h1];exact HH.out.2.1
theorem aF3 (b:Int)(w:World):Calls prog 115 #[.int .i64 b] w λe w'=>mW (λq=>0<=b/\b<=1000000->q=true) e/\w'=w:=by
 by_cases h0:0<=b
 .have h0':decide (b≥0)=true:=by simpa using h0
  go_enter func115,ntmps115;go_wp2_with fail;go_ret;exact⟨⟨_,rfl,λh=>by simp[h.2]⟩,rfl⟩
 .have h0':decide (b≥0)=false:=by simpa using h0
  go_enter func115,ntmps115;go_wp2_with fail;go_ret;exact⟨⟨false,rfl,λh=>by omega⟩,rfl⟩
theorem aRt (s:Option Addr)(n c k:Nat)(h:k<c)(W:World):(Instr.slice 74 (.slice s n c) (some (.int .i64 k)) (some (.int .i64 ((k:Int)+1))) none).run prog W=.ok (.slice (nD s c k) 1 (c-k)) W:=by
 have h1:∀W,(sizeOf (prog.elem 74)).run prog W=.ok 12 W:=λW=>by kernel_rfl
 rw[run_slice_lh W _ s n c (by kernel_rfl) .i64 .i64 (k:Int) ((k:Int)+1) (by omega) (by omega) (by omega),h1];have e1:((k:Int)+1).toNat=k+1:=by omega
 simp only[Result.andThen,sliced,e1,Int.toNat_natCast,Nat.add_sub_cancel_left];rfl
def aVx (T:List aP)(e:Ending):Prop:=∃(at_:Nat) (b:Bool),e=.returned (.tuple #[.int .i64 at_,.bool b])/\(b=true->∃x,T[at_]? =some x/\x.sk.lev<x.sk.bot)
theorem aHp (T:List aP)(hT:pS T)(t:Hd)(w:World)(hG:aQ w)(hR:mN w t T):Calls prog 117 #[.slice t.s T.length t.cap] w λe w'=>aVx T e/\Below w.heap.size w w':=by
 have HR:=aA (eP T hT t w hG hR);obtain⟨ts,tc⟩:=t;have HT:=aA (aB hT (aB hR hG));have hl:=hT.len;have hcap:=hR.t.cap;simp only at hcap;clear hT hG hR;show Calls prog 117 #[.slice ts T.length tc] w _;simp only at HR;go_enter func117,ntmps117;go_wp2_with fail;refine HR.out.mono ?_;rintro e w1 ⟨⟨b,rfl,-⟩,hb1⟩;clear HR;cases b with
 |false=>
  go_wp2_with fail;go_ret2;exact⟨⟨0,false,rfl,λh=>by cases h⟩,hb1⟩
 |true=>
 go_wp2_with fail
 go_loopw [4,5,6,15] (λv c f i wr=>∃(k at_:Nat) (n:Int) (b:Bool),k<=T.length/\i=.int .i64 k/\v=.int .i64 at_/\c=.int .i64 n/\f=.bool b/\Below w.heap.size w wr/\(b=true->∃x,T[at_]? =some x/\x.sk.lev<x.sk.bot)) (λ_ _ _ i _=>T.length-(intOf i).toNat)
 case atStart=>exact⟨0,0,0,false,cJ _,rfl,rfl,rfl,rfl,hb1,λh=>by cases h⟩
 case round=>
  obtain⟨k,at_,n,fd,hk,rfl,rfl,rfl,rfl,hbw,hfd⟩:=hrel
  by_cases hlt:k<T.length
  .obtain⟨g,o,hts⟩:=HT.out.2.1.addr (by intro h;rw[h] at hlt;simp at hlt);simp only at hts;subst hts;obtain⟨⟨lab,sk,sn,⟨ls,lc⟩,⟨⟨es,ec⟩,⟨cs,cc⟩,⟨gs,gc⟩⟩⟩,hx⟩:∃x,T[k]? =some x:=⟨_,cZ hlt⟩;have hO:=HT.out.1.ok _ (bK hx);have tce:=cG (HT.out.2.1.aWu hbw) hx;have st0:=((St.start w).to hbw).alloc (cs:= #[.slice ls lab.length lc,.int .i64 sk.kind,.int .i64 sk.lev,.slice es sk.e.length ec,.int .i64 sk.bits,.string sk.aWx,.int .i64 sk.rows,.int .i64 sk.aWv,.slice cs sk.c.length cc,.int .i64 sk.aWw,.slice gs sk.g.length gc,.int .u64 sn]) (T:=167);have HBT:=aA (λW=>mZ sk W);have HCO:=aA (λW (hW:Below w.heap.size w W)=>lW ((T.drop k).take 1) ((HT.out.1.drop k).take 1) ⟨nD (some ⟨g,o,none⟩) tc k,tc-k⟩ W (HT.out.2.2.aWu hW) (((HT.out.2.1.aWu hW).aXn k).aX0 1));rw[show((T.drop k).take 1).length=1 by simp;omega] at HCO;simp only at HCO;have hsl:=λW=>aRt (some ⟨g,o,none⟩) T.length tc k (by omega) W;have HX:=aA (aB hx hfd);have hbot:sk.bot<=4:=by unfold Sk.bot;split<;>omega
   clear hx hO hfd hbw;generalize sk.bits=bi at*;generalize sk.aWx=rg at*;generalize sk.rows=rw at*;generalize sk.aWv=cl at*;generalize sk.aWw=fi at*;generalize sk.e=E at*;generalize sk.c=C at*;generalize sk.g=G at*;go_wp2_with fail;refine rA st0 8 [.val (pv wr.heap.size 1),.val (pv wr.heap.size 2),.val (.int .i64 sk.lev),.val (pv wr.heap.size 1),.val (pv wr.heap.size 1),.val (.int .i64 sk.kind),.val (.int .i64 sk.bot),.val (.bool (decide ((sk.bot:Int)<=(sk.lev:Int))))] ?spec ?endd
   case spec=>
    refine⟨?_,?_,?_,?_,?_,?_,?_,?_,trivial⟩
    all_goals(intro ρ W kc kf hW sW rl hu hd;simp only[aI] at rl)
    have u8:ρ (.tmp 8)=pv wr.heap.size 0:=cR hu 8;rotate_left;have u20:ρ (.tmp 20)=_:=aK hd 0 20;rotate_left;have u21:ρ (.tmp 21)=_:=aK hd 1 21;rotate_left;have u8:ρ (.tmp 8)=pv wr.heap.size 0:=cR hu 8;rotate_left;have u23:ρ (.tmp 23)=_:=aK hd 3 23;rotate_left;have u24:ρ (.tmp 24)=_:=aK hd 4 24;rotate_left
    .have u25:ρ (.tmp 25)=_:=aK hd 5 25;refine aF rfl ?_;go_simp;refine⟨aW,(HBT.out W).mono ?_⟩;rintro e w' ⟨rfl,rfl⟩;exact⟨_,rfl,aW,rfl⟩
    have u22:ρ (.tmp 22)=_:=aK hd 2 22;have u26:ρ (.tmp 26)=_:=aK hd 6 26;rotate_left
    all_goals(refine aF rfl ?_;go_simp;exact aG rfl)
   case endd=>
    intro v W hW sW rl _;simp only[aI] at rl;clear tce;have hb:=sW.below;clear rl sW hW st0 HBT;refine wpList_nil ?_;go_frame
    by_cases hlv:sk.bot<=sk.lev
    .have hd:decide ((sk.bot:Int)<=(sk.lev:Int))=true:=by simp;omega
     clear hsl;go_wp2_with fail;go_roundw
     case rel=>exact⟨k+1,at_,n,fd,hlt,by go_num,rfl,rfl,rfl,hb,HX.out.2⟩
     case measure=>simp[intOf];omega
    .have hd:decide ((sk.bot:Int)<=(sk.lev:Int))=false:=by simp;omega
     go_wp2_with fail;refine(HCO.out _ hb).mono ?_;rintro e w3 ⟨⟨co,rfl,-,-⟩,hb3⟩;have hbb:=hb.trans (hb3.mono hb.size);have hvic:Hid (∃x,T[k]? =some x/\x.sk.lev<x.sk.bot):=⟨_,HX.out.1,by show sk.lev<sk.bot;omega⟩;clear hsl hb hb3 HCO;cases fd with
     |false=>
      go_wp2_with fail;go_roundw
      case rel=>exact⟨k+1,k,co,true,hlt,by go_num,rfl,rfl,rfl,hbb,λ_=>hvic⟩
      case measure=>simp[intOf];omega
     |true=>
      by_cases hgt:n<co
      .go_wp2_with fail;go_roundw
       case rel=>exact⟨k+1,k,co,true,hlt,by go_num,rfl,rfl,rfl,hbb,λ_=>hvic⟩
       case measure=>simp[intOf];omega
      .go_wp2_with fail;go_roundw
       case rel=>exact⟨k+1,at_,n,true,hlt,by go_num,rfl,rfl,rfl,hbb,λ_=>HX.out.2 (by trivial)⟩
       case measure=>simp[intOf];omega
  .obtain rfl:k=T.length:=by omega
   have HX:=aA hfd;clear hfd;go_wp2_with fail;go_ret2;exact⟨⟨at_,fd,rfl,HX.out⟩,hbw⟩
section
variable {M:List aP} {g:Nat}
theorem aGl (L:List aP)(hl:L.length<=100000)(g o cap:Nat)(w:World)(hL:bS 12 aN w ⟨some ⟨g,o,none⟩,cap⟩ L):
  Calls prog 160 #[.slice (some ⟨g,o,none⟩) L.length cap] w λe w'=>∃v,e=.returned v/\aL 12 aN 167 w' w.heap.size v L/\Below w.heap.size w w':=by
 obtain⟨hrd,hcap,hmax,hnil,hpl⟩:=hL;simp only at hrd hcap hmax hnil hpl;have hlb:L.length+0<=1000000:=by omega
 have HL:=aA hrd;clear hpl hnil hmax;have hq:=Lib.run_eql_slice_nil (P:=prog);go_enter func160,ntmps160;go_wp2_with(at_builtin;refine cY xC cN rX rfl (.tmp 5) (.tmp 6) rfl w.heap.size (.slice (some ⟨w.heap.size,0,none⟩) 0 0) ([]:List aP) rfl ((St.start w).to (aW.alloc aH _)) (lH w 167 12 aN) aH (by simp) ?_ L L.length rfl (some ⟨g,o,none⟩) cap rfl (λh=>by cases h) (HL.out.aWu aH (aW.alloc aH _)) ?_ (by decide) ?_)
 .simp
 .simpa using hlb
 intro v' w' ap;have hown:=ap.own;obtain⟨d,rfl,hd,hf⟩:=bS.aXa cN ap.own;go_wp2_with fail;go_ret;exact⟨_,rfl,hown,ap.st.below⟩
theorem dI.aXk {a b c:World}(h:dI g a b)(k:Below b.heap.size b c):dI g a c:=h.trans (dI.of k)
theorem aA4 {i:Nat}{x:aP}(h:M[i]? =some x)(y:aP):(M.set i y)[i]? =some y:=by
 rw[List.getElem?_set,if_pos rfl,if_pos (gJ.1 h).1]
theorem eN.aX4 {W:World}(h:eN W g M){i:Nat}{y:aP}(hy:M[i]? =some y)(j:Nat)(hj:j<12)(v:Value)(y':aP)(he:∀q u,(aN y')[q]? =some u->if q=j then u=v else(aN y)[q]? =some u):
  eN (W.setCell ⟨g,i*12+j,none⟩ v) g (M.set i y'):=by
 obtain⟨cur,h1,h2,h3⟩:=h;have hi:=(gJ.1 hy).1;refine⟨cur.setIfInBounds (i*12+j) v,cU h1 _ v,by simpa using h2,λk x hx q u hq=> ?_⟩;have hq12:q<12:=by have:=(gJ.1 hq).1;rwa[cN] at this
 rw[Array.getElem?_setIfInBounds];rw[List.getElem?_set] at hx;split at hx
 .rename_i e;subst e;simp[hi] at hx;subst hx;have h4:=he q u hq;split at h4
  .rename_i e;subst e;rw[if_pos rfl,if_pos (by omega),h4]
  .rename_i e;rw[if_neg (by omega)];exact h3 i y hy q u h4
 .rename_i e;rw[if_neg (by omega)];exact h3 k x hx q u hq
theorem eN.at {W:World}(h:eN W g M){i:Nat}{lab:List dQ}{sk:Sk}{sn:Nat}{ls:Option Addr}{lc:Nat}{es:Option Addr}{ec:Nat}{cs:Option Addr}{cc:Nat}{gs:Option Addr}{gc:Nat}(hx:M[i]? =some ⟨lab,sk,sn,⟨ls,lc⟩,⟨⟨es,ec⟩,⟨cs,cc⟩,⟨gs,gc⟩⟩⟩):
  (∀o,W.frozen? ⟨g,o,none⟩=false)/\W.cell? ⟨g,i*12,none⟩=some (.slice ls lab.length lc)/\W.cell? ⟨g,i*12+3,none⟩=some (.slice es sk.e.length ec)/\W.cell? ⟨g,i*12+8,none⟩=some (.slice cs sk.c.length cc)/\W.cell? ⟨g,i*12+10,none⟩=some (.slice gs sk.g.length gc):=by
 obtain⟨cur,h1,h2,h3⟩:=h;exact⟨λo=>bB h1 o,by rw[aE h1];exact h3 i _ hx 0 _ rfl,by rw[aE h1];exact h3 i _ hx 3 _ rfl,by rw[aE h1];exact h3 i _ hx 8 _ rfl,by rw[aE h1];exact h3 i _ hx 10 _ rfl⟩
def aU5 (w:World)(T:List aP)(e:Ending)(w':World):Prop:=∃(g cap:Nat) (M:List aP),e=.returned (.slice (some ⟨g,0,none⟩) T.length cap)/\T.length<=cap/\cap<=9223372036854775807/\w.heap.size<=g/\M.map aP.core=T.map aP.core/\eN w' g M/\(∀x∈M,yK w' x/\gK (g+1) x)/\Below w.heap.size w w'
theorem aCg (T:List aP)(hT:pS T)(hne:T≠[])(t:Hd)(w:World)(hR:mN w t T):Calls prog 116 #[.slice t.s T.length t.cap] w (aU5 w T):=by
 obtain⟨g0,o0,hts⟩:=hR.addr hne;obtain⟨ts,tc⟩:=t;simp only at hts;subst hts;have hl:=hT.len;have HT:=aA (aB hT (aB hR hne));have HCL:=aA (aGl T (by omega) g0 o0 tc w hR.t);clear hT hR;show Calls prog 116 #[.slice (some ⟨g0,o0,none⟩) T.length tc] w _;go_enter func116,ntmps116;go_wp2_with fail;refine HCL.out.mono ?_;rintro e w1 ⟨v,rfl,hO,hb1⟩;obtain⟨g,cap,rfl,hgB,hcap,hmax⟩:∃g cap,v=.slice (some ⟨g,0,none⟩) T.length cap/\w.heap.size<=g/\T.length<=cap/\cap<=9223372036854775807:=by
  rcases hO.2 with⟨hv,hz⟩|⟨g,cap,cur,hv,hB,hbk,hcap,hcm,hcs,hct⟩
  .exact(HT.out.2.2 (List.eq_nil_of_length_eq_zero hz)).elim
  .exact⟨g,cap,hv,hB,hcap,by unfold maxLen at hcm;omega⟩
 have hgw:g<w1.heap.size:=(hO.lt g rfl).2;have H0:eN w1 g T:=eN.of hO rfl;have HB:=aA (aB hgB (aB hcap (aB hmax hb1)));have HS1:∀x∈T,yK w1 x/\iW g x:=λx hx=>⟨(HT.out.2.1.s x hx).aWu hb1,.old (HT.out.2.1.s x hx) hgB⟩;clear hO hgB hcap hmax hb1 HCL hne;go_wp2_with fail
 go_loopw [10] (λi wr=>∃(k:Nat) (M:List aP),k<=T.length/\i=.int .i64 k/\M.map aP.core=T.map aP.core/\eN wr g M/\(∀j x,M[j]? =some x->yK wr x/\iW g x/\(j<k->gK (g+1) x))/\dI g w1 wr) (λi _=>T.length-(intOf i).toNat)
 case atStart=>exact⟨0,T,cJ _,rfl,rfl,H0,λj x hx=>⟨(HS1 x (bK hx)).1,(HS1 x (bK hx)).2,λh=>absurd h (Nat.not_lt_zero _)⟩,dI.refl _ _⟩
 case round=>
  clear H0 HS1;obtain⟨k,M,hk,rfl,hcore,hrow,hM,hbut⟩:=hrel;have hlen:M.length=T.length:=by have:=congrArg List.length hcore;simpa using this
  by_cases hlt:k<T.length
  .obtain⟨⟨lab,sk,sn,⟨ls,lc⟩,⟨⟨es,ec⟩,⟨cs,cc⟩,⟨gs,gc⟩⟩⟩,hx⟩:∃x,M[k]? =some x:=⟨_,cZ (by omega)⟩;have hS:=(hM k _ hx).1;have hOf:=(hM k _ hx).2.1;have hOk:=(pS.core HT.out.1 hcore).ok _ (bK hx);have hsm:=Sk.small hOk.1;have HC0:=aA (λW (hW:dI g wr W)=>qW lab (by have h:=hOk.2.len;simp only at h;omega) ⟨ls,lc⟩ W (hS.l.but hOf.1 hW));have HC1:=aA (λW (hW:dI g wr W)=>fJ sk.e hsm.1 ⟨es,ec⟩ W (hS.k.e.but hOf.2.1 hW));have HC2:=aA (λW (hW:dI g wr W)=>fJ sk.c hsm.2.1 ⟨cs,cc⟩ W (hS.k.c.but hOf.2.2.1 hW));have HC3:=aA (λW (hW:dI g wr W)=>mJ sk.g hsm.2.2 ⟨gs,gc⟩ W (hS.k.g.but hOf.2.2.2 hW));have HM:=aA (aB hcore (aB hM (aB hbut (aB hlen hx))));have hgr:g<wr.heap.size:=kG hgw hbut.size;have hbr:=dI.refl g wr;clear hcore hM hbut hlen hS hOf hOk hsm;have tce0:=hrow.at hx;obtain⟨fr0,q0,q3,q8,q10⟩:=tce0;have HR0:=aA (aB hrow hx);clear hrow hx;go_wp2_with fail;refine(HC0.out _ hbr).mono ?_;rintro e w2 ⟨⟨lS,lC⟩,rfl,hd,hf,hb1⟩;have HFl:=aA (hf.mono (show g+1<=_ from kG hgr hbr.size));have HDl:=aA hd;have hbr2:=hbr.aXk hb1;have hrow:=HR0.out.1.aWu hb1;have hx:=HR0.out.2;have tce:=hrow.at hx;clear fr0 q0 q3 q8 q10 hbr hb1 hd hf HR0;obtain⟨fr,q0,q3,q8,q10⟩:=tce;have HRb:=aA (aB hrow hx);clear hrow hx;simp only[Hd.v];go_wp2_with fail;have hrow:=HRb.out.1.aX4 HRb.out.2 0 (by omega) (.slice lS lab.length lC) (⟨lab,sk,sn,⟨lS,lC⟩,⟨⟨es,ec⟩,⟨cs,cc⟩,⟨gs,gc⟩⟩⟩:aP) (by intro q u hq;match q,hq with|0,hq=>(first|simpa[aN] using hq|(simp[aN] at hq⊢;exact hq.symm))|1,hq=>(first|simpa[aN] using hq|(simp[aN] at hq⊢;exact hq.symm))|2,hq=>(first|simpa[aN] using hq|(simp[aN] at hq⊢;exact hq.symm))|3,hq=>(first|simpa[aN] using hq|(simp[aN] at hq⊢;exact hq.symm))|4,hq=>(first|simpa[aN] using hq|(simp[aN] at hq⊢;exact hq.symm))|5,hq=>(first|simpa[aN] using hq|(simp[aN] at hq⊢;exact hq.symm))|6,hq=>(first|simpa[aN] using hq|(simp[aN] at hq⊢;exact hq.symm))|7,hq=>(first|simpa[aN] using hq|(simp[aN] at hq⊢;exact hq.symm))|8,hq=>(first|simpa[aN] using hq|(simp[aN] at hq⊢;exact hq.symm))|9,hq=>(first|simpa[aN] using hq|(simp[aN] at hq⊢;exact hq.symm))|10,hq=>(first|simpa[aN] using hq|(simp[aN] at hq⊢;exact hq.symm))|11,hq=>(first|simpa[aN] using hq|(simp[aN] at hq⊢;exact hq.symm))|q+12,hq=>simp[aN] at hq)
   have hx:=aA4 HRb.out.2 (⟨lab,sk,sn,⟨lS,lC⟩,⟨⟨es,ec⟩,⟨cs,cc⟩,⟨gs,gc⟩⟩⟩:aP);have hbr:=hbr2.set (k*12) (.slice lS lab.length lC);clear fr q0 q3 q8 q10 hbr2 HRb
   replace HDl:=aA (HDl.out.but (g:=g) (λ_=>gU.of HFl.out (Nat.lt_succ_self _)) ((dI.refl _ _).set (k*12) (.slice lS lab.length lC)))
   have tce1:=hrow.at hx;obtain⟨fr1,q0,q3,q8,q10⟩:=tce1;have HR1:=aA (aB hrow hx);clear hrow hx;go_wp2_with fail;refine(HC1.out _ hbr).mono ?_;rintro e w3 ⟨⟨eS,eC⟩,rfl,hd,hf,hb1⟩;have HFe:=aA (hf.mono (show g+1<=_ from kG hgr hbr.size))
   replace HDl:=aA (HDl.out.aWu hb1)
   have HDe:=aA hd;have hbr2:=hbr.aXk hb1;have hrow:=HR1.out.1.aWu hb1;have hx:=HR1.out.2;have tce:=hrow.at hx;clear fr1 q0 q3 q8 q10 hbr hb1 hd hf HR1;obtain⟨fr,q0,q3,q8,q10⟩:=tce;have HRb:=aA (aB hrow hx);clear hrow hx;simp only[Hd.v];go_wp2_with fail;have hrow:=HRb.out.1.aX4 HRb.out.2 3 (by omega) (.slice eS sk.e.length eC) (⟨lab,sk,sn,⟨lS,lC⟩,⟨⟨eS,eC⟩,⟨cs,cc⟩,⟨gs,gc⟩⟩⟩:aP) (by intro q u hq;match q,hq with|0,hq=>(first|simpa[aN] using hq|(simp[aN] at hq⊢;exact hq.symm))|1,hq=>(first|simpa[aN] using hq|(simp[aN] at hq⊢;exact hq.symm))|2,hq=>(first|simpa[aN] using hq|(simp[aN] at hq⊢;exact hq.symm))|3,hq=>(first|simpa[aN] using hq|(simp[aN] at hq⊢;exact hq.symm))|4,hq=>(first|simpa[aN] using hq|(simp[aN] at hq⊢;exact hq.symm))|5,hq=>(first|simpa[aN] using hq|(simp[aN] at hq⊢;exact hq.symm))|6,hq=>(first|simpa[aN] using hq|(simp[aN] at hq⊢;exact hq.symm))|7,hq=>(first|simpa[aN] using hq|(simp[aN] at hq⊢;exact hq.symm))|8,hq=>(first|simpa[aN] using hq|(simp[aN] at hq⊢;exact hq.symm))|9,hq=>(first|simpa[aN] using hq|(simp[aN] at hq⊢;exact hq.symm))|10,hq=>(first|simpa[aN] using hq|(simp[aN] at hq⊢;exact hq.symm))|11,hq=>(first|simpa[aN] using hq|(simp[aN] at hq⊢;exact hq.symm))|q+12,hq=>simp[aN] at hq);have hx:=aA4 HRb.out.2 (⟨lab,sk,sn,⟨lS,lC⟩,⟨⟨eS,eC⟩,⟨cs,cc⟩,⟨gs,gc⟩⟩⟩:aP);have hbr:=hbr2.set (k*12+3) (.slice eS sk.e.length eC);clear fr q0 q3 q8 q10 hbr2 HRb
   replace HDl:=aA (HDl.out.but (g:=g) (λ_=>gU.of HFl.out (Nat.lt_succ_self _)) ((dI.refl _ _).set (k*12+3) (.slice eS sk.e.length eC)))
   replace HDe:=aA (HDe.out.but (g:=g) (λ_=>gU.of HFe.out (Nat.lt_succ_self _)) ((dI.refl _ _).set (k*12+3) (.slice eS sk.e.length eC)))
   have tce2:=hrow.at hx;obtain⟨fr2,q0,q3,q8,q10⟩:=tce2;have HR2:=aA (aB hrow hx);clear hrow hx;go_wp2_with fail;refine(HC2.out _ hbr).mono ?_;rintro e w4 ⟨⟨cS,cC⟩,rfl,hd,hf,hb1⟩;have HFc:=aA (hf.mono (show g+1<=_ from kG hgr hbr.size))
   replace HDl:=aA (HDl.out.aWu hb1)
   replace HDe:=aA (HDe.out.aWu hb1)
   have HDc:=aA hd;have hbr2:=hbr.aXk hb1;have hrow:=HR2.out.1.aWu hb1;have hx:=HR2.out.2;have tce:=hrow.at hx;clear fr2 q0 q3 q8 q10 hbr hb1 hd hf HR2;obtain⟨fr,q0,q3,q8,q10⟩:=tce;have HRb:=aA (aB hrow hx);clear hrow hx;simp only[Hd.v];go_wp2_with fail;have hrow:=HRb.out.1.aX4 HRb.out.2 8 (by omega) (.slice cS sk.c.length cC) (⟨lab,sk,sn,⟨lS,lC⟩,⟨⟨eS,eC⟩,⟨cS,cC⟩,⟨gs,gc⟩⟩⟩:aP) (by intro q u hq;match q,hq with|0,hq=>(first|simpa[aN] using hq|(simp[aN] at hq⊢;exact hq.symm))|1,hq=>(first|simpa[aN] using hq|(simp[aN] at hq⊢;exact hq.symm))|2,hq=>(first|simpa[aN] using hq|(simp[aN] at hq⊢;exact hq.symm))|3,hq=>(first|simpa[aN] using hq|(simp[aN] at hq⊢;exact hq.symm))|4,hq=>(first|simpa[aN] using hq|(simp[aN] at hq⊢;exact hq.symm))|5,hq=>(first|simpa[aN] using hq|(simp[aN] at hq⊢;exact hq.symm))|6,hq=>(first|simpa[aN] using hq|(simp[aN] at hq⊢;exact hq.symm))|7,hq=>(first|simpa[aN] using hq|(simp[aN] at hq⊢;exact hq.symm))|8,hq=>(first|simpa[aN] using hq|(simp[aN] at hq⊢;exact hq.symm))|9,hq=>(first|simpa[aN] using hq|(simp[aN] at hq⊢;exact hq.symm))|10,hq=>(first|simpa[aN] using hq|(simp[aN] at hq⊢;exact hq.symm))|11,hq=>(first|simpa[aN] using hq|(simp[aN] at hq⊢;exact hq.symm))|q+12,hq=>simp[aN] at hq);have hx:=aA4 HRb.out.2 (⟨lab,sk,sn,⟨lS,lC⟩,⟨⟨eS,eC⟩,⟨cS,cC⟩,⟨gs,gc⟩⟩⟩:aP);have hbr:=hbr2.set (k*12+8) (.slice cS sk.c.length cC);clear fr q0 q3 q8 q10 hbr2 HRb
   replace HDl:=aA (HDl.out.but (g:=g) (λ_=>gU.of HFl.out (Nat.lt_succ_self _)) ((dI.refl _ _).set (k*12+8) (.slice cS sk.c.length cC)))
   replace HDe:=aA (HDe.out.but (g:=g) (λ_=>gU.of HFe.out (Nat.lt_succ_self _)) ((dI.refl _ _).set (k*12+8) (.slice cS sk.c.length cC)))
   replace HDc:=aA (HDc.out.but (g:=g) (λ_=>gU.of HFc.out (Nat.lt_succ_self _)) ((dI.refl _ _).set (k*12+8) (.slice cS sk.c.length cC)))
   have tce3:=hrow.at hx;obtain⟨fr3,q0,q3,q8,q10⟩:=tce3;have HR3:=aA (aB hrow hx);clear hrow hx;go_wp2_with fail;refine(HC3.out _ hbr).mono ?_;rintro e w5 ⟨⟨gS,gC⟩,rfl,hd,hf,hb1⟩;have HFg:=aA (hf.mono (show g+1<=_ from kG hgr hbr.size))
   replace HDl:=aA (HDl.out.aWu hb1)
   replace HDe:=aA (HDe.out.aWu hb1)
   replace HDc:=aA (HDc.out.aWu hb1)
   have HDg:=aA hd;have hbr2:=hbr.aXk hb1;have hrow:=HR3.out.1.aWu hb1;have hx:=HR3.out.2;have tce:=hrow.at hx;clear fr3 q0 q3 q8 q10 hbr hb1 hd hf HR3;obtain⟨fr,q0,q3,q8,q10⟩:=tce;have HRb:=aA (aB hrow hx);clear hrow hx;simp only[Hd.v];go_wp2_with fail;have hrow:=HRb.out.1.aX4 HRb.out.2 10 (by omega) (.slice gS sk.g.length gC) (⟨lab,sk,sn,⟨lS,lC⟩,⟨⟨eS,eC⟩,⟨cS,cC⟩,⟨gS,gC⟩⟩⟩:aP) (by intro q u hq;match q,hq with|0,hq=>(first|simpa[aN] using hq|(simp[aN] at hq⊢;exact hq.symm))|1,hq=>(first|simpa[aN] using hq|(simp[aN] at hq⊢;exact hq.symm))|2,hq=>(first|simpa[aN] using hq|(simp[aN] at hq⊢;exact hq.symm))|3,hq=>(first|simpa[aN] using hq|(simp[aN] at hq⊢;exact hq.symm))|4,hq=>(first|simpa[aN] using hq|(simp[aN] at hq⊢;exact hq.symm))|5,hq=>(first|simpa[aN] using hq|(simp[aN] at hq⊢;exact hq.symm))|6,hq=>(first|simpa[aN] using hq|(simp[aN] at hq⊢;exact hq.symm))|7,hq=>(first|simpa[aN] using hq|(simp[aN] at hq⊢;exact hq.symm))|8,hq=>(first|simpa[aN] using hq|(simp[aN] at hq⊢;exact hq.symm))|9,hq=>(first|simpa[aN] using hq|(simp[aN] at hq⊢;exact hq.symm))|10,hq=>(first|simpa[aN] using hq|(simp[aN] at hq⊢;exact hq.symm))|11,hq=>(first|simpa[aN] using hq|(simp[aN] at hq⊢;exact hq.symm))|q+12,hq=>simp[aN] at hq);have hx:=aA4 HRb.out.2 (⟨lab,sk,sn,⟨lS,lC⟩,⟨⟨eS,eC⟩,⟨cS,cC⟩,⟨gS,gC⟩⟩⟩:aP);have hbr:=hbr2.set (k*12+10) (.slice gS sk.g.length gC);clear fr q0 q3 q8 q10 hbr2 HRb
   replace HDl:=aA (HDl.out.but (g:=g) (λ_=>gU.of HFl.out (Nat.lt_succ_self _)) ((dI.refl _ _).set (k*12+10) (.slice gS sk.g.length gC)))
   replace HDe:=aA (HDe.out.but (g:=g) (λ_=>gU.of HFe.out (Nat.lt_succ_self _)) ((dI.refl _ _).set (k*12+10) (.slice gS sk.g.length gC)))
   replace HDc:=aA (HDc.out.but (g:=g) (λ_=>gU.of HFc.out (Nat.lt_succ_self _)) ((dI.refl _ _).set (k*12+10) (.slice gS sk.g.length gC)))
   replace HDg:=aA (HDg.out.but (g:=g) (λ_=>gU.of HFg.out (Nat.lt_succ_self _)) ((dI.refl _ _).set (k*12+10) (.slice gS sk.g.length gC)))
   have HROW:=aA (aB hrow hbr);clear hrow hx hbr;go_wp2_with fail;go_roundw
   case rel=>
    refine⟨k+1,_,hlt,by go_num,?_,HROW.out.1,?_,HM.out.2.2.1.trans HROW.out.2⟩
    .rw[List.set_set,List.set_set,List.set_set,List.map_set,<-HM.out.1];refine List.ext_getElem? λj=> ?_;rw[List.getElem?_set];split
     .rename_i e;subst e;rw[List.getElem?_map,HM.out.2.2.2.2];have:=(gJ.1 HM.out.2.2.2.2).1;simp[this,aP.core]
     .rfl
    .intro j x hj;rw[List.set_set,List.set_set,List.set_set,List.getElem?_set] at hj;split at hj
     .rename_i e;subst e;have:=(gJ.1 HM.out.2.2.2.2).1;simp[this] at hj;subst hj;have hfr:gK (g+1) (⟨lab,sk,sn,⟨lS,lC⟩,⟨⟨eS,eC⟩,⟨cS,cC⟩,⟨gS,gC⟩⟩⟩:aP):=⟨HFl.out,HFe.out,HFc.out,HFg.out⟩;exact⟨⟨HDl.out,HDe.out,HDc.out,HDg.out⟩,.of hfr (Nat.lt_succ_self _),λ_=>hfr⟩
     .rename_i e;obtain⟨a,b,c⟩:=HM.out.2.1 j x hj;exact⟨a.but b HROW.out.2,b,λh=>c (by omega)⟩
   case measure=>simp[intOf];omega
  .obtain rfl:k=T.length:=by omega
   have HM:=aA (aB hcore (aB hrow (aB hM (aB hbut hlen))));clear hcore hrow hM hbut hlen;go_wp2_with fail;go_ret;refine⟨g,cap,M,rfl,HB.out.2.1,HB.out.2.2.1,HB.out.1,HM.out.1,HM.out.2.1,λx hx=> ?_,HM.out.2.2.2.1.below HB.out.2.2.2 HB.out.1⟩;obtain⟨j,hj⟩:=List.mem_iff_getElem?.1 hx;obtain⟨a,_,c⟩:=HM.out.2.2.1 j x hj;exact⟨a,c (by have:=(gJ.1 hj).1;have:=HM.out.2.2.2.2;omega)⟩
end
structure aQ2 (F:Nat)(ov:Option Nat)(w w':World):Prop where
 os:w'.os=w.os
 tape:w'.tape=w.tape
 output:w'.output=w.output
 size:w.heap.size<=w'.heap.size
 block:∀k,k<w.heap.size->k≠F->ov≠some k->w'.heap[k]? =w.heap[k]?
def aSi (W:World)(F:Nat)(tb:Value)(ov:Option Nat)(P:List Nat)(p:Nat)(e:Ending)(W':World):Prop:=
 ∃d:Hd,e=.returned (.tuple #[])/\W'.heap[F]? =some (.cells #[d.v (P.length+1),tb] 242 (0,0))/\aL 1 rL 3 W' (F+1) (d.v (P.length+1)) (P++[p])/\aQ2 F ov W W'/\(∀j,(d.v (P.length+1)).ownBlock=some j->ov=some j\/W.heap.size<=j)
theorem aPy (F:Nat)(tb:Value)(d:Hd)(P:List Nat)(hP:P.length<=900000)(p:Nat)(W:World)(hF:W.heap[F]? =some (.cells #[d.v P.length,tb] 242 (0,0)))(hO:aL 1 rL 3 W (F+1) (d.v P.length) P):
  Calls prog 119 #[pv F 0,.int .i64 p] W (aSi W F tb (d.v P.length).ownBlock P p):=by
 obtain⟨ds,dc⟩:=d;have hc0:=aE hF 0;have hf0:=bB hF 0;have hFl:=aC hF;simp only[Hd.v] at hO hF hc0⊢;have hc0':W.cell? ⟨F,0,none⟩=some (.slice ds P.length dc):=hc0;obtain⟨s',c',e',hcap,hmax,hrd,hnil,hpl⟩:=hO.form fV;obtain⟨rfl,rfl⟩:ds=s'/\dc=c':=by simpa using e'
 have fin:∀(v':Value) (w5:World) (s6:Option Addr) (c6:Nat),v'=.slice s6 (P.length+1) c6->aL 1 rL 3 w5 (F+1) v' (P++[p])->(∀k,k<W.heap.size->(Value.slice ds P.length dc).ownBlock≠some k->w5.heap[k]? =W.heap[k]?)->W.heap.size<=w5.heap.size->w5.os=W.os->w5.tape=W.tape->w5.output=W.output->(∀j,v'.ownBlock=some j->(Value.slice ds P.length dc).ownBlock=some j\/W.heap.size<=j)->
   aSi W F tb (Value.slice ds P.length dc).ownBlock P p (.returned (.tuple #[])) (w5.setCell ⟨F,0,none⟩ v'):=by
  intro v' w5 s6 c6 hv ho hb hz h1 h2 h3 hj;subst hv;have hFo:(Value.slice ds P.length dc).ownBlock≠some F:=λe=>by have:=(hO.lt F e).1;omega
  have hF5:=(hb F hFl hFo).trans hF;refine⟨⟨s6,c6⟩,rfl,cU hF5 0 _,ho.other (grownBy_setCell' w5 F _) (Nat.lt_succ_self _),⟨h1,h2,h3,by simpa[World.setCell] using hz,λk hk hn hov=> ?_⟩,hj⟩;exact(Below.heap_setCell w5 ⟨F,0,none⟩ _ k hn).trans (hb k hk hov)
 have HF:=aA fin;have HO:=aA hO;have HRD:=aA (aB hrd (aB hnil (aB hpl (aB hcap hmax))));have hal:=(Below.refl W.heap.size W).alloc aH (.cells #[.int .i64 p] 3)
 by_cases hr:P.length+1<=dc
 .obtain⟨j,hds⟩:∃j,ds=some ⟨j,0,none⟩:=by
   rcases HO.out.2 with⟨hv,hz⟩|⟨g,cap,cur,hv,_⟩
   .simp at hv;omega
   .simp at hv;exact⟨g,hv.1⟩
  subst hds;have HB:=aA (λ(w5:World) (hg5:(W.alloc (.cells #[.int .i64 p] 3)).grownBy w5 (some j))=>show w5.heap[F]? =_ from(hg5.block F (kG hFl hal.size) (λe=>by cases e;have:=(hO.lt F rfl).1;omega)).trans ((hal.block F hFl).trans hF));clear hrd hnil hpl hO fin hF hmax hc0;go_enter func119,ntmps119;go_wp2_with(at_builtin;refine oW aJb fV sK rfl (.tmp 8) (.tmp 10) rfl (F+1) j P.length dc P rfl p rfl HO.out _ rfl W.heap.size rfl rfl hr ?_;intro w5 ho5 hg5;have hc5:w5.heap[F]? =some (.cells #[.slice (some ⟨j,0,none⟩) P.length dc,tb] 242 (0,0)):=HB.out w5 hg5;have hf5:=bB hc5 0;have hd5:=aE hc5 0;clear hc0' hf0)
  first|go_end0|refine bodyPost_ret (results_none rfl _ _ _) rfl ?_
  refine HF.out _ w5 _ _ rfl ho5 (λk hk hov=>(hg5.block k (kG hk hal.size) (λe=>hov (by cases e;rfl))).trans (hal.block k hk)) (dR hal.size hg5.size) (hg5.os.trans hal.os) (hg5.tape.trans hal.tape) (hg5.output.trans hal.output) (λj' e=>.inl (by cases e;rfl))
 .have hfull:dc=P.length:=by have:=HRD.out.2.2.2.1;omega
  subst hfull;have HB:=aA hF;clear hrd hnil hpl hO fin hF hmax hc0;go_enter func119,ntmps119;go_wp2_with(at_builtin;refine kS aJb fV sK rfl (.tmp 8) (.tmp 10) rfl ds P P.length rfl p rfl HRD.out.2.1 (St.start W) HRD.out.1 _ rfl W.heap.size rfl rfl (by omega) (by decide) ?_;intro v5 w5 ap;obtain⟨s6,c6,e6,-⟩:=ap.own.form fV;subst e6;have hc5:=(ap.st.below.block F hFl).trans HB.out;have hf5:=bB hc5 0;have hd5:=aE hc5 0;have HAP:=aA ap;clear hc0' hf0 ap)
  first|go_end0|refine bodyPost_ret (results_none rfl _ _ _) rfl ?_
  have ho5:=HAP.out.own;rw[show(P++[p]).length=P.length+1 by simp] at ho5;have hb5:=HAP.out.st.below;refine HF.out _ w5 s6 c6 (by simp) (by simpa using ho5.base (by omega)) (λk hk _=>hb5.block k hk) hb5.size hb5.os hb5.tape hb5.output (λj' e=>.inr (by
   have:=(ho5.lt j' (by simpa[Value.ownBlock] using e)).1;exact this))
section
variable {M:List aP} {g:Nat} {W:World}
def aCq (y:Sk)(k:aR):List Value:=[.int .i64 y.kind,.int .i64 y.lev,k.e.v y.e.length,.int .i64 y.bits,.string y.aWx,.int .i64 y.rows,.int .i64 y.aWv,k.c.v y.c.length,.int .i64 y.aWw,k.g.v y.g.length]
theorem eN.aYj (h:eN W g M){i:Nat}{x:aP}(hx:M[i]? =some x)(y:Sk)(k:aR):eN (mB W g (i*12+1) (aCq y k)) g (M.set i ⟨x.lab,y,x.seen,x.l,k⟩):=by
 obtain⟨cur,h1,h2,h3⟩:=h;have hi:=(gJ.1 hx).1;have hil:i*12+12<=M.length*12:=by omega
 obtain⟨cur',e1,e2,e3,e4⟩:=nW g _ (aCq y k) (i*12+1) W cur h1 (by simp[aCq];omega);refine⟨cur',e1,by rw[e2];simpa using h2,λq z hz j u hj=> ?_⟩;have hj12:j<12:=by have:=(gJ.1 hj).1;rwa[cN] at this
 rw[List.getElem?_set] at hz;split at hz
 .rename_i e;subst e;simp[hi] at hz;subst hz
  by_cases j0:j=0
  .subst j0;rw[e3 _ (by simp[aCq])];exact h3 i x hx 0 u (by simpa[aN] using hj)
  by_cases j11:j=11
  .subst j11;rw[e3 _ (by simp[aCq])];exact h3 i x hx 11 u (by simpa[aN] using hj)
  have h10:j-1<10:=by omega
  have:=e4 (j-1) (by simp[aCq];omega);rw[show i*12+1+(j-1)=i*12+j by omega] at this;rw[this,<-hj];obtain⟨q,rfl⟩:∃q,j=q+1:=⟨j-1,by omega⟩;simp only[Nat.add_sub_cancel];have hq:q=0\/q=1\/q=2\/q=3\/q=4\/q=5\/q=6\/q=7\/q=8\/q=9:=by omega
  rcases hq with rfl|rfl|rfl|rfl|rfl|rfl|rfl|rfl|rfl|rfl<;>rfl
 .rename_i e;rw[e3 _ (by simp[aCq];omega)];exact h3 q z hz j u hj
theorem eN.cells (h:eN W g M){i:Nat}{x:aP}(hx:M[i]? =some x):∀j u,(aN x)[j]? =some u->W.cell? ⟨g,i*12+j,none⟩=some u:=by
 obtain⟨cur,h1,h2,h3⟩:=h;intro j u hj;rw[aE h1];exact h3 i x hx j u hj
def sF (k l:Int):Nat:=((if k=1 then 4 else 3)-l).toNat
def aR9 :Option Value->Int
 |some v=>intOf v
 |none=>0
def wtW (W:World)(g n:Nat):Nat:=((List.range n).map λk=>sF (aR9 (W.cell? ⟨g,k*12+1,none⟩)) (aR9 (W.cell? ⟨g,k*12+2,none⟩))).sum
def wt (M:List aP):Nat:=(M.map λx=>sF x.sk.kind (x.sk.lev:Int)).sum
theorem aOh (h:eN W g M):wtW W g M.length=wt M:=by
 unfold wtW wt;congr 1;apply List.ext_getElem?;intro k;rw[List.getElem?_map,List.getElem?_map]
 by_cases hk:k<M.length
 .rw[List.getElem?_range hk,cZ hk];have hc:=h.cells (cZ hk);simp only[Option.map_some];rw[hc 1 _ rfl,hc 2 _ rfl];rfl
 .rw[List.getElem?_eq_none (by simp;omega),List.getElem?_eq_none (by omega)];rfl
theorem aTo (M:List aP):∀(i:Nat) (x y:aP),M[i]? =some x->sF y.sk.kind (y.sk.lev:Int)<sF x.sk.kind (x.sk.lev:Int)->wt (M.set i y)<wt M:=by
 induction M with
 |nil=>intro i x y h;simp at h
 |cons a M ih=>
  intro i x y h hl;cases i with
  |zero=>
   simp at h;subst h;simp only[wt,List.set_cons_zero,List.map_cons,List.sum_cons];omega
  |succ i=>
   have:=ih i x y (by simpa using h) hl;simp only[wt,List.set_cons_succ,List.map_cons,List.sum_cons] at*;omega
theorem aK0 {x y:Sk}(h:uS x y)(hl:x.lev<x.bot):sF y.kind (y.lev:Int)<sF x.kind (x.lev:Int):=by
 obtain⟨h1,h2⟩:=h;unfold sF;unfold Sk.bot at hl;rw[h1,h2];split at hl<;>rename_i hk
 .rw[if_pos hk];omega
 .rw[if_neg hk];omega
theorem aJm {i:Nat}{y z:aP}(h:z∈M.set i y):z=y\/z∈M:=(List.mem_or_eq_of_mem_set h).symm
end
end Go.Proofs.YtmgdbfmlnmahpaaGreatDoor
