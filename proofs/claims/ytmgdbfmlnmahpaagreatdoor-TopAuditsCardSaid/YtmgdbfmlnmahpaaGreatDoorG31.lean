/- Part of TopAudits. -/
import Derived.Test.YtmgdbfmlnmahpaaGreatDoorG26
import Derived.Test.YtmgdbfmlnmahpaaGreatDoorG30
import Derived.Deep.DeepAppendRoom
namespace Go.Proofs.YtmgdbfmlnmahpaaGreatDoor
set_option linter.unusedSimpArgs false
set_option linter.unusedVariables false
set_option maxRecDepth 100000
set_option maxHeartbeats 4000000
open Go.Proofs.Tryz
open Go.RowKit Go.Shelf
def qC (s:ByteArray):Prop:=s=yL\/s=⟨#[]⟩
theorem kQ (s:ByteArray)(hs:s.size<=100000)(w:World)(hG:aQ w):Calls prog 31 #[.string s] w λe w'=>mW (λb=>qC s->b=true) e/\Below w.heap.size w w':=by
 have HS:=aA (wA s hs w hG);clear hG;go_enter func31,ntmps31;go_wp2_with fail;refine HS.out.mono ?_;rintro e w1 ⟨⟨d,T,ok,rfl,_,_,h1,h2⟩,hb⟩;have H:=aA (aB h1 h2);clear HS h1 h2;simp only[Hd.v];go_wp2_with fail;go_ret;exact⟨⟨ok,rfl,λe=>e.elim (λe=>(H.out.1 e).1) (λe=>(H.out.2 e).1)⟩,hb⟩
def aVu (s:ByteArray)(L:List dQ)(e:Ending):Prop:=∃(b:Bool) (E:Int),e=.returned (.tuple #[.bool b,.int .i64 E])/\(E=0\/E=50)/\(L=[bA]/\qC s->b=true/\E=0)
theorem uV (s:ByteArray)(hs:s.size<=100000)(L:List dQ)(hL6:lD L)(sl:Option Addr)(cap:Nat)(w:World)(hG:aQ w)(hL:Rd 2 cO w sl L):
  Calls prog 165 #[.string s,.slice sl L.length cap] w λe w'=>aVu s L e/\Below w.heap.size w w':=by
 have HS:=aA (wA s hs w hG);have HL:=aA (aB hL (aB hL6 (aB hG hs)));clear hG hL hL6;go_enter func165,ntmps165;go_wp2_with fail;refine HS.out.mono ?_;rintro e w1 ⟨⟨⟨ts,tc⟩,T,ok,rfl,hd,hT,h1,h2⟩,hb⟩;have HX:=aA (aB h1 h2);have HR:=aA (gG L (λy hy=>by have:=HL.out.2.1.sm y hy;exact⟨by omega,by omega⟩) (by have:=HL.out.2.1.len;omega) sl cap w1 (HL.out.2.2.1.aWu hb) (HL.out.1.aWu aH hb));have HT:=aA (aB hd.rd hT);clear HS h1 h2 hd hT;simp only[Hd.v];cases ok with
 |false=>
  go_wp2_with fail;go_ret2;exact⟨⟨_,_,rfl,.inr rfl,λh=>h.2.elim (λe=>by have:=(HX.out.1 e).1;cases this) (λe=>by have:=(HX.out.2 e).1;cases this)⟩,hb⟩
 |true=>
 go_wp2_with fail;refine HR.out.mono ?_;rintro e w2 ⟨⟨b,rfl,hbr⟩,hb2⟩;have HBR:=aA hbr;have hbb:=hb.trans (hb2.mono hb.size);clear hbr;cases b with
 |false=>
  go_wp2_with fail;go_ret2;exact⟨⟨_,_,rfl,.inr rfl,λh=>by have:=HBR.out ⟨_,h.1,.inl rfl⟩;cases this⟩,hbb⟩
 |true=>
 have hTl:=HT.out.2.1;have hrd:Rd 2 cO w2 ts T:=HT.out.1.aWu aH hb2;have HQ:=aA (aB hrd hbb);clear hb hb2 hbb hrd HR;go_wp2_with fail
 go_loopw [26] (λi wr=>∃k:Nat,k<=T.length/\i=.int .i64 k/\Below w2.heap.size w2 wr) (λi _=>T.length-(intOf i).toNat)
 case atStart=>exact⟨0,cJ _,rfl,aW⟩
 case round=>
  obtain⟨k,hk,rfl,hbw⟩:=hrel
  by_cases hlt:k<T.length
  .obtain⟨x,hx⟩:∃x,T[k]? =some x:=⟨_,cZ hlt⟩;obtain⟨g,o,rfl,hg,hc1,hc2⟩:=uA (HQ.out.1.aWu aH hbw) hx;have hxm:=HT.out.2.2 x (bK hx);have HXM:=aA (aB hx hxm);obtain⟨xn,xp⟩:=x;simp only at hxm;have hbA:=hbw.alloc hbw.size (.cells #[.string xn,.string xp] 184);have hnew:=kH wr (.cells #[.string xn,.string xp] 184);have d0:=aE hnew 0;have d1:=aE hnew 1;have hbAw:=HQ.out.2.trans (hbA.mono HQ.out.2.size);have HGT:=aA (aMj L (by have:=HL.out.2.1.len;omega) sl cap xn (wr.alloc (.cells #[.string xn,.string xp] 184)) (HL.out.1.aWu aH hbAw));have HH:=aA (aB hbA (aB hbAw hnew));simp only at hc1 hc2;clear hx hxm hbw hbA hnew hbAw;go_wp2_with fail;refine HGT.out.mono ?_;rintro e w4 ⟨⟨v,b,rfl,hg1,hg2⟩,hb4⟩;have hbk4:=(hb4.block _ (aC HH.out.2.2)).trans HH.out.2.2;have e1:=aE hbk4 1;have hbw4:=HH.out.1.trans (hb4.mono HH.out.1.size);have hb44:=HQ.out.2.trans (hbw4.mono HQ.out.2.size);have HG1:=aA (aB hg1 hg2);have HB4:=aA (aB hbw4 hb44);have HAX:=aA (show L=[bA]/\qC s->xn=⟨#[97]⟩/\xp=⟨#[120]⟩ from λh=>by
    have hx:=HXM.out.1;rcases h.2 with e|e
    .rw[(HX.out.1 e).2] at hx;obtain⟨h0,h1⟩:=gJ.1 hx;simp at h0;subst h0;simp[bA] at h1;exact⟨h1.1.symm,h1.2.symm⟩
    .rw[(HX.out.2 e).2] at hx;simp at hx)
   clear hg1 hg2 hb4 hbk4 hbw4 hb44 hc1 hc2 d0 d1 HGT;cases b with
   |false=>
    go_wp2_with fail;go_ret2;exact⟨⟨_,_,rfl,.inl rfl,λh=>by have:=(HG1.out.2 ⟨h.1,(HAX.out h).1⟩).2;cases this⟩,HB4.out.2⟩
   |true=>
   have HF:=aA (aPq xp v (by have:=HXM.out.2.2;have:=HL.out.2.2.2;simp only at*;omega) (by obtain⟨y,hy,e⟩:=HG1.out.1 rfl;have:=HL.out.2.1.sm y hy;rw[e];omega) w4 (HL.out.2.2.1.aWu HB4.out.2));go_wp2_with fail;refine HF.out.mono ?_;rintro e w5 ⟨⟨b5,rfl,h5⟩,hb5⟩;have H5:=aA h5;have HB5:=aA hb5;clear h5 hb5 HF e1;cases b5 with
   |false=>
    go_wp2_with fail;go_ret2;exact⟨⟨_,_,rfl,.inl rfl,λh=>by have:=H5.out ⟨(HAX.out h).2,(HG1.out.2 ⟨h.1,(HAX.out h).1⟩).1⟩;cases this⟩,HB4.out.2.trans (HB5.out.mono HB4.out.2.size)⟩
   |true=>
    go_wp2_with fail;go_roundw
    case rel=>exact⟨k+1,hlt,by go_num,HB4.out.1.trans (HB5.out.mono HB4.out.1.size)⟩
    case measure=>simp[intOf];omega
  .obtain rfl:k=T.length:=by omega
   go_wp2_with fail;go_ret2;exact⟨⟨_,_,rfl,.inl rfl,λ_=>⟨rfl,rfl⟩⟩,HQ.out.2.trans (hbw.mono HQ.out.2.size)⟩
section
variable {T:List aP}
structure pS (T:List aP):Prop where
 len:T.length<=20
 ok:∀x∈T,x.sk.Ok/\lD x.lab
def lG (T:List aP):Prop:=T=[]\/∃x,T=[x]/\x.lab=[bA]
theorem lG.mem (h:lG T){x:aP}{k:Nat}(hx:T[k]? =some x):k=0/\x.lab=[bA]/\T=[x]:=by
 rcases h with rfl|⟨y,rfl,h⟩
 .simp at hx
 .obtain⟨h0,h1⟩:=gJ.1 hx;simp at h0;subst h0;simp at h1;subst h1;exact⟨rfl,h,rfl⟩
theorem mN.addr {W:World}{h:Hd}(r:mN W h T)(hT:T≠[]):∃g o,h.s=some ⟨g,o,none⟩:=by
 obtain⟨x,hx⟩:∃x,T[0]? =some x:=by
  cases T with
  |nil=>exact(hT rfl).elim
  |cons x _=>exact⟨x,rfl⟩
 obtain⟨g,o,e,_⟩:=aPt r hx;exact⟨g,o,e⟩
theorem cG {W:World}{g o tc:Nat}(r:mN W ⟨some ⟨g,o,none⟩,tc⟩ T){i:Nat}{lab:List dQ}{sk:Sk}{sn:Nat}{ls:Option Addr}{lc:Nat}{es:Option Addr}{ec:Nat}{cs:Option Addr}{cc:Nat}{gs:Option Addr}{gc:Nat}(hx:T[i]? =some ⟨lab,sk,sn,⟨ls,lc⟩,⟨⟨es,ec⟩,⟨cs,cc⟩,⟨gs,gc⟩⟩⟩):
  g<W.heap.size/\W.cell? ⟨g,o+i*12,none⟩=some (.slice ls lab.length lc)/\W.cell? ⟨g,o+i*12+1,none⟩=some (.int .i64 sk.kind)/\W.cell? ⟨g,o+i*12+2,none⟩=some (.int .i64 sk.lev)/\W.cell? ⟨g,o+i*12+3,none⟩=some (.slice es sk.e.length ec)/\W.cell? ⟨g,o+i*12+4,none⟩=some (.int .i64 sk.bits)/\W.cell? ⟨g,o+i*12+5,none⟩=some (.string sk.aWx)/\W.cell? ⟨g,o+i*12+6,none⟩=some (.int .i64 sk.rows)/\W.cell? ⟨g,o+i*12+7,none⟩=some (.int .i64 sk.aWv)/\W.cell? ⟨g,o+i*12+8,none⟩=some (.slice cs sk.c.length cc)/\W.cell? ⟨g,o+i*12+9,none⟩=some (.int .i64 sk.aWw)/\W.cell? ⟨g,o+i*12+10,none⟩=some (.slice gs sk.g.length gc)/\W.cell? ⟨g,o+i*12+11,none⟩=some (.int .u64 sn):=by
 obtain⟨g',o',e,hg,hc⟩:=aPt r hx;cases e;exact⟨hg,hc 0 _ rfl,hc 1 _ rfl,hc 2 _ rfl,hc 3 _ rfl,hc 4 _ rfl,hc 5 _ rfl,hc 6 _ rfl,hc 7 _ rfl,hc 8 _ rfl,hc 9 _ rfl,hc 10 _ rfl,hc 11 _ rfl⟩
theorem tB (lab:List dQ)(sk:Sk)(sn:Nat)(ls:Option Addr)(lc:Nat)(es:Option Addr)(ec:Nat)(cs:Option Addr)(cc:Nat)(gs:Option Addr)(gc:Nat)(hx:sk.Ok)(hl6:lD lab)(w:World)(hG:aQ w)(hS:yK w ⟨lab,sk,sn,⟨ls,lc⟩,⟨⟨es,ec⟩,⟨cs,cc⟩,⟨gs,gc⟩⟩⟩):
  Calls prog 113 #[.agg #[.slice ls lab.length lc,.int .i64 sk.kind,.int .i64 sk.lev,.slice es sk.e.length ec,.int .i64 sk.bits,.string sk.aWx,.int .i64 sk.rows,.int .i64 sk.aWv,.slice cs sk.c.length cc,.int .i64 sk.aWw,.slice gs sk.g.length gc,.int .u64 sn]] w λe w'=>mW (λb=>lab=[bA]->b=true) e/\Below w.heap.size w w':=by
 have HL:=aA (λW (hW:Below w.heap.size w W)=>gG lab (λy hy=>by have:=hl6.sm y hy;exact⟨by omega,by omega⟩) (by have:=hl6.len;omega) ls lc W (hG.aWu hW) (hS.l.rd.aWu aH hW));have HK:=aA (show∀W,Below w.heap.size w W->Calls prog 158 #[.agg #[.int .i64 sk.kind,.int .i64 sk.lev,.slice es sk.e.length ec,.int .i64 sk.bits,.string sk.aWx,.int .i64 sk.rows,.int .i64 sk.aWv,.slice cs sk.c.length cc,.int .i64 sk.aWw,.slice gs sk.g.length gc]] W λe w'=>e=.returned (.bool true)/\Below W.heap.size W w' from λW hW=>aBw sk hx ⟨⟨es,ec⟩,⟨cs,cc⟩,⟨gs,gc⟩⟩ W (hS.k.aWu hW));have st0:=(St.start w).alloc (cs:= #[.slice ls lab.length lc,.int .i64 sk.kind,.int .i64 sk.lev,.slice es sk.e.length ec,.int .i64 sk.bits,.string sk.aWx,.int .i64 sk.rows,.int .i64 sk.aWv,.slice cs sk.c.length cc,.int .i64 sk.aWw,.slice gs sk.g.length gc,.int .u64 sn]) (T:=167);clear hl6 hS hx hG;generalize sk.kind=kd at*;generalize sk.lev=lv at*;generalize sk.bits=bi at*;generalize sk.aWx=rg at*;generalize sk.rows=rw at*;generalize sk.aWv=cl at*;generalize sk.aWw=fi at*;generalize sk.e=E at*;generalize sk.c=C at*;generalize sk.g=G at*;go_enter func113,ntmps113;go_wp2_with fail;refine(HL.out _ st0.below).mono ?_;rintro e w1 ⟨⟨b,rfl,hb⟩,hb1⟩;have st1:=st0.to hb1;have rl:=st1.rl;have HB:=aA (show lab=[bA]->b=true from λh=>hb ⟨⟨#[120]⟩,h,.inl rfl⟩);clear st0 hb1 HL hb;cases b with
 |false=>
  have hb:=st1.below;clear rl st1 HK;go_wp2_with fail;go_ret;exact⟨⟨_,rfl,HB.out⟩,hb⟩
 |true=>
 go_wp2_with fail;refine(HK.out _ st1.below).mono ?_;rintro e w2 ⟨rfl,hb2⟩;have hb:=(st1.to hb2).below;clear HK rl st1;go_wp2_with fail;go_ret;exact⟨⟨_,rfl,λ_=>rfl⟩,hb⟩
def IsB :Value->World->Prop:=λv _=>∃b:Bool,v=.bool b
theorem rY :bO IsB:=λ_ _ _ h _=>h
theorem eP (T:List aP)(hT:pS T)(t:Hd)(w:World)(hG:aQ w)(hR:mN w t T):Calls prog 73 #[.slice t.s T.length t.cap] w λe w'=>mW (λb=>lG T->b=true) e/\Below w.heap.size w w':=by
 obtain⟨ts,tc⟩:=t;have HH:=aA (aB hT (aB hG hR));have h20:¬20<(T.length:Int):=by have:=hT.len;omega
 have hl:=hT.len;clear hT hG hR;show Calls prog 73 #[.slice ts T.length tc] w _;go_enter func73,ntmps73;go_wp2_with fail
 go_loopw [10] (λi wr=>∃k:Nat,k<=T.length/\i=.int .i64 k/\Below w.heap.size w wr) (λi _=>T.length-(intOf i).toNat)
 case atStart=>exact⟨0,cJ _,rfl,aW⟩
 case round=>
  obtain⟨k,hk,rfl,hbw⟩:=hrel
  by_cases hlt:k<T.length
  .obtain⟨g,o,hts⟩:=HH.out.2.2.addr (by intro h;rw[h] at hlt;simp at hlt);simp only at hts;subst hts;obtain⟨⟨lab,sk,sn,⟨ls,lc⟩,⟨⟨es,ec⟩,⟨cs,cc⟩,⟨gs,gc⟩⟩⟩,hx⟩:∃x,T[k]? =some x:=⟨_,cZ hlt⟩;have hS:=HH.out.2.2.s _ (bK hx);have hO:=HH.out.1.ok _ (bK hx);have tce:=cG (HH.out.2.2.aWu hbw) hx;have st0:=((St.start w).to hbw).alloc (cs:= #[.slice ls lab.length lc,.int .i64 sk.kind,.int .i64 sk.lev,.slice es sk.e.length ec,.int .i64 sk.bits,.string sk.aWx,.int .i64 sk.rows,.int .i64 sk.aWv,.slice cs sk.c.length cc,.int .i64 sk.aWw,.slice gs sk.g.length gc,.int .u64 sn]) (T:=167);have HR:=aA (λW (hW:Below w.heap.size w W)=>tB lab sk sn ls lc es ec cs cc gs gc hO.1 hO.2 W (HH.out.2.1.aWu hW) (hS.aWu hW));have HX:=aA hx;have HLB:=aA (aB hS.l.rd hO.2);clear hx hS hO hbw;generalize sk.kind=kd at*;generalize sk.lev=lv at*;generalize sk.bits=bi at*;generalize sk.aWx=rg at*;generalize sk.rows=rw at*;generalize sk.aWv=cl at*;generalize sk.aWw=fi at*;generalize sk.e=E at*;generalize sk.c=C at*;generalize sk.g=G at*;go_wp2_with fail;refine(HR.out _ st0.below).mono ?_;rintro e w1 ⟨⟨b,rfl,hb⟩,hb1⟩;have st1:=st0.to hb1;have rl:=st1.rl;have HB:=aA hb;clear st0 hb1 HR hb tce;cases b with
   |false=>
    have hb:=st1.below;clear rl st1;go_wp2_with fail;go_ret;exact⟨⟨_,rfl,λh=>by have:=HB.out (h.mem HX.out).2.1;cases this⟩,hb⟩
   |true=>
   by_cases h0:k=0
   .subst h0;go_wp2_with fail;refine rA st1 14 [.val (.int .i64 0),.val (.bool false),.val (.bool false),.val undef,.val undef,.val undef,.val undef,.val undef,.val undef,.val undef,.val undef,.val undef,.val undef,.val (.bool false)] ?spec ?endd
    case spec=>
     refine⟨?_,?_,?_,?_,?_,?_,?_,?_,?_,?_,?_,?_,?_,?_,trivial⟩
     all_goals(intro ρ W kc kf hW sW rl hu hd;simp only[aI] at rl)
     have u3:ρ (.tmp 3)=.int .i64 0:=cR hu 3;rotate_left;have u18:ρ (.tmp 18)=_:=aK hd 0 18;rotate_left;have u19:ρ (.tmp 19)=_:=aK hd 1 19;rotate_left
     .have ug:ρ (.tmp 20)=_:=aK hd 2 20;exact iG rfl (by kernel_rfl) ug rfl
     .have ug:ρ (.tmp 20)=_:=aK hd 2 20;exact iG rfl (by kernel_rfl) ug rfl
     .have ug:ρ (.tmp 20)=_:=aK hd 2 20;exact iG rfl (by kernel_rfl) ug rfl
     .have ug:ρ (.tmp 20)=_:=aK hd 2 20;exact iG rfl (by kernel_rfl) ug rfl
     .have ug:ρ (.tmp 20)=_:=aK hd 2 20;exact iG rfl (by kernel_rfl) ug rfl
     .have ug:ρ (.tmp 20)=_:=aK hd 2 20;exact iG rfl (by kernel_rfl) ug rfl
     .have ug:ρ (.tmp 20)=_:=aK hd 2 20;exact iG rfl (by kernel_rfl) ug rfl
     .have ug:ρ (.tmp 20)=_:=aK hd 2 20;exact iG rfl (by kernel_rfl) ug rfl
     .have ug:ρ (.tmp 20)=_:=aK hd 2 20;exact iG rfl (by kernel_rfl) ug rfl
     .have ug:ρ (.tmp 20)=_:=aK hd 2 20;exact iG rfl (by kernel_rfl) ug rfl
     have u20:ρ (.tmp 20)=_:=aK hd 2 20;have u30:ρ (.tmp 30)=_:=aK hd 12 30;rotate_left
     all_goals(refine aF rfl ?_;go_simp;exact aG rfl)
    case endd=>
     intro v W hW sW rl _;simp only[aI] at rl;have hb:=sW.below;clear rl sW hW st1;refine wpList_nil ?_;go_frame;go_wp2_with fail;go_roundw
     case rel=>exact⟨1,hlt,rfl,hb⟩
     case measure=>simp[intOf];omega
   .obtain⟨j,rfl⟩:∃j,k=j+1:=⟨k-1,by omega⟩;obtain⟨⟨labj,skj,snj,⟨lsj,lcj⟩,⟨⟨esj,ecj⟩,⟨csj,ccj⟩,⟨gsj,gcj⟩⟩⟩,hj⟩:∃x,T[j]? =some x:=⟨_,cZ (show j<T.length by omega)⟩;have hSj:=HH.out.2.2.s _ (bK hj);have hOj:=HH.out.1.ok _ (bK hj);have HJ:=aA (show∀W,Below w.heap.size w W->W.cell? ⟨g,o+j*12,none⟩=some (.slice lsj labj.length lcj) from λW hW=>(cG (HH.out.2.2.aWu hW) hj).2.1);have HLE:=aA (λW (hW:Below w.heap.size w W)=>wW labj lab (by have h:=hOj.2.len;simp only at h;omega) (by have:=HLB.out.2.len;omega) lsj ls lcj lc W (hSj.l.rd.aWu aH hW) (HLB.out.1.aWu aH hW));have hA1:=aC (st1.blk _ (bK (i:=0) rfl));clear hj hSj hOj h0;go_wp2_with fail;refine rA st1 14 [.val (.int .i64 ((j+1:Nat):Int)),.val (.bool true),.val (.bool true),.val (.slice (some ⟨g,o,none⟩) T.length tc),.val (.int .i64 ((j+1:Nat):Int)),.val (.int .i64 j),.val (pv g (o+j*12)),.val (pv g (o+j*12)),.val (.slice lsj labj.length lcj),.val (pv wr.heap.size 0),.val (.slice ls lab.length lc),.fct IsB rY,.fct IsB rY,.fct IsB rY] ?spec ?endd
    case spec=>
     refine⟨?_,?_,?_,?_,?_,?_,?_,?_,?_,?_,?_,?_,?_,?_,trivial⟩
     all_goals(intro ρ W kc kf hW sW rl hu hd;simp only[aI] at rl)
     have u3:ρ (.tmp 3)=.int .i64 ((j+1:Nat):Int):=cR hu 3;rotate_left;have u18:ρ (.tmp 18)=_:=aK hd 0 18;rotate_left;have u19:ρ (.tmp 19)=_:=aK hd 1 19;rotate_left
     .have ug:ρ (.tmp 20)=_:=aK hd 2 20;have u0:ρ (.tmp 0)=.slice (some ⟨g,o,none⟩) T.length tc:=cR hu 0;refine fT rfl (by kernel_rfl) ug ?_;go_simp;exact aG rfl
     .have ug:ρ (.tmp 20)=_:=aK hd 2 20;have u3:ρ (.tmp 3)=.int .i64 ((j+1:Nat):Int):=cR hu 3;refine fT rfl (by kernel_rfl) ug ?_;go_simp;exact aG rfl
     .have ug:ρ (.tmp 20)=_:=aK hd 2 20;have u22:ρ (.tmp 22)=_:=aK hd 4 22;have hw:IntKind.i64.wrap (j:Int)=(j:Int):=IntWalk.i64_in _ (by omega);refine fT rfl (by kernel_rfl) ug ?_;go_simp;exact aG rfl
     .have ug:ρ (.tmp 20)=_:=aK hd 2 20;have u21:ρ (.tmp 21)=_:=aK hd 3 21;have u23:ρ (.tmp 23)=_:=aK hd 5 23;refine fT rfl (by kernel_rfl) ug ?_;go_simp;rw[if_pos (show j<T.length by omega)];exact aG rfl
     .have ug:ρ (.tmp 20)=_:=aK hd 2 20;have u24:ρ (.tmp 24)=_:=aK hd 6 24;refine fT rfl (by kernel_rfl) ug ?_;go_simp;exact aG rfl
     .have ug:ρ (.tmp 20)=_:=aK hd 2 20;have u25:ρ (.tmp 25)=_:=aK hd 7 25;have hc:=HJ.out W sW.below;refine fT rfl (by kernel_rfl) ug ?_;go_simp;exact aG rfl
     .have ug:ρ (.tmp 20)=_:=aK hd 2 20;have u4:ρ (.tmp 4)=pv wr.heap.size 0:=cR hu 4;refine fT rfl (by kernel_rfl) ug ?_;go_simp;exact aG rfl
     .have ug:ρ (.tmp 20)=_:=aK hd 2 20;have u27:ρ (.tmp 27)=_:=aK hd 9 27;refine fT rfl (by kernel_rfl) ug ?_;go_simp;exact aG rfl
     .have ug:ρ (.tmp 20)=_:=aK hd 2 20;have u26:ρ (.tmp 26)=_:=aK hd 8 26;have u28:ρ (.tmp 28)=_:=aK hd 10 28;refine fT rfl (by kernel_rfl) ug ?_;go_simp;refine⟨aW,(HLE.out W sW.below).mono ?_⟩;rintro e w' ⟨⟨b,rfl,-⟩,hb'⟩;exact⟨_,rfl,hb',_,rfl⟩
     .have ug:ρ (.tmp 20)=_:=aK hd 2 20;have f29:IsB (ρ (.tmp 29)) W:=aK hd 11 29;obtain⟨b,e⟩:=f29;refine fT rfl (by kernel_rfl) ug ?_;go_simp;exact aG ⟨_,rfl⟩
     .have u20:ρ (.tmp 20)=_:=aK hd 2 20;have f30:IsB (ρ (.tmp 30)) W:=aK hd 12 30;obtain⟨b,e⟩:=f30;refine aF rfl ?_;go_simp;exact aG ⟨_,rfl⟩
     all_goals(refine aF rfl ?_;go_simp;exact aG rfl)
    case endd=>
     rintro v W hW sW rl ⟨h11,h12,h13,-⟩;simp only[aI] at rl;obtain⟨b,hb13⟩:=h13;rw[hb13];clear h11 h12 hb13;generalize v 11=v11 at*;generalize v 12=v12 at*;have hb:=sW.below;clear rl sW hW st1;refine wpList_nil ?_;go_frame;cases b with
     |true=>
      go_wp2_with fail;go_ret;exact⟨⟨_,rfl,λh=>by have:=(h.mem HX.out).1;omega⟩,hb⟩
     |false=>
      go_wp2_with fail;go_roundw
      case rel=>exact⟨j+1+1,hlt,by go_num,hb⟩
      case measure=>simp[intOf];omega
  .obtain rfl:k=T.length:=by omega
   go_wp2_with fail;go_ret;exact⟨⟨_,rfl,λ_=>rfl⟩,hbw⟩
end
theorem aG3 (L M:List dQ)(hl:L.length<=1000000)(hm:M.length<=1000000)(s t:Option Addr)(c d:Nat)(w:World)(hL:Rd 2 cO w s L)(hM:Rd 2 cO w t M):
  Calls prog 111 #[.slice s L.length c,.slice t M.length d] w λe w'=>mW (λ_=>True) e/\Below w.heap.size w w':=by
 have HL:=aA hL;have HM:=aA hM;clear hL hM
 by_cases hlm:L.length=M.length
 .rw[hlm];rw[hlm] at hl;go_enter func111,ntmps111;go_wp2_with fail
  go_loopw [13] (λi wr=>∃k:Nat,k<=M.length/\i=.int .i64 k/\Below w.heap.size w wr) (λi _=>M.length-(intOf i).toNat)
  case atStart=>exact⟨0,cJ _,rfl,aW⟩
  case round=>
   obtain⟨k,hk,rfl,hb⟩:=hrel
   by_cases hlt:k<M.length
   .obtain⟨⟨xn,xv⟩,hx⟩:∃x,L[k]? =some x:=⟨_,cZ (by omega)⟩;obtain⟨⟨yn,yv⟩,hy⟩:∃y,M[k]? =some y:=⟨_,cZ hlt⟩;obtain⟨g,o,rfl,hg,hc1,hc2⟩:=uA (HL.out.aWu aH hb) hx;obtain⟨g',o',rfl,hg',hd1,hd2⟩:=uA (HM.out.aWu aH hb) hy;have HC:=aA (λW (hW:Below wr.heap.size wr W)=>show W.cell? ⟨g,o+k*2,none⟩=some (.string xn)/\W.cell? ⟨g,o+k*2+1,none⟩=some (.string xv)/\W.cell? ⟨g',o'+k*2,none⟩=some (.string yn)/\W.cell? ⟨g',o'+k*2+1,none⟩=some (.string yv) from⟨(hW.cell (p:=⟨g,o+k*2,none⟩) hg).trans hc1,(hW.cell (p:=⟨g,o+k*2+1,none⟩) hg).trans hc2,(hW.cell (p:=⟨g',o'+k*2,none⟩) hg').trans hd1,(hW.cell (p:=⟨g',o'+k*2+1,none⟩) hg').trans hd2⟩);have st1:=(St.start wr);have HB:=aA hb;clear hx hy hc1 hc2 hd1 hd2 hg hg' hb;go_wp2_with fail;refine rA st1 9 [.val (.slice (some ⟨g,o,none⟩) M.length c),.val (.int .i64 k),.val (pv g (o+k*2)),.val (.agg #[.string xn,.string xv]),.val (.slice (some ⟨g',o',none⟩) M.length d),.val (.int .i64 k),.val (pv g' (o'+k*2)),.val (.agg #[.string yn,.string yv]),.fct IsB rY] ?spec ?endd
    case spec=>
     refine⟨?_,?_,?_,?_,?_,?_,?_,?_,?_,trivial⟩
     all_goals(intro ρ W kc kf hW sW rl hu hd;simp only[aI] at rl)
     have u0:ρ (.tmp 0)=.slice (some ⟨g,o,none⟩) M.length c:=cR hu 0;rotate_left;have u5:ρ (.tmp 5)=.int .i64 k:=cR hu 5;rotate_left;have u16:ρ (.tmp 16)=_:=aK hd 0 16;have u17:ρ (.tmp 17)=_:=aK hd 1 17;rotate_left;have u18:ρ (.tmp 18)=_:=aK hd 2 18;obtain⟨c1,c2,-,-⟩:=HC.out W sW.below;rotate_left;have u1:ρ (.tmp 1)=.slice (some ⟨g',o',none⟩) M.length d:=cR hu 1;rotate_left;have u5:ρ (.tmp 5)=.int .i64 k:=cR hu 5;rotate_left;have u20:ρ (.tmp 20)=_:=aK hd 4 20;have u21:ρ (.tmp 21)=_:=aK hd 5 21;rotate_left;have u22:ρ (.tmp 22)=_:=aK hd 6 22;obtain⟨-,-,c1,c2⟩:=HC.out W sW.below;rotate_left
     .have u19:ρ (.tmp 19)=_:=aK hd 3 19;have u23:ρ (.tmp 23)=_:=aK hd 7 23;refine aF rfl ?_;go_simp;exact aG ⟨_,rfl⟩
     all_goals(refine aF rfl ?_;go_simp;exact aG rfl)
    case endd=>
     rintro v W hW sW rl ⟨h8,-⟩;simp only[aI] at rl;obtain⟨b,hb8⟩:=h8;rw[hb8];have hbW:=HB.out.trans (hW.mono HB.out.size);clear rl sW hW st1 hb8;refine wpList_nil ?_;go_frame;cases b with
     |true=>
      go_wp2_with fail;go_ret;exact⟨⟨_,rfl,trivial⟩,hbW⟩
     |false=>
      go_wp2_with fail;go_roundw
      case rel=>exact⟨k+1,hlt,by go_num,hbW⟩
      case measure=>simp[intOf];omega
   .obtain rfl:k=M.length:=by omega
    go_wp2_with fail;go_ret;exact⟨⟨_,rfl,trivial⟩,hb⟩
 .have hlm':¬(L.length:Int)=(M.length:Int):=by omega
  go_enter func111,ntmps111;go_wp2_with fail;go_ret;exact⟨⟨_,rfl,trivial⟩,aW⟩
def aSo (T:List aP)(e:Ending):Prop:=∃(at_:Nat) (b:Bool),e=.returned (.tuple #[.int .i64 at_,.bool b])/\at_<=T.length/\(b=true->at_<T.length)
theorem yG (T:List aP)(hT:pS T)(t:Hd)(L:List dQ)(hL6:lD L)(s:Option Addr)(c:Nat)(w:World)(hG:aQ w)(hR:mN w t T)(hL:Rd 2 cO w s L):Calls prog 69 #[.slice t.s T.length t.cap,.slice s L.length c] w λe w'=>aSo T e/\Below w.heap.size w w':=by
 have HR:=aA (eP T hT t w hG hR);obtain⟨ts,tc⟩:=t;have HH:=aA (aB hT (aB hR (aB hL hL6)));have hl:=hT.len;have hl6:=hL6.len;clear hT hG hR hL hL6;show Calls prog 69 #[.slice ts T.length tc,.slice s L.length c] w _;simp only at HR;go_enter func69,ntmps69;go_wp2_with fail;refine HR.out.mono ?_;rintro e w1 ⟨⟨b,rfl,-⟩,hb1⟩;clear HR;cases b with
 |false=>
  go_wp2_with fail;go_ret2;exact⟨⟨0,false,rfl,cJ _,λh=>by cases h⟩,hb1⟩
 |true=>
 go_wp2_with fail
 go_loopw [6] (λi wr=>∃k:Nat,k<=T.length/\i=.int .i64 k/\Below w.heap.size w wr) (λi _=>T.length-(intOf i).toNat)
 case atStart=>exact⟨0,cJ _,rfl,hb1⟩
 case round=>
  obtain⟨k,hk,rfl,hbw⟩:=hrel
  by_cases hlt:k<T.length
  .obtain⟨g,o,hts⟩:=HH.out.2.1.addr (by intro h;rw[h] at hlt;simp at hlt);simp only at hts;subst hts;obtain⟨⟨lab,sk,sn,⟨ls,lc⟩,⟨⟨es,ec⟩,⟨cs,cc⟩,⟨gs,gc⟩⟩⟩,hx⟩:∃x,T[k]? =some x:=⟨_,cZ hlt⟩;have hS:=HH.out.2.1.s _ (bK hx);have hO:=HH.out.1.ok _ (bK hx);have hc0:=(cG (HH.out.2.1.aWu hbw) hx).2.1;have HLE:=aA (wW lab L (by have h:=hO.2.len;simp only at h;omega) (by omega) ls s lc c wr (hS.l.rd.aWu aH hbw) (HH.out.2.2.1.aWu aH hbw));have HEQ:=aA (λW (hW:Below wr.heap.size wr W)=>aG3 lab L (by have h:=hO.2.len;simp only at h;omega) (by omega) ls s lc c W (hS.l.rd.aWu aH (hbw.trans (hW.mono hbw.size))) (HH.out.2.2.1.aWu aH (hbw.trans (hW.mono hbw.size))));have HC:=aA (show∀W,Below w.heap.size w W->W.cell? ⟨g,o+k*12,none⟩=some (.slice ls lab.length lc) from λW hW=>(cG (HH.out.2.1.aWu hW) hx).2.1);clear hx hS hO;go_wp2_with fail;refine HLE.out.mono ?_;rintro e w2 ⟨⟨b,rfl,-⟩,hb2⟩;have hbB:=hbw.trans (hb2.mono hbw.size);clear HLE hc0;cases b with
   |true=>
    go_wp2_with fail;go_roundw
    case rel=>exact⟨k+1,hlt,by go_num,hbB⟩
    case measure=>simp[intOf];omega
   |false=>
    have hc0:=HC.out _ hbB;go_wp2_with fail;refine(HEQ.out _ hb2).mono ?_;rintro e w3 ⟨⟨b,rfl,-⟩,hb3⟩;have hbC:=hbB.trans (hb3.mono hbB.size);go_wp2_with fail;go_ret2;exact⟨⟨k,b,rfl,hk,λ_=>hlt⟩,hbC⟩
  .obtain rfl:k=T.length:=by omega
   go_wp2_with fail;go_ret2;exact⟨⟨T.length,false,rfl,aH,λh=>by cases h⟩,hbw⟩
section
variable {d:Hd} {B g k:Nat} {W W' a b:World}
def aP.core (x:aP):List dQ×Sk×Nat:=(x.lab,x.sk,x.seen)
def gK (B:Nat)(x:aP):Prop:=aT B x.l/\cQ B x.k
theorem gK.mono {B':Nat}{x:aP}(h:gK B x)(hb:B'<=B):gK B' x:=⟨h.1.mono hb,h.2.mono hb⟩
structure dI (g:Nat)(w w':World):Prop where
 os:w'.os=w.os
 tape:w'.tape=w.tape
 output:w'.output=w.output
 size:w.heap.size<=w'.heap.size
 block:∀k,k<w.heap.size->k≠g->w'.heap[k]? =w.heap[k]?
theorem dI.refl (g:Nat)(w:World):dI g w w:=⟨rfl,rfl,rfl,aH,λ_ _ _=>rfl⟩
theorem dI.trans {c:World}(h:dI g a b)(k:dI g b c):dI g a c:=⟨k.os.trans h.os,k.tape.trans h.tape,k.output.trans h.output,dR h.size k.size,λj hj hn=>(k.block j (kG hj h.size) hn).trans (h.block j hj hn)⟩
theorem dI.of (h:Below a.heap.size a b):dI g a b:=⟨h.os,h.tape,h.output,h.size,λj hj _=>h.block j hj⟩
theorem dI.grown (h:a.grownBy b (some g)):dI g a b:=⟨h.os,h.tape,h.output,h.size,λj hj hn=>h.block j hj (by simpa using hn)⟩
theorem dI.below {w0:World}(h:dI g a b)(h0:Below w0.heap.size w0 a)(hg:w0.heap.size<=g):Below w0.heap.size w0 b:=⟨h.os.trans h0.os,h.tape.trans h0.tape,h.output.trans h0.output,dR h0.size h.size,λj hj=>(h.block j (kG hj h0.size) (by omega)).trans (h0.block j hj)⟩
def gU (g:Nat)(d:Hd):Prop:=∀g' o,d.s=some ⟨g',o,none⟩->g'≠g
theorem gU.of (h:aT B d)(hB:g<B):gU g d:=λg' o e=>by have:=h g' o e;omega
theorem gU.old {α:Type}{enc:α->List Value}{L:List α}(r:bS k enc W d L)(hL:L≠[]){g:Nat}(hg:W.heap.size<=g):gU g d:=by
 intro g' o e;obtain⟨x,hx⟩:∃x,L[0]? =some x:=by
  cases L with
  |nil=>exact(hL rfl).elim
  |cons x _=>exact⟨x,rfl⟩
 obtain⟨g2,o2,e2,hlt,_⟩:=r.rd 0 x hx;rw[e] at e2;cases e2;omega
theorem bS.but {α:Type}{enc:α->List Value}{L:List α}(r:bS k enc W d L)(hn:L≠[]->gU g d)(h:dI g W W'):bS k enc W' d L:=by
 refine⟨λi x hx=> ?_,r.cap,r.max,r.nil,r.plain⟩;obtain⟨g2,o2,e2,hlt,hc⟩:=r.rd i x hx;refine⟨g2,o2,e2,kG hlt h.size,λj u hj=> ?_⟩;rw[<-hc j u hj];simp only[World.cell?,h.block g2 hlt (hn (by intro e;rw[e] at hx;simp at hx) g2 o2 e2)]
def iW (g:Nat)(x:aP):Prop:=(x.lab≠[]->gU g x.l)/\(x.sk.e≠[]->gU g x.k.e)/\(x.sk.c≠[]->gU g x.k.c)/\(x.sk.g≠[]->gU g x.k.g)
theorem iW.of {x:aP}(h:gK B x)(hB:g<B):iW g x:=⟨λ_=>.of h.1 hB,λ_=>.of h.2.1 hB,λ_=>.of h.2.2.1 hB,λ_=>.of h.2.2.2 hB⟩
theorem iW.old {x:aP}(r:yK W x){g:Nat}(hg:W.heap.size<=g):iW g x:=⟨λh=>.old r.l h hg,λh=>.old r.k.e h hg,λh=>.old r.k.c h hg,λh=>.old r.k.g h hg⟩
theorem yK.but {x:aP}(r:yK W x)(hn:iW g x)(h:dI g W W'):yK W' x:=⟨r.l.but hn.1 h,r.k.e.but hn.2.1 h,r.k.c.but hn.2.2.1 h,r.k.g.but hn.2.2.2 h⟩
structure tA (g:Nat)(t:Hd)(T:List aP):Prop where
 t:T≠[]->gU g t
 s:∀x∈T,iW g x
theorem tA.old {t:Hd}{T:List aP}(r:mN W t T){g:Nat}(hg:W.heap.size<=g):tA g t T:=⟨λh=>.old r.t h hg,λx hx=>.old (r.s x hx) hg⟩
theorem mN.but {t:Hd}{T:List aP}(r:mN W t T)(hn:tA g t T)(h:dI g W W'):mN W' t T:=⟨r.t.but hn.t h,λx hx=>(r.s x hx).but (hn.s x hx) h⟩
theorem Sk.small {x:Sk}(h:x.Ok):x.e.length<=100000/\x.c.length<=100000/\x.g.length<=100000:=by
 cases x with
 |dist L=>have:=h.2.2;simp only[Sk.e,Sk.c,Sk.g,List.length_nil];omega
 |reg j R=>simp[Sk.e,Sk.c,Sk.g]
 |cnt j L=>have h1:=h.1;have:=h.2.2;rcases(show j=0\/j=1\/j=2\/j=3 by omega) with rfl|rfl|rfl|rfl<;>simp[Sk.e,Sk.c,Sk.g,bM] at* <;>omega
 |hst j l=>have:=(fU (show 3-j<=3 by omega) h.2).2;simp only[Sk.e,Sk.c,Sk.g,List.length_nil];omega
theorem aG9 (a0 a1 a2 a3 a4 a5 a6 a7 a8 a9 a10 a11:Value)(w:World):(Instr.buildSlice 74 1 #[(0,.agg #[a0,a1,a2,a3,a4,a5,a6,a7,a8,a9,a10,a11])]).run prog w=.ok (.slice (some ⟨w.heap.size,0,none⟩) 1 1) (w.alloc (.cells #[a0,a1,a2,a3,a4,a5,a6,a7,a8,a9,a10,a11] 167)):=by kernel_rfl
theorem aKp {o:Oper}{a:Act}{w:World}{K:Act->World->Prop}{Q:Exit->Act->World->Prop}(x:Operand)(ho:o.op=.buildSlice 74 1 #[(0,x)])(a0 a1 a2 a3 a4 a5 a6 a7 a8 a9 a10 a11:Value)(hx:a.eval x=.agg #[a0,a1,a2,a3,a4,a5,a6,a7,a8,a9,a10,a11])
  (h:K (a.put o.dst (.slice (some ⟨w.heap.size,0,none⟩) 1 1)) (w.alloc (.cells #[a0,a1,a2,a3,a4,a5,a6,a7,a8,a9,a10,a11] 167))):o.wp prog a w K Q:=by
 unfold Oper.wp execOp;simp only[ho,List.map_toArray,List.map_cons,List.map_nil,hx,Sem.run_bind,aG9,Result.andThen_ok];exact h
theorem iI {ops:Array Oper}{rest:List Oper}{o:Oper}{a:Act}{w:World}{Q:Exit->Act->World->Prop}(hg:o.guard=none)(x:Operand)(ho:o.op=.buildSlice 74 1 #[(0,x)])(a0 a1 a2 a3 a4 a5 a6 a7 a8 a9 a10 a11:Value)(hx:a.eval x=.agg #[a0,a1,a2,a3,a4,a5,a6,a7,a8,a9,a10,a11])
  (h:wpList prog ops Q rest (a.put o.dst (.slice (some ⟨w.heap.size,0,none⟩) 1 1)) (w.alloc (.cells #[a0,a1,a2,a3,a4,a5,a6,a7,a8,a9,a10,a11] 167))):wpList prog ops Q (o::rest) a w:=
 wpList_plain hg λ_ hK=>aKp x ho _ _ _ _ _ _ _ _ _ _ _ _ hx (hK _ _ h)
theorem oW {α:Type}{enc:α->List Value}{P:Program}{t e:TypeId}{bytes:Nat}(el:eM P t e k bytes)(hk:∀x,(enc x).length=k)(h1:∀x,∀v∈enc x,v.oneCell'=true){ops:Array Oper}{rest:List Oper}{o:Oper}{a:Act}{Q:Exit->Act->World->Prop}{W:World}(hgd:o.guard=none)(s x:Operand)
  (ho:o.op=.call {callee:=.builtin .append,args:= #[s,x],argTypes:= #[t,t]}) (B g n cap:Nat) (L:List α) (hn:n=L.length) (y:α) (hs:a.eval s=.slice (some ⟨g,0,none⟩) n cap) (hown:aL k enc e W B (.slice (some ⟨g,0,none⟩) n cap) L)
  (cs:Array Value) (hcs:cs=(enc y).toArray) (gx:Nat) (hg:gx=W.heap.size) (hx:a.eval x=.slice (some ⟨gx,0,none⟩) 1 1) (hroom:n+1<=cap)
  (h:∀w',aL k enc e w' B (.slice (some ⟨g,0,none⟩) (n+1) cap) (L++[y])->(W.alloc (.cells cs e)).grownBy w' (some g)->wpList P ops Q rest (a.put o.dst (.slice (some ⟨g,0,none⟩) (n+1) cap)) w'):
  wpList P ops Q (o::rest) a (W.alloc (.cells cs e)):=by
 obtain⟨h2,h0,i,z,h3,h4,h5,h6,h7⟩:=el;subst hg;subst hcs;subst hn;have hb:=(Below.refl W.heap.size W).alloc aH (.cells (enc y).toArray e);have hown1:=aL.keep _ _ hown hb;refine wpList_append_own_spare _ hgd s x t ho B e i k h2 h3 h5 g L.length cap (L.flatMap enc) hs hown1 ⟨W.heap.size,0,none⟩ 1 1 (enc y) hx (by rw[hk];omega) ?_ (h1 y) hroom ?_
 .intro j u hj;rw[Addr.add_lit,Nat.zero_add,aE (kH W _),List.getElem?_toArray,hj]
 .intro w' hown' hgr;exact h w' (by unfold aL;simpa using hown') hgr
def aEv (w:World)(B g cap:Nat)(S T:List aP)(n:Nat)(wr:World):Prop:=∃T':List aP,n=S.length+T'.length/\T'.map aP.core=T.map aP.core/\aL 12 aN 167 wr B (.slice (some ⟨g,0,none⟩) n cap) (S++T')/\(∀x∈T',yK wr x/\gK w.heap.size x)/\dI g w wr
theorem vL (S T:List aP)(hT:pS T)(t:Hd)(B g cap n:Nat)(hn:n=S.length)(hroom:n+T.length<=cap)(w:World)(hO:aL 12 aN 167 w B (.slice (some ⟨g,0,none⟩) n cap) S)(hR:mN w t T)(hoff:tA g t T):
  Calls prog 114 #[.slice (some ⟨g,0,none⟩) n cap,.slice t.s T.length t.cap] w λe w'=>e=.returned (.slice (some ⟨g,0,none⟩) (n+T.length) cap)/\aEv w B g cap S T (n+T.length) w':=by
 obtain⟨ts,tc⟩:=t;have HT:=aA (aB hT (aB hR hoff));have hgw:g<w.heap.size:=(hO.lt g rfl).2;have hl:=hT.len;have H0:aEv w B g cap S [] n w:=⟨[],by simpa using hn,rfl,by simpa using hO,by simp,dI.refl _ _⟩;clear hT hR hoff hO;show Calls prog 114 #[.slice (some ⟨g,0,none⟩) n cap,.slice ts T.length tc] w _;go_enter func114,ntmps114;go_wp2_with fail
 go_loopw [0,9] (λv i wr=>∃k:Nat,k<=T.length/\i=.int .i64 k/\v=.slice (some ⟨g,0,none⟩) (n+k) cap/\aEv w B g cap S (T.take k) (n+k) wr) (λ_ i _=>T.length-(intOf i).toNat)
 case atStart=>exact⟨0,cJ _,rfl,rfl,by simpa using H0⟩
 case round=>
  clear H0;obtain⟨k,hk,rfl,rfl,T',hn',hcore,hO,hS',hbut⟩:=hrel
  by_cases hlt:k<T.length
  .obtain⟨g1,o,hts⟩:=HT.out.2.1.addr (by intro h;rw[h] at hlt;simp at hlt);simp only at hts;subst hts;obtain⟨⟨lab,sk,sn,⟨ls,lc⟩,⟨⟨es,ec⟩,⟨cs,cc⟩,⟨gs,gc⟩⟩⟩,hx⟩:∃x,T[k]? =some x:=⟨_,cZ hlt⟩;have hR:=HT.out.2.1.but HT.out.2.2 hbut;have hS:=hR.s _ (bK hx);have hOk:=HT.out.1.ok _ (bK hx);have hsm:=Sk.small hOk.1;have tce:=cG hR hx;have HC0:=aA (λW (hW:Below wr.heap.size wr W)=>qW lab (by have h:=hOk.2.len;simp only at h;omega) ⟨ls,lc⟩ W (hS.l.aWu hW));have HC1:=aA (λW (hW:Below wr.heap.size wr W)=>fJ sk.e hsm.1 ⟨es,ec⟩ W (hS.k.e.aWu hW));have HC2:=aA (λW (hW:Below wr.heap.size wr W)=>fJ sk.c hsm.2.1 ⟨cs,cc⟩ W (hS.k.c.aWu hW));have HC3:=aA (λW (hW:Below wr.heap.size wr W)=>mJ sk.g hsm.2.2 ⟨gs,gc⟩ W (hS.k.g.aWu hW));have HX:=aA (aB hx (aB hn' (aB hcore (aB hO (aB hS' hbut)))));have hgr:g<wr.heap.size:=kG hgw hbut.size;have hsz:=hbut.size;have st0:=(St.start wr).alloc (cs:= #[.slice ls lab.length lc,.int .i64 sk.kind,.int .i64 sk.lev,.slice es sk.e.length ec,.int .i64 sk.bits,.string sk.aWx,.int .i64 sk.rows,.int .i64 sk.aWv,.slice cs sk.c.length cc,.int .i64 sk.aWw,.slice gs sk.g.length gc,.int .u64 sn]) (T:=167);clear hx hR hS hOk hsm hn' hcore hO hS' hbut;go_wp2_with fail;refine(HC0.out _ st0.below).mono ?_;rintro e w1 ⟨⟨lS,lC⟩,rfl,hd,hf,hb1⟩;have hz:=aC (st0.blk _ (bK (i:=0) rfl));have HFl:=hf.mono (show wr.heap.size+1<=_ from hz);have HDl:=aA hd;have st1:=st0.to hb1;have rl:=st1.rl;clear st0 hb1 hd hf hz HC0
   try clear tce
   simp only[Hd.v];go_wp2_with fail;have st0:=St.sx st1 0 (A:=wr.heap.size) rfl (o:=0) (v:=.slice lS lab.length lC) aH
   replace HDl:=aA (HDl.out.up HFl ((aM.refl _ _).set (b:=wr.heap.size) (o:=0) (Nat.lt_succ_self _) (.slice lS lab.length lC)))
   clear st1 rl;refine(HC1.out _ st0.below).mono ?_;rintro e w2 ⟨⟨eS,eC⟩,rfl,hd,hf,hb1⟩;have hz:=aC (st0.blk _ (bK (i:=0) rfl));have HFe:=hf.mono (show wr.heap.size+1<=_ from hz)
   replace HDl:=aA (HDl.out.aWu hb1)
   have HDe:=aA hd;have st1:=st0.to hb1;have rl:=st1.rl;clear st0 hb1 hd hf hz HC1;simp only[Hd.v];go_wp2_with fail;have st0:=St.sx st1 0 (A:=wr.heap.size) rfl (o:=3) (v:=.slice eS sk.e.length eC) aH
   replace HDl:=aA (HDl.out.up HFl ((aM.refl _ _).set (b:=wr.heap.size) (o:=3) (Nat.lt_succ_self _) (.slice eS sk.e.length eC)))
   replace HDe:=aA (HDe.out.up HFe ((aM.refl _ _).set (b:=wr.heap.size) (o:=3) (Nat.lt_succ_self _) (.slice eS sk.e.length eC)))
   clear st1 rl;refine(HC2.out _ st0.below).mono ?_;rintro e w3 ⟨⟨cS,cC⟩,rfl,hd,hf,hb1⟩;have hz:=aC (st0.blk _ (bK (i:=0) rfl));have HFc:=hf.mono (show wr.heap.size+1<=_ from hz)
   replace HDl:=aA (HDl.out.aWu hb1)
   replace HDe:=aA (HDe.out.aWu hb1)
   have HDc:=aA hd;have st1:=st0.to hb1;have rl:=st1.rl;clear st0 hb1 hd hf hz HC2;simp only[Hd.v];go_wp2_with fail;have st0:=St.sx st1 0 (A:=wr.heap.size) rfl (o:=8) (v:=.slice cS sk.c.length cC) aH
   replace HDl:=aA (HDl.out.up HFl ((aM.refl _ _).set (b:=wr.heap.size) (o:=8) (Nat.lt_succ_self _) (.slice cS sk.c.length cC)))
   replace HDe:=aA (HDe.out.up HFe ((aM.refl _ _).set (b:=wr.heap.size) (o:=8) (Nat.lt_succ_self _) (.slice cS sk.c.length cC)))
   replace HDc:=aA (HDc.out.up HFc ((aM.refl _ _).set (b:=wr.heap.size) (o:=8) (Nat.lt_succ_self _) (.slice cS sk.c.length cC)))
   clear st1 rl;refine(HC3.out _ st0.below).mono ?_;rintro e w4 ⟨⟨gS,gC⟩,rfl,hd,hf,hb1⟩;have hz:=aC (st0.blk _ (bK (i:=0) rfl));have HFg:=hf.mono (show wr.heap.size+1<=_ from hz)
   replace HDl:=aA (HDl.out.aWu hb1)
   replace HDe:=aA (HDe.out.aWu hb1)
   replace HDc:=aA (HDc.out.aWu hb1)
   have HDg:=aA hd;have st1:=st0.to hb1;have rl:=st1.rl;clear st0 hb1 hd hf hz HC3;have hb4:=Below.setCell st1.below (p:=⟨wr.heap.size,10,none⟩) aH (.slice gS sk.g.length gC);have HO2:=aA (aL.keep _ _ HX.out.2.2.2.1 hb4);have HB4:=aA hb4;simp only[Hd.v];have hroomk:n+k+1<=cap:=by omega
   have HLEN:Hid (n+k=(S++T').length):=by have:=HX.out.2.1;show _=_;simp;omega
   go_wp2_with(first|(refine iI rfl (.tmp 42) rfl _ _ _ _ _ _ _ _ _ _ _ _ rfl ?_)|(at_builtin;refine oW xC cN rX rfl (.tmp 41) (.tmp 43) rfl B g (n+k) cap (S++T') HLEN.out (⟨lab,sk,sn,⟨lS,lC⟩,⟨⟨eS,eC⟩,⟨cS,cC⟩,⟨gS,gC⟩⟩⟩:aP) rfl HO2.out _ rfl _ rfl rfl hroomk ?_;intro w5 ho5 hgr5));have hal:=(Below.refl _ (w4.setCell ⟨wr.heap.size,10,none⟩ (.slice gS sk.g.length gC))).alloc aH (.cells #[.slice lS lab.length lC,.int .i64 sk.kind,.int .i64 sk.lev,.slice eS sk.e.length eC,.int .i64 sk.bits,.string sk.aWx,.int .i64 sk.rows,.int .i64 sk.aWv,.slice cS sk.c.length cC,.int .i64 sk.aWw,.slice gS sk.g.length gC,.int .u64 sn] 167);have hbw5:dI g wr w5:=(dI.of (hb4.trans (hal.mono hb4.size))).trans (dI.grown hgr5);have hku:aM (wr.heap.size+1) w4 (w4.setCell ⟨wr.heap.size,10,none⟩ (.slice gS sk.g.length gC)):=(aM.refl _ _).set (Nat.lt_succ_self _) _;have HNEW:Hid (yK w5 (⟨lab,sk,sn,⟨lS,lC⟩,⟨⟨eS,eC⟩,⟨cS,cC⟩,⟨gS,gC⟩⟩⟩:aP)/\gK (wr.heap.size+1) (⟨lab,sk,sn,⟨lS,lC⟩,⟨⟨eS,eC⟩,⟨cS,cC⟩,⟨gS,gC⟩⟩⟩:aP)):=by
    refine⟨yK.but (g:=g) ⟨(HDl.out.up HFl hku).aWu hal,(HDe.out.up HFe hku).aWu hal,(HDc.out.up HFc hku).aWu hal,(HDg.out.up HFg hku).aWu hal⟩ (iW.of (B:=wr.heap.size+1) ⟨HFl,HFe,HFc,HFg⟩ (by omega)) (dI.grown hgr5),HFl,HFe,HFc,HFg⟩
   have HFIN:=aA (aB ho5 hbw5);clear hal hbw5 hku ho5 hgr5 hb4 st1 rl;go_wp2_with fail;go_roundw
   case rel=>
    refine⟨k+1,hlt,by go_num,(by congr 1;omega),T'++[⟨lab,sk,sn,⟨lS,lC⟩,⟨⟨eS,eC⟩,⟨cS,cC⟩,⟨gS,gC⟩⟩⟩],by have:=HX.out.2.1;simp;omega,?_,?_,?_,HX.out.2.2.2.2.2.trans HFIN.out.2⟩
    .rw[List.take_add_one,HX.out.1,List.map_append,List.map_append,HX.out.2.2.1];rfl
    .rw[<-List.append_assoc];exact HFIN.out.1
    .intro y hy;rcases List.mem_append.1 hy with hy|hy
     .obtain⟨h1,h2⟩:=HX.out.2.2.2.2.1 y hy;exact⟨h1.but (iW.of h2 hgw) HFIN.out.2,h2⟩
     .simp at hy;subst hy;exact⟨HNEW.1,HNEW.2.mono (by omega)⟩
   case measure=>simp[intOf];omega
  .obtain rfl:k=T.length:=by omega
   rw[List.take_length] at hcore;go_wp2_with fail;go_ret;exact⟨rfl,T',hn',hcore,hO,hS',hbut⟩
end
section
variable {T:List aP}
theorem rU {α:Type}{k:Nat}{enc:α->List Value}{P:Program}{t e:TypeId}{bytes:Nat}(el:eM P t e k bytes){ops:Array Oper}{rest:List Oper}{o:Oper}{a:Act}{Q:Exit->Act->World->Prop}{W:World}(hgd:o.guard=none)(l c:Operand)(ho:o.op=Op.makeSlice t l c)(n:Nat)
  (hl:a.eval l=.int .i64 0) (hc:a.eval c=.int .i64 n) (hn:n<=1000000) (hby:bytes<=10000)
  (h:∀w',aL k enc e w' W.heap.size (.slice (some ⟨W.heap.size,0,none⟩) 0 n) ([]:List α)->Below W.heap.size W w'->wpList P ops Q rest (a.put o.dst (.slice (some ⟨W.heap.size,0,none⟩) 0 n)) w'):
  wpList P ops Q (o::rest) a W:=by
 obtain⟨h2,h0,i,z,h3,h4,h5,h6,h7⟩:=el;have hmul:i.bytes*n<=10000*1000000:=Nat.mul_le_mul (by omega) hn;refine wpList_make_own _ hgd l c t ho W.heap.size e i z k h2 h3 h4 h5 .i64 .i64 n n hl hc rfl (by omega) (by unfold maxLen;omega) aH ?_;intro w' hown hgr;exact h w' hown ⟨hgr.os,hgr.tape,hgr.output,hgr.size,λb hbl=>hgr.block b hbl (by simp)⟩
def nD (s:Option Addr)(c b:Nat):Option Addr:=if c=b then s else s.map (·.add (b*12))
theorem aP6 (s:Option Addr)(hs:dJ s)(n c a:Nat)(h:a<=c)(W:World):(Instr.slice 74 (.slice s n c) none (some (.int .i64 a)) none).run prog W=.ok (.slice s a c) W:=by
 have h1:∀W,(sizeOf (prog.elem 74)).run prog W=.ok 12 W:=λW=>by kernel_rfl
 rw[run_slice_h W _ s n c (by kernel_rfl) .i64 (a:Int) (by omega) (by omega),h1];simp only[Result.andThen,sliced,Int.toNat_natCast,Nat.sub_zero];cases s with
 |none=>simp
 |some ad=>obtain⟨g,o,rfl⟩:=hs ad rfl;simp[Addr.add_lit]
theorem xH (s:Option Addr)(n c b:Nat)(h:b<=n)(W:World):(Instr.slice 74 (.slice s n c) (some (.int .i64 b)) none none).run prog W=.ok (.slice (nD s c b) (n-b) (c-b)) W:=by
 have h1:∀W,(sizeOf (prog.elem 74)).run prog W=.ok 12 W:=λW=>by kernel_rfl
 rw[run_slice_l W _ s n c (by kernel_rfl) .i64 (b:Int) (by omega) (by omega),h1];rfl
theorem mN.aX0 {W:World}{t:Hd}(r:mN W t T)(a:Nat):mN W t (T.take a):=
 ⟨⟨r.t.rd.take a,dR (by simp;omega) r.t.cap,r.t.max,r.t.nil,r.t.plain⟩,λx hx=>r.s x (List.mem_of_mem_take hx)⟩
theorem mN.aXn {W:World}{s:Option Addr}{c:Nat}(r:mN W ⟨s,c⟩ T)(b:Nat):mN W ⟨nD s c b,c-b⟩ (T.drop b):=by
 have hc:=r.t.cap;have hm:=r.t.max;simp only at hc hm;refine⟨⟨?_,by simp;omega,by simp;omega,?_,?_⟩,λx hx=>r.s x (List.mem_of_mem_drop hx)⟩
 .intro i x hx;have hi:b+i<T.length:=by
   have:=(gJ.1 hx).1;simp at this;omega
  obtain⟨g,o,e⟩:=r.addr (by intro h;rw[h] at hi;simp at hi);simp only at e;subst e;have hd:=Rd.drop r.t.rd b;obtain⟨g',o',e',rest⟩:=hd i x hx;cases e';exact⟨g,o+b*12,by simp only[nD];rw[if_neg (by omega)];simp[Addr.add_lit],rest⟩
 .intro h;unfold nD at h;split at h
  .have:=r.t.nil h;simp only at this⊢;omega
  .cases s with
   |none=>have:=r.t.nil rfl;simp only at this⊢;omega
   |some a=>cases h
 .intro ad h;unfold nD at h;split at h
  .exact r.t.plain ad h
  .cases s with
   |none=>cases h
   |some a=>
    obtain⟨g,o,rfl⟩:=r.t.plain a rfl;simp at h;exact⟨g,o+b*12,by rw[<-h,Addr.add_lit]⟩
structure aEx (B:Nat)(t:Hd)(T:List aP)(W:World):Prop where
 r:mN W t T
 ok:pS T
 t:aT B t
 s:∀x∈T,gK B x
def aV6 (w:World)(T:List aP)(x:aP)(e:Ending)(w':World):Prop:=
 (∃E:Int,E≠0/\e=.returned (.tuple #[.slice none 0 0,.int .i64 E])/\¬(T=[]/\x.lab=[bA]))\/∃(t':Hd) (T':List aP),e=.returned (.tuple #[t'.v T'.length,.int .i64 0])/\aEx w.heap.size t' T' w'/\T'≠[]/\(T=[]->T'.map aP.core=[x.core])
theorem pS.take (h:pS T)(a:Nat):pS (T.take a):=⟨by have:=h.len;simp;omega,λx hx=>h.ok x (List.mem_of_mem_take hx)⟩
theorem pS.drop (h:pS T)(a:Nat):pS (T.drop a):=⟨by have:=h.len;simp;omega,λx hx=>h.ok x (List.mem_of_mem_drop hx)⟩
theorem pS.core {T':List aP}(h:pS T)(e:T'.map aP.core=T.map aP.core):pS T':=by
 refine⟨by have:=congrArg List.length e;have:=h.len;simp at*;omega,λx hx=> ?_⟩;have:x.core∈T.map aP.core:=by rw[<-e];exact List.mem_map.2 ⟨x,hx,rfl⟩
 obtain⟨y,hy,he⟩:=List.mem_map.1 this;have:=h.ok y hy;simp only[aP.core,Prod.mk.injEq] at he;rw[he.1,he.2.1] at this;exact this
theorem aAo (T:List aP)(hT:pS T)(t:Hd)(lab:List dQ)(sk:Sk)(sn:Nat)(ls:Option Addr)(lc:Nat)(es:Option Addr)(ec:Nat)(cs:Option Addr)(cc:Nat)(gs:Option Addr)(gc:Nat)(hx:sk.Ok)(hl6:lD lab)(w:World)(hG:aQ w)(hR:mN w t T)(hS:yK w ⟨lab,sk,sn,⟨ls,lc⟩,⟨⟨es,ec⟩,⟨cs,cc⟩,⟨gs,gc⟩⟩⟩):
  Calls prog 71 #[.slice t.s T.length t.cap,.agg #[.slice ls lab.length lc,.int .i64 sk.kind,.int .i64 sk.lev,.slice es sk.e.length ec,.int .i64 sk.bits,.string sk.aWx,.int .i64 sk.rows,.int .i64 sk.aWv,.slice cs sk.c.length cc,.int .i64 sk.aWw,.slice gs sk.g.length gc,.int .u64 sn]] w λe w'=>aV6 w T ⟨lab,sk,sn,⟨ls,lc⟩,⟨⟨es,ec⟩,⟨cs,cc⟩,⟨gs,gc⟩⟩⟩ e w'/\Below w.heap.size w w':=by
 obtain⟨ts,tc⟩:=t;have HT:=aA (aB hT (aB hR (aB hS (aB hx (aB hl6 hG)))));have HR:=aA (λW (hW:Below w.heap.size w W)=>eP T hT ⟨ts,tc⟩ W (hG.aWu hW) (hR.aWu hW));have HRS:=aA (λW (hW:Below w.heap.size w W)=>tB lab sk sn ls lc es ec cs cc gs gc hx hl6 W (hG.aWu hW) (hS.aWu hW));have HF:=aA (λW (hW:Below w.heap.size w W)=>yG T hT ⟨ts,tc⟩ lab hl6 ls lc W (hG.aWu hW) (hR.aWu hW) (hS.l.rd.aWu aH hW));have hl:=hT.len;have hcap:=hR.t.cap;have hplain:=hR.t.plain;have st0:=(St.start w).alloc (cs:= #[.slice ls lab.length lc,.int .i64 sk.kind,.int .i64 sk.lev,.slice es sk.e.length ec,.int .i64 sk.bits,.string sk.aWx,.int .i64 sk.rows,.int .i64 sk.aWv,.slice cs sk.c.length cc,.int .i64 sk.aWw,.slice gs sk.g.length gc,.int .u64 sn]) (T:=167);show Calls prog 71 #[.slice ts T.length tc,.agg #[.slice ls lab.length lc,.int .i64 sk.kind,.int .i64 sk.lev,.slice es sk.e.length ec,.int .i64 sk.bits,.string sk.aWx,.int .i64 sk.rows,.int .i64 sk.aWv,.slice cs sk.c.length cc,.int .i64 sk.aWw,.slice gs sk.g.length gc,.int .u64 sn]] w _;simp only at HR HF hcap hplain;clear hT hR hS hx hl6 hG;go_enter func71,ntmps71;go_wp2_with fail;refine(HR.out _ st0.below).mono ?_;rintro e w1 ⟨⟨b,rfl,hb⟩,hb1⟩;have HB:=aA hb;have st1:=st0.to hb1;have rl:=st1.rl;clear st0 hb1 HR hb;cases b with
 |false=>
  have hb:=st1.below;clear rl st1;go_wp2_with fail;go_ret2;exact⟨.inl ⟨_,by decide,rfl,λh=>by have:=HB.out (.inl h.1);cases this⟩,hb⟩
 |true=>
 go_wp2_with fail;refine(HRS.out _ st1.below).mono ?_;rintro e w2 ⟨⟨b,rfl,hb⟩,hb2⟩;have HB2:=aA hb;have st2:=st1.to hb2;clear rl st1 hb2 HRS hb HB;have rl:=st2.rl;cases b with
 |false=>
  have hb:=st2.below;clear rl st2;go_wp2_with fail;go_ret2;exact⟨.inl ⟨_,by decide,rfl,λh=>by have:=HB2.out h.2;cases this⟩,hb⟩
 |true=>
 go_wp2_with fail;refine(HF.out _ st2.below).mono ?_;rintro e w3 ⟨⟨at_,b,rfl,hat,hbt⟩,hb3⟩;have st3:=st2.to hb3;clear rl st2 hb3 HF HB2;have HBT:=aA hbt;clear hbt;have TAIL:∀beh:Nat,at_<=beh->beh<=at_+1->beh<=T.length->at_+1+(T.length-beh)<=20->∀(a:Act),a.eval (.tmp 0)=.slice ts T.length tc->a.eval (.tmp 3)=pv w.heap.size 0->True:=λ_ _ _ _ _ _ _ _=>trivial;clear TAIL;have rl:=st3.rl;have hz3:=st3.below.size;have sl1:∀W,(Instr.slice 74 (.slice ts T.length tc) none (some (.int .i64 at_)) none).run prog W=.ok (.slice ts at_ tc) W:=aP6 ts hplain T.length tc at_ (by omega);have HRT:=aA (λ(g:Nat) (hg:w.heap.size<=g) W (hW:dI g w W)=>show mN W ⟨ts,tc⟩ T from HT.out.2.1.but (tA.old HT.out.2.1 hg) hW);have HADD1:=aA (λ(B g cap:Nat) W hO (hg:w.heap.size<=g) (hW:dI g w W) (hroom:0+(T.take at_).length<=cap)=>vL [] (T.take at_) (HT.out.1.take at_) ⟨ts,tc⟩ B g cap 0 rfl hroom W hO ((HRT.out g hg W hW).aX0 at_) (tA.old (HT.out.2.1.aX0 at_) hg));rw[show(T.take at_).length=at_ by simp;omega] at HADD1;simp only[Nat.zero_add] at HADD1;have HADD2:=aA (λ(B g cap A:Nat) (S:List aP) (hnS:at_=S.length) W hO (hg:w.heap.size<=g) (hW:dI g w W) (hA:W.heap[A]? =some (.cells #[.slice ls lab.length lc,.int .i64 sk.kind,.int .i64 sk.lev,.slice es sk.e.length ec,.int .i64 sk.bits,.string sk.aWx,.int .i64 sk.rows,.int .i64 sk.aWv,.slice cs sk.c.length cc,.int .i64 sk.aWw,.slice gs sk.g.length gc,.int .u64 sn] 167 (0,0))) (hgA:g≠A) (hroom:at_+1<=cap)=>
  vL S [⟨lab,sk,sn,⟨ls,lc⟩,⟨⟨es,ec⟩,⟨cs,cc⟩,⟨gs,gc⟩⟩⟩] ⟨by simp,λx hx=>by simp at hx;subst hx;exact⟨HT.out.2.2.2.1,HT.out.2.2.2.2.1⟩⟩ ⟨some ⟨A,0,none⟩,1⟩ B g cap at_ hnS hroom W hO ⟨⟨Rd.aW2 cN hA rfl,by simp,(show 1<=9223372036854775807 by decide),(λh=>by cases h),dJ.some _ _⟩,λx hx=>by simp at hx;subst hx;exact HT.out.2.2.1.but (iW.old HT.out.2.2.1 hg) hW⟩ ⟨λ_ g' o e=>by cases e;exact λh=>hgA h.symm,λx hx=>by simp at hx;subst hx;exact iW.old HT.out.2.2.1 hg⟩)
 simp only[List.length_singleton] at HADD2;cases b with
 |true=>
  have hlt:=HBT.out rfl;have sl2:∀W,(Instr.slice 74 (.slice ts T.length tc) (some (.int .i64 ((at_:Int)+1))) none none).run prog W=.ok (.slice (nD ts tc (at_+1)) (T.length-(at_+1)) (tc-(at_+1))) W:=λW=>by
   have:=xH ts T.length tc (at_+1) (by omega) W;rw[Int.natCast_add] at this;exact this
  have HADD3:=aA (λ(B g cap n:Nat) (S:List aP) (hnS:n=S.length) W hO (hg:w.heap.size<=g) (hW:dI g w W) (hroom:n+(T.drop (at_+1)).length<=cap)=>vL S (T.drop (at_+1)) (HT.out.1.drop (at_+1)) ⟨nD ts tc (at_+1),tc-(at_+1)⟩ B g cap n hnS hroom W hO ((HRT.out g hg W hW).aXn (at_+1)) (tA.old (HT.out.2.1.aXn (at_+1)) hg));rw[List.length_drop] at HADD3
  skip
  clear rl;go_wp2_with(at_make;refine rU (enc:=aN) xC rfl _ _ rfl (T.length+1) rfl (by simp[Act.eval,Act.put]) (by omega) (by decide) ?_;intro w4 hO hb4);have hbw4:dI w3.heap.size w w4:=dI.of (st3.below.trans (hb4.mono hz3));have hc4:=st3.to hb4;have HO4:=aA (aB hO (aB hbw4 hc4));have HZW:=aA (show w3.heap.size<w4.heap.size from(hO.lt _ rfl).2);clear hO hb4 hbw4 hc4;refine(HADD1.out w3.heap.size w3.heap.size (T.length+1) w4 HO4.out.1 hz3 HO4.out.2.1 (by omega)).mono ?_;rintro e w5 ⟨rfl,T1,hn1,hcore1,hO5,hS5,hbut5⟩;have hbw5:=HO4.out.2.1.trans hbut5;have hc5:w5.heap[w.heap.size]? =some (.cells #[.slice ls lab.length lc,.int .i64 sk.kind,.int .i64 sk.lev,.slice es sk.e.length ec,.int .i64 sk.bits,.string sk.aWx,.int .i64 sk.rows,.int .i64 sk.aWv,.slice cs sk.c.length cc,.int .i64 sk.aWw,.slice gs sk.g.length gc,.int .u64 sn] 167 (0,0)):=(hbut5.block _ (aC (HO4.out.2.2.blk _ (bK (i:=0) rfl))) (by have:=aC (st3.blk _ (bK (i:=0) rfl));omega)).trans (HO4.out.2.2.blk _ (bK (i:=0) rfl));have st5:St w [(w.heap.size,#[.slice ls lab.length lc,.int .i64 sk.kind,.int .i64 sk.lev,.slice es sk.e.length ec,.int .i64 sk.bits,.string sk.aWx,.int .i64 sk.rows,.int .i64 sk.aWv,.slice cs sk.c.length cc,.int .i64 sk.aWw,.slice gs sk.g.length gc,.int .u64 sn],167)] (λ_=>True) w5:=⟨hbw5.below aW hz3,λy hy=>by simp at hy;subst hy;exact hc5,by simp,trivial,λ_ _ _ _=>trivial⟩;have rl:=st5.rl;have hg5:w3.heap.size<w5.heap.size:=(hO5.lt _ rfl).2;have HO5:=aA (aB hn1 (aB hcore1 (aB hO5 (aB hS5 hbw5))));clear hn1 hcore1 hO5 hS5 hbut5 hbw5 hc5 HO4;go_wp2_with(refine iI rfl (.tmp 46) rfl _ _ _ _ _ _ _ _ _ _ _ _ rfl ?_);have hal:=(Below.refl w5.heap.size w5).alloc aH (.cells #[.slice ls lab.length lc,.int .i64 sk.kind,.int .i64 sk.lev,.slice es sk.e.length ec,.int .i64 sk.bits,.string sk.aWx,.int .i64 sk.rows,.int .i64 sk.aWv,.slice cs sk.c.length cc,.int .i64 sk.aWw,.slice gs sk.g.length gc,.int .u64 sn] 167)
  refine(HADD2.out w3.heap.size w3.heap.size (T.length+1) w5.heap.size ([]++T1) (by have:=HO5.out.1;simpa using this) _ (aL.keep _ _ HO5.out.2.2.1 hal) hz3 (HO5.out.2.2.2.2.trans (dI.of hal)) (kH _ _) (by omega) (by omega)).mono ?_;rintro e w6 ⟨rfl,T2,hn2,hcore2,hO6,hS6,hbut6⟩;have hbut56:=(dI.of (g:=w3.heap.size) hal).trans hbut6;have HO6:=aA (aB hn2 (aB hcore2 (aB hO6 (aB hS6 hbut56))));clear hn2 hcore2 hO6 hS6 hbut6 hbut56 hal rl st5 HADD1 HADD2;go_wp2_with fail;refine(HADD3.out w3.heap.size w3.heap.size (T.length+1) (at_+1) ([]++T1++T2) (by have h1:=HO5.out.1;have h2:=HO6.out.1;simp at h1 h2⊢;omega) w6 HO6.out.2.2.1 hz3 (HO5.out.2.2.2.2.trans HO6.out.2.2.2.2) (by omega)).mono ?_;rintro e w7 ⟨rfl,T3,hn3,hcore3,hO7,hS7,hbut7⟩;have HO7:=aA (aB hn3 (aB hcore3 (aB hO7 (aB hS7 hbut7))));clear hn3 hcore3 hO7 hS7 hbut7 HADD3;go_wp2_with fail;have hlen:([]++T1++T2++T3).length=at_+1+(T.length-(at_+1)):=by have h1:=HO5.out.1;have h2:=HO6.out.1;have h3:=HO7.out.1;simp at h1 h2 h3⊢;omega
  obtain⟨d,hv,hd,hf⟩:=bS.aXa cN HO7.out.2.2.1;have hcores:([]++T1++T2++T3).map aP.core=(T.take at_++[(⟨lab,sk,sn,⟨ls,lc⟩,⟨⟨es,ec⟩,⟨cs,cc⟩,⟨gs,gc⟩⟩⟩:aP)]++T.drop (at_+1)).map aP.core:=by
   simp only[List.nil_append,List.map_append,HO5.out.2.1,HO6.out.2.1,HO7.out.2.1]
  refine bodyPost_ret (v:=.tuple #[.slice (some ⟨w3.heap.size,0,none⟩) (at_+1+(T.length-(at_+1))) (T.length+1),.int .i64 0]) (by simp[results,results71,go_sem]) rfl ⟨.inr ⟨d,[]++T1++T2++T3,by rw[<-hv],⟨⟨hd,?_⟩,?_,hf.mono hz3,?_⟩,(λh=>by rw[h] at hlen;simp at hlen;omega),?_⟩,?_⟩
  .intro y hy;simp only[List.nil_append,List.append_assoc,List.mem_append] at hy;rcases hy with hy|hy|hy
   .obtain⟨h1,h2⟩:=HO5.out.2.2.2.1 y hy;exact h1.but (iW.of h2 (by have:=HZW.out;omega)) (HO6.out.2.2.2.2.trans HO7.out.2.2.2.2)
   .obtain⟨h1,h2⟩:=HO6.out.2.2.2.1 y hy;exact h1.but (iW.of h2 (by simp;omega)) HO7.out.2.2.2.2
   .exact(HO7.out.2.2.2.1 y hy).1
  .refine pS.core ⟨?_,?_⟩ hcores
   .have h:=congrArg List.length hcores;simp only[List.length_map] at h;rw[<-h,hlen];omega
   .intro y hy;simp only[List.append_assoc,List.mem_append,List.mem_singleton] at hy;rcases hy with hy|rfl|hy
    .exact HT.out.1.ok y (List.mem_of_mem_take hy)
    .exact⟨HT.out.2.2.2.1,HT.out.2.2.2.2.1⟩
    .exact HT.out.1.ok y (List.mem_of_mem_drop hy)
  .intro y hy;simp only[List.nil_append,List.append_assoc,List.mem_append] at hy;rcases hy with hy|hy|hy
   .exact(HO5.out.2.2.2.1 y hy).2.mono (by have:=HZW.out;omega)
   .exact(HO6.out.2.2.2.1 y hy).2.mono (by simp;omega)
   .exact(HO7.out.2.2.2.1 y hy).2.mono (by have:=HO6.out.2.2.2.2.size;omega)
  .intro h;rw[hcores,h];simp
  .exact((HO5.out.2.2.2.2.trans HO6.out.2.2.2.2).trans HO7.out.2.2.2.2).below aW hz3
 |false=>
  by_cases h20:T.length=20
  .have h20':(T.length:Int)=20:=by omega
   have hb:=st3.below;have HNE:Hid (T≠[]):=λh=>by rw[h] at h20;cases h20
   clear rl st3;go_wp2_with fail;go_ret2;exact⟨.inl ⟨_,by decide,rfl,λh=>HNE h.1⟩,hb⟩
  have h20':¬(T.length:Int)=20:=by omega
  have sl2:∀W,(Instr.slice 74 (.slice ts T.length tc) (some (.int .i64 at_)) none none).run prog W=.ok (.slice (nD ts tc at_) (T.length-at_) (tc-at_)) W:=λW=>by
   have:=xH ts T.length tc at_ (by omega) W;exact this
  have HADD3:=aA (λ(B g cap n:Nat) (S:List aP) (hnS:n=S.length) W hO (hg:w.heap.size<=g) (hW:dI g w W) (hroom:n+(T.drop at_).length<=cap)=>vL S (T.drop at_) (HT.out.1.drop at_) ⟨nD ts tc at_,tc-at_⟩ B g cap n hnS hroom W hO ((HRT.out g hg W hW).aXn at_) (tA.old (HT.out.2.1.aXn at_) hg));rw[List.length_drop] at HADD3
  skip
  clear rl;go_wp2_with(at_make;refine rU (enc:=aN) xC rfl _ _ rfl (T.length+1) rfl (by simp[Act.eval,Act.put]) (by omega) (by decide) ?_;intro w4 hO hb4);have hbw4:dI w3.heap.size w w4:=dI.of (st3.below.trans (hb4.mono hz3));have hc4:=st3.to hb4;have HO4:=aA (aB hO (aB hbw4 hc4));have HZW:=aA (show w3.heap.size<w4.heap.size from(hO.lt _ rfl).2);clear hO hb4 hbw4 hc4;refine(HADD1.out w3.heap.size w3.heap.size (T.length+1) w4 HO4.out.1 hz3 HO4.out.2.1 (by omega)).mono ?_;rintro e w5 ⟨rfl,T1,hn1,hcore1,hO5,hS5,hbut5⟩;have hbw5:=HO4.out.2.1.trans hbut5;have hc5:w5.heap[w.heap.size]? =some (.cells #[.slice ls lab.length lc,.int .i64 sk.kind,.int .i64 sk.lev,.slice es sk.e.length ec,.int .i64 sk.bits,.string sk.aWx,.int .i64 sk.rows,.int .i64 sk.aWv,.slice cs sk.c.length cc,.int .i64 sk.aWw,.slice gs sk.g.length gc,.int .u64 sn] 167 (0,0)):=(hbut5.block _ (aC (HO4.out.2.2.blk _ (bK (i:=0) rfl))) (by have:=aC (st3.blk _ (bK (i:=0) rfl));omega)).trans (HO4.out.2.2.blk _ (bK (i:=0) rfl));have st5:St w [(w.heap.size,#[.slice ls lab.length lc,.int .i64 sk.kind,.int .i64 sk.lev,.slice es sk.e.length ec,.int .i64 sk.bits,.string sk.aWx,.int .i64 sk.rows,.int .i64 sk.aWv,.slice cs sk.c.length cc,.int .i64 sk.aWw,.slice gs sk.g.length gc,.int .u64 sn],167)] (λ_=>True) w5:=⟨hbw5.below aW hz3,λy hy=>by simp at hy;subst hy;exact hc5,by simp,trivial,λ_ _ _ _=>trivial⟩;have rl:=st5.rl;have hg5:w3.heap.size<w5.heap.size:=(hO5.lt _ rfl).2;have HO5:=aA (aB hn1 (aB hcore1 (aB hO5 (aB hS5 hbw5))));clear hn1 hcore1 hO5 hS5 hbut5 hbw5 hc5 HO4;go_wp2_with(refine iI rfl (.tmp 46) rfl _ _ _ _ _ _ _ _ _ _ _ _ rfl ?_);have hal:=(Below.refl w5.heap.size w5).alloc aH (.cells #[.slice ls lab.length lc,.int .i64 sk.kind,.int .i64 sk.lev,.slice es sk.e.length ec,.int .i64 sk.bits,.string sk.aWx,.int .i64 sk.rows,.int .i64 sk.aWv,.slice cs sk.c.length cc,.int .i64 sk.aWw,.slice gs sk.g.length gc,.int .u64 sn] 167)
  refine(HADD2.out w3.heap.size w3.heap.size (T.length+1) w5.heap.size ([]++T1) (by have:=HO5.out.1;simpa using this) _ (aL.keep _ _ HO5.out.2.2.1 hal) hz3 (HO5.out.2.2.2.2.trans (dI.of hal)) (kH _ _) (by omega) (by omega)).mono ?_;rintro e w6 ⟨rfl,T2,hn2,hcore2,hO6,hS6,hbut6⟩;have hbut56:=(dI.of (g:=w3.heap.size) hal).trans hbut6;have HO6:=aA (aB hn2 (aB hcore2 (aB hO6 (aB hS6 hbut56))));clear hn2 hcore2 hO6 hS6 hbut6 hbut56 hal rl st5 HADD1 HADD2;go_wp2_with fail;refine(HADD3.out w3.heap.size w3.heap.size (T.length+1) (at_+1) ([]++T1++T2) (by have h1:=HO5.out.1;have h2:=HO6.out.1;simp at h1 h2⊢;omega) w6 HO6.out.2.2.1 hz3 (HO5.out.2.2.2.2.trans HO6.out.2.2.2.2) (by omega)).mono ?_;rintro e w7 ⟨rfl,T3,hn3,hcore3,hO7,hS7,hbut7⟩;have HO7:=aA (aB hn3 (aB hcore3 (aB hO7 (aB hS7 hbut7))));clear hn3 hcore3 hO7 hS7 hbut7 HADD3;go_wp2_with fail;have hlen:([]++T1++T2++T3).length=at_+1+(T.length-at_):=by have h1:=HO5.out.1;have h2:=HO6.out.1;have h3:=HO7.out.1;simp at h1 h2 h3⊢;omega
  obtain⟨d,hv,hd,hf⟩:=bS.aXa cN HO7.out.2.2.1;have hcores:([]++T1++T2++T3).map aP.core=(T.take at_++[(⟨lab,sk,sn,⟨ls,lc⟩,⟨⟨es,ec⟩,⟨cs,cc⟩,⟨gs,gc⟩⟩⟩:aP)]++T.drop at_).map aP.core:=by
   simp only[List.nil_append,List.map_append,HO5.out.2.1,HO6.out.2.1,HO7.out.2.1]
  refine bodyPost_ret (v:=.tuple #[.slice (some ⟨w3.heap.size,0,none⟩) (at_+1+(T.length-at_)) (T.length+1),.int .i64 0]) (by simp[results,results71,go_sem]) rfl ⟨.inr ⟨d,[]++T1++T2++T3,by rw[<-hv],⟨⟨hd,?_⟩,?_,hf.mono hz3,?_⟩,(λh=>by rw[h] at hlen;simp at hlen;omega),?_⟩,?_⟩
  .intro y hy;simp only[List.nil_append,List.append_assoc,List.mem_append] at hy;rcases hy with hy|hy|hy
   .obtain⟨h1,h2⟩:=HO5.out.2.2.2.1 y hy;exact h1.but (iW.of h2 (by have:=HZW.out;omega)) (HO6.out.2.2.2.2.trans HO7.out.2.2.2.2)
   .obtain⟨h1,h2⟩:=HO6.out.2.2.2.1 y hy;exact h1.but (iW.of h2 (by simp;omega)) HO7.out.2.2.2.2
   .exact(HO7.out.2.2.2.1 y hy).1
  .refine pS.core ⟨?_,?_⟩ hcores
   .have h:=congrArg List.length hcores;simp only[List.length_map] at h;rw[<-h,hlen];omega
   .intro y hy;simp only[List.append_assoc,List.mem_append,List.mem_singleton] at hy;rcases hy with hy|rfl|hy
    .exact HT.out.1.ok y (List.mem_of_mem_take hy)
    .exact⟨HT.out.2.2.2.1,HT.out.2.2.2.2.1⟩
    .exact HT.out.1.ok y (List.mem_of_mem_drop hy)
  .intro y hy;simp only[List.nil_append,List.append_assoc,List.mem_append] at hy;rcases hy with hy|hy|hy
   .exact(HO5.out.2.2.2.1 y hy).2.mono (by have:=HZW.out;omega)
   .exact(HO6.out.2.2.2.1 y hy).2.mono (by simp;omega)
   .exact(HO7.out.2.2.2.1 y hy).2.mono (by have:=HO6.out.2.2.2.2.size;omega)
  .intro h;rw[hcores,h];simp
  .exact((HO5.out.2.2.2.2.trans HO6.out.2.2.2.2).trans HO7.out.2.2.2.2).below aW hz3
end
def aU4 (T:List aP)(e:Ending):Prop:=∃n:Int,e=.returned (.int .i64 n)/\(T=[]->n=0)/\(∀x,T=[x]->x.lab=[bA]->n=x.sk.cost+3)
theorem lW (T:List aP)(hT:pS T)(t:Hd)(w:World)(hG:aQ w)(hR:mN w t T):Calls prog 47 #[.slice t.s T.length t.cap] w λe w'=>aU4 T e/\Below w.heap.size w w':=by
 have HR:=aA (eP T hT t w hG hR);obtain⟨ts,tc⟩:=t;have HT:=aA (aB hT (aB hR hG));have hl:=hT.len;clear hT hG hR;show Calls prog 47 #[.slice ts T.length tc] w _;simp only at HR;go_enter func47,ntmps47;go_wp2_with fail;refine HR.out.mono ?_;rintro e w1 ⟨⟨b,rfl,hb⟩,hb1⟩;have HB:=aA hb;clear HR hb;cases b with
 |false=>
  go_wp2_with fail;go_ret;exact⟨⟨0,rfl,λ_=>rfl,λx h1 h2=>by have:=HB.out (.inr ⟨x,h1,h2⟩);cases this⟩,hb1⟩
 |true=>
 go_wp2_with fail
 go_loopw [3,13] (λc i wr=>∃(k:Nat) (n:Int),k<=T.length/\i=.int .i64 k/\c=.int .i64 n/\Below w.heap.size w wr/\(k=0->n=0)/\(∀x,T=[x]->x.lab=[bA]->k=1->n=x.sk.cost+3)) (λ_ i _=>T.length-(intOf i).toNat)
 case atStart=>exact⟨0,0,cJ _,rfl,rfl,hb1,λ_=>rfl,λ_ _ _ h=>by cases h⟩
 case round=>
  obtain⟨k,n,hk,rfl,rfl,hbw,hn0,hn1⟩:=hrel
  by_cases hlt:k<T.length
  .obtain⟨g,o,hts⟩:=HT.out.2.1.addr (by intro h;rw[h] at hlt;simp at hlt);simp only at hts;subst hts;obtain⟨⟨lab,sk,sn,⟨ls,lc⟩,⟨⟨es,ec⟩,⟨cs,cc⟩,⟨gs,gc⟩⟩⟩,hx⟩:∃x,T[k]? =some x:=⟨_,cZ hlt⟩;have hS:=HT.out.2.1.s _ (bK hx);have hO:=HT.out.1.ok _ (bK hx);have tce:=cG (HT.out.2.1.aWu hbw) hx;have st0:=((St.start w).to hbw).alloc (cs:= #[.slice ls lab.length lc,.int .i64 sk.kind,.int .i64 sk.lev,.slice es sk.e.length ec,.int .i64 sk.bits,.string sk.aWx,.int .i64 sk.rows,.int .i64 sk.aWv,.slice cs sk.c.length cc,.int .i64 sk.aWw,.slice gs sk.g.length gc,.int .u64 sn]) (T:=167);have HTX:=aA (λW (hW:Below w.heap.size w W)=>aF6 lab hO.2 ls lc W (HT.out.2.2.aWu hW) (hS.l.rd.aWu aH hW));have HC:=aA (show∀W,Below w.heap.size w W->Calls prog 75 #[.agg #[.int .i64 sk.kind,.int .i64 sk.lev,.slice es sk.e.length ec,.int .i64 sk.bits,.string sk.aWx,.int .i64 sk.rows,.int .i64 sk.aWv,.slice cs sk.c.length cc,.int .i64 sk.aWw,.slice gs sk.g.length gc]] W λe w'=>e=.returned (.int .i64 (sk.cost:Nat))/\Below W.heap.size W w' from λW hW=>aFm sk hO.1 ⟨⟨es,ec⟩,⟨cs,cc⟩,⟨gs,gc⟩⟩ W (hS.k.aWu hW));obtain⟨c1,c2⟩:=sk.aXt hO.1;have HX:=aA (show∀x,T=[x]->x.lab=[bA]->k=0/\lab=[bA]/\sk.cost=x.sk.cost from λx h1 h2=>by
    obtain⟨a,b,c⟩:=lG.mem (.inr ⟨x,h1,h2⟩) hx;rw[h1] at c;cases c;exact⟨a,b,rfl⟩)
   have HN:=aA hn0;generalize sk.cost=co at*;clear hx hS hO hn0 hn1 hbw;generalize sk.kind=kd at*;generalize sk.lev=lv at*;generalize sk.bits=bi at*;generalize sk.aWx=rg at*;generalize sk.rows=rw at*;generalize sk.aWv=cl at*;generalize sk.aWw=fi at*;generalize sk.e=E at*;generalize sk.c=C at*;generalize sk.g=G at*;go_wp2_with fail;refine(HTX.out _ st0.below).mono ?_;rintro e w2 ⟨⟨tx,E,rfl,htx,hone⟩,hb2⟩;have st1:=st0.to hb2;have rl:=st1.rl;have HO:=aA hone;clear st0 hb2 HTX tce hone;go_wp2_with fail;refine(HC.out _ st1.below).mono ?_;rintro e w3 ⟨rfl,hb3⟩;have hb:=(st1.to hb3).below;clear rl st1 hb3 HC;go_wp2_with fail;go_roundw
   case rel=>
    refine⟨k+1,_,hlt,by go_num,rfl,hb,λh=>by omega,λx h1 h2 _=> ?_⟩;obtain⟨a,b,c⟩:=HX.out x h1 h2;rw[HN.out a,HO.out b];simp[wrap64];show _=_;have:(⟨#[97,61,120]⟩:ByteArray).size=3:=rfl;rw[this];omega
   case measure=>simp[intOf];omega
  .obtain rfl:k=T.length:=by omega
   have HN:=aA (aB hn0 hn1);clear hn0 hn1;go_wp2_with fail;go_ret;exact⟨⟨n,rfl,λh=>HN.out.1 (by rw[h];rfl),λx h1 h2=>HN.out.2 x h1 h2 (by rw[h1];rfl)⟩,hbw⟩
def rL (x:Nat):List Value:=[.int .i64 x]
theorem fV (x:Nat):(rL x).length=1:=rfl
theorem sK (x:Nat):∀v∈rL x,v.oneCell'=true:=by intro v hv;simp[rL] at hv;subst hv;rfl
theorem aJb :eM prog 33 3 1 8:=eM.mk (z:=.int .i64 0) underlying33 (by kernel_rfl) rfl (by decide)
def MtP (T:List aP)(sc:ByteArray)(e:Ending)(w':World):Prop:=
 (∃E:Int,E≠0/\e=.returned (.tuple #[.slice none 0 0,.int .i64 E])/\¬(lG T/\qC sc))\/∃(d:Hd) (P:List Nat),e=.returned (.tuple #[d.v P.length,.int .i64 0])/\bS 1 rL w' d P/\P.length<=T.length/\(∀p∈P,p<T.length)/\(lG T/\qC sc->P=List.range T.length)
theorem uM (T:List aP)(hT:pS T)(t:Hd)(sc:ByteArray)(hsc:sc.size<=100000)(w:World)(hG:aQ w)(hR:mN w t T):Calls prog 123 #[.slice t.s T.length t.cap,.string sc] w λe w'=>MtP T sc e w'/\Below w.heap.size w w':=by
 have HR:=aA (eP T hT t w hG hR);have HSR:=aA (λW (hW:Below w.heap.size w W)=>kQ sc hsc W (hG.aWu hW));obtain⟨ts,tc⟩:=t;have HT:=aA (aB hT (aB hR (aB hG hsc)));have hl:=hT.len;clear hT hG hR hsc;show Calls prog 123 #[.slice ts T.length tc,.string sc] w _;simp only at HR;go_enter func123,ntmps123;go_wp2_with fail;refine HR.out.mono ?_;rintro e w1 ⟨⟨b,rfl,hb⟩,hb1⟩;have HB:=aA hb;clear HR hb;cases b with
 |false=>
  go_wp2_with fail;go_ret2;exact⟨.inl ⟨_,by decide,rfl,λh=>by have:=HB.out h.1;cases this⟩,hb1⟩
 |true=>
 go_wp2_with fail;refine(HSR.out _ hb1).mono ?_;rintro e w2 ⟨⟨b,rfl,hb⟩,hb2⟩;have HB2:=aA hb;have hbb:=hb1.trans (hb2.mono hb1.size);clear hb HSR hb1 hb2 HB;cases b with
 |false=>
  go_wp2_with fail;go_ret2;exact⟨.inl ⟨_,by decide,rfl,λh=>by have:=HB2.out h.2;cases this⟩,hbb⟩
 |true=>
 go_wp2_with fail
 go_loopw [6,19] (λv i wr=>∃(k:Nat) (vv:Value) (P:List Nat),v=vv/\k<=T.length/\i=.int .i64 k/\aL 1 rL 3 wr w.heap.size vv P/\Below w.heap.size w wr/\P.length<=k/\(∀p∈P,p<T.length)/\(lG T/\qC sc->P=List.range k)) (λ_ i _=>T.length-(intOf i).toNat)
 case atStart=>exact⟨0,_,[],rfl,cJ _,rfl,aL.nil _ _,hbb,aH,by simp,λ_=>rfl⟩
 case round=>
  obtain⟨k,vv,P,rfl,hk,rfl,ho,hbw,hP,hPT,hPx⟩:=hrel
  by_cases hlt:k<T.length
  .obtain⟨g,o,hts⟩:=HT.out.2.1.addr (by intro h;rw[h] at hlt;simp at hlt);simp only at hts;subst hts;obtain⟨⟨lab,sk,sn,⟨ls,lc⟩,⟨⟨es,ec⟩,⟨cs,cc⟩,⟨gs,gc⟩⟩⟩,hx⟩:∃x,T[k]? =some x:=⟨_,cZ hlt⟩;have hS:=HT.out.2.1.s _ (bK hx);have hO:=HT.out.1.ok _ (bK hx);have tce:=cG (HT.out.2.1.aWu hbw) hx;have st0:=((St.start w).to hbw).alloc (cs:= #[.slice ls lab.length lc,.int .i64 sk.kind,.int .i64 sk.lev,.slice es sk.e.length ec,.int .i64 sk.bits,.string sk.aWx,.int .i64 sk.rows,.int .i64 sk.aWv,.slice cs sk.c.length cc,.int .i64 sk.aWw,.slice gs sk.g.length gc,.int .u64 sn]) (T:=167);have hal:=(Below.refl wr.heap.size wr).alloc aH (.cells #[.slice ls lab.length lc,.int .i64 sk.kind,.int .i64 sk.lev,.slice es sk.e.length ec,.int .i64 sk.bits,.string sk.aWx,.int .i64 sk.rows,.int .i64 sk.aWv,.slice cs sk.c.length cc,.int .i64 sk.aWw,.slice gs sk.g.length gc,.int .u64 sn] 167);have HM:=aA (λW (hW:Below w.heap.size w W)=>uV sc HT.out.2.2.2 lab hO.2 ls lc W (HT.out.2.2.1.aWu hW) (hS.l.rd.aWu aH hW));have HX:=aA (show lG T->lab=[bA] from λh=>(h.mem hx).2.1);have HPP:=aA (aB hP (aB hPT (aB hPx (aB ho hal))));obtain⟨ps,pc,rfl,-⟩:=ho.form fV;clear hx hS hO hPT hPx ho hal hbw;generalize sk.kind=kd at*;generalize sk.lev=lv at*;generalize sk.bits=bi at*;generalize sk.aWx=rg at*;generalize sk.rows=rw at*;generalize sk.aWv=cl at*;generalize sk.aWw=fi at*;generalize sk.e=E at*;generalize sk.c=C at*;generalize sk.g=G at*;go_wp2_with fail;refine(HM.out _ st0.below).mono ?_;rintro e w4 ⟨⟨m,E,rfl,hE,hm⟩,hb4⟩;have hb:=(st0.to hb4).below;have HMM:=aA hm;have HO4:=aA (aL.keep _ _ (aL.keep _ _ HPP.out.2.2.2.1 HPP.out.2.2.2.2) hb4);clear st0 hb4 HM tce hm;rcases hE with rfl|rfl
   .cases m with
    |false=>
     go_wp2_with fail;go_roundw
     case rel=>exact⟨k+1,_,P,rfl,hlt,by go_num,HO4.out,hb,by omega,HPP.out.2.1,λh=>by have:=(HMM.out ⟨HX.out h.1,h.2⟩).1;cases this⟩
     case measure=>simp[intOf];omega
    |true=>
     have hz:=hb.size;go_wp2_with(at_builtin;refine fI aJb fV sK rfl (.tmp 35) (.tmp 37) rfl w.heap.size (.slice ps P.length pc) P k rfl ((St.start w).to hb) HO4.out aH (by simp) hz _ rfl w4.heap.size rfl rfl (by omega) (by decide) ?_;intro v' w5 ap);have HAP:=aA ap;clear ap;go_wp2_with fail;go_roundw
     case rel=>exact⟨k+1,v',P++[k],rfl,hlt,by go_num,HAP.out.own,HAP.out.st.below,by simp;omega,λp hp=>by rcases List.mem_append.1 hp with hp|hp;exact HPP.out.2.1 p hp;simp at hp;omega,λh=>by rw[HPP.out.2.2.1 h,List.range_succ]⟩
     case measure=>simp[intOf];omega
   .go_wp2_with fail;go_ret2;exact⟨.inl ⟨50,by decide,rfl,λh=>by have:=(HMM.out ⟨HX.out h.1,h.2⟩).2;cases this⟩,hb⟩
  .obtain rfl:k=T.length:=by omega
   have HPP:=aA (aB hP (aB hPT hPx));obtain⟨d,rfl,hd⟩:=bS.own fV ho;have HD:=aA hd;clear hP hPT hPx ho hd;simp only[Hd.v];go_wp2_with fail;go_ret2;exact⟨.inr ⟨d,P,rfl,HD.out,HPP.out⟩,hbw⟩
end Go.Proofs.YtmgdbfmlnmahpaaGreatDoor
