/- Part of TopAudits. -/
import Derived.WalkKit
import Derived.Lib.SmallJoins
import Derived.Test.YtmgdbfmlnmahpaaGreatDoorG12
import Derived.Test.YtmgdbfmlnmahpaaGreatDoorG03
import Derived.WalkLawsBesides
import Derived.WalkSpells
import Derived.Outline
import Derived.Lib.Hide
namespace Go.Proofs.YtmgdbfmlnmahpaaGreatDoor
set_option linter.unusedSimpArgs false
set_option linter.unusedVariables false
set_option maxRecDepth 100000
set_option maxHeartbeats 4000000
open Go.Proofs.Tryz
section
open Go.RowKit
theorem tV {P:Program}(W:World)(src dst e:TypeId)(hs:P.underlying src=some (.slice e))(he:P.underlying e=some (.int .u8))(hd:P.underlying dst=some .string)(ns:List Int)(g cap:Nat)(hg:g=W.heap.size):
  (convert src dst (.slice (some ⟨g,0,none⟩) ns.length cap)).run P (W.alloc (.cells (ns.map (Value.int .u8)).toArray e))=.ok (.string (ns.foldl (λr n=>r.push (UInt8.ofNat n.toNat)) ByteArray.empty)) (W.alloc (.cells (ns.map (Value.int .u8)).toArray e)):=by
 subst hg;rw[run_convert_bytes_string _ src dst e (some ⟨W.heap.size,0,none⟩) ns.length cap hs he hd];have hl:=run_loadCells_list (P:=P) (W.alloc (.cells (ns.map (Value.int .u8)).toArray e)) ⟨W.heap.size,0,none⟩ (ns.map (Value.int .u8)) (λj v hj=>by
  have e:(⟨W.heap.size,0,none⟩:Addr).add j=⟨W.heap.size,j,none⟩:=by rw[Addr.add_lit,Nat.zero_add]
  rw[e,World.cell?_alloc_new,List.getElem?_toArray,hj])
 rw[List.length_map] at hl;rw[run_bytesToString _ _ _ cap _ hl]
@[go_sem] theorem aWr (W:World)(g:Nat)(x:Int)(hg:g=W.heap.size):
  (convert 117 9 (.slice (some ⟨g,0,none⟩) 1 1)).run prog (W.alloc (.cells #[.int .u8 x] 5))=.ok (.string ⟨#[UInt8.ofNat x.toNat]⟩) (W.alloc (.cells #[.int .u8 x] 5)):=
 tV (P:=prog) W 117 9 5 underlying117 underlying5 underlying9 [x] g 1 hg
@[go_sem] theorem aWq (W:World)(g:Nat)(x y:Int)(hg:g=W.heap.size):
  (convert 117 9 (.slice (some ⟨g,0,none⟩) 2 2)).run prog (W.alloc (.cells #[.int .u8 x,.int .u8 y] 5))=.ok (.string ⟨#[UInt8.ofNat x.toNat,UInt8.ofNat y.toNat]⟩) (W.alloc (.cells #[.int .u8 x,.int .u8 y] 5)):=
 tV (P:=prog) W 117 9 5 underlying117 underlying5 underlying9 [x,y] g 2 hg
@[go_sem] theorem aWl (W:World)(g:Nat)(x y z:Int)(hg:g=W.heap.size):
  (convert 117 9 (.slice (some ⟨g,0,none⟩) 3 3)).run prog (W.alloc (.cells #[.int .u8 x,.int .u8 y,.int .u8 z] 5))=.ok (.string ⟨#[UInt8.ofNat x.toNat,UInt8.ofNat y.toNat,UInt8.ofNat z.toNat]⟩) (W.alloc (.cells #[.int .u8 x,.int .u8 y,.int .u8 z] 5)):=
 tV (P:=prog) W 117 9 5 underlying117 underlying5 underlying9 [x,y,z] g 3 hg
end
section
open Go.RowKit
theorem aSx :(prog.info? 5).map (λi=>(i.zero,i.size,i.bytes))=some (some (.int .u8 0),1,1):=by kernel_rfl
theorem sZ {ops:Array Oper}{rest:List Oper}{o:Oper}{a:Act}{Q:Exit->Act->World->Prop}{W:World}(hgd:o.guard=none)(s x:Operand)
  (ho:o.op=.call {callee:=.builtin .append,args:= #[s,x],argTypes:= #[117,117]}) (B:Nat) (v:Value) (n:Nat) (xs:List Value) (hs:a.eval s=v) (hown:W.ownsRow B 5 1 v n xs)
  (ns:List Int) (hx:a.eval x=.slice (some ⟨W.heap.size,0,none⟩) ns.length ns.length) (hn:n+ns.length<=1000000) (hB:B<=W.heap.size)
  (h:∀v' w',w'.ownsRow B 5 1 v' (n+ns.length) (xs++ns.map (Value.int .u8))->Below B W w'->wpList prog ops Q rest (a.put o.dst v') w'):
  wpList prog ops Q (o::rest) a (W.alloc (.cells (ns.map (Value.int .u8)).toArray 5)):=by
 obtain⟨i0,hi,hz0,hz1,hz2⟩:=info_parts aSx;refine wpList_append_own _ hgd s x 117 ho B 5 i0 (.int .u8 0) 1 1 underlying117 hi hz0 hz1 hz2 rfl (by decide) v n xs hs (hown.alloc _) ⟨W.heap.size,0,none⟩ ns.length ns.length (ns.map (Value.int .u8)) hx (by simp) ?_ ?_ (by unfold maxLen;omega) (by omega) (by simp;omega) ?_
 .intro j u hj;rw[Addr.add_lit,Nat.zero_add,World.cell?_alloc_new,List.getElem?_toArray,hj]
 .intro u hu;obtain⟨m,_,rfl⟩:=List.mem_map.1 hu;rfl
 .intro v' w' hown' hg _;exact h v' w' hown' (((Below.refl B W).alloc hB _).grown hg (by simp;omega) (λk e=>by
   have:=hown.lt k e;exact this.1))
theorem eT {ops:Array Oper}{rest:List Oper}{o:Oper}{a:Act}{Q:Exit->Act->World->Prop}{W:World}(hgd:o.guard=none)(s x:Operand)
  (ho:o.op=.call {callee:=.builtin .append,args:= #[s,x],argTypes:= #[117,117]}) (B:Nat) (v:Value) (n:Nat) (xs:List Value) (y:Int) (hs:a.eval s=v) (hown:W.ownsRow B 5 1 v n xs)
  (g:Nat) (hg:g=W.heap.size) (hx:a.eval x=.slice (some ⟨g,0,none⟩) 1 1) (hn:n+1<=1000000) (hB:B<=W.heap.size)
  (h:∀v' w',w'.ownsRow B 5 1 v' (n+1) (xs++[.int .u8 y])->Below B W w'->wpList prog ops Q rest (a.put o.dst v') w'):
  wpList prog ops Q (o::rest) a (W.alloc (.cells #[.int .u8 y] 5)):=
 sZ hgd s x ho B v n xs hs hown [y] (hg▸hx) hn hB h
theorem pA {ops:Array Oper}{rest:List Oper}{o:Oper}{a:Act}{Q:Exit->Act->World->Prop}{W:World}(hgd:o.guard=none)(s x:Operand)
  (ho:o.op=.call {callee:=.builtin .append,args:= #[s,x],argTypes:= #[117,117]}) (B:Nat) (v:Value) (n:Nat) (xs:List Value) (y z u:Int) (hs:a.eval s=v) (hown:W.ownsRow B 5 1 v n xs)
  (g:Nat) (hg:g=W.heap.size) (hx:a.eval x=.slice (some ⟨g,0,none⟩) 3 3) (hn:n+3<=1000000) (hB:B<=W.heap.size)
  (h:∀v' w',w'.ownsRow B 5 1 v' (n+3) (xs++[.int .u8 y,.int .u8 z,.int .u8 u])->Below B W w'->wpList prog ops Q rest (a.put o.dst v') w'):
  wpList prog ops Q (o::rest) a (W.alloc (.cells #[.int .u8 y,.int .u8 z,.int .u8 u] 5)):=
 sZ hgd s x ho B v n xs hs hown [y,z,u] (hg▸hx) hn hB h
theorem lR {W:World}{B n:Nat}{v:Value}{ns:List Int}(hown:W.ownsRow B 5 1 v n (ns.map (Value.int .u8)))(hn:0<n):
  (convert 117 9 v).run prog W=.ok (.string ⟨(ns.map λm=>UInt8.ofNat m.toNat).toArray⟩) W:=by
 obtain⟨g,cap,rfl⟩:=Joins.ownsRow_form hown hn;have hl:ns.length=n:=by have:=hown.1;simpa using this
 rw[run_convert_bytes_string _ 117 9 5 (some ⟨g,0,none⟩) n cap underlying117 underlying5 underlying9];have h1:=run_loadCells_list (P:=prog) W ⟨g,0,none⟩ (ns.map (Value.int .u8)) (λj u hj=>by
  rw[Addr.add_lit,Nat.zero_add];have hj':j<n:=by have:=(List.getElem?_eq_some_iff.1 hj).1;simp at this;omega
  rw[hown.cellAt j (by omega),hj])
 rw[List.length_map,hl] at h1;rw[run_bytesToString _ _ _ cap _ h1];congr 2;have:∀(l:List Int) (r:ByteArray),l.foldl (λr n=>r.push (UInt8.ofNat n.toNat)) r=⟨r.data++(l.map λm=>UInt8.ofNat m.toNat).toArray⟩:=by
  intro l
  induction l with
  |nil=>intro r;simp
  |cons m l ih=>intro r;rw[List.foldl_cons,ih];simp[ByteArray.push]
 rw[this];have he0:ByteArray.empty.data= #[]:=rfl;rw[he0];simp
end
def be (n:Nat):Nat->List UInt8
 |0=>[]
 |k+1=>UInt8.ofNat (n/2^(8*k))::be n k
theorem aMu (n k:Nat):(be n k).length=k:=by
 induction k with
 |zero=>rfl
 |succ k ih=>simp[be,ih]
def gR (n:Nat):Nat:=
 if n<2^24 then 3 else if n<2^32 then 4 else if n<2^40 then 5 else if n<2^48 then 6 else if n<2^56 then 7 else 8
def tR (n:Nat):List UInt8:=
 if n<=240 then [UInt8.ofNat n]
 else if n<=2287 then [UInt8.ofNat (241+(n-240)/256),UInt8.ofNat (n-240)]
 else if n<=67823 then [249,UInt8.ofNat ((n-2288)/256),UInt8.ofNat (n-2288)]
 else UInt8.ofNat (247+gR n)::be n (gR n)
def eZ (n:Nat):ByteArray:=⟨(tR n).toArray⟩
theorem aB8 (n:Nat):3<=gR n/\gR n<=8:=by
 unfold gR
 repeat' split
 all_goals omega
theorem aGp (n:Nat):1<=(tR n).length/\(tR n).length<=9:=by
 have:=aB8 n;unfold tR;split
 .simp
 split
 .simp
 split
 .simp
 .simp only[List.length_cons,aMu];omega
theorem dZ (n:Nat):1<=(eZ n).size/\(eZ n).size<=9:=by
 have:=aGp n;show 1<=(tR n).toArray.size/\(tR n).toArray.size<=9
 simpa using this
theorem fO (n:Nat)(h0:67823<n)(h1:n<2^64):(Lib.bitLen n+7)/8=gR n:=by
 have lo:∀k,2^k<=n->k<Lib.bitLen n:=by
  intro k hk;rw[Lib.bitLen_shift k n hk h1];have hq:n/2^k≠0:=by
   have:1<=n/2^k:=(Nat.one_le_div_iff (Nat.two_pow_pos k)).2 hk;omega
  have hlt:n/2^k<2^64:=Nat.lt_of_le_of_lt (Nat.div_le_self _ _) h1;rw[Lib.bitLen_half _ hq hlt];omega
 have hi:∀k,k<=64->n<2^k->Lib.bitLen n<=k:=λk hk h=>Lib.bitLen_le n k hk h;unfold gR;split
 .rename_i h;have:=lo 16 (by omega);have:=hi 24 (by omega) h;omega
 split
 .rename_i g h;have:=lo 24 (by omega);have:=hi 32 (by omega) h;omega
 split
 .rename_i g h;have:=lo 32 (by omega);have:=hi 40 (by omega) h;omega
 split
 .rename_i g h;have:=lo 40 (by omega);have:=hi 48 (by omega) h;omega
 split
 .rename_i g h;have:=lo 48 (by omega);have:=hi 56 (by omega) h;omega
 .rename_i g;have:=lo 56 (by omega);have:=hi 64 (by omega) h1;omega
section
open Go.RowKit
theorem oV (n:Nat):UInt8.ofNat (n%256)=UInt8.ofNat n:=by
 apply UInt8.toNat_inj.1;simp
theorem jN {a b:ByteArray}(h:a=b):Ending.returned (.string a)=.returned (.string b):=by rw[h]
theorem aAr {l m:List UInt8}(h:l=m):(⟨l.toArray⟩:ByteArray)=⟨m.toArray⟩:=by rw[h]
theorem aMr (n:Nat)(h:n<=67823)(w:World):
  Calls prog 27 #[.int .u64 n] w λe w'=>e=.returned (.string (eZ n))/\Below w.heap.size w w':=by
 by_cases h1:n<=240
 .have HP:Hid (tR n=[UInt8.ofNat n]):=by show _=_;unfold tR;rw[if_pos h1]
  go_enter func27,ntmps27
  go_wp2
  go_ret;exact⟨jN (by unfold eZ;rw[HP.out]),aW.alloc aH _⟩
 .by_cases h2:n<=2287
  .have HP:Hid (tR n=[UInt8.ofNat (241+(n-240)/256),UInt8.ofNat ((n-240)%256)]):=by show _=_;unfold tR;rw[if_neg h1,if_pos h2,oV]
   go_enter func27,ntmps27
   go_wp2
   go_ret;exact⟨jN (by unfold eZ;rw[HP.out]),aW.alloc aH _⟩
  .have HP:Hid (tR n=[249,UInt8.ofNat ((n-2288)/256),UInt8.ofNat ((n-2288)%256)]):=by show _=_;unfold tR;rw[if_neg h1,if_neg h2,if_pos h,oV]
   go_enter func27,ntmps27
   go_wp2
   go_ret;exact⟨jN (by unfold eZ;rw[HP.out]),aW.alloc aH _⟩
set_option maxRecDepth 100000 in
theorem aH6 (n:Nat)(h0:67823<n)(_hlo:67824<=n)(hhi:n<16777216)(w:World):
  Calls prog 27 #[.int .u64 n] w λe w'=>e=.returned (.string (eZ n))/\Below w.heap.size w w':=by
 have hw:gR n=3:=by unfold gR;rw[if_pos (by omega)]
 have HP:Hid (tR n=[UInt8.ofNat 250,UInt8.ofNat (n/65536%256),UInt8.ofNat (n/256%256),UInt8.ofNat (n%256)]):=by
  show _=_;unfold tR;rw[if_neg (by omega),if_neg (by omega),if_neg (by omega),hw];simp only[oV,be];simp
 have hb:(Lib.bitLen n+7)/8=3:=by rw[fO n h0 (by omega),hw]
 have hb1:Lib.bitLen n<=64:=by omega
 have hb2:((Lib.bitLen n:Int)+7)/8=3:=by omega
 clear hw hb;go_enter func27,ntmps27;go_wp2_with fail;refine(fN n _ (by omega) (by omega)).mono ?_;rintro e w' ⟨rfl,rfl⟩;rw[Int.toNat_natCast];have o0:(w'.alloc (.cells #[.int .u8 250] 5)).ownsRow w'.heap.size 5 1 (.slice (some ⟨w'.heap.size,0,none⟩) 1 1) 1 [.int .u8 250]:=World.ownsRow_lit w' _ 1 aH (by unfold maxLen;omega) rfl;have g0:Below w'.heap.size w' (w'.alloc (.cells #[.int .u8 250] 5)):=aW.alloc aH _;go_wp2_with(first|(at_builtin;refine pA rfl (.tmp 86) (.tmp 95) rfl w'.heap.size (.slice (some ⟨w'.heap.size,0,none⟩) 1 1) 1 _ _ _ _ rfl o0 _ ((World.size_alloc _ _).symm) rfl (by decide) g0.size ?_;intro v9 w9 o9 q9;have g9:=g0.trans q9;have hc:=lR (ns:=[250,(n:Int)/65536,(n:Int)/256%256,(n:Int)%256]) o9 (by decide)));go_ret;refine⟨jN ?_,g9⟩;unfold eZ;refine aAr ?_;rw[HP.out];have t0:n/65536%256=n/65536:=Nat.mod_eq_of_lt (by omega);rw[t0];rfl
set_option maxRecDepth 100000 in
theorem aH9 (n:Nat)(h0:67823<n)(hlo:16777216<=n)(hhi:n<4294967296)(w:World):
  Calls prog 27 #[.int .u64 n] w λe w'=>e=.returned (.string (eZ n))/\Below w.heap.size w w':=by
 have hw:gR n=4:=by unfold gR;rw[if_neg (by omega),if_pos (by omega)]
 have HP:Hid (tR n=[UInt8.ofNat 251,UInt8.ofNat (n/16777216%256),UInt8.ofNat (n/65536%256),UInt8.ofNat (n/256%256),UInt8.ofNat (n%256)]):=by
  show _=_;unfold tR;rw[if_neg (by omega),if_neg (by omega),if_neg (by omega),hw];simp only[oV,be];simp
 have hb:(Lib.bitLen n+7)/8=4:=by rw[fO n h0 (by omega),hw]
 have hb1:Lib.bitLen n<=64:=by omega
 have hb2:((Lib.bitLen n:Int)+7)/8=4:=by omega
 clear hw hb;go_enter func27,ntmps27;go_wp2_with fail;refine(fN n _ (by omega) (by omega)).mono ?_;rintro e w' ⟨rfl,rfl⟩;rw[Int.toNat_natCast];have o0:(w'.alloc (.cells #[.int .u8 251] 5)).ownsRow w'.heap.size 5 1 (.slice (some ⟨w'.heap.size,0,none⟩) 1 1) 1 [.int .u8 251]:=World.ownsRow_lit w' _ 1 aH (by unfold maxLen;omega) rfl;have g0:Below w'.heap.size w' (w'.alloc (.cells #[.int .u8 251] 5)):=aW.alloc aH _;go_wp2_with(first|(at_builtin;refine eT rfl (.tmp 80) (.tmp 84) rfl w'.heap.size (.slice (some ⟨w'.heap.size,0,none⟩) 1 1) 1 _ _ rfl o0 _ ((World.size_alloc _ _).symm) rfl (by decide) g0.size ?_;intro v1 w1 o1 q1;have g1:=g0.trans q1)|(at_builtin;refine pA rfl (.tmp 86) (.tmp 95) rfl w'.heap.size v1 2 _ _ _ _ rfl o1 _ (rfl) rfl (by decide) g1.size ?_;intro v9 w9 o9 q9;have g9:=g1.trans q9;have hc:=lR (ns:=[251,(n:Int)/16777216,(n:Int)/65536%256,(n:Int)/256%256,(n:Int)%256]) o9 (by decide)));go_ret;refine⟨jN ?_,g9⟩;unfold eZ;refine aAr ?_;rw[HP.out];have t0:n/16777216%256=n/16777216:=Nat.mod_eq_of_lt (by omega);rw[t0];rfl
set_option maxRecDepth 100000 in
theorem aIg (n:Nat)(h0:67823<n)(hlo:4294967296<=n)(hhi:n<1099511627776)(w:World):
  Calls prog 27 #[.int .u64 n] w λe w'=>e=.returned (.string (eZ n))/\Below w.heap.size w w':=by
 have hw:gR n=5:=by unfold gR;rw[if_neg (by omega),if_neg (by omega),if_pos (by omega)]
 have HP:Hid (tR n=[UInt8.ofNat 252,UInt8.ofNat (n/4294967296%256),UInt8.ofNat (n/16777216%256),UInt8.ofNat (n/65536%256),UInt8.ofNat (n/256%256),UInt8.ofNat (n%256)]):=by
  show _=_;unfold tR;rw[if_neg (by omega),if_neg (by omega),if_neg (by omega),hw];simp only[oV,be];simp
 have hb:(Lib.bitLen n+7)/8=5:=by rw[fO n h0 (by omega),hw]
 have hb1:Lib.bitLen n<=64:=by omega
 have hb2:((Lib.bitLen n:Int)+7)/8=5:=by omega
 clear hw hb;go_enter func27,ntmps27;go_wp2_with fail;refine(fN n _ (by omega) (by omega)).mono ?_;rintro e w' ⟨rfl,rfl⟩;rw[Int.toNat_natCast];have o0:(w'.alloc (.cells #[.int .u8 252] 5)).ownsRow w'.heap.size 5 1 (.slice (some ⟨w'.heap.size,0,none⟩) 1 1) 1 [.int .u8 252]:=World.ownsRow_lit w' _ 1 aH (by unfold maxLen;omega) rfl;have g0:Below w'.heap.size w' (w'.alloc (.cells #[.int .u8 252] 5)):=aW.alloc aH _;go_wp2_with(first|(at_builtin;refine eT rfl (.tmp 74) (.tmp 78) rfl w'.heap.size (.slice (some ⟨w'.heap.size,0,none⟩) 1 1) 1 _ _ rfl o0 _ ((World.size_alloc _ _).symm) rfl (by decide) g0.size ?_;intro v1 w1 o1 q1;have g1:=g0.trans q1)|(at_builtin;refine eT rfl (.tmp 80) (.tmp 84) rfl w'.heap.size v1 2 _ _ rfl o1 _ (rfl) rfl (by decide) g1.size ?_;intro v2 w2 o2 q2;have g2:=g1.trans q2)|(at_builtin;refine pA rfl (.tmp 86) (.tmp 95) rfl w'.heap.size v2 3 _ _ _ _ rfl o2 _ (rfl) rfl (by decide) g2.size ?_;intro v9 w9 o9 q9;have g9:=g2.trans q9;have hc:=lR (ns:=[252,(n:Int)/4294967296,(n:Int)/16777216%256,(n:Int)/65536%256,(n:Int)/256%256,(n:Int)%256]) o9 (by decide)));go_ret;refine⟨jN ?_,g9⟩;unfold eZ;refine aAr ?_;rw[HP.out];have t0:n/4294967296%256=n/4294967296:=Nat.mod_eq_of_lt (by omega);rw[t0];rfl
set_option maxRecDepth 100000 in
theorem aG5 (n:Nat)(h0:67823<n)(hlo:1099511627776<=n)(hhi:n<281474976710656)(w:World):
  Calls prog 27 #[.int .u64 n] w λe w'=>e=.returned (.string (eZ n))/\Below w.heap.size w w':=by
 have hw:gR n=6:=by unfold gR;rw[if_neg (by omega),if_neg (by omega),if_neg (by omega),if_pos (by omega)]
 have HP:Hid (tR n=[UInt8.ofNat 253,UInt8.ofNat (n/1099511627776%256),UInt8.ofNat (n/4294967296%256),UInt8.ofNat (n/16777216%256),UInt8.ofNat (n/65536%256),UInt8.ofNat (n/256%256),UInt8.ofNat (n%256)]):=by
  show _=_;unfold tR;rw[if_neg (by omega),if_neg (by omega),if_neg (by omega),hw];simp only[oV,be];simp
 have hb:(Lib.bitLen n+7)/8=6:=by rw[fO n h0 (by omega),hw]
 have hb1:Lib.bitLen n<=64:=by omega
 have hb2:((Lib.bitLen n:Int)+7)/8=6:=by omega
 clear hw hb;go_enter func27,ntmps27;go_wp2_with fail;refine(fN n _ (by omega) (by omega)).mono ?_;rintro e w' ⟨rfl,rfl⟩;rw[Int.toNat_natCast];have o0:(w'.alloc (.cells #[.int .u8 253] 5)).ownsRow w'.heap.size 5 1 (.slice (some ⟨w'.heap.size,0,none⟩) 1 1) 1 [.int .u8 253]:=World.ownsRow_lit w' _ 1 aH (by unfold maxLen;omega) rfl;have g0:Below w'.heap.size w' (w'.alloc (.cells #[.int .u8 253] 5)):=aW.alloc aH _;go_wp2_with(first|(at_builtin;refine eT rfl (.tmp 68) (.tmp 72) rfl w'.heap.size (.slice (some ⟨w'.heap.size,0,none⟩) 1 1) 1 _ _ rfl o0 _ ((World.size_alloc _ _).symm) rfl (by decide) g0.size ?_;intro v1 w1 o1 q1;have g1:=g0.trans q1)|(at_builtin;refine eT rfl (.tmp 74) (.tmp 78) rfl w'.heap.size v1 2 _ _ rfl o1 _ (rfl) rfl (by decide) g1.size ?_;intro v2 w2 o2 q2;have g2:=g1.trans q2)|(at_builtin;refine eT rfl (.tmp 80) (.tmp 84) rfl w'.heap.size v2 3 _ _ rfl o2 _ (rfl) rfl (by decide) g2.size ?_;intro v3 w3 o3 q3;have g3:=g2.trans q3)|(at_builtin;refine pA rfl (.tmp 86) (.tmp 95) rfl w'.heap.size v3 4 _ _ _ _ rfl o3 _ (rfl) rfl (by decide) g3.size ?_;intro v9 w9 o9 q9;have g9:=g3.trans q9;have hc:=lR (ns:=[253,(n:Int)/1099511627776,(n:Int)/4294967296%256,(n:Int)/16777216%256,(n:Int)/65536%256,(n:Int)/256%256,(n:Int)%256]) o9 (by decide)));go_ret;refine⟨jN ?_,g9⟩;unfold eZ;refine aAr ?_;rw[HP.out];have t0:n/1099511627776%256=n/1099511627776:=Nat.mod_eq_of_lt (by omega);rw[t0];rfl
set_option maxRecDepth 100000 in
theorem aHm (n:Nat)(h0:67823<n)(hlo:281474976710656<=n)(hhi:n<72057594037927936)(w:World):
  Calls prog 27 #[.int .u64 n] w λe w'=>e=.returned (.string (eZ n))/\Below w.heap.size w w':=by
 have hw:gR n=7:=by unfold gR;rw[if_neg (by omega),if_neg (by omega),if_neg (by omega),if_neg (by omega),if_pos (by omega)]
 have HP:Hid (tR n=[UInt8.ofNat 254,UInt8.ofNat (n/281474976710656%256),UInt8.ofNat (n/1099511627776%256),UInt8.ofNat (n/4294967296%256),UInt8.ofNat (n/16777216%256),UInt8.ofNat (n/65536%256),UInt8.ofNat (n/256%256),UInt8.ofNat (n%256)]):=by
  show _=_;unfold tR;rw[if_neg (by omega),if_neg (by omega),if_neg (by omega),hw];simp only[oV,be];simp
 have hb:(Lib.bitLen n+7)/8=7:=by rw[fO n h0 (by omega),hw]
 have hb1:Lib.bitLen n<=64:=by omega
 have hb2:((Lib.bitLen n:Int)+7)/8=7:=by omega
 clear hw hb;go_enter func27,ntmps27;go_wp2_with fail;refine(fN n _ (by omega) (by omega)).mono ?_;rintro e w' ⟨rfl,rfl⟩;rw[Int.toNat_natCast];have o0:(w'.alloc (.cells #[.int .u8 254] 5)).ownsRow w'.heap.size 5 1 (.slice (some ⟨w'.heap.size,0,none⟩) 1 1) 1 [.int .u8 254]:=World.ownsRow_lit w' _ 1 aH (by unfold maxLen;omega) rfl;have g0:Below w'.heap.size w' (w'.alloc (.cells #[.int .u8 254] 5)):=aW.alloc aH _;go_wp2_with(first|(at_builtin;refine eT rfl (.tmp 62) (.tmp 66) rfl w'.heap.size (.slice (some ⟨w'.heap.size,0,none⟩) 1 1) 1 _ _ rfl o0 _ ((World.size_alloc _ _).symm) rfl (by decide) g0.size ?_;intro v1 w1 o1 q1;have g1:=g0.trans q1)|(at_builtin;refine eT rfl (.tmp 68) (.tmp 72) rfl w'.heap.size v1 2 _ _ rfl o1 _ (rfl) rfl (by decide) g1.size ?_;intro v2 w2 o2 q2;have g2:=g1.trans q2)|(at_builtin;refine eT rfl (.tmp 74) (.tmp 78) rfl w'.heap.size v2 3 _ _ rfl o2 _ (rfl) rfl (by decide) g2.size ?_;intro v3 w3 o3 q3;have g3:=g2.trans q3)|(at_builtin;refine eT rfl (.tmp 80) (.tmp 84) rfl w'.heap.size v3 4 _ _ rfl o3 _ (rfl) rfl (by decide) g3.size ?_;intro v4 w4 o4 q4;have g4:=g3.trans q4)|(at_builtin;refine pA rfl (.tmp 86) (.tmp 95) rfl w'.heap.size v4 5 _ _ _ _ rfl o4 _ (rfl) rfl (by decide) g4.size ?_;intro v9 w9 o9 q9;have g9:=g4.trans q9;have hc:=lR (ns:=[254,(n:Int)/281474976710656,(n:Int)/1099511627776%256,(n:Int)/4294967296%256,(n:Int)/16777216%256,(n:Int)/65536%256,(n:Int)/256%256,(n:Int)%256]) o9 (by decide)));go_ret;refine⟨jN ?_,g9⟩;unfold eZ;refine aAr ?_;rw[HP.out];have t0:n/281474976710656%256=n/281474976710656:=Nat.mod_eq_of_lt (by omega);rw[t0];rfl
set_option maxRecDepth 100000 in
theorem aH7 (n:Nat)(h0:67823<n)(hlo:72057594037927936<=n)(hhi:n<18446744073709551616)(w:World):
  Calls prog 27 #[.int .u64 n] w λe w'=>e=.returned (.string (eZ n))/\Below w.heap.size w w':=by
 have hw:gR n=8:=by unfold gR;rw[if_neg (by omega),if_neg (by omega),if_neg (by omega),if_neg (by omega),if_neg (by omega)]
 have HP:Hid (tR n=[UInt8.ofNat 255,UInt8.ofNat (n/72057594037927936%256),UInt8.ofNat (n/281474976710656%256),UInt8.ofNat (n/1099511627776%256),UInt8.ofNat (n/4294967296%256),UInt8.ofNat (n/16777216%256),UInt8.ofNat (n/65536%256),UInt8.ofNat (n/256%256),UInt8.ofNat (n%256)]):=by
  show _=_;unfold tR;rw[if_neg (by omega),if_neg (by omega),if_neg (by omega),hw];simp only[oV,be];simp
 have hb:(Lib.bitLen n+7)/8=8:=by rw[fO n h0 (by omega),hw]
 have hb1:Lib.bitLen n<=64:=by omega
 have hb2:((Lib.bitLen n:Int)+7)/8=8:=by omega
 clear hw hb;go_enter func27,ntmps27;go_wp2_with fail;refine(fN n _ (by omega) (by omega)).mono ?_;rintro e w' ⟨rfl,rfl⟩;rw[Int.toNat_natCast];have o0:(w'.alloc (.cells #[.int .u8 255] 5)).ownsRow w'.heap.size 5 1 (.slice (some ⟨w'.heap.size,0,none⟩) 1 1) 1 [.int .u8 255]:=World.ownsRow_lit w' _ 1 aH (by unfold maxLen;omega) rfl;have g0:Below w'.heap.size w' (w'.alloc (.cells #[.int .u8 255] 5)):=aW.alloc aH _;go_wp2_with(first|(at_builtin;refine eT rfl (.tmp 56) (.tmp 60) rfl w'.heap.size (.slice (some ⟨w'.heap.size,0,none⟩) 1 1) 1 _ _ rfl o0 _ ((World.size_alloc _ _).symm) rfl (by decide) g0.size ?_;intro v1 w1 o1 q1;have g1:=g0.trans q1)|(at_builtin;refine eT rfl (.tmp 62) (.tmp 66) rfl w'.heap.size v1 2 _ _ rfl o1 _ (rfl) rfl (by decide) g1.size ?_;intro v2 w2 o2 q2;have g2:=g1.trans q2)|(at_builtin;refine eT rfl (.tmp 68) (.tmp 72) rfl w'.heap.size v2 3 _ _ rfl o2 _ (rfl) rfl (by decide) g2.size ?_;intro v3 w3 o3 q3;have g3:=g2.trans q3)|(at_builtin;refine eT rfl (.tmp 74) (.tmp 78) rfl w'.heap.size v3 4 _ _ rfl o3 _ (rfl) rfl (by decide) g3.size ?_;intro v4 w4 o4 q4;have g4:=g3.trans q4)|(at_builtin;refine eT rfl (.tmp 80) (.tmp 84) rfl w'.heap.size v4 5 _ _ rfl o4 _ (rfl) rfl (by decide) g4.size ?_;intro v5 w5 o5 q5;have g5:=g4.trans q5)|(at_builtin;refine pA rfl (.tmp 86) (.tmp 95) rfl w'.heap.size v5 6 _ _ _ _ rfl o5 _ (rfl) rfl (by decide) g5.size ?_;intro v9 w9 o9 q9;have g9:=g5.trans q9;have hc:=lR (ns:=[255,(n:Int)/72057594037927936,(n:Int)/281474976710656%256,(n:Int)/1099511627776%256,(n:Int)/4294967296%256,(n:Int)/16777216%256,(n:Int)/65536%256,(n:Int)/256%256,(n:Int)%256]) o9 (by decide)));go_ret;refine⟨jN ?_,g9⟩;unfold eZ;refine aAr ?_;rw[HP.out];have t0:n/72057594037927936%256=n/72057594037927936:=Nat.mod_eq_of_lt (by omega);rw[t0];rfl
theorem aJz (n:Int)(h0:0<=n)(h1:n<18446744073709551616)(w:World):
  Calls prog 27 #[.int .u64 n] w λe w'=>e=.returned (.string (eZ n.toNat))/\Below w.heap.size w w':=by
 obtain⟨n,rfl⟩:=Int.eq_ofNat_of_zero_le h0;rw[Int.toNat_natCast]
 by_cases a:n<=67823
 .exact aMr n a w
 by_cases b:n<16777216
 .exact aH6 n (by omega) (by omega) b w
 by_cases c:n<4294967296
 .exact aH9 n (by omega) (by omega) c w
 by_cases d:n<1099511627776
 .exact aIg n (by omega) (by omega) d w
 by_cases e:n<281474976710656
 .exact aG5 n (by omega) (by omega) e w
 by_cases f:n<72057594037927936
 .exact aHm n (by omega) (by omega) f w
 exact aH7 n (by omega) (by omega) (by omega) w
end
end Go.Proofs.YtmgdbfmlnmahpaaGreatDoor
