/- Part of TopAudits. -/
import Derived.Laws.Bits64
import Derived.Laws.BitsAllLaws
import Derived.Laws.Shifts
import Derived.Attr
import Derived.Test.YtmgdbfmlnmahpaaGreatDoorProg
import Derived.ProofKit
import Derived.OpenShut
import Derived.Lib.SmallJoins
namespace Go.Proofs.YtmgdbfmlnmahpaaGreatDoor
set_option linter.unusedSimpArgs false
set_option linter.unusedVariables false
set_option maxRecDepth 100000
set_option maxHeartbeats 4000000
open Go.Proofs.Tryz
def un (x:BitVec 64):Int:=(x.toNat:Int)
theorem zV (x:BitVec 64):0<=un x:=Int.natCast_nonneg _
theorem aR8 (x:BitVec 64):un x<18446744073709551616:=by unfold un;have:=x.isLt;omega
theorem aN0 {x y:BitVec 64}(h:un x=un y):x=y:=by
 unfold un at h;exact BitVec.eq_of_toNat_eq (by omega)
theorem aDo (n:Int)(h0:0<=n)(h1:n<18446744073709551616):un (BitVec.ofInt 64 n)=n:=by
 unfold un;rw[BitVec.toNat_ofInt];omega
theorem eV (x:BitVec 64):BitVec.ofInt 64 (un x)=x:=by
 apply aN0;exact aDo _ (zV x) (aR8 x)
theorem aVj (n:Int)(h0:0<=n)(h1:n<18446744073709551616):∃x:BitVec 64,n=un x:=⟨_,(aDo n h0 h1).symm⟩
theorem pH (n:Int):IntKind.u64.wrap n=un (BitVec.ofInt 64 n):=by
 rw[IntKind.wrap_u64];unfold un;rw[BitVec.toNat_ofInt];omega
theorem qI (x:BitVec 64):IntKind.u64.wrap (un x)=un x:=by rw[pH,eV]
theorem oF (x y:BitVec 64):IntKind.u64.wrap (un x+un y)=un (x+y):=by
 rw[pH,BitVec.ofInt_add,eV,eV]
theorem oG (x y:BitVec 64):IntKind.u64.wrap (un x-un y)=un (x-y):=by
 have hx:=x.isLt;have hy:=y.isLt;rw[IntKind.wrap_u64];unfold un;rw[BitVec.toNat_sub];omega
theorem fL (x y:BitVec 64):bits .xor .u64 (un x) (un y)=un (x^^^y):=by
 show IntKind.u64.wrap ((BitVec.ofInt 64 (un x)^^^BitVec.ofInt 64 (un y)).toNat:Int)=_;rw[pH,eV,eV];exact congrArg un (eV _)
theorem sB (x y:BitVec 64):bits .or .u64 (un x) (un y)=un (x|||y):=by
 show IntKind.u64.wrap ((BitVec.ofInt 64 (un x)|||BitVec.ofInt 64 (un y)).toNat:Int)=_;rw[pH,eV,eV];exact congrArg un (eV _)
theorem oH (x y:BitVec 64):bits .and .u64 (un x) (un y)=un (x&&&y):=by
 show IntKind.u64.wrap ((BitVec.ofInt 64 (un x)&&&BitVec.ofInt 64 (un y)).toNat:Int)=_;rw[pH,eV,eV];exact congrArg un (eV _)
theorem aUd (n:Nat)(h:n<18446744073709551616):((n:Nat):Int)=un (BitVec.ofNat 64 n):=by
 unfold un;rw[BitVec.toNat_ofNat];omega
theorem lN (x:BitVec 64)(k:Nat):IntKind.u64.wrap (un x*2^k)=un (x<<<k):=by
 rw[pH];refine congrArg un ?_;apply BitVec.eq_of_toNat_eq;have e:(un x*2^k:Int)=((x.toNat*2^k:Nat):Int):=by unfold un;simp
 rw[e,BitVec.ofInt_natCast,BitVec.toNat_ofNat];simp only[BitVec.toNat_shiftLeft,Nat.shiftLeft_eq]
theorem tC (x:BitVec 64)(k:Nat):un x/2^k=un (x>>>k):=by
 unfold un;simp only[BitVec.toNat_ushiftRight,Nat.shiftRight_eq_div_pow];simp
def aGi (x:BitVec 64)(k:Nat):BitVec 64:=x<<<k|||x>>>(64-k)
structure V4 where
 a:BitVec 64
 b:BitVec 64
 c:BitVec 64
 d:BitVec 64
def sR (v:V4):V4:=
 let a:=v.a+v.b
 let b:=aGi v.b 13^^^a
 let a:=aGi a 32
 let c:=v.c+v.d
 let d:=aGi v.d 16^^^c
 let a:=a+d
 let d:=aGi d 21^^^a
 let c:=c+b
 let b:=aGi b 17^^^c
 let c:=aGi c 32
 ⟨a,b,c,d⟩
theorem aE8 (x:BitVec 64):bits .xor .u64 0 (un x)=un x:=by
 have h:=fL 0#64 x;rw[BitVec.zero_xor] at h;exact h
theorem aSv (x:BitVec 64):bits .xor .u64 (un x) 8317987319222330741=un (x^^^0x736f6d6570736575#64):=fL x 0x736f6d6570736575#64
theorem aT3 (x:BitVec 64):bits .xor .u64 (un x) 7237128888997146477=un (x^^^0x646f72616e646f6d#64):=fL x 0x646f72616e646f6d#64
theorem aT0 (x:BitVec 64):bits .xor .u64 (un x) 7816392313619706465=un (x^^^0x6c7967656e657261#64):=fL x 0x6c7967656e657261#64
theorem aTu (x:BitVec 64):bits .xor .u64 (un x) 8387220255154660723=un (x^^^0x7465646279746573#64):=fL x 0x7465646279746573#64
theorem aNx (x:BitVec 64):bits .xor .u64 (un x) 255=un (x^^^255#64):=fL x 255#64
theorem aAd (k:Nat):IntKind.u64.wrap ((k:Int)*72057594037927936)=un ((BitVec.ofNat 64 k)<<<56):=by
 rw[<-lN,IntKind.wrap_u64,IntKind.wrap_u64];unfold un;rw[BitVec.toNat_ofNat];omega
theorem aU1 (x y:BitVec 64):(un x==un y)=(x==y):=by
 rw[Bool.eq_iff_iff];simp only[beq_iff_eq];exact⟨aN0,λh=>by rw[h]⟩
section
open Go.ChangeShapes Go.WideShapes Go.ChangeAt Go.RowKit Go.Joins
open Go.ChangeMaps (open_string shut_string)
section
variable {H:Type} {enc:TypeId×Value->H} {w:World} {base:Nat} {spare:Nat->Bool} {held:Bool} {r:Reach} {b0:Nat} {v:Value} {d:DataW H} {p:List MemPlace}
theorem aSc {n:Int}(h:(Lit.int .u64 n).wf=true):∃x:BitVec 64,n=un x:=by
 have:=bounds_u64 h;exact aVj n this.1 (by omega)
theorem aOn :prog.cellsOf 24=2:=by kernel_rfl
theorem aQ5 (hv:Value.okWide prog w r b0 24 v)(h:DataW.Trod enc prog w base spare held 24 v d p):∃a b:BitVec 64,v=.agg #[.int .u64 (un a),.int .u64 (un b)]:=by
 obtain⟨c0,c1,y0,y1,m,rfl,_,_,h0,h1⟩:=open_agg2 underlying24 (by kernel_rfl) aOn hv h;obtain⟨n0,e0,_,w0⟩:=DataW.trod_int underlying22 h0;obtain⟨n1,e1,_,w1⟩:=DataW.trod_int underlying22 h1;simp at e0 e1;obtain⟨a,rfl⟩:=aSc w0;obtain⟨b,rfl⟩:=aSc w1;exact⟨a,b,by rw[e0,e1]⟩
end
end
end Go.Proofs.YtmgdbfmlnmahpaaGreatDoor
