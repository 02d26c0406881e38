/- TopAudits: for every seed, configs (the first ten), claims and requests (the first twenty-five) and tenant, what the tenant does, and that alone, is in its log, in order, as far as it was done. No condition (the listed package-level variables as the program's text lays them). -/
import Derived.Test.YtmgdbfmlnmahpaaGreatDoorTie
import Derived.Test.YtmgdbfmlnmahpaaGreatDoorG50
import Derived.Test.YtmgdbfmlnmahpaaGreatDoorG51
import Derived.Test.YtmgdbfmlnmahpaaGreatDoorG52
import Derived.SevenTiedAt
import Derived.ChangeVars
import Derived.ShutString
import Derived.ChangeOld
namespace Go.Proofs.YtmgdbfmlnmahpaaGreatDoor.topAudits
open Go.ChangeShapes Go.WideShapes Go.ChangeAt Go.RowKit Go.Joins
set_option linter.unusedVariables false
theorem own :ownKnob Tryz.prog.godebug=none:=by kernel_rfl
theorem laidOut :laidOutB Tryz.prog=true:=by kernel_rfl
theorem walk (ka kb:BitVec 64)(sL:Option Addr)(CL:List mH)(cL:Nat)(hC1:CL.length<=cL)(hC2:cL<=9223372036854775807)(hC3:sL=none->cL=0)(hC4:∀c∈CL,c.id<=aJ)(sA:Option Addr)(AL:List kB)(cA:Nat)(hA1:AL.length<=cA)(hA2:cA<=9223372036854775807)(id:Nat)(_:id<=aJ)(w:World)(hRC:Rd 3 yR w sL CL)(hRA:Rd 13 sJ w sA AL)(hQA:∀x∈AL,pN w x.r)(hG:aQ w):
  Calls Tryz.prog 4 #[kv ka kb,.slice sL CL.length cL,.slice sA AL.length cA,.int .u64 id] w λe w'=>e=.returned (.bool true)/\Below w.heap.size w w':=yV ka kb sL CL cL hC1 hC2 hC3 hC4 sA AL cA hA1 hA2 id w hG hRC hRA hQA
set_option maxRecDepth 100000 in
theorem lifted (os:Os)(started:os.Started)(H:Type)(enc:TypeId×Value->H):
  ReturnsInHanded {} Tryz.checked os 4 .any (λw args=>(Rows.topAuditsSpec.pre enc Tryz.prog Tryz.f4 Rows.topAuditsRow.domain false w args/\laidMetH Tryz.prog aDt w)/\sizedMet enc Tryz.prog Tryz.f4 (OpenSpec.ofChange Rows.topAuditsSpec) false w args) (Rows.topAuditsSpec.post enc Tryz.prog Tryz.f4 false true false false):=by
 refine returnsInHanded_of_change_and (C:=Tryz.checked) (X:=λw _=>laidMetH Tryz.prog aDt w) (λ_ _ _ hh h=>h.of_heap hh) own started (by kernel_rfl) Tryz.func4
  (ChangeSpec.witness_shaped (enc:=enc) (C:=Tryz.checked) (os:=os) (X:=λw _=>laidMetH Tryz.prog aDt w) false (lM os) #[.agg #[.int .u64 0,.int .u64 0],.slice none 0 0,.slice none 0 0,.int .u64 0] 8 (aBe os) (tU os _) (by kernel_rfl) (by kernel_rfl) (by kernel_rfl) (xL os _)) ?_
 intro W base args ds gs before hval0 hW hcnd _ hL _;have hval:∀(j:Nat) t v,Tryz.f4.params[j]? =some t->args[j]? =some v->Value.okWide Tryz.prog W .any base t v:=hval0;have hW':=hW;obtain⟨p,q,hA0,hV,rfl,hfz,hnd⟩:=hW;have hA:DataW.TrodAll enc Tryz.prog W 0 (λ_=>true) true Tryz.f4.params.toList args.toList ds p:=hA0;rw[Tryz.params4] at hA hval;obtain⟨v0,vs0,d0,ds0,p0,q0,hargs,rfl,rfl,h0,r0⟩:=trodAll_cons hA;obtain⟨v1,vs1,d1,ds1,p1,q1,rfl,rfl,rfl,h1,r1⟩:=trodAll_cons r0;obtain⟨v2,vs2,d2,ds2,p2,q2,rfl,rfl,rfl,h2,r2⟩:=trodAll_cons r1;obtain⟨v3,vs3,d3,ds3,p3,q3,rfl,rfl,rfl,h3,r3⟩:=trodAll_cons r2;obtain⟨rfl,rfl,rfl⟩:=trodAll_nil r3;obtain rfl:args= #[v0,v1,v2,v3]:=by cases args;simp_all
 obtain⟨rfl,rfl⟩:=trodVars_none hV;have k0:=h0;have lt0:∀x∈p0,x.block<W.heap.size:=by obtain⟨m,hm⟩:=k0;exact DataW.trod_lt m _ _ _ hm
 obtain⟨a0,b0,rfl⟩:=aQ5 (hval 0 24 v0 rfl rfl) h0;have k1:=h1;have lt1:∀x∈p1,x.block<W.heap.size:=by obtain⟨m,hm⟩:=k1;exact DataW.trod_lt m _ _ _ hm
 obtain⟨s1,L1,cap1,rfl,hE1,hN1,hl1,hc1,hn1⟩:=aNt (hval 1 31 v1 rfl rfl) h1;have k2:=h2;have lt2:∀x∈p2,x.block<W.heap.size:=by obtain⟨m,hm⟩:=k2;exact DataW.trod_lt m _ _ _ hm
 obtain⟨s2,L2,cap2,rfl,hE2,hN2,hl2,hc2,-⟩:=aM6 (hval 2 47 v2 rfl rfl) h2;have k3:=h3;have lt3:∀x∈p3,x.block<W.heap.size:=by obtain⟨m,hm⟩:=k3;exact DataW.trod_lt m _ _ _ hm
 obtain⟨x3,rfl,xb3⟩:=aRw (hval 3 22 v3 rfl rfl) h3;clear hA0 hval0;refine(walk a0 b0 s1 L1 cap1 hl1 hc1 hn1 hN1 s2 L2 cap2 hl2 hc2 x3 xb3 W hE1 hE2 hN2 (aOy hL)).mono λe W' ⟨he,bel⟩=> ?_;subst he;exact⟨_,rfl,_,_,_,[],_,[],hW',trodAll_mk1 (shut_bool Tryz.underlying4 _),(trodAll_cons_mk (Below.trod laidOut (by kernel_rfl) (of_decide_eq_true (by kernel_rfl)) k0 bel lt0) (trodAll_cons_mk (Below.trod laidOut (by kernel_rfl) (of_decide_eq_true (by kernel_rfl)) k1 bel lt1) (trodAll_cons_mk (Below.trod laidOut (by kernel_rfl) (of_decide_eq_true (by kernel_rfl)) k2 bel lt2) (trodAll_cons_mk (Below.trod laidOut (by kernel_rfl) (of_decide_eq_true (by kernel_rfl)) k3 bel lt3) trodAll_mk0)))),rfl,bel.frame _,λh=>by cases h⟩
theorem over :Rows.topAuditsRow.holds Tryz.pinned (OpenSpec.ofChange Rows.topAuditsSpec):=
 OpenClaim.holds_of_wide 4 Tryz.f4 rfl rfl rfl rfl rfl rfl rfl ⟨rfl,rfl,rfl,rfl,rfl⟩ rfl rfl rfl rfl rfl (by kernel_rfl) Tryz.func4 closed
  (of_decide_eq_true (by kernel_rfl)) (by unfold Func.isWrapper;first|(rw[if_pos (by decide+kernel)];kernel_rfl)|(rw[if_neg (by decide+kernel)];exact⟨rfl,rfl⟩))
  (λos started H enc _=>lifted os started H enc)
theorem proved :Rows.TopAuditsCardSaid:=
 Claim7.holds_tied_plain_at .later [] [.data,.handle,.pinned] true _ true over (λ_ h=>by cases h) (by kernel_rfl) (λ_ h=>by cases h) topAudits_row_tie rfl ⟨rfl,rfl⟩ (by kernel_rfl) rfl
  (λf fn hf hfn=>by
   obtain rfl:f=4:=oSi ((show Tryz.prog.funcNamed "aviary/aviarytop.TopAudits" =some 4 by kernel_rfl).symm.trans hf)|>.symm;obtain rfl:fn=Tryz.f4:=(oSi (Tryz.func4.symm.trans hfn)).symm;refine⟨by kernel_rfl,λj t ht=> ?_⟩;rw[Tryz.params4] at ht;rcases j with _|_|_|_|j
   .obtain rfl:t=24:=by simpa using ht.symm
    exact(show Tryz.prog.wantsStandIn 24=false by kernel_rfl)
   .obtain rfl:t=31:=by simpa using ht.symm
    exact(show Tryz.prog.wantsStandIn 31=false by kernel_rfl)
   .obtain rfl:t=47:=by simpa using ht.symm
    exact(show Tryz.prog.wantsStandIn 47=false by kernel_rfl)
   .obtain rfl:t=22:=by simpa using ht.symm
    exact(show Tryz.prog.wantsStandIn 22=false by kernel_rfl)
   .simp at ht)
  (by kernel_rfl)
#print axioms proved
end Go.Proofs.YtmgdbfmlnmahpaaGreatDoor.topAudits
