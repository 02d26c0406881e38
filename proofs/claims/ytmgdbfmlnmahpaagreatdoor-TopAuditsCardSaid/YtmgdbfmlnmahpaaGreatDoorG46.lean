/- Part of TopAudits. -/
import Derived.Test.YtmgdbfmlnmahpaaGreatDoorG17
import Derived.Test.YtmgdbfmlnmahpaaGreatDoorG27
namespace Go.Proofs.YtmgdbfmlnmahpaaGreatDoor
set_option linter.unusedSimpArgs false
set_option linter.unusedVariables false
set_option maxRecDepth 100000
set_option maxHeartbeats 4000000
open Go.Proofs.Tryz
open Go.RowKit Go.Shelf
theorem aTz (L:List Nat)(v:Nat)(hv:v∉L)(s:Option Addr)(cap:Nat)(hl:L.length<=1000000)(w:World)(hL:Rd 1 cM w s L):Calls prog 24 #[.slice s L.length cap,.int .u64 v] w λe w'=>e=.returned (.int .i64 (-1))/\w'=w:=by
 go_enter func24,ntmps24;go_wp2_with fail
 go_loopw [8] (λi wr=>∃k:Nat,k<=L.length/\i=.int .i64 k/\wr=w) (λi _=>L.length-(intOf i).toNat)
 case atStart=>exact⟨0,cJ _,rfl,rfl⟩
 case round=>
  obtain⟨k,hk,rfl,rfl⟩:=hrel
  by_cases hlt:k<L.length
  .obtain⟨x,hx⟩:∃x,L[k]? =some x:=⟨_,cZ hlt⟩;obtain⟨g,o,rfl,hg,hc⟩:=hL k x hx;have hc0:=hc 0 _ rfl;rw[Nat.mul_one,Nat.add_zero] at hc0;clear hc;have hvx:¬v=x:=λe=>hv (e▸bK hx);have hne':((v:Int)==(x:Int))=false:=by simp;omega
   clear hx hvx;go_wp2_with fail;go_roundw
   case rel=>exact⟨k+1,hlt,by go_num,trivial⟩
   case measure=>simp[intOf];omega
  .obtain rfl:k=L.length:=by omega
   go_wp2_with fail;go_ret;exact⟨rfl,rfl⟩
theorem aTm (L:List Nat)(v:Nat)(n:Nat)(hn:L[n]? =some v)(hv:∀j,j<n->L[j]? ≠some v)(s:Option Addr)(cap:Nat)(hl:L.length<=1000000)(w:World)(hL:Rd 1 cM w s L):Calls prog 24 #[.slice s L.length cap,.int .u64 v] w λe w'=>e=.returned (.int .i64 n)/\w'=w:=by
 go_enter func24,ntmps24;go_wp2_with fail
 go_loopw [8] (λi wr=>∃k:Nat,k<=L.length/\i=.int .i64 k/\wr=w/\k<=n) (λi _=>L.length-(intOf i).toNat)
 case atStart=>exact⟨0,cJ _,rfl,rfl,cJ _⟩
 case round=>
  obtain⟨k,hk,rfl,rfl,hkn⟩:=hrel
  by_cases hlt:k<L.length
  .obtain⟨x,hx⟩:∃x,L[k]? =some x:=⟨_,cZ hlt⟩;obtain⟨g,o,rfl,hg,hc⟩:=hL k x hx;have hc0:=hc 0 _ rfl;rw[Nat.mul_one,Nat.add_zero] at hc0;clear hc
   by_cases hkn':k=n
   .subst hkn';obtain rfl:v=x:=oSi (hn.symm.trans hx);clear hx hn hv;go_wp2_with fail;go_ret;exact⟨rfl,rfl⟩
   .have hvx:¬v=x:=λe=>hv k (by omega) (e▸hx);have hne':((v:Int)==(x:Int))=false:=by simp;omega
    clear hx hvx;go_wp2_with fail;go_roundw
    case rel=>exact⟨k+1,hlt,by go_num,trivial,by omega⟩
    case measure=>simp[intOf];omega
  .obtain rfl:k=L.length:=by omega
   have:=(gJ.1 hn).1;omega
def aHg (b:Nat):List Value:=[pv b 0]
theorem nV (b:Nat):(aHg b).length=1:=rfl
theorem aQc (b:Nat):∀v∈aHg b,v.oneCell'=true:=by intro v hv;simp[aHg] at hv;subst hv;rfl
theorem aVc :eM prog 55 60 1 8:=eM.mk (z:=.pointer none) underlying55 (by kernel_rfl) rfl (by decide)
theorem aJ1 (C:Nat)(L:List Nat)(v:Nat)(hv:v∉L)(hl:L.length<=1000000)(s:Option Addr)(cap:Nat)(w:World)(hL:Rd 1 cM w s L)(hc:w.cell? ⟨C,2,none⟩=some (.slice s L.length cap)):Calls prog 11 #[pv C 0,.int .u64 v] w λe w'=>e=.returned (.pointer none)/\w'=w:=by
 have HI:=aA (aTz L v hv s cap hl w hL);clear hL hv;go_enter func11,ntmps11;go_wp2_with fail;refine HI.out.mono ?_;rintro e w1 ⟨rfl,hw⟩;subst hw;go_wp2_with fail;go_ret;exact⟨rfl,rfl⟩
theorem aJt (C:Nat)(L:List Nat)(v n:Nat)(hn:L[n]? =some v)(hv:∀j,j<n->L[j]? ≠some v)(hl:L.length<=1000000)(s:Option Addr)(cap:Nat)(bs:List Nat)(t:Option Addr)(tc b:Nat)(hb:bs[n]? =some b)(w:World)(hL:Rd 1 cM w s L)(hP:Rd 1 aHg w t bs)(hc:w.cell? ⟨C,2,none⟩=some (.slice s L.length cap))(hd:w.cell? ⟨C,3,none⟩=some (.slice t bs.length tc)):Calls prog 11 #[pv C 0,.int .u64 v] w λe w'=>e=.returned (pv b 0)/\w'=w:=by
 have HI:=aA (aTm L v n hn hv s cap hl w hL);obtain⟨g,o,rfl,hg,hcc⟩:=hP n b hb;have hc0:=hcc 0 _ rfl;rw[Nat.mul_one,Nat.add_zero] at hc0;have hnb:n<bs.length:=(gJ.1 hb).1;clear hL hv hn hb hP hcc;go_enter func11,ntmps11;go_wp2_with fail;refine HI.out.mono ?_;rintro e w1 ⟨rfl,hw⟩;subst hw;go_wp2_with fail;go_ret;exact⟨rfl,rfl⟩
end Go.Proofs.YtmgdbfmlnmahpaaGreatDoor
