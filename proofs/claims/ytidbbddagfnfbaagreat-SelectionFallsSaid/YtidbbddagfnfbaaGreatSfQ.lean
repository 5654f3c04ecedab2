/- Arguments, opened: six of them; bounds of integers; []int with its numbers' bounds. Conditions: none. Facts of the whole program that each row asks for. Conditions: none. -/
import Derived.Test.YtidbbddagfnfbaaGreatSfP
import Derived.Test.YtidbbddagfnfbaaGreatRows
import Derived.WalkKit
import Derived.JoinedOf
namespace Go.Proofs.YtidbbddagfnfbaaGreat
open Go.ChangeShapes Go.WideShapes Go.ChangeAt Go.RowKit Go.Rep Go.Deep
theorem b8j {n:Int} (h:(Lit.int .i64 n).wf=true): -9223372036854775808<=n/\n<=9223372036854775807:=by
 unfold Lit.wf at h;simpa[IntKind.min,IntKind.max,IntKind.signed,IntKind.bits]using h
section
variable {H:Type} {enc:TypeId×Value->H} {P:Program} {w:World} {base:Nat} {spare:Nat->Bool} {held:Bool}
theorem b8k {fuel:Nat} {v:Value} {x:DataW H×List MemPlace} (h:DataW.trod enc Tryz.prog w base spare held fuel 22 [v]=some x):
  ∃(a:Option Addr) (l:List Int) (cap:Nat),v= .slice a l.length cap/\l.length<=cap/\l.length<=9223372036854775807/\Sl (a0w .i64) 1 (mk noY w) a l/\∀x∈l,-9223372036854775808<=x/\x<=9223372036854775807:=by
 rw[a2v];rcases open_ints Tryz.underlying22 Tryz.underlying3 (by kernel_rfl) h with⟨hcs,_⟩|⟨x,len,c,zs,hcs,_,hl,hm,hz,_,hcell,hwf⟩
 ·refine⟨none,[],0,by simpa using hcs,by simp,by simp,Sl.nil _ _ _ _,by simp⟩
 ·have hzl:len<=zs.length:=by
   rw[hz];split<;>omega
  have hlen:(zs.take len).length=len:=by simp;omega
  have hmax:c<=9223372036854775807:=by simpa[maxLen]using hm
  refine⟨some x,zs.take len,c,by rw[hlen];simpa using hcs,by omega,by omega,⟨fun h0=>?_,fun i hi=>?_⟩,fun y hy=>b8j (hwf y (List.mem_of_mem_take hy))⟩
  ·obtain⟨_,b,off,hx⟩:=a1z (hcell 0 (by omega))
   exact⟨b,off,by rw[hx]⟩
  ·have hi':i<zs.length:=by omega
   refine⟨.int .i64 (zs.take len)[i],rfl,fun j hj=>?_,rfl⟩;have hj0:j=0:=by simp[Value.cells]at hj;exact hj
   subst hj0;have h1:=hcell i hi';have h2:=(a1z (hcell 0 (by omega))).1 i;rw[h2]at h1;simp only[Nat.mul_one,Nat.add_zero,List.getElem_take];rw[h1];simp[List.getD_eq_getElem?_getD,hi',Value.cells]
end
end Go.Proofs.YtidbbddagfnfbaaGreat
namespace Go.Proofs.YtidbbddagfnfbaaGreat.seat
open Go.RowKit
theorem and_t {a b:Bool} (h1:a=true) (h2:b=true):(a&&b)=true:=by rw[h1,h2];rfl
theorem laid:laidOutB Tryz.pinned.checked.prog=true:=by kernel_rfl
theorem maps:mapsRowed Tryz.pinned.checked.prog=true:=by kernel_rfl
theorem stops:(Program.stops Tryz.pinned.checked.prog==[])=true:=by kernel_rfl
theorem knobs:(Program.stopKnobs Tryz.pinned.checked.prog==[])=true:=by kernel_rfl
theorem heard:Program.stopsHeard Tryz.pinned.checked.prog=true:=by kernel_rfl
theorem enter:Program.mayEnter Tryz.pinned.checked.prog=true:=by kernel_rfl
theorem lifts:(Rows.selectionBestRow.lifted==Program.liftsFinal Tryz.pinned.checked.prog)=true:=by kernel_rfl
theorem make:(Program.make Tryz.pinned.checked.prog==some Rows.selectionBestRow.make)=true:=by kernel_rfl
theorem plain:(Rows.selectionBestRow.plainKeys==Program.plainKeys Tryz.pinned.checked.prog)=true:=by kernel_rfl
end Go.Proofs.YtidbbddagfnfbaaGreat.seat
