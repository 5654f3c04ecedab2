/- law 25: HalfspaceDepths. Conditions: none. Arguments, opened: six of them; bounds of integers; []int with its numbers' bounds. Conditions: none. Facts of the whole program that each row asks for. Conditions: none. -/
import Derived.Test.YtoibhmjjhgaimaaGreatSaO
import Derived.Test.YtoibhmjjhgaimaaGreatRows
import Derived.WalkKit
import Derived.JoinedOf
namespace Go.Rep
open Go.RowKit Go.Lim
theorem b1K {m:List (List a4X)} {r c:Nat} (h:Go.Proofs.YtoibhmjjhgaimaaGreat.lightM m r c=true):m.length<=r/\∀x∈m,x.length<=c/\∀q∈x,Few 8 q:=by
 have h1:=of_decide_eq_true h;exact⟨h1.1,fun x hx=>of_decide_eq_true (h1.2 x hx)⟩
theorem b1L {l:List a4X} {c:Nat} (h:Go.Proofs.YtoibhmjjhgaimaaGreat.lightL l c=true):l.length<=c/\∀q∈l,Few 8 q:=of_decide_eq_true h
theorem Few.big3 {x:a4X} (h:Few 8 x):Few 68719476736 x:=⟨Nat.le_trans h.1 (by decide),Nat.le_trans h.2 (by decide)⟩
end Go.Rep
namespace Go.Proofs.YtoibhmjjhgaimaaGreat
open Go.RowKit Go.Rep Go.Lim Go.Lin
theorem b1M:SliceT Tryz.prog 70 25 1 24 (.slice none 0 0):=⟨Tryz.underlying70,by kernel_rfl⟩
theorem b1N (X:Nat->Bool) (w:World) (a1 a2:Option Addr) (n1 n2 c1 c2:Nat) (m1 m2:List (List Rat)) (e:TypeId) (hX:HX X w) (h1:MV (mk X w) (.slice a1 n1 c1) m1) (h2:MV (mk X w) (.slice a2 n2 c2) m2):
  Sl MV 1 (mk X (w.alloc (.cells #[.slice a1 n1 c1, .slice a2 n2 c2] e))) (some ⟨w.heap.size,0,none⟩) [m1,m2]:=
 (OL.lit (SlV.elem RV.elem) hX (Nat.le_refl _) [.slice a1 n1 c1, .slice a2 n2 c2] [m1,m2] _ (by simp[a0g,Value.cells]) rfl (fun i hi _=>by
  match i,hi with
  |0,_=>exact h1
  |1,_=>exact h2) (by simp)).sl (SlV.elem RV.elem)
theorem a9B (X:Nat->Bool) (w:World) (a1 a2:Option Addr) (n1 n2 c1 c2:Nat) (m1 m2:List Rat) (e:TypeId) (hX:HX X w) (h1:RV (mk X w) (.slice a1 n1 c1) m1) (h2:RV (mk X w) (.slice a2 n2 c2) m2):
  Sl RV 1 (mk X (w.alloc (.cells #[.slice a1 n1 c1, .slice a2 n2 c2] e))) (some ⟨w.heap.size,0,none⟩) [m1,m2]:=
 (OL.lit RV.elem hX (Nat.le_refl _) [.slice a1 n1 c1, .slice a2 n2 c2] [m1,m2] _ (by simp[a0g,Value.cells]) rfl (fun i hi _=>by
  match i,hi with
  |0,_=>exact h1
  |1,_=>exact h2) (by simp)).sl RV.elem
open Go.ChangeShapes Go.WideShapes Go.ChangeAt Go.Deep
theorem b9q {n:Int} (h:(Lit.int .i64 n).wf=true): -9223372036854775808<=n/\n<=9223372036854775807:=by
 unfold Lit.wf at h;simpa[IntKind.min,IntKind.max,IntKind.signed,IntKind.bits]using h
theorem c0H {n:Int} (h:(Lit.int .u8 n).wf=true):0<=n/\n<256:=by
 unfold Lit.wf at h;have:0<=n/\n<=255:=by simpa[IntKind.min,IntKind.max,IntKind.signed,IntKind.bits]using h
 omega
section
variable {H:Type} {enc:TypeId×Value->H} {P:Program} {w:World} {base:Nat} {spare:Nat->Bool} {held:Bool}
theorem a8E {fuel:Nat} {v:Value} {x:DataW H×List MemPlace} (h:DataW.trod enc Tryz.prog w base spare held fuel 22 [v]=some x):
  ∃(a:Option Addr) (l:List Int) (cap:Nat),v= .slice a l.length cap/\l.length<=cap/\l.length<=9223372036854775807/\Sl (a0x .i64) 1 (mk noY w) a l/\∀x∈l,-9223372036854775808<=x/\x<=9223372036854775807:=by
 rw[a2T];rcases open_ints Tryz.underlying22 Tryz.underlying3 (by kernel_rfl) h with⟨hcs,_⟩|⟨x,len,c,zs,hcs,_,hl,hm,hz,_,hcell,hwf⟩
 ·refine⟨none,[],0,by simpa using hcs,by simp,by simp,Sl.nil _ _ _ _,by simp⟩
 ·have hzl:len<=zs.length:=by
   rw[hz];split<;>omega
  have hlen:(zs.take len).length=len:=by simp;omega
  have hmax:c<=9223372036854775807:=by simpa[maxLen]using hm
  refine⟨some x,zs.take len,c,by rw[hlen];simpa using hcs,by omega,by omega,⟨fun h0=>?_,fun i hi=>?_⟩,fun y hy=>b9q (hwf y (List.mem_of_mem_take hy))⟩
  ·obtain⟨_,b,off,hx⟩:=a1d (hcell 0 (by omega))
   exact⟨b,off,by rw[hx]⟩
  ·have hi':i<zs.length:=by omega
   refine⟨.int .i64 (zs.take len)[i],rfl,fun j hj=>?_,rfl⟩;have hj0:j=0:=by simp[Value.cells]at hj;exact hj
   subst hj0;have h1:=hcell i hi';have h2:=(a1d (hcell 0 (by omega))).1 i;rw[h2]at h1;simp only[Nat.mul_one,Nat.add_zero,List.getElem_take];rw[h1];simp[List.getD_eq_getElem?_getD,hi',Value.cells]
end
end Go.Proofs.YtoibhmjjhgaimaaGreat
namespace Go.Proofs.YtoibhmjjhgaimaaGreat.seat
open Go.RowKit
theorem and_t {a b:Bool} (h1:a=true) (h2:b=true):(a&&b)=true:=by rw[h1,h2];rfl
theorem laid:laidOutB Tryz.pinned.checked.prog=true:=by kernel_rfl
theorem maps:mapsRowed Tryz.pinned.checked.prog=true:=by kernel_rfl
theorem stops:(Program.stops Tryz.pinned.checked.prog==[])=true:=by kernel_rfl
theorem knobs:(Program.stopKnobs Tryz.pinned.checked.prog==[])=true:=by kernel_rfl
theorem heard:Program.stopsHeard Tryz.pinned.checked.prog=true:=by kernel_rfl
theorem enter:Program.mayEnter Tryz.pinned.checked.prog=true:=by kernel_rfl
theorem lifts:(Rows.certifyMcdsRow.lifted==Program.liftsFinal Tryz.pinned.checked.prog)=true:=by kernel_rfl
theorem make:(Program.make Tryz.pinned.checked.prog==some Rows.certifyMcdsRow.make)=true:=by kernel_rfl
theorem plain:(Rows.certifyMcdsRow.plainKeys==Program.plainKeys Tryz.pinned.checked.prog)=true:=by kernel_rfl
end Go.Proofs.YtoibhmjjhgaimaaGreat.seat
