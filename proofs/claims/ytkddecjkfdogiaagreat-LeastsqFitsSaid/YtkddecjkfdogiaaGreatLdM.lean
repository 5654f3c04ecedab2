/- law 13: awake. Conditions: none. leastsq: Gather, Fit; reference 13: Fit: what is no model. Conditions: the model is not proper. leastsq: Residuals; reference 13: Residuals. Conditions: numbers of few digits. made: Matrix, with what the call itself made. Conditions: few rows and columns. made: Data's Table. Conditions: few rows and columns. made: the table's numbers; Vector; reference 03: Less. Conditions: few rows and columns. reference 06: Transpose, Apply, Mul. Conditions: few rows and columns, numbers of few digits. A drawn region: an operation whose guard is not met is passed. Conditions: none. law 13: LeastsqIsOrthogonal returns true. Conditions: none but Go's own. made: Sum. Conditions: numbers of few digits. law 13: LeastsqIsEquivariant returns true. Conditions: none but Go's own. Arguments, opened to lists: []int. Conditions: none. Arguments, opened to lists: rational numbers as they came, rows, matrices of them. Conditions: none. made: Light, LightList, LightMatrix; law 06: light, small. Conditions: none. -/
import Derived.Test.YtkddecjkfdogiaaGreatLdL
import Derived.BigRegion
import Derived.Deep.QuietTactic
import Derived.BigQuiet
import Derived.WalkKit
import Derived.ProofKit
import Derived.OpenShut
import Derived.ShutString
import Derived.ChangeOld
import Derived.Below
import Derived.Deep.Slices
import Derived.Deep.Fields
import Derived.ChangeSame
namespace Go.Rep
open Go.RowKit Go.Lim
theorem a2t {X:Nat->Bool} {w:World} {e:TypeId} (hX:HX X w) {u v t:Value} {x y z:List Rat} (hu:RC (mk X w) u x) (hv:RC (mk X w) v y) (ht:RC (mk X w) t z) {arr:Array Value} (harr:arr=(a0l u++a0l v++a0l t).toArray):MC (mk X (w.alloc (.cells arr e))) (.slice (some ⟨w.heap.size,0,none⟩) 3 3) [x,y,z]:=by
 have:=OL.lit (w:=w) (base:=w.heap.size) (e:=e) RC.elem hX (Nat.le_refl _) [u,v,t] [x,y,z] arr (by rw[harr];simp) rfl (fun i hi hi'=>by
  match i,hi with
  |0,_=>exact hu
  |1,_=>exact hv
  |2,_=>exact ht) (by simp)
 exact⟨_,_,rfl,Nat.le_refl _,this.sl RC.elem⟩
theorem b4V {X:Nat->Bool} {w:World} {e:TypeId} (hX:HX X w) {u v t:Value} {x y z:Rat} (hu:QC (mk X w) u x) (hv:QC (mk X w) v y) (ht:QC (mk X w) t z) {arr:Array Value} (harr:arr=(a0l u++a0l v++a0l t).toArray):RC (mk X (w.alloc (.cells arr e))) (.slice (some ⟨w.heap.size,0,none⟩) 3 3) [x,y,z]:=by
 have:=OL.lit (w:=w) (base:=w.heap.size) (e:=e) QC.elem hX (Nat.le_refl _) [u,v,t] [x,y,z] arr (by rw[harr];simp) rfl (fun i hi hi'=>by
  match i,hi with
  |0,_=>exact hu
  |1,_=>exact hv
  |2,_=>exact ht) (by simp)
 exact⟨_,_,rfl,Nat.le_refl _,this.sl QC.elem⟩
end Go.Rep
namespace Go.Proofs.YtkddecjkfdogiaaGreat
open Go.RowKit Go.Rep Go.Lim Go.Lin
set_option maxRecDepth 100000 in
set_option maxHeartbeats 3200000 in
theorem a3i (w:World):Calls Tryz.prog 44 #[] w (a7U w true):=by
 have hnoX:∀v:World,HX noY v:=fun v=>HX.none v;go_enter Tryz.func44,Tryz.ntmps44
 go_wp2_with fail
 refine(a3W noY w 1 (hnoX w) (by decide) (by decide)).mono ?_;rintro ee w1 ⟨hE1,u1,rfl,hu1⟩;obtain⟨s1,a1,n1,c1,d1,k1,e1,rfl⟩:=hu1.shape;have bx:=Bx.new w1 #[.bool false, .slice none 0 0, .slice none 0 0] 32;go_upto_region 2 with((with_reducible show wpList _ _ _ (⟨_, .store 32 _ _,_,_,_,_⟩::_) _ _);refine a0b a0u rfl rfl bx rfl rfl (a2B _ _ _ _ _ _ _) ?_;intro w2 r1 r2)
 have hE2:Ext w1 w2:=ExtX.box ((ExtX.refl w1).alloc _) r2 (Nat.le_refl _);obtain⟨b,hb⟩:∃b,w1.heap.size=b:=⟨_,rfl⟩;rw[hb]at r1 r2 |-;have hEd:Ext w2 w2.drew:=(ExtX.refl w2).drew;have h12:QC (mk noY w2) (.agg #[.bool s1, .slice a1 n1 c1, .slice d1 k1 e1]) ((1:Int):Rat):=mkx QC.mono hu1 hE2;have hS:Hid (∀w',Ext w2.drew w'->w'.cell? ⟨b,0,none⟩=some (.bool s1)/\w'.cell? ⟨b,1,none⟩=some (.slice a1 n1 c1)/\w'.cell? ⟨b,2,none⟩=some (.slice d1 k1 e1)):=hid fun w' h=>by
  have b1:=r1.ext0 (hEd.trans h);exact⟨b1.cell 0 rfl,b1.cell 1 rfl,b1.cell 2 rfl⟩
 have h1:=mkx QC.mono h12 hEd
 (try simp only[Act.put])
 go_cut [2]from 6 to 15 (fun bv wx=>∃xv,bv=xv/\MC (mk noY wx) xv [[((1:Int):Rat),0],[((1:Int):Rat),((1:Int):Rat)],[((1:Int):Rat),((2:Int):Rat)]]/\Ext w2 wx)
 case first=>
  refine a0N 10 (fun w'=>w'.cell? ⟨b,0,none⟩=some (.bool s1)/\w'.cell? ⟨b,1,none⟩=some (.slice a1 n1 c1)/\w'.cell? ⟨b,2,none⟩=some (.slice d1 k1 e1)) (by kernel_rfl) (by kernel_rfl) (hS.out _ (ExtX.refl _)) (fun hHeld hOnce=>?_);obtain⟨wd,hwd⟩:∃wd,w2.drew=wd:=⟨_,rfl⟩;rw[hwd]at hS h1 hEd |-
  (try rw[hwd]at hHeld)
  clear hwd;have E0:Ext wd wd:=ExtX.refl _;refine a0a hOnce (i:=0) (oi:=⟨_,_,_,_,_,_⟩) (v:=?_) rfl (by kernel_rfl) (fun _ _ _ h=>h) (by assumption) (by rfl) (fun w hSw=>?_) ?_
  rotate_left
  ·(try dsimp only at hSw)
   go_simp
   all_goals with_reducible rfl
  (try simp only[Act.put,List.setIfInBounds_toArray,List.set_cons_zero,List.set_cons_succ])
  refine a0a hOnce (i:=1) (oi:=⟨_,_,_,_,_,_⟩) (v:=?_) rfl (by kernel_rfl) (fun _ _ _ h=>h) (by assumption) (by rfl) (fun w hSw=>?_) ?_
  rotate_left
  ·(try dsimp only at hSw)
   go_simp
   all_goals with_reducible rfl
  (try simp only[Act.put,List.setIfInBounds_toArray,List.set_cons_zero,List.set_cons_succ])
  refine a0a hOnce (i:=3) (oi:=⟨_,_,_,_,_,_⟩) (v:=?_) rfl (by kernel_rfl) (fun _ _ _ h=>h) (by assumption) (by rfl) (fun w hSw=>?_) ?_
  rotate_left
  ·(try dsimp only at hSw)
   go_simp
   all_goals with_reducible rfl
  (try simp only[Act.put,List.setIfInBounds_toArray,List.set_cons_zero,List.set_cons_succ])
  refine a0a hOnce (i:=4) (oi:=⟨_,_,_,_,_,_⟩) (v:=?_) rfl (by kernel_rfl) (fun _ _ _ h=>h) (by assumption) (by rfl) (fun w hSw=>?_) ?_
  rotate_left
  ·(try dsimp only at hSw)
   go_simp
   all_goals with_reducible rfl
  (try simp only[Act.put,List.setIfInBounds_toArray,List.set_cons_zero,List.set_cons_succ])
  refine a0a hOnce (i:=6) (oi:=⟨_,_,_,_,_,_⟩) (v:=?_) rfl (by kernel_rfl) (fun _ _ _ h=>h) (by assumption) (by rfl) (fun w hSw=>?_) ?_
  rotate_left
  ·(try dsimp only at hSw)
   go_simp
   all_goals with_reducible rfl
  (try simp only[Act.put,List.setIfInBounds_toArray,List.set_cons_zero,List.set_cons_succ])
  refine a2L (i:=2) (j:=5) (l:=7) (oi:=⟨_,_,_,_,_,_⟩) (oj:=⟨_,_,_,_,_,_⟩) (ol:=⟨_,_,_,_,_,_⟩) (by kernel_rfl) rfl rfl rfl (fun K hK=>?_) (fun K hK=>?_) (fun K hK=>?_)
  ·skip
   go_simp
   skip
   refine hK.out _ _ (hS.out _ (E0.trans ((ExtX.refl _).alloc _))) (fun hHeld=>?_);clear hK K
   (try simp only[Act.put,List.setIfInBounds_toArray,List.set_cons_zero,List.set_cons_succ])
   have xe1:Ext wd (wd.alloc (.cells #[.bool s1, .slice a1 n1 c1, .slice d1 k1 e1, .bool false, .slice none 0 0, .slice none 0 0] 32)):=(ExtX.refl _).alloc _;have ra_1:=a0R (e:=32) (arr:=#[.bool s1, .slice a1 n1 c1, .slice d1 k1 e1, .bool false, .slice none 0 0, .slice none 0 0]) (hnoX wd) (mkx QC.mono h1 E0) (QC.zero _) rfl;obtain⟨v1,hv1⟩:∃v1,wd.alloc (.cells #[.bool s1, .slice a1 n1 c1, .slice d1 k1 e1, .bool false, .slice none 0 0, .slice none 0 0] 32)=v1:=⟨_,rfl⟩;obtain⟨g1,hg1⟩:∃g:Option Addr,some ⟨wd.heap.size,0,none⟩=g:=⟨_,rfl⟩;rw[hv1]at xe1;rw[hv1,hg1]at ra_1 |-;have E1:=E0.trans xe1;refine a0U (i:=5) (j:=7) (oi:=⟨_,_,_,_,_,_⟩) (oj:=⟨_,_,_,_,_,_⟩) (by kernel_rfl) rfl rfl (fun K hK=>?_) (fun K hK=>?_)
   ·skip
    go_simp
    skip
    refine hK.out _ _ (hS.out _ (E1.trans ((ExtX.refl _).alloc _))) (fun hHeld=>?_);clear hK K
    (try simp only[Act.put,List.setIfInBounds_toArray,List.set_cons_zero,List.set_cons_succ])
    have xe2:Ext v1 (v1.alloc (.cells #[.bool s1, .slice a1 n1 c1, .slice d1 k1 e1, .bool s1, .slice a1 n1 c1, .slice d1 k1 e1] 32)):=(ExtX.refl _).alloc _;have rb_2:=a0R (e:=32) (arr:=#[.bool s1, .slice a1 n1 c1, .slice d1 k1 e1, .bool s1, .slice a1 n1 c1, .slice d1 k1 e1]) (hnoX v1) (mkx QC.mono h1 E1) (mkx QC.mono h1 E1) rfl;obtain⟨v2,hv2⟩:∃v2,v1.alloc (.cells #[.bool s1, .slice a1 n1 c1, .slice d1 k1 e1, .bool s1, .slice a1 n1 c1, .slice d1 k1 e1] 32)=v2:=⟨_,rfl⟩;obtain⟨g2,hg2⟩:∃g:Option Addr,some ⟨v1.heap.size,0,none⟩=g:=⟨_,rfl⟩;rw[hv2]at xe2;rw[hv2,hg2]at rb_2 |-;have E2:=E1.trans xe2;have ra_2:=mkx RC.mono ra_1 xe2;refine a0e (i:=7) (o:=⟨_,_,_,_,_,_⟩) (by kernel_rfl) rfl (fun K hK=>?_);go_simp
    (go_at_call 48;(with_reducible refine(a3W noY v2 2 (hnoX v2) (by decide) (by decide)).mono ?_);rintro ee v3 ⟨xe3,u2,rfl,q2_3⟩)
    refine hK.out _ _ (hS.out _ (E2.trans xe3)) (fun hHeld=>?_);clear hK K
    (try simp only[Act.put,List.setIfInBounds_toArray,List.set_cons_zero,List.set_cons_succ])
    obtain⟨s2,a2,n2,c2,d2,k2,e2,rfl⟩:=q2_3.shape;have E3:=E2.trans xe3;have ra_3:=mkx RC.mono ra_2 xe3;have rb_3:=mkx RC.mono rb_2 xe3;refine a0e (i:=8) (o:=⟨_,_,_,_,_,_⟩) (by kernel_rfl) rfl (fun K hK=>?_);go_simp
    skip
    refine hK.out _ _ (hS.out _ (E3.trans ((ExtX.refl _).alloc _))) (fun hHeld=>?_);clear hK K
    (try simp only[Act.put,List.setIfInBounds_toArray,List.set_cons_zero,List.set_cons_succ])
    have xe4:Ext v3 (v3.alloc (.cells #[.bool s1, .slice a1 n1 c1, .slice d1 k1 e1, .bool s2, .slice a2 n2 c2, .slice d2 k2 e2] 32)):=(ExtX.refl _).alloc _;have rc_4:=a0R (e:=32) (arr:=#[.bool s1, .slice a1 n1 c1, .slice d1 k1 e1, .bool s2, .slice a2 n2 c2, .slice d2 k2 e2]) (hnoX v3) (mkx QC.mono h1 E3) q2_3 rfl;obtain⟨v4,hv4⟩:∃v4,v3.alloc (.cells #[.bool s1, .slice a1 n1 c1, .slice d1 k1 e1, .bool s2, .slice a2 n2 c2, .slice d2 k2 e2] 32)=v4:=⟨_,rfl⟩;obtain⟨g4,hg4⟩:∃g:Option Addr,some ⟨v3.heap.size,0,none⟩=g:=⟨_,rfl⟩;rw[hv4]at xe4;rw[hv4,hg4]at rc_4 |-;have E4:=E3.trans xe4;have ra_4:=mkx RC.mono ra_3 xe4;have rb_4:=mkx RC.mono rb_3 xe4;have q2_4:=mkx QC.mono q2_3 xe4;refine a0e (i:=9) (o:=⟨_,_,_,_,_,_⟩) (by kernel_rfl) rfl (fun K hK=>?_);go_simp
    skip
    refine hK.out _ _ (hS.out _ (E4.trans ((ExtX.refl _).alloc _))) (fun hHeld=>?_);clear hK K
    (try simp only[Act.put,List.setIfInBounds_toArray,List.set_cons_zero,List.set_cons_succ])
    have xe5:Ext v4 (v4.alloc (.cells #[.slice g1 2 2, .slice g2 2 2, .slice g4 2 2] 45)):=(ExtX.refl _).alloc _;have mm_5:=a2t (e:=45) (arr:=#[.slice g1 2 2, .slice g2 2 2, .slice g4 2 2]) (hnoX v4) ra_4 rb_4 rc_4 rfl;obtain⟨v5,hv5⟩:∃v5,v4.alloc (.cells #[.slice g1 2 2, .slice g2 2 2, .slice g4 2 2] 45)=v5:=⟨_,rfl⟩;obtain⟨g5,hg5⟩:∃g:Option Addr,some ⟨v4.heap.size,0,none⟩=g:=⟨_,rfl⟩;rw[hv5]at xe5;rw[hv5,hg5]at mm_5 |-;have E5:=E4.trans xe5;have ra_5:=mkx RC.mono ra_4 xe5;have rb_5:=mkx RC.mono rb_4 xe5;have q2_5:=mkx QC.mono q2_4 xe5;have rc_5:=mkx RC.mono rc_4 xe5;refine a0o (i:=10) (o:=⟨_,_,_,_,_,_⟩) (by kernel_rfl) rfl (by decide) (by kernel_rfl) (fun K hK=>?_);go_simp
    refine hK.out _ _ ?_;clear hK K;go_wp2_with fail
    go_meet
    case rel=>exact⟨_,rfl,mm_5,hEd.trans E5⟩
   ·skip
    go_simp
    (go_at_call 48;(with_reducible refine(a3W noY v1 2 (hnoX v1) (by decide) (by decide)).mono ?_);rintro ee v6 ⟨xe6,u2,rfl,q2_6⟩)
    refine hK.out _ _ (hS.out _ (E1.trans xe6)) (fun hHeld=>?_);clear hK K
    (try simp only[Act.put,List.setIfInBounds_toArray,List.set_cons_zero,List.set_cons_succ])
    obtain⟨s2,a2,n2,c2,d2,k2,e2,rfl⟩:=q2_6.shape;have E6:=E1.trans xe6;have ra_6:=mkx RC.mono ra_1 xe6;refine a0U (i:=5) (j:=8) (oi:=⟨_,_,_,_,_,_⟩) (oj:=⟨_,_,_,_,_,_⟩) (by kernel_rfl) rfl rfl (fun K hK=>?_) (fun K hK=>?_)
    ·skip
     go_simp
     skip
     refine hK.out _ _ (hS.out _ (E6.trans ((ExtX.refl _).alloc _))) (fun hHeld=>?_);clear hK K
     (try simp only[Act.put,List.setIfInBounds_toArray,List.set_cons_zero,List.set_cons_succ])
     have xe7:Ext v6 (v6.alloc (.cells #[.bool s1, .slice a1 n1 c1, .slice d1 k1 e1, .bool s1, .slice a1 n1 c1, .slice d1 k1 e1] 32)):=(ExtX.refl _).alloc _;have rb_7:=a0R (e:=32) (arr:=#[.bool s1, .slice a1 n1 c1, .slice d1 k1 e1, .bool s1, .slice a1 n1 c1, .slice d1 k1 e1]) (hnoX v6) (mkx QC.mono h1 E6) (mkx QC.mono h1 E6) rfl;obtain⟨v7,hv7⟩:∃v7,v6.alloc (.cells #[.bool s1, .slice a1 n1 c1, .slice d1 k1 e1, .bool s1, .slice a1 n1 c1, .slice d1 k1 e1] 32)=v7:=⟨_,rfl⟩;obtain⟨g7,hg7⟩:∃g:Option Addr,some ⟨v6.heap.size,0,none⟩=g:=⟨_,rfl⟩;rw[hv7]at xe7;rw[hv7,hg7]at rb_7 |-;have E7:=E6.trans xe7;have ra_7:=mkx RC.mono ra_6 xe7;have q2_7:=mkx QC.mono q2_6 xe7;refine a0e (i:=8) (o:=⟨_,_,_,_,_,_⟩) (by kernel_rfl) rfl (fun K hK=>?_);go_simp
     skip
     refine hK.out _ _ (hS.out _ (E7.trans ((ExtX.refl _).alloc _))) (fun hHeld=>?_);clear hK K
     (try simp only[Act.put,List.setIfInBounds_toArray,List.set_cons_zero,List.set_cons_succ])
     have xe8:Ext v7 (v7.alloc (.cells #[.bool s1, .slice a1 n1 c1, .slice d1 k1 e1, .bool s2, .slice a2 n2 c2, .slice d2 k2 e2] 32)):=(ExtX.refl _).alloc _;have rc_8:=a0R (e:=32) (arr:=#[.bool s1, .slice a1 n1 c1, .slice d1 k1 e1, .bool s2, .slice a2 n2 c2, .slice d2 k2 e2]) (hnoX v7) (mkx QC.mono h1 E7) q2_7 rfl;obtain⟨v8,hv8⟩:∃v8,v7.alloc (.cells #[.bool s1, .slice a1 n1 c1, .slice d1 k1 e1, .bool s2, .slice a2 n2 c2, .slice d2 k2 e2] 32)=v8:=⟨_,rfl⟩;obtain⟨g8,hg8⟩:∃g:Option Addr,some ⟨v7.heap.size,0,none⟩=g:=⟨_,rfl⟩;rw[hv8]at xe8;rw[hv8,hg8]at rc_8 |-;have E8:=E7.trans xe8;have ra_8:=mkx RC.mono ra_7 xe8;have q2_8:=mkx QC.mono q2_7 xe8;have rb_8:=mkx RC.mono rb_7 xe8;refine a0e (i:=9) (o:=⟨_,_,_,_,_,_⟩) (by kernel_rfl) rfl (fun K hK=>?_);go_simp
     skip
     refine hK.out _ _ (hS.out _ (E8.trans ((ExtX.refl _).alloc _))) (fun hHeld=>?_);clear hK K
     (try simp only[Act.put,List.setIfInBounds_toArray,List.set_cons_zero,List.set_cons_succ])
     have xe9:Ext v8 (v8.alloc (.cells #[.slice g1 2 2, .slice g7 2 2, .slice g8 2 2] 45)):=(ExtX.refl _).alloc _;have mm_9:=a2t (e:=45) (arr:=#[.slice g1 2 2, .slice g7 2 2, .slice g8 2 2]) (hnoX v8) ra_8 rb_8 rc_8 rfl;obtain⟨v9,hv9⟩:∃v9,v8.alloc (.cells #[.slice g1 2 2, .slice g7 2 2, .slice g8 2 2] 45)=v9:=⟨_,rfl⟩;obtain⟨g9,hg9⟩:∃g:Option Addr,some ⟨v8.heap.size,0,none⟩=g:=⟨_,rfl⟩;rw[hv9]at xe9;rw[hv9,hg9]at mm_9 |-;have E9:=E8.trans xe9;have ra_9:=mkx RC.mono ra_8 xe9;have q2_9:=mkx QC.mono q2_8 xe9;have rb_9:=mkx RC.mono rb_8 xe9;have rc_9:=mkx RC.mono rc_8 xe9;refine a0o (i:=10) (o:=⟨_,_,_,_,_,_⟩) (by kernel_rfl) rfl (by decide) (by kernel_rfl) (fun K hK=>?_);go_simp
     refine hK.out _ _ ?_;clear hK K;go_wp2_with fail
     go_meet
     case rel=>exact⟨_,rfl,mm_9,hEd.trans E9⟩
    ·skip
     go_simp
     skip
     refine hK.out _ _ (hS.out _ (E6.trans ((ExtX.refl _).alloc _))) (fun hHeld=>?_);clear hK K
     (try simp only[Act.put,List.setIfInBounds_toArray,List.set_cons_zero,List.set_cons_succ])
     have xe10:Ext v6 (v6.alloc (.cells #[.bool s1, .slice a1 n1 c1, .slice d1 k1 e1, .bool s2, .slice a2 n2 c2, .slice d2 k2 e2] 32)):=(ExtX.refl _).alloc _;have rc_10:=a0R (e:=32) (arr:=#[.bool s1, .slice a1 n1 c1, .slice d1 k1 e1, .bool s2, .slice a2 n2 c2, .slice d2 k2 e2]) (hnoX v6) (mkx QC.mono h1 E6) q2_6 rfl;obtain⟨v10,hv10⟩:∃v10,v6.alloc (.cells #[.bool s1, .slice a1 n1 c1, .slice d1 k1 e1, .bool s2, .slice a2 n2 c2, .slice d2 k2 e2] 32)=v10:=⟨_,rfl⟩;obtain⟨g10,hg10⟩:∃g:Option Addr,some ⟨v6.heap.size,0,none⟩=g:=⟨_,rfl⟩;rw[hv10]at xe10;rw[hv10,hg10]at rc_10 |-;have E10:=E6.trans xe10;have ra_10:=mkx RC.mono ra_6 xe10;have q2_10:=mkx QC.mono q2_6 xe10;refine a0e (i:=5) (o:=⟨_,_,_,_,_,_⟩) (by kernel_rfl) rfl (fun K hK=>?_);go_simp
     skip
     refine hK.out _ _ (hS.out _ (E10.trans ((ExtX.refl _).alloc _))) (fun hHeld=>?_);clear hK K
     (try simp only[Act.put,List.setIfInBounds_toArray,List.set_cons_zero,List.set_cons_succ])
     have xe11:Ext v10 (v10.alloc (.cells #[.bool s1, .slice a1 n1 c1, .slice d1 k1 e1, .bool s1, .slice a1 n1 c1, .slice d1 k1 e1] 32)):=(ExtX.refl _).alloc _;have rb_11:=a0R (e:=32) (arr:=#[.bool s1, .slice a1 n1 c1, .slice d1 k1 e1, .bool s1, .slice a1 n1 c1, .slice d1 k1 e1]) (hnoX v10) (mkx QC.mono h1 E10) (mkx QC.mono h1 E10) rfl;obtain⟨v11,hv11⟩:∃v11,v10.alloc (.cells #[.bool s1, .slice a1 n1 c1, .slice d1 k1 e1, .bool s1, .slice a1 n1 c1, .slice d1 k1 e1] 32)=v11:=⟨_,rfl⟩;obtain⟨g11,hg11⟩:∃g:Option Addr,some ⟨v10.heap.size,0,none⟩=g:=⟨_,rfl⟩;rw[hv11]at xe11;rw[hv11,hg11]at rb_11 |-;have E11:=E10.trans xe11;have ra_11:=mkx RC.mono ra_10 xe11;have q2_11:=mkx QC.mono q2_10 xe11;have rc_11:=mkx RC.mono rc_10 xe11;refine a0e (i:=9) (o:=⟨_,_,_,_,_,_⟩) (by kernel_rfl) rfl (fun K hK=>?_);go_simp
     skip
     refine hK.out _ _ (hS.out _ (E11.trans ((ExtX.refl _).alloc _))) (fun hHeld=>?_);clear hK K
     (try simp only[Act.put,List.setIfInBounds_toArray,List.set_cons_zero,List.set_cons_succ])
     have xe12:Ext v11 (v11.alloc (.cells #[.slice g1 2 2, .slice g11 2 2, .slice g10 2 2] 45)):=(ExtX.refl _).alloc _;have mm_12:=a2t (e:=45) (arr:=#[.slice g1 2 2, .slice g11 2 2, .slice g10 2 2]) (hnoX v11) ra_11 rb_11 rc_11 rfl;obtain⟨v12,hv12⟩:∃v12,v11.alloc (.cells #[.slice g1 2 2, .slice g11 2 2, .slice g10 2 2] 45)=v12:=⟨_,rfl⟩;obtain⟨g12,hg12⟩:∃g:Option Addr,some ⟨v11.heap.size,0,none⟩=g:=⟨_,rfl⟩;rw[hv12]at xe12;rw[hv12,hg12]at mm_12 |-;have E12:=E11.trans xe12;have ra_12:=mkx RC.mono ra_11 xe12;have q2_12:=mkx QC.mono q2_11 xe12;have rc_12:=mkx RC.mono rc_11 xe12;have rb_12:=mkx RC.mono rb_11 xe12;refine a0o (i:=10) (o:=⟨_,_,_,_,_,_⟩) (by kernel_rfl) rfl (by decide) (by kernel_rfl) (fun K hK=>?_);go_simp
     refine hK.out _ _ ?_;clear hK K;go_wp2_with fail
     go_meet
     case rel=>exact⟨_,rfl,mm_12,hEd.trans E12⟩
  ·skip
   go_simp
   skip
   refine hK.out _ _ (hS.out _ (E0.trans ((ExtX.refl _).alloc _))) (fun hHeld=>?_);clear hK K
   (try simp only[Act.put,List.setIfInBounds_toArray,List.set_cons_zero,List.set_cons_succ])
   have xe13:Ext wd (wd.alloc (.cells #[.bool s1, .slice a1 n1 c1, .slice d1 k1 e1, .bool s1, .slice a1 n1 c1, .slice d1 k1 e1] 32)):=(ExtX.refl _).alloc _;have rb_13:=a0R (e:=32) (arr:=#[.bool s1, .slice a1 n1 c1, .slice d1 k1 e1, .bool s1, .slice a1 n1 c1, .slice d1 k1 e1]) (hnoX wd) (mkx QC.mono h1 E0) (mkx QC.mono h1 E0) rfl;obtain⟨v13,hv13⟩:∃v13,wd.alloc (.cells #[.bool s1, .slice a1 n1 c1, .slice d1 k1 e1, .bool s1, .slice a1 n1 c1, .slice d1 k1 e1] 32)=v13:=⟨_,rfl⟩;obtain⟨g13,hg13⟩:∃g:Option Addr,some ⟨wd.heap.size,0,none⟩=g:=⟨_,rfl⟩;rw[hv13]at xe13;rw[hv13,hg13]at rb_13 |-;have E13:=E0.trans xe13;refine a0U (i:=2) (j:=7) (oi:=⟨_,_,_,_,_,_⟩) (oj:=⟨_,_,_,_,_,_⟩) (by kernel_rfl) rfl rfl (fun K hK=>?_) (fun K hK=>?_)
   ·skip
    go_simp
    skip
    refine hK.out _ _ (hS.out _ (E13.trans ((ExtX.refl _).alloc _))) (fun hHeld=>?_);clear hK K
    (try simp only[Act.put,List.setIfInBounds_toArray,List.set_cons_zero,List.set_cons_succ])
    have xe14:Ext v13 (v13.alloc (.cells #[.bool s1, .slice a1 n1 c1, .slice d1 k1 e1, .bool false, .slice none 0 0, .slice none 0 0] 32)):=(ExtX.refl _).alloc _;have ra_14:=a0R (e:=32) (arr:=#[.bool s1, .slice a1 n1 c1, .slice d1 k1 e1, .bool false, .slice none 0 0, .slice none 0 0]) (hnoX v13) (mkx QC.mono h1 E13) (QC.zero _) rfl;obtain⟨v14,hv14⟩:∃v14,v13.alloc (.cells #[.bool s1, .slice a1 n1 c1, .slice d1 k1 e1, .bool false, .slice none 0 0, .slice none 0 0] 32)=v14:=⟨_,rfl⟩;obtain⟨g14,hg14⟩:∃g:Option Addr,some ⟨v13.heap.size,0,none⟩=g:=⟨_,rfl⟩;rw[hv14]at xe14;rw[hv14,hg14]at ra_14 |-;have E14:=E13.trans xe14;have rb_14:=mkx RC.mono rb_13 xe14;refine a0e (i:=7) (o:=⟨_,_,_,_,_,_⟩) (by kernel_rfl) rfl (fun K hK=>?_);go_simp
    (go_at_call 48;(with_reducible refine(a3W noY v14 2 (hnoX v14) (by decide) (by decide)).mono ?_);rintro ee v15 ⟨xe15,u2,rfl,q2_15⟩)
    refine hK.out _ _ (hS.out _ (E14.trans xe15)) (fun hHeld=>?_);clear hK K
    (try simp only[Act.put,List.setIfInBounds_toArray,List.set_cons_zero,List.set_cons_succ])
    obtain⟨s2,a2,n2,c2,d2,k2,e2,rfl⟩:=q2_15.shape;have E15:=E14.trans xe15;have rb_15:=mkx RC.mono rb_14 xe15;have ra_15:=mkx RC.mono ra_14 xe15;refine a0e (i:=8) (o:=⟨_,_,_,_,_,_⟩) (by kernel_rfl) rfl (fun K hK=>?_);go_simp
    skip
    refine hK.out _ _ (hS.out _ (E15.trans ((ExtX.refl _).alloc _))) (fun hHeld=>?_);clear hK K
    (try simp only[Act.put,List.setIfInBounds_toArray,List.set_cons_zero,List.set_cons_succ])
    have xe16:Ext v15 (v15.alloc (.cells #[.bool s1, .slice a1 n1 c1, .slice d1 k1 e1, .bool s2, .slice a2 n2 c2, .slice d2 k2 e2] 32)):=(ExtX.refl _).alloc _;have rc_16:=a0R (e:=32) (arr:=#[.bool s1, .slice a1 n1 c1, .slice d1 k1 e1, .bool s2, .slice a2 n2 c2, .slice d2 k2 e2]) (hnoX v15) (mkx QC.mono h1 E15) q2_15 rfl;obtain⟨v16,hv16⟩:∃v16,v15.alloc (.cells #[.bool s1, .slice a1 n1 c1, .slice d1 k1 e1, .bool s2, .slice a2 n2 c2, .slice d2 k2 e2] 32)=v16:=⟨_,rfl⟩;obtain⟨g16,hg16⟩:∃g:Option Addr,some ⟨v15.heap.size,0,none⟩=g:=⟨_,rfl⟩;rw[hv16]at xe16;rw[hv16,hg16]at rc_16 |-;have E16:=E15.trans xe16;have rb_16:=mkx RC.mono rb_15 xe16;have ra_16:=mkx RC.mono ra_15 xe16;have q2_16:=mkx QC.mono q2_15 xe16;refine a0e (i:=9) (o:=⟨_,_,_,_,_,_⟩) (by kernel_rfl) rfl (fun K hK=>?_);go_simp
    skip
    refine hK.out _ _ (hS.out _ (E16.trans ((ExtX.refl _).alloc _))) (fun hHeld=>?_);clear hK K
    (try simp only[Act.put,List.setIfInBounds_toArray,List.set_cons_zero,List.set_cons_succ])
    have xe17:Ext v16 (v16.alloc (.cells #[.slice g14 2 2, .slice g13 2 2, .slice g16 2 2] 45)):=(ExtX.refl _).alloc _;have mm_17:=a2t (e:=45) (arr:=#[.slice g14 2 2, .slice g13 2 2, .slice g16 2 2]) (hnoX v16) ra_16 rb_16 rc_16 rfl;obtain⟨v17,hv17⟩:∃v17,v16.alloc (.cells #[.slice g14 2 2, .slice g13 2 2, .slice g16 2 2] 45)=v17:=⟨_,rfl⟩;obtain⟨g17,hg17⟩:∃g:Option Addr,some ⟨v16.heap.size,0,none⟩=g:=⟨_,rfl⟩;rw[hv17]at xe17;rw[hv17,hg17]at mm_17 |-;have E17:=E16.trans xe17;have rb_17:=mkx RC.mono rb_16 xe17;have ra_17:=mkx RC.mono ra_16 xe17;have q2_17:=mkx QC.mono q2_16 xe17;have rc_17:=mkx RC.mono rc_16 xe17;refine a0o (i:=10) (o:=⟨_,_,_,_,_,_⟩) (by kernel_rfl) rfl (by decide) (by kernel_rfl) (fun K hK=>?_);go_simp
    refine hK.out _ _ ?_;clear hK K;go_wp2_with fail
    go_meet
    case rel=>exact⟨_,rfl,mm_17,hEd.trans E17⟩
   ·skip
    go_simp
    (go_at_call 48;(with_reducible refine(a3W noY v13 2 (hnoX v13) (by decide) (by decide)).mono ?_);rintro ee v18 ⟨xe18,u2,rfl,q2_18⟩)
    refine hK.out _ _ (hS.out _ (E13.trans xe18)) (fun hHeld=>?_);clear hK K
    (try simp only[Act.put,List.setIfInBounds_toArray,List.set_cons_zero,List.set_cons_succ])
    obtain⟨s2,a2,n2,c2,d2,k2,e2,rfl⟩:=q2_18.shape;have E18:=E13.trans xe18;have rb_18:=mkx RC.mono rb_13 xe18;refine a0U (i:=2) (j:=8) (oi:=⟨_,_,_,_,_,_⟩) (oj:=⟨_,_,_,_,_,_⟩) (by kernel_rfl) rfl rfl (fun K hK=>?_) (fun K hK=>?_)
    ·skip
     go_simp
     skip
     refine hK.out _ _ (hS.out _ (E18.trans ((ExtX.refl _).alloc _))) (fun hHeld=>?_);clear hK K
     (try simp only[Act.put,List.setIfInBounds_toArray,List.set_cons_zero,List.set_cons_succ])
     have xe19:Ext v18 (v18.alloc (.cells #[.bool s1, .slice a1 n1 c1, .slice d1 k1 e1, .bool false, .slice none 0 0, .slice none 0 0] 32)):=(ExtX.refl _).alloc _;have ra_19:=a0R (e:=32) (arr:=#[.bool s1, .slice a1 n1 c1, .slice d1 k1 e1, .bool false, .slice none 0 0, .slice none 0 0]) (hnoX v18) (mkx QC.mono h1 E18) (QC.zero _) rfl;obtain⟨v19,hv19⟩:∃v19,v18.alloc (.cells #[.bool s1, .slice a1 n1 c1, .slice d1 k1 e1, .bool false, .slice none 0 0, .slice none 0 0] 32)=v19:=⟨_,rfl⟩;obtain⟨g19,hg19⟩:∃g:Option Addr,some ⟨v18.heap.size,0,none⟩=g:=⟨_,rfl⟩;rw[hv19]at xe19;rw[hv19,hg19]at ra_19 |-;have E19:=E18.trans xe19;have rb_19:=mkx RC.mono rb_18 xe19;have q2_19:=mkx QC.mono q2_18 xe19;refine a0e (i:=8) (o:=⟨_,_,_,_,_,_⟩) (by kernel_rfl) rfl (fun K hK=>?_);go_simp
     skip
     refine hK.out _ _ (hS.out _ (E19.trans ((ExtX.refl _).alloc _))) (fun hHeld=>?_);clear hK K
     (try simp only[Act.put,List.setIfInBounds_toArray,List.set_cons_zero,List.set_cons_succ])
     have xe20:Ext v19 (v19.alloc (.cells #[.bool s1, .slice a1 n1 c1, .slice d1 k1 e1, .bool s2, .slice a2 n2 c2, .slice d2 k2 e2] 32)):=(ExtX.refl _).alloc _;have rc_20:=a0R (e:=32) (arr:=#[.bool s1, .slice a1 n1 c1, .slice d1 k1 e1, .bool s2, .slice a2 n2 c2, .slice d2 k2 e2]) (hnoX v19) (mkx QC.mono h1 E19) q2_19 rfl;obtain⟨v20,hv20⟩:∃v20,v19.alloc (.cells #[.bool s1, .slice a1 n1 c1, .slice d1 k1 e1, .bool s2, .slice a2 n2 c2, .slice d2 k2 e2] 32)=v20:=⟨_,rfl⟩;obtain⟨g20,hg20⟩:∃g:Option Addr,some ⟨v19.heap.size,0,none⟩=g:=⟨_,rfl⟩;rw[hv20]at xe20;rw[hv20,hg20]at rc_20 |-;have E20:=E19.trans xe20;have rb_20:=mkx RC.mono rb_19 xe20;have q2_20:=mkx QC.mono q2_19 xe20;have ra_20:=mkx RC.mono ra_19 xe20;refine a0e (i:=9) (o:=⟨_,_,_,_,_,_⟩) (by kernel_rfl) rfl (fun K hK=>?_);go_simp
     skip
     refine hK.out _ _ (hS.out _ (E20.trans ((ExtX.refl _).alloc _))) (fun hHeld=>?_);clear hK K
     (try simp only[Act.put,List.setIfInBounds_toArray,List.set_cons_zero,List.set_cons_succ])
     have xe21:Ext v20 (v20.alloc (.cells #[.slice g19 2 2, .slice g13 2 2, .slice g20 2 2] 45)):=(ExtX.refl _).alloc _;have mm_21:=a2t (e:=45) (arr:=#[.slice g19 2 2, .slice g13 2 2, .slice g20 2 2]) (hnoX v20) ra_20 rb_20 rc_20 rfl;obtain⟨v21,hv21⟩:∃v21,v20.alloc (.cells #[.slice g19 2 2, .slice g13 2 2, .slice g20 2 2] 45)=v21:=⟨_,rfl⟩;obtain⟨g21,hg21⟩:∃g:Option Addr,some ⟨v20.heap.size,0,none⟩=g:=⟨_,rfl⟩;rw[hv21]at xe21;rw[hv21,hg21]at mm_21 |-;have E21:=E20.trans xe21;have rb_21:=mkx RC.mono rb_20 xe21;have q2_21:=mkx QC.mono q2_20 xe21;have ra_21:=mkx RC.mono ra_20 xe21;have rc_21:=mkx RC.mono rc_20 xe21;refine a0o (i:=10) (o:=⟨_,_,_,_,_,_⟩) (by kernel_rfl) rfl (by decide) (by kernel_rfl) (fun K hK=>?_);go_simp
     refine hK.out _ _ ?_;clear hK K;go_wp2_with fail
     go_meet
     case rel=>exact⟨_,rfl,mm_21,hEd.trans E21⟩
    ·skip
     go_simp
     skip
     refine hK.out _ _ (hS.out _ (E18.trans ((ExtX.refl _).alloc _))) (fun hHeld=>?_);clear hK K
     (try simp only[Act.put,List.setIfInBounds_toArray,List.set_cons_zero,List.set_cons_succ])
     have xe22:Ext v18 (v18.alloc (.cells #[.bool s1, .slice a1 n1 c1, .slice d1 k1 e1, .bool s2, .slice a2 n2 c2, .slice d2 k2 e2] 32)):=(ExtX.refl _).alloc _;have rc_22:=a0R (e:=32) (arr:=#[.bool s1, .slice a1 n1 c1, .slice d1 k1 e1, .bool s2, .slice a2 n2 c2, .slice d2 k2 e2]) (hnoX v18) (mkx QC.mono h1 E18) q2_18 rfl;obtain⟨v22,hv22⟩:∃v22,v18.alloc (.cells #[.bool s1, .slice a1 n1 c1, .slice d1 k1 e1, .bool s2, .slice a2 n2 c2, .slice d2 k2 e2] 32)=v22:=⟨_,rfl⟩;obtain⟨g22,hg22⟩:∃g:Option Addr,some ⟨v18.heap.size,0,none⟩=g:=⟨_,rfl⟩;rw[hv22]at xe22;rw[hv22,hg22]at rc_22 |-;have E22:=E18.trans xe22;have rb_22:=mkx RC.mono rb_18 xe22;have q2_22:=mkx QC.mono q2_18 xe22;refine a0e (i:=2) (o:=⟨_,_,_,_,_,_⟩) (by kernel_rfl) rfl (fun K hK=>?_);go_simp
     skip
     refine hK.out _ _ (hS.out _ (E22.trans ((ExtX.refl _).alloc _))) (fun hHeld=>?_);clear hK K
     (try simp only[Act.put,List.setIfInBounds_toArray,List.set_cons_zero,List.set_cons_succ])
     have xe23:Ext v22 (v22.alloc (.cells #[.bool s1, .slice a1 n1 c1, .slice d1 k1 e1, .bool false, .slice none 0 0, .slice none 0 0] 32)):=(ExtX.refl _).alloc _;have ra_23:=a0R (e:=32) (arr:=#[.bool s1, .slice a1 n1 c1, .slice d1 k1 e1, .bool false, .slice none 0 0, .slice none 0 0]) (hnoX v22) (mkx QC.mono h1 E22) (QC.zero _) rfl;obtain⟨v23,hv23⟩:∃v23,v22.alloc (.cells #[.bool s1, .slice a1 n1 c1, .slice d1 k1 e1, .bool false, .slice none 0 0, .slice none 0 0] 32)=v23:=⟨_,rfl⟩;obtain⟨g23,hg23⟩:∃g:Option Addr,some ⟨v22.heap.size,0,none⟩=g:=⟨_,rfl⟩;rw[hv23]at xe23;rw[hv23,hg23]at ra_23 |-;have E23:=E22.trans xe23;have rb_23:=mkx RC.mono rb_22 xe23;have q2_23:=mkx QC.mono q2_22 xe23;have rc_23:=mkx RC.mono rc_22 xe23;refine a0e (i:=9) (o:=⟨_,_,_,_,_,_⟩) (by kernel_rfl) rfl (fun K hK=>?_);go_simp
     skip
     refine hK.out _ _ (hS.out _ (E23.trans ((ExtX.refl _).alloc _))) (fun hHeld=>?_);clear hK K
     (try simp only[Act.put,List.setIfInBounds_toArray,List.set_cons_zero,List.set_cons_succ])
     have xe24:Ext v23 (v23.alloc (.cells #[.slice g23 2 2, .slice g13 2 2, .slice g22 2 2] 45)):=(ExtX.refl _).alloc _;have mm_24:=a2t (e:=45) (arr:=#[.slice g23 2 2, .slice g13 2 2, .slice g22 2 2]) (hnoX v23) ra_23 rb_23 rc_23 rfl;obtain⟨v24,hv24⟩:∃v24,v23.alloc (.cells #[.slice g23 2 2, .slice g13 2 2, .slice g22 2 2] 45)=v24:=⟨_,rfl⟩;obtain⟨g24,hg24⟩:∃g:Option Addr,some ⟨v23.heap.size,0,none⟩=g:=⟨_,rfl⟩;rw[hv24]at xe24;rw[hv24,hg24]at mm_24 |-;have E24:=E23.trans xe24;have rb_24:=mkx RC.mono rb_23 xe24;have q2_24:=mkx QC.mono q2_23 xe24;have rc_24:=mkx RC.mono rc_23 xe24;have ra_24:=mkx RC.mono ra_23 xe24;refine a0o (i:=10) (o:=⟨_,_,_,_,_,_⟩) (by kernel_rfl) rfl (by decide) (by kernel_rfl) (fun K hK=>?_);go_simp
     refine hK.out _ _ ?_;clear hK K;go_wp2_with fail
     go_meet
     case rel=>exact⟨_,rfl,mm_24,hEd.trans E24⟩
  ·skip
   go_simp
   (go_at_call 48;(with_reducible refine(a3W noY wd 2 (hnoX wd) (by decide) (by decide)).mono ?_);rintro ee v25 ⟨xe25,u2,rfl,q2_25⟩)
   refine hK.out _ _ (hS.out _ (E0.trans xe25)) (fun hHeld=>?_);clear hK K
   (try simp only[Act.put,List.setIfInBounds_toArray,List.set_cons_zero,List.set_cons_succ])
   obtain⟨s2,a2,n2,c2,d2,k2,e2,rfl⟩:=q2_25.shape;have E25:=E0.trans xe25;refine a2L (i:=2) (j:=5) (l:=8) (oi:=⟨_,_,_,_,_,_⟩) (oj:=⟨_,_,_,_,_,_⟩) (ol:=⟨_,_,_,_,_,_⟩) (by kernel_rfl) rfl rfl rfl (fun K hK=>?_) (fun K hK=>?_) (fun K hK=>?_)
   ·skip
    go_simp
    skip
    refine hK.out _ _ (hS.out _ (E25.trans ((ExtX.refl _).alloc _))) (fun hHeld=>?_);clear hK K
    (try simp only[Act.put,List.setIfInBounds_toArray,List.set_cons_zero,List.set_cons_succ])
    have xe26:Ext v25 (v25.alloc (.cells #[.bool s1, .slice a1 n1 c1, .slice d1 k1 e1, .bool false, .slice none 0 0, .slice none 0 0] 32)):=(ExtX.refl _).alloc _;have ra_26:=a0R (e:=32) (arr:=#[.bool s1, .slice a1 n1 c1, .slice d1 k1 e1, .bool false, .slice none 0 0, .slice none 0 0]) (hnoX v25) (mkx QC.mono h1 E25) (QC.zero _) rfl;obtain⟨v26,hv26⟩:∃v26,v25.alloc (.cells #[.bool s1, .slice a1 n1 c1, .slice d1 k1 e1, .bool false, .slice none 0 0, .slice none 0 0] 32)=v26:=⟨_,rfl⟩;obtain⟨g26,hg26⟩:∃g:Option Addr,some ⟨v25.heap.size,0,none⟩=g:=⟨_,rfl⟩;rw[hv26]at xe26;rw[hv26,hg26]at ra_26 |-;have E26:=E25.trans xe26;have q2_26:=mkx QC.mono q2_25 xe26;refine a0U (i:=5) (j:=8) (oi:=⟨_,_,_,_,_,_⟩) (oj:=⟨_,_,_,_,_,_⟩) (by kernel_rfl) rfl rfl (fun K hK=>?_) (fun K hK=>?_)
    ·skip
     go_simp
     skip
     refine hK.out _ _ (hS.out _ (E26.trans ((ExtX.refl _).alloc _))) (fun hHeld=>?_);clear hK K
     (try simp only[Act.put,List.setIfInBounds_toArray,List.set_cons_zero,List.set_cons_succ])
     have xe27:Ext v26 (v26.alloc (.cells #[.bool s1, .slice a1 n1 c1, .slice d1 k1 e1, .bool s1, .slice a1 n1 c1, .slice d1 k1 e1] 32)):=(ExtX.refl _).alloc _;have rb_27:=a0R (e:=32) (arr:=#[.bool s1, .slice a1 n1 c1, .slice d1 k1 e1, .bool s1, .slice a1 n1 c1, .slice d1 k1 e1]) (hnoX v26) (mkx QC.mono h1 E26) (mkx QC.mono h1 E26) rfl;obtain⟨v27,hv27⟩:∃v27,v26.alloc (.cells #[.bool s1, .slice a1 n1 c1, .slice d1 k1 e1, .bool s1, .slice a1 n1 c1, .slice d1 k1 e1] 32)=v27:=⟨_,rfl⟩;obtain⟨g27,hg27⟩:∃g:Option Addr,some ⟨v26.heap.size,0,none⟩=g:=⟨_,rfl⟩;rw[hv27]at xe27;rw[hv27,hg27]at rb_27 |-;have E27:=E26.trans xe27;have q2_27:=mkx QC.mono q2_26 xe27;have ra_27:=mkx RC.mono ra_26 xe27;refine a0e (i:=8) (o:=⟨_,_,_,_,_,_⟩) (by kernel_rfl) rfl (fun K hK=>?_);go_simp
     skip
     refine hK.out _ _ (hS.out _ (E27.trans ((ExtX.refl _).alloc _))) (fun hHeld=>?_);clear hK K
     (try simp only[Act.put,List.setIfInBounds_toArray,List.set_cons_zero,List.set_cons_succ])
     have xe28:Ext v27 (v27.alloc (.cells #[.bool s1, .slice a1 n1 c1, .slice d1 k1 e1, .bool s2, .slice a2 n2 c2, .slice d2 k2 e2] 32)):=(ExtX.refl _).alloc _;have rc_28:=a0R (e:=32) (arr:=#[.bool s1, .slice a1 n1 c1, .slice d1 k1 e1, .bool s2, .slice a2 n2 c2, .slice d2 k2 e2]) (hnoX v27) (mkx QC.mono h1 E27) q2_27 rfl;obtain⟨v28,hv28⟩:∃v28,v27.alloc (.cells #[.bool s1, .slice a1 n1 c1, .slice d1 k1 e1, .bool s2, .slice a2 n2 c2, .slice d2 k2 e2] 32)=v28:=⟨_,rfl⟩;obtain⟨g28,hg28⟩:∃g:Option Addr,some ⟨v27.heap.size,0,none⟩=g:=⟨_,rfl⟩;rw[hv28]at xe28;rw[hv28,hg28]at rc_28 |-;have E28:=E27.trans xe28;have q2_28:=mkx QC.mono q2_27 xe28;have ra_28:=mkx RC.mono ra_27 xe28;have rb_28:=mkx RC.mono rb_27 xe28;refine a0e (i:=9) (o:=⟨_,_,_,_,_,_⟩) (by kernel_rfl) rfl (fun K hK=>?_);go_simp
     skip
     refine hK.out _ _ (hS.out _ (E28.trans ((ExtX.refl _).alloc _))) (fun hHeld=>?_);clear hK K
     (try simp only[Act.put,List.setIfInBounds_toArray,List.set_cons_zero,List.set_cons_succ])
     have xe29:Ext v28 (v28.alloc (.cells #[.slice g26 2 2, .slice g27 2 2, .slice g28 2 2] 45)):=(ExtX.refl _).alloc _;have mm_29:=a2t (e:=45) (arr:=#[.slice g26 2 2, .slice g27 2 2, .slice g28 2 2]) (hnoX v28) ra_28 rb_28 rc_28 rfl;obtain⟨v29,hv29⟩:∃v29,v28.alloc (.cells #[.slice g26 2 2, .slice g27 2 2, .slice g28 2 2] 45)=v29:=⟨_,rfl⟩;obtain⟨g29,hg29⟩:∃g:Option Addr,some ⟨v28.heap.size,0,none⟩=g:=⟨_,rfl⟩;rw[hv29]at xe29;rw[hv29,hg29]at mm_29 |-;have E29:=E28.trans xe29;have q2_29:=mkx QC.mono q2_28 xe29;have ra_29:=mkx RC.mono ra_28 xe29;have rb_29:=mkx RC.mono rb_28 xe29;have rc_29:=mkx RC.mono rc_28 xe29;refine a0o (i:=10) (o:=⟨_,_,_,_,_,_⟩) (by kernel_rfl) rfl (by decide) (by kernel_rfl) (fun K hK=>?_);go_simp
     refine hK.out _ _ ?_;clear hK K;go_wp2_with fail
     go_meet
     case rel=>exact⟨_,rfl,mm_29,hEd.trans E29⟩
    ·skip
     go_simp
     skip
     refine hK.out _ _ (hS.out _ (E26.trans ((ExtX.refl _).alloc _))) (fun hHeld=>?_);clear hK K
     (try simp only[Act.put,List.setIfInBounds_toArray,List.set_cons_zero,List.set_cons_succ])
     have xe30:Ext v26 (v26.alloc (.cells #[.bool s1, .slice a1 n1 c1, .slice d1 k1 e1, .bool s2, .slice a2 n2 c2, .slice d2 k2 e2] 32)):=(ExtX.refl _).alloc _;have rc_30:=a0R (e:=32) (arr:=#[.bool s1, .slice a1 n1 c1, .slice d1 k1 e1, .bool s2, .slice a2 n2 c2, .slice d2 k2 e2]) (hnoX v26) (mkx QC.mono h1 E26) q2_26 rfl;obtain⟨v30,hv30⟩:∃v30,v26.alloc (.cells #[.bool s1, .slice a1 n1 c1, .slice d1 k1 e1, .bool s2, .slice a2 n2 c2, .slice d2 k2 e2] 32)=v30:=⟨_,rfl⟩;obtain⟨g30,hg30⟩:∃g:Option Addr,some ⟨v26.heap.size,0,none⟩=g:=⟨_,rfl⟩;rw[hv30]at xe30;rw[hv30,hg30]at rc_30 |-;have E30:=E26.trans xe30;have q2_30:=mkx QC.mono q2_26 xe30;have ra_30:=mkx RC.mono ra_26 xe30;refine a0e (i:=5) (o:=⟨_,_,_,_,_,_⟩) (by kernel_rfl) rfl (fun K hK=>?_);go_simp
     skip
     refine hK.out _ _ (hS.out _ (E30.trans ((ExtX.refl _).alloc _))) (fun hHeld=>?_);clear hK K
     (try simp only[Act.put,List.setIfInBounds_toArray,List.set_cons_zero,List.set_cons_succ])
     have xe31:Ext v30 (v30.alloc (.cells #[.bool s1, .slice a1 n1 c1, .slice d1 k1 e1, .bool s1, .slice a1 n1 c1, .slice d1 k1 e1] 32)):=(ExtX.refl _).alloc _;have rb_31:=a0R (e:=32) (arr:=#[.bool s1, .slice a1 n1 c1, .slice d1 k1 e1, .bool s1, .slice a1 n1 c1, .slice d1 k1 e1]) (hnoX v30) (mkx QC.mono h1 E30) (mkx QC.mono h1 E30) rfl;obtain⟨v31,hv31⟩:∃v31,v30.alloc (.cells #[.bool s1, .slice a1 n1 c1, .slice d1 k1 e1, .bool s1, .slice a1 n1 c1, .slice d1 k1 e1] 32)=v31:=⟨_,rfl⟩;obtain⟨g31,hg31⟩:∃g:Option Addr,some ⟨v30.heap.size,0,none⟩=g:=⟨_,rfl⟩;rw[hv31]at xe31;rw[hv31,hg31]at rb_31 |-;have E31:=E30.trans xe31;have q2_31:=mkx QC.mono q2_30 xe31;have ra_31:=mkx RC.mono ra_30 xe31;have rc_31:=mkx RC.mono rc_30 xe31;refine a0e (i:=9) (o:=⟨_,_,_,_,_,_⟩) (by kernel_rfl) rfl (fun K hK=>?_);go_simp
     skip
     refine hK.out _ _ (hS.out _ (E31.trans ((ExtX.refl _).alloc _))) (fun hHeld=>?_);clear hK K
     (try simp only[Act.put,List.setIfInBounds_toArray,List.set_cons_zero,List.set_cons_succ])
     have xe32:Ext v31 (v31.alloc (.cells #[.slice g26 2 2, .slice g31 2 2, .slice g30 2 2] 45)):=(ExtX.refl _).alloc _;have mm_32:=a2t (e:=45) (arr:=#[.slice g26 2 2, .slice g31 2 2, .slice g30 2 2]) (hnoX v31) ra_31 rb_31 rc_31 rfl;obtain⟨v32,hv32⟩:∃v32,v31.alloc (.cells #[.slice g26 2 2, .slice g31 2 2, .slice g30 2 2] 45)=v32:=⟨_,rfl⟩;obtain⟨g32,hg32⟩:∃g:Option Addr,some ⟨v31.heap.size,0,none⟩=g:=⟨_,rfl⟩;rw[hv32]at xe32;rw[hv32,hg32]at mm_32 |-;have E32:=E31.trans xe32;have q2_32:=mkx QC.mono q2_31 xe32;have ra_32:=mkx RC.mono ra_31 xe32;have rc_32:=mkx RC.mono rc_31 xe32;have rb_32:=mkx RC.mono rb_31 xe32;refine a0o (i:=10) (o:=⟨_,_,_,_,_,_⟩) (by kernel_rfl) rfl (by decide) (by kernel_rfl) (fun K hK=>?_);go_simp
     refine hK.out _ _ ?_;clear hK K;go_wp2_with fail
     go_meet
     case rel=>exact⟨_,rfl,mm_32,hEd.trans E32⟩
   ·skip
    go_simp
    skip
    refine hK.out _ _ (hS.out _ (E25.trans ((ExtX.refl _).alloc _))) (fun hHeld=>?_);clear hK K
    (try simp only[Act.put,List.setIfInBounds_toArray,List.set_cons_zero,List.set_cons_succ])
    have xe33:Ext v25 (v25.alloc (.cells #[.bool s1, .slice a1 n1 c1, .slice d1 k1 e1, .bool s1, .slice a1 n1 c1, .slice d1 k1 e1] 32)):=(ExtX.refl _).alloc _;have rb_33:=a0R (e:=32) (arr:=#[.bool s1, .slice a1 n1 c1, .slice d1 k1 e1, .bool s1, .slice a1 n1 c1, .slice d1 k1 e1]) (hnoX v25) (mkx QC.mono h1 E25) (mkx QC.mono h1 E25) rfl;obtain⟨v33,hv33⟩:∃v33,v25.alloc (.cells #[.bool s1, .slice a1 n1 c1, .slice d1 k1 e1, .bool s1, .slice a1 n1 c1, .slice d1 k1 e1] 32)=v33:=⟨_,rfl⟩;obtain⟨g33,hg33⟩:∃g:Option Addr,some ⟨v25.heap.size,0,none⟩=g:=⟨_,rfl⟩;rw[hv33]at xe33;rw[hv33,hg33]at rb_33 |-;have E33:=E25.trans xe33;have q2_33:=mkx QC.mono q2_25 xe33;refine a0U (i:=2) (j:=8) (oi:=⟨_,_,_,_,_,_⟩) (oj:=⟨_,_,_,_,_,_⟩) (by kernel_rfl) rfl rfl (fun K hK=>?_) (fun K hK=>?_)
    ·skip
     go_simp
     skip
     refine hK.out _ _ (hS.out _ (E33.trans ((ExtX.refl _).alloc _))) (fun hHeld=>?_);clear hK K
     (try simp only[Act.put,List.setIfInBounds_toArray,List.set_cons_zero,List.set_cons_succ])
     have xe34:Ext v33 (v33.alloc (.cells #[.bool s1, .slice a1 n1 c1, .slice d1 k1 e1, .bool false, .slice none 0 0, .slice none 0 0] 32)):=(ExtX.refl _).alloc _;have ra_34:=a0R (e:=32) (arr:=#[.bool s1, .slice a1 n1 c1, .slice d1 k1 e1, .bool false, .slice none 0 0, .slice none 0 0]) (hnoX v33) (mkx QC.mono h1 E33) (QC.zero _) rfl;obtain⟨v34,hv34⟩:∃v34,v33.alloc (.cells #[.bool s1, .slice a1 n1 c1, .slice d1 k1 e1, .bool false, .slice none 0 0, .slice none 0 0] 32)=v34:=⟨_,rfl⟩;obtain⟨g34,hg34⟩:∃g:Option Addr,some ⟨v33.heap.size,0,none⟩=g:=⟨_,rfl⟩;rw[hv34]at xe34;rw[hv34,hg34]at ra_34 |-;have E34:=E33.trans xe34;have q2_34:=mkx QC.mono q2_33 xe34;have rb_34:=mkx RC.mono rb_33 xe34;refine a0e (i:=8) (o:=⟨_,_,_,_,_,_⟩) (by kernel_rfl) rfl (fun K hK=>?_);go_simp
     skip
     refine hK.out _ _ (hS.out _ (E34.trans ((ExtX.refl _).alloc _))) (fun hHeld=>?_);clear hK K
     (try simp only[Act.put,List.setIfInBounds_toArray,List.set_cons_zero,List.set_cons_succ])
     have xe35:Ext v34 (v34.alloc (.cells #[.bool s1, .slice a1 n1 c1, .slice d1 k1 e1, .bool s2, .slice a2 n2 c2, .slice d2 k2 e2] 32)):=(ExtX.refl _).alloc _;have rc_35:=a0R (e:=32) (arr:=#[.bool s1, .slice a1 n1 c1, .slice d1 k1 e1, .bool s2, .slice a2 n2 c2, .slice d2 k2 e2]) (hnoX v34) (mkx QC.mono h1 E34) q2_34 rfl;obtain⟨v35,hv35⟩:∃v35,v34.alloc (.cells #[.bool s1, .slice a1 n1 c1, .slice d1 k1 e1, .bool s2, .slice a2 n2 c2, .slice d2 k2 e2] 32)=v35:=⟨_,rfl⟩;obtain⟨g35,hg35⟩:∃g:Option Addr,some ⟨v34.heap.size,0,none⟩=g:=⟨_,rfl⟩;rw[hv35]at xe35;rw[hv35,hg35]at rc_35 |-;have E35:=E34.trans xe35;have q2_35:=mkx QC.mono q2_34 xe35;have rb_35:=mkx RC.mono rb_34 xe35;have ra_35:=mkx RC.mono ra_34 xe35;refine a0e (i:=9) (o:=⟨_,_,_,_,_,_⟩) (by kernel_rfl) rfl (fun K hK=>?_);go_simp
     skip
     refine hK.out _ _ (hS.out _ (E35.trans ((ExtX.refl _).alloc _))) (fun hHeld=>?_);clear hK K
     (try simp only[Act.put,List.setIfInBounds_toArray,List.set_cons_zero,List.set_cons_succ])
     have xe36:Ext v35 (v35.alloc (.cells #[.slice g34 2 2, .slice g33 2 2, .slice g35 2 2] 45)):=(ExtX.refl _).alloc _;have mm_36:=a2t (e:=45) (arr:=#[.slice g34 2 2, .slice g33 2 2, .slice g35 2 2]) (hnoX v35) ra_35 rb_35 rc_35 rfl;obtain⟨v36,hv36⟩:∃v36,v35.alloc (.cells #[.slice g34 2 2, .slice g33 2 2, .slice g35 2 2] 45)=v36:=⟨_,rfl⟩;obtain⟨g36,hg36⟩:∃g:Option Addr,some ⟨v35.heap.size,0,none⟩=g:=⟨_,rfl⟩;rw[hv36]at xe36;rw[hv36,hg36]at mm_36 |-;have E36:=E35.trans xe36;have q2_36:=mkx QC.mono q2_35 xe36;have rb_36:=mkx RC.mono rb_35 xe36;have ra_36:=mkx RC.mono ra_35 xe36;have rc_36:=mkx RC.mono rc_35 xe36;refine a0o (i:=10) (o:=⟨_,_,_,_,_,_⟩) (by kernel_rfl) rfl (by decide) (by kernel_rfl) (fun K hK=>?_);go_simp
     refine hK.out _ _ ?_;clear hK K;go_wp2_with fail
     go_meet
     case rel=>exact⟨_,rfl,mm_36,hEd.trans E36⟩
    ·skip
     go_simp
     skip
     refine hK.out _ _ (hS.out _ (E33.trans ((ExtX.refl _).alloc _))) (fun hHeld=>?_);clear hK K
     (try simp only[Act.put,List.setIfInBounds_toArray,List.set_cons_zero,List.set_cons_succ])
     have xe37:Ext v33 (v33.alloc (.cells #[.bool s1, .slice a1 n1 c1, .slice d1 k1 e1, .bool s2, .slice a2 n2 c2, .slice d2 k2 e2] 32)):=(ExtX.refl _).alloc _;have rc_37:=a0R (e:=32) (arr:=#[.bool s1, .slice a1 n1 c1, .slice d1 k1 e1, .bool s2, .slice a2 n2 c2, .slice d2 k2 e2]) (hnoX v33) (mkx QC.mono h1 E33) q2_33 rfl;obtain⟨v37,hv37⟩:∃v37,v33.alloc (.cells #[.bool s1, .slice a1 n1 c1, .slice d1 k1 e1, .bool s2, .slice a2 n2 c2, .slice d2 k2 e2] 32)=v37:=⟨_,rfl⟩;obtain⟨g37,hg37⟩:∃g:Option Addr,some ⟨v33.heap.size,0,none⟩=g:=⟨_,rfl⟩;rw[hv37]at xe37;rw[hv37,hg37]at rc_37 |-;have E37:=E33.trans xe37;have q2_37:=mkx QC.mono q2_33 xe37;have rb_37:=mkx RC.mono rb_33 xe37;refine a0e (i:=2) (o:=⟨_,_,_,_,_,_⟩) (by kernel_rfl) rfl (fun K hK=>?_);go_simp
     skip
     refine hK.out _ _ (hS.out _ (E37.trans ((ExtX.refl _).alloc _))) (fun hHeld=>?_);clear hK K
     (try simp only[Act.put,List.setIfInBounds_toArray,List.set_cons_zero,List.set_cons_succ])
     have xe38:Ext v37 (v37.alloc (.cells #[.bool s1, .slice a1 n1 c1, .slice d1 k1 e1, .bool false, .slice none 0 0, .slice none 0 0] 32)):=(ExtX.refl _).alloc _;have ra_38:=a0R (e:=32) (arr:=#[.bool s1, .slice a1 n1 c1, .slice d1 k1 e1, .bool false, .slice none 0 0, .slice none 0 0]) (hnoX v37) (mkx QC.mono h1 E37) (QC.zero _) rfl;obtain⟨v38,hv38⟩:∃v38,v37.alloc (.cells #[.bool s1, .slice a1 n1 c1, .slice d1 k1 e1, .bool false, .slice none 0 0, .slice none 0 0] 32)=v38:=⟨_,rfl⟩;obtain⟨g38,hg38⟩:∃g:Option Addr,some ⟨v37.heap.size,0,none⟩=g:=⟨_,rfl⟩;rw[hv38]at xe38;rw[hv38,hg38]at ra_38 |-;have E38:=E37.trans xe38;have q2_38:=mkx QC.mono q2_37 xe38;have rb_38:=mkx RC.mono rb_37 xe38;have rc_38:=mkx RC.mono rc_37 xe38;refine a0e (i:=9) (o:=⟨_,_,_,_,_,_⟩) (by kernel_rfl) rfl (fun K hK=>?_);go_simp
     skip
     refine hK.out _ _ (hS.out _ (E38.trans ((ExtX.refl _).alloc _))) (fun hHeld=>?_);clear hK K
     (try simp only[Act.put,List.setIfInBounds_toArray,List.set_cons_zero,List.set_cons_succ])
     have xe39:Ext v38 (v38.alloc (.cells #[.slice g38 2 2, .slice g33 2 2, .slice g37 2 2] 45)):=(ExtX.refl _).alloc _;have mm_39:=a2t (e:=45) (arr:=#[.slice g38 2 2, .slice g33 2 2, .slice g37 2 2]) (hnoX v38) ra_38 rb_38 rc_38 rfl;obtain⟨v39,hv39⟩:∃v39,v38.alloc (.cells #[.slice g38 2 2, .slice g33 2 2, .slice g37 2 2] 45)=v39:=⟨_,rfl⟩;obtain⟨g39,hg39⟩:∃g:Option Addr,some ⟨v38.heap.size,0,none⟩=g:=⟨_,rfl⟩;rw[hv39]at xe39;rw[hv39,hg39]at mm_39 |-;have E39:=E38.trans xe39;have q2_39:=mkx QC.mono q2_38 xe39;have rb_39:=mkx RC.mono rb_38 xe39;have rc_39:=mkx RC.mono rc_38 xe39;have ra_39:=mkx RC.mono ra_38 xe39;refine a0o (i:=10) (o:=⟨_,_,_,_,_,_⟩) (by kernel_rfl) rfl (by decide) (by kernel_rfl) (fun K hK=>?_);go_simp
     refine hK.out _ _ ?_;clear hK K;go_wp2_with fail
     go_meet
     case rel=>exact⟨_,rfl,mm_39,hEd.trans E39⟩
   ·skip
    go_simp
    skip
    refine hK.out _ _ (hS.out _ (E25.trans ((ExtX.refl _).alloc _))) (fun hHeld=>?_);clear hK K
    (try simp only[Act.put,List.setIfInBounds_toArray,List.set_cons_zero,List.set_cons_succ])
    have xe40:Ext v25 (v25.alloc (.cells #[.bool s1, .slice a1 n1 c1, .slice d1 k1 e1, .bool s2, .slice a2 n2 c2, .slice d2 k2 e2] 32)):=(ExtX.refl _).alloc _;have rc_40:=a0R (e:=32) (arr:=#[.bool s1, .slice a1 n1 c1, .slice d1 k1 e1, .bool s2, .slice a2 n2 c2, .slice d2 k2 e2]) (hnoX v25) (mkx QC.mono h1 E25) q2_25 rfl;obtain⟨v40,hv40⟩:∃v40,v25.alloc (.cells #[.bool s1, .slice a1 n1 c1, .slice d1 k1 e1, .bool s2, .slice a2 n2 c2, .slice d2 k2 e2] 32)=v40:=⟨_,rfl⟩;obtain⟨g40,hg40⟩:∃g:Option Addr,some ⟨v25.heap.size,0,none⟩=g:=⟨_,rfl⟩;rw[hv40]at xe40;rw[hv40,hg40]at rc_40 |-;have E40:=E25.trans xe40;have q2_40:=mkx QC.mono q2_25 xe40;refine a0U (i:=2) (j:=5) (oi:=⟨_,_,_,_,_,_⟩) (oj:=⟨_,_,_,_,_,_⟩) (by kernel_rfl) rfl rfl (fun K hK=>?_) (fun K hK=>?_)
    ·skip
     go_simp
     skip
     refine hK.out _ _ (hS.out _ (E40.trans ((ExtX.refl _).alloc _))) (fun hHeld=>?_);clear hK K
     (try simp only[Act.put,List.setIfInBounds_toArray,List.set_cons_zero,List.set_cons_succ])
     have xe41:Ext v40 (v40.alloc (.cells #[.bool s1, .slice a1 n1 c1, .slice d1 k1 e1, .bool false, .slice none 0 0, .slice none 0 0] 32)):=(ExtX.refl _).alloc _;have ra_41:=a0R (e:=32) (arr:=#[.bool s1, .slice a1 n1 c1, .slice d1 k1 e1, .bool false, .slice none 0 0, .slice none 0 0]) (hnoX v40) (mkx QC.mono h1 E40) (QC.zero _) rfl;obtain⟨v41,hv41⟩:∃v41,v40.alloc (.cells #[.bool s1, .slice a1 n1 c1, .slice d1 k1 e1, .bool false, .slice none 0 0, .slice none 0 0] 32)=v41:=⟨_,rfl⟩;obtain⟨g41,hg41⟩:∃g:Option Addr,some ⟨v40.heap.size,0,none⟩=g:=⟨_,rfl⟩;rw[hv41]at xe41;rw[hv41,hg41]at ra_41 |-;have E41:=E40.trans xe41;have q2_41:=mkx QC.mono q2_40 xe41;have rc_41:=mkx RC.mono rc_40 xe41;refine a0e (i:=5) (o:=⟨_,_,_,_,_,_⟩) (by kernel_rfl) rfl (fun K hK=>?_);go_simp
     skip
     refine hK.out _ _ (hS.out _ (E41.trans ((ExtX.refl _).alloc _))) (fun hHeld=>?_);clear hK K
     (try simp only[Act.put,List.setIfInBounds_toArray,List.set_cons_zero,List.set_cons_succ])
     have xe42:Ext v41 (v41.alloc (.cells #[.bool s1, .slice a1 n1 c1, .slice d1 k1 e1, .bool s1, .slice a1 n1 c1, .slice d1 k1 e1] 32)):=(ExtX.refl _).alloc _;have rb_42:=a0R (e:=32) (arr:=#[.bool s1, .slice a1 n1 c1, .slice d1 k1 e1, .bool s1, .slice a1 n1 c1, .slice d1 k1 e1]) (hnoX v41) (mkx QC.mono h1 E41) (mkx QC.mono h1 E41) rfl;obtain⟨v42,hv42⟩:∃v42,v41.alloc (.cells #[.bool s1, .slice a1 n1 c1, .slice d1 k1 e1, .bool s1, .slice a1 n1 c1, .slice d1 k1 e1] 32)=v42:=⟨_,rfl⟩;obtain⟨g42,hg42⟩:∃g:Option Addr,some ⟨v41.heap.size,0,none⟩=g:=⟨_,rfl⟩;rw[hv42]at xe42;rw[hv42,hg42]at rb_42 |-;have E42:=E41.trans xe42;have q2_42:=mkx QC.mono q2_41 xe42;have rc_42:=mkx RC.mono rc_41 xe42;have ra_42:=mkx RC.mono ra_41 xe42;refine a0e (i:=9) (o:=⟨_,_,_,_,_,_⟩) (by kernel_rfl) rfl (fun K hK=>?_);go_simp
     skip
     refine hK.out _ _ (hS.out _ (E42.trans ((ExtX.refl _).alloc _))) (fun hHeld=>?_);clear hK K
     (try simp only[Act.put,List.setIfInBounds_toArray,List.set_cons_zero,List.set_cons_succ])
     have xe43:Ext v42 (v42.alloc (.cells #[.slice g41 2 2, .slice g42 2 2, .slice g40 2 2] 45)):=(ExtX.refl _).alloc _;have mm_43:=a2t (e:=45) (arr:=#[.slice g41 2 2, .slice g42 2 2, .slice g40 2 2]) (hnoX v42) ra_42 rb_42 rc_42 rfl;obtain⟨v43,hv43⟩:∃v43,v42.alloc (.cells #[.slice g41 2 2, .slice g42 2 2, .slice g40 2 2] 45)=v43:=⟨_,rfl⟩;obtain⟨g43,hg43⟩:∃g:Option Addr,some ⟨v42.heap.size,0,none⟩=g:=⟨_,rfl⟩;rw[hv43]at xe43;rw[hv43,hg43]at mm_43 |-;have E43:=E42.trans xe43;have q2_43:=mkx QC.mono q2_42 xe43;have rc_43:=mkx RC.mono rc_42 xe43;have ra_43:=mkx RC.mono ra_42 xe43;have rb_43:=mkx RC.mono rb_42 xe43;refine a0o (i:=10) (o:=⟨_,_,_,_,_,_⟩) (by kernel_rfl) rfl (by decide) (by kernel_rfl) (fun K hK=>?_);go_simp
     refine hK.out _ _ ?_;clear hK K;go_wp2_with fail
     go_meet
     case rel=>exact⟨_,rfl,mm_43,hEd.trans E43⟩
    ·skip
     go_simp
     skip
     refine hK.out _ _ (hS.out _ (E40.trans ((ExtX.refl _).alloc _))) (fun hHeld=>?_);clear hK K
     (try simp only[Act.put,List.setIfInBounds_toArray,List.set_cons_zero,List.set_cons_succ])
     have xe44:Ext v40 (v40.alloc (.cells #[.bool s1, .slice a1 n1 c1, .slice d1 k1 e1, .bool s1, .slice a1 n1 c1, .slice d1 k1 e1] 32)):=(ExtX.refl _).alloc _;have rb_44:=a0R (e:=32) (arr:=#[.bool s1, .slice a1 n1 c1, .slice d1 k1 e1, .bool s1, .slice a1 n1 c1, .slice d1 k1 e1]) (hnoX v40) (mkx QC.mono h1 E40) (mkx QC.mono h1 E40) rfl;obtain⟨v44,hv44⟩:∃v44,v40.alloc (.cells #[.bool s1, .slice a1 n1 c1, .slice d1 k1 e1, .bool s1, .slice a1 n1 c1, .slice d1 k1 e1] 32)=v44:=⟨_,rfl⟩;obtain⟨g44,hg44⟩:∃g:Option Addr,some ⟨v40.heap.size,0,none⟩=g:=⟨_,rfl⟩;rw[hv44]at xe44;rw[hv44,hg44]at rb_44 |-;have E44:=E40.trans xe44;have q2_44:=mkx QC.mono q2_40 xe44;have rc_44:=mkx RC.mono rc_40 xe44;refine a0e (i:=2) (o:=⟨_,_,_,_,_,_⟩) (by kernel_rfl) rfl (fun K hK=>?_);go_simp
     skip
     refine hK.out _ _ (hS.out _ (E44.trans ((ExtX.refl _).alloc _))) (fun hHeld=>?_);clear hK K
     (try simp only[Act.put,List.setIfInBounds_toArray,List.set_cons_zero,List.set_cons_succ])
     have xe45:Ext v44 (v44.alloc (.cells #[.bool s1, .slice a1 n1 c1, .slice d1 k1 e1, .bool false, .slice none 0 0, .slice none 0 0] 32)):=(ExtX.refl _).alloc _;have ra_45:=a0R (e:=32) (arr:=#[.bool s1, .slice a1 n1 c1, .slice d1 k1 e1, .bool false, .slice none 0 0, .slice none 0 0]) (hnoX v44) (mkx QC.mono h1 E44) (QC.zero _) rfl;obtain⟨v45,hv45⟩:∃v45,v44.alloc (.cells #[.bool s1, .slice a1 n1 c1, .slice d1 k1 e1, .bool false, .slice none 0 0, .slice none 0 0] 32)=v45:=⟨_,rfl⟩;obtain⟨g45,hg45⟩:∃g:Option Addr,some ⟨v44.heap.size,0,none⟩=g:=⟨_,rfl⟩;rw[hv45]at xe45;rw[hv45,hg45]at ra_45 |-;have E45:=E44.trans xe45;have q2_45:=mkx QC.mono q2_44 xe45;have rc_45:=mkx RC.mono rc_44 xe45;have rb_45:=mkx RC.mono rb_44 xe45;refine a0e (i:=9) (o:=⟨_,_,_,_,_,_⟩) (by kernel_rfl) rfl (fun K hK=>?_);go_simp
     skip
     refine hK.out _ _ (hS.out _ (E45.trans ((ExtX.refl _).alloc _))) (fun hHeld=>?_);clear hK K
     (try simp only[Act.put,List.setIfInBounds_toArray,List.set_cons_zero,List.set_cons_succ])
     have xe46:Ext v45 (v45.alloc (.cells #[.slice g45 2 2, .slice g44 2 2, .slice g40 2 2] 45)):=(ExtX.refl _).alloc _;have mm_46:=a2t (e:=45) (arr:=#[.slice g45 2 2, .slice g44 2 2, .slice g40 2 2]) (hnoX v45) ra_45 rb_45 rc_45 rfl;obtain⟨v46,hv46⟩:∃v46,v45.alloc (.cells #[.slice g45 2 2, .slice g44 2 2, .slice g40 2 2] 45)=v46:=⟨_,rfl⟩;obtain⟨g46,hg46⟩:∃g:Option Addr,some ⟨v45.heap.size,0,none⟩=g:=⟨_,rfl⟩;rw[hv46]at xe46;rw[hv46,hg46]at mm_46 |-;have E46:=E45.trans xe46;have q2_46:=mkx QC.mono q2_45 xe46;have rc_46:=mkx RC.mono rc_45 xe46;have rb_46:=mkx RC.mono rb_45 xe46;have ra_46:=mkx RC.mono ra_45 xe46;refine a0o (i:=10) (o:=⟨_,_,_,_,_,_⟩) (by kernel_rfl) rfl (by decide) (by kernel_rfl) (fun K hK=>?_);go_simp
     refine hK.out _ _ ?_;clear hK K;go_wp2_with fail
     go_meet
     case rel=>exact⟨_,rfl,mm_46,hEd.trans E46⟩
 case rest=>
  obtain⟨xv,hxv,hm,hEc⟩:=hcut;have hxv':=hxv.symm;clear hxv;subst hxv';have hE02:Ext w wc:=hE1.trans (hE2.trans hEc);have e11:((1:Int):Rat)=1:=by decide+kernel
  have e22:((2:Int):Rat)=2:=by decide+kernel
  have hm:MC (mk noY wc) xv awX:=by rw[e11,e22]at hm;exact hm
  have h1c:QC (mk noY wc) (.agg #[.bool s1, .slice a1 n1 c1, .slice d1 k1 e1]) 1:=by rw[<-e11];exact mkx QC.mono h12 hEc
  have hy:=b4V (e:=32) (arr:=#[.bool false, .slice none 0 0, .slice none 0 0, .bool s1, .slice a1 n1 c1, .slice d1 k1 e1, .bool s1, .slice a1 n1 c1, .slice d1 k1 e1]) (hnoX wc) (QC.zero _) h1c h1c rfl;have hEA:Ext wc (wc.alloc (.cells #[.bool false, .slice none 0 0, .slice none 0 0, .bool s1, .slice a1 n1 c1, .slice d1 k1 e1, .bool s1, .slice a1 n1 c1, .slice d1 k1 e1] 32)):=(ExtX.refl _).alloc _;have bc:=r1.ext0 hEc;have q0:=bc.cell 0 rfl;have q1:=bc.cell 1 rfl;have q2:=bc.cell 2 rfl;have hmA:=mkx MC.mono hm hEA;obtain⟨wA,hwA⟩:∃wA,wc.alloc (.cells #[.bool false, .slice none 0 0, .slice none 0 0, .bool s1, .slice a1 n1 c1, .slice d1 k1 e1, .bool s1, .slice a1 n1 c1, .slice d1 k1 e1] 32)=wA:=⟨_,rfl⟩;rw[hwA]at hy hEA hmA;have hBX:BM 2 awX:=by
   intro r hr q hq;simp only[awX,List.mem_cons,List.not_mem_nil,or_false]at hr;rcases hr with rfl|rfl|rfl<;>simp only[List.mem_cons,List.not_mem_nil,or_false]at hq<;>rcases hq with rfl|rfl<;>decide+kernel
  have hBY:BR 2 awY:=by
   intro q hq;simp only[awY,List.mem_cons,List.not_mem_nil,or_false]at hq;rcases hq with rfl|rfl|rfl<;>decide+kernel
  have hf:=b1F noY wA xv _ awX awY 3 2 2 (hnoX wA) (hmA.mv fun r hr q hq=>Nat.le_trans (hBX r hr q hq) (by decide)) (hy.rv fun q hq=>Nat.le_trans (hBY q hq) (by decide)) b6N rfl rfl (by decide) (by decide) hBX hBY (by decide) (by decide);clear hm h1c hmA hy hBX hBY;go_wp2_with fail
  refine hf.mono ?_;rintro ee w3 ⟨hE3,u3,rfl,hu3⟩;clear hf q0 q1 q2;obtain⟨uo,uc,co,cl,cc,ro,rl,rc,s,a,n,c,d,k,e,lo,ll,lc,rfl,_,_,hco,_,hrs,_⟩:=hu3;have hrk:(a9Y awX awY 3 2).rank=2:=b4T;have hcoef:(a9Y awX awY 3 2).coef= [mkRat 1 6,mkRat 1 2]:=b1G;have hrss:(a9Y awX awY 3 2).rss=mkRat 1 6:=by
   show a2x (a2K awX awY (a1v awX awY 3 2)) (a2K awX awY (a1v awX awY 3 2))=_
   rw[b1G];exact b6k
  obtain⟨ul,hul⟩:∃ul,(a9Y awX awY 3 2).used.length=ul:=⟨_,rfl⟩;rw[hcoef]at hco;rw[hrss]at hrs;rw[hrk,hul];clear hrk hcoef hrss hul;have bf:=Bx.new w3 #[.int .i64 0, .slice none 0 0, .slice none 0 0, .slice none 0 0, .bool false, .slice none 0 0, .slice none 0 0, .slice none 0 0] 63;go_upto_region 4 with((with_reducible show wpList _ _ _ (⟨_, .store 63 _ _,_,_,_,_⟩::_) _ _);refine a0b a3m rfl rfl bf rfl rfl (by intro v hv;simp at hv;rcases hv with rfl|rfl|rfl|rfl|rfl|rfl|rfl|rfl<;>rfl) ?_;intro w4 v1 v2')
  have hE4:Ext w3 w4:=ExtX.box ((ExtX.refl w3).alloc _) v2' (Nat.le_refl _);obtain⟨h,hh⟩:∃h,w3.heap.size=h:=⟨_,rfl⟩;rw[hh]at v1 v2' |-;have hE4d:=hE4.trans (ExtX.refl (Y:=noY) w4).drew;have hc4:=mkx RC.mono hco hE4d;have hr4:=mkx QC.mono hrs hE4d;have hEo:Ext w w4.drew:=hE02.trans (hEA.trans (hE3.trans hE4d));have v1d:=v1.ext0 (ExtX.refl (Y:=noY) w4).drew;clear v1 v2' hco hrs bf hE4 hE4d;have hS4:Hid (∀w',Ext w4.drew w'->w'.cell? ⟨h,0,none⟩=some (.int .i64 2)/\w'.cell? ⟨h,2,none⟩=some (.slice co cl cc)/\w'.cell? ⟨h,4,none⟩=some (.bool s)/\w'.cell? ⟨h,4+1,none⟩=some (.slice a n c)/\w'.cell? ⟨h,4+2,none⟩=some (.slice d k e)):=hid fun w' hw=>by
   have b9:=v1d.ext0 hw;exact⟨b9.cell 0 rfl,b9.cell 2 rfl,b9.cell 4 rfl,b9.cell 5 rfl,b9.cell 6 rfl⟩
  clear v1d;refine a0N 21 (fun w'=>w'.cell? ⟨h,0,none⟩=some (.int .i64 2)/\w'.cell? ⟨h,2,none⟩=some (.slice co cl cc)/\w'.cell? ⟨h,4,none⟩=some (.bool s)/\w'.cell? ⟨h,4+1,none⟩=some (.slice a n c)/\w'.cell? ⟨h,4+2,none⟩=some (.slice d k e)) (by kernel_rfl) (by kernel_rfl) (hS4.out _ (ExtX.refl _)) (fun hHeld hOnce=>?_);obtain⟨wd,hwd⟩:∃wd,w4.drew=wd:=⟨_,rfl⟩;rw[hwd]at hS4 hc4 hr4 hEo |-
  (try rw[hwd]at hHeld)
  clear hwd;refine a0a hOnce (i:=0) (oi:=⟨_,_,_,_,_,_⟩) (v:=?_) rfl (by kernel_rfl) (fun _ _ _ h=>h) (by assumption) (by rfl) (fun w hSw=>?_) ?_
  rotate_left
  ·(try dsimp only at hSw)
   go_simp
   all_goals with_reducible rfl
  (try simp only[Act.put,List.setIfInBounds_toArray,List.set_cons_zero,List.set_cons_succ])
  refine a0a hOnce (i:=1) (oi:=⟨_,_,_,_,_,_⟩) (v:=?_) rfl (by kernel_rfl) (fun _ _ _ h=>h) (by assumption) (by rfl) (fun w hSw=>?_) ?_
  rotate_left
  ·(try dsimp only at hSw)
   go_simp
   all_goals with_reducible rfl
  (try simp only[Act.put,List.setIfInBounds_toArray,List.set_cons_zero,List.set_cons_succ])
  refine a0a hOnce (i:=2) (oi:=⟨_,_,_,_,_,_⟩) (v:=?_) rfl (by kernel_rfl) (fun _ _ _ h=>h) (by assumption) (by rfl) (fun w hSw=>?_) ?_
  rotate_left
  ·(try dsimp only at hSw)
   go_simp
   all_goals with_reducible rfl
  (try simp only[Act.put,List.setIfInBounds_toArray,List.set_cons_zero,List.set_cons_succ])
  refine a0a hOnce (i:=3) (oi:=⟨_,_,_,_,_,_⟩) (v:=?_) rfl (by kernel_rfl) (fun _ _ _ h=>h) (by assumption) (by rfl) (fun w hSw=>?_) ?_
  rotate_left
  ·(try dsimp only at hSw)
   go_simp
   all_goals with_reducible rfl
  (try simp only[Act.put,List.setIfInBounds_toArray,List.set_cons_zero,List.set_cons_succ])
  refine a0a hOnce (i:=4) (oi:=⟨_,_,_,_,_,_⟩) (v:=?_) rfl (by kernel_rfl) (fun _ _ _ h=>h) (by assumption) (by rfl) (fun w hSw=>?_) ?_
  rotate_left
  ·(try dsimp only at hSw)
   go_simp
   all_goals with_reducible rfl
  (try simp only[Act.put,List.setIfInBounds_toArray,List.set_cons_zero,List.set_cons_succ])
  refine a0a hOnce (i:=5) (oi:=⟨_,_,_,_,_,_⟩) (v:=?_) rfl (by kernel_rfl) (fun _ _ _ h=>h) (by assumption) (by rfl) (fun w hSw=>?_) ?_
  rotate_left
  ·(try dsimp only at hSw)
   go_simp
   all_goals with_reducible rfl
  (try simp only[Act.put,List.setIfInBounds_toArray,List.set_cons_zero,List.set_cons_succ])
  refine a0a hOnce (i:=6) (oi:=⟨_,_,_,_,_,_⟩) (v:=?_) rfl (by kernel_rfl) (fun _ _ _ h=>h) (by assumption) (by rfl) (fun w hSw=>?_) ?_
  rotate_left
  ·(try dsimp only at hSw)
   go_simp
   all_goals with_reducible rfl
  (try simp only[Act.put,List.setIfInBounds_toArray,List.set_cons_zero,List.set_cons_succ])
  refine a0a hOnce (i:=7) (oi:=⟨_,_,_,_,_,_⟩) (v:=?_) rfl (by kernel_rfl) (fun _ _ _ h=>h) (by assumption) (by rfl) (fun w hSw=>?_) ?_
  rotate_left
  ·(try dsimp only at hSw)
   go_simp
   all_goals with_reducible rfl
  (try simp only[Act.put,List.setIfInBounds_toArray,List.set_cons_zero,List.set_cons_succ])
  refine a0a hOnce (i:=8) (oi:=⟨_,_,_,_,_,_⟩) (v:=?_) rfl (by kernel_rfl) (fun _ _ _ h=>h) (by assumption) (by rfl) (fun w hSw=>?_) ?_
  rotate_left
  ·(try dsimp only at hSw)
   go_simp
   all_goals with_reducible rfl
  (try simp only[Act.put,List.setIfInBounds_toArray,List.set_cons_zero,List.set_cons_succ])
  refine a0a hOnce (i:=9) (oi:=⟨_,_,_,_,_,_⟩) (v:=?_) rfl (by kernel_rfl) (fun _ _ _ h=>h) (by assumption) (by rfl) (fun w hSw=>?_) ?_
  rotate_left
  ·(try dsimp only at hSw)
   go_simp
   all_goals with_reducible rfl
  (try simp only[Act.put,List.setIfInBounds_toArray,List.set_cons_zero,List.set_cons_succ])
  refine a0e (i:=10) (o:=⟨_,_,_,_,_,_⟩) (by kernel_rfl) rfl (fun K hK=>?_);go_simp
  (go_at_call 119;(with_reducible refine(a4U noY wd 1 6 (hnoX wd) (by decide) (by decide) (by decide) (by decide) (by decide) (by decide+kernel) (by decide+kernel)).mono ?_);rintro ee wp ⟨fp,uqp,rfl,hqp⟩)
  refine hK.out _ _ (hS4.out _ fp) (fun hHeld=>?_);clear hK K
  (try simp only[Act.put,List.setIfInBounds_toArray,List.set_cons_zero,List.set_cons_succ])
  obtain⟨sqp,aqp,nqp,cqp,dqp,kqp,eqp,rfl⟩:=hqp.shape;refine a0e (i:=11) (o:=⟨_,_,_,_,_,_⟩) (by kernel_rfl) rfl (fun K hK=>?_);go_simp
  (go_at_call 119;(with_reducible refine(a4U noY wp 1 2 (hnoX wp) (by decide) (by decide) (by decide) (by decide) (by decide) (by decide+kernel) (by decide+kernel)).mono ?_);rintro ee wq ⟨fq,uqq,rfl,hqq⟩)
  refine hK.out _ _ (hS4.out _ (fp.trans fq)) (fun hHeld=>?_);clear hK K
  (try simp only[Act.put,List.setIfInBounds_toArray,List.set_cons_zero,List.set_cons_succ])
  obtain⟨sqq,aqq,nqq,cqq,dqq,kqq,eqq,rfl⟩:=hqq.shape;have hl9:=a0R (e:=32) (arr:=#[.bool sqp, .slice aqp nqp cqp, .slice dqp kqp eqp, .bool sqq, .slice aqq nqq cqq, .slice dqq kqq eqq]) (hnoX wq) (mkx QC.mono hqp fq) hqq rfl;have hE9:Ext wq (wq.alloc (.cells #[.bool sqp, .slice aqp nqp cqp, .slice dqp kqp eqp, .bool sqq, .slice aqq nqq cqq, .slice dqq kqq eqq] 32)):=(ExtX.refl _).alloc _;refine a0e (i:=12) (o:=⟨_,_,_,_,_,_⟩) (by kernel_rfl) rfl (fun K hK=>?_);go_simp
  skip
  refine hK.out _ _ (hS4.out _ (fp.trans (fq.trans hE9))) (fun hHeld=>?_);clear hK K
  (try simp only[Act.put,List.setIfInBounds_toArray,List.set_cons_zero,List.set_cons_succ])
  obtain⟨wr,hwr⟩:∃wr,wq.alloc (.cells #[.bool sqp, .slice aqp nqp cqp, .slice dqp kqp eqp, .bool sqq, .slice aqq nqq cqq, .slice dqq kqq eqq] 32)=wr:=⟨_,rfl⟩;obtain⟨gr,hgr⟩:∃gr:Option Addr,some ⟨wq.heap.size,0,none⟩=gr:=⟨_,rfl⟩;rw[hwr]at hE9;rw[hwr,hgr]at hl9 |-;clear hwr hgr;have F9:=fp.trans (fq.trans hE9);have hv1:((1:Int):Rat)/((6:Int):Rat)=mkRat 1 6:=by decide+kernel
  have hv2:((1:Int):Rat)/((2:Int):Rat)=mkRat 1 2:=by decide+kernel
  rw[hv1,hv2]at hl9;have hsm:=a2W noY wr _ _ [mkRat 1 6,mkRat 1 2] [mkRat 1 6,mkRat 1 2] (mkx RC.mono hc4 F9) hl9 (fun q hq=>by
   simp only[List.mem_cons,List.not_mem_nil,or_false]at hq;rcases hq with rfl|rfl<;>decide+kernel) (by decide)
  rw[show decide ([mkRat 1 6,mkRat 1 2]= [mkRat 1 6,mkRat 1 2])=true from decide_eq_true rfl]at hsm;refine a0e (i:=13) (o:=⟨_,_,_,_,_,_⟩) (by kernel_rfl) rfl (fun K hK=>?_);go_simp
  ((with_reducible refine hsm.mono ?_);rintro ee ws ⟨f8,rfl⟩)
  refine hK.out _ _ (hS4.out _ (F9.trans f8)) (fun hHeld=>?_);clear hK K
  (try simp only[Act.put,List.setIfInBounds_toArray,List.set_cons_zero,List.set_cons_succ])
  refine a0a hOnce (i:=14) (oi:=⟨_,_,_,_,_,_⟩) (v:=?_) rfl (by kernel_rfl) (fun _ _ _ h=>h) (by assumption) (by rfl) (fun w hSw=>?_) ?_
  rotate_left
  ·(try dsimp only at hSw)
   go_simp
   all_goals with_reducible rfl
  (try simp only[Act.put,List.setIfInBounds_toArray,List.set_cons_zero,List.set_cons_succ])
  refine a0a hOnce (i:=15) (oi:=⟨_,_,_,_,_,_⟩) (v:=?_) rfl (by kernel_rfl) (fun _ _ _ h=>h) (by assumption) (by rfl) (fun w hSw=>?_) ?_
  rotate_left
  ·(try dsimp only at hSw)
   go_simp
   all_goals with_reducible rfl
  (try simp only[Act.put,List.setIfInBounds_toArray,List.set_cons_zero,List.set_cons_succ])
  refine a0a hOnce (i:=16) (oi:=⟨_,_,_,_,_,_⟩) (v:=?_) rfl (by kernel_rfl) (fun _ _ _ h=>h) (by assumption) (by rfl) (fun w hSw=>?_) ?_
  rotate_left
  ·(try dsimp only at hSw)
   go_simp
   all_goals with_reducible rfl
  (try simp only[Act.put,List.setIfInBounds_toArray,List.set_cons_zero,List.set_cons_succ])
  refine a0a hOnce (i:=17) (oi:=⟨_,_,_,_,_,_⟩) (v:=?_) rfl (by kernel_rfl) (fun _ _ _ h=>h) (by assumption) (by rfl) (fun w hSw=>?_) ?_
  rotate_left
  ·(try dsimp only at hSw)
   go_simp
   all_goals with_reducible rfl
  (try simp only[Act.put,List.setIfInBounds_toArray,List.set_cons_zero,List.set_cons_succ])
  have F8:=F9.trans f8;refine a0e (i:=18) (o:=⟨_,_,_,_,_,_⟩) (by kernel_rfl) rfl (fun K hK=>?_);go_simp
  (go_at_call 119;(with_reducible refine(a4U noY ws 1 6 (hnoX ws) (by decide) (by decide) (by decide) (by decide) (by decide) (by decide+kernel) (by decide+kernel)).mono ?_);rintro ee wt ⟨ft,uqt,rfl,hqt⟩)
  refine hK.out _ _ (hS4.out _ (F8.trans ft)) (fun hHeld=>?_);clear hK K
  (try simp only[Act.put,List.setIfInBounds_toArray,List.set_cons_zero,List.set_cons_succ])
  obtain⟨sqt,aqt,nqt,cqt,dqt,kqt,eqt,rfl⟩:=hqt.shape;have hs2:=a9v noY wt _ _ (mkRat 1 6) (mkRat 1 6) (mkx QC.mono hr4 (F8.trans ft)) (by rw[hv1]at hqt;exact hqt) (by decide+kernel);rw[show decide (mkRat 1 6=mkRat 1 6)=true from decide_eq_true rfl]at hs2;refine a0e (i:=19) (o:=⟨_,_,_,_,_,_⟩) (by kernel_rfl) rfl (fun K hK=>?_);go_simp
  ((with_reducible refine hs2.mono ?_);rintro ee wu ⟨f7,rfl⟩)
  refine hK.out _ _ (hS4.out _ (F8.trans (ft.trans f7))) (fun hHeld=>?_);clear hK K
  (try simp only[Act.put,List.setIfInBounds_toArray,List.set_cons_zero,List.set_cons_succ])
  refine a0a hOnce (i:=20) (oi:=⟨_,_,_,_,_,_⟩) (v:=?_) rfl (by kernel_rfl) (fun _ _ _ h=>h) (by assumption) (by rfl) (fun w hSw=>?_) ?_
  rotate_left
  ·(try dsimp only at hSw)
   go_simp
   all_goals with_reducible rfl
  (try simp only[Act.put,List.setIfInBounds_toArray,List.set_cons_zero,List.set_cons_succ])
  refine a0o (i:=21) (o:=⟨_,_,_,_,_,_⟩) (by kernel_rfl) rfl (by decide) (by kernel_rfl) (fun K hK=>?_);go_simp
  refine hK.out _ _ ?_;clear hK K;go_wp2_with fail
  go_ret
  exact⟨hEo.trans (F8.trans (ft.trans f7)),rfl⟩
theorem a7S (h:Mem):b1i h (.agg #[.int .i64 0, .slice none 0 0, .slice none 0 0, .slice none 0 0, .bool false, .slice none 0 0, .slice none 0 0, .slice none 0 0]) ⟨0,[],[],[],0,[]⟩:=
 ⟨none,0,none,0,0,none,0,0,false,none,0,0,none,0,0,none,0,0,rfl,Nat.le_refl _,⟨fun h=>by simp at h,fun i hi=>by simp at hi⟩,SlV.zero _ _ _,SlV.zero _ _ _,QC.zero _,SlV.zero _ _ _⟩
theorem b6l:∀v∈(#[Value.int .i64 0, .slice none 0 0, .slice none 0 0, .slice none 0 0, .bool false, .slice none 0 0, .slice none 0 0, .slice none 0 0]:Array Value).toList,v.oneCell'=true:=by
 intro v hv;simp at hv;rcases hv with rfl|rfl|rfl|rfl|rfl|rfl|rfl|rfl<;>rfl
theorem b6m:∀v∈(#[Value.int .i64 0, .slice none 0 0, .slice none 0 0, .bool false, .slice none 0 0, .slice none 0 0]:Array Value).toList,v.oneCell'=true:=by
 intro v hv;simp at hv;rcases hv with rfl|rfl|rfl|rfl|rfl|rfl<;>rfl
def b4W (w:World) (z:Value) (e:Ending) (w':World):Prop:=Ext w w'/\e= .returned (.tuple #[z, .int .i64 6])
set_option maxRecDepth 100000 in
set_option maxHeartbeats 800000 in
theorem b0b (X:Nat->Bool) (w:World) (u t:Value) (x:Mat) (y:List Rat) (hX:HX X w) (hu:MV (mk X w) u x) (ht:RV (mk X w) t y) (hok:a4Z x y=false) (hl:x.length<=1000000):
  Calls Tryz.prog 51 #[u,t] w (b4W w (.agg #[.int .i64 0, .slice none 0 0, .slice none 0 0, .bool false, .slice none 0 0, .slice none 0 0])):=by
 obtain⟨W,hW,hE,b0,hz⟩:=a1A w #[.int .i64 0, .slice none 0 0, .slice none 0 0, .bool false, .slice none 0 0, .slice none 0 0] 83;have hpr:=a4i X W u t x y (hX.ext hE) (mkx MV.mono hu hE) (mkx RV.mono ht hE) (by omega);rw[hok]at hpr;obtain⟨ua,uc,rfl,huc,hus⟩:=hu;obtain⟨ta,tc,rfl,htc,hts⟩:=ht;obtain⟨b,hb⟩:∃b,w.heap.size=b:=⟨_,rfl⟩;have hbw:w.heap.size<=b:=by omega
 rw[hb]at b0 hz;obtain⟨n,hn⟩:∃n,x.length=n:=⟨_,rfl⟩;obtain⟨q,hq⟩:∃q,y.length=q:=⟨_,rfl⟩;rw[hn,hq]at hpr;rw[hn,hq];clear hok hn hq hus hts huc htc hl;go_enter Tryz.func51,Tryz.ntmps51
 go_wp2_with fail
 refine hpr.mono ?_;rintro ee w1 ⟨hE1,rfl⟩;have b1:=b0.ext0 hE1;clear hpr;go_wp2_with ((show wpList _ _ _ (⟨_, .store _ _ _,_,_,_,_⟩::_) _ _);refine a0b a3h rfl rfl b1 rfl rfl b6m ?_;intro w7 r1 r2)
 exact bodyPost_ret (a0V rfl rfl a3h r1 rfl) rfl ⟨ExtX.box (hE.trans hE1) r2 hbw,rfl⟩
set_option maxRecDepth 100000 in
set_option maxHeartbeats 800000 in
theorem b4X (X:Nat->Bool) (w:World) (u t:Value) (x:Mat) (y:List Rat) (hX:HX X w) (hu:MV (mk X w) u x) (ht:RV (mk X w) t y) (hok:a4Z x y=false) (hl:x.length<=1000000):
  Calls Tryz.prog 39 #[u,t] w (b4W w (.agg #[.int .i64 0, .slice none 0 0, .slice none 0 0, .slice none 0 0, .bool false, .slice none 0 0, .slice none 0 0, .slice none 0 0])):=by
 obtain⟨W,hW,hE,b0,hz⟩:=a1A w #[.int .i64 0, .slice none 0 0, .slice none 0 0, .slice none 0 0, .bool false, .slice none 0 0, .slice none 0 0, .slice none 0 0] 63;have hga:=b0b X W u t x y (hX.ext hE) (mkx MV.mono hu hE) (mkx RV.mono ht hE) hok hl;obtain⟨ua,uc,rfl,huc,hus⟩:=hu;obtain⟨ta,tc,rfl,htc,hts⟩:=ht;obtain⟨b,hb⟩:∃b,w.heap.size=b:=⟨_,rfl⟩;have hbw:w.heap.size<=b:=by omega
 rw[hb]at b0 hz;obtain⟨n,hn⟩:∃n,x.length=n:=⟨_,rfl⟩;obtain⟨q,hq⟩:∃q,y.length=q:=⟨_,rfl⟩;rw[hn,hq]at hga;rw[hn,hq];clear hok hn hq hus hts huc htc hl;go_enter Tryz.func39,Tryz.ntmps39
 go_wp2_with fail
 refine hga.mono ?_;rintro ee w1 ⟨hE1,rfl⟩;have b1:=b0.ext0 hE1;have bm:=Bx.new w1 #[.int .i64 0, .slice none 0 0, .slice none 0 0, .bool false, .slice none 0 0, .slice none 0 0] 83;have hb1:b<w1.heap.size:=a2a (b1.cell 0 rfl);clear hga;go_wp2_with ((show wpList _ _ _ (⟨_, .store _ _ _,_,_,_,_⟩::_) _ _);first
  |(refine a0b a3h rfl rfl bm rfl rfl b6m ?_;intro w2 m1 m2;have b2:=(b1.ext0 ((ExtX.refl w1).alloc _)).ext m2 (a0d (by omega)))
  |(refine a0b a3m rfl rfl b2 rfl rfl b6l ?_;intro w7 r1 r2))
 have hE2:Ext w1 w2:=ExtX.box ((ExtX.refl w1).alloc _) m2 (Nat.le_refl _);exact bodyPost_ret (a0V rfl rfl a3m r1 rfl) rfl ⟨ExtX.box (hE.trans (hE1.trans hE2)) r2 hbw,rfl⟩
set_option maxRecDepth 100000 in
set_option maxHeartbeats 800000 in
theorem b4Y (X:Nat->Bool) (w:World) (u t:Value) (x:Mat) (y:List Rat) (hX:HX X w) (hu:MV (mk X w) u x) (ht:RV (mk X w) t y) (hok:a4Z x y=false) (hl:x.length<=1000000):
  Calls Tryz.prog 35 #[u,t] w (b4W w (.agg #[.int .i64 0, .slice none 0 0, .slice none 0 0, .slice none 0 0, .bool false, .slice none 0 0, .slice none 0 0, .slice none 0 0])):=by
 obtain⟨W,hW,hE,b0,hz⟩:=a1A w #[.int .i64 0, .slice none 0 0, .slice none 0 0, .slice none 0 0, .bool false, .slice none 0 0, .slice none 0 0, .slice none 0 0] 63;have hpr:=a4j X W u t x y (hX.ext hE) (mkx MV.mono hu hE) (mkx RV.mono ht hE) (by omega);rw[hok]at hpr;obtain⟨ua,uc,rfl,huc,hus⟩:=hu;obtain⟨ta,tc,rfl,htc,hts⟩:=ht;obtain⟨b,hb⟩:∃b,w.heap.size=b:=⟨_,rfl⟩;have hbw:w.heap.size<=b:=by omega
 rw[hb]at b0 hz;obtain⟨n,hn⟩:∃n,x.length=n:=⟨_,rfl⟩;obtain⟨q,hq⟩:∃q,y.length=q:=⟨_,rfl⟩;rw[hn,hq]at hpr;rw[hn,hq];clear hok hn hq hus hts huc htc hl;go_enter Tryz.func35,Tryz.ntmps35
 go_wp2_with fail
 refine hpr.mono ?_;rintro ee w1 ⟨hE1,rfl⟩;have b1:=b0.ext0 hE1;clear hpr;go_wp2_with ((show wpList _ _ _ (⟨_, .store _ _ _,_,_,_,_⟩::_) _ _);refine a0b a3m rfl rfl b1 rfl rfl b6l ?_;intro w7 r1 r2)
 exact bodyPost_ret (a0V rfl rfl a3m r1 rfl) rfl ⟨ExtX.box (hE.trans hE1) r2 hbw,rfl⟩
end Go.Proofs.YtkddecjkfdogiaaGreat
namespace Go.Lin
def a5X (x:Mat) (y b:List Rat):Bool:=a4Z x y&&decide (b.length=colsL x)
end Go.Lin
namespace Go.Proofs.YtkddecjkfdogiaaGreat
open Go.RowKit Go.Rep Go.Lim Go.Lin
set_option maxRecDepth 100000 in
set_option maxHeartbeats 1600000 in
theorem a6f (X:Nat->Bool) (w:World) (u v t:Value) (x:Mat) (y b:List Rat) (B:Nat) (hX:HX X w) (hu:MV (mk X w) u x) (hv:RV (mk X w) v y) (ht:RV (mk X w) t b) (hl:x.length<=1099511627776) (hxB:BM B x) (hbB:BR B b) (hB1:1<=B) (hBB:200*B<=68000000000):
  Calls Tryz.prog 62 #[u,v,t] w (fun e w'=>Ext w w'/\∃z,e= .returned (.tuple #[z, .int .i64 (if a5X x y b=true then 0 else 6)])/\RC (mk X w') z (if a5X x y b=true then a2K x y b else[])):=by
 have hpr:=a4i X w u v x y hX hu hv hl;cases hok:a4Z x y
 ·rw[hok]at hpr
  have hr:a5X x y b=false:=by unfold a5X;rw[hok];rfl
  rw[hr,if_neg (by decide),if_neg (by decide)];clear hok hr;go_enter Tryz.func62,Tryz.ntmps62
  go_wp2_with fail
  refine hpr.mono ?_;rintro e w1 ⟨hE1,rfl⟩;go_wp2_with fail
  go_ret2
  exact⟨hE1,_,rfl,SlV.zero _ _ _⟩
 ·rw[hok]at hpr
  obtain⟨hf,h1,h64,h12,hyl⟩:=a1T.1 hok;obtain⟨hsh,h96,hc96,hpos,_⟩:=a0w hf;have hrs:=hid fun w' (h:Ext w w') (hb:b.length=colsL x)=>a9s X w' u v t x y b x.length (colsL x) B (hX.ext h) (mkx MV.mono hu h) (mkx RV.mono hv h) (mkx RV.mono ht h) hsh hyl hb h96 hc96 hxB hbB hB1 hBB;obtain⟨ua,uc,rfl,huc,hus⟩:=hu;obtain⟨ta,tc,rfl,htc,hts⟩:=ht;have hhu:=hus.hd;obtain⟨a1,c1,hX1,hc1,hcl1,hq1⟩:=hus.row 0 (by omega);rw[<-a1R (by omega)]at hc1;have hrk:Hid (b.length=colsL x->a5X x y b=true):=hid fun h=>by unfold a5X;rw[hok,decide_eq_true h];rfl
  have hrn:Hid (b.length≠colsL x->a5X x y b=false):=hid fun h=>by unfold a5X;rw[hok,decide_eq_false h];rfl
  obtain⟨n,hn⟩:∃n,x.length=n:=⟨_,rfl⟩;obtain⟨c,hc⟩:∃c,colsL x=c:=⟨_,rfl⟩;obtain⟨k,hk⟩:∃k,b.length=k:=⟨_,rfl⟩;rw[hn]at hpr hrs hhu h1;rw[hc]at hrs hc1;rw[hk,hc]at hrk hrn;rw[hk]at hrs;rw[hn,hk];clear hok hf h64 h12 hyl hsh h96 hc96 hpos hq1 hcl1 hn hc hk hts hus huc htc;have hI:(0:Int)<=0/\(0:Int)<(n:Int):=by omega
  by_cases hkc:k=c
  ·have hd:((k:Int) !=(c:Int))=false:=a7j (by omega)
   rw[hrk.out hkc,if_pos rfl,if_pos rfl];have hrs2:=hid fun w' h=>hrs.out w' h hkc;clear hkc hrs hrk hrn;go_enter Tryz.func62,Tryz.ntmps62
   go_wp2_with fail
   refine hpr.mono ?_;rintro e w1 ⟨hE1,rfl⟩;have k00:=hc1.out noY w1 hE1 rfl;have h3:=hrs2.out w1 hE1;clear hpr;go_wp2_with (with_reducible refine a0t a0r (by omega) (by assumption) ?_)
   refine h3.mono ?_;rintro e w2 ⟨hE2,z,rfl,hz⟩;clear h3;go_wp2_with fail
   go_ret2
   exact⟨hE1.trans hE2,_,rfl,hz⟩
  ·have hd:((k:Int) !=(c:Int))=true:=a7g (by omega)
   rw[hrn.out hkc,if_neg (by decide),if_neg (by decide)];clear hkc hrs hrk hrn;go_enter Tryz.func62,Tryz.ntmps62
   go_wp2_with fail
   refine hpr.mono ?_;rintro e w1 ⟨hE1,rfl⟩;have k00:=hc1.out noY w1 hE1 rfl;clear hpr;go_wp2_with (with_reducible refine a0t a0r (by omega) (by assumption) ?_)
   go_ret2
   exact⟨hE1,_,rfl,SlV.zero _ _ _⟩
set_option maxRecDepth 100000 in
set_option maxHeartbeats 1600000 in
theorem a6g (X:Nat->Bool) (w:World) (u v t:Value) (x:Mat) (y b:List Rat) (B:Nat) (hX:HX X w) (hu:MV (mk X w) u x) (hv:RV (mk X w) v y) (ht:RV (mk X w) t b) (hl:x.length<=1099511627776) (hxB:BM B x) (hbB:BR B b) (hB1:1<=B) (hBB:200*B<=68000000000):
  Calls Tryz.prog 43 #[u,v,t] w (fun e w'=>Ext w w'/\∃z,e= .returned (.tuple #[z, .int .i64 (if a5X x y b=true then 0 else 6)])/\RC (mk X w') z (if a5X x y b=true then a2K x y b else[])):=by
 have hpr:=a4j X w u v x y hX hu hv hl;cases hok:a4Z x y
 ·rw[hok]at hpr
  have hr:a5X x y b=false:=by unfold a5X;rw[hok];rfl
  rw[hr,if_neg (by decide),if_neg (by decide)];clear hok hr;go_enter Tryz.func43,Tryz.ntmps43
  go_wp2_with fail
  refine hpr.mono ?_;rintro e w1 ⟨hE1,rfl⟩;go_wp2_with fail
  go_ret2
  exact⟨hE1,_,rfl,SlV.zero _ _ _⟩
 ·rw[hok]at hpr
  obtain⟨hf,h1,h64,h12,hyl⟩:=a1T.1 hok;obtain⟨hsh,h96,hc96,hpos,_⟩:=a0w hf;have hrs:=hid fun w' (h:Ext w w') (hb:b.length=colsL x)=>a9t X w' u v t x y b x.length (colsL x) B (hX.ext h) (mkx MV.mono hu h) (mkx RV.mono hv h) (mkx RV.mono ht h) hsh hyl hb h96 hc96 hxB hbB hB1 hBB;obtain⟨ua,uc,rfl,huc,hus⟩:=hu;obtain⟨ta,tc,rfl,htc,hts⟩:=ht;have hhu:=hus.hd;obtain⟨a1,c1,hX1,hc1,hcl1,hq1⟩:=hus.row 0 (by omega);rw[<-a1R (by omega)]at hc1;have hrk:Hid (b.length=colsL x->a5X x y b=true):=hid fun h=>by unfold a5X;rw[hok,decide_eq_true h];rfl
  have hrn:Hid (b.length≠colsL x->a5X x y b=false):=hid fun h=>by unfold a5X;rw[hok,decide_eq_false h];rfl
  obtain⟨n,hn⟩:∃n,x.length=n:=⟨_,rfl⟩;obtain⟨c,hc⟩:∃c,colsL x=c:=⟨_,rfl⟩;obtain⟨k,hk⟩:∃k,b.length=k:=⟨_,rfl⟩;rw[hn]at hpr hrs hhu h1;rw[hc]at hrs hc1;rw[hk,hc]at hrk hrn;rw[hk]at hrs;rw[hn,hk];clear hok hf h64 h12 hyl hsh h96 hc96 hpos hq1 hcl1 hn hc hk hts hus huc htc;have hI:(0:Int)<=0/\(0:Int)<(n:Int):=by omega
  by_cases hkc:k=c
  ·have hd:((k:Int) !=(c:Int))=false:=a7j (by omega)
   rw[hrk.out hkc,if_pos rfl,if_pos rfl];have hrs2:=hid fun w' h=>hrs.out w' h hkc;clear hkc hrs hrk hrn;go_enter Tryz.func43,Tryz.ntmps43
   go_wp2_with fail
   refine hpr.mono ?_;rintro e w1 ⟨hE1,rfl⟩;have k00:=hc1.out noY w1 hE1 rfl;have h3:=hrs2.out w1 hE1;clear hpr;go_wp2_with (with_reducible refine a0t a0r (by omega) (by assumption) ?_)
   refine h3.mono ?_;rintro e w2 ⟨hE2,z,rfl,hz⟩;clear h3;go_wp2_with fail
   go_ret2
   exact⟨hE1.trans hE2,_,rfl,hz⟩
  ·have hd:((k:Int) !=(c:Int))=true:=a7g (by omega)
   rw[hrn.out hkc,if_neg (by decide),if_neg (by decide)];clear hkc hrs hrk hrn;go_enter Tryz.func43,Tryz.ntmps43
   go_wp2_with fail
   refine hpr.mono ?_;rintro e w1 ⟨hE1,rfl⟩;have k00:=hc1.out noY w1 hE1 rfl;clear hpr;go_wp2_with (with_reducible refine a0t a0r (by omega) (by assumption) ?_)
   go_ret2
   exact⟨hE1,_,rfl,SlV.zero _ _ _⟩
end Go.Proofs.YtkddecjkfdogiaaGreat
namespace Go.Rep
open Go.RowKit Go.Lim
theorem MO.empty (X:Nat->Bool) (base:Nat) (e1 e2:TypeId) (w:World):MO X base e1 e2 w none 0 [] []:=
 ⟨OL.nil _ _ _ _ _ _,rfl,fun _ h=>by simp at h,fun _ h=>by simp at h,fun _ h=>by simp at h,fun _ _ h=>by simp at h⟩
theorem MO.push {X:Nat->Bool} {base:Nat} {e1 e2:TypeId} {w w1 w':World} {ao oo2:Option Addr} {cap co2:Nat} {hs:List Hdr} {m:List (List Rat)} (h:MO X base e1 e2 w ao cap hs m) {a:Option Addr} {c:Nat} {l:List Rat}
  (hE1:Ext w w1) (hnew:∀k,ob a k=true->w.heap.size<=k) (hr:OL QC 3 (mz X ao hs) base e2 w1 a c l) (hX:HX X w)
  (hE:ExtX (ob ao) w1 w') (ho:OL HdR 1 X base e1 w' oo2 co2 (hs++[(a,l.length,c)])) (hor:oo2=ao\/∃g,oo2=some ⟨g,0,none⟩/\w1.heap.size<=g):MO X base e1 e2 w' oo2 co2 (hs++[(a,l.length,c)]) (m++[l]):=by
 have hlen:=h.len;have hE':ExtX (ob ao) w w':=(ExtX.of hE1).trans hE;have hs1:=hE1.size;have hobs:∀k,obs (hs++[(a,l.length,c)]) k=true↔obs hs k=true\/ob a k=true:=fun k=>by
  unfold obs;simp[List.any_append]
 have hold:∀k,mb ao hs k=true->ob a k=false:=fun k hk=>by
  cases hb:ob a k
  ·rfl
  ·have:=hnew k hb;have:=(h.mb_block hk).2;omega
 have hlt:∀k,k<w1.heap.size->ob oo2 k=true->ob ao k=true:=fun k hk h2=>by
  rcases hor with rfl|⟨g,rfl,hg⟩
  ·exact h2
  ·have:g=k:=by simpa[ob]using h2
   omega
 have hrow:∀i (hi:i<hs.length) k,ob hs[i].1 k=true->ob oo2 k=false:=fun i hi k hk=>by
  cases hb:ob oo2 k
  ·rfl
  ·have h1:=(h.mb_block (a1S.2 (.inr (a1u hi hk)))).2
   have h2:=hlt k (by omega) hb;have:=(h.sep i hi k hk).2;rw[h2]at this;simp at this
 have hral:∀k,ob a k=true->ob oo2 k=false:=fun k hk=>by
  cases hb:ob oo2 k
  ·rfl
  ·have h1:=(hr.block hk).2
   have h2:=hlt k h1 hb;have:=hold k (a1S.2 (.inl h2));rw[hk]at this;simp at this
 have hXa:∀k,ob a k=true->X k=false:=fun k hk=>by
  cases hb:X k
  ·rfl
  ·have:=hX k hb;have:=hnew k hk;omega
 refine⟨ho,by simp[hlen],fun j hj hj'=>?_,fun j hj hj'=>?_,fun j hj k hk=>?_,fun j q hj hq hjq k hk=>?_⟩
 ·rw[List.getElem_append,List.getElem_append]
  by_cases hjl:j<hs.length
  ·rw[dif_pos hjl,dif_pos (by omega)];exact h.rlen j hjl (by omega)
  ·rw[dif_neg hjl,dif_neg (by omega)];simp
 ·by_cases hjl:j<hs.length
  ·have e1:(hs++[(a,l.length,c)])[j]=hs[j]:=List.getElem_append_left hjl
   have e2:(m++[l])[j]=m[j]'(by omega):=List.getElem_append_left (by omega);rw[e1,e2];refine(h.row j hjl (by omega)).ext QC.elem hE' (fun k _ hk=>a2R (a1f.2 (.inr (.inl hk))) ?_) (fun k hk hz=>?_)
   ·cases hb:ob hs[j].1 k
    ·rfl
    ·have:=(h.sep j hjl k hb).2;rw[hk]at this;simp at this
   ·obtain⟨h1,h2⟩:=a6t hz
    rcases a1f.1 h1 with h3|h3|h3
    ·exact a2R (a1f.2 (.inl h3)) h2
    ·exact a2R (a1f.2 (.inr (.inl (hlt k (by omega) h3)))) h2
    ·rcases(hobs k).1 h3 with h4|h4
     ·exact a2R (a1f.2 (.inr (.inr h4))) h2
     ·have:=hnew k h4;omega
  ·have hje:j=hs.length:=by have:j<(hs++[(a,l.length,c)]).length:=hj;simp at this;omega
   subst hje;have e1:(hs++[(a,l.length,c)])[hs.length]=(a,l.length,c):=by simp
   have e2:(m++[l])[hs.length]'hj'=l:=by simp[hlen]
   rw[e1,e2];refine hr.ext QC.elem hE (fun k _ hk=>a1f.2 (.inr (.inl hk))) (fun k hk hz=>?_);obtain⟨h1,h2⟩:=a6t hz;rcases a1f.1 h1 with h3|h3|h3
   ·exact a1f.2 (.inl h3)
   ·exact a1f.2 (.inr (.inl (hlt k hk h3)))
   ·rcases(hobs k).1 h3 with h4|h4
    ·exact a1f.2 (.inr (.inr h4))
    ·dsimp only at h2;rw[h2]at h4;simp at h4
 ·rw[List.getElem_append]at hk
  split at hk
  ·rename_i hjl
   exact⟨(h.sep j hjl k hk).1,hrow j hjl k hk⟩
  ·have hk:ob a k=true:=by simpa using hk
   exact⟨hXa k hk,hral k hk⟩
 ·rw[List.getElem_append]at hk |-
  split at hk
  ·rename_i hjl
   split
   ·rename_i hql
    exact h.dis j q hjl hql hjq k hk
   ·simp only[List.getElem_singleton]
    exact hold k (a1S.2 (.inr (a1u hjl hk)))
  ·rename_i hjl
   have hk:ob a k=true:=by simpa using hk
   split
   ·rename_i hql
    cases hb:ob hs[q].1 k
    ·rfl
    ·have:=hold k (a1S.2 (.inr (a1u hql hb)));rw[hk]at this;simp at this
   ·have h1:j<(hs++[(a,l.length,c)]).length:=hj
    have h2:q<(hs++[(a,l.length,c)]).length:=hq;simp at h1 h2;omega
end Go.Rep
namespace Go.Proofs.YtkddecjkfdogiaaGreat
open Go.RowKit Go.Rep Go.Lim Go.Lin
end Go.Proofs.YtkddecjkfdogiaaGreat
namespace Go.Lin
open Go.Lim
end Go.Lin
namespace Go.Rep
open Go.RowKit Go.Lim Go.Lin
def hK (k:Nat) (h:Hdr):Hdr:=(h.1,k,k)
def b7d (X:Nat->Bool) (w1 wr:World) (e1 e2:TypeId) (mo:Option Addr) (mc:Nat) (hds:List Hdr) (F M:Mat) (Y:List Rat) (k i:Nat) (xo:Option Addr) (xc:Nat) (yo:Option Addr) (yc:Nat):Prop:=
 MO (un (un X xo) yo) w1.heap.size e1 e2 wr mo mc hds (mix F M i)/\OL HdR 1 (un (mz X mo hds) yo) w1.heap.size e1 wr xo xc ((hds.map (hK k)).take i)/\OL QC 3 (un (mz X mo hds) xo) w1.heap.size e2 wr yo yc (Y.take i)/\Ext w1 wr
theorem b7d.next {X:Nat->Bool} {w1 wa v:World} {e1 e2:TypeId} {mo:Option Addr} {mc:Nat} {hds:List Hdr} {F M:Mat} {Y:List Rat} {k i:Nat} {xo yo xo' yo':Option Addr} {xc yc xc' yc':Nat} {a:Option Addr} {kp cr:Nat} {yv:Rat}
  (hM:MO (un (un X xo) yo) w1.heap.size e1 e2 wa mo mc hds (mix F M (i+1))) (hx:OL HdR 1 (un (mz X mo hds) yo) w1.heap.size e1 wa xo xc ((hds.map (hK k)).take i)) (hy:OL QC 3 (un (mz X mo hds) xo) w1.heap.size e2 wa yo yc (Y.take i)) (hE:Ext w1 wa)
  (hih:i<hds.length) (hd:hds[i]=(a,kp,cr)) (hiY:i<Y.length) (hyv:Y[i]=yv)
  (D:ExtX (two xo yo) wa.drew v) (o1:xo'=xo\/∃g,xo'=some ⟨g,0,none⟩/\wa.drew.heap.size<=g) (o2:yo'=yo\/∃g,yo'=some ⟨g,0,none⟩/\wa.drew.heap.size<=g)
  (h1:OL HdR 1 (un (mz X mo hds) yo') w1.heap.size e1 v xo' xc' ((hds.map (hK k)).take i++[(a,k,k)])) (h2:OL QC 3 (un (mz X mo hds) xo') w1.heap.size e2 v yo' yc' (Y.take i++[yv])):
  b7d X w1 v e1 e2 mo mc hds F M Y k (i+1) xo' xc' yo' yc':=by
 have hEd:Ext wa wa.drew:=(ExtX.refl wa).drew;have D':ExtX (two xo yo) wa v:=(ExtX.of hEd).trans D;refine⟨hM.ext D' (fun q _ hq=>?_) (fun q hq h=>b6h (w:=wa.drew) o1 o2 q hq h),?_,?_,hE.then_ D' fun q hq _=>?_⟩
 ·exact b6i q hq
 ·rw[List.take_succ_eq_append_getElem (by simpa using hih)]
  simp only[List.getElem_map,hd,hK];exact h1
 ·rw[List.take_succ_eq_append_getElem hiY,hyv];exact h2
 ·unfold two
  rw[hx.ob_lt hq,hy.ob_lt hq];rfl
end Go.Rep
namespace Go.Proofs.YtkddecjkfdogiaaGreat
open Go.RowKit Go.Rep Go.Lim Go.Lin
end Go.Proofs.YtkddecjkfdogiaaGreat
namespace Go.Lin
open Go.Lim Go.Rep
end Go.Lin
namespace Go.Proofs.YtkddecjkfdogiaaGreat
open Go.RowKit Go.Rep Go.Lim Go.Lin
end Go.Proofs.YtkddecjkfdogiaaGreat
namespace Go.Lin
theorem b4Z (m:Mat) (n c j:Nat) (_hj:j<c) (h:j<(trL m n c).length):(trL m n c)[j]=(List.range n).map fun p=>ent m p j:=by simp[trL]
end Go.Lin
namespace Go.Proofs.YtkddecjkfdogiaaGreat
open Go.RowKit Go.Rep Go.Lim Go.Lin
set_option maxRecDepth 100000 in
set_option maxHeartbeats 800000 in
theorem a4M (X:Nat->Bool) (w:World) (u:Value) (m:List (List Rat)) (n c:Nat) (hX:HX X w) (hu:MV (mk X w) u m) (hf:a0v m=true) (hnn:m.length=n) (hcc:colsL m=c):Calls Tryz.prog 40 #[u] w (b2E X w (trL m n c)):=by
 obtain⟨hsh,h96,hc96,_,_⟩:=a0w hf;rw[hnn,hcc]at hsh;rw[hnn]at h96;rw[hcc]at hc96;have hfo:=a3K QV.mono X w u m hu (by omega);rw[hf]at hfo;have hcol:=hid (fun w' (h:Ext w w')=>a3Q X w' u m (mkx MV.mono hu h));rw[hcc]at hcol;obtain⟨M,hM⟩:∃M,trL m n c=M:=⟨_,rfl⟩;have hMl:Hid (M.length=c):=hid (by rw[<-hM];exact(a1t m n c).1);have hMr:Hid (∀j (hj:j<c) (h:j<M.length),M[j]=(List.range n).map fun p=>ent m p j):=hid fun j hj h=>by subst hM;exact b4Z m n c j hj h
 have hMl2:M.length<=c:=by rw[hMl.out];exact Nat.le_refl _
 have hMl3:c<=M.length:=by rw[hMl.out];exact Nat.le_refl _
 have hnn':=hid hnn;have hsh':=hid hsh;rw[hM];obtain⟨ua,uca,rfl,huca,hua⟩:=hu;have hhu:=hua.hd;rw[hnn]at hfo hcol huca hhu |-;clear hM hf hnn hcc hsh;go_enter Tryz.func40,Tryz.ntmps40
 go_wp2_with fail
 refine hfo.mono ?_;rintro e w1 ⟨hE1,rfl⟩;go_wp2_with fail
 go_loopw [4,5] (fun o cc wr=>∃(j:Nat) (oo:Option Addr) (co:Nat),cc= .int .i64 j/\o= .slice oo j co/\j<=c/\OL RC 1 X w.heap.size 45 wr oo co (M.take j)/\Ext w wr) (fun _ cc _=>c - (intOf cc).toNat)
 case atStart=>exact⟨0,none,0,rfl,rfl,Nat.zero_le _,OL.nil _ _ _ _ _ _,hE1⟩
 case round=>
  obtain⟨j,oo,co,rfl,rfl,hj,hO,hE⟩:=hrel;have hXr:HX X wr:=hX.ext hE;have hXu:HX (un X oo) wr:=hO.unX hXr;have hbase:=hE.size;have hcr:=hcol.out wr hE;by_cases hlt:j<c
  ·have hltM:j<M.length:=by omega
   have htk:=hid (a0L M j hltM);have hln:=hid (a0Y (l:=M) (i:=j) (by omega));obtain⟨R,hR⟩:∃R,M[j]=R:=⟨_,rfl⟩;have hRd:=hMr.out j hlt hltM;rw[hR]at hRd htk;have hRl:Hid (R.length=n):=hid (by rw[hRd];simp);have hRi:Hid (∀i (hi:i<n) (h:i<R.length),R[i]=ent m i j):=hid fun i hi h=>by subst hRd;simp
   have hRl2:R.length<=n:=by rw[hRl.out];exact Nat.le_refl _
   have hRl3:n<=R.length:=by rw[hRl.out];exact Nat.le_refl _
   clear hRd hR;obtain⟨wo,hwo⟩:∃wo,wo=wr:=⟨_,rfl⟩;subst hwo;go_wp2_with fail
   refine hcr.mono ?_;rintro e w2 ⟨rfl,rfl⟩;go_wp2_with fail
   go_loopw [6,7] (fun o cc wx=>∃(i:Nat) (ro:Option Addr) (cr:Nat),cc= .int .i64 i/\o= .slice ro i cr/\i<=n/\OL QC 3 (un X oo) w2.heap.size 32 wx ro cr (R.take i)/\Ext w2 wx) (fun _ cc _=>n - (intOf cc).toNat)
   case atStart=>exact⟨0,none,0,rfl,rfl,Nat.zero_le _,OL.nil _ _ _ _ _ _,ExtX.refl _⟩
   case round=>
    obtain⟨i,ro,cr,rfl,rfl,hi,hOr,hEr⟩:=hrel;have hXx:HX (un X oo) wr:=hXu.ext hEr;have hXy:HX (un (un X oo) ro) wr:=hOr.unX hXx;have hbr:=hEr.size;by_cases hli:i<n
    ·have him:i<m.length:=by rw[hnn'.out];exact hli
     have hliR:i<R.length:=by omega
     have htj:=hid (a0L R i hliR);have hlnj:=hid (a0Y (l:=R) (i:=i) (by omega));have hRj:=hRi.out i hli hliR;rw[hRj]at htj;have hsr0:Sl RV 1 (mk (un X oo) w2) ua m:=hua.old RV.mono hE (fun j hj=>hO.ob_lt hj);have hsr:Sl RV 1 (mk (un (un X oo) ro) wr) ua m:=hsr0.old RV.mono hEr (fun j hj=>hOr.ob_lt hj);obtain⟨a1,c1,hX1,hc1,hcl1,hq1⟩:=hsr.row i him;have k00:=hc1.out noY wr (ExtX.refl _) rfl;have hrl:Hid (m[i].length=c):=hid (hsh'.out.2 m[i] (List.getElem_mem _));have hjm:j<m[i].length:=by rw[hrl.out];exact hlt
     have hei:=hid (a9q him hjm);obtain⟨x,hx⟩:∃x,m[i]=x:=⟨_,rfl⟩;rw[hrl.out]at k00 hcl1;have hh1:Hd a1 c:=by have:=hq1.hd;rw[hrl.out]at this;exact this
     obtain⟨v,hv⟩:∃v,ent m i j=v:=⟨_,rfl⟩;rw[hv]at hei htj;clear hc1 hRj hv hx;go_wp2_with (first|(with_reducible refine a0t a0r (by omega) (by assumption) ?_)|(with_reducible refine a1N a0A (by omega) (by assumption) ?_)|((with_reducible show wpList _ _ _ (⟨_, .load 32 _,_,_,_,_⟩::_) _ _);refine a0J a0u j hq1 hjm rfl (by simp) QV.agg ?_;intro u5 hu5;rw[hei.out]at hu5;obtain⟨s5,a5,n5,c5,d5,k5,e5,rfl⟩:=hu5.shape))
     refine(a3k (un (un X oo) ro) wr _ _ hXy hu5).mono ?_;rintro e w6 ⟨hE6,u6,rfl,hu6⟩;obtain⟨s6,a6,n6,c6,d6,k6,e6,rfl⟩:=hu6.shape;have hO6:=hOr.ext0 QC.elem hE6;have hb6:=hE6.size;clear k00;go_wp2_with (at_builtin;refine a0x (l:=R.take i) a0A rfl QC.elem (by omega) (hXx.ext hE6) i hlnj.out rfl rfl hO6 (.agg #[.bool s6, .slice a6 n6 c6, .slice d6 k6 e6]) v rfl hu6 (by omega) (by omega) ?_;intro oo2 co2 w7 hO7 hE7 hor)
     have hE8:=(hEr.trans hE6).own hO6 (Nat.le_refl _) hE7;rw[htj.out]at hO7;go_roundw
     case rel=>exact⟨i+1,oo2,co2,by go_num,by go_num,by omega,hO7,hE8⟩
     case measure=>simp[intOf];omega
    ·have hin:i=n:=by omega
     subst hin;rw[List.take_of_length_le (by omega)]at hOr;have hcr:=hOr.lenCap;have hsR:=hOr.sl QC.elem;have hO6:=hO.ext0 RC.elem hEr;have hRC:RC (mk (un X oo) wr) (.slice ro i cr) R:=⟨ro,cr,by rw[hRl.out],hcr,hsR⟩;go_wp2_with (at_builtin;refine a0x (l:=M.take j) a0r rfl RC.elem (by omega) (hXr.ext hEr) j hln.out rfl rfl hO6 (.slice ro i cr) R rfl hRC (by omega) (by omega) ?_;intro oo2 co2 w7 hO7 hE7 hor)
     have hE8:=(hE.trans hEr).own hO6 (Nat.le_refl _) hE7;rw[htk.out]at hO7;go_roundw
     case rel=>exact⟨j+1,oo2,co2,by go_num,by go_num,by omega,hO7,hE8⟩
     case measure=>simp[intOf];omega
  ·have hil:j=c:=by omega
   subst hil;rw[List.take_of_length_le (by omega)]at hO;have hc:=hO.lenCap;have hs:=hO.sl RC.elem;go_wp2_with fail
   refine hcr.mono ?_;rintro e w2 ⟨rfl,rfl⟩;go_wp2_with fail
   go_ret2
   exact⟨hE,_,rfl,oo,co,by rw[hMl.out];rfl,hc,hs⟩
set_option maxRecDepth 100000 in
theorem a7T (X:Nat->Bool) (w:World) (u v:Value) (m:List (List Rat)) (x:List Rat) (B:Nat) (hX:HX X w) (hu:MV (mk X w) u m) (hv:RV (mk X w) v x) (hf:a0v m=true) (hc:x.length=colsL m) (hB:BM B m) (hB2:BR B x) (hB1:1<=B) (hBB:200*B<=68000000000):Calls Tryz.prog 55 #[u,v] w (b5T X w (a2g m x)):=by
 obtain⟨hsh,h96,hc96,_,_⟩:=a0w hf;have hfo:=a3K QV.mono X w u m hu (by omega);rw[hf]at hfo;have hcol:=hid (fun w' (h:Ext w w')=>a3Q X w' u m (mkx MV.mono hu h));obtain⟨ua,uca,rfl,huca,hua⟩:=hu;obtain⟨va,vca,rfl,hvca,hva⟩:=hv;have hhu:=hua.hd;obtain⟨c,hce⟩:∃c,colsL m=c:=⟨_,rfl⟩;rw[hce]at hcol hc hc96 hsh;have hne:((x.length:Int) !=(c:Int))=false:=a7j (by omega);have hsh':=hid hsh;have hcc:=hid hc;have hB':=hid hB;have hB2':=hid hB2;obtain⟨n,hn⟩:∃n,m.length=n:=⟨_,rfl⟩;rw[hn]at hfo hcol huca hhu h96 |-;have hnn:=hid hn;have hal:Hid ((a2g m x).length=n):=hid (by rw[a2J];exact hn);clear hf hsh hn hc hce hB hB2;go_enter Tryz.func55,Tryz.ntmps55
 go_wp2_with fail
 refine hfo.mono ?_;rintro e w1 ⟨hE1,rfl⟩;have hcr:=hcol.out w1 hE1;go_wp2_with fail
 refine hcr.mono ?_;rintro e w2 ⟨rfl,rfl⟩;go_wp2_with fail
 go_loopw [6,7] (fun o k wr=>∃(i:Nat) (oo:Option Addr) (co:Nat),k= .int .i64 i/\o= .slice oo i co/\i<=n/\OL QC 3 X w.heap.size 32 wr oo co ((a2g m x).take i)/\Ext w wr) (fun _ k _=>n - (intOf k).toNat)
 case atStart=>exact⟨0,none,0,rfl,rfl,Nat.zero_le _,OL.nil _ _ _ _ _ _,hE1⟩
 case round=>
  obtain⟨i,oo,co,rfl,rfl,hi,hO,hE⟩:=hrel;have hXr:HX X wr:=hX.ext hE;have hXu:HX (un X oo) wr:=hO.unX hXr;have hbase:=hE.size;by_cases hlt:i<n
  ·have him:i<m.length:=by rw[hnn.out];exact hlt
   have hiA:i<(a2g m x).length:=by rw[hal.out];exact hlt
   have hsr:Sl RV 1 (mk (un X oo) wr) ua m:=hua.old RV.mono hE (fun j hj=>hO.ob_lt hj);have hvr:RV (mk (un X oo) wr) (.slice va x.length vca) x:=a4y RV.mono ⟨va,vca,rfl,hvca,hva⟩ hE (fun j hj=>hO.ob_lt hj);have htk:=hid (a0L (a2g m x) i hiA);have hln:=hid (a0Y (l:=a2g m x) (i:=i) (by omega));obtain⟨a1,c1,hX1,hc1,hcl1,hq1⟩:=hsr.row i him;have k00:=hc1.out noY wr (ExtX.refl _) rfl;have hrl:=hid (hsh'.out.2 m[i] (List.getElem_mem _));have hge:=hid (a3F (v:=x) him hiA);have hdb:=a1w (hB'.out m[i] (List.getElem_mem _)) hB2'.out hB1 (by rw[hrl.out];exact hc96) hBB;have hdot:=a4J (un X oo) wr _ _ m[i] x hXu ⟨a1,c1,rfl,hcl1,hq1⟩ hvr (by rw[hrl.out];omega) (by rw[hrl.out,hcc.out]) hdb.1 hdb.2;rw[<-hge.out]at hdot;obtain⟨v,hv⟩:∃v,(a2g m x)[i]=v:=⟨_,rfl⟩;rw[hv]at hdot htk;clear hv hc1 hdb;go_wp2_with (with_reducible refine a0t a0r (by omega) (by assumption) ?_)
   refine hdot.mono ?_;rintro e w6 ⟨hE6,u6,rfl,hu6⟩;obtain⟨s6,a6,n6,c6,d6,k6,e6,rfl⟩:=hu6.shape;have hO6:=hO.ext0 QC.elem hE6;have hb6:=hE6.size;clear k00;go_wp2_with (at_builtin;refine a0x (l:=(a2g m x).take i) a0A rfl QC.elem (by omega) (hXr.ext hE6) i hln.out rfl rfl hO6 (.agg #[.bool s6, .slice a6 n6 c6, .slice d6 k6 e6]) v rfl hu6 (by omega) (by omega) ?_;intro oo2 co2 w7 hO7 hE7 hor)
   have hE8:=(hE.trans hE6).own hO6 (Nat.le_refl _) hE7;rw[htk.out]at hO7;go_roundw
   case rel=>exact⟨i+1,oo2,co2,by go_num,by go_num,by omega,hO7,hE8⟩
   case measure=>simp[intOf];omega
  ·have hil:i=n:=by omega
   subst hil;rw[List.take_of_length_le (by rw[hal.out];exact Nat.le_refl _)]at hO;have hc:=hO.lenCap;have hs:=hO.sl QC.elem;go_wp2_with fail
   go_ret2
   exact⟨hE,_,rfl,oo,co,by rw[hal.out];rfl,hc,hs⟩
end Go.Proofs.YtkddecjkfdogiaaGreat
namespace Go
section
variable {P:Program} {ops:Array Oper} {Q:Exit->Act->World->Prop} {md:Region.Mode} {S:World->Prop} {n:Nat}
end
end Go
namespace Go.Lin
open Go.Lim Go.Rep
end Go.Lin
namespace Go.Proofs.YtkddecjkfdogiaaGreat
open Go.RowKit Go.Rep Go.Lim Go.Lin
end Go.Proofs.YtkddecjkfdogiaaGreat
namespace Go.Lin
open Go.Lim Go.Rep
end Go.Lin
namespace Go.Proofs.YtkddecjkfdogiaaGreat
open Go.RowKit Go.Rep Go.Lim Go.Lin
open Go.ChangeShapes Go.WideShapes Go.ChangeAt Go.Deep
section
variable {H:Type} {enc:TypeId×Value->H} {w:World} {base:Nat} {spare:Nat->Bool} {held:Bool}
theorem a1q {x:Addr} {v:Value} (h:w.cell? (x.add 0)=some v):(∀j,x.add j=adr (some x) j)/\∃b off,x=⟨b,off,none⟩:=by
 have hs:=World.cell?_spot h;obtain⟨b,off,spot⟩:=x;have hspot:spot=none:=by simpa[Addr.add]using hs
 subst hspot;exact⟨fun j=>by rw[Addr.add_lit];simp[adr],b,off,rfl⟩
end
end Go.Proofs.YtkddecjkfdogiaaGreat
namespace Go.Rep
open Go.RowKit Go.Lim
abbrev a5d:=Bool×List Nat×List Nat
def QR (h:Mem) (u:Value) (x:a5d):Prop:=∃ao c bo e,u= .agg #[.bool x.1, .slice ao x.2.1.length c, .slice bo x.2.2.length e]/\x.2.1.length<=c/\x.2.2.length<=e/\Dig x.2.1/\Dig x.2.2/\x.2.1.length<=9223372036854775807/\x.2.2.length<=9223372036854775807/\Sl (a0c .u32) 1 h ao x.2.1/\Sl (a0c .u32) 1 h bo x.2.2
theorem QR.mono:a3n QR:=by rintro h h' u x hl ⟨ao,c,bo,e,rfl,h1,h2,h3,h4,h5,h6,h7,h8⟩;exact⟨ao,c,bo,e,rfl,h1,h2,h3,h4,h5,h6,h7.mono (a0c.mono _) hl,h8.mono (a0c.mono _) hl⟩
theorem QR.elem:Elem QR 3:=⟨QR.mono,by rintro h u x ⟨ao,c,bo,e,rfl,_⟩;rfl,by
 rintro h u x ⟨ao,c,bo,e,rfl,_⟩ v hv;simp[a0l,Value.cells]at hv;rcases hv with rfl|rfl|rfl<;>rfl,by decide⟩
theorem QR.shape {h:Mem} {u:Value} {x:a5d} (hu:QR h u x):∃ao c bo e,u= .agg #[.bool x.1, .slice ao x.2.1.length c, .slice bo x.2.2.length e]:=by
 obtain⟨ao,c,bo,e,rfl,_⟩:=hu;exact⟨_,_,_,_,rfl⟩
theorem QR.agg:∀h u y,QR h u y->∃cs,u= .agg cs:=by rintro h u x ⟨ao,c,bo,e,rfl,_⟩;exact⟨_,rfl⟩
noncomputable def b1Q (x:a5d):Rat:=b0s x.1 x.2.1 x.2.2
abbrev Few (k:Nat) (x:a5d):Prop:=x.2.1.length<=k/\x.2.2.length<=k
theorem QR.qv {h:Mem} {u:Value} {x:a5d} (hu:QR h u x) (hf:Few 68719476736 x):QV h u (b1Q x):=by
 obtain⟨ao,c,bo,e,rfl,h1,h2,h3,h4,_,_,h7,h8⟩:=hu;exact⟨_,ao,c,_,bo,e,_,rfl,h1,h2,h3,h4,hf.1,hf.2,h7,h8,rfl⟩
theorem QR.hq {h:Mem} {u:Value} {x:a5d} {k:Nat} (hu:QR h u x) (hf:Few k x) (hk:1<=k):hq (b1Q x)<=k:=by
 obtain⟨ao,c,bo,e,rfl,h1,h2,h3,h4,_,_,h7,h8⟩:=hu;exact b0u _ _ _ k h3 h4 hf.1 hf.2 hk
theorem Sl.qvR {h:Mem} {ao:Option Addr} {l:List a5d} (s:Sl QR 3 h ao l) (hf:∀x∈l,Few 68719476736 x):Sl QV 3 h ao (l.map b1Q):=
 ⟨fun hp=>s.1 (by simpa using hp),fun i hi=>by
  have hi':i<l.length:=by simpa using hi
  obtain⟨u,h1,h2,h3⟩:=s.2 i hi';exact⟨u,h1,h2,by rw[List.getElem_map];exact h3.qv (hf _ (List.getElem_mem _))⟩⟩
theorem Sl.brR {h:Mem} {ao:Option Addr} {l:List a5d} {k:Nat} (s:Sl QR 3 h ao l) (hf:∀x∈l,Few k x) (hk:1<=k):BR k (l.map b1Q):=fun q hq=>by
 obtain⟨x,hx,rfl⟩:=List.mem_map.1 hq;obtain⟨i,hi,rfl⟩:=List.getElem_of_mem hx;obtain⟨u,h1,h2,h3⟩:=s.2 i hi;exact h3.hq (hf _ (List.getElem_mem _)) hk
abbrev RR:Mem->Value->List a5d->Prop:=SlV QR 3
abbrev MR:Mem->Value->List (List a5d)->Prop:=SlV RR 1
theorem RR.mono:a3n RR:=SlV.mono QR.mono 3
theorem RR.elem:Elem RR 1:=SlV.elem QR.elem
theorem MR.mono:a3n MR:=SlV.mono RR.mono 1
theorem RR.rv {h:Mem} {u:Value} {l:List a5d} (hu:RR h u l) (hf:∀x∈l,Few 68719476736 x):RV h u (l.map b1Q):=by
 obtain⟨ao,c,rfl,h1,h2⟩:=hu;exact⟨ao,c,by rw[List.length_map],by rw[List.length_map];exact h1,h2.qvR hf⟩
theorem RR.br {h:Mem} {u:Value} {l:List a5d} {k:Nat} (hu:RR h u l) (hf:∀x∈l,Few k x) (hk:1<=k):BR k (l.map b1Q):=by
 obtain⟨ao,c,rfl,h1,h2⟩:=hu;exact h2.brR hf hk
noncomputable def b1J (m:List (List a5d)):List (List Rat):=m.map fun r=>r.map b1Q
theorem MR.mv {h:Mem} {u:Value} {m:List (List a5d)} (hu:MR h u m) (hf:∀r∈m,∀x∈r,Few 68719476736 x):MV h u (b1J m):=by
 obtain⟨ao,c,rfl,h1,h2⟩:=hu;refine⟨ao,c,by rw[b1J,List.length_map],by rw[b1J,List.length_map];exact h1,fun hp=>h2.1 (by simpa[b1J]using hp),fun i hi=>?_⟩;have hi':i<m.length:=by simpa[b1J]using hi
 obtain⟨u,k1,k2,k3⟩:=h2.2 i hi';exact⟨u,k1,k2,by simp only[b1J,List.getElem_map];exact RR.rv k3 (hf _ (List.getElem_mem _))⟩
theorem MR.bm {h:Mem} {u:Value} {m:List (List a5d)} {k:Nat} (hu:MR h u m) (hf:∀r∈m,∀x∈r,Few k x) (hk:1<=k):BM k (b1J m):=fun r hr=>by
 obtain⟨ao,c,rfl,h1,h2⟩:=hu;obtain⟨y,hy,rfl⟩:=List.mem_map.1 hr;obtain⟨i,hi,rfl⟩:=List.getElem_of_mem hy;obtain⟨u,k1,k2,k3⟩:=h2.2 i hi;exact RR.br k3 (hf _ (List.getElem_mem _)) hk
end Go.Rep
namespace Go.Proofs.YtkddecjkfdogiaaGreat
open Go.ChangeShapes Go.WideShapes Go.ChangeAt Go.RowKit Go.Rep Go.Deep Go.Lim
section
variable {H:Type} {enc:TypeId×Value->H} {w:World} {base:Nat} {spare:Nat->Bool} {held:Bool}
theorem a9x {α:Type} {R:Mem->Value->α->Prop} {t e:TypeId} {sz:Nat} (ht:Tryz.prog.underlying t=some (.slice e)) (hC:Tryz.prog.cellsOf e=sz) (hz:0<sz) (hsize:∀h u x,R h u x->u.cells.size=sz)
  (hel:∀(n:Nat) (cs:List Value) (y:DataW H×List MemPlace),cs.length=sz->DataW.trod enc Tryz.prog w base spare held n e cs=some y->∃u x,a0l u=cs/\R w.cell? u x)
  {fuel:Nat} {v:Value} {x:DataW H×List MemPlace} (h:DataW.trod enc Tryz.prog w base spare held fuel t [v]=some x):
  ∃(a:Option Addr) (L:List α) (cap:Nat),v= .slice a L.length cap/\L.length<=cap/\cap<=9223372036854775807/\Sl R sz w.cell? a L:=by
 rcases open_slice ht h with⟨hcs,_⟩|⟨x,len,c,m,n,D,Pl,hcs,_,hl,hm,hmm,_,hi⟩
 ·exact⟨none,[],0,by simpa using hcs,by simp,by simp,Sl.nil _ _ _ _⟩
 ·have hml:len<=m:=by rw[hmm];split<;>omega
  have hmax:c<=9223372036854775807:=by simpa[maxLen]using hm
  have key:∀k,k<=len->∃L:List α,L.length=k/\∀i (hi:i<L.length),∃u,u.cells.size=sz/\(∀j (hj:j<u.cells.size),w.cell? (x.add (i*sz+j))=some u.cells[j])/\R w.cell? u L[i]:=by
   intro k
   induction k with
   |zero=>intro _;exact⟨[],rfl,by simp⟩
   |succ k ih=>
    intro hk;obtain⟨L,h1,h3⟩:=ih (by omega);obtain⟨cs',hc,ht'⟩:=hi k (by omega);rw[hC]at hc;obtain⟨_,hcl,hat⟩:=World.cells?_some hc;obtain⟨u,y,hu,hR⟩:=hel n cs' _ hcl ht';refine⟨L++[y],by simp[h1],fun i hi=>?_⟩;by_cases hik:i<L.length
    ·obtain⟨u,q1,q2,q3⟩:=h3 i hik
     exact⟨u,q1,q2,by simpa[List.getElem_append_left hik]using q3⟩
    ·have hik2:i=k:=by simp at hi;omega
     subst hik2;refine⟨u,hsize _ _ _ hR,fun j hj=>?_,?_⟩
     ·have hj2:j<sz:=by rw[hsize _ _ _ hR]at hj;exact hj
      have h5:=hat j (by omega);rw[Go.Deep.add_add]at h5;rw[h5];have h6:cs'[j]? =(a0l u)[j]?:=by rw[hu]
      rw[h6];simp[a0l,hj]
     ·simp only[h1.symm,List.getElem_concat_length]
      exact hR
  obtain⟨L,h1,h3⟩:=key len (Nat.le_refl _);refine⟨some x,L,c,by rw[h1];simpa using hcs,by omega,by omega,⟨fun h0=>?_,fun i hi=>?_⟩⟩
  ·obtain⟨u,q1,q2,_⟩:=h3 0 h0
   obtain⟨_,b,off,hx⟩:=a1q (by simpa using q2 0 (by omega));exact⟨b,off,by rw[hx]⟩
  ·obtain⟨u,q1,q2,q3⟩:=h3 i hi
   obtain⟨v,p1,p2,_⟩:=h3 0 (by omega);have ha:=(a1q (by simpa using p2 0 (by omega))).1;exact⟨u,q1,fun j hj=>by rw[<-ha];exact q2 j hj,q3⟩
theorem b1K {fuel:Nat} {v:Value} {x:DataW H×List MemPlace} (h:DataW.trod enc Tryz.prog w base spare held fuel 28 [v]=some x):
  ∃(a:Option Addr) (l:List Nat) (cap:Nat),v= .slice a l.length cap/\l.length<=cap/\l.length<=9223372036854775807/\Dig l/\Sl (a0c .u32) 1 w.cell? a l:=by
 rcases open_ints Tryz.underlying28 Tryz.underlying118 (by kernel_rfl) h with⟨hcs,_⟩|⟨x,len,c,zs,hcs,_,hl,hm,hz,_,hcell,hwf⟩
 ·exact⟨none,[],0,by simpa using hcs,by simp,by simp,by simp[Dig],Sl.nil _ _ _ _⟩
 ·have hzl:len<=zs.length:=by
   rw[hz];split<;>omega
  have hr:∀n∈zs,0<=n/\n<4294967296:=fun n hn=>by
   have:=hwf n hn;unfold Lit.wf at this;have:0<=n/\n<=4294967295:=by simpa[IntKind.min,IntKind.max,IntKind.signed,IntKind.bits]using this
   omega
  have hlen:((zs.take len).map Int.toNat).length=len:=by simp;omega
  have hmax:c<=9223372036854775807:=by simpa[maxLen]using hm
  refine⟨some x,(zs.take len).map Int.toNat,c,by rw[hlen];simpa using hcs,by omega,by omega,fun d hd=>?_,fun h0=>?_,fun i hi=>?_⟩
  ·obtain⟨z,hz1,rfl⟩:=List.mem_map.1 hd
   have:=hr z (List.mem_of_mem_take hz1);rw[a1m];omega
  ·obtain⟨_,b,off,hx⟩:=a1q (hcell 0 (by omega))
   exact⟨b,off,by rw[hx]⟩
  ·have hi':i<zs.length:=by omega
   have hil:i<len:=by omega
   refine⟨.int .u32 (((zs.take len).map Int.toNat)[i]:Nat),rfl,fun j hj=>?_,rfl⟩;have hj0:j=0:=by simp[Value.cells]at hj;exact hj
   subst hj0;have h1:=hcell i hi';have h2:=(a1q (hcell 0 (by omega))).1 i;rw[h2]at h1;have h3:=hr zs[i] (List.getElem_mem _);simp only[Nat.mul_one,Nat.add_zero,List.getElem_map,List.getElem_take];rw[h1];simp[List.getD_eq_getElem?_getD,hi',Value.cells];omega
theorem b6n {fuel:Nat} {cs:List Value} {x:DataW H×List MemPlace} (hl:cs.length=3) (h:DataW.trod enc Tryz.prog w base spare held fuel 32 cs=some x):∃u y,a0l u=cs/\QR w.cell? u y:=by
 obtain⟨ys,n',hn',hy,hlen,hyl,hf⟩:=DataW.trod_struct Tryz.underlying32 h;have c1:Tryz.prog.cellsOf 30=2:=by kernel_rfl
 have c2:Tryz.prog.cellsOf 28=1:=by kernel_rfl
 have c3:Tryz.prog.cellsOf 4=1:=by kernel_rfl
 have f0:DataW.trod enc Tryz.prog w base spare held n' 30 ((cs.drop 0).take (Tryz.prog.cellsOf 30))=ys[0]?:=hf 0 _ rfl;have f1:DataW.trod enc Tryz.prog w base spare held n' 28 ((cs.drop 2).take (Tryz.prog.cellsOf 28))=ys[1]?:=hf 1 _ rfl;have hyl2:ys.length=2:=hyl;obtain⟨a,b,c,rfl⟩:∃a b c,cs= [a,b,c]:=by
  rcases cs with _|⟨a,_|⟨b,_|⟨c,_|⟨d,r⟩⟩⟩⟩
  ·simp at hl
  ·simp at hl
  ·simp at hl
  ·exact⟨a,b,c,rfl⟩
  ·simp at hl
 rw[c1]at f0;rw[c2]at f1;rw[List.getElem?_eq_getElem (by omega)]at f0 f1;obtain⟨zs,n2,_,_,_,hzl,hg⟩:=DataW.trod_struct Tryz.underlying30 f0;have g0:DataW.trod enc Tryz.prog w base spare held n2 4 (([a,b].drop 0).take (Tryz.prog.cellsOf 4))=zs[0]?:=hg 0 _ rfl;have g1:DataW.trod enc Tryz.prog w base spare held n2 28 (([a,b].drop 1).take (Tryz.prog.cellsOf 28))=zs[1]?:=hg 1 _ rfl;have hzl2:zs.length=2:=hzl;rw[c3]at g0;rw[c2]at g1;rw[List.getElem?_eq_getElem (by omega)]at g0 g1;obtain⟨a1,m,k1,e1,p1,p2,p3,p4⟩:=b1K g1;obtain⟨a2,d,k2,e2,q1,q2,q3,q4⟩:=b1K f1;obtain⟨s,hs,_⟩:=DataW.trod_bool Tryz.underlying4 g0;have hs:a= .bool s:=by simpa using hs
 subst hs e1 e2;exact⟨.agg #[.bool s, .slice a1 m.length k1, .slice a2 d.length k2],(s,m,d),rfl,a1,k1,a2,k2,rfl,p1,q1,p3,q3,p2,q2,p4,q4⟩
theorem a8y {fuel:Nat} {v:Value} {x:DataW H×List MemPlace} (h:DataW.trod enc Tryz.prog w base spare held fuel 45 [v]=some x):
  ∃(a:Option Addr) (L:List a5d) (cap:Nat),v= .slice a L.length cap/\L.length<=cap/\cap<=9223372036854775807/\Sl QR 3 w.cell? a L:=
 a9x (R:=QR) Tryz.underlying45 (by kernel_rfl) (by decide) QR.elem.size (fun _ _ _ hl h=>b6n hl h) h
theorem b3e {fuel:Nat} {v:Value} {x:DataW H×List MemPlace} (h:DataW.trod enc Tryz.prog w base spare held fuel 25 [v]=some x):
  ∃(a:Option Addr) (L:List (List a5d)) (cap:Nat),v= .slice a L.length cap/\L.length<=cap/\cap<=9223372036854775807/\Sl RR 1 w.cell? a L:=
 a9x (R:=RR) Tryz.underlying25 (by kernel_rfl) (by decide) RR.elem.size (fun _ cs _ hl h=>by
  match cs,hl with
  | [a],_=>
   obtain⟨ao,L,cap,rfl,h1,h2,h3⟩:=a8y h;exact⟨.slice ao L.length cap,L,rfl,ao,cap,rfl,h1,h3⟩) h
end
end Go.Proofs.YtkddecjkfdogiaaGreat
namespace Go.Rep
open Go.RowKit Go.Lim
theorem Sl.raw {X:Nat->Bool} {w:World} {ao:Option Addr} {l:List a5d} (s:Sl QR 3 (mk X w) ao l) (i:Nat) (hi:i<l.length):
  ∃g o a c d e,adr ao (i*3)=⟨g,o,none⟩/\X g=false/\Hid (∀Y W',ExtX Y w W'->Y g=false->W'.cell? ⟨g,o,none⟩=some (.bool l[i].1)/\W'.cell? ⟨g,o+1,none⟩=some (.slice a l[i].2.1.length c)/\W'.cell? ⟨g,o+2,none⟩=some (.slice d l[i].2.2.length e))/\QR (mk X w) (.agg #[.bool l[i].1, .slice a l[i].2.1.length c, .slice d l[i].2.2.length e]) l[i]:=by
 obtain⟨u,h1,h2,h3⟩:=s.2 i hi;obtain⟨a,c,d,e,rfl⟩:=h3.shape;have c0:=h2 0 (by simp[Value.cells]);have c1:=h2 1 (by simp[Value.cells]);have c2:=h2 2 (by simp[Value.cells]);refine⟨(adr ao (i*3)).block,(adr ao (i*3)).off,a,c,d,e,rfl,?_,hid fun Y W' hE hY=>⟨?_,?_,?_⟩,h3⟩
 ·cases hx:X (adr ao (i*3)).block
  ·rfl
  ·have c9:mk X w (adr ao (i*3))=some (.bool l[i].1):=c0
   simp[mk,hx]at c9
 ·exact hE.cellY (a1d c0) hY
 ·exact hE.cellY (a1d c1) hY
 ·exact hE.cellY (a1d c2) hY
theorem Sl.rowR {α:Type} {R:Mem->Value->α->Prop} {sz:Nat} {X:Nat->Bool} {w:World} {ao:Option Addr} {m:List (List α)} (s:Sl (SlV R sz) 1 (mk X w) ao m) (i:Nat) (hi:i<m.length):
  ∃a c,X (adr ao i).block=false/\Hid (∀Y W',ExtX Y w W'->Y (adr ao i).block=false->W'.cell? (adr ao i)=some (.slice a m[i].length c))/\m[i].length<=c/\Sl R sz (mk X w) a m[i]:=by
 obtain⟨u,h1,a,c,rfl,h2,h3⟩:=s.cell SlV.one i hi;refine⟨a,c,?_,hid fun Y W' hE hY=>hE.cellY (a1d h1) hY,h2,h3⟩;cases hx:X (adr ao i).block
 ·rfl
 ·simp[mk,hx]at h1
end Go.Rep
namespace Go.Proofs.YtkddecjkfdogiaaGreat
open Go.RowKit Go.Rep Go.Lim
end Go.Proofs.YtkddecjkfdogiaaGreat
