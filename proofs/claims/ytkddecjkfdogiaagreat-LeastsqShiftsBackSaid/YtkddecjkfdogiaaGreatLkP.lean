/- law 13: awake. Conditions: none. An append of a list in a drawn region. Conditions: none. leastsq: Residuals; reference 13: Residuals. Conditions: numbers of few digits. leastsq: Shift. Conditions: numbers of few digits. -/
import Derived.Test.YtkddecjkfdogiaaGreatLkO
import Derived.BigRegion
namespace Go.Rep
open Go.RowKit Go.Lim
theorem a2l {X:Nat->Bool} {w:World} {e:TypeId} (hX:HX X w) {u v t:Value} {x y z:List Rat} (hu:RC (mk X w) u x) (hv:RC (mk X w) v y) (ht:RC (mk X w) t z) {arr:Array Value} (harr:arr=(a0g u++a0g v++a0g t).toArray):MC (mk X (w.alloc (.cells arr e))) (.slice (some ⟨w.heap.size,0,none⟩) 3 3) [x,y,z]:=by
 have:=OL.lit (w:=w) (base:=w.heap.size) (e:=e) RC.elem hX (Nat.le_refl _) [u,v,t] [x,y,z] arr (by rw[harr];simp) rfl (fun i hi hi'=>by
  match i,hi with
  |0,_=>exact hu
  |1,_=>exact hv
  |2,_=>exact ht) (by simp)
 exact⟨_,_,rfl,Nat.le_refl _,this.sl RC.elem⟩
theorem b4h {X:Nat->Bool} {w:World} {e:TypeId} (hX:HX X w) {u v t:Value} {x y z:Rat} (hu:QC (mk X w) u x) (hv:QC (mk X w) v y) (ht:QC (mk X w) t z) {arr:Array Value} (harr:arr=(a0g u++a0g v++a0g t).toArray):RC (mk X (w.alloc (.cells arr e))) (.slice (some ⟨w.heap.size,0,none⟩) 3 3) [x,y,z]:=by
 have:=OL.lit (w:=w) (base:=w.heap.size) (e:=e) QC.elem hX (Nat.le_refl _) [u,v,t] [x,y,z] arr (by rw[harr];simp) rfl (fun i hi hi'=>by
  match i,hi with
  |0,_=>exact hu
  |1,_=>exact hv
  |2,_=>exact ht) (by simp)
 exact⟨_,_,rfl,Nat.le_refl _,this.sl QC.elem⟩
end Go.Rep
namespace Go.Proofs.YtkddecjkfdogiaaGreat
open Go.RowKit Go.Rep Go.Lim Go.Lin
set_option maxRecDepth 100000 in
set_option maxHeartbeats 3200000 in
theorem a7P (w:World):Calls Tryz.prog 44 #[] w (a9V w true):=by
 have hnoX:∀v:World,HX noY v:=fun v=>HX.none v;go_enter Tryz.func44,Tryz.ntmps44
 go_wp2_with fail
 refine(a5i noY w 1 (hnoX w) (by decide) (by decide)).mono ?_;rintro ee w1 ⟨hE1,u1,rfl,hu1⟩;obtain⟨s1,a1,n1,c1,d1,k1,e1,rfl⟩:=hu1.shape;have bx:=Bx.new w1 #[.bool false, .slice none 0 0, .slice none 0 0] 32;go_upto_region 2 with((with_reducible show wpList _ _ _ (⟨_, .store 32 _ _,_,_,_,_⟩::_) _ _);refine a0c a0w rfl rfl bx rfl rfl (a3n _ _ _ _ _ _ _) ?_;intro w2 r1 r2)
 have hE2:Ext w1 w2:=ExtX.box ((ExtX.refl w1).alloc _) r2 (Nat.le_refl _);obtain⟨b,hb⟩:∃b,w1.heap.size=b:=⟨_,rfl⟩;rw[hb]at r1 r2 |-;have hEd:Ext w2 w2.drew:=(ExtX.refl w2).drew;have h12:QC (mk noY w2) (.agg #[.bool s1, .slice a1 n1 c1, .slice d1 k1 e1]) ((1:Int):Rat):=mkx QC.mono hu1 hE2;have hS:Hid (∀w',Ext w2.drew w'->w'.cell? ⟨b,0,none⟩=some (.bool s1)/\w'.cell? ⟨b,1,none⟩=some (.slice a1 n1 c1)/\w'.cell? ⟨b,2,none⟩=some (.slice d1 k1 e1)):=hid fun w' h=>by
  have b1:=r1.ext0 (hEd.trans h);exact⟨b1.cell 0 rfl,b1.cell 1 rfl,b1.cell 2 rfl⟩
 have h1:=mkx QC.mono h12 hEd
 (try simp only[Act.put])
 go_cut [2]from 6 to 15 (fun bv wx=>∃xv,bv=xv/\MC (mk noY wx) xv [[((1:Int):Rat),0],[((1:Int):Rat),((1:Int):Rat)],[((1:Int):Rat),((2:Int):Rat)]]/\Ext w2 wx)
 case first=>
  refine a0L 10 (fun w'=>w'.cell? ⟨b,0,none⟩=some (.bool s1)/\w'.cell? ⟨b,1,none⟩=some (.slice a1 n1 c1)/\w'.cell? ⟨b,2,none⟩=some (.slice d1 k1 e1)) (by kernel_rfl) (by kernel_rfl) (hS.out _ (ExtX.refl _)) (fun hHeld hOnce=>?_);obtain⟨wd,hwd⟩:∃wd,w2.drew=wd:=⟨_,rfl⟩;rw[hwd]at hS h1 hEd |-
  (try rw[hwd]at hHeld)
  clear hwd;have E0:Ext wd wd:=ExtX.refl _;refine a0a hOnce (i:=0) (oi:=⟨_,_,_,_,_,_⟩) (v:=?_) rfl (by kernel_rfl) (fun _ _ _ h=>h) (by assumption) (by rfl) (fun w hSw=>?_) ?_
  rotate_left
  ·(try dsimp only at hSw)
   go_simp
   all_goals with_reducible rfl
  (try simp only[Act.put,List.setIfInBounds_toArray,List.set_cons_zero,List.set_cons_succ])
  refine a0a hOnce (i:=1) (oi:=⟨_,_,_,_,_,_⟩) (v:=?_) rfl (by kernel_rfl) (fun _ _ _ h=>h) (by assumption) (by rfl) (fun w hSw=>?_) ?_
  rotate_left
  ·(try dsimp only at hSw)
   go_simp
   all_goals with_reducible rfl
  (try simp only[Act.put,List.setIfInBounds_toArray,List.set_cons_zero,List.set_cons_succ])
  refine a0a hOnce (i:=3) (oi:=⟨_,_,_,_,_,_⟩) (v:=?_) rfl (by kernel_rfl) (fun _ _ _ h=>h) (by assumption) (by rfl) (fun w hSw=>?_) ?_
  rotate_left
  ·(try dsimp only at hSw)
   go_simp
   all_goals with_reducible rfl
  (try simp only[Act.put,List.setIfInBounds_toArray,List.set_cons_zero,List.set_cons_succ])
  refine a0a hOnce (i:=4) (oi:=⟨_,_,_,_,_,_⟩) (v:=?_) rfl (by kernel_rfl) (fun _ _ _ h=>h) (by assumption) (by rfl) (fun w hSw=>?_) ?_
  rotate_left
  ·(try dsimp only at hSw)
   go_simp
   all_goals with_reducible rfl
  (try simp only[Act.put,List.setIfInBounds_toArray,List.set_cons_zero,List.set_cons_succ])
  refine a0a hOnce (i:=6) (oi:=⟨_,_,_,_,_,_⟩) (v:=?_) rfl (by kernel_rfl) (fun _ _ _ h=>h) (by assumption) (by rfl) (fun w hSw=>?_) ?_
  rotate_left
  ·(try dsimp only at hSw)
   go_simp
   all_goals with_reducible rfl
  (try simp only[Act.put,List.setIfInBounds_toArray,List.set_cons_zero,List.set_cons_succ])
  refine a3v (i:=2) (j:=5) (l:=7) (oi:=⟨_,_,_,_,_,_⟩) (oj:=⟨_,_,_,_,_,_⟩) (ol:=⟨_,_,_,_,_,_⟩) (by kernel_rfl) rfl rfl rfl (fun K hK=>?_) (fun K hK=>?_) (fun K hK=>?_)
  ·skip
   go_simp
   skip
   refine hK.out _ _ (hS.out _ (E0.trans ((ExtX.refl _).alloc _))) (fun hHeld=>?_);clear hK K
   (try simp only[Act.put,List.setIfInBounds_toArray,List.set_cons_zero,List.set_cons_succ])
   have xe1:Ext wd (wd.alloc (.cells #[.bool s1, .slice a1 n1 c1, .slice d1 k1 e1, .bool false, .slice none 0 0, .slice none 0 0] 32)):=(ExtX.refl _).alloc _;have ra_1:=a0H (e:=32) (arr:=#[.bool s1, .slice a1 n1 c1, .slice d1 k1 e1, .bool false, .slice none 0 0, .slice none 0 0]) (hnoX wd) (mkx QC.mono h1 E0) (QC.zero _) rfl;obtain⟨v1,hv1⟩:∃v1,wd.alloc (.cells #[.bool s1, .slice a1 n1 c1, .slice d1 k1 e1, .bool false, .slice none 0 0, .slice none 0 0] 32)=v1:=⟨_,rfl⟩;obtain⟨g1,hg1⟩:∃g:Option Addr,some ⟨wd.heap.size,0,none⟩=g:=⟨_,rfl⟩;rw[hv1]at xe1;rw[hv1,hg1]at ra_1 |-;have E1:=E0.trans xe1;refine a0F (i:=5) (j:=7) (oi:=⟨_,_,_,_,_,_⟩) (oj:=⟨_,_,_,_,_,_⟩) (by kernel_rfl) rfl rfl (fun K hK=>?_) (fun K hK=>?_)
   ·skip
    go_simp
    skip
    refine hK.out _ _ (hS.out _ (E1.trans ((ExtX.refl _).alloc _))) (fun hHeld=>?_);clear hK K
    (try simp only[Act.put,List.setIfInBounds_toArray,List.set_cons_zero,List.set_cons_succ])
    have xe2:Ext v1 (v1.alloc (.cells #[.bool s1, .slice a1 n1 c1, .slice d1 k1 e1, .bool s1, .slice a1 n1 c1, .slice d1 k1 e1] 32)):=(ExtX.refl _).alloc _;have rb_2:=a0H (e:=32) (arr:=#[.bool s1, .slice a1 n1 c1, .slice d1 k1 e1, .bool s1, .slice a1 n1 c1, .slice d1 k1 e1]) (hnoX v1) (mkx QC.mono h1 E1) (mkx QC.mono h1 E1) rfl;obtain⟨v2,hv2⟩:∃v2,v1.alloc (.cells #[.bool s1, .slice a1 n1 c1, .slice d1 k1 e1, .bool s1, .slice a1 n1 c1, .slice d1 k1 e1] 32)=v2:=⟨_,rfl⟩;obtain⟨g2,hg2⟩:∃g:Option Addr,some ⟨v1.heap.size,0,none⟩=g:=⟨_,rfl⟩;rw[hv2]at xe2;rw[hv2,hg2]at rb_2 |-;have E2:=E1.trans xe2;have ra_2:=mkx RC.mono ra_1 xe2;refine a0d (i:=7) (o:=⟨_,_,_,_,_,_⟩) (by kernel_rfl) rfl (fun K hK=>?_);go_simp
    (go_at_call 48;(with_reducible refine(a5i noY v2 2 (hnoX v2) (by decide) (by decide)).mono ?_);rintro ee v3 ⟨xe3,u2,rfl,q2_3⟩)
    refine hK.out _ _ (hS.out _ (E2.trans xe3)) (fun hHeld=>?_);clear hK K
    (try simp only[Act.put,List.setIfInBounds_toArray,List.set_cons_zero,List.set_cons_succ])
    obtain⟨s2,a2,n2,c2,d2,k2,e2,rfl⟩:=q2_3.shape;have E3:=E2.trans xe3;have ra_3:=mkx RC.mono ra_2 xe3;have rb_3:=mkx RC.mono rb_2 xe3;refine a0d (i:=8) (o:=⟨_,_,_,_,_,_⟩) (by kernel_rfl) rfl (fun K hK=>?_);go_simp
    skip
    refine hK.out _ _ (hS.out _ (E3.trans ((ExtX.refl _).alloc _))) (fun hHeld=>?_);clear hK K
    (try simp only[Act.put,List.setIfInBounds_toArray,List.set_cons_zero,List.set_cons_succ])
    have xe4:Ext v3 (v3.alloc (.cells #[.bool s1, .slice a1 n1 c1, .slice d1 k1 e1, .bool s2, .slice a2 n2 c2, .slice d2 k2 e2] 32)):=(ExtX.refl _).alloc _;have rc_4:=a0H (e:=32) (arr:=#[.bool s1, .slice a1 n1 c1, .slice d1 k1 e1, .bool s2, .slice a2 n2 c2, .slice d2 k2 e2]) (hnoX v3) (mkx QC.mono h1 E3) q2_3 rfl;obtain⟨v4,hv4⟩:∃v4,v3.alloc (.cells #[.bool s1, .slice a1 n1 c1, .slice d1 k1 e1, .bool s2, .slice a2 n2 c2, .slice d2 k2 e2] 32)=v4:=⟨_,rfl⟩;obtain⟨g4,hg4⟩:∃g:Option Addr,some ⟨v3.heap.size,0,none⟩=g:=⟨_,rfl⟩;rw[hv4]at xe4;rw[hv4,hg4]at rc_4 |-;have E4:=E3.trans xe4;have ra_4:=mkx RC.mono ra_3 xe4;have rb_4:=mkx RC.mono rb_3 xe4;have q2_4:=mkx QC.mono q2_3 xe4;refine a0d (i:=9) (o:=⟨_,_,_,_,_,_⟩) (by kernel_rfl) rfl (fun K hK=>?_);go_simp
    skip
    refine hK.out _ _ (hS.out _ (E4.trans ((ExtX.refl _).alloc _))) (fun hHeld=>?_);clear hK K
    (try simp only[Act.put,List.setIfInBounds_toArray,List.set_cons_zero,List.set_cons_succ])
    have xe5:Ext v4 (v4.alloc (.cells #[.slice g1 2 2, .slice g2 2 2, .slice g4 2 2] 45)):=(ExtX.refl _).alloc _;have mm_5:=a2l (e:=45) (arr:=#[.slice g1 2 2, .slice g2 2 2, .slice g4 2 2]) (hnoX v4) ra_4 rb_4 rc_4 rfl;obtain⟨v5,hv5⟩:∃v5,v4.alloc (.cells #[.slice g1 2 2, .slice g2 2 2, .slice g4 2 2] 45)=v5:=⟨_,rfl⟩;obtain⟨g5,hg5⟩:∃g:Option Addr,some ⟨v4.heap.size,0,none⟩=g:=⟨_,rfl⟩;rw[hv5]at xe5;rw[hv5,hg5]at mm_5 |-;have E5:=E4.trans xe5;have ra_5:=mkx RC.mono ra_4 xe5;have rb_5:=mkx RC.mono rb_4 xe5;have q2_5:=mkx QC.mono q2_4 xe5;have rc_5:=mkx RC.mono rc_4 xe5;refine a0j (i:=10) (o:=⟨_,_,_,_,_,_⟩) (by kernel_rfl) rfl (by decide) (by kernel_rfl) (fun K hK=>?_);go_simp
    refine hK.out _ _ ?_;clear hK K;go_wp2_with fail
    go_meet
    case rel=>exact⟨_,rfl,mm_5,hEd.trans E5⟩
   ·skip
    go_simp
    (go_at_call 48;(with_reducible refine(a5i noY v1 2 (hnoX v1) (by decide) (by decide)).mono ?_);rintro ee v6 ⟨xe6,u2,rfl,q2_6⟩)
    refine hK.out _ _ (hS.out _ (E1.trans xe6)) (fun hHeld=>?_);clear hK K
    (try simp only[Act.put,List.setIfInBounds_toArray,List.set_cons_zero,List.set_cons_succ])
    obtain⟨s2,a2,n2,c2,d2,k2,e2,rfl⟩:=q2_6.shape;have E6:=E1.trans xe6;have ra_6:=mkx RC.mono ra_1 xe6;refine a0F (i:=5) (j:=8) (oi:=⟨_,_,_,_,_,_⟩) (oj:=⟨_,_,_,_,_,_⟩) (by kernel_rfl) rfl rfl (fun K hK=>?_) (fun K hK=>?_)
    ·skip
     go_simp
     skip
     refine hK.out _ _ (hS.out _ (E6.trans ((ExtX.refl _).alloc _))) (fun hHeld=>?_);clear hK K
     (try simp only[Act.put,List.setIfInBounds_toArray,List.set_cons_zero,List.set_cons_succ])
     have xe7:Ext v6 (v6.alloc (.cells #[.bool s1, .slice a1 n1 c1, .slice d1 k1 e1, .bool s1, .slice a1 n1 c1, .slice d1 k1 e1] 32)):=(ExtX.refl _).alloc _;have rb_7:=a0H (e:=32) (arr:=#[.bool s1, .slice a1 n1 c1, .slice d1 k1 e1, .bool s1, .slice a1 n1 c1, .slice d1 k1 e1]) (hnoX v6) (mkx QC.mono h1 E6) (mkx QC.mono h1 E6) rfl;obtain⟨v7,hv7⟩:∃v7,v6.alloc (.cells #[.bool s1, .slice a1 n1 c1, .slice d1 k1 e1, .bool s1, .slice a1 n1 c1, .slice d1 k1 e1] 32)=v7:=⟨_,rfl⟩;obtain⟨g7,hg7⟩:∃g:Option Addr,some ⟨v6.heap.size,0,none⟩=g:=⟨_,rfl⟩;rw[hv7]at xe7;rw[hv7,hg7]at rb_7 |-;have E7:=E6.trans xe7;have ra_7:=mkx RC.mono ra_6 xe7;have q2_7:=mkx QC.mono q2_6 xe7;refine a0d (i:=8) (o:=⟨_,_,_,_,_,_⟩) (by kernel_rfl) rfl (fun K hK=>?_);go_simp
     skip
     refine hK.out _ _ (hS.out _ (E7.trans ((ExtX.refl _).alloc _))) (fun hHeld=>?_);clear hK K
     (try simp only[Act.put,List.setIfInBounds_toArray,List.set_cons_zero,List.set_cons_succ])
     have xe8:Ext v7 (v7.alloc (.cells #[.bool s1, .slice a1 n1 c1, .slice d1 k1 e1, .bool s2, .slice a2 n2 c2, .slice d2 k2 e2] 32)):=(ExtX.refl _).alloc _;have rc_8:=a0H (e:=32) (arr:=#[.bool s1, .slice a1 n1 c1, .slice d1 k1 e1, .bool s2, .slice a2 n2 c2, .slice d2 k2 e2]) (hnoX v7) (mkx QC.mono h1 E7) q2_7 rfl;obtain⟨v8,hv8⟩:∃v8,v7.alloc (.cells #[.bool s1, .slice a1 n1 c1, .slice d1 k1 e1, .bool s2, .slice a2 n2 c2, .slice d2 k2 e2] 32)=v8:=⟨_,rfl⟩;obtain⟨g8,hg8⟩:∃g:Option Addr,some ⟨v7.heap.size,0,none⟩=g:=⟨_,rfl⟩;rw[hv8]at xe8;rw[hv8,hg8]at rc_8 |-;have E8:=E7.trans xe8;have ra_8:=mkx RC.mono ra_7 xe8;have q2_8:=mkx QC.mono q2_7 xe8;have rb_8:=mkx RC.mono rb_7 xe8;refine a0d (i:=9) (o:=⟨_,_,_,_,_,_⟩) (by kernel_rfl) rfl (fun K hK=>?_);go_simp
     skip
     refine hK.out _ _ (hS.out _ (E8.trans ((ExtX.refl _).alloc _))) (fun hHeld=>?_);clear hK K
     (try simp only[Act.put,List.setIfInBounds_toArray,List.set_cons_zero,List.set_cons_succ])
     have xe9:Ext v8 (v8.alloc (.cells #[.slice g1 2 2, .slice g7 2 2, .slice g8 2 2] 45)):=(ExtX.refl _).alloc _;have mm_9:=a2l (e:=45) (arr:=#[.slice g1 2 2, .slice g7 2 2, .slice g8 2 2]) (hnoX v8) ra_8 rb_8 rc_8 rfl;obtain⟨v9,hv9⟩:∃v9,v8.alloc (.cells #[.slice g1 2 2, .slice g7 2 2, .slice g8 2 2] 45)=v9:=⟨_,rfl⟩;obtain⟨g9,hg9⟩:∃g:Option Addr,some ⟨v8.heap.size,0,none⟩=g:=⟨_,rfl⟩;rw[hv9]at xe9;rw[hv9,hg9]at mm_9 |-;have E9:=E8.trans xe9;have ra_9:=mkx RC.mono ra_8 xe9;have q2_9:=mkx QC.mono q2_8 xe9;have rb_9:=mkx RC.mono rb_8 xe9;have rc_9:=mkx RC.mono rc_8 xe9;refine a0j (i:=10) (o:=⟨_,_,_,_,_,_⟩) (by kernel_rfl) rfl (by decide) (by kernel_rfl) (fun K hK=>?_);go_simp
     refine hK.out _ _ ?_;clear hK K;go_wp2_with fail
     go_meet
     case rel=>exact⟨_,rfl,mm_9,hEd.trans E9⟩
    ·skip
     go_simp
     skip
     refine hK.out _ _ (hS.out _ (E6.trans ((ExtX.refl _).alloc _))) (fun hHeld=>?_);clear hK K
     (try simp only[Act.put,List.setIfInBounds_toArray,List.set_cons_zero,List.set_cons_succ])
     have xe10:Ext v6 (v6.alloc (.cells #[.bool s1, .slice a1 n1 c1, .slice d1 k1 e1, .bool s2, .slice a2 n2 c2, .slice d2 k2 e2] 32)):=(ExtX.refl _).alloc _;have rc_10:=a0H (e:=32) (arr:=#[.bool s1, .slice a1 n1 c1, .slice d1 k1 e1, .bool s2, .slice a2 n2 c2, .slice d2 k2 e2]) (hnoX v6) (mkx QC.mono h1 E6) q2_6 rfl;obtain⟨v10,hv10⟩:∃v10,v6.alloc (.cells #[.bool s1, .slice a1 n1 c1, .slice d1 k1 e1, .bool s2, .slice a2 n2 c2, .slice d2 k2 e2] 32)=v10:=⟨_,rfl⟩;obtain⟨g10,hg10⟩:∃g:Option Addr,some ⟨v6.heap.size,0,none⟩=g:=⟨_,rfl⟩;rw[hv10]at xe10;rw[hv10,hg10]at rc_10 |-;have E10:=E6.trans xe10;have ra_10:=mkx RC.mono ra_6 xe10;have q2_10:=mkx QC.mono q2_6 xe10;refine a0d (i:=5) (o:=⟨_,_,_,_,_,_⟩) (by kernel_rfl) rfl (fun K hK=>?_);go_simp
     skip
     refine hK.out _ _ (hS.out _ (E10.trans ((ExtX.refl _).alloc _))) (fun hHeld=>?_);clear hK K
     (try simp only[Act.put,List.setIfInBounds_toArray,List.set_cons_zero,List.set_cons_succ])
     have xe11:Ext v10 (v10.alloc (.cells #[.bool s1, .slice a1 n1 c1, .slice d1 k1 e1, .bool s1, .slice a1 n1 c1, .slice d1 k1 e1] 32)):=(ExtX.refl _).alloc _;have rb_11:=a0H (e:=32) (arr:=#[.bool s1, .slice a1 n1 c1, .slice d1 k1 e1, .bool s1, .slice a1 n1 c1, .slice d1 k1 e1]) (hnoX v10) (mkx QC.mono h1 E10) (mkx QC.mono h1 E10) rfl;obtain⟨v11,hv11⟩:∃v11,v10.alloc (.cells #[.bool s1, .slice a1 n1 c1, .slice d1 k1 e1, .bool s1, .slice a1 n1 c1, .slice d1 k1 e1] 32)=v11:=⟨_,rfl⟩;obtain⟨g11,hg11⟩:∃g:Option Addr,some ⟨v10.heap.size,0,none⟩=g:=⟨_,rfl⟩;rw[hv11]at xe11;rw[hv11,hg11]at rb_11 |-;have E11:=E10.trans xe11;have ra_11:=mkx RC.mono ra_10 xe11;have q2_11:=mkx QC.mono q2_10 xe11;have rc_11:=mkx RC.mono rc_10 xe11;refine a0d (i:=9) (o:=⟨_,_,_,_,_,_⟩) (by kernel_rfl) rfl (fun K hK=>?_);go_simp
     skip
     refine hK.out _ _ (hS.out _ (E11.trans ((ExtX.refl _).alloc _))) (fun hHeld=>?_);clear hK K
     (try simp only[Act.put,List.setIfInBounds_toArray,List.set_cons_zero,List.set_cons_succ])
     have xe12:Ext v11 (v11.alloc (.cells #[.slice g1 2 2, .slice g11 2 2, .slice g10 2 2] 45)):=(ExtX.refl _).alloc _;have mm_12:=a2l (e:=45) (arr:=#[.slice g1 2 2, .slice g11 2 2, .slice g10 2 2]) (hnoX v11) ra_11 rb_11 rc_11 rfl;obtain⟨v12,hv12⟩:∃v12,v11.alloc (.cells #[.slice g1 2 2, .slice g11 2 2, .slice g10 2 2] 45)=v12:=⟨_,rfl⟩;obtain⟨g12,hg12⟩:∃g:Option Addr,some ⟨v11.heap.size,0,none⟩=g:=⟨_,rfl⟩;rw[hv12]at xe12;rw[hv12,hg12]at mm_12 |-;have E12:=E11.trans xe12;have ra_12:=mkx RC.mono ra_11 xe12;have q2_12:=mkx QC.mono q2_11 xe12;have rc_12:=mkx RC.mono rc_11 xe12;have rb_12:=mkx RC.mono rb_11 xe12;refine a0j (i:=10) (o:=⟨_,_,_,_,_,_⟩) (by kernel_rfl) rfl (by decide) (by kernel_rfl) (fun K hK=>?_);go_simp
     refine hK.out _ _ ?_;clear hK K;go_wp2_with fail
     go_meet
     case rel=>exact⟨_,rfl,mm_12,hEd.trans E12⟩
  ·skip
   go_simp
   skip
   refine hK.out _ _ (hS.out _ (E0.trans ((ExtX.refl _).alloc _))) (fun hHeld=>?_);clear hK K
   (try simp only[Act.put,List.setIfInBounds_toArray,List.set_cons_zero,List.set_cons_succ])
   have xe13:Ext wd (wd.alloc (.cells #[.bool s1, .slice a1 n1 c1, .slice d1 k1 e1, .bool s1, .slice a1 n1 c1, .slice d1 k1 e1] 32)):=(ExtX.refl _).alloc _;have rb_13:=a0H (e:=32) (arr:=#[.bool s1, .slice a1 n1 c1, .slice d1 k1 e1, .bool s1, .slice a1 n1 c1, .slice d1 k1 e1]) (hnoX wd) (mkx QC.mono h1 E0) (mkx QC.mono h1 E0) rfl;obtain⟨v13,hv13⟩:∃v13,wd.alloc (.cells #[.bool s1, .slice a1 n1 c1, .slice d1 k1 e1, .bool s1, .slice a1 n1 c1, .slice d1 k1 e1] 32)=v13:=⟨_,rfl⟩;obtain⟨g13,hg13⟩:∃g:Option Addr,some ⟨wd.heap.size,0,none⟩=g:=⟨_,rfl⟩;rw[hv13]at xe13;rw[hv13,hg13]at rb_13 |-;have E13:=E0.trans xe13;refine a0F (i:=2) (j:=7) (oi:=⟨_,_,_,_,_,_⟩) (oj:=⟨_,_,_,_,_,_⟩) (by kernel_rfl) rfl rfl (fun K hK=>?_) (fun K hK=>?_)
   ·skip
    go_simp
    skip
    refine hK.out _ _ (hS.out _ (E13.trans ((ExtX.refl _).alloc _))) (fun hHeld=>?_);clear hK K
    (try simp only[Act.put,List.setIfInBounds_toArray,List.set_cons_zero,List.set_cons_succ])
    have xe14:Ext v13 (v13.alloc (.cells #[.bool s1, .slice a1 n1 c1, .slice d1 k1 e1, .bool false, .slice none 0 0, .slice none 0 0] 32)):=(ExtX.refl _).alloc _;have ra_14:=a0H (e:=32) (arr:=#[.bool s1, .slice a1 n1 c1, .slice d1 k1 e1, .bool false, .slice none 0 0, .slice none 0 0]) (hnoX v13) (mkx QC.mono h1 E13) (QC.zero _) rfl;obtain⟨v14,hv14⟩:∃v14,v13.alloc (.cells #[.bool s1, .slice a1 n1 c1, .slice d1 k1 e1, .bool false, .slice none 0 0, .slice none 0 0] 32)=v14:=⟨_,rfl⟩;obtain⟨g14,hg14⟩:∃g:Option Addr,some ⟨v13.heap.size,0,none⟩=g:=⟨_,rfl⟩;rw[hv14]at xe14;rw[hv14,hg14]at ra_14 |-;have E14:=E13.trans xe14;have rb_14:=mkx RC.mono rb_13 xe14;refine a0d (i:=7) (o:=⟨_,_,_,_,_,_⟩) (by kernel_rfl) rfl (fun K hK=>?_);go_simp
    (go_at_call 48;(with_reducible refine(a5i noY v14 2 (hnoX v14) (by decide) (by decide)).mono ?_);rintro ee v15 ⟨xe15,u2,rfl,q2_15⟩)
    refine hK.out _ _ (hS.out _ (E14.trans xe15)) (fun hHeld=>?_);clear hK K
    (try simp only[Act.put,List.setIfInBounds_toArray,List.set_cons_zero,List.set_cons_succ])
    obtain⟨s2,a2,n2,c2,d2,k2,e2,rfl⟩:=q2_15.shape;have E15:=E14.trans xe15;have rb_15:=mkx RC.mono rb_14 xe15;have ra_15:=mkx RC.mono ra_14 xe15;refine a0d (i:=8) (o:=⟨_,_,_,_,_,_⟩) (by kernel_rfl) rfl (fun K hK=>?_);go_simp
    skip
    refine hK.out _ _ (hS.out _ (E15.trans ((ExtX.refl _).alloc _))) (fun hHeld=>?_);clear hK K
    (try simp only[Act.put,List.setIfInBounds_toArray,List.set_cons_zero,List.set_cons_succ])
    have xe16:Ext v15 (v15.alloc (.cells #[.bool s1, .slice a1 n1 c1, .slice d1 k1 e1, .bool s2, .slice a2 n2 c2, .slice d2 k2 e2] 32)):=(ExtX.refl _).alloc _;have rc_16:=a0H (e:=32) (arr:=#[.bool s1, .slice a1 n1 c1, .slice d1 k1 e1, .bool s2, .slice a2 n2 c2, .slice d2 k2 e2]) (hnoX v15) (mkx QC.mono h1 E15) q2_15 rfl;obtain⟨v16,hv16⟩:∃v16,v15.alloc (.cells #[.bool s1, .slice a1 n1 c1, .slice d1 k1 e1, .bool s2, .slice a2 n2 c2, .slice d2 k2 e2] 32)=v16:=⟨_,rfl⟩;obtain⟨g16,hg16⟩:∃g:Option Addr,some ⟨v15.heap.size,0,none⟩=g:=⟨_,rfl⟩;rw[hv16]at xe16;rw[hv16,hg16]at rc_16 |-;have E16:=E15.trans xe16;have rb_16:=mkx RC.mono rb_15 xe16;have ra_16:=mkx RC.mono ra_15 xe16;have q2_16:=mkx QC.mono q2_15 xe16;refine a0d (i:=9) (o:=⟨_,_,_,_,_,_⟩) (by kernel_rfl) rfl (fun K hK=>?_);go_simp
    skip
    refine hK.out _ _ (hS.out _ (E16.trans ((ExtX.refl _).alloc _))) (fun hHeld=>?_);clear hK K
    (try simp only[Act.put,List.setIfInBounds_toArray,List.set_cons_zero,List.set_cons_succ])
    have xe17:Ext v16 (v16.alloc (.cells #[.slice g14 2 2, .slice g13 2 2, .slice g16 2 2] 45)):=(ExtX.refl _).alloc _;have mm_17:=a2l (e:=45) (arr:=#[.slice g14 2 2, .slice g13 2 2, .slice g16 2 2]) (hnoX v16) ra_16 rb_16 rc_16 rfl;obtain⟨v17,hv17⟩:∃v17,v16.alloc (.cells #[.slice g14 2 2, .slice g13 2 2, .slice g16 2 2] 45)=v17:=⟨_,rfl⟩;obtain⟨g17,hg17⟩:∃g:Option Addr,some ⟨v16.heap.size,0,none⟩=g:=⟨_,rfl⟩;rw[hv17]at xe17;rw[hv17,hg17]at mm_17 |-;have E17:=E16.trans xe17;have rb_17:=mkx RC.mono rb_16 xe17;have ra_17:=mkx RC.mono ra_16 xe17;have q2_17:=mkx QC.mono q2_16 xe17;have rc_17:=mkx RC.mono rc_16 xe17;refine a0j (i:=10) (o:=⟨_,_,_,_,_,_⟩) (by kernel_rfl) rfl (by decide) (by kernel_rfl) (fun K hK=>?_);go_simp
    refine hK.out _ _ ?_;clear hK K;go_wp2_with fail
    go_meet
    case rel=>exact⟨_,rfl,mm_17,hEd.trans E17⟩
   ·skip
    go_simp
    (go_at_call 48;(with_reducible refine(a5i noY v13 2 (hnoX v13) (by decide) (by decide)).mono ?_);rintro ee v18 ⟨xe18,u2,rfl,q2_18⟩)
    refine hK.out _ _ (hS.out _ (E13.trans xe18)) (fun hHeld=>?_);clear hK K
    (try simp only[Act.put,List.setIfInBounds_toArray,List.set_cons_zero,List.set_cons_succ])
    obtain⟨s2,a2,n2,c2,d2,k2,e2,rfl⟩:=q2_18.shape;have E18:=E13.trans xe18;have rb_18:=mkx RC.mono rb_13 xe18;refine a0F (i:=2) (j:=8) (oi:=⟨_,_,_,_,_,_⟩) (oj:=⟨_,_,_,_,_,_⟩) (by kernel_rfl) rfl rfl (fun K hK=>?_) (fun K hK=>?_)
    ·skip
     go_simp
     skip
     refine hK.out _ _ (hS.out _ (E18.trans ((ExtX.refl _).alloc _))) (fun hHeld=>?_);clear hK K
     (try simp only[Act.put,List.setIfInBounds_toArray,List.set_cons_zero,List.set_cons_succ])
     have xe19:Ext v18 (v18.alloc (.cells #[.bool s1, .slice a1 n1 c1, .slice d1 k1 e1, .bool false, .slice none 0 0, .slice none 0 0] 32)):=(ExtX.refl _).alloc _;have ra_19:=a0H (e:=32) (arr:=#[.bool s1, .slice a1 n1 c1, .slice d1 k1 e1, .bool false, .slice none 0 0, .slice none 0 0]) (hnoX v18) (mkx QC.mono h1 E18) (QC.zero _) rfl;obtain⟨v19,hv19⟩:∃v19,v18.alloc (.cells #[.bool s1, .slice a1 n1 c1, .slice d1 k1 e1, .bool false, .slice none 0 0, .slice none 0 0] 32)=v19:=⟨_,rfl⟩;obtain⟨g19,hg19⟩:∃g:Option Addr,some ⟨v18.heap.size,0,none⟩=g:=⟨_,rfl⟩;rw[hv19]at xe19;rw[hv19,hg19]at ra_19 |-;have E19:=E18.trans xe19;have rb_19:=mkx RC.mono rb_18 xe19;have q2_19:=mkx QC.mono q2_18 xe19;refine a0d (i:=8) (o:=⟨_,_,_,_,_,_⟩) (by kernel_rfl) rfl (fun K hK=>?_);go_simp
     skip
     refine hK.out _ _ (hS.out _ (E19.trans ((ExtX.refl _).alloc _))) (fun hHeld=>?_);clear hK K
     (try simp only[Act.put,List.setIfInBounds_toArray,List.set_cons_zero,List.set_cons_succ])
     have xe20:Ext v19 (v19.alloc (.cells #[.bool s1, .slice a1 n1 c1, .slice d1 k1 e1, .bool s2, .slice a2 n2 c2, .slice d2 k2 e2] 32)):=(ExtX.refl _).alloc _;have rc_20:=a0H (e:=32) (arr:=#[.bool s1, .slice a1 n1 c1, .slice d1 k1 e1, .bool s2, .slice a2 n2 c2, .slice d2 k2 e2]) (hnoX v19) (mkx QC.mono h1 E19) q2_19 rfl;obtain⟨v20,hv20⟩:∃v20,v19.alloc (.cells #[.bool s1, .slice a1 n1 c1, .slice d1 k1 e1, .bool s2, .slice a2 n2 c2, .slice d2 k2 e2] 32)=v20:=⟨_,rfl⟩;obtain⟨g20,hg20⟩:∃g:Option Addr,some ⟨v19.heap.size,0,none⟩=g:=⟨_,rfl⟩;rw[hv20]at xe20;rw[hv20,hg20]at rc_20 |-;have E20:=E19.trans xe20;have rb_20:=mkx RC.mono rb_19 xe20;have q2_20:=mkx QC.mono q2_19 xe20;have ra_20:=mkx RC.mono ra_19 xe20;refine a0d (i:=9) (o:=⟨_,_,_,_,_,_⟩) (by kernel_rfl) rfl (fun K hK=>?_);go_simp
     skip
     refine hK.out _ _ (hS.out _ (E20.trans ((ExtX.refl _).alloc _))) (fun hHeld=>?_);clear hK K
     (try simp only[Act.put,List.setIfInBounds_toArray,List.set_cons_zero,List.set_cons_succ])
     have xe21:Ext v20 (v20.alloc (.cells #[.slice g19 2 2, .slice g13 2 2, .slice g20 2 2] 45)):=(ExtX.refl _).alloc _;have mm_21:=a2l (e:=45) (arr:=#[.slice g19 2 2, .slice g13 2 2, .slice g20 2 2]) (hnoX v20) ra_20 rb_20 rc_20 rfl;obtain⟨v21,hv21⟩:∃v21,v20.alloc (.cells #[.slice g19 2 2, .slice g13 2 2, .slice g20 2 2] 45)=v21:=⟨_,rfl⟩;obtain⟨g21,hg21⟩:∃g:Option Addr,some ⟨v20.heap.size,0,none⟩=g:=⟨_,rfl⟩;rw[hv21]at xe21;rw[hv21,hg21]at mm_21 |-;have E21:=E20.trans xe21;have rb_21:=mkx RC.mono rb_20 xe21;have q2_21:=mkx QC.mono q2_20 xe21;have ra_21:=mkx RC.mono ra_20 xe21;have rc_21:=mkx RC.mono rc_20 xe21;refine a0j (i:=10) (o:=⟨_,_,_,_,_,_⟩) (by kernel_rfl) rfl (by decide) (by kernel_rfl) (fun K hK=>?_);go_simp
     refine hK.out _ _ ?_;clear hK K;go_wp2_with fail
     go_meet
     case rel=>exact⟨_,rfl,mm_21,hEd.trans E21⟩
    ·skip
     go_simp
     skip
     refine hK.out _ _ (hS.out _ (E18.trans ((ExtX.refl _).alloc _))) (fun hHeld=>?_);clear hK K
     (try simp only[Act.put,List.setIfInBounds_toArray,List.set_cons_zero,List.set_cons_succ])
     have xe22:Ext v18 (v18.alloc (.cells #[.bool s1, .slice a1 n1 c1, .slice d1 k1 e1, .bool s2, .slice a2 n2 c2, .slice d2 k2 e2] 32)):=(ExtX.refl _).alloc _;have rc_22:=a0H (e:=32) (arr:=#[.bool s1, .slice a1 n1 c1, .slice d1 k1 e1, .bool s2, .slice a2 n2 c2, .slice d2 k2 e2]) (hnoX v18) (mkx QC.mono h1 E18) q2_18 rfl;obtain⟨v22,hv22⟩:∃v22,v18.alloc (.cells #[.bool s1, .slice a1 n1 c1, .slice d1 k1 e1, .bool s2, .slice a2 n2 c2, .slice d2 k2 e2] 32)=v22:=⟨_,rfl⟩;obtain⟨g22,hg22⟩:∃g:Option Addr,some ⟨v18.heap.size,0,none⟩=g:=⟨_,rfl⟩;rw[hv22]at xe22;rw[hv22,hg22]at rc_22 |-;have E22:=E18.trans xe22;have rb_22:=mkx RC.mono rb_18 xe22;have q2_22:=mkx QC.mono q2_18 xe22;refine a0d (i:=2) (o:=⟨_,_,_,_,_,_⟩) (by kernel_rfl) rfl (fun K hK=>?_);go_simp
     skip
     refine hK.out _ _ (hS.out _ (E22.trans ((ExtX.refl _).alloc _))) (fun hHeld=>?_);clear hK K
     (try simp only[Act.put,List.setIfInBounds_toArray,List.set_cons_zero,List.set_cons_succ])
     have xe23:Ext v22 (v22.alloc (.cells #[.bool s1, .slice a1 n1 c1, .slice d1 k1 e1, .bool false, .slice none 0 0, .slice none 0 0] 32)):=(ExtX.refl _).alloc _;have ra_23:=a0H (e:=32) (arr:=#[.bool s1, .slice a1 n1 c1, .slice d1 k1 e1, .bool false, .slice none 0 0, .slice none 0 0]) (hnoX v22) (mkx QC.mono h1 E22) (QC.zero _) rfl;obtain⟨v23,hv23⟩:∃v23,v22.alloc (.cells #[.bool s1, .slice a1 n1 c1, .slice d1 k1 e1, .bool false, .slice none 0 0, .slice none 0 0] 32)=v23:=⟨_,rfl⟩;obtain⟨g23,hg23⟩:∃g:Option Addr,some ⟨v22.heap.size,0,none⟩=g:=⟨_,rfl⟩;rw[hv23]at xe23;rw[hv23,hg23]at ra_23 |-;have E23:=E22.trans xe23;have rb_23:=mkx RC.mono rb_22 xe23;have q2_23:=mkx QC.mono q2_22 xe23;have rc_23:=mkx RC.mono rc_22 xe23;refine a0d (i:=9) (o:=⟨_,_,_,_,_,_⟩) (by kernel_rfl) rfl (fun K hK=>?_);go_simp
     skip
     refine hK.out _ _ (hS.out _ (E23.trans ((ExtX.refl _).alloc _))) (fun hHeld=>?_);clear hK K
     (try simp only[Act.put,List.setIfInBounds_toArray,List.set_cons_zero,List.set_cons_succ])
     have xe24:Ext v23 (v23.alloc (.cells #[.slice g23 2 2, .slice g13 2 2, .slice g22 2 2] 45)):=(ExtX.refl _).alloc _;have mm_24:=a2l (e:=45) (arr:=#[.slice g23 2 2, .slice g13 2 2, .slice g22 2 2]) (hnoX v23) ra_23 rb_23 rc_23 rfl;obtain⟨v24,hv24⟩:∃v24,v23.alloc (.cells #[.slice g23 2 2, .slice g13 2 2, .slice g22 2 2] 45)=v24:=⟨_,rfl⟩;obtain⟨g24,hg24⟩:∃g:Option Addr,some ⟨v23.heap.size,0,none⟩=g:=⟨_,rfl⟩;rw[hv24]at xe24;rw[hv24,hg24]at mm_24 |-;have E24:=E23.trans xe24;have rb_24:=mkx RC.mono rb_23 xe24;have q2_24:=mkx QC.mono q2_23 xe24;have rc_24:=mkx RC.mono rc_23 xe24;have ra_24:=mkx RC.mono ra_23 xe24;refine a0j (i:=10) (o:=⟨_,_,_,_,_,_⟩) (by kernel_rfl) rfl (by decide) (by kernel_rfl) (fun K hK=>?_);go_simp
     refine hK.out _ _ ?_;clear hK K;go_wp2_with fail
     go_meet
     case rel=>exact⟨_,rfl,mm_24,hEd.trans E24⟩
  ·skip
   go_simp
   (go_at_call 48;(with_reducible refine(a5i noY wd 2 (hnoX wd) (by decide) (by decide)).mono ?_);rintro ee v25 ⟨xe25,u2,rfl,q2_25⟩)
   refine hK.out _ _ (hS.out _ (E0.trans xe25)) (fun hHeld=>?_);clear hK K
   (try simp only[Act.put,List.setIfInBounds_toArray,List.set_cons_zero,List.set_cons_succ])
   obtain⟨s2,a2,n2,c2,d2,k2,e2,rfl⟩:=q2_25.shape;have E25:=E0.trans xe25;refine a3v (i:=2) (j:=5) (l:=8) (oi:=⟨_,_,_,_,_,_⟩) (oj:=⟨_,_,_,_,_,_⟩) (ol:=⟨_,_,_,_,_,_⟩) (by kernel_rfl) rfl rfl rfl (fun K hK=>?_) (fun K hK=>?_) (fun K hK=>?_)
   ·skip
    go_simp
    skip
    refine hK.out _ _ (hS.out _ (E25.trans ((ExtX.refl _).alloc _))) (fun hHeld=>?_);clear hK K
    (try simp only[Act.put,List.setIfInBounds_toArray,List.set_cons_zero,List.set_cons_succ])
    have xe26:Ext v25 (v25.alloc (.cells #[.bool s1, .slice a1 n1 c1, .slice d1 k1 e1, .bool false, .slice none 0 0, .slice none 0 0] 32)):=(ExtX.refl _).alloc _;have ra_26:=a0H (e:=32) (arr:=#[.bool s1, .slice a1 n1 c1, .slice d1 k1 e1, .bool false, .slice none 0 0, .slice none 0 0]) (hnoX v25) (mkx QC.mono h1 E25) (QC.zero _) rfl;obtain⟨v26,hv26⟩:∃v26,v25.alloc (.cells #[.bool s1, .slice a1 n1 c1, .slice d1 k1 e1, .bool false, .slice none 0 0, .slice none 0 0] 32)=v26:=⟨_,rfl⟩;obtain⟨g26,hg26⟩:∃g:Option Addr,some ⟨v25.heap.size,0,none⟩=g:=⟨_,rfl⟩;rw[hv26]at xe26;rw[hv26,hg26]at ra_26 |-;have E26:=E25.trans xe26;have q2_26:=mkx QC.mono q2_25 xe26;refine a0F (i:=5) (j:=8) (oi:=⟨_,_,_,_,_,_⟩) (oj:=⟨_,_,_,_,_,_⟩) (by kernel_rfl) rfl rfl (fun K hK=>?_) (fun K hK=>?_)
    ·skip
     go_simp
     skip
     refine hK.out _ _ (hS.out _ (E26.trans ((ExtX.refl _).alloc _))) (fun hHeld=>?_);clear hK K
     (try simp only[Act.put,List.setIfInBounds_toArray,List.set_cons_zero,List.set_cons_succ])
     have xe27:Ext v26 (v26.alloc (.cells #[.bool s1, .slice a1 n1 c1, .slice d1 k1 e1, .bool s1, .slice a1 n1 c1, .slice d1 k1 e1] 32)):=(ExtX.refl _).alloc _;have rb_27:=a0H (e:=32) (arr:=#[.bool s1, .slice a1 n1 c1, .slice d1 k1 e1, .bool s1, .slice a1 n1 c1, .slice d1 k1 e1]) (hnoX v26) (mkx QC.mono h1 E26) (mkx QC.mono h1 E26) rfl;obtain⟨v27,hv27⟩:∃v27,v26.alloc (.cells #[.bool s1, .slice a1 n1 c1, .slice d1 k1 e1, .bool s1, .slice a1 n1 c1, .slice d1 k1 e1] 32)=v27:=⟨_,rfl⟩;obtain⟨g27,hg27⟩:∃g:Option Addr,some ⟨v26.heap.size,0,none⟩=g:=⟨_,rfl⟩;rw[hv27]at xe27;rw[hv27,hg27]at rb_27 |-;have E27:=E26.trans xe27;have q2_27:=mkx QC.mono q2_26 xe27;have ra_27:=mkx RC.mono ra_26 xe27;refine a0d (i:=8) (o:=⟨_,_,_,_,_,_⟩) (by kernel_rfl) rfl (fun K hK=>?_);go_simp
     skip
     refine hK.out _ _ (hS.out _ (E27.trans ((ExtX.refl _).alloc _))) (fun hHeld=>?_);clear hK K
     (try simp only[Act.put,List.setIfInBounds_toArray,List.set_cons_zero,List.set_cons_succ])
     have xe28:Ext v27 (v27.alloc (.cells #[.bool s1, .slice a1 n1 c1, .slice d1 k1 e1, .bool s2, .slice a2 n2 c2, .slice d2 k2 e2] 32)):=(ExtX.refl _).alloc _;have rc_28:=a0H (e:=32) (arr:=#[.bool s1, .slice a1 n1 c1, .slice d1 k1 e1, .bool s2, .slice a2 n2 c2, .slice d2 k2 e2]) (hnoX v27) (mkx QC.mono h1 E27) q2_27 rfl;obtain⟨v28,hv28⟩:∃v28,v27.alloc (.cells #[.bool s1, .slice a1 n1 c1, .slice d1 k1 e1, .bool s2, .slice a2 n2 c2, .slice d2 k2 e2] 32)=v28:=⟨_,rfl⟩;obtain⟨g28,hg28⟩:∃g:Option Addr,some ⟨v27.heap.size,0,none⟩=g:=⟨_,rfl⟩;rw[hv28]at xe28;rw[hv28,hg28]at rc_28 |-;have E28:=E27.trans xe28;have q2_28:=mkx QC.mono q2_27 xe28;have ra_28:=mkx RC.mono ra_27 xe28;have rb_28:=mkx RC.mono rb_27 xe28;refine a0d (i:=9) (o:=⟨_,_,_,_,_,_⟩) (by kernel_rfl) rfl (fun K hK=>?_);go_simp
     skip
     refine hK.out _ _ (hS.out _ (E28.trans ((ExtX.refl _).alloc _))) (fun hHeld=>?_);clear hK K
     (try simp only[Act.put,List.setIfInBounds_toArray,List.set_cons_zero,List.set_cons_succ])
     have xe29:Ext v28 (v28.alloc (.cells #[.slice g26 2 2, .slice g27 2 2, .slice g28 2 2] 45)):=(ExtX.refl _).alloc _;have mm_29:=a2l (e:=45) (arr:=#[.slice g26 2 2, .slice g27 2 2, .slice g28 2 2]) (hnoX v28) ra_28 rb_28 rc_28 rfl;obtain⟨v29,hv29⟩:∃v29,v28.alloc (.cells #[.slice g26 2 2, .slice g27 2 2, .slice g28 2 2] 45)=v29:=⟨_,rfl⟩;obtain⟨g29,hg29⟩:∃g:Option Addr,some ⟨v28.heap.size,0,none⟩=g:=⟨_,rfl⟩;rw[hv29]at xe29;rw[hv29,hg29]at mm_29 |-;have E29:=E28.trans xe29;have q2_29:=mkx QC.mono q2_28 xe29;have ra_29:=mkx RC.mono ra_28 xe29;have rb_29:=mkx RC.mono rb_28 xe29;have rc_29:=mkx RC.mono rc_28 xe29;refine a0j (i:=10) (o:=⟨_,_,_,_,_,_⟩) (by kernel_rfl) rfl (by decide) (by kernel_rfl) (fun K hK=>?_);go_simp
     refine hK.out _ _ ?_;clear hK K;go_wp2_with fail
     go_meet
     case rel=>exact⟨_,rfl,mm_29,hEd.trans E29⟩
    ·skip
     go_simp
     skip
     refine hK.out _ _ (hS.out _ (E26.trans ((ExtX.refl _).alloc _))) (fun hHeld=>?_);clear hK K
     (try simp only[Act.put,List.setIfInBounds_toArray,List.set_cons_zero,List.set_cons_succ])
     have xe30:Ext v26 (v26.alloc (.cells #[.bool s1, .slice a1 n1 c1, .slice d1 k1 e1, .bool s2, .slice a2 n2 c2, .slice d2 k2 e2] 32)):=(ExtX.refl _).alloc _;have rc_30:=a0H (e:=32) (arr:=#[.bool s1, .slice a1 n1 c1, .slice d1 k1 e1, .bool s2, .slice a2 n2 c2, .slice d2 k2 e2]) (hnoX v26) (mkx QC.mono h1 E26) q2_26 rfl;obtain⟨v30,hv30⟩:∃v30,v26.alloc (.cells #[.bool s1, .slice a1 n1 c1, .slice d1 k1 e1, .bool s2, .slice a2 n2 c2, .slice d2 k2 e2] 32)=v30:=⟨_,rfl⟩;obtain⟨g30,hg30⟩:∃g:Option Addr,some ⟨v26.heap.size,0,none⟩=g:=⟨_,rfl⟩;rw[hv30]at xe30;rw[hv30,hg30]at rc_30 |-;have E30:=E26.trans xe30;have q2_30:=mkx QC.mono q2_26 xe30;have ra_30:=mkx RC.mono ra_26 xe30;refine a0d (i:=5) (o:=⟨_,_,_,_,_,_⟩) (by kernel_rfl) rfl (fun K hK=>?_);go_simp
     skip
     refine hK.out _ _ (hS.out _ (E30.trans ((ExtX.refl _).alloc _))) (fun hHeld=>?_);clear hK K
     (try simp only[Act.put,List.setIfInBounds_toArray,List.set_cons_zero,List.set_cons_succ])
     have xe31:Ext v30 (v30.alloc (.cells #[.bool s1, .slice a1 n1 c1, .slice d1 k1 e1, .bool s1, .slice a1 n1 c1, .slice d1 k1 e1] 32)):=(ExtX.refl _).alloc _;have rb_31:=a0H (e:=32) (arr:=#[.bool s1, .slice a1 n1 c1, .slice d1 k1 e1, .bool s1, .slice a1 n1 c1, .slice d1 k1 e1]) (hnoX v30) (mkx QC.mono h1 E30) (mkx QC.mono h1 E30) rfl;obtain⟨v31,hv31⟩:∃v31,v30.alloc (.cells #[.bool s1, .slice a1 n1 c1, .slice d1 k1 e1, .bool s1, .slice a1 n1 c1, .slice d1 k1 e1] 32)=v31:=⟨_,rfl⟩;obtain⟨g31,hg31⟩:∃g:Option Addr,some ⟨v30.heap.size,0,none⟩=g:=⟨_,rfl⟩;rw[hv31]at xe31;rw[hv31,hg31]at rb_31 |-;have E31:=E30.trans xe31;have q2_31:=mkx QC.mono q2_30 xe31;have ra_31:=mkx RC.mono ra_30 xe31;have rc_31:=mkx RC.mono rc_30 xe31;refine a0d (i:=9) (o:=⟨_,_,_,_,_,_⟩) (by kernel_rfl) rfl (fun K hK=>?_);go_simp
     skip
     refine hK.out _ _ (hS.out _ (E31.trans ((ExtX.refl _).alloc _))) (fun hHeld=>?_);clear hK K
     (try simp only[Act.put,List.setIfInBounds_toArray,List.set_cons_zero,List.set_cons_succ])
     have xe32:Ext v31 (v31.alloc (.cells #[.slice g26 2 2, .slice g31 2 2, .slice g30 2 2] 45)):=(ExtX.refl _).alloc _;have mm_32:=a2l (e:=45) (arr:=#[.slice g26 2 2, .slice g31 2 2, .slice g30 2 2]) (hnoX v31) ra_31 rb_31 rc_31 rfl;obtain⟨v32,hv32⟩:∃v32,v31.alloc (.cells #[.slice g26 2 2, .slice g31 2 2, .slice g30 2 2] 45)=v32:=⟨_,rfl⟩;obtain⟨g32,hg32⟩:∃g:Option Addr,some ⟨v31.heap.size,0,none⟩=g:=⟨_,rfl⟩;rw[hv32]at xe32;rw[hv32,hg32]at mm_32 |-;have E32:=E31.trans xe32;have q2_32:=mkx QC.mono q2_31 xe32;have ra_32:=mkx RC.mono ra_31 xe32;have rc_32:=mkx RC.mono rc_31 xe32;have rb_32:=mkx RC.mono rb_31 xe32;refine a0j (i:=10) (o:=⟨_,_,_,_,_,_⟩) (by kernel_rfl) rfl (by decide) (by kernel_rfl) (fun K hK=>?_);go_simp
     refine hK.out _ _ ?_;clear hK K;go_wp2_with fail
     go_meet
     case rel=>exact⟨_,rfl,mm_32,hEd.trans E32⟩
   ·skip
    go_simp
    skip
    refine hK.out _ _ (hS.out _ (E25.trans ((ExtX.refl _).alloc _))) (fun hHeld=>?_);clear hK K
    (try simp only[Act.put,List.setIfInBounds_toArray,List.set_cons_zero,List.set_cons_succ])
    have xe33:Ext v25 (v25.alloc (.cells #[.bool s1, .slice a1 n1 c1, .slice d1 k1 e1, .bool s1, .slice a1 n1 c1, .slice d1 k1 e1] 32)):=(ExtX.refl _).alloc _;have rb_33:=a0H (e:=32) (arr:=#[.bool s1, .slice a1 n1 c1, .slice d1 k1 e1, .bool s1, .slice a1 n1 c1, .slice d1 k1 e1]) (hnoX v25) (mkx QC.mono h1 E25) (mkx QC.mono h1 E25) rfl;obtain⟨v33,hv33⟩:∃v33,v25.alloc (.cells #[.bool s1, .slice a1 n1 c1, .slice d1 k1 e1, .bool s1, .slice a1 n1 c1, .slice d1 k1 e1] 32)=v33:=⟨_,rfl⟩;obtain⟨g33,hg33⟩:∃g:Option Addr,some ⟨v25.heap.size,0,none⟩=g:=⟨_,rfl⟩;rw[hv33]at xe33;rw[hv33,hg33]at rb_33 |-;have E33:=E25.trans xe33;have q2_33:=mkx QC.mono q2_25 xe33;refine a0F (i:=2) (j:=8) (oi:=⟨_,_,_,_,_,_⟩) (oj:=⟨_,_,_,_,_,_⟩) (by kernel_rfl) rfl rfl (fun K hK=>?_) (fun K hK=>?_)
    ·skip
     go_simp
     skip
     refine hK.out _ _ (hS.out _ (E33.trans ((ExtX.refl _).alloc _))) (fun hHeld=>?_);clear hK K
     (try simp only[Act.put,List.setIfInBounds_toArray,List.set_cons_zero,List.set_cons_succ])
     have xe34:Ext v33 (v33.alloc (.cells #[.bool s1, .slice a1 n1 c1, .slice d1 k1 e1, .bool false, .slice none 0 0, .slice none 0 0] 32)):=(ExtX.refl _).alloc _;have ra_34:=a0H (e:=32) (arr:=#[.bool s1, .slice a1 n1 c1, .slice d1 k1 e1, .bool false, .slice none 0 0, .slice none 0 0]) (hnoX v33) (mkx QC.mono h1 E33) (QC.zero _) rfl;obtain⟨v34,hv34⟩:∃v34,v33.alloc (.cells #[.bool s1, .slice a1 n1 c1, .slice d1 k1 e1, .bool false, .slice none 0 0, .slice none 0 0] 32)=v34:=⟨_,rfl⟩;obtain⟨g34,hg34⟩:∃g:Option Addr,some ⟨v33.heap.size,0,none⟩=g:=⟨_,rfl⟩;rw[hv34]at xe34;rw[hv34,hg34]at ra_34 |-;have E34:=E33.trans xe34;have q2_34:=mkx QC.mono q2_33 xe34;have rb_34:=mkx RC.mono rb_33 xe34;refine a0d (i:=8) (o:=⟨_,_,_,_,_,_⟩) (by kernel_rfl) rfl (fun K hK=>?_);go_simp
     skip
     refine hK.out _ _ (hS.out _ (E34.trans ((ExtX.refl _).alloc _))) (fun hHeld=>?_);clear hK K
     (try simp only[Act.put,List.setIfInBounds_toArray,List.set_cons_zero,List.set_cons_succ])
     have xe35:Ext v34 (v34.alloc (.cells #[.bool s1, .slice a1 n1 c1, .slice d1 k1 e1, .bool s2, .slice a2 n2 c2, .slice d2 k2 e2] 32)):=(ExtX.refl _).alloc _;have rc_35:=a0H (e:=32) (arr:=#[.bool s1, .slice a1 n1 c1, .slice d1 k1 e1, .bool s2, .slice a2 n2 c2, .slice d2 k2 e2]) (hnoX v34) (mkx QC.mono h1 E34) q2_34 rfl;obtain⟨v35,hv35⟩:∃v35,v34.alloc (.cells #[.bool s1, .slice a1 n1 c1, .slice d1 k1 e1, .bool s2, .slice a2 n2 c2, .slice d2 k2 e2] 32)=v35:=⟨_,rfl⟩;obtain⟨g35,hg35⟩:∃g:Option Addr,some ⟨v34.heap.size,0,none⟩=g:=⟨_,rfl⟩;rw[hv35]at xe35;rw[hv35,hg35]at rc_35 |-;have E35:=E34.trans xe35;have q2_35:=mkx QC.mono q2_34 xe35;have rb_35:=mkx RC.mono rb_34 xe35;have ra_35:=mkx RC.mono ra_34 xe35;refine a0d (i:=9) (o:=⟨_,_,_,_,_,_⟩) (by kernel_rfl) rfl (fun K hK=>?_);go_simp
     skip
     refine hK.out _ _ (hS.out _ (E35.trans ((ExtX.refl _).alloc _))) (fun hHeld=>?_);clear hK K
     (try simp only[Act.put,List.setIfInBounds_toArray,List.set_cons_zero,List.set_cons_succ])
     have xe36:Ext v35 (v35.alloc (.cells #[.slice g34 2 2, .slice g33 2 2, .slice g35 2 2] 45)):=(ExtX.refl _).alloc _;have mm_36:=a2l (e:=45) (arr:=#[.slice g34 2 2, .slice g33 2 2, .slice g35 2 2]) (hnoX v35) ra_35 rb_35 rc_35 rfl;obtain⟨v36,hv36⟩:∃v36,v35.alloc (.cells #[.slice g34 2 2, .slice g33 2 2, .slice g35 2 2] 45)=v36:=⟨_,rfl⟩;obtain⟨g36,hg36⟩:∃g:Option Addr,some ⟨v35.heap.size,0,none⟩=g:=⟨_,rfl⟩;rw[hv36]at xe36;rw[hv36,hg36]at mm_36 |-;have E36:=E35.trans xe36;have q2_36:=mkx QC.mono q2_35 xe36;have rb_36:=mkx RC.mono rb_35 xe36;have ra_36:=mkx RC.mono ra_35 xe36;have rc_36:=mkx RC.mono rc_35 xe36;refine a0j (i:=10) (o:=⟨_,_,_,_,_,_⟩) (by kernel_rfl) rfl (by decide) (by kernel_rfl) (fun K hK=>?_);go_simp
     refine hK.out _ _ ?_;clear hK K;go_wp2_with fail
     go_meet
     case rel=>exact⟨_,rfl,mm_36,hEd.trans E36⟩
    ·skip
     go_simp
     skip
     refine hK.out _ _ (hS.out _ (E33.trans ((ExtX.refl _).alloc _))) (fun hHeld=>?_);clear hK K
     (try simp only[Act.put,List.setIfInBounds_toArray,List.set_cons_zero,List.set_cons_succ])
     have xe37:Ext v33 (v33.alloc (.cells #[.bool s1, .slice a1 n1 c1, .slice d1 k1 e1, .bool s2, .slice a2 n2 c2, .slice d2 k2 e2] 32)):=(ExtX.refl _).alloc _;have rc_37:=a0H (e:=32) (arr:=#[.bool s1, .slice a1 n1 c1, .slice d1 k1 e1, .bool s2, .slice a2 n2 c2, .slice d2 k2 e2]) (hnoX v33) (mkx QC.mono h1 E33) q2_33 rfl;obtain⟨v37,hv37⟩:∃v37,v33.alloc (.cells #[.bool s1, .slice a1 n1 c1, .slice d1 k1 e1, .bool s2, .slice a2 n2 c2, .slice d2 k2 e2] 32)=v37:=⟨_,rfl⟩;obtain⟨g37,hg37⟩:∃g:Option Addr,some ⟨v33.heap.size,0,none⟩=g:=⟨_,rfl⟩;rw[hv37]at xe37;rw[hv37,hg37]at rc_37 |-;have E37:=E33.trans xe37;have q2_37:=mkx QC.mono q2_33 xe37;have rb_37:=mkx RC.mono rb_33 xe37;refine a0d (i:=2) (o:=⟨_,_,_,_,_,_⟩) (by kernel_rfl) rfl (fun K hK=>?_);go_simp
     skip
     refine hK.out _ _ (hS.out _ (E37.trans ((ExtX.refl _).alloc _))) (fun hHeld=>?_);clear hK K
     (try simp only[Act.put,List.setIfInBounds_toArray,List.set_cons_zero,List.set_cons_succ])
     have xe38:Ext v37 (v37.alloc (.cells #[.bool s1, .slice a1 n1 c1, .slice d1 k1 e1, .bool false, .slice none 0 0, .slice none 0 0] 32)):=(ExtX.refl _).alloc _;have ra_38:=a0H (e:=32) (arr:=#[.bool s1, .slice a1 n1 c1, .slice d1 k1 e1, .bool false, .slice none 0 0, .slice none 0 0]) (hnoX v37) (mkx QC.mono h1 E37) (QC.zero _) rfl;obtain⟨v38,hv38⟩:∃v38,v37.alloc (.cells #[.bool s1, .slice a1 n1 c1, .slice d1 k1 e1, .bool false, .slice none 0 0, .slice none 0 0] 32)=v38:=⟨_,rfl⟩;obtain⟨g38,hg38⟩:∃g:Option Addr,some ⟨v37.heap.size,0,none⟩=g:=⟨_,rfl⟩;rw[hv38]at xe38;rw[hv38,hg38]at ra_38 |-;have E38:=E37.trans xe38;have q2_38:=mkx QC.mono q2_37 xe38;have rb_38:=mkx RC.mono rb_37 xe38;have rc_38:=mkx RC.mono rc_37 xe38;refine a0d (i:=9) (o:=⟨_,_,_,_,_,_⟩) (by kernel_rfl) rfl (fun K hK=>?_);go_simp
     skip
     refine hK.out _ _ (hS.out _ (E38.trans ((ExtX.refl _).alloc _))) (fun hHeld=>?_);clear hK K
     (try simp only[Act.put,List.setIfInBounds_toArray,List.set_cons_zero,List.set_cons_succ])
     have xe39:Ext v38 (v38.alloc (.cells #[.slice g38 2 2, .slice g33 2 2, .slice g37 2 2] 45)):=(ExtX.refl _).alloc _;have mm_39:=a2l (e:=45) (arr:=#[.slice g38 2 2, .slice g33 2 2, .slice g37 2 2]) (hnoX v38) ra_38 rb_38 rc_38 rfl;obtain⟨v39,hv39⟩:∃v39,v38.alloc (.cells #[.slice g38 2 2, .slice g33 2 2, .slice g37 2 2] 45)=v39:=⟨_,rfl⟩;obtain⟨g39,hg39⟩:∃g:Option Addr,some ⟨v38.heap.size,0,none⟩=g:=⟨_,rfl⟩;rw[hv39]at xe39;rw[hv39,hg39]at mm_39 |-;have E39:=E38.trans xe39;have q2_39:=mkx QC.mono q2_38 xe39;have rb_39:=mkx RC.mono rb_38 xe39;have rc_39:=mkx RC.mono rc_38 xe39;have ra_39:=mkx RC.mono ra_38 xe39;refine a0j (i:=10) (o:=⟨_,_,_,_,_,_⟩) (by kernel_rfl) rfl (by decide) (by kernel_rfl) (fun K hK=>?_);go_simp
     refine hK.out _ _ ?_;clear hK K;go_wp2_with fail
     go_meet
     case rel=>exact⟨_,rfl,mm_39,hEd.trans E39⟩
   ·skip
    go_simp
    skip
    refine hK.out _ _ (hS.out _ (E25.trans ((ExtX.refl _).alloc _))) (fun hHeld=>?_);clear hK K
    (try simp only[Act.put,List.setIfInBounds_toArray,List.set_cons_zero,List.set_cons_succ])
    have xe40:Ext v25 (v25.alloc (.cells #[.bool s1, .slice a1 n1 c1, .slice d1 k1 e1, .bool s2, .slice a2 n2 c2, .slice d2 k2 e2] 32)):=(ExtX.refl _).alloc _;have rc_40:=a0H (e:=32) (arr:=#[.bool s1, .slice a1 n1 c1, .slice d1 k1 e1, .bool s2, .slice a2 n2 c2, .slice d2 k2 e2]) (hnoX v25) (mkx QC.mono h1 E25) q2_25 rfl;obtain⟨v40,hv40⟩:∃v40,v25.alloc (.cells #[.bool s1, .slice a1 n1 c1, .slice d1 k1 e1, .bool s2, .slice a2 n2 c2, .slice d2 k2 e2] 32)=v40:=⟨_,rfl⟩;obtain⟨g40,hg40⟩:∃g:Option Addr,some ⟨v25.heap.size,0,none⟩=g:=⟨_,rfl⟩;rw[hv40]at xe40;rw[hv40,hg40]at rc_40 |-;have E40:=E25.trans xe40;have q2_40:=mkx QC.mono q2_25 xe40;refine a0F (i:=2) (j:=5) (oi:=⟨_,_,_,_,_,_⟩) (oj:=⟨_,_,_,_,_,_⟩) (by kernel_rfl) rfl rfl (fun K hK=>?_) (fun K hK=>?_)
    ·skip
     go_simp
     skip
     refine hK.out _ _ (hS.out _ (E40.trans ((ExtX.refl _).alloc _))) (fun hHeld=>?_);clear hK K
     (try simp only[Act.put,List.setIfInBounds_toArray,List.set_cons_zero,List.set_cons_succ])
     have xe41:Ext v40 (v40.alloc (.cells #[.bool s1, .slice a1 n1 c1, .slice d1 k1 e1, .bool false, .slice none 0 0, .slice none 0 0] 32)):=(ExtX.refl _).alloc _;have ra_41:=a0H (e:=32) (arr:=#[.bool s1, .slice a1 n1 c1, .slice d1 k1 e1, .bool false, .slice none 0 0, .slice none 0 0]) (hnoX v40) (mkx QC.mono h1 E40) (QC.zero _) rfl;obtain⟨v41,hv41⟩:∃v41,v40.alloc (.cells #[.bool s1, .slice a1 n1 c1, .slice d1 k1 e1, .bool false, .slice none 0 0, .slice none 0 0] 32)=v41:=⟨_,rfl⟩;obtain⟨g41,hg41⟩:∃g:Option Addr,some ⟨v40.heap.size,0,none⟩=g:=⟨_,rfl⟩;rw[hv41]at xe41;rw[hv41,hg41]at ra_41 |-;have E41:=E40.trans xe41;have q2_41:=mkx QC.mono q2_40 xe41;have rc_41:=mkx RC.mono rc_40 xe41;refine a0d (i:=5) (o:=⟨_,_,_,_,_,_⟩) (by kernel_rfl) rfl (fun K hK=>?_);go_simp
     skip
     refine hK.out _ _ (hS.out _ (E41.trans ((ExtX.refl _).alloc _))) (fun hHeld=>?_);clear hK K
     (try simp only[Act.put,List.setIfInBounds_toArray,List.set_cons_zero,List.set_cons_succ])
     have xe42:Ext v41 (v41.alloc (.cells #[.bool s1, .slice a1 n1 c1, .slice d1 k1 e1, .bool s1, .slice a1 n1 c1, .slice d1 k1 e1] 32)):=(ExtX.refl _).alloc _;have rb_42:=a0H (e:=32) (arr:=#[.bool s1, .slice a1 n1 c1, .slice d1 k1 e1, .bool s1, .slice a1 n1 c1, .slice d1 k1 e1]) (hnoX v41) (mkx QC.mono h1 E41) (mkx QC.mono h1 E41) rfl;obtain⟨v42,hv42⟩:∃v42,v41.alloc (.cells #[.bool s1, .slice a1 n1 c1, .slice d1 k1 e1, .bool s1, .slice a1 n1 c1, .slice d1 k1 e1] 32)=v42:=⟨_,rfl⟩;obtain⟨g42,hg42⟩:∃g:Option Addr,some ⟨v41.heap.size,0,none⟩=g:=⟨_,rfl⟩;rw[hv42]at xe42;rw[hv42,hg42]at rb_42 |-;have E42:=E41.trans xe42;have q2_42:=mkx QC.mono q2_41 xe42;have rc_42:=mkx RC.mono rc_41 xe42;have ra_42:=mkx RC.mono ra_41 xe42;refine a0d (i:=9) (o:=⟨_,_,_,_,_,_⟩) (by kernel_rfl) rfl (fun K hK=>?_);go_simp
     skip
     refine hK.out _ _ (hS.out _ (E42.trans ((ExtX.refl _).alloc _))) (fun hHeld=>?_);clear hK K
     (try simp only[Act.put,List.setIfInBounds_toArray,List.set_cons_zero,List.set_cons_succ])
     have xe43:Ext v42 (v42.alloc (.cells #[.slice g41 2 2, .slice g42 2 2, .slice g40 2 2] 45)):=(ExtX.refl _).alloc _;have mm_43:=a2l (e:=45) (arr:=#[.slice g41 2 2, .slice g42 2 2, .slice g40 2 2]) (hnoX v42) ra_42 rb_42 rc_42 rfl;obtain⟨v43,hv43⟩:∃v43,v42.alloc (.cells #[.slice g41 2 2, .slice g42 2 2, .slice g40 2 2] 45)=v43:=⟨_,rfl⟩;obtain⟨g43,hg43⟩:∃g:Option Addr,some ⟨v42.heap.size,0,none⟩=g:=⟨_,rfl⟩;rw[hv43]at xe43;rw[hv43,hg43]at mm_43 |-;have E43:=E42.trans xe43;have q2_43:=mkx QC.mono q2_42 xe43;have rc_43:=mkx RC.mono rc_42 xe43;have ra_43:=mkx RC.mono ra_42 xe43;have rb_43:=mkx RC.mono rb_42 xe43;refine a0j (i:=10) (o:=⟨_,_,_,_,_,_⟩) (by kernel_rfl) rfl (by decide) (by kernel_rfl) (fun K hK=>?_);go_simp
     refine hK.out _ _ ?_;clear hK K;go_wp2_with fail
     go_meet
     case rel=>exact⟨_,rfl,mm_43,hEd.trans E43⟩
    ·skip
     go_simp
     skip
     refine hK.out _ _ (hS.out _ (E40.trans ((ExtX.refl _).alloc _))) (fun hHeld=>?_);clear hK K
     (try simp only[Act.put,List.setIfInBounds_toArray,List.set_cons_zero,List.set_cons_succ])
     have xe44:Ext v40 (v40.alloc (.cells #[.bool s1, .slice a1 n1 c1, .slice d1 k1 e1, .bool s1, .slice a1 n1 c1, .slice d1 k1 e1] 32)):=(ExtX.refl _).alloc _;have rb_44:=a0H (e:=32) (arr:=#[.bool s1, .slice a1 n1 c1, .slice d1 k1 e1, .bool s1, .slice a1 n1 c1, .slice d1 k1 e1]) (hnoX v40) (mkx QC.mono h1 E40) (mkx QC.mono h1 E40) rfl;obtain⟨v44,hv44⟩:∃v44,v40.alloc (.cells #[.bool s1, .slice a1 n1 c1, .slice d1 k1 e1, .bool s1, .slice a1 n1 c1, .slice d1 k1 e1] 32)=v44:=⟨_,rfl⟩;obtain⟨g44,hg44⟩:∃g:Option Addr,some ⟨v40.heap.size,0,none⟩=g:=⟨_,rfl⟩;rw[hv44]at xe44;rw[hv44,hg44]at rb_44 |-;have E44:=E40.trans xe44;have q2_44:=mkx QC.mono q2_40 xe44;have rc_44:=mkx RC.mono rc_40 xe44;refine a0d (i:=2) (o:=⟨_,_,_,_,_,_⟩) (by kernel_rfl) rfl (fun K hK=>?_);go_simp
     skip
     refine hK.out _ _ (hS.out _ (E44.trans ((ExtX.refl _).alloc _))) (fun hHeld=>?_);clear hK K
     (try simp only[Act.put,List.setIfInBounds_toArray,List.set_cons_zero,List.set_cons_succ])
     have xe45:Ext v44 (v44.alloc (.cells #[.bool s1, .slice a1 n1 c1, .slice d1 k1 e1, .bool false, .slice none 0 0, .slice none 0 0] 32)):=(ExtX.refl _).alloc _;have ra_45:=a0H (e:=32) (arr:=#[.bool s1, .slice a1 n1 c1, .slice d1 k1 e1, .bool false, .slice none 0 0, .slice none 0 0]) (hnoX v44) (mkx QC.mono h1 E44) (QC.zero _) rfl;obtain⟨v45,hv45⟩:∃v45,v44.alloc (.cells #[.bool s1, .slice a1 n1 c1, .slice d1 k1 e1, .bool false, .slice none 0 0, .slice none 0 0] 32)=v45:=⟨_,rfl⟩;obtain⟨g45,hg45⟩:∃g:Option Addr,some ⟨v44.heap.size,0,none⟩=g:=⟨_,rfl⟩;rw[hv45]at xe45;rw[hv45,hg45]at ra_45 |-;have E45:=E44.trans xe45;have q2_45:=mkx QC.mono q2_44 xe45;have rc_45:=mkx RC.mono rc_44 xe45;have rb_45:=mkx RC.mono rb_44 xe45;refine a0d (i:=9) (o:=⟨_,_,_,_,_,_⟩) (by kernel_rfl) rfl (fun K hK=>?_);go_simp
     skip
     refine hK.out _ _ (hS.out _ (E45.trans ((ExtX.refl _).alloc _))) (fun hHeld=>?_);clear hK K
     (try simp only[Act.put,List.setIfInBounds_toArray,List.set_cons_zero,List.set_cons_succ])
     have xe46:Ext v45 (v45.alloc (.cells #[.slice g45 2 2, .slice g44 2 2, .slice g40 2 2] 45)):=(ExtX.refl _).alloc _;have mm_46:=a2l (e:=45) (arr:=#[.slice g45 2 2, .slice g44 2 2, .slice g40 2 2]) (hnoX v45) ra_45 rb_45 rc_45 rfl;obtain⟨v46,hv46⟩:∃v46,v45.alloc (.cells #[.slice g45 2 2, .slice g44 2 2, .slice g40 2 2] 45)=v46:=⟨_,rfl⟩;obtain⟨g46,hg46⟩:∃g:Option Addr,some ⟨v45.heap.size,0,none⟩=g:=⟨_,rfl⟩;rw[hv46]at xe46;rw[hv46,hg46]at mm_46 |-;have E46:=E45.trans xe46;have q2_46:=mkx QC.mono q2_45 xe46;have rc_46:=mkx RC.mono rc_45 xe46;have rb_46:=mkx RC.mono rb_45 xe46;have ra_46:=mkx RC.mono ra_45 xe46;refine a0j (i:=10) (o:=⟨_,_,_,_,_,_⟩) (by kernel_rfl) rfl (by decide) (by kernel_rfl) (fun K hK=>?_);go_simp
     refine hK.out _ _ ?_;clear hK K;go_wp2_with fail
     go_meet
     case rel=>exact⟨_,rfl,mm_46,hEd.trans E46⟩
 case rest=>
  obtain⟨xv,hxv,hm,hEc⟩:=hcut;have hxv':=hxv.symm;clear hxv;subst hxv';have hE02:Ext w wc:=hE1.trans (hE2.trans hEc);have e11:((1:Int):Rat)=1:=by decide+kernel
  have e22:((2:Int):Rat)=2:=by decide+kernel
  have hm:MC (mk noY wc) xv awX:=by rw[e11,e22]at hm;exact hm
  have h1c:QC (mk noY wc) (.agg #[.bool s1, .slice a1 n1 c1, .slice d1 k1 e1]) 1:=by rw[<-e11];exact mkx QC.mono h12 hEc
  have hy:=b4h (e:=32) (arr:=#[.bool false, .slice none 0 0, .slice none 0 0, .bool s1, .slice a1 n1 c1, .slice d1 k1 e1, .bool s1, .slice a1 n1 c1, .slice d1 k1 e1]) (hnoX wc) (QC.zero _) h1c h1c rfl;have hEA:Ext wc (wc.alloc (.cells #[.bool false, .slice none 0 0, .slice none 0 0, .bool s1, .slice a1 n1 c1, .slice d1 k1 e1, .bool s1, .slice a1 n1 c1, .slice d1 k1 e1] 32)):=(ExtX.refl _).alloc _;have bc:=r1.ext0 hEc;have q0:=bc.cell 0 rfl;have q1:=bc.cell 1 rfl;have q2:=bc.cell 2 rfl;have hmA:=mkx MC.mono hm hEA;obtain⟨wA,hwA⟩:∃wA,wc.alloc (.cells #[.bool false, .slice none 0 0, .slice none 0 0, .bool s1, .slice a1 n1 c1, .slice d1 k1 e1, .bool s1, .slice a1 n1 c1, .slice d1 k1 e1] 32)=wA:=⟨_,rfl⟩;rw[hwA]at hy hEA hmA;have hBX:BM 2 awX:=by
   intro r hr q hq;simp only[awX,List.mem_cons,List.not_mem_nil,or_false]at hr;rcases hr with rfl|rfl|rfl<;>simp only[List.mem_cons,List.not_mem_nil,or_false]at hq<;>rcases hq with rfl|rfl<;>decide+kernel
  have hBY:BR 2 awY:=by
   intro q hq;simp only[awY,List.mem_cons,List.not_mem_nil,or_false]at hq;rcases hq with rfl|rfl|rfl<;>decide+kernel
  have hf:=b0K noY wA xv _ awX awY 3 2 2 (hnoX wA) (hmA.mv fun r hr q hq=>Nat.le_trans (hBX r hr q hq) (by decide)) (hy.rv fun q hq=>Nat.le_trans (hBY q hq) (by decide)) b6k rfl rfl (by decide) (by decide) hBX hBY (by decide) (by decide);clear hm h1c hmA hy hBX hBY;go_wp2_with fail
  refine hf.mono ?_;rintro ee w3 ⟨hE3,u3,rfl,hu3⟩;clear hf q0 q1 q2;obtain⟨uo,uc,co,cl,cc,ro,rl,rc,s,a,n,c,d,k,e,lo,ll,lc,rfl,_,_,hco,_,hrs,_⟩:=hu3;have hrk:(b4e awX awY 3 2).rank=2:=b4g;have hcoef:(b4e awX awY 3 2).coef= [mkRat 1 6,mkRat 1 2]:=b0L;have hrss:(b4e awX awY 3 2).rss=mkRat 1 6:=by
   show a3q (a4u awX awY (a1X awX awY 3 2)) (a4u awX awY (a1X awX awY 3 2))=_
   rw[b0L];exact b5z
  obtain⟨ul,hul⟩:∃ul,(b4e awX awY 3 2).used.length=ul:=⟨_,rfl⟩;rw[hcoef]at hco;rw[hrss]at hrs;rw[hrk,hul];clear hrk hcoef hrss hul;have bf:=Bx.new w3 #[.int .i64 0, .slice none 0 0, .slice none 0 0, .slice none 0 0, .bool false, .slice none 0 0, .slice none 0 0, .slice none 0 0] 63;go_upto_region 4 with((with_reducible show wpList _ _ _ (⟨_, .store 63 _ _,_,_,_,_⟩::_) _ _);refine a0c b1Y rfl rfl bf rfl rfl (by intro v hv;simp at hv;rcases hv with rfl|rfl|rfl|rfl|rfl|rfl|rfl|rfl<;>rfl) ?_;intro w4 v1 v2')
  have hE4:Ext w3 w4:=ExtX.box ((ExtX.refl w3).alloc _) v2' (Nat.le_refl _);obtain⟨h,hh⟩:∃h,w3.heap.size=h:=⟨_,rfl⟩;rw[hh]at v1 v2' |-;have hE4d:=hE4.trans (ExtX.refl (Y:=noY) w4).drew;have hc4:=mkx RC.mono hco hE4d;have hr4:=mkx QC.mono hrs hE4d;have hEo:Ext w w4.drew:=hE02.trans (hEA.trans (hE3.trans hE4d));have v1d:=v1.ext0 (ExtX.refl (Y:=noY) w4).drew;clear v1 v2' hco hrs bf hE4 hE4d;have hS4:Hid (∀w',Ext w4.drew w'->w'.cell? ⟨h,0,none⟩=some (.int .i64 2)/\w'.cell? ⟨h,2,none⟩=some (.slice co cl cc)/\w'.cell? ⟨h,4,none⟩=some (.bool s)/\w'.cell? ⟨h,4+1,none⟩=some (.slice a n c)/\w'.cell? ⟨h,4+2,none⟩=some (.slice d k e)):=hid fun w' hw=>by
   have b9:=v1d.ext0 hw;exact⟨b9.cell 0 rfl,b9.cell 2 rfl,b9.cell 4 rfl,b9.cell 5 rfl,b9.cell 6 rfl⟩
  clear v1d;refine a0L 21 (fun w'=>w'.cell? ⟨h,0,none⟩=some (.int .i64 2)/\w'.cell? ⟨h,2,none⟩=some (.slice co cl cc)/\w'.cell? ⟨h,4,none⟩=some (.bool s)/\w'.cell? ⟨h,4+1,none⟩=some (.slice a n c)/\w'.cell? ⟨h,4+2,none⟩=some (.slice d k e)) (by kernel_rfl) (by kernel_rfl) (hS4.out _ (ExtX.refl _)) (fun hHeld hOnce=>?_);obtain⟨wd,hwd⟩:∃wd,w4.drew=wd:=⟨_,rfl⟩;rw[hwd]at hS4 hc4 hr4 hEo |-
  (try rw[hwd]at hHeld)
  clear hwd;refine a0a hOnce (i:=0) (oi:=⟨_,_,_,_,_,_⟩) (v:=?_) rfl (by kernel_rfl) (fun _ _ _ h=>h) (by assumption) (by rfl) (fun w hSw=>?_) ?_
  rotate_left
  ·(try dsimp only at hSw)
   go_simp
   all_goals with_reducible rfl
  (try simp only[Act.put,List.setIfInBounds_toArray,List.set_cons_zero,List.set_cons_succ])
  refine a0a hOnce (i:=1) (oi:=⟨_,_,_,_,_,_⟩) (v:=?_) rfl (by kernel_rfl) (fun _ _ _ h=>h) (by assumption) (by rfl) (fun w hSw=>?_) ?_
  rotate_left
  ·(try dsimp only at hSw)
   go_simp
   all_goals with_reducible rfl
  (try simp only[Act.put,List.setIfInBounds_toArray,List.set_cons_zero,List.set_cons_succ])
  refine a0a hOnce (i:=2) (oi:=⟨_,_,_,_,_,_⟩) (v:=?_) rfl (by kernel_rfl) (fun _ _ _ h=>h) (by assumption) (by rfl) (fun w hSw=>?_) ?_
  rotate_left
  ·(try dsimp only at hSw)
   go_simp
   all_goals with_reducible rfl
  (try simp only[Act.put,List.setIfInBounds_toArray,List.set_cons_zero,List.set_cons_succ])
  refine a0a hOnce (i:=3) (oi:=⟨_,_,_,_,_,_⟩) (v:=?_) rfl (by kernel_rfl) (fun _ _ _ h=>h) (by assumption) (by rfl) (fun w hSw=>?_) ?_
  rotate_left
  ·(try dsimp only at hSw)
   go_simp
   all_goals with_reducible rfl
  (try simp only[Act.put,List.setIfInBounds_toArray,List.set_cons_zero,List.set_cons_succ])
  refine a0a hOnce (i:=4) (oi:=⟨_,_,_,_,_,_⟩) (v:=?_) rfl (by kernel_rfl) (fun _ _ _ h=>h) (by assumption) (by rfl) (fun w hSw=>?_) ?_
  rotate_left
  ·(try dsimp only at hSw)
   go_simp
   all_goals with_reducible rfl
  (try simp only[Act.put,List.setIfInBounds_toArray,List.set_cons_zero,List.set_cons_succ])
  refine a0a hOnce (i:=5) (oi:=⟨_,_,_,_,_,_⟩) (v:=?_) rfl (by kernel_rfl) (fun _ _ _ h=>h) (by assumption) (by rfl) (fun w hSw=>?_) ?_
  rotate_left
  ·(try dsimp only at hSw)
   go_simp
   all_goals with_reducible rfl
  (try simp only[Act.put,List.setIfInBounds_toArray,List.set_cons_zero,List.set_cons_succ])
  refine a0a hOnce (i:=6) (oi:=⟨_,_,_,_,_,_⟩) (v:=?_) rfl (by kernel_rfl) (fun _ _ _ h=>h) (by assumption) (by rfl) (fun w hSw=>?_) ?_
  rotate_left
  ·(try dsimp only at hSw)
   go_simp
   all_goals with_reducible rfl
  (try simp only[Act.put,List.setIfInBounds_toArray,List.set_cons_zero,List.set_cons_succ])
  refine a0a hOnce (i:=7) (oi:=⟨_,_,_,_,_,_⟩) (v:=?_) rfl (by kernel_rfl) (fun _ _ _ h=>h) (by assumption) (by rfl) (fun w hSw=>?_) ?_
  rotate_left
  ·(try dsimp only at hSw)
   go_simp
   all_goals with_reducible rfl
  (try simp only[Act.put,List.setIfInBounds_toArray,List.set_cons_zero,List.set_cons_succ])
  refine a0a hOnce (i:=8) (oi:=⟨_,_,_,_,_,_⟩) (v:=?_) rfl (by kernel_rfl) (fun _ _ _ h=>h) (by assumption) (by rfl) (fun w hSw=>?_) ?_
  rotate_left
  ·(try dsimp only at hSw)
   go_simp
   all_goals with_reducible rfl
  (try simp only[Act.put,List.setIfInBounds_toArray,List.set_cons_zero,List.set_cons_succ])
  refine a0a hOnce (i:=9) (oi:=⟨_,_,_,_,_,_⟩) (v:=?_) rfl (by kernel_rfl) (fun _ _ _ h=>h) (by assumption) (by rfl) (fun w hSw=>?_) ?_
  rotate_left
  ·(try dsimp only at hSw)
   go_simp
   all_goals with_reducible rfl
  (try simp only[Act.put,List.setIfInBounds_toArray,List.set_cons_zero,List.set_cons_succ])
  refine a0d (i:=10) (o:=⟨_,_,_,_,_,_⟩) (by kernel_rfl) rfl (fun K hK=>?_);go_simp
  (go_at_call 119;(with_reducible refine(a3C noY wd 1 6 (hnoX wd) (by decide) (by decide) (by decide) (by decide) (by decide) (by decide+kernel) (by decide+kernel)).mono ?_);rintro ee wp ⟨fp,uqp,rfl,hqp⟩)
  refine hK.out _ _ (hS4.out _ fp) (fun hHeld=>?_);clear hK K
  (try simp only[Act.put,List.setIfInBounds_toArray,List.set_cons_zero,List.set_cons_succ])
  obtain⟨sqp,aqp,nqp,cqp,dqp,kqp,eqp,rfl⟩:=hqp.shape;refine a0d (i:=11) (o:=⟨_,_,_,_,_,_⟩) (by kernel_rfl) rfl (fun K hK=>?_);go_simp
  (go_at_call 119;(with_reducible refine(a3C noY wp 1 2 (hnoX wp) (by decide) (by decide) (by decide) (by decide) (by decide) (by decide+kernel) (by decide+kernel)).mono ?_);rintro ee wq ⟨fq,uqq,rfl,hqq⟩)
  refine hK.out _ _ (hS4.out _ (fp.trans fq)) (fun hHeld=>?_);clear hK K
  (try simp only[Act.put,List.setIfInBounds_toArray,List.set_cons_zero,List.set_cons_succ])
  obtain⟨sqq,aqq,nqq,cqq,dqq,kqq,eqq,rfl⟩:=hqq.shape;have hl9:=a0H (e:=32) (arr:=#[.bool sqp, .slice aqp nqp cqp, .slice dqp kqp eqp, .bool sqq, .slice aqq nqq cqq, .slice dqq kqq eqq]) (hnoX wq) (mkx QC.mono hqp fq) hqq rfl;have hE9:Ext wq (wq.alloc (.cells #[.bool sqp, .slice aqp nqp cqp, .slice dqp kqp eqp, .bool sqq, .slice aqq nqq cqq, .slice dqq kqq eqq] 32)):=(ExtX.refl _).alloc _;refine a0d (i:=12) (o:=⟨_,_,_,_,_,_⟩) (by kernel_rfl) rfl (fun K hK=>?_);go_simp
  skip
  refine hK.out _ _ (hS4.out _ (fp.trans (fq.trans hE9))) (fun hHeld=>?_);clear hK K
  (try simp only[Act.put,List.setIfInBounds_toArray,List.set_cons_zero,List.set_cons_succ])
  obtain⟨wr,hwr⟩:∃wr,wq.alloc (.cells #[.bool sqp, .slice aqp nqp cqp, .slice dqp kqp eqp, .bool sqq, .slice aqq nqq cqq, .slice dqq kqq eqq] 32)=wr:=⟨_,rfl⟩;obtain⟨gr,hgr⟩:∃gr:Option Addr,some ⟨wq.heap.size,0,none⟩=gr:=⟨_,rfl⟩;rw[hwr]at hE9;rw[hwr,hgr]at hl9 |-;clear hwr hgr;have F9:=fp.trans (fq.trans hE9);have hv1:((1:Int):Rat)/((6:Int):Rat)=mkRat 1 6:=by decide+kernel
  have hv2:((1:Int):Rat)/((2:Int):Rat)=mkRat 1 2:=by decide+kernel
  rw[hv1,hv2]at hl9;have hsm:=a3D noY wr _ _ [mkRat 1 6,mkRat 1 2] [mkRat 1 6,mkRat 1 2] (mkx RC.mono hc4 F9) hl9 (fun q hq=>by
   simp only[List.mem_cons,List.not_mem_nil,or_false]at hq;rcases hq with rfl|rfl<;>decide+kernel) (by decide)
  rw[show decide ([mkRat 1 6,mkRat 1 2]= [mkRat 1 6,mkRat 1 2])=true from decide_eq_true rfl]at hsm;refine a0d (i:=13) (o:=⟨_,_,_,_,_,_⟩) (by kernel_rfl) rfl (fun K hK=>?_);go_simp
  ((with_reducible refine hsm.mono ?_);rintro ee ws ⟨f8,rfl⟩)
  refine hK.out _ _ (hS4.out _ (F9.trans f8)) (fun hHeld=>?_);clear hK K
  (try simp only[Act.put,List.setIfInBounds_toArray,List.set_cons_zero,List.set_cons_succ])
  refine a0a hOnce (i:=14) (oi:=⟨_,_,_,_,_,_⟩) (v:=?_) rfl (by kernel_rfl) (fun _ _ _ h=>h) (by assumption) (by rfl) (fun w hSw=>?_) ?_
  rotate_left
  ·(try dsimp only at hSw)
   go_simp
   all_goals with_reducible rfl
  (try simp only[Act.put,List.setIfInBounds_toArray,List.set_cons_zero,List.set_cons_succ])
  refine a0a hOnce (i:=15) (oi:=⟨_,_,_,_,_,_⟩) (v:=?_) rfl (by kernel_rfl) (fun _ _ _ h=>h) (by assumption) (by rfl) (fun w hSw=>?_) ?_
  rotate_left
  ·(try dsimp only at hSw)
   go_simp
   all_goals with_reducible rfl
  (try simp only[Act.put,List.setIfInBounds_toArray,List.set_cons_zero,List.set_cons_succ])
  refine a0a hOnce (i:=16) (oi:=⟨_,_,_,_,_,_⟩) (v:=?_) rfl (by kernel_rfl) (fun _ _ _ h=>h) (by assumption) (by rfl) (fun w hSw=>?_) ?_
  rotate_left
  ·(try dsimp only at hSw)
   go_simp
   all_goals with_reducible rfl
  (try simp only[Act.put,List.setIfInBounds_toArray,List.set_cons_zero,List.set_cons_succ])
  refine a0a hOnce (i:=17) (oi:=⟨_,_,_,_,_,_⟩) (v:=?_) rfl (by kernel_rfl) (fun _ _ _ h=>h) (by assumption) (by rfl) (fun w hSw=>?_) ?_
  rotate_left
  ·(try dsimp only at hSw)
   go_simp
   all_goals with_reducible rfl
  (try simp only[Act.put,List.setIfInBounds_toArray,List.set_cons_zero,List.set_cons_succ])
  have F8:=F9.trans f8;refine a0d (i:=18) (o:=⟨_,_,_,_,_,_⟩) (by kernel_rfl) rfl (fun K hK=>?_);go_simp
  (go_at_call 119;(with_reducible refine(a3C noY ws 1 6 (hnoX ws) (by decide) (by decide) (by decide) (by decide) (by decide) (by decide+kernel) (by decide+kernel)).mono ?_);rintro ee wt ⟨ft,uqt,rfl,hqt⟩)
  refine hK.out _ _ (hS4.out _ (F8.trans ft)) (fun hHeld=>?_);clear hK K
  (try simp only[Act.put,List.setIfInBounds_toArray,List.set_cons_zero,List.set_cons_succ])
  obtain⟨sqt,aqt,nqt,cqt,dqt,kqt,eqt,rfl⟩:=hqt.shape;have hs2:=a8N noY wt _ _ (mkRat 1 6) (mkRat 1 6) (mkx QC.mono hr4 (F8.trans ft)) (by rw[hv1]at hqt;exact hqt) (by decide+kernel);rw[show decide (mkRat 1 6=mkRat 1 6)=true from decide_eq_true rfl]at hs2;refine a0d (i:=19) (o:=⟨_,_,_,_,_,_⟩) (by kernel_rfl) rfl (fun K hK=>?_);go_simp
  ((with_reducible refine hs2.mono ?_);rintro ee wu ⟨f7,rfl⟩)
  refine hK.out _ _ (hS4.out _ (F8.trans (ft.trans f7))) (fun hHeld=>?_);clear hK K
  (try simp only[Act.put,List.setIfInBounds_toArray,List.set_cons_zero,List.set_cons_succ])
  refine a0a hOnce (i:=20) (oi:=⟨_,_,_,_,_,_⟩) (v:=?_) rfl (by kernel_rfl) (fun _ _ _ h=>h) (by assumption) (by rfl) (fun w hSw=>?_) ?_
  rotate_left
  ·(try dsimp only at hSw)
   go_simp
   all_goals with_reducible rfl
  (try simp only[Act.put,List.setIfInBounds_toArray,List.set_cons_zero,List.set_cons_succ])
  refine a0j (i:=21) (o:=⟨_,_,_,_,_,_⟩) (by kernel_rfl) rfl (by decide) (by kernel_rfl) (fun K hK=>?_);go_simp
  refine hK.out _ _ ?_;clear hK K;go_wp2_with fail
  go_ret
  exact⟨hEo.trans (F8.trans (ft.trans f7)),rfl⟩
end Go.Proofs.YtkddecjkfdogiaaGreat
namespace Go.Rep
open Go.RowKit Go.Lim
section
variable {P:Program} {ops:Array Oper} {Q:Exit->Act->World->Prop} {a:Act} {w:World}
variable {α:Type} {R:Mem->Value->α->Prop} {sz:Nat} {X:Nat->Bool} {base:Nat} {e:TypeId} {ao:Option Addr} {cap:Nat} {l:List α}
theorem a3J {o:Oper} {K:Act->World->Prop} {E:Prop} {t by_:Nat} {z:Value} {s x:Operand} {ax:Option Addr} {cs:Nat}
  (hg:o.guard=none) (hop:o.op=Op.call {callee:=Callee.builtin Builtin.append,args:=#[s,x],argTypes:=#[t,t]}) (T:SliceT P t e sz by_ z) (hzs:z.cells.size=sz) (hR:Elem R sz) (hbase:base<=w.heap.size) (hX:∀k,X k=true->k<w.heap.size) (xs:List α) (n m:Nat) (hn:l.length=n) (hm:xs.length=m)
  (hs:a.eval s= .slice ao n cap) (hx:a.eval x= .slice ax m cs) (h:OL R sz X base e w ao cap l)
  (hxs:Sl R sz (mk (un X ao) w) ax xs) (hroom:(n+m)*by_<=140737488355328) (hmax:n+m<=9223372036854775807)
  (hK:∀ao' cap' w',OL R sz X base e w' ao' cap' (l++xs)->ExtX (ob ao) w w'->(ao'=ao\/∃g,ao'=some ⟨g,0,none⟩/\w.heap.size<=g)->K (a.put o.dst (.slice ao' (n+m) cap')) w'):
  if Region.wanted o (yielded ops a.tmps)=true then Oper.wp P o a w K Q else E:=by
 have hw:Region.wanted o (yielded ops a.tmps)=true:=by simp[Region.wanted,hg]
 rw[if_pos hw];subst hn hm;obtain⟨us,h1,h2,h3⟩:=hxs.at_ hR;obtain⟨ao',cap',w',hr,h2,h3,h4⟩:=h.run_append (P:=P) T hzs hR hbase hX ax cs us xs h2 h1 h3 hroom hmax o.type;unfold Oper.wp execOp;rw[hop];simp only[resolve,invoke,builtin,Sem.run_bind,Sem.run_pure,Result.andThen_ok,List.map_toArray,List.map_cons,List.map_nil,hs,hx];rw[hr];have:=hK ao' cap' w' h2 h3 h4;rw[show(l++xs).length=l.length+xs.length from by simp];exact this
end
end Go.Rep
namespace Go.Lin
end Go.Lin
namespace Go.Proofs.YtkddecjkfdogiaaGreat
open Go.RowKit Go.Rep Go.Lim Go.Lin
end Go.Proofs.YtkddecjkfdogiaaGreat
namespace Go.Lin
open Go.Lim Go.Rep
def shC (m:Mom) (row:List Rat) (ad:Bool):Int:=if a3b m=false then 4 else if row.length≠m.xy.length then 6 else if ad=false/\m.n=0 then 1 else 0
def shV (m:Mom) (row:List Rat) (v:Rat) (ad:Bool):Mom:=if shC m row ad=0 then shM m row v (if ad then 1 else -1)else⟨0,[],[],0⟩
end Go.Lin
namespace Go.Proofs.YtkddecjkfdogiaaGreat
open Go.RowKit Go.Rep Go.Lim Go.Lin
theorem a5m (h:Mem):a2x h (.agg #[.int .i64 0, .slice none 0 0, .slice none 0 0, .bool false, .slice none 0 0, .slice none 0 0]) ⟨0,[],[],0⟩:=
 ⟨none,0,0,none,0,0,false,none,0,0,none,0,0,rfl,SlV.zero _ _ _,SlV.zero _ _ _,QC.zero _⟩
theorem b4i:∀v∈(#[Value.int .i64 0, .slice none 0 0, .slice none 0 0, .bool false, .slice none 0 0, .slice none 0 0]:Array Value).toList,v.oneCell'=true:=by
 intro v hv;simp at hv;rcases hv with rfl|rfl|rfl|rfl|rfl|rfl<;>rfl
def a4A (X:Nat->Bool) (w:World) (m:Mom) (row:List Rat) (v:Rat) (ad:Bool) (e:Ending) (w':World):Prop:=Ext w w'/\∃u,e= .returned (.tuple #[u, .int .i64 (shC m row ad)])/\a2x (mk X w') u (shV m row v ad)
set_option maxRecDepth 100000 in
set_option maxHeartbeats 3200000 in
theorem a8O (X:Nat->Bool) (w:World) (u r t:Value) (m:Mom) (row:List Rat) (v:Rat) (ad:Bool) (B:Nat) (hX:HX X w) (hu:b0W (mk X w) u m) (hr:RV (mk X w) r row) (ht:QV (mk X w) t v)
  (hl:m.xx.length<=1000000) (hBm:BMo B m) (hBr:BR B row) (hBv:hq v<=B) (hB:B<=1000000):
  Calls Tryz.prog 66 #[u,r,t, .bool ad] w (a4A X w m row v ad):=by
 obtain⟨xo,xl,xc,yo,yl,yc,s,a,n,c,d,k,e,rfl,hx,hy,hqq⟩:=id hu;obtain⟨s2,a2,n2,c2,d2,k2,e2,rfl⟩:=ht.shape;have hxyl:m.xy.length=yl:=by obtain⟨_,_,h,_⟩:=hy;simp at h;exact h.2.1.symm
 obtain⟨W,hW,hE,b0,b1,b2,hz⟩:=a3m w #[.int .i64 m.n, .slice xo xl xc, .slice yo yl yc, .bool s, .slice a n c, .slice d k e] #[.bool s2, .slice a2 n2 c2, .slice d2 k2 e2] #[.int .i64 0, .slice none 0 0, .slice none 0 0, .bool false, .slice none 0 0, .slice none 0 0] 83 32 83;have hXW:HX (a0i X w.heap.size 3) W:=hX.boxes hz;have hle:Hid (∀w',Ext W w'->Le (mk X w) (mk (a0i X w.heap.size 3) w')):=hid fun w' h=>a0s (hE.trans h);obtain⟨b,hb⟩:∃b,w.heap.size=b:=⟨_,rfl⟩;have hbw:w.heap.size<=b:=by omega
 rw[hb]at b0 b1 b2 hz hXW hle;have hfo:=hid fun w' (h:Ext W w')=>a5l (a0i X b 3) w' _ m (hXW.ext h) (b0W.mono _ _ _ _ (hle.out w' h) hu) hl;obtain⟨N,hN⟩:∃N,m.n=N:=⟨_,rfl⟩;rw[hN]at b0 hW hfo |-;have k0:=b0.cell 0 rfl;have k1:=b0.cell 1 rfl;have k2':=b0.cell 2 rfl;have k3:=b0.cell 3 rfl;have k4:=b0.cell 4 rfl;have k5:=b0.cell 5 rfl;have hf1:=hfo.out W (ExtX.refl _);cases hok:a3b m
 ·rw[hok]at hf1
  have hC:shC m row ad=4:=by unfold shC;rw[if_pos hok]
  have hV:shV m row v ad=⟨0,[],[],0⟩:=by unfold shV;rw[hC];rfl
  have hfin:Hid (∀w',Ext w w'->a4A X w m row v ad (.returned (.tuple #[.agg #[.int .i64 0, .slice none 0 0, .slice none 0 0, .bool false, .slice none 0 0, .slice none 0 0], .int .i64 4])) w'):=hid fun w' h=>⟨h,_,by rw[hC],by rw[hV];exact a5m _⟩;obtain⟨F,hF⟩:∃F,a4A X w m row v ad=F:=⟨_,rfl⟩;rw[hF]at hfin |-;clear hok hC hV hF hfo hu hx hy hqq hr ht hBm hBr hBv hl hN hxyl;go_enter Tryz.func66,Tryz.ntmps66
  go_wp2_with fail
  refine hf1.mono ?_;rintro ee w1 ⟨hE1,rfl⟩;have b21:=b2.ext0 hE1;clear hf1 k0 k1 k2' k3 k4 k5;go_wp2_with ((show wpList _ _ _ (⟨_, .store _ _ _,_,_,_,_⟩::_) _ _);refine a0c a1I rfl rfl b21 rfl rfl b4i ?_;intro w7 r1 r2)
  exact bodyPost_ret (a0P rfl rfl a1I r1 rfl) rfl (hfin.out w7 (ExtX.box (hE.trans hE1) r2 (by omega)))
 ·rw[hok]at hf1
  obtain⟨hNr,hf,hsq,hxy,h12⟩:=a5K hok;obtain⟨hsh,_,_,_,_⟩:=a0K hf;rw[<-hsq,hxy]at hsh;obtain⟨ro,rc,rfl,hrc,hrs⟩:=id hr;by_cases hlen:row.length=m.xy.length
  ·have hcall:=hid fun w' (sg:Int) (h:Ext W w') (hsg:sg=1\/sg= -1)=>a5J (a0i X b 3) w' _ _ _ m row v sg m.xy.length B (hXW.ext h) (b0W.mono _ _ _ _ (hle.out w' h) hu) (RV.mono _ _ _ _ (hle.out w' h) hr) (QV.mono _ _ _ _ (hle.out w' h) ht) hsh rfl hlen h12 (by omega) (by omega) hsg hBm hBr hBv hB
   rw[hN]at hcall;have hg0:shC m row ad=0->shV m row v ad=shM m row v (if ad then 1 else -1):=fun h=>by unfold shV;rw[if_pos h]
   have hfin:Hid (∀w' z,Ext w w'->shC m row ad=0->a2x (mk X w') z (shM m row v (if ad then 1 else -1))->a4A X w m row v ad (.returned (.tuple #[z, .int .i64 0])) w'):=hid fun w' z h hc hz=>⟨h,z,by rw[hc],by rw[hg0 hc];exact hz⟩;cases ad
   ·by_cases hN0:N=0
    ·have hC:shC m row false=1:=by unfold shC;rw[if_neg (by rw[hok];decide),if_neg (by omega),if_pos ⟨rfl,by omega⟩]
     have hV:shV m row v false=⟨0,[],[],0⟩:=by unfold shV;rw[hC];rfl
     have hfin:Hid (∀w',Ext w w'->a4A X w m row v false (.returned (.tuple #[.agg #[.int .i64 0, .slice none 0 0, .slice none 0 0, .bool false, .slice none 0 0, .slice none 0 0], .int .i64 1])) w'):=hid fun w' h=>⟨h,_,by rw[hC],by rw[hV];exact a5m _⟩;obtain⟨F,hF⟩:∃F,a4A X w m row v false=F:=⟨_,rfl⟩;rw[hF]at hfin |-;have hd:((row.length:Int) !=(yl:Int))=false:=a8S (by omega);obtain⟨rl,hrl⟩:∃rl,row.length=rl:=⟨_,rfl⟩;rw[hrl]at hd |-;subst hN0;clear hok hC hV hF hfo hu hx hy hqq hr ht hBm hBr hBv hl hN hxyl hcall hg0 hlen hNr hf hsq hxy h12 hsh hrs hrc hrl;go_enter Tryz.func66,Tryz.ntmps66
     go_wp2_with fail
     refine hf1.mono ?_;rintro ee w1 ⟨hE1,rfl⟩;have b21:=b2.ext0 hE1;have b01:=b0.ext0 hE1;have j0:=b01.cell 0 rfl;have j2:=b01.cell 2 rfl;clear hf1 k0 k1 k2' k3 k4 k5;go_wp2_with ((show wpList _ _ _ (⟨_, .store _ _ _,_,_,_,_⟩::_) _ _);refine a0c a1I rfl rfl b21 rfl rfl b4i ?_;intro w7 r1 r2)
     exact bodyPost_ret (a0P rfl rfl a1I r1 rfl) rfl (hfin.out w7 (ExtX.box (hE.trans hE1) r2 (by omega)))
    ·have hC:shC m row false=0:=by unfold shC;rw[if_neg (by rw[hok];decide),if_neg (by omega),if_neg (by rintro ⟨_,h⟩;omega)]
     have hfin:Hid (∀w' z,Ext w w'->a2x (mk X w') z (shM m row v (-1))->a4A X w m row v false (.returned (.tuple #[z, .int .i64 0])) w'):=hid fun w' z h hz=>hfin.out w' z h hC hz;have hcall:=hid fun w' h=>hcall.out w' (-1) h (.inr rfl);obtain⟨F,hF⟩:∃F,a4A X w m row v false=F:=⟨_,rfl⟩;rw[hF]at hfin |-;have hd:((row.length:Int) !=(yl:Int))=false:=a8S (by omega);have hd2:((N:Int)==0)=false:=a3E hN0;obtain⟨rl,hrl⟩:∃rl,row.length=rl:=⟨_,rfl⟩;rw[hrl]at hd hcall |-;obtain⟨M,hM⟩:∃M,shM m row v (-1)=M:=⟨_,rfl⟩;rw[hM]at hcall hfin;clear hok hC hF hfo hu hx hy hqq hr ht hBm hBr hBv hl hN hxyl hg0 hlen hNr hf hsq hxy h12 hsh hrs hrc hrl hM hN0;go_enter Tryz.func66,Tryz.ntmps66
     go_wp2_with fail
     refine hf1.mono ?_;rintro ee w1 ⟨hE1,rfl⟩;have b21:=b2.ext0 hE1;have b01:=b0.ext0 hE1;have b11:=b1.ext0 hE1;have j0:=b01.cell 0 rfl;have j1:=b01.cell 1 rfl;have j2:=b01.cell 2 rfl;have j3:=b01.cell 3 rfl;have j4:=b01.cell 4 rfl;have j5:=b01.cell 5 rfl;have i0:=b11.cell 0 rfl;have i1:=b11.cell 1 rfl;have i2:=b11.cell 2 rfl;clear hf1 k0 k1 k2' k3 k4 k5;have hc1:=hcall.out w1 hE1;clear hcall;go_wp2_with fail
     refine hc1.mono ?_;rintro ee w2 ⟨hE2,z,rfl,hz2⟩;obtain⟨xo3,xl3,xc3,yo3,yl3,yc3,s3,a3,n3,c3,d3,k3',e3,rfl,z1,z2,z3⟩:=id hz2;have b22:=b21.ext0 hE2;clear j0 j1 j2 j3 j4 j5 i0 i1 i2 hc1 z1 z2 z3;go_wp2_with ((show wpList _ _ _ (⟨_, .store _ _ _,_,_,_,_⟩::_) _ _);refine a0c a1I rfl rfl b22 rfl rfl (b6t _ _ _ _ _ _ _ _ _ _ _ _ _ _) ?_;intro w7 r1 r2)
     exact bodyPost_ret (a0P rfl rfl a1I r1 rfl) rfl (hfin.out w7 _ (ExtX.box (hE.trans (hE1.trans hE2)) r2 (by omega)) (a2x.mono _ _ _ _ ((a0h r2 (by omega) (by omega)).trans a0m) hz2))
   ·have hC:shC m row true=0:=by unfold shC;rw[if_neg (by rw[hok];decide),if_neg (by omega),if_neg (by rintro ⟨h,_⟩;cases h)]
    have hfin2:Hid (∀w' z,Ext w w'->a2x (mk X w') z (shM m row v 1)->a4A X w m row v true (.returned (.tuple #[z, .int .i64 0])) w'):=hid fun w' z h hz=>hfin.out w' z h hC hz;have hcall:=hid fun w' h=>hcall.out w' 1 h (.inl rfl);obtain⟨F,hF⟩:∃F,a4A X w m row v true=F:=⟨_,rfl⟩;rw[hF]at hfin2 |-;have hd:((row.length:Int) !=(yl:Int))=false:=a8S (by omega);obtain⟨rl,hrl⟩:∃rl,row.length=rl:=⟨_,rfl⟩;rw[hrl]at hd hcall |-;obtain⟨M,hM⟩:∃M,shM m row v 1=M:=⟨_,rfl⟩;rw[hM]at hcall hfin2;clear hok hC hF hfo hu hx hy hqq hr ht hBm hBr hBv hl hN hxyl hg0 hlen hNr hf hsq hxy h12 hsh hrs hrc hrl hM;go_enter Tryz.func66,Tryz.ntmps66
    go_wp2_with fail
    refine hf1.mono ?_;rintro ee w1 ⟨hE1,rfl⟩;have b21:=b2.ext0 hE1;have b01:=b0.ext0 hE1;have b11:=b1.ext0 hE1;have j0:=b01.cell 0 rfl;have j1:=b01.cell 1 rfl;have j2:=b01.cell 2 rfl;have j3:=b01.cell 3 rfl;have j4:=b01.cell 4 rfl;have j5:=b01.cell 5 rfl;have i0:=b11.cell 0 rfl;have i1:=b11.cell 1 rfl;have i2:=b11.cell 2 rfl;clear hf1 k0 k1 k2' k3 k4 k5;have hc1:=hcall.out w1 hE1;clear hcall;go_wp2_with fail
    refine hc1.mono ?_;rintro ee w2 ⟨hE2,z,rfl,hz2⟩;obtain⟨xo3,xl3,xc3,yo3,yl3,yc3,s3,a3,n3,c3,d3,k3',e3,rfl,z1,z2,z3⟩:=id hz2;have b22:=b21.ext0 hE2;clear j0 j1 j2 j3 j4 j5 i0 i1 i2 hc1 z1 z2 z3;go_wp2_with ((show wpList _ _ _ (⟨_, .store _ _ _,_,_,_,_⟩::_) _ _);refine a0c a1I rfl rfl b22 rfl rfl (b6t _ _ _ _ _ _ _ _ _ _ _ _ _ _) ?_;intro w7 r1 r2)
    exact bodyPost_ret (a0P rfl rfl a1I r1 rfl) rfl (hfin2.out w7 _ (ExtX.box (hE.trans (hE1.trans hE2)) r2 (by omega)) (a2x.mono _ _ _ _ ((a0h r2 (by omega) (by omega)).trans a0m) hz2))
  ·have hC:shC m row ad=6:=by unfold shC;rw[if_neg (by rw[hok];decide),if_pos hlen]
   have hV:shV m row v ad=⟨0,[],[],0⟩:=by unfold shV;rw[hC];rfl
   have hfin:Hid (∀w',Ext w w'->a4A X w m row v ad (.returned (.tuple #[.agg #[.int .i64 0, .slice none 0 0, .slice none 0 0, .bool false, .slice none 0 0, .slice none 0 0], .int .i64 6])) w'):=hid fun w' h=>⟨h,_,by rw[hC],by rw[hV];exact a5m _⟩;obtain⟨F,hF⟩:∃F,a4A X w m row v ad=F:=⟨_,rfl⟩;rw[hF]at hfin |-;have hd:((row.length:Int) !=(yl:Int))=true:=a7p (by omega);obtain⟨rl,hrl⟩:∃rl,row.length=rl:=⟨_,rfl⟩;rw[hrl]at hd |-;clear hok hC hV hF hfo hu hx hy hqq hr ht hBm hBr hBv hl hN hxyl hlen hNr hf hsq hxy h12 hsh hrs hrc hrl;go_enter Tryz.func66,Tryz.ntmps66
   go_wp2_with fail
   refine hf1.mono ?_;rintro ee w1 ⟨hE1,rfl⟩;have b21:=b2.ext0 hE1;have b01:=b0.ext0 hE1;have j2:=b01.cell 2 rfl;clear hf1 k0 k1 k2' k3 k4 k5;go_wp2_with ((show wpList _ _ _ (⟨_, .store _ _ _,_,_,_,_⟩::_) _ _);refine a0c a1I rfl rfl b21 rfl rfl b4i ?_;intro w7 r1 r2)
   exact bodyPost_ret (a0P rfl rfl a1I r1 rfl) rfl (hfin.out w7 (ExtX.box (hE.trans hE1) r2 (by omega)))
end Go.Proofs.YtkddecjkfdogiaaGreat
