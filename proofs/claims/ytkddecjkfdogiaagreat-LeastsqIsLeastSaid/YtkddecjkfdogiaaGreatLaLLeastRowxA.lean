/- law 13: LeastsqIsLeast returns true. Conditions: none but Go's own. -/
import Derived.Test.YtkddecjkfdogiaaGreatLaN
namespace Go.Proofs.YtkddecjkfdogiaaGreat
open Go.RowKit Go.Rep Go.Lim Go.Lin
set_option maxRecDepth 100000 in
set_option maxHeartbeats 3200000 in
theorem b0d (w:World) (N K:Int) (ones:Bool) (ro:Option Addr) (raw:List Int) (rcap:Nat) (ro2:Option Addr) (raw2:List Int) (rcap2:Nat) (hs:Sl (a1J .i64) 1 (mk noY w) ro raw) (hraw:∀x∈raw,-9223372036854775808<=x/\x<=9223372036854775807) (hs2:Sl (a1J .i64) 1 (mk noY w) ro2 raw2) (hraw2:∀x∈raw2,-9223372036854775808<=x/\x<=9223372036854775807):
  Calls Tryz.prog 11 #[.agg #[.int .i64 N, .int .i64 K, .bool ones, .slice ro raw.length rcap], .slice ro2 raw2.length rcap2] w (a7S w true):=by
 have hnoX:∀v:World,HX noY v:=fun v=>HX.none v;have m1:=Int.emod_nonneg (wrap64 (N - 1)) (show(6:Int)≠0 by omega);have m2:=Int.emod_lt_of_pos (wrap64 (N - 1)) (show(0:Int)<6 by omega);have m3:=Int.emod_nonneg (wrap64 (K - 1)) (show(4:Int)≠0 by omega);have m4:=Int.emod_lt_of_pos (wrap64 (K - 1)) (show(0:Int)<4 by omega);obtain⟨n,hn⟩:=Int.eq_ofNat_of_zero_le (show 0<=1+wrap64 (N - 1)%6 by omega);obtain⟨k,hk⟩:=Int.eq_ofNat_of_zero_le (show 0<=1+wrap64 (K - 1)%4 by omega);have hn16:1<=n/\n<=6:=by omega
 have hk14:1<=k/\k<=4:=by omega
 obtain⟨hsh,hcol,hxB,hyB,hyl,hfo,hok⟩:=a5P ones n k raw hn16.1 (by omega) hk14.1 hk14.2;obtain⟨W,hW,hE,b0,hz⟩:=a1t w #[.int .i64 N, .int .i64 K, .bool ones, .slice ro raw.length rcap] 69;have hTab:Calls Tryz.prog 38 #[.agg #[.int .i64 N, .int .i64 K, .bool ones, .slice ro raw.length rcap], .int .i64 6, .int .i64 4] W (a7R noY W (a7U ones n k raw) (a9w ones n k raw)):=a5O noY W N K ones ro raw rcap 6 4 n k (hnoX W) (hs.mono (a1J.mono _) (a0q hE)) hraw (by decide) (by decide) (by decide) (by decide) hn hk;obtain⟨b,hb⟩:∃b,w.heap.size=b:=⟨_,rfl⟩;rw[hb]at b0 hz;obtain⟨x,hx⟩:∃x,a7U ones n k raw=x:=⟨_,rfl⟩;obtain⟨y,hy⟩:∃y,a9w ones n k raw=y:=⟨_,rfl⟩;rw[hx]at hsh hcol hxB hfo hok hTab;rw[hy]at hyB hyl hok hTab;have p0:=b0.cell 0 rfl;have p1:=b0.cell 1 rfl;have p2:=b0.cell 2 rfl;have p3:=b0.cell 3 rfl;have hn1:=hn16.1;have hn6:=hn16.2;have hk1:=hk14.1;have hk4:=hk14.2;have hxl:Hid (x.length=n):=hid hsh.1;have hxB':=hid (show BM 68719476736 x from fun r hr q hq=>Nat.le_trans (hxB r hr q hq) (by decide));have hyB':=hid (show BR 68719476736 y from fun q hq=>Nat.le_trans (hyB q hq) (by decide));have hyl':=hid hyl;have hfit:=hid fun w' u v (hu:MC (mk noY w') u x) (hv:RC (mk noY w') v y)=>a7d noY w' u v x y n k 2 (hnoX w') (hu.mv hxB'.out) (hv.rv hyB'.out) hok hsh.1 hcol (by omega) hk4 hxB hyB (by decide) (by decide);clear m1 m2 m3 m4 hn hk hx hy hn16 hk14 hs hraw;have hvec:=hid fun w' (h:Ext w w')=>b0f noY w' k ro2 raw2 rcap2 (hnoX w') (hs2.mono (a1J.mono _) (a0q h)) (by omega) hraw2;have hvl:=b3m k raw2;have hvB:=b5x k raw2;obtain⟨V,hV⟩:∃V,b3X k raw2=V:=⟨_,rfl⟩;rw[hV]at hvec hvl hvB;clear hV hs2 hraw2;go_enter Tryz.func11,Tryz.ntmps11
 go_wp2_with fail
 refine hTab.mono ?_;rintro ee w1 ⟨hE1,xv,yv,rfl,hxv,hyv⟩;clear p0 p1 p2 p3 hTab;have hf1:=hfit.out w1 xv yv hxv hyv;go_wp2_with fail
 refine hf1.mono ?_;rintro ee w2 ⟨hE2,fv,rfl,hfv⟩;clear hf1;have bnd1:=b1A (u:=pkL x (a0K x k).2) (n:=n) (m:=(a0K x k).2.length) (B:=2) (a4O hsh _) (a9p hxB (by decide)) (by omega) (Nat.le_trans (a5I hsh) hk4) (by decide) (by decide);have bnd2:=a6W (y:=y) (n:=n) (c:=k) (a5F hxB (by decide)) hyB (by omega) hk4 (by decide);have bnd3:=a6X hsh hxB hyB bnd2 (by decide) hk4 (by decide);obtain⟨uo,uc,co,cl,cc,ro',rl,rc,s,a,nn,c,d,k',e,lo,ll,lc,rfl,huc,hus,hco,hro,hrs,hlv⟩:=hfv;have f1:(a5i x y n k).rank=(a0K x k).2.length:=rfl;have f2:(a5i x y n k).used=usedL (a0K x k).2 k:=rfl;have f3:(a5i x y n k).coef=a0Q x y n k:=rfl;have f4:(a5i x y n k).res=a1R x y (a0Q x y n k):=rfl;have f5:(a5i x y n k).rss=a2k (a1R x y (a0Q x y n k)) (a1R x y (a0Q x y n k)):=rfl;have f6:(a5i x y n k).lev=a3R (pkL x (a0K x k).2) n (a0K x k).2.length:=rfl;rw[f2,a1H]at huc;rw[f2]at hus;rw[f3]at hco;rw[f4]at hro;rw[f5]at hrs;rw[f6]at hlv;rw[f1,f2,a1H];have hcl:(a0Q x y n k).length=cl:=by obtain⟨_,_,h,_⟩:=hco;simp at h;exact h.2.1.symm
 have hrl:(a1R x y (a0Q x y n k)).length=rl:=by obtain⟨_,_,h,_⟩:=hro;simp at h;exact h.2.1.symm
 have hll:(a3R (pkL x (a0K x k).2) n (a0K x k).2.length).length=ll:=by obtain⟨_,_,h,_⟩:=hlv;simp at h;exact h.2.1.symm
 rw[a2G]at hcl;rw[a2i (by rw[hyl,hsh.1]),hsh.1]at hrl;rw[a3j,a4N,hsh.1]at hll;subst hcl hrl hll;have bf:=Bx.new w2 #[.int .i64 0, .slice none 0 0, .slice none 0 0, .slice none 0 0, .bool false, .slice none 0 0, .slice none 0 0, .slice none 0 0] 63;clear f1 f2 f3 f4 f5 f6;have hle:=b1m (y:=y) hsh hyl V;have hrB:BR 24 (a1R x y V):=fun q hq=>Nat.le_trans (b3P hsh hxB hyB hvB (by decide) (by decide) q hq) (by omega);have hrV:(a1R x y V).length=n:=by rw[a2i (by rw[hyl,hsh.1]),hsh.1]
 have hdb:=a1w (l:=a1R x y V) (m:=a1R x y V) hrB hrB (by decide) (by omega) (by decide);have hd1:=a6l (c:=n) hrV hrB hrB (by decide) (by decide);have hd2:=b3Q bnd3 (by rw[a2i (by rw[hyl,hsh.1]),hsh.1];omega);have hrsk:a6p x y V=true:=by unfold a6p;rw[hok,hvl,hcol];simp
 have hxv':=hid hxv;have hyv':=hid hyv;have hvr:=hid fun w' u (h:RC (mk noY w') u V)=>h.rv fun q hq=>Nat.le_trans (hvB q hq) (by decide);have hres:=hid fun w' u (h0:MC (mk noY w') xv x) (h1:RC (mk noY w') yv y) (h:RC (mk noY w') u V)=>a5U noY w' xv yv u x y V 2 (hnoX w') (h0.mv hxB'.out) (h1.rv hyB'.out) (hvr.out w' u h) (by rw[hxl.out];omega) hxB hvB (by decide) (by decide);simp only[hrsk,if_true]at hres;obtain⟨R,hR⟩:∃R,a1R x y V=R:=⟨_,rfl⟩;rw[hR]at hle hrB hrV hdb hd1 hres;obtain⟨R0,hR0⟩:∃R0,a2k (a1R x y (a0Q x y n k)) (a1R x y (a0Q x y n k))=R0:=⟨_,rfl⟩;rw[hR0]at hle hrs hd2;obtain⟨D,hD⟩:∃D,a2k R R=D:=⟨_,rfl⟩;have hdot:=hid fun w' u (h:RC (mk noY w') u R)=>a5p noY w' u u R R (hnoX w') (h.rv fun q hq=>Nat.le_trans (hrB q hq) (by decide)) (h.rv fun q hq=>Nat.le_trans (hrB q hq) (by decide)) (by omega) rfl hdb.1 hdb.2;rw[hD]at hle hd1 hdot;have hD1:hq D<=68719476736:=by
  have:n*(24+24+1)<=6*49:=Nat.mul_le_mul hn6 (Nat.le_refl _);omega
 have hD2:hq (D - R0)<=68719476736:=by
  have h1:=a7r D R0;have:n*(24+24+1)<=6*49:=Nat.mul_le_mul hn6 (Nat.le_refl _);omega
 have hless:=hid fun w' u v (h1:QC (mk noY w') u D) (h2:QC (mk noY w') v R0)=>b3Y noY w' u v D R0 (hnoX w') (h1.qv hD1) (h2.qv (by omega)) hD2;rw[show decide (D<R0)=false from decide_eq_false (Rat.not_lt.2 hle)]at hless;obtain⟨pl,hpl⟩:∃pl,(a0K x k).2.length=pl:=⟨_,rfl⟩;rw[hpl];have hk0:=hsh.2 (x[0]'(by rw[hxl.out];omega)) (List.getElem_mem _);obtain⟨xo,xc,rfl,hxc,hxs⟩:=hxv;obtain⟨a1,c1,hX1,hc1,hcl1,hq1⟩:=hxs.row 0 (by rw[hxl.out];omega);rw[hk0]at hc1 hcl1;have hhx:Hd xo n:=by have:=hxs.hd;rw[hxl.out]at this;exact this
 rw[hxl.out]at hxv' hres hxc |-;have hI:(0:Int)<(n:Int):=by omega
 clear hD hR hR0 hpl hq1 hxs hrsk hdb hd1 hd2 hle hrB hrV hD1 hD2 hk0 bnd1 bnd2 bnd3 hfit hok hfo hvB hvl hyB hyl hxB hcol hsh hus hco hro hlv hxB' hyB';go_upto_region 4 with(first|((with_reducible show wpList _ _ _ (⟨_, .store 63 _ _,_,_,_,_⟩::_) _ _);refine a0d a8m rfl rfl bf rfl rfl (by intro v hv;simp at hv;rcases hv with rfl|rfl|rfl|rfl|rfl|rfl|rfl|rfl<;>rfl) ?_;intro w3 v1 v2;have hE3:Ext w2 w3:=ExtX.box ((ExtX.refl w2).alloc _) v2 (Nat.le_refl _);have k00:=hc1.out noY w3 (hE2.trans hE3) rfl)|(with_reducible refine a0t a0r (by omega) (by assumption) ?_)|(go_at_call 56;refine(hvec.out w3 (hE.trans (hE1.trans (hE2.trans hE3)))).mono ?_;rintro ee w4 ⟨hE4,vv,rfl,hvv⟩;clear k00)|(go_at_call 62;refine(hres.out w4 vv (mkx MC.mono hxv'.out (hE2.trans (hE3.trans hE4))) (mkx RC.mono hyv'.out (hE2.trans (hE3.trans hE4))) hvv).mono ?_;rintro ee w5 ⟨hE5,z,rfl,hz⟩))
 obtain⟨h,hh⟩:∃h,w2.heap.size=h:=⟨_,rfl⟩;rw[hh]at v1 v2 |-;have hE45:=hE4.trans hE5;have hEd:Ext w5 w5.drew:=(ExtX.refl w5).drew;have vd:=v1.ext0 (hE45.trans hEd);have hS:Hid (∀w',Ext w5.drew w'->w'.cell? ⟨h,4,none⟩=some (.bool s)/\w'.cell? ⟨h,4+1,none⟩=some (.slice a nn c)/\w'.cell? ⟨h,4+2,none⟩=some (.slice d k' e)):=hid fun w' hw=>by
  have b9:=vd.ext0 hw;exact⟨b9.cell 4 rfl,b9.cell 5 rfl,b9.cell 6 rfl⟩
 have hEo:Ext w w5.drew:=hE.trans (hE1.trans (hE2.trans (hE3.trans (hE45.trans hEd))));have hrd:=mkx QC.mono hrs (hE3.trans (hE45.trans hEd));have hzd:=mkx RC.mono hz hEd;clear v1 v2 hh vd hE3 hE4 hE5 hE45 hEd hz hrs
 (try simp only[Act.put])
 refine a0y 18 (fun w'=>w'.cell? ⟨h,4,none⟩=some (.bool s)/\w'.cell? ⟨h,4+1,none⟩=some (.slice a nn c)/\w'.cell? ⟨h,4+2,none⟩=some (.slice d k' e)) (by kernel_rfl) (by kernel_rfl) (hS.out _ (ExtX.refl _)) (fun hHeld hOnce=>?_);obtain⟨wd,hwd⟩:∃wd,w5.drew=wd:=⟨_,rfl⟩;rw[hwd]at hS hEo hrd hzd |-
 (try rw[hwd]at hHeld)
 clear hwd;refine a0e (i:=0) (o:=⟨_,_,_,_,_,_⟩) (by kernel_rfl) rfl (fun K hK=>?_);go_simp
 (go_at_call 44;(with_reducible refine(a4e wd).mono ?_);rintro ee w6 ⟨g6,rfl⟩)
 refine hK.out _ _ (hS.out _ g6) (fun hHeld=>?_);clear hK K
 (try simp only[Act.put,List.setIfInBounds_toArray,List.set_cons_zero,List.set_cons_succ])
 refine a0a hOnce (i:=1) (oi:=⟨_,_,_,_,_,_⟩) (v:=?_) rfl (by kernel_rfl) (fun _ _ _ h=>h) (by assumption) (by rfl) (fun w hSw=>?_) ?_
 rotate_left
 ·(try dsimp only at hSw)
  go_simp
  all_goals with_reducible rfl
 (try simp only[Act.put,List.setIfInBounds_toArray,List.set_cons_zero,List.set_cons_succ])
 refine a0a hOnce (i:=2) (oi:=⟨_,_,_,_,_,_⟩) (v:=?_) rfl (by kernel_rfl) (fun _ _ _ h=>h) (by assumption) (by rfl) (fun w hSw=>?_) ?_
 rotate_left
 ·(try dsimp only at hSw)
  go_simp
  all_goals with_reducible rfl
 (try simp only[Act.put,List.setIfInBounds_toArray,List.set_cons_zero,List.set_cons_succ])
 refine a0a hOnce (i:=3) (oi:=⟨_,_,_,_,_,_⟩) (v:=?_) rfl (by kernel_rfl) (fun _ _ _ h=>h) (by assumption) (by rfl) (fun w hSw=>?_) ?_
 rotate_left
 ·(try dsimp only at hSw)
  go_simp
  all_goals with_reducible rfl
 (try simp only[Act.put,List.setIfInBounds_toArray,List.set_cons_zero,List.set_cons_succ])
 refine a0a hOnce (i:=4) (oi:=⟨_,_,_,_,_,_⟩) (v:=?_) rfl (by kernel_rfl) (fun _ _ _ h=>h) (by assumption) (by rfl) (fun w hSw=>?_) ?_
 rotate_left
 ·(try dsimp only at hSw)
  go_simp
  all_goals with_reducible rfl
 (try simp only[Act.put,List.setIfInBounds_toArray,List.set_cons_zero,List.set_cons_succ])
 refine a0a hOnce (i:=5) (oi:=⟨_,_,_,_,_,_⟩) (v:=?_) rfl (by kernel_rfl) (fun _ _ _ h=>h) (by assumption) (by rfl) (fun w hSw=>?_) ?_
 rotate_left
 ·(try dsimp only at hSw)
  go_simp
  all_goals with_reducible rfl
 (try simp only[Act.put,List.setIfInBounds_toArray,List.set_cons_zero,List.set_cons_succ])
 refine a0a hOnce (i:=6) (oi:=⟨_,_,_,_,_,_⟩) (v:=?_) rfl (by kernel_rfl) (fun _ _ _ h=>h) (by assumption) (by rfl) (fun w hSw=>?_) ?_
 rotate_left
 ·(try dsimp only at hSw)
  go_simp
  all_goals with_reducible rfl
 (try simp only[Act.put,List.setIfInBounds_toArray,List.set_cons_zero,List.set_cons_succ])
 refine a0a hOnce (i:=7) (oi:=⟨_,_,_,_,_,_⟩) (v:=?_) rfl (by kernel_rfl) (fun _ _ _ h=>h) (by assumption) (by rfl) (fun w hSw=>?_) ?_
 rotate_left
 ·(try dsimp only at hSw)
  go_simp
  all_goals with_reducible rfl
 (try simp only[Act.put,List.setIfInBounds_toArray,List.set_cons_zero,List.set_cons_succ])
 refine a0a hOnce (i:=8) (oi:=⟨_,_,_,_,_,_⟩) (v:=?_) rfl (by kernel_rfl) (fun _ _ _ h=>h) (by assumption) (by rfl) (fun w hSw=>?_) ?_
 rotate_left
 ·(try dsimp only at hSw)
  go_simp
  all_goals with_reducible rfl
 (try simp only[Act.put,List.setIfInBounds_toArray,List.set_cons_zero,List.set_cons_succ])
 refine a0a hOnce (i:=9) (oi:=⟨_,_,_,_,_,_⟩) (v:=?_) rfl (by kernel_rfl) (fun _ _ _ h=>h) (by assumption) (by rfl) (fun w hSw=>?_) ?_
 rotate_left
 ·(try dsimp only at hSw)
  go_simp
  all_goals with_reducible rfl
 (try simp only[Act.put,List.setIfInBounds_toArray,List.set_cons_zero,List.set_cons_succ])
 refine a0a hOnce (i:=10) (oi:=⟨_,_,_,_,_,_⟩) (v:=?_) rfl (by kernel_rfl) (fun _ _ _ h=>h) (by assumption) (by rfl) (fun w hSw=>?_) ?_
 rotate_left
 ·(try dsimp only at hSw)
  go_simp
  all_goals with_reducible rfl
 (try simp only[Act.put,List.setIfInBounds_toArray,List.set_cons_zero,List.set_cons_succ])
 refine a0a hOnce (i:=11) (oi:=⟨_,_,_,_,_,_⟩) (v:=?_) rfl (by kernel_rfl) (fun _ _ _ h=>h) (by assumption) (by rfl) (fun w hSw=>?_) ?_
 rotate_left
 ·(try dsimp only at hSw)
  go_simp
  all_goals with_reducible rfl
 (try simp only[Act.put,List.setIfInBounds_toArray,List.set_cons_zero,List.set_cons_succ])
 refine a0a hOnce (i:=13) (oi:=⟨_,_,_,_,_,_⟩) (v:=?_) rfl (by kernel_rfl) (fun _ _ _ h=>h) (by assumption) (by rfl) (fun w hSw=>?_) ?_
 rotate_left
 ·(try dsimp only at hSw)
  go_simp
  all_goals with_reducible rfl
 (try simp only[Act.put,List.setIfInBounds_toArray,List.set_cons_zero,List.set_cons_succ])
 refine a0a hOnce (i:=14) (oi:=⟨_,_,_,_,_,_⟩) (v:=?_) rfl (by kernel_rfl) (fun _ _ _ h=>h) (by assumption) (by rfl) (fun w hSw=>?_) ?_
 rotate_left
 ·(try dsimp only at hSw)
  go_simp
  all_goals with_reducible rfl
 (try simp only[Act.put,List.setIfInBounds_toArray,List.set_cons_zero,List.set_cons_succ])
 have hd6:=hdot.out w6 z (mkx RC.mono hzd g6);refine a0e (i:=12) (o:=⟨_,_,_,_,_,_⟩) (by kernel_rfl) rfl (fun K hK=>?_);go_simp
 ((with_reducible refine hd6.mono ?_);rintro ee w7 ⟨g7,u7,rfl,hu7⟩)
 refine hK.out _ _ (hS.out _ (g6.trans g7)) (fun hHeld=>?_);clear hK K
 (try simp only[Act.put,List.setIfInBounds_toArray,List.set_cons_zero,List.set_cons_succ])
 have hl7:=hless.out w7 _ _ hu7 (mkx QC.mono hrd (g6.trans g7));refine a0e (i:=15) (o:=⟨_,_,_,_,_,_⟩) (by kernel_rfl) rfl (fun K hK=>?_);go_simp
 ((with_reducible refine hl7.mono ?_);rintro ee w8 ⟨g8,rfl⟩)
 refine hK.out _ _ (hS.out _ (g6.trans (g7.trans g8))) (fun hHeld=>?_);clear hK K
 (try simp only[Act.put,List.setIfInBounds_toArray,List.set_cons_zero,List.set_cons_succ])
 refine a0a hOnce (i:=16) (oi:=⟨_,_,_,_,_,_⟩) (v:=?_) rfl (by kernel_rfl) (fun _ _ _ h=>h) (by assumption) (by rfl) (fun w hSw=>?_) ?_
 rotate_left
 ·(try dsimp only at hSw)
  go_simp
  all_goals with_reducible rfl
 (try simp only[Act.put,List.setIfInBounds_toArray,List.set_cons_zero,List.set_cons_succ])
 refine a0a hOnce (i:=17) (oi:=⟨_,_,_,_,_,_⟩) (v:=?_) rfl (by kernel_rfl) (fun _ _ _ h=>h) (by assumption) (by rfl) (fun w hSw=>?_) ?_
 rotate_left
 ·(try dsimp only at hSw)
  go_simp
  all_goals with_reducible rfl
 (try simp only[Act.put,List.setIfInBounds_toArray,List.set_cons_zero,List.set_cons_succ])
 refine a0k (i:=18) (o:=⟨_,_,_,_,_,_⟩) (by kernel_rfl) rfl (by decide) (by kernel_rfl) (fun K hK=>?_);go_simp
 refine hK.out _ _ ?_;clear hK K;go_wp2_with fail
 go_ret
 exact⟨hEo.trans (g6.trans (g7.trans g8)),rfl⟩
end Go.Proofs.YtkddecjkfdogiaaGreat
