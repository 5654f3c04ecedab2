/- law 13: LeastsqIsOrthogonal returns true. Conditions: none but Go's own. -/
import Derived.Test.YtkddecjkfdogiaaGreatLaN
namespace Go.Lin
open Go.Lim Go.Rep
theorem b5t {l:List Rat} {i:Nat} (h:i<l.length):fn l i=l[i]:=by
 unfold fn;rw[List.getD_eq_getElem?_getD,List.getElem?_eq_getElem h];rfl
theorem b3k {m:Mat} {i:Nat} (h:i<m.length):m.getD i []=m[i]:=by
 rw[List.getD_eq_getElem?_getD,List.getElem?_eq_getElem h];rfl
theorem b6D {B:Nat} {m:Mat} {n c:Nat} (h:HB B m):BM B (trL m n c):=fun r hr q hq'=>by
 obtain⟨j,_,rfl⟩:=List.mem_map.1 hr;obtain⟨i,_,rfl⟩:=List.mem_map.1 hq';exact h i j
end Go.Lin
namespace Go.Proofs.YtkddecjkfdogiaaGreat
open Go.RowKit Go.Rep Go.Lim Go.Lin
set_option maxRecDepth 100000 in
set_option maxHeartbeats 3200000 in
theorem b3l (w:World) (N K:Int) (ones:Bool) (ro:Option Addr) (raw:List Int) (rcap:Nat) (hs:Sl (a1J .i64) 1 (mk noY w) ro raw) (hraw:∀x∈raw,-9223372036854775808<=x/\x<=9223372036854775807):
  Calls Tryz.prog 6 #[.agg #[.int .i64 N, .int .i64 K, .bool ones, .slice ro raw.length rcap]] w (a7S w true):=by
 have hnoX:∀v:World,HX noY v:=fun v=>HX.none v;have m1:=Int.emod_nonneg (wrap64 (N - 1)) (show(6:Int)≠0 by omega);have m2:=Int.emod_lt_of_pos (wrap64 (N - 1)) (show(0:Int)<6 by omega);have m3:=Int.emod_nonneg (wrap64 (K - 1)) (show(4:Int)≠0 by omega);have m4:=Int.emod_lt_of_pos (wrap64 (K - 1)) (show(0:Int)<4 by omega);obtain⟨n,hn⟩:=Int.eq_ofNat_of_zero_le (show 0<=1+wrap64 (N - 1)%6 by omega);obtain⟨k,hk⟩:=Int.eq_ofNat_of_zero_le (show 0<=1+wrap64 (K - 1)%4 by omega);have hn16:1<=n/\n<=6:=by omega
 have hk14:1<=k/\k<=4:=by omega
 obtain⟨hsh,hcol,hxB,hyB,hyl,hfo,hok⟩:=a5P ones n k raw hn16.1 (by omega) hk14.1 hk14.2;obtain⟨W,hW,hE,b0,hz⟩:=a1t w #[.int .i64 N, .int .i64 K, .bool ones, .slice ro raw.length rcap] 69;have hTab:Calls Tryz.prog 38 #[.agg #[.int .i64 N, .int .i64 K, .bool ones, .slice ro raw.length rcap], .int .i64 6, .int .i64 4] W (a7R noY W (a7U ones n k raw) (a9w ones n k raw)):=a5O noY W N K ones ro raw rcap 6 4 n k (hnoX W) (hs.mono (a1J.mono _) (a0q hE)) hraw (by decide) (by decide) (by decide) (by decide) hn hk;obtain⟨b,hb⟩:∃b,w.heap.size=b:=⟨_,rfl⟩;rw[hb]at b0 hz;obtain⟨x,hx⟩:∃x,a7U ones n k raw=x:=⟨_,rfl⟩;obtain⟨y,hy⟩:∃y,a9w ones n k raw=y:=⟨_,rfl⟩;rw[hx]at hsh hcol hxB hfo hok hTab;rw[hy]at hyB hyl hok hTab;have p0:=b0.cell 0 rfl;have p1:=b0.cell 1 rfl;have p2:=b0.cell 2 rfl;have p3:=b0.cell 3 rfl;have hn1:=hn16.1;have hn6:=hn16.2;have hk1:=hk14.1;have hk4:=hk14.2;have hxl:Hid (x.length=n):=hid hsh.1;have hxB':=hid (show BM 68719476736 x from fun r hr q hq=>Nat.le_trans (hxB r hr q hq) (by decide));have hyB':=hid (show BR 68719476736 y from fun q hq=>Nat.le_trans (hyB q hq) (by decide));have hyl':=hid hyl;have hfit:=hid fun w' u v (hu:MC (mk noY w') u x) (hv:RC (mk noY w') v y)=>a7d noY w' u v x y n k 2 (hnoX w') (hu.mv hxB'.out) (hv.rv hyB'.out) hok hsh.1 hcol (by omega) hk4 hxB hyB (by decide) (by decide);clear m1 m2 m3 m4 hn hk hx hy hn16 hk14 hs hraw;go_enter Tryz.func6,Tryz.ntmps6
 go_wp2_with fail
 refine hTab.mono ?_;rintro ee w1 ⟨hE1,xv,yv,rfl,hxv,hyv⟩;clear p0 p1 p2 p3 hTab;have hf1:=hfit.out w1 xv yv hxv hyv;go_wp2_with fail
 refine hf1.mono ?_;rintro ee w2 ⟨hE2,fv,rfl,hfv⟩;clear hf1;have bnd1:=b1A (u:=pkL x (a0K x k).2) (n:=n) (m:=(a0K x k).2.length) (B:=2) (a4O hsh _) (a9p hxB (by decide)) (by omega) (Nat.le_trans (a5I hsh) hk4) (by decide) (by decide);have bnd2:=a6W (y:=y) (n:=n) (c:=k) (a5F hxB (by decide)) hyB (by omega) hk4 (by decide);have bnd3:=a6X hsh hxB hyB bnd2 (by decide) hk4 (by decide);obtain⟨uo,uc,co,cl,cc,ro',rl,rc,s,a,nn,c,d,k',e,lo,ll,lc,rfl,huc,hus,hco,hro,hrs,hlv⟩:=hfv;have f1:(a5i x y n k).rank=(a0K x k).2.length:=rfl;have f2:(a5i x y n k).used=usedL (a0K x k).2 k:=rfl;have f3:(a5i x y n k).coef=a0Q x y n k:=rfl;have f4:(a5i x y n k).res=a1R x y (a0Q x y n k):=rfl;have f5:(a5i x y n k).rss=a2k (a1R x y (a0Q x y n k)) (a1R x y (a0Q x y n k)):=rfl;have f6:(a5i x y n k).lev=a3R (pkL x (a0K x k).2) n (a0K x k).2.length:=rfl;rw[f2,a1H]at huc;rw[f2]at hus;rw[f3]at hco;rw[f4]at hro;rw[f5]at hrs;rw[f6]at hlv;rw[f1,f2,a1H];have hcl:(a0Q x y n k).length=cl:=by obtain⟨_,_,h,_⟩:=hco;simp at h;exact h.2.1.symm
 have hrl:(a1R x y (a0Q x y n k)).length=rl:=by obtain⟨_,_,h,_⟩:=hro;simp at h;exact h.2.1.symm
 have hll:(a3R (pkL x (a0K x k).2) n (a0K x k).2.length).length=ll:=by obtain⟨_,_,h,_⟩:=hlv;simp at h;exact h.2.1.symm
 rw[a2G]at hcl;rw[a2i (by rw[hyl,hsh.1]),hsh.1]at hrl;rw[a3j,a4N,hsh.1]at hll;subst hcl hrl hll;have bf:=Bx.new w2 #[.int .i64 0, .slice none 0 0, .slice none 0 0, .slice none 0 0, .bool false, .slice none 0 0, .slice none 0 0, .slice none 0 0] 63;clear f1 f2 f3 f4 f5 f6;have hz1:=hid fun j (hj:j<k)=>b2S (y:=y) hsh hyl hj;have hz2:=hid fun j (hj:j<k) hp=>(a6T (y:=y) hsh).2.2.2 j hj hp;have hrsk:a6p x y (a0Q x y n k)=true:=by unfold a6p;rw[hok,a2G,hcol];simp
 have hTs:=a1U x n k;have hTb:BM 33000000 (trL x n k):=fun r hr q hq=>Nat.le_trans (b6D (a5F hxB (by decide)) r hr q hq) (by decide);have hxv':=hid hxv;have hyv':=hid hyv;have htr:=hid fun w' (h:MC (mk noY w') xv x)=>a7g noY w' xv x n k (hnoX w') (h.mv hxB'.out) hfo hsh.1 hcol;have hCl:=a2G x y n k;have hRl:(a1R x y (a0Q x y n k)).length=n:=by rw[a2i (by rw[hyl,hsh.1]),hsh.1]
 have hres:=hid fun w' u (h0:MC (mk noY w') xv x) (h1:RC (mk noY w') yv y) (h:RC (mk noY w') u (a0Q x y n k))=>a5V noY w' xv yv u x y (a0Q x y n k) 8000000 (hnoX w') (h0.mv hxB'.out) (h1.rv hyB'.out) (h.rv fun q hq=>Nat.le_trans (bnd2 q hq) (by decide)) (by rw[hsh.1];omega) (fun r hr q hq=>Nat.le_trans (hxB r hr q hq) (by decide)) bnd2 (by decide) (by decide);simp only[hrsk,if_true]at hres;have hUg:=hid fun j (hj:j<k) (h:j<(usedL (a0K x k).2 k).length)=>b1o (a0K x k).2 k j h;have hUl:=a1H (a0K x k).2 k;obtain⟨U,hU⟩:∃U,usedL (a0K x k).2 k=U:=⟨_,rfl⟩;rw[hU]at hUg hUl hus;obtain⟨C,hC⟩:∃C,a0Q x y n k=C:=⟨_,rfl⟩;rw[hC]at hz1 hz2 hCl hRl hres hco hro hrs bnd2 bnd3;obtain⟨R,hR⟩:∃R,a1R x y C=R:=⟨_,rfl⟩;rw[hR]at hz1 hRl hres hro hrs bnd3;obtain⟨T,hT⟩:∃T,trL x n k=T:=⟨_,rfl⟩;rw[hT]at hz1 hTs hTb htr;obtain⟨p,hp⟩:∃p,(a0K x k).2=p:=⟨_,rfl⟩;rw[hp]at hUg hz2 hlv |-;have hTl:=hTs.1;have hTr:=hid fun j (hj:j<T.length)=>(hTs.2 T[j] (List.getElem_mem hj));have hCz:=hid fun j (hj:j<k) (hp:j∉p)=>(show C[j]'(by omega)=0 by rw[<-b5t];exact hz2.out j hj hp);have hDz:=hid fun j (hj:j<k)=>(show a2k (T[j]'(by omega)) R=0 by rw[<-b3k];exact hz1.out j hj);have hdb:=hid fun j (hj:j<T.length)=>a1w (l:=T[j]) (m:=R) (fun q hq=>hTb T[j] (List.getElem_mem hj) q hq) bnd3 (by decide) (by rw[hTr.out j hj];omega) (by decide);have hdot:=hid fun w' u v j (hj:j<T.length) (h:RC (mk noY w') u T[j]) (h2:RC (mk noY w') v R)=>a5p noY w' u v T[j] R (hnoX w') (h.rv fun q hq=>Nat.le_trans (hTb T[j] (List.getElem_mem hj) q hq) (by decide)) (h2.rv fun q hq=>Nat.le_trans (bnd3 q hq) (by decide)) (by rw[hTr.out j hj];omega) (by rw[hTr.out j hj,hRl]) (hdb.out j hj).1 (hdb.out j hj).2;have hdb2:=a1w (l:=R) (m:=R) bnd3 bnd3 (by decide) (by omega) (by decide);have hdot2:=hid fun w' u (h:RC (mk noY w') u R)=>a5p noY w' u u R R (hnoX w') (h.rv fun q hq=>Nat.le_trans (bnd3 q hq) (by decide)) (h.rv fun q hq=>Nat.le_trans (bnd3 q hq) (by decide)) (by omega) rfl hdb2.1 hdb2.2;have hrq:hq (a2k R R)<=68719476736:=Nat.le_trans (b3Q bnd3 (by omega)) (by decide);have hsn:=hid fun w' u (h:QC (mk noY w') u 0)=>(by
  have h9:=a7y noY w' u 0 (hnoX w') (h.qv (by decide+kernel));rw[show(0:Rat).num.sign=0 from rfl]at h9;exact h9:Calls Tryz.prog 41 #[u] w' (a4n w' 0))
 have hsl:=hid fun w' u v (h1:RC (mk noY w') u R) (h2:RC (mk noY w') v R)=>a6n noY w' u v R R h1 h2 (fun q hq=>Nat.le_trans (bnd3 q hq) (by decide)) (by omega);have hsm:=hid fun w' u v (h1:QC (mk noY w') u (a2k R R)) (h2:QC (mk noY w') v (a2k R R))=>a7Q noY w' u v _ _ h1 h2 hrq;simp only[decide_true]at hsl hsm;obtain⟨D,hD⟩:∃D,a2k R R=D:=⟨_,rfl⟩;rw[hD]at hdot2 hsm hrs;obtain⟨pl,hpl⟩:∃pl,p.length=pl:=⟨_,rfl⟩;rw[hpl]at hlv |-;have hk0:=hsh.2 (x[0]'(by rw[hxl.out];omega)) (List.getElem_mem _);obtain⟨xo,xc,rfl,hxc,hxs⟩:=hxv;obtain⟨a1,c1,hX1,hc1,hcl1,hq1⟩:=hxs.row 0 (by rw[hxl.out];omega);rw[hk0]at hc1 hcl1;have hhx:Hd xo n:=by have:=hxs.hd;rw[hxl.out]at this;exact this
 rw[hxl.out]at hxv' hres htr hxc |-;have hI:(0:Int)<(n:Int):=by omega
 clear hD hR hC hU hT hp hpl hq1 hxs hrsk hk0 bnd1 bnd2 bnd3 hfit hok hfo hyB hyl hxB hsh hxB' hyB' hz1 hz2 hdb hdb2 hTs hTb hRl hrq hlv hcol;go_upto_region 3 with((with_reducible show wpList _ _ _ (⟨_, .store 63 _ _,_,_,_,_⟩::_) _ _);refine a0d a8m rfl rfl bf rfl rfl (by intro v hv;simp at hv;rcases hv with rfl|rfl|rfl|rfl|rfl|rfl|rfl|rfl<;>rfl) ?_;intro w3 v1 v2)
 have hE3:Ext w2 w3:=ExtX.box ((ExtX.refl w2).alloc _) v2 (Nat.le_refl _);obtain⟨h,hh⟩:∃h,w2.heap.size=h:=⟨_,rfl⟩;rw[hh]at v1 v2 |-;have hEd3:Ext w3 w3.drew:=(ExtX.refl w3).drew;have vd:=v1.ext0 hEd3;have hS3:w3.drew.cell? ⟨h,3,none⟩=some (.slice ro' n rc)/\w3.drew.cell? ⟨h,2,none⟩=some (.slice co k cc)/\w3.drew.cell? ⟨h,1,none⟩=some (.slice uo k uc)/\w3.drew.cell? (adr xo 0)=some (.slice a1 k c1):=⟨vd.cell 3 rfl,vd.cell 2 rfl,vd.cell 1 rfl,hc1.out noY _ (hE2.trans (hE3.trans hEd3)) rfl⟩;have i0:∀w',(Instr.indexAt 25 (.slice xo n xc) (.int .i64 0)).run Tryz.prog w'= .ok (.pointer (some (adr xo 0))) w':=a0w a0r xo n xc .i64 0 hhx (by omega) rfl
 (try simp only[Act.put])
 refine a0y 29 (fun w'=>w'.cell? ⟨h,3,none⟩=some (.slice ro' n rc)/\w'.cell? ⟨h,2,none⟩=some (.slice co k cc)/\w'.cell? ⟨h,1,none⟩=some (.slice uo k uc)/\w'.cell? (adr xo 0)=some (.slice a1 k c1)) (by kernel_rfl) (by kernel_rfl) hS3 (fun hHeld hOnce=>?_);refine a0a hOnce (i:=0) (oi:=⟨_,_,_,_,_,_⟩) (v:=?_) rfl (by kernel_rfl) (fun _ _ _ h=>h) (by assumption) (by rfl) (fun w hSw=>?_) ?_
 rotate_left
 ·(try dsimp only at hSw)
  go_simp
  all_goals with_reducible rfl
 (try simp only[Act.put,List.setIfInBounds_toArray,List.set_cons_zero,List.set_cons_succ])
 refine a0a hOnce (i:=1) (oi:=⟨_,_,_,_,_,_⟩) (v:=?_) rfl (by kernel_rfl) (fun _ _ _ h=>h) (by assumption) (by rfl) (fun w hSw=>?_) ?_
 rotate_left
 ·(try dsimp only at hSw)
  go_simp
  all_goals with_reducible rfl
 (try simp only[Act.put,List.setIfInBounds_toArray,List.set_cons_zero,List.set_cons_succ])
 refine a0a hOnce (i:=2) (oi:=⟨_,_,_,_,_,_⟩) (v:=?_) rfl (by kernel_rfl) (fun _ _ _ h=>h) (by assumption) (by rfl) (fun w hSw=>?_) ?_
 rotate_left
 ·(try dsimp only at hSw)
  go_simp
  all_goals with_reducible rfl
 (try simp only[Act.put,List.setIfInBounds_toArray,List.set_cons_zero,List.set_cons_succ])
 refine a0a hOnce (i:=3) (oi:=⟨_,_,_,_,_,_⟩) (v:=?_) rfl (by kernel_rfl) (fun _ _ _ h=>h) (by assumption) (by rfl) (fun w hSw=>?_) ?_
 rotate_left
 ·(try dsimp only at hSw)
  go_simp
  all_goals with_reducible rfl
 (try simp only[Act.put,List.setIfInBounds_toArray,List.set_cons_zero,List.set_cons_succ])
 refine a0a hOnce (i:=4) (oi:=⟨_,_,_,_,_,_⟩) (v:=?_) rfl (by kernel_rfl) (fun _ _ _ h=>h) (by assumption) (by rfl) (fun w hSw=>?_) ?_
 rotate_left
 ·(try dsimp only at hSw)
  go_simp
  all_goals with_reducible rfl
 (try simp only[Act.put,List.setIfInBounds_toArray,List.set_cons_zero,List.set_cons_succ])
 refine a0a hOnce (i:=5) (oi:=⟨_,_,_,_,_,_⟩) (v:=?_) rfl (by kernel_rfl) (fun _ _ _ h=>h) (by assumption) (by rfl) (fun w hSw=>?_) ?_
 rotate_left
 ·(try dsimp only at hSw)
  go_simp
  all_goals with_reducible rfl
 (try simp only[Act.put,List.setIfInBounds_toArray,List.set_cons_zero,List.set_cons_succ])
 refine a0a hOnce (i:=6) (oi:=⟨_,_,_,_,_,_⟩) (v:=?_) rfl (by kernel_rfl) (fun _ _ _ h=>h) (by assumption) (by rfl) (fun w hSw=>?_) ?_
 rotate_left
 ·(try dsimp only at hSw)
  go_simp
  all_goals with_reducible rfl
 (try simp only[Act.put,List.setIfInBounds_toArray,List.set_cons_zero,List.set_cons_succ])
 refine a0a hOnce (i:=7) (oi:=⟨_,_,_,_,_,_⟩) (v:=?_) rfl (by kernel_rfl) (fun _ _ _ h=>h) (by assumption) (by rfl) (fun w hSw=>?_) ?_
 rotate_left
 ·(try dsimp only at hSw)
  go_simp
  all_goals with_reducible rfl
 (try simp only[Act.put,List.setIfInBounds_toArray,List.set_cons_zero,List.set_cons_succ])
 refine a0a hOnce (i:=8) (oi:=⟨_,_,_,_,_,_⟩) (v:=?_) rfl (by kernel_rfl) (fun _ _ _ h=>h) (by assumption) (by rfl) (fun w hSw=>?_) ?_
 rotate_left
 ·(try dsimp only at hSw)
  go_simp
  all_goals with_reducible rfl
 (try simp only[Act.put,List.setIfInBounds_toArray,List.set_cons_zero,List.set_cons_succ])
 refine a0a hOnce (i:=9) (oi:=⟨_,_,_,_,_,_⟩) (v:=?_) rfl (by kernel_rfl) (fun _ _ _ h=>h) (by assumption) (by rfl) (fun w hSw=>?_) ?_
 rotate_left
 ·(try dsimp only at hSw)
  go_simp
  all_goals with_reducible rfl
 (try simp only[Act.put,List.setIfInBounds_toArray,List.set_cons_zero,List.set_cons_succ])
 refine a0a hOnce (i:=10) (oi:=⟨_,_,_,_,_,_⟩) (v:=?_) rfl (by kernel_rfl) (fun _ _ _ h=>h) (by assumption) (by rfl) (fun w hSw=>?_) ?_
 rotate_left
 ·(try dsimp only at hSw)
  go_simp
  all_goals with_reducible rfl
 (try simp only[Act.put,List.setIfInBounds_toArray,List.set_cons_zero,List.set_cons_succ])
 refine a0a hOnce (i:=11) (oi:=⟨_,_,_,_,_,_⟩) (v:=?_) rfl (by kernel_rfl) (fun _ _ _ h=>h) (by assumption) (by rfl) (fun w hSw=>?_) ?_
 rotate_left
 ·(try dsimp only at hSw)
  go_simp
  all_goals with_reducible rfl
 (try simp only[Act.put,List.setIfInBounds_toArray,List.set_cons_zero,List.set_cons_succ])
 refine a0a hOnce (i:=12) (oi:=⟨_,_,_,_,_,_⟩) (v:=?_) rfl (by kernel_rfl) (fun _ _ _ h=>h) (by assumption) (by rfl) (fun w hSw=>?_) ?_
 rotate_left
 ·(try dsimp only at hSw)
  go_simp
  all_goals with_reducible rfl
 (try simp only[Act.put,List.setIfInBounds_toArray,List.set_cons_zero,List.set_cons_succ])
 refine a0a hOnce (i:=13) (oi:=⟨_,_,_,_,_,_⟩) (v:=?_) rfl (by kernel_rfl) (fun _ _ _ h=>h) (by assumption) (by rfl) (fun w hSw=>?_) ?_
 rotate_left
 ·(try dsimp only at hSw)
  go_simp
  all_goals with_reducible rfl
 (try simp only[Act.put,List.setIfInBounds_toArray,List.set_cons_zero,List.set_cons_succ])
 refine a0a hOnce (i:=14) (oi:=⟨_,_,_,_,_,_⟩) (v:=?_) rfl (by kernel_rfl) (fun _ _ _ h=>h) (by assumption) (by rfl) (fun w hSw=>?_) ?_
 rotate_left
 ·(try dsimp only at hSw)
  go_simp
  all_goals with_reducible rfl
 (try simp only[Act.put,List.setIfInBounds_toArray,List.set_cons_zero,List.set_cons_succ])
 refine a0a hOnce (i:=15) (oi:=⟨_,_,_,_,_,_⟩) (v:=?_) rfl (by kernel_rfl) (fun _ _ _ h=>h) (by assumption) (by rfl) (fun w hSw=>?_) ?_
 rotate_left
 ·(try dsimp only at hSw)
  go_simp
  all_goals with_reducible rfl
 (try simp only[Act.put,List.setIfInBounds_toArray,List.set_cons_zero,List.set_cons_succ])
 refine a0a hOnce (i:=16) (oi:=⟨_,_,_,_,_,_⟩) (v:=?_) rfl (by kernel_rfl) (fun _ _ _ h=>h) (by assumption) (by rfl) (fun w hSw=>?_) ?_
 rotate_left
 ·(try dsimp only at hSw)
  go_simp
  all_goals with_reducible rfl
 (try simp only[Act.put,List.setIfInBounds_toArray,List.set_cons_zero,List.set_cons_succ])
 refine a0a hOnce (i:=17) (oi:=⟨_,_,_,_,_,_⟩) (v:=?_) rfl (by kernel_rfl) (fun _ _ _ h=>h) (by assumption) (by rfl) (fun w hSw=>?_) ?_
 rotate_left
 ·(try dsimp only at hSw)
  go_simp
  all_goals with_reducible rfl
 (try simp only[Act.put,List.setIfInBounds_toArray,List.set_cons_zero,List.set_cons_succ])
 refine a0a hOnce (i:=18) (oi:=⟨_,_,_,_,_,_⟩) (v:=?_) rfl (by kernel_rfl) (fun _ _ _ h=>h) (by assumption) (by rfl) (fun w hSw=>?_) ?_
 rotate_left
 ·(try dsimp only at hSw)
  go_simp
  all_goals with_reducible rfl
 (try simp only[Act.put,List.setIfInBounds_toArray,List.set_cons_zero,List.set_cons_succ])
 refine a0a hOnce (i:=19) (oi:=⟨_,_,_,_,_,_⟩) (v:=?_) rfl (by kernel_rfl) (fun _ _ _ h=>h) (by assumption) (by rfl) (fun w hSw=>?_) ?_
 rotate_left
 ·(try dsimp only at hSw)
  go_simp
  all_goals with_reducible rfl
 (try simp only[Act.put,List.setIfInBounds_toArray,List.set_cons_zero,List.set_cons_succ])
 refine a0a hOnce (i:=20) (oi:=⟨_,_,_,_,_,_⟩) (v:=?_) rfl (by kernel_rfl) (fun _ _ _ h=>h) (by assumption) (by rfl) (fun w hSw=>?_) ?_
 rotate_left
 ·(try dsimp only at hSw)
  go_simp
  all_goals with_reducible rfl
 (try simp only[Act.put,List.setIfInBounds_toArray,List.set_cons_zero,List.set_cons_succ])
 refine a0a hOnce (i:=21) (oi:=⟨_,_,_,_,_,_⟩) (v:=?_) rfl (by kernel_rfl) (fun _ _ _ h=>h) (by assumption) (by rfl) (fun w hSw=>?_) ?_
 rotate_left
 ·(try dsimp only at hSw)
  go_simp
  all_goals with_reducible rfl
 (try simp only[Act.put,List.setIfInBounds_toArray,List.set_cons_zero,List.set_cons_succ])
 refine a0a hOnce (i:=22) (oi:=⟨_,_,_,_,_,_⟩) (v:=?_) rfl (by kernel_rfl) (fun _ _ _ h=>h) (by assumption) (by rfl) (fun w hSw=>?_) ?_
 rotate_left
 ·(try dsimp only at hSw)
  go_simp
  all_goals with_reducible rfl
 (try simp only[Act.put,List.setIfInBounds_toArray,List.set_cons_zero,List.set_cons_succ])
 refine a0a hOnce (i:=23) (oi:=⟨_,_,_,_,_,_⟩) (v:=?_) rfl (by kernel_rfl) (fun _ _ _ h=>h) (by assumption) (by rfl) (fun w hSw=>?_) ?_
 rotate_left
 ·(try dsimp only at hSw)
  go_simp
  all_goals with_reducible rfl
 (try simp only[Act.put,List.setIfInBounds_toArray,List.set_cons_zero,List.set_cons_succ])
 refine a0a hOnce (i:=24) (oi:=⟨_,_,_,_,_,_⟩) (v:=?_) rfl (by kernel_rfl) (fun _ _ _ h=>h) (by assumption) (by rfl) (fun w hSw=>?_) ?_
 rotate_left
 ·(try dsimp only at hSw)
  go_simp
  all_goals with_reducible rfl
 (try simp only[Act.put,List.setIfInBounds_toArray,List.set_cons_zero,List.set_cons_succ])
 refine a0a hOnce (i:=25) (oi:=⟨_,_,_,_,_,_⟩) (v:=?_) rfl (by kernel_rfl) (fun _ _ _ h=>h) (by assumption) (by rfl) (fun w hSw=>?_) ?_
 rotate_left
 ·(try dsimp only at hSw)
  go_simp
  all_goals with_reducible rfl
 (try simp only[Act.put,List.setIfInBounds_toArray,List.set_cons_zero,List.set_cons_succ])
 refine a0a hOnce (i:=26) (oi:=⟨_,_,_,_,_,_⟩) (v:=?_) rfl (by kernel_rfl) (fun _ _ _ h=>h) (by assumption) (by rfl) (fun w hSw=>?_) ?_
 rotate_left
 ·(try dsimp only at hSw)
  go_simp
  all_goals with_reducible rfl
 (try simp only[Act.put,List.setIfInBounds_toArray,List.set_cons_zero,List.set_cons_succ])
 refine a0a hOnce (i:=27) (oi:=⟨_,_,_,_,_,_⟩) (v:=?_) rfl (by kernel_rfl) (fun _ _ _ h=>h) (by assumption) (by rfl) (fun w hSw=>?_) ?_
 rotate_left
 ·(try dsimp only at hSw)
  go_simp
  all_goals with_reducible rfl
 (try simp only[Act.put,List.setIfInBounds_toArray,List.set_cons_zero,List.set_cons_succ])
 refine a0a hOnce (i:=28) (oi:=⟨_,_,_,_,_,_⟩) (v:=?_) rfl (by kernel_rfl) (fun _ _ _ h=>h) (by assumption) (by rfl) (fun w hSw=>?_) ?_
 rotate_left
 ·(try dsimp only at hSw)
  go_simp
  all_goals with_reducible rfl
 (try simp only[Act.put,List.setIfInBounds_toArray,List.set_cons_zero,List.set_cons_succ])
 refine a0k (i:=29) (o:=⟨_,_,_,_,_,_⟩) (by kernel_rfl) rfl (by decide) (by kernel_rfl) (fun K hK=>?_);go_simp
 refine hK.out _ _ ?_;clear hK K;clear hHeld hOnce hS3 i0 vd;obtain⟨w3d,hw3d⟩:∃w',w3.drew=w':=⟨_,rfl⟩
 replace hE3:=hE3.trans hEd3
 replace v1:=v1.ext0 hEd3
 rw[hw3d]at hE3 v1 |-;clear hw3d hEd3;go_wp2_with fail
 refine(htr.out w3d (mkx MC.mono hxv'.out (hE2.trans hE3))).mono ?_;rintro ee w4 ⟨hE4,tv,rfl,htv⟩;have v4:=v1.ext0 hE4;clear hc1;obtain⟨tto,tc,rfl,htc,hts⟩:=htv;rw[hTl]at htc |-;have hht:Hd tto k:=by have:=hts.hd;rw[hTl]at this;exact this
 have hE34:=hE3.trans hE4;have hus4:=hus.mono BlR.mono (a0q hE34);have hhu:Hd uo k:=by have:=hus.hd;rw[hUl]at this;exact this
 have hco4:=mkx RC.mono hco hE34;have hro4:=mkx RC.mono hro hE34;have hrs4:=mkx QC.mono hrs hE34;have hro':=hid hro4;have hco':=hid hco4;obtain⟨co',cc',heq,hcc,hcs⟩:=hco4;simp only[Value.slice.injEq]at heq;obtain⟨rfl,-,rfl⟩:=heq;have hhc:Hd co k:=by have:=hcs.hd;rw[hCl]at this;exact this
 have hEw4:Ext w w4:=hE.trans (hE1.trans (hE2.trans hE34));have hx4:=mkx MC.mono hxv'.out (hE2.trans hE34);have hy4:=mkx RC.mono hyv'.out (hE2.trans hE34);clear htr v1 v2 bf hE3 hE4 hE2 hE34 hus hco hro hrs hxv' hyv';go_wp2_with fail
 go_loopw [9] (fun kv wr=>∃j:Nat,kv= .int .i64 j/\j<=k/\Ext w4 wr) (fun kv _=>k - (intOf kv).toNat)
 case atStart=>exact⟨0,rfl,Nat.zero_le _,ExtX.refl _⟩
 case round=>
  obtain⟨j,rfl,hj,hEr⟩:=hrel;by_cases hlt:j<k
  ·have hjT:j<T.length:=by omega
   have hjC:j<C.length:=by omega
   have hjU:j<U.length:=by omega
   have hEd:Ext wr wr.drew:=(ExtX.refl wr).drew;have hEo:=hEr.trans hEd;obtain⟨ta,tac,hXt,hct,hclt,hqt⟩:=hts.row j hjT;have hrt:RC (mk noY w4) (.slice ta T[j].length tac) T[j]:=⟨ta,tac,rfl,hclt,hqt⟩;obtain⟨ge,oe,sg,ae,ne,ce,de,ke,ee2,hadr,hXe,hce,hqe⟩:=hcs.rat QC.shaped j hjC;have hbl:=hid (a1x (hus4.bl j hjU));have hUj:=hid (hUg.out j hlt hjU);have i1:∀w',(Instr.indexAt 25 (.slice tto k tc) (.int .i64 (j:Int))).run Tryz.prog w'= .ok (.pointer (some (adr tto j))) w':=a0w a0r tto k tc .i64 j hht hlt rfl;have i2:∀w',(Instr.indexAt 45 (.slice co k cc) (.int .i64 (j:Int))).run Tryz.prog w'= .ok (.pointer (some ⟨ge,oe,none⟩)) w':=by rw[<-hadr];exact a0i a0B co k cc .i64 j hhc hlt
   have i3:∀w',(Instr.indexAt 61 (.slice uo k uc) (.int .i64 (j:Int))).run Tryz.prog w'= .ok (.pointer (some (adr uo j))) w':=a0w b1C uo k uc .i64 j hhu hlt rfl;have hTn:=hid (hTr.out j hjT);have hD0:=hid (hDz.out j hlt);have hdj:=hid fun w' u v h1 h2=>hdot.out w' u v j hjT h1 h2;rw[hTn.out]at hct hrt;obtain⟨Tj,hTj⟩:∃Tj,T[j]=Tj:=⟨_,rfl⟩;rw[hTj]at hrt hD0 hdj;rw[hD0.out]at hdj;have hC0:=hid fun hp=>hCz.out j hlt hp;obtain⟨Cj,hCj⟩:∃Cj,C[j]=Cj:=⟨_,rfl⟩;rw[hCj]at hqe hC0;obtain⟨b1,hb1⟩:∃b1,U[j]=b1:=⟨_,rfl⟩;rw[hb1]at hbl hUj;have hS:Hid (∀w',Ext wr.drew w'->w'.cell? (adr tto j)=some (.slice ta n tac)/\w'.cell? ⟨h,3,none⟩=some (.slice ro' n rc)/\w'.cell? ⟨h,1,none⟩=some (.slice uo k uc)/\w'.cell? (adr uo j)=some (.bool b1)/\w'.cell? ⟨h,2,none⟩=some (.slice co k cc)/\w'.cell? ⟨ge,oe,none⟩=some (.bool sg)/\w'.cell? ⟨ge,oe+1,none⟩=some (.slice ae ne ce)/\w'.cell? ⟨ge,oe+2,none⟩=some (.slice de ke ee2)):=hid fun w' hw=>by
    have b9:=v4.ext0 (hEo.trans hw);obtain⟨z1,z2,z3⟩:=hce.out noY w' (hEo.trans hw) rfl;exact⟨hct.out noY w' (hEo.trans hw) rfl,b9.cell 3 rfl,b9.cell 1 rfl,(hEo.trans hw).cell hbl.out,b9.cell 2 rfl,z1,z2,z3⟩
   have hrtd:=mkx RC.mono hrt hEo;have hrod:=mkx RC.mono hro'.out hEo;have hqed:=mkx QC.mono hqe hEo;have hdd:=hdj.out wr.drew _ _ hrtd hrod;clear hTj hCj hb1 hct hclt hqt hadr hce hqe hrt hbl hdj hTn hD0 hrod hrtd;cases b1
   ·have hC0:=hC0.out (of_decide_eq_false hUj.out.symm)
    subst hC0;go_wp2_with fail
    refine a0y 25 (fun w'=>w'.cell? (adr tto j)=some (.slice ta n tac)/\w'.cell? ⟨h,3,none⟩=some (.slice ro' n rc)/\w'.cell? ⟨h,1,none⟩=some (.slice uo k uc)/\w'.cell? (adr uo j)=some (.bool false)/\w'.cell? ⟨h,2,none⟩=some (.slice co k cc)/\w'.cell? ⟨ge,oe,none⟩=some (.bool sg)/\w'.cell? ⟨ge,oe+1,none⟩=some (.slice ae ne ce)/\w'.cell? ⟨ge,oe+2,none⟩=some (.slice de ke ee2)) (by kernel_rfl) (by kernel_rfl) (hS.out _ (ExtX.refl _)) (fun hHeld hOnce=>?_);refine a0a hOnce (i:=0) (oi:=⟨_,_,_,_,_,_⟩) (v:=?_) rfl (by kernel_rfl) (fun _ _ _ h=>h) (by assumption) (by rfl) (fun w hSw=>?_) ?_
    rotate_left
    ·(try dsimp only at hSw)
     go_simp
     all_goals with_reducible rfl
    (try simp only[Act.put,List.setIfInBounds_toArray,List.set_cons_zero,List.set_cons_succ])
    refine a0a hOnce (i:=1) (oi:=⟨_,_,_,_,_,_⟩) (v:=?_) rfl (by kernel_rfl) (fun _ _ _ h=>h) (by assumption) (by rfl) (fun w hSw=>?_) ?_
    rotate_left
    ·(try dsimp only at hSw)
     go_simp
     all_goals with_reducible rfl
    (try simp only[Act.put,List.setIfInBounds_toArray,List.set_cons_zero,List.set_cons_succ])
    refine a0a hOnce (i:=2) (oi:=⟨_,_,_,_,_,_⟩) (v:=?_) rfl (by kernel_rfl) (fun _ _ _ h=>h) (by assumption) (by rfl) (fun w hSw=>?_) ?_
    rotate_left
    ·(try dsimp only at hSw)
     go_simp
     all_goals with_reducible rfl
    (try simp only[Act.put,List.setIfInBounds_toArray,List.set_cons_zero,List.set_cons_succ])
    refine a0a hOnce (i:=3) (oi:=⟨_,_,_,_,_,_⟩) (v:=?_) rfl (by kernel_rfl) (fun _ _ _ h=>h) (by assumption) (by rfl) (fun w hSw=>?_) ?_
    rotate_left
    ·(try dsimp only at hSw)
     go_simp
     all_goals with_reducible rfl
    (try simp only[Act.put,List.setIfInBounds_toArray,List.set_cons_zero,List.set_cons_succ])
    refine a0a hOnce (i:=4) (oi:=⟨_,_,_,_,_,_⟩) (v:=?_) rfl (by kernel_rfl) (fun _ _ _ h=>h) (by assumption) (by rfl) (fun w hSw=>?_) ?_
    rotate_left
    ·(try dsimp only at hSw)
     go_simp
     all_goals with_reducible rfl
    (try simp only[Act.put,List.setIfInBounds_toArray,List.set_cons_zero,List.set_cons_succ])
    refine a0a hOnce (i:=5) (oi:=⟨_,_,_,_,_,_⟩) (v:=?_) rfl (by kernel_rfl) (fun _ _ _ h=>h) (by assumption) (by rfl) (fun w hSw=>?_) ?_
    rotate_left
    ·(try dsimp only at hSw)
     go_simp
     all_goals with_reducible rfl
    (try simp only[Act.put,List.setIfInBounds_toArray,List.set_cons_zero,List.set_cons_succ])
    refine a0e (i:=6) (o:=⟨_,_,_,_,_,_⟩) (by kernel_rfl) rfl (fun K hK=>?_);go_simp
    ((with_reducible refine hdd.mono ?_);rintro ee wa ⟨ga,ua,rfl,hua⟩)
    refine hK.out _ _ (hS.out _ ga) (fun hHeld=>?_);clear hK K
    (try simp only[Act.put,List.setIfInBounds_toArray,List.set_cons_zero,List.set_cons_succ])
    refine a0e (i:=7) (o:=⟨_,_,_,_,_,_⟩) (by kernel_rfl) rfl (fun K hK=>?_);go_simp
    ((with_reducible refine(hsn.out wa ua hua).mono ?_);rintro ee wb ⟨gb,rfl⟩)
    refine hK.out _ _ (hS.out _ (ga.trans gb)) (fun hHeld=>?_);clear hK K
    (try simp only[Act.put,List.setIfInBounds_toArray,List.set_cons_zero,List.set_cons_succ])
    refine a0a hOnce (i:=8) (oi:=⟨_,_,_,_,_,_⟩) (v:=?_) rfl (by kernel_rfl) (fun _ _ _ h=>h) (by assumption) (by rfl) (fun w hSw=>?_) ?_
    rotate_left
    ·(try dsimp only at hSw)
     go_simp
     all_goals with_reducible rfl
    (try simp only[Act.put,List.setIfInBounds_toArray,List.set_cons_zero,List.set_cons_succ])
    refine a0a hOnce (i:=9) (oi:=⟨_,_,_,_,_,_⟩) (v:=?_) rfl (by kernel_rfl) (fun _ _ _ h=>h) (by assumption) (by rfl) (fun w hSw=>?_) ?_
    rotate_left
    ·(try dsimp only at hSw)
     go_simp
     all_goals with_reducible rfl
    (try simp only[Act.put,List.setIfInBounds_toArray,List.set_cons_zero,List.set_cons_succ])
    refine a0a hOnce (i:=10) (oi:=⟨_,_,_,_,_,_⟩) (v:=?_) rfl (by kernel_rfl) (fun _ _ _ h=>h) (by assumption) (by rfl) (fun w hSw=>?_) ?_
    rotate_left
    ·(try dsimp only at hSw)
     go_simp
     all_goals with_reducible rfl
    (try simp only[Act.put,List.setIfInBounds_toArray,List.set_cons_zero,List.set_cons_succ])
    refine a0a hOnce (i:=11) (oi:=⟨_,_,_,_,_,_⟩) (v:=?_) rfl (by kernel_rfl) (fun _ _ _ h=>h) (by assumption) (by rfl) (fun w hSw=>?_) ?_
    rotate_left
    ·(try dsimp only at hSw)
     go_simp
     all_goals with_reducible rfl
    (try simp only[Act.put,List.setIfInBounds_toArray,List.set_cons_zero,List.set_cons_succ])
    refine a0a hOnce (i:=12) (oi:=⟨_,_,_,_,_,_⟩) (v:=?_) rfl (by kernel_rfl) (fun _ _ _ h=>h) (by assumption) (by rfl) (fun w hSw=>?_) ?_
    rotate_left
    ·(try dsimp only at hSw)
     go_simp
     all_goals with_reducible rfl
    (try simp only[Act.put,List.setIfInBounds_toArray,List.set_cons_zero,List.set_cons_succ])
    refine a0a hOnce (i:=13) (oi:=⟨_,_,_,_,_,_⟩) (v:=?_) rfl (by kernel_rfl) (fun _ _ _ h=>h) (by assumption) (by rfl) (fun w hSw=>?_) ?_
    rotate_left
    ·(try dsimp only at hSw)
     go_simp
     all_goals with_reducible rfl
    (try simp only[Act.put,List.setIfInBounds_toArray,List.set_cons_zero,List.set_cons_succ])
    refine a0a hOnce (i:=14) (oi:=⟨_,_,_,_,_,_⟩) (v:=?_) rfl (by kernel_rfl) (fun _ _ _ h=>h) (by assumption) (by rfl) (fun w hSw=>?_) ?_
    rotate_left
    ·(try dsimp only at hSw)
     go_simp
     all_goals with_reducible rfl
    (try simp only[Act.put,List.setIfInBounds_toArray,List.set_cons_zero,List.set_cons_succ])
    refine a0a hOnce (i:=15) (oi:=⟨_,_,_,_,_,_⟩) (v:=?_) rfl (by kernel_rfl) (fun _ _ _ h=>h) (by assumption) (by rfl) (fun w hSw=>?_) ?_
    rotate_left
    ·(try dsimp only at hSw)
     go_simp
     all_goals with_reducible rfl
    (try simp only[Act.put,List.setIfInBounds_toArray,List.set_cons_zero,List.set_cons_succ])
    refine a0a hOnce (i:=16) (oi:=⟨_,_,_,_,_,_⟩) (v:=?_) rfl (by kernel_rfl) (fun _ _ _ h=>h) (by assumption) (by rfl) (fun w hSw=>?_) ?_
    rotate_left
    ·(try dsimp only at hSw)
     go_simp
     all_goals with_reducible rfl
    (try simp only[Act.put,List.setIfInBounds_toArray,List.set_cons_zero,List.set_cons_succ])
    refine a0a hOnce (i:=17) (oi:=⟨_,_,_,_,_,_⟩) (v:=?_) rfl (by kernel_rfl) (fun _ _ _ h=>h) (by assumption) (by rfl) (fun w hSw=>?_) ?_
    rotate_left
    ·(try dsimp only at hSw)
     go_simp
     all_goals with_reducible rfl
    (try simp only[Act.put,List.setIfInBounds_toArray,List.set_cons_zero,List.set_cons_succ])
    refine a0a hOnce (i:=18) (oi:=⟨_,_,_,_,_,_⟩) (v:=?_) rfl (by kernel_rfl) (fun _ _ _ h=>h) (by assumption) (by rfl) (fun w hSw=>?_) ?_
    rotate_left
    ·(try dsimp only at hSw)
     go_simp
     all_goals with_reducible rfl
    (try simp only[Act.put,List.setIfInBounds_toArray,List.set_cons_zero,List.set_cons_succ])
    refine a0a hOnce (i:=19) (oi:=⟨_,_,_,_,_,_⟩) (v:=?_) rfl (by kernel_rfl) (fun _ _ _ h=>h) (by assumption) (by rfl) (fun w hSw=>?_) ?_
    rotate_left
    ·(try dsimp only at hSw)
     go_simp
     all_goals with_reducible rfl
    (try simp only[Act.put,List.setIfInBounds_toArray,List.set_cons_zero,List.set_cons_succ])
    refine a0a hOnce (i:=20) (oi:=⟨_,_,_,_,_,_⟩) (v:=?_) rfl (by kernel_rfl) (fun _ _ _ h=>h) (by assumption) (by rfl) (fun w hSw=>?_) ?_
    rotate_left
    ·(try dsimp only at hSw)
     go_simp
     all_goals with_reducible rfl
    (try simp only[Act.put,List.setIfInBounds_toArray,List.set_cons_zero,List.set_cons_succ])
    refine a0a hOnce (i:=21) (oi:=⟨_,_,_,_,_,_⟩) (v:=?_) rfl (by kernel_rfl) (fun _ _ _ h=>h) (by assumption) (by rfl) (fun w hSw=>?_) ?_
    rotate_left
    ·(try dsimp only at hSw)
     go_simp
     all_goals with_reducible rfl
    (try simp only[Act.put,List.setIfInBounds_toArray,List.set_cons_zero,List.set_cons_succ])
    refine a0e (i:=22) (o:=⟨_,_,_,_,_,_⟩) (by kernel_rfl) rfl (fun K hK=>?_);go_simp
    ((with_reducible refine(hsn.out wb _ (mkx QC.mono hqed (ga.trans gb))).mono ?_);rintro ee wc ⟨gc,rfl⟩)
    refine hK.out _ _ (hS.out _ (ga.trans (gb.trans gc))) (fun hHeld=>?_);clear hK K
    (try simp only[Act.put,List.setIfInBounds_toArray,List.set_cons_zero,List.set_cons_succ])
    refine a0a hOnce (i:=23) (oi:=⟨_,_,_,_,_,_⟩) (v:=?_) rfl (by kernel_rfl) (fun _ _ _ h=>h) (by assumption) (by rfl) (fun w hSw=>?_) ?_
    rotate_left
    ·(try dsimp only at hSw)
     go_simp
     all_goals with_reducible rfl
    (try simp only[Act.put,List.setIfInBounds_toArray,List.set_cons_zero,List.set_cons_succ])
    refine a0a hOnce (i:=24) (oi:=⟨_,_,_,_,_,_⟩) (v:=?_) rfl (by kernel_rfl) (fun _ _ _ h=>h) (by assumption) (by rfl) (fun w hSw=>?_) ?_
    rotate_left
    ·(try dsimp only at hSw)
     go_simp
     all_goals with_reducible rfl
    (try simp only[Act.put,List.setIfInBounds_toArray,List.set_cons_zero,List.set_cons_succ])
    refine a0k (i:=25) (o:=⟨_,_,_,_,_,_⟩) (by kernel_rfl) rfl (by decide) (by kernel_rfl) (fun K hK=>?_);go_simp
    refine hK.out _ _ ?_;clear hK K;have hE7:=hEo.trans (ga.trans (gb.trans gc));clear hHeld hOnce hS i1 i2 i3 hdd;go_wp2_with fail
    go_roundw
    case rel=>exact⟨j+1,by go_num,by omega,hE7⟩
    case measure=>simp[intOf];omega
   ·clear hC0
    go_wp2_with fail
    refine a0y 25 (fun w'=>w'.cell? (adr tto j)=some (.slice ta n tac)/\w'.cell? ⟨h,3,none⟩=some (.slice ro' n rc)/\w'.cell? ⟨h,1,none⟩=some (.slice uo k uc)/\w'.cell? (adr uo j)=some (.bool true)/\w'.cell? ⟨h,2,none⟩=some (.slice co k cc)/\w'.cell? ⟨ge,oe,none⟩=some (.bool sg)/\w'.cell? ⟨ge,oe+1,none⟩=some (.slice ae ne ce)/\w'.cell? ⟨ge,oe+2,none⟩=some (.slice de ke ee2)) (by kernel_rfl) (by kernel_rfl) (hS.out _ (ExtX.refl _)) (fun hHeld hOnce=>?_);refine a0a hOnce (i:=0) (oi:=⟨_,_,_,_,_,_⟩) (v:=?_) rfl (by kernel_rfl) (fun _ _ _ h=>h) (by assumption) (by rfl) (fun w hSw=>?_) ?_
    rotate_left
    ·(try dsimp only at hSw)
     go_simp
     all_goals with_reducible rfl
    (try simp only[Act.put,List.setIfInBounds_toArray,List.set_cons_zero,List.set_cons_succ])
    refine a0a hOnce (i:=1) (oi:=⟨_,_,_,_,_,_⟩) (v:=?_) rfl (by kernel_rfl) (fun _ _ _ h=>h) (by assumption) (by rfl) (fun w hSw=>?_) ?_
    rotate_left
    ·(try dsimp only at hSw)
     go_simp
     all_goals with_reducible rfl
    (try simp only[Act.put,List.setIfInBounds_toArray,List.set_cons_zero,List.set_cons_succ])
    refine a0a hOnce (i:=2) (oi:=⟨_,_,_,_,_,_⟩) (v:=?_) rfl (by kernel_rfl) (fun _ _ _ h=>h) (by assumption) (by rfl) (fun w hSw=>?_) ?_
    rotate_left
    ·(try dsimp only at hSw)
     go_simp
     all_goals with_reducible rfl
    (try simp only[Act.put,List.setIfInBounds_toArray,List.set_cons_zero,List.set_cons_succ])
    refine a0a hOnce (i:=3) (oi:=⟨_,_,_,_,_,_⟩) (v:=?_) rfl (by kernel_rfl) (fun _ _ _ h=>h) (by assumption) (by rfl) (fun w hSw=>?_) ?_
    rotate_left
    ·(try dsimp only at hSw)
     go_simp
     all_goals with_reducible rfl
    (try simp only[Act.put,List.setIfInBounds_toArray,List.set_cons_zero,List.set_cons_succ])
    refine a0a hOnce (i:=4) (oi:=⟨_,_,_,_,_,_⟩) (v:=?_) rfl (by kernel_rfl) (fun _ _ _ h=>h) (by assumption) (by rfl) (fun w hSw=>?_) ?_
    rotate_left
    ·(try dsimp only at hSw)
     go_simp
     all_goals with_reducible rfl
    (try simp only[Act.put,List.setIfInBounds_toArray,List.set_cons_zero,List.set_cons_succ])
    refine a0a hOnce (i:=5) (oi:=⟨_,_,_,_,_,_⟩) (v:=?_) rfl (by kernel_rfl) (fun _ _ _ h=>h) (by assumption) (by rfl) (fun w hSw=>?_) ?_
    rotate_left
    ·(try dsimp only at hSw)
     go_simp
     all_goals with_reducible rfl
    (try simp only[Act.put,List.setIfInBounds_toArray,List.set_cons_zero,List.set_cons_succ])
    refine a0e (i:=6) (o:=⟨_,_,_,_,_,_⟩) (by kernel_rfl) rfl (fun K hK=>?_);go_simp
    ((with_reducible refine hdd.mono ?_);rintro ee wa ⟨ga,ua,rfl,hua⟩)
    refine hK.out _ _ (hS.out _ ga) (fun hHeld=>?_);clear hK K
    (try simp only[Act.put,List.setIfInBounds_toArray,List.set_cons_zero,List.set_cons_succ])
    refine a0e (i:=7) (o:=⟨_,_,_,_,_,_⟩) (by kernel_rfl) rfl (fun K hK=>?_);go_simp
    ((with_reducible refine(hsn.out wa ua hua).mono ?_);rintro ee wb ⟨gb,rfl⟩)
    refine hK.out _ _ (hS.out _ (ga.trans gb)) (fun hHeld=>?_);clear hK K
    (try simp only[Act.put,List.setIfInBounds_toArray,List.set_cons_zero,List.set_cons_succ])
    refine a0a hOnce (i:=8) (oi:=⟨_,_,_,_,_,_⟩) (v:=?_) rfl (by kernel_rfl) (fun _ _ _ h=>h) (by assumption) (by rfl) (fun w hSw=>?_) ?_
    rotate_left
    ·(try dsimp only at hSw)
     go_simp
     all_goals with_reducible rfl
    (try simp only[Act.put,List.setIfInBounds_toArray,List.set_cons_zero,List.set_cons_succ])
    refine a0a hOnce (i:=9) (oi:=⟨_,_,_,_,_,_⟩) (v:=?_) rfl (by kernel_rfl) (fun _ _ _ h=>h) (by assumption) (by rfl) (fun w hSw=>?_) ?_
    rotate_left
    ·(try dsimp only at hSw)
     go_simp
     all_goals with_reducible rfl
    (try simp only[Act.put,List.setIfInBounds_toArray,List.set_cons_zero,List.set_cons_succ])
    refine a0a hOnce (i:=10) (oi:=⟨_,_,_,_,_,_⟩) (v:=?_) rfl (by kernel_rfl) (fun _ _ _ h=>h) (by assumption) (by rfl) (fun w hSw=>?_) ?_
    rotate_left
    ·(try dsimp only at hSw)
     go_simp
     all_goals with_reducible rfl
    (try simp only[Act.put,List.setIfInBounds_toArray,List.set_cons_zero,List.set_cons_succ])
    refine a0a hOnce (i:=11) (oi:=⟨_,_,_,_,_,_⟩) (v:=?_) rfl (by kernel_rfl) (fun _ _ _ h=>h) (by assumption) (by rfl) (fun w hSw=>?_) ?_
    rotate_left
    ·(try dsimp only at hSw)
     go_simp
     all_goals with_reducible rfl
    (try simp only[Act.put,List.setIfInBounds_toArray,List.set_cons_zero,List.set_cons_succ])
    refine a0a hOnce (i:=12) (oi:=⟨_,_,_,_,_,_⟩) (v:=?_) rfl (by kernel_rfl) (fun _ _ _ h=>h) (by assumption) (by rfl) (fun w hSw=>?_) ?_
    rotate_left
    ·(try dsimp only at hSw)
     go_simp
     all_goals with_reducible rfl
    (try simp only[Act.put,List.setIfInBounds_toArray,List.set_cons_zero,List.set_cons_succ])
    refine a0a hOnce (i:=13) (oi:=⟨_,_,_,_,_,_⟩) (v:=?_) rfl (by kernel_rfl) (fun _ _ _ h=>h) (by assumption) (by rfl) (fun w hSw=>?_) ?_
    rotate_left
    ·(try dsimp only at hSw)
     go_simp
     all_goals with_reducible rfl
    (try simp only[Act.put,List.setIfInBounds_toArray,List.set_cons_zero,List.set_cons_succ])
    refine a0a hOnce (i:=14) (oi:=⟨_,_,_,_,_,_⟩) (v:=?_) rfl (by kernel_rfl) (fun _ _ _ h=>h) (by assumption) (by rfl) (fun w hSw=>?_) ?_
    rotate_left
    ·(try dsimp only at hSw)
     go_simp
     all_goals with_reducible rfl
    (try simp only[Act.put,List.setIfInBounds_toArray,List.set_cons_zero,List.set_cons_succ])
    refine a0a hOnce (i:=15) (oi:=⟨_,_,_,_,_,_⟩) (v:=?_) rfl (by kernel_rfl) (fun _ _ _ h=>h) (by assumption) (by rfl) (fun w hSw=>?_) ?_
    rotate_left
    ·(try dsimp only at hSw)
     go_simp
     all_goals with_reducible rfl
    (try simp only[Act.put,List.setIfInBounds_toArray,List.set_cons_zero,List.set_cons_succ])
    refine a0a hOnce (i:=16) (oi:=⟨_,_,_,_,_,_⟩) (v:=?_) rfl (by kernel_rfl) (fun _ _ _ h=>h) (by assumption) (by rfl) (fun w hSw=>?_) ?_
    rotate_left
    ·(try dsimp only at hSw)
     go_simp
     all_goals with_reducible rfl
    (try simp only[Act.put,List.setIfInBounds_toArray,List.set_cons_zero,List.set_cons_succ])
    refine a1X hOnce (i:=17) (oi:=⟨_,_,_,_,_,_⟩) rfl (by kernel_rfl) (fun _ _ _ h=>h) (by assumption) (by rfl) ?_
    (try simp only[Act.put,List.setIfInBounds_toArray,List.set_cons_zero,List.set_cons_succ])
    refine a1X hOnce (i:=18) (oi:=⟨_,_,_,_,_,_⟩) rfl (by kernel_rfl) (fun _ _ _ h=>h) (by assumption) (by rfl) ?_
    (try simp only[Act.put,List.setIfInBounds_toArray,List.set_cons_zero,List.set_cons_succ])
    refine a1X hOnce (i:=19) (oi:=⟨_,_,_,_,_,_⟩) rfl (by kernel_rfl) (fun _ _ _ h=>h) (by assumption) (by rfl) ?_
    (try simp only[Act.put,List.setIfInBounds_toArray,List.set_cons_zero,List.set_cons_succ])
    refine a1X hOnce (i:=20) (oi:=⟨_,_,_,_,_,_⟩) rfl (by kernel_rfl) (fun _ _ _ h=>h) (by assumption) (by rfl) ?_
    (try simp only[Act.put,List.setIfInBounds_toArray,List.set_cons_zero,List.set_cons_succ])
    refine a1X hOnce (i:=21) (oi:=⟨_,_,_,_,_,_⟩) rfl (by kernel_rfl) (fun _ _ _ h=>h) (by assumption) (by rfl) ?_
    (try simp only[Act.put,List.setIfInBounds_toArray,List.set_cons_zero,List.set_cons_succ])
    refine a1X hOnce (i:=22) (oi:=⟨_,_,_,_,_,_⟩) rfl (by kernel_rfl) (fun _ _ _ h=>h) (by assumption) (by rfl) ?_
    (try simp only[Act.put,List.setIfInBounds_toArray,List.set_cons_zero,List.set_cons_succ])
    refine a1X hOnce (i:=23) (oi:=⟨_,_,_,_,_,_⟩) rfl (by kernel_rfl) (fun _ _ _ h=>h) (by assumption) (by rfl) ?_
    (try simp only[Act.put,List.setIfInBounds_toArray,List.set_cons_zero,List.set_cons_succ])
    refine a0a hOnce (i:=24) (oi:=⟨_,_,_,_,_,_⟩) (v:=?_) rfl (by kernel_rfl) (fun _ _ _ h=>h) (by assumption) (by rfl) (fun w hSw=>?_) ?_
    rotate_left
    ·(try dsimp only at hSw)
     go_simp
     all_goals with_reducible rfl
    (try simp only[Act.put,List.setIfInBounds_toArray,List.set_cons_zero,List.set_cons_succ])
    refine a0k (i:=25) (o:=⟨_,_,_,_,_,_⟩) (by kernel_rfl) rfl (by decide) (by kernel_rfl) (fun K hK=>?_);go_simp
    refine hK.out _ _ ?_;clear hK K;have hE7:=hEo.trans (ga.trans gb);clear hHeld hOnce hS i1 i2 i3 hdd;go_wp2_with fail
    go_roundw
    case rel=>exact⟨j+1,by go_num,by omega,hE7⟩
    case measure=>simp[intOf];omega
  ·have hin:j=k:=by omega
   subst hin;have b0:=v4.ext0 hEr;have q2:=b0.cell 2 rfl;go_wp2_with fail
   have hre:=hres.out wr _ (mkx MC.mono hx4 hEr) (mkx RC.mono hy4 hEr) (mkx RC.mono hco'.out hEr);refine hre.mono ?_;rintro ee w5 ⟨hE5,z,rfl,hz⟩;have hEd:Ext w5 w5.drew:=(ExtX.refl w5).drew;have hEo:=hEr.trans (hE5.trans hEd);have hS:Hid (∀w',Ext w5.drew w'->w'.cell? ⟨h,3,none⟩=some (.slice ro' n rc)/\w'.cell? ⟨h,4,none⟩=some (.bool s)/\w'.cell? ⟨h,5,none⟩=some (.slice a nn c)/\w'.cell? ⟨h,6,none⟩=some (.slice d k' e)):=hid fun w' hw=>by
    have b9:=v4.ext0 (hEo.trans hw);exact⟨b9.cell 3 rfl,b9.cell 4 rfl,b9.cell 5 rfl,b9.cell 6 rfl⟩
   have hEf:=hEw4.trans hEo;have hzd:=mkx RC.mono hz hEd;have hrod:=mkx RC.mono hro'.out hEo;have hrsd:=mkx QC.mono hrs4 hEo;clear q2 b0 hre hz hEo;go_wp2_with fail
   refine a0y 15 (fun w'=>w'.cell? ⟨h,3,none⟩=some (.slice ro' n rc)/\w'.cell? ⟨h,4,none⟩=some (.bool s)/\w'.cell? ⟨h,5,none⟩=some (.slice a nn c)/\w'.cell? ⟨h,6,none⟩=some (.slice d k' e)) (by kernel_rfl) (by kernel_rfl) (hS.out _ (ExtX.refl _)) (fun hHeld hOnce=>?_);obtain⟨wd,hwd⟩:∃wd,w5.drew=wd:=⟨_,rfl⟩;rw[hwd]at hS hEf hzd hrod hrsd |-
   (try rw[hwd]at hHeld)
   clear hwd hEd;refine a0e (i:=0) (o:=⟨_,_,_,_,_,_⟩) (by kernel_rfl) rfl (fun K hK=>?_);go_simp
   (go_at_call 44;(with_reducible refine(a4e wd).mono ?_);rintro ee wa ⟨ga,rfl⟩)
   refine hK.out _ _ (hS.out _ ga) (fun hHeld=>?_);clear hK K
   (try simp only[Act.put,List.setIfInBounds_toArray,List.set_cons_zero,List.set_cons_succ])
   refine a0a hOnce (i:=1) (oi:=⟨_,_,_,_,_,_⟩) (v:=?_) rfl (by kernel_rfl) (fun _ _ _ h=>h) (by assumption) (by rfl) (fun w hSw=>?_) ?_
   rotate_left
   ·(try dsimp only at hSw)
    go_simp
    all_goals with_reducible rfl
   (try simp only[Act.put,List.setIfInBounds_toArray,List.set_cons_zero,List.set_cons_succ])
   refine a0a hOnce (i:=2) (oi:=⟨_,_,_,_,_,_⟩) (v:=?_) rfl (by kernel_rfl) (fun _ _ _ h=>h) (by assumption) (by rfl) (fun w hSw=>?_) ?_
   rotate_left
   ·(try dsimp only at hSw)
    go_simp
    all_goals with_reducible rfl
   (try simp only[Act.put,List.setIfInBounds_toArray,List.set_cons_zero,List.set_cons_succ])
   refine a0a hOnce (i:=3) (oi:=⟨_,_,_,_,_,_⟩) (v:=?_) rfl (by kernel_rfl) (fun _ _ _ h=>h) (by assumption) (by rfl) (fun w hSw=>?_) ?_
   rotate_left
   ·(try dsimp only at hSw)
    go_simp
    all_goals with_reducible rfl
   (try simp only[Act.put,List.setIfInBounds_toArray,List.set_cons_zero,List.set_cons_succ])
   refine a0a hOnce (i:=4) (oi:=⟨_,_,_,_,_,_⟩) (v:=?_) rfl (by kernel_rfl) (fun _ _ _ h=>h) (by assumption) (by rfl) (fun w hSw=>?_) ?_
   rotate_left
   ·(try dsimp only at hSw)
    go_simp
    all_goals with_reducible rfl
   (try simp only[Act.put,List.setIfInBounds_toArray,List.set_cons_zero,List.set_cons_succ])
   have hl1:=hsl.out wa _ _ (mkx RC.mono hzd ga) (mkx RC.mono hrod ga);refine a0e (i:=5) (o:=⟨_,_,_,_,_,_⟩) (by kernel_rfl) rfl (fun K hK=>?_);go_simp
   ((with_reducible refine hl1.mono ?_);rintro ee wb ⟨gb,rfl⟩)
   refine hK.out _ _ (hS.out _ (ga.trans gb)) (fun hHeld=>?_);clear hK K
   (try simp only[Act.put,List.setIfInBounds_toArray,List.set_cons_zero,List.set_cons_succ])
   refine a0a hOnce (i:=6) (oi:=⟨_,_,_,_,_,_⟩) (v:=?_) rfl (by kernel_rfl) (fun _ _ _ h=>h) (by assumption) (by rfl) (fun w hSw=>?_) ?_
   rotate_left
   ·(try dsimp only at hSw)
    go_simp
    all_goals with_reducible rfl
   (try simp only[Act.put,List.setIfInBounds_toArray,List.set_cons_zero,List.set_cons_succ])
   refine a0a hOnce (i:=7) (oi:=⟨_,_,_,_,_,_⟩) (v:=?_) rfl (by kernel_rfl) (fun _ _ _ h=>h) (by assumption) (by rfl) (fun w hSw=>?_) ?_
   rotate_left
   ·(try dsimp only at hSw)
    go_simp
    all_goals with_reducible rfl
   (try simp only[Act.put,List.setIfInBounds_toArray,List.set_cons_zero,List.set_cons_succ])
   refine a0a hOnce (i:=8) (oi:=⟨_,_,_,_,_,_⟩) (v:=?_) rfl (by kernel_rfl) (fun _ _ _ h=>h) (by assumption) (by rfl) (fun w hSw=>?_) ?_
   rotate_left
   ·(try dsimp only at hSw)
    go_simp
    all_goals with_reducible rfl
   (try simp only[Act.put,List.setIfInBounds_toArray,List.set_cons_zero,List.set_cons_succ])
   refine a0a hOnce (i:=9) (oi:=⟨_,_,_,_,_,_⟩) (v:=?_) rfl (by kernel_rfl) (fun _ _ _ h=>h) (by assumption) (by rfl) (fun w hSw=>?_) ?_
   rotate_left
   ·(try dsimp only at hSw)
    go_simp
    all_goals with_reducible rfl
   (try simp only[Act.put,List.setIfInBounds_toArray,List.set_cons_zero,List.set_cons_succ])
   refine a0a hOnce (i:=10) (oi:=⟨_,_,_,_,_,_⟩) (v:=?_) rfl (by kernel_rfl) (fun _ _ _ h=>h) (by assumption) (by rfl) (fun w hSw=>?_) ?_
   rotate_left
   ·(try dsimp only at hSw)
    go_simp
    all_goals with_reducible rfl
   (try simp only[Act.put,List.setIfInBounds_toArray,List.set_cons_zero,List.set_cons_succ])
   refine a0a hOnce (i:=11) (oi:=⟨_,_,_,_,_,_⟩) (v:=?_) rfl (by kernel_rfl) (fun _ _ _ h=>h) (by assumption) (by rfl) (fun w hSw=>?_) ?_
   rotate_left
   ·(try dsimp only at hSw)
    go_simp
    all_goals with_reducible rfl
   (try simp only[Act.put,List.setIfInBounds_toArray,List.set_cons_zero,List.set_cons_succ])
   have hd1:=hdot2.out wb _ (mkx RC.mono hzd (ga.trans gb));refine a0e (i:=12) (o:=⟨_,_,_,_,_,_⟩) (by kernel_rfl) rfl (fun K hK=>?_);go_simp
   ((with_reducible refine hd1.mono ?_);rintro ee wc ⟨gc,uc1,rfl,huc1⟩)
   refine hK.out _ _ (hS.out _ (ga.trans (gb.trans gc))) (fun hHeld=>?_);clear hK K
   (try simp only[Act.put,List.setIfInBounds_toArray,List.set_cons_zero,List.set_cons_succ])
   have hs1:=hsm.out wc _ _ (mkx QC.mono hrsd (ga.trans (gb.trans gc))) huc1;refine a0e (i:=13) (o:=⟨_,_,_,_,_,_⟩) (by kernel_rfl) rfl (fun K hK=>?_);go_simp
   ((with_reducible refine hs1.mono ?_);rintro ee we ⟨ge,rfl⟩)
   refine hK.out _ _ (hS.out _ (ga.trans (gb.trans (gc.trans ge)))) (fun hHeld=>?_);clear hK K
   (try simp only[Act.put,List.setIfInBounds_toArray,List.set_cons_zero,List.set_cons_succ])
   refine a0a hOnce (i:=14) (oi:=⟨_,_,_,_,_,_⟩) (v:=?_) rfl (by kernel_rfl) (fun _ _ _ h=>h) (by assumption) (by rfl) (fun w hSw=>?_) ?_
   rotate_left
   ·(try dsimp only at hSw)
    go_simp
    all_goals with_reducible rfl
   (try simp only[Act.put,List.setIfInBounds_toArray,List.set_cons_zero,List.set_cons_succ])
   refine a0k (i:=15) (o:=⟨_,_,_,_,_,_⟩) (by kernel_rfl) rfl (by decide) (by kernel_rfl) (fun K hK=>?_);go_simp
   refine hK.out _ _ ?_;clear hK K;go_wp2_with fail
   go_ret
   exact⟨hEf.trans (ga.trans (gb.trans (gc.trans ge))),rfl⟩
end Go.Proofs.YtkddecjkfdogiaaGreat
