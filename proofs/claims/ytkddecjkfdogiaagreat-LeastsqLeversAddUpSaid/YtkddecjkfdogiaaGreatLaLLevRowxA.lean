/- law 13: LeastsqLeversAddUp returns true. Conditions: none but Go's own. -/
import Derived.Test.YtkddecjkfdogiaaGreatLaN
namespace Go.Lin
open Go.Lim Go.Rep
theorem b5s {q:Rat} (h:0<=q):¬q.num.sign<0:=by
 have h1:=b3W q 0;rw[show q - 0=q by rw[Rat.sub_eq_add_neg];simp[Rat.add_zero]]at h1;rw[h1];exact Rat.not_lt.2 h
end Go.Lin
namespace Go.Proofs.YtkddecjkfdogiaaGreat
open Go.RowKit Go.Rep Go.Lim Go.Lin
set_option maxRecDepth 100000 in
set_option maxHeartbeats 3200000 in
theorem b0e (w:World) (N K:Int) (ones:Bool) (ro:Option Addr) (raw:List Int) (rcap:Nat) (hs:Sl (a1J .i64) 1 (mk noY w) ro raw) (hraw:∀x∈raw,-9223372036854775808<=x/\x<=9223372036854775807):
  Calls Tryz.prog 7 #[.agg #[.int .i64 N, .int .i64 K, .bool ones, .slice ro raw.length rcap]] w (a7S w true):=by
 have hnoX:∀v:World,HX noY v:=fun v=>HX.none v;have m1:=Int.emod_nonneg (wrap64 (N - 1)) (show(6:Int)≠0 by omega);have m2:=Int.emod_lt_of_pos (wrap64 (N - 1)) (show(0:Int)<6 by omega);have m3:=Int.emod_nonneg (wrap64 (K - 1)) (show(4:Int)≠0 by omega);have m4:=Int.emod_lt_of_pos (wrap64 (K - 1)) (show(0:Int)<4 by omega);obtain⟨n,hn⟩:=Int.eq_ofNat_of_zero_le (show 0<=1+wrap64 (N - 1)%6 by omega);obtain⟨k,hk⟩:=Int.eq_ofNat_of_zero_le (show 0<=1+wrap64 (K - 1)%4 by omega);have hn16:1<=n/\n<=6:=by omega
 have hk14:1<=k/\k<=4:=by omega
 obtain⟨hsh,hcol,hxB,hyB,hyl,hfo,hok⟩:=a5P ones n k raw hn16.1 (by omega) hk14.1 hk14.2;obtain⟨W,hW,hE,b0,hz⟩:=a1t w #[.int .i64 N, .int .i64 K, .bool ones, .slice ro raw.length rcap] 69;have hTab:Calls Tryz.prog 38 #[.agg #[.int .i64 N, .int .i64 K, .bool ones, .slice ro raw.length rcap], .int .i64 6, .int .i64 4] W (a7R noY W (a7U ones n k raw) (a9w ones n k raw)):=a5O noY W N K ones ro raw rcap 6 4 n k (hnoX W) (hs.mono (a1J.mono _) (a0q hE)) hraw (by decide) (by decide) (by decide) (by decide) hn hk;obtain⟨b,hb⟩:∃b,w.heap.size=b:=⟨_,rfl⟩;rw[hb]at b0 hz;obtain⟨x,hx⟩:∃x,a7U ones n k raw=x:=⟨_,rfl⟩;obtain⟨y,hy⟩:∃y,a9w ones n k raw=y:=⟨_,rfl⟩;rw[hx]at hsh hcol hxB hfo hok hTab;rw[hy]at hyB hyl hok hTab;have p0:=b0.cell 0 rfl;have p1:=b0.cell 1 rfl;have p2:=b0.cell 2 rfl;have p3:=b0.cell 3 rfl;have hn1:=hn16.1;have hn6:=hn16.2;have hk1:=hk14.1;have hk4:=hk14.2;have hxl:Hid (x.length=n):=hid hsh.1;have hxB':=hid (show BM 68719476736 x from fun r hr q hq=>Nat.le_trans (hxB r hr q hq) (by decide));have hyB':=hid (show BR 68719476736 y from fun q hq=>Nat.le_trans (hyB q hq) (by decide));have hyl':=hid hyl;have hfit:=hid fun w' u v (hu:MC (mk noY w') u x) (hv:RC (mk noY w') v y)=>a7d noY w' u v x y n k 2 (hnoX w') (hu.mv hxB'.out) (hv.rv hyB'.out) hok hsh.1 hcol (by omega) hk4 hxB hyB (by decide) (by decide);clear m1 m2 m3 m4 hn hk hx hy hn16 hk14 hs hraw;go_enter Tryz.func7,Tryz.ntmps7
 go_wp2_with fail
 refine hTab.mono ?_;rintro ee w1 ⟨hE1,xv,yv,rfl,hxv,hyv⟩;clear p0 p1 p2 p3 hTab;have hf1:=hfit.out w1 xv yv hxv hyv;go_wp2_with fail
 refine hf1.mono ?_;rintro ee w2 ⟨hE2,fv,rfl,hfv⟩;clear hf1;have bnd1:=b1A (u:=pkL x (a0K x k).2) (n:=n) (m:=(a0K x k).2.length) (B:=2) (a4O hsh _) (a9p hxB (by decide)) (by omega) (Nat.le_trans (a5I hsh) hk4) (by decide) (by decide);have bnd2:=a6W (y:=y) (n:=n) (c:=k) (a5F hxB (by decide)) hyB (by omega) hk4 (by decide);have bnd3:=a6X hsh hxB hyB bnd2 (by decide) hk4 (by decide);obtain⟨uo,uc,co,cl,cc,ro',rl,rc,s,a,nn,c,d,k',e,lo,ll,lc,rfl,huc,hus,hco,hro,hrs,hlv⟩:=hfv;have f1:(a5i x y n k).rank=(a0K x k).2.length:=rfl;have f2:(a5i x y n k).used=usedL (a0K x k).2 k:=rfl;have f3:(a5i x y n k).coef=a0Q x y n k:=rfl;have f4:(a5i x y n k).res=a1R x y (a0Q x y n k):=rfl;have f5:(a5i x y n k).rss=a2k (a1R x y (a0Q x y n k)) (a1R x y (a0Q x y n k)):=rfl;have f6:(a5i x y n k).lev=a3R (pkL x (a0K x k).2) n (a0K x k).2.length:=rfl;rw[f2,a1H]at huc;rw[f2]at hus;rw[f3]at hco;rw[f4]at hro;rw[f5]at hrs;rw[f6]at hlv;rw[f1,f2,a1H];have hcl:(a0Q x y n k).length=cl:=by obtain⟨_,_,h,_⟩:=hco;simp at h;exact h.2.1.symm
 have hrl:(a1R x y (a0Q x y n k)).length=rl:=by obtain⟨_,_,h,_⟩:=hro;simp at h;exact h.2.1.symm
 have hll:(a3R (pkL x (a0K x k).2) n (a0K x k).2.length).length=ll:=by obtain⟨_,_,h,_⟩:=hlv;simp at h;exact h.2.1.symm
 rw[a2G]at hcl;rw[a2i (by rw[hyl,hsh.1]),hsh.1]at hrl;rw[a3j,a4N,hsh.1]at hll;subst hcl hrl hll;have bf:=Bx.new w2 #[.int .i64 0, .slice none 0 0, .slice none 0 0, .slice none 0 0, .bool false, .slice none 0 0, .slice none 0 0, .slice none 0 0] 63;clear f1 f2 f3 f4 f5 f6;have hT:=(a6k hsh (a5F hxB (by decide)) hk4 (by decide)).2;have hrk:=hid fun w' (h:MC (mk noY w') xv x)=>b3b noY w' xv x n k (hnoX w') (h.mv hxB'.out) hfo hsh.1 hcol hT;simp only[a4w]at hrk;have hrange:=hid fun i (hi:i<n)=>b1l hsh hk4 hi;have hsum:=b5a hsh hk4;rw[b5b]at hsum;have hLl:(a3R (pkL x (a0K x k).2) n (a0K x k).2.length).length=n:=by rw[a3j,a4N,hsh.1]
 have hpl4:(a0K x k).2.length<=4:=Nat.le_trans (a5I hsh) hk4;obtain⟨pl,hpl⟩:∃pl,(a0K x k).2.length=pl:=⟨_,rfl⟩;rw[hpl]at hrk hrange hsum hLl hlv bnd1 hpl4 |-;obtain⟨L,hL⟩:∃L,a3R (pkL x (a0K x k).2) n pl=L:=⟨_,rfl⟩;rw[hL]at hrange hsum hLl hlv bnd1;have hxv':=hid hxv;obtain⟨xo,xc,rfl,hxc,hxs⟩:=hxv;rw[hxl.out]at hrk hxv' |-;have hLi:=hid fun i (hi:i<n)=>(show fn L i=L[i]'(by omega)by unfold fn;rw[List.getD_eq_getElem?_getD,List.getElem?_eq_getElem (by omega)];rfl);have hsg:=hid fun i (hi:i<n)=>(by rw[<-hLi.out i hi];exact b5s (hrange.out i hi).1:¬(L[i]'(by omega)).num.sign<0);have hls:=hid fun i (hi:i<n)=>(by rw[<-hLi.out i hi];exact decide_eq_false (Rat.not_lt.2 (hrange.out i hi).2):decide (1<L[i]'(by omega))=false);have hSb:=hid fun i (hi:i<=n)=>(by
  have h1:=a9P (n:=i) (B:=140000000) (f:=fn L) fun j hj=>b2Y bnd1 (by decide) j;have h2:i*(140000000+1)<=6*140000001:=Nat.mul_le_mul (by omega) (Nat.le_refl _);omega:hq (sm i (fn L))<=68719476736)
 have hLb:=hid fun i (hi:i<n)=>(Nat.le_trans (bnd1 (L[i]'(by omega)) (List.getElem_mem _)) (by decide):hq (L[i]'(by omega))<=140000000);have hsum':=hid hsum;clear hL hpl hrange hsum bnd1 bnd2 bnd3 hT hfit hok hfo hyB hyl hxB hcol hsh hus hco hro hrs hxB' hyB' hxs;go_wp2_with ((show wpList _ _ _ (⟨_, .store _ _ _,_,_,_,_⟩::_) _ _);first
  |(refine a0d a8m rfl rfl bf rfl rfl (by intro v hv;simp at hv;rcases hv with rfl|rfl|rfl|rfl|rfl|rfl|rfl|rfl<;>rfl) ?_;intro w3 v1 v2))
 have hE3:Ext w2 w3:=ExtX.box ((ExtX.refl w2).alloc _) v2 (Nat.le_refl _);obtain⟨h,hh⟩:∃h,w2.heap.size=h:=⟨_,rfl⟩;rw[hh]at v1 v2 |-;refine(hrk.out w3 (mkx MC.mono hxv'.out (hE2.trans hE3))).mono ?_;rintro ee w4 ⟨hE4,rfl⟩;have v4:=v1.ext0 hE4;have q0:=v4.cell 0 rfl;have q7:=v4.cell 7 rfl;have bs:=Bx.new w4 #[.bool false, .slice none 0 0, .slice none 0 0] 32;go_wp2_with ((show wpList _ _ _ (⟨_, .store _ _ _,_,_,_,_⟩::_) _ _);refine a0d a0v rfl rfl bs rfl rfl (a2S _ _ _ _ _ _ _) ?_;intro w5 y1 y2)
 obtain⟨g,hg⟩:∃g,w4.heap.size=g:=⟨_,rfl⟩;have zG:(w4.alloc (.cells #[.bool false, .slice none 0 0, .slice none 0 0] 32)).heap.size=g+1:=by rw[<-hg];simp
 have eG:Ext w4 (w4.alloc (.cells #[.bool false, .slice none 0 0, .slice none 0 0] 32)):=(ExtX.refl _).alloc _;have v5:=(v4.ext0 eG).ext y2 (a0c (by have:=v4.lt;omega));have hgw:w4.heap.size<=g:=by omega
 rw[hg]at y1 y2 |-;have hE5:Ext w4 w5:=ExtX.box eG y2 hgw;have hg5:g<w5.heap.size:=by have:=y2.size;omega
 have hhg:h≠g:=by have:=v4.lt;omega
 obtain⟨Z,hZ⟩:∃Z,un noY (some ⟨g,0,none⟩)=Z:=⟨_,rfl⟩;have hXZ:HX Z w5:=by rw[<-hZ];exact a1A (hnoX w5|>.ext (ExtX.refl (Y:=noY) w5)) hg5
 have hZg:∀q,ob (some ⟨g,0,none⟩) q=true->Z q=true:=fun q hq=>by rw[<-hZ];exact a0s hq
 have hle:Le (mk noY w4) (mk Z w5):=by rw[<-hZ];exact a1L hE5 hgw
 have hlv5:=RC.mono _ _ _ _ hle (mkx RC.mono hlv (hE3.trans hE4));have hxv5:=MC.mono _ _ _ _ hle (mkx MC.mono hxv'.out (hE2.trans (hE3.trans hE4)));obtain⟨lo',lc',heq,hlc,hlsl⟩:=id hlv5;simp only[Value.slice.injEq]at heq;obtain⟨rfl,-,rfl⟩:=heq;have hhl:Hd lo n:=by have:=hlsl.hd;rw[hLl]at this;exact this
 have hw0g:w.heap.size<=g:=by have:=hE.size;have:=hE1.size;have:=hE2.size;have:=hE3.size;have:=hE4.size;omega
 have hEw5:Ext w w5:=hE.trans (hE1.trans (hE2.trans (hE3.trans (hE4.trans hE5))));clear q0 q7 v1 v2 bf bs v4 zG eG hE3 hE4 hE2 hlv hrk hZ hxv';go_loopw [10] (fun kv wr=>∃(i:Nat) (s6:Bool) (a6:Option Addr) (n6 c6:Nat) (d6:Option Addr) (k6 e6:Nat),kv= .int .i64 i/\i<=n/\Bx wr g #[.bool s6, .slice a6 n6 c6, .slice d6 k6 e6] 32/\QC (mk Z wr) (.agg #[.bool s6, .slice a6 n6 c6, .slice d6 k6 e6]) (sm i (fn L))/\ExtX (ob (some ⟨g,0,none⟩)) w5 wr) (fun kv _=>n - (intOf kv).toNat)
 case atStart=>exact⟨0,false,none,0,0,none,0,0,rfl,Nat.zero_le _,y1,QC.zero _,ExtX.refl _⟩
 case round=>
  obtain⟨i,s6,a6,n6,c6,d6,k6,e6,rfl,hi,hbx,hq6,hEr⟩:=hrel;have hle6:=a0H hEr hZg;have hXr:HX Z wr:=a2p hXZ hEr.size;by_cases hlt:i<n
  ·have hiL:i<L.length:=by omega
   have hEd:Ext wr wr.drew:=(ExtX.refl wr).drew;obtain⟨ge,oe,sg,ae,ne,ce,de,ke,ee2,hadr,hZe,hce,hqe⟩:=(hlsl.mono QC.mono hle6).rat QC.shaped i hiL;have hge:ge≠g:=fun h0=>by subst h0;rw[hZg ge (by simp[ob])]at hZe;simp at hZe
   have vr:=v5.ext hEr (a0c (by omega));have i2:∀w',(Instr.indexAt 45 (.slice lo n lc) (.int .i64 (i:Int))).run Tryz.prog w'= .ok (.pointer (some ⟨ge,oe,none⟩)) w':=by rw[<-hadr];exact a0i a0B lo n lc .i64 i hhl hlt
   have hS:Hid (∀w',Ext wr.drew w'->w'.cell? ⟨h,7,none⟩=some (.slice lo n lc)/\w'.cell? ⟨ge,oe,none⟩=some (.bool sg)/\w'.cell? ⟨ge,oe+1,none⟩=some (.slice ae ne ce)/\w'.cell? ⟨ge,oe+2,none⟩=some (.slice de ke ee2)):=hid fun w' hw=>by
    have b9:=vr.ext0 (hEd.trans hw);obtain⟨z1,z2,z3⟩:=hce.out noY w' (hEd.trans hw) rfl;exact⟨b9.cell 7 rfl,z1,z2,z3⟩
   have hqd:=mkx QC.mono hqe hEd;obtain⟨E,hE'⟩:∃E,L[i]=E:=⟨_,rfl⟩;have hEs:=hsg.out i hlt;have hEl:=hls.out i hlt;have hEb:=hLb.out i hlt;have hfE:=hLi.out i hlt;rw[hE']at hqe hqd hEs hEl hEb hfE;have hsm:Hid (sm i (fn L)+E=sm (i+1) (fn L)):=hid (by rw[<-hfE];rfl);obtain⟨z,hz⟩:∃z,E.num.sign=z:=⟨_,rfl⟩;rw[hz]at hEs;have hsn:=hid fun w' (h1:HX Z w') (h:QC (mk Z w') (.agg #[.bool sg, .slice ae ne ce, .slice de ke ee2]) E)=>a7y Z w' _ E h1 (h.qv (Nat.le_trans hEb (by decide)));rw[hz]at hsn;have hln:=hid fun w' u (h1:HX Z w') (h:QC (mk Z w') u ((1:Int):Rat)) (h2:QC (mk Z w') (.agg #[.bool sg, .slice ae ne ce, .slice de ke ee2]) E)=>(by
    have e1:((1:Int):Rat)=1:=by decide+kernel
    rw[e1]at h;have h9:=b3Y Z w' u _ 1 E h1 (h.qv (Nat.le_trans b1P (by decide))) (h2.qv (Nat.le_trans hEb (by decide))) (by have:=a7r 1 E;have:=b1P;omega);rw[hEl]at h9;exact h9:Calls Tryz.prog 47 #[u, .agg #[.bool sg, .slice ae ne ce, .slice de ke ee2]] w' (a7S w' false))
   have hbd:=hbx;clear hz hE' hce hZe hadr hEl hfE hqe;go_wp2_with fail
   refine a0y 15 (fun w'=>w'.cell? ⟨h,7,none⟩=some (.slice lo n lc)/\w'.cell? ⟨ge,oe,none⟩=some (.bool sg)/\w'.cell? ⟨ge,oe+1,none⟩=some (.slice ae ne ce)/\w'.cell? ⟨ge,oe+2,none⟩=some (.slice de ke ee2)) (by kernel_rfl) (by kernel_rfl) (hS.out _ (ExtX.refl _)) (fun hHeld hOnce=>?_);refine a0a hOnce (i:=0) (oi:=⟨_,_,_,_,_,_⟩) (v:=?_) rfl (by kernel_rfl) (fun _ _ _ h=>h) (by assumption) (by rfl) (fun w hSw=>?_) ?_
   rotate_left
   ·(try dsimp only at hSw)
    go_simp
    all_goals with_reducible rfl
   (try simp only[Act.put,List.setIfInBounds_toArray,List.set_cons_zero,List.set_cons_succ])
   refine a0a hOnce (i:=1) (oi:=⟨_,_,_,_,_,_⟩) (v:=?_) rfl (by kernel_rfl) (fun _ _ _ h=>h) (by assumption) (by rfl) (fun w hSw=>?_) ?_
   rotate_left
   ·(try dsimp only at hSw)
    go_simp
    all_goals with_reducible rfl
   (try simp only[Act.put,List.setIfInBounds_toArray,List.set_cons_zero,List.set_cons_succ])
   refine a0a hOnce (i:=2) (oi:=⟨_,_,_,_,_,_⟩) (v:=?_) rfl (by kernel_rfl) (fun _ _ _ h=>h) (by assumption) (by rfl) (fun w hSw=>?_) ?_
   rotate_left
   ·(try dsimp only at hSw)
    go_simp
    all_goals with_reducible rfl
   (try simp only[Act.put,List.setIfInBounds_toArray,List.set_cons_zero,List.set_cons_succ])
   refine a0a hOnce (i:=3) (oi:=⟨_,_,_,_,_,_⟩) (v:=?_) rfl (by kernel_rfl) (fun _ _ _ h=>h) (by assumption) (by rfl) (fun w hSw=>?_) ?_
   rotate_left
   ·(try dsimp only at hSw)
    go_simp
    all_goals with_reducible rfl
   (try simp only[Act.put,List.setIfInBounds_toArray,List.set_cons_zero,List.set_cons_succ])
   refine a0a hOnce (i:=4) (oi:=⟨_,_,_,_,_,_⟩) (v:=?_) rfl (by kernel_rfl) (fun _ _ _ h=>h) (by assumption) (by rfl) (fun w hSw=>?_) ?_
   rotate_left
   ·(try dsimp only at hSw)
    go_simp
    all_goals with_reducible rfl
   (try simp only[Act.put,List.setIfInBounds_toArray,List.set_cons_zero,List.set_cons_succ])
   refine a0e (i:=5) (o:=⟨_,_,_,_,_,_⟩) (by kernel_rfl) rfl (fun K hK=>?_);go_simp
   ((with_reducible refine(hsn.out wr.drew (hXr.ext hEd) hqd).mono ?_);rintro ee wa ⟨ga,rfl⟩)
   refine hK.out _ _ (hS.out _ ga) (fun hHeld=>?_);clear hK K
   (try simp only[Act.put,List.setIfInBounds_toArray,List.set_cons_zero,List.set_cons_succ])
   refine a0a hOnce (i:=6) (oi:=⟨_,_,_,_,_,_⟩) (v:=(.bool false)) rfl (by kernel_rfl) (fun _ _ _ h=>h) (by assumption) (by rfl) (fun w hSw=>?_) ?_
   ·(try dsimp only at hSw)
    go_simp
    all_goals omega
   (try simp only[Act.put,List.setIfInBounds_toArray,List.set_cons_zero,List.set_cons_succ])
   refine a0a hOnce (i:=7) (oi:=⟨_,_,_,_,_,_⟩) (v:=?_) rfl (by kernel_rfl) (fun _ _ _ h=>h) (by assumption) (by rfl) (fun w hSw=>?_) ?_
   rotate_left
   ·(try dsimp only at hSw)
    go_simp
    all_goals with_reducible rfl
   (try simp only[Act.put,List.setIfInBounds_toArray,List.set_cons_zero,List.set_cons_succ])
   refine a0a hOnce (i:=9) (oi:=⟨_,_,_,_,_,_⟩) (v:=?_) rfl (by kernel_rfl) (fun _ _ _ h=>h) (by assumption) (by rfl) (fun w hSw=>?_) ?_
   rotate_left
   ·(try dsimp only at hSw)
    go_simp
    all_goals with_reducible rfl
   (try simp only[Act.put,List.setIfInBounds_toArray,List.set_cons_zero,List.set_cons_succ])
   refine a0a hOnce (i:=10) (oi:=⟨_,_,_,_,_,_⟩) (v:=?_) rfl (by kernel_rfl) (fun _ _ _ h=>h) (by assumption) (by rfl) (fun w hSw=>?_) ?_
   rotate_left
   ·(try dsimp only at hSw)
    go_simp
    all_goals with_reducible rfl
   (try simp only[Act.put,List.setIfInBounds_toArray,List.set_cons_zero,List.set_cons_succ])
   refine a0a hOnce (i:=11) (oi:=⟨_,_,_,_,_,_⟩) (v:=?_) rfl (by kernel_rfl) (fun _ _ _ h=>h) (by assumption) (by rfl) (fun w hSw=>?_) ?_
   rotate_left
   ·(try dsimp only at hSw)
    go_simp
    all_goals with_reducible rfl
   (try simp only[Act.put,List.setIfInBounds_toArray,List.set_cons_zero,List.set_cons_succ])
   refine a0a hOnce (i:=12) (oi:=⟨_,_,_,_,_,_⟩) (v:=?_) rfl (by kernel_rfl) (fun _ _ _ h=>h) (by assumption) (by rfl) (fun w hSw=>?_) ?_
   rotate_left
   ·(try dsimp only at hSw)
    go_simp
    all_goals with_reducible rfl
   (try simp only[Act.put,List.setIfInBounds_toArray,List.set_cons_zero,List.set_cons_succ])
   refine a0a hOnce (i:=13) (oi:=⟨_,_,_,_,_,_⟩) (v:=?_) rfl (by kernel_rfl) (fun _ _ _ h=>h) (by assumption) (by rfl) (fun w hSw=>?_) ?_
   rotate_left
   ·(try dsimp only at hSw)
    go_simp
    all_goals with_reducible rfl
   (try simp only[Act.put,List.setIfInBounds_toArray,List.set_cons_zero,List.set_cons_succ])
   refine a0e (i:=8) (o:=⟨_,_,_,_,_,_⟩) (by kernel_rfl) rfl (fun K hK=>?_);go_simp
   (go_at_call 48;(with_reducible refine(a3D Z wa 1 (hXr.ext (hEd.trans ga)) (by decide) (by decide)).mono ?_);rintro ee wb ⟨gb,ub,rfl,hub⟩)
   refine hK.out _ _ (hS.out _ (ga.trans gb)) (fun hHeld=>?_);clear hK K
   (try simp only[Act.put,List.setIfInBounds_toArray,List.set_cons_zero,List.set_cons_succ])
   have hl9:=hln.out wb ub (hXr.ext (hEd.trans (ga.trans gb))) hub (mkx QC.mono hqd (ga.trans gb));refine a0e (i:=14) (o:=⟨_,_,_,_,_,_⟩) (by kernel_rfl) rfl (fun K hK=>?_);go_simp
   ((with_reducible refine hl9.mono ?_);rintro ee wc ⟨gc,rfl⟩)
   refine hK.out _ _ (hS.out _ (ga.trans (gb.trans gc))) (fun hHeld=>?_);clear hK K
   (try simp only[Act.put,List.setIfInBounds_toArray,List.set_cons_zero,List.set_cons_succ])
   refine a0k (i:=15) (o:=⟨_,_,_,_,_,_⟩) (by kernel_rfl) rfl (by decide) (by kernel_rfl) (fun K hK=>?_);go_simp
   refine hK.out _ _ ?_;clear hK K;have GE:=ga.trans (gb.trans gc);have hEc:Ext wc wc.drew:=(ExtX.refl wc).drew;have hS2:Hid (∀w',Ext wc.drew w'->(w'.cell? ⟨h,7,none⟩=some (.slice lo n lc)/\w'.cell? ⟨ge,oe,none⟩=some (.bool sg)/\w'.cell? ⟨ge,oe+1,none⟩=some (.slice ae ne ce)/\w'.cell? ⟨ge,oe+2,none⟩=some (.slice de ke ee2))/\w'.cell? ⟨g,0,none⟩=some (.bool s6)/\w'.cell? ⟨g,1,none⟩=some (.slice a6 n6 c6)/\w'.cell? ⟨g,2,none⟩=some (.slice d6 k6 e6)):=hid fun w' hw=>by
    have b9:=hbd.ext0 (hEd.trans (GE.trans (hEc.trans hw)));exact⟨hS.out w' (GE.trans (hEc.trans hw)),b9.cell 0 rfl,b9.cell 1 rfl,b9.cell 2 rfl⟩
   have hadd:=b2I Z wc.drew _ _ _ _ (hXr.ext (hEd.trans (GE.trans hEc))) ((mkx QC.mono hq6 (hEd.trans (GE.trans hEc))).qv (hSb.out i (by omega))) ((mkx QC.mono hqd (GE.trans hEc)).qv (Nat.le_trans hEb (by decide)));rw[hsm.out]at hadd;clear hHeld hOnce hl9 hub;go_wp2_with fail
   refine a0y 7 (fun w'=>(w'.cell? ⟨h,7,none⟩=some (.slice lo n lc)/\w'.cell? ⟨ge,oe,none⟩=some (.bool sg)/\w'.cell? ⟨ge,oe+1,none⟩=some (.slice ae ne ce)/\w'.cell? ⟨ge,oe+2,none⟩=some (.slice de ke ee2))/\w'.cell? ⟨g,0,none⟩=some (.bool s6)/\w'.cell? ⟨g,1,none⟩=some (.slice a6 n6 c6)/\w'.cell? ⟨g,2,none⟩=some (.slice d6 k6 e6)) (by kernel_rfl) (by kernel_rfl) (hS2.out _ (ExtX.refl _)) (fun hHeld hOnce=>?_);refine a0a hOnce (i:=0) (oi:=⟨_,_,_,_,_,_⟩) (v:=?_) rfl (by kernel_rfl) (fun _ _ _ h=>h) (by assumption) (by rfl) (fun w hSw=>?_) ?_
   rotate_left
   ·(try dsimp only at hSw)
    go_simp
    all_goals with_reducible rfl
   (try simp only[Act.put,List.setIfInBounds_toArray,List.set_cons_zero,List.set_cons_succ])
   refine a0a hOnce (i:=1) (oi:=⟨_,_,_,_,_,_⟩) (v:=?_) rfl (by kernel_rfl) (fun _ _ _ h=>h) (by assumption) (by rfl) (fun w hSw=>?_) ?_
   rotate_left
   ·(try dsimp only at hSw)
    go_simp
    all_goals with_reducible rfl
   (try simp only[Act.put,List.setIfInBounds_toArray,List.set_cons_zero,List.set_cons_succ])
   refine a0a hOnce (i:=2) (oi:=⟨_,_,_,_,_,_⟩) (v:=?_) rfl (by kernel_rfl) (fun _ _ _ h=>h) (by assumption) (by rfl) (fun w hSw=>?_) ?_
   rotate_left
   ·(try dsimp only at hSw)
    go_simp
    all_goals with_reducible rfl
   (try simp only[Act.put,List.setIfInBounds_toArray,List.set_cons_zero,List.set_cons_succ])
   refine a0a hOnce (i:=3) (oi:=⟨_,_,_,_,_,_⟩) (v:=?_) rfl (by kernel_rfl) (fun _ _ _ h=>h) (by assumption) (by rfl) (fun w hSw=>?_) ?_
   rotate_left
   ·(try dsimp only at hSw)
    go_simp
    all_goals with_reducible rfl
   (try simp only[Act.put,List.setIfInBounds_toArray,List.set_cons_zero,List.set_cons_succ])
   refine a0a hOnce (i:=4) (oi:=⟨_,_,_,_,_,_⟩) (v:=?_) rfl (by kernel_rfl) (fun _ _ _ h=>h) (by assumption) (by rfl) (fun w hSw=>?_) ?_
   rotate_left
   ·(try dsimp only at hSw)
    go_simp
    all_goals with_reducible rfl
   (try simp only[Act.put,List.setIfInBounds_toArray,List.set_cons_zero,List.set_cons_succ])
   refine a0a hOnce (i:=5) (oi:=⟨_,_,_,_,_,_⟩) (v:=?_) rfl (by kernel_rfl) (fun _ _ _ h=>h) (by assumption) (by rfl) (fun w hSw=>?_) ?_
   rotate_left
   ·(try dsimp only at hSw)
    go_simp
    all_goals with_reducible rfl
   (try simp only[Act.put,List.setIfInBounds_toArray,List.set_cons_zero,List.set_cons_succ])
   refine a0e (i:=6) (o:=⟨_,_,_,_,_,_⟩) (by kernel_rfl) rfl (fun K hK=>?_);go_simp
   ((with_reducible refine hadd.mono ?_);rintro ee wd ⟨gd,ud,rfl,hud⟩)
   refine hK.out _ _ (hS2.out _ gd) (fun hHeld=>?_);clear hK K
   (try simp only[Act.put,List.setIfInBounds_toArray,List.set_cons_zero,List.set_cons_succ])
   obtain⟨s7,a7,n7,c7,d7,k7,e7,rfl⟩:=hud.shape;have bb:=hbd.ext0 (hEd.trans (GE.trans (hEc.trans gd)));have f0:=bb.cell 0 rfl;have f1:=bb.cell 1 rfl;have f2:=bb.cell 2 rfl;have f3:=bb.frozen 0;have f4:=bb.frozen 1;have f5:=bb.frozen 2;refine a0k (i:=7) (o:=⟨_,_,_,_,_,_⟩) (by kernel_rfl) rfl (by decide) (by kernel_rfl) (fun K hK=>?_);go_simp
   refine hK.out _ _ ?_;clear hK K;obtain⟨r1,r2⟩:=bb.set3 (.bool s7) (.slice a7 n7 c7) (.slice d7 k7 e7);have hq7:=QC.mono _ _ _ _ (a0H r2 hZg) hud;have hE7:=(hEr.trans (ExtX.of (hEd.trans (GE.trans (hEc.trans gd))))).trans r2;clear f0 f1 f2 f3 f4 f5 hHeld hOnce hS hS2 i2;go_wp2_with fail
   go_roundw
   case rel=>exact⟨i+1,_,_,_,_,_,_,_,by go_num,by omega,r1,hq7,hE7⟩
   case measure=>simp[intOf];omega
  ·have hin:i=n:=by omega
   subst hin;have hEd:Ext wr wr.drew:=(ExtX.refl wr).drew;have hS:Hid (∀w',Ext wr.drew w'->w'.cell? ⟨g,0,none⟩=some (.bool s6)/\w'.cell? ⟨g,1,none⟩=some (.slice a6 n6 c6)/\w'.cell? ⟨g,2,none⟩=some (.slice d6 k6 e6)):=hid fun w' hw=>by
    have b9:=hbx.ext0 (hEd.trans hw);exact⟨b9.cell 0 rfl,b9.cell 1 rfl,b9.cell 2 rfl⟩
   rw[hsum'.out]at hq6;have hpq:hq ((pl:Int):Rat)<=68719476736:=by rw[<-hsum'.out];exact hSb.out i (Nat.le_refl _)
   have hfin:Ext w wr:=ExtX.box hEw5 hEr hw0g;have hq6':=mkx QC.mono hq6 hEd;have hXd:HX Z wr.drew:=hXr.ext hEd;have hEfd:=hfin.trans hEd;obtain⟨wd,hwd⟩:∃wd,wr.drew=wd:=⟨_,rfl⟩;have hsm:=hid fun w' u (h:Ext wd w') (hu:QC (mk Z w') u ((pl:Int):Rat))=>a7Q Z w' (.agg #[.bool s6, .slice a6 n6 c6, .slice d6 k6 e6]) u _ _ (mkx QC.mono (hwd▸hq6') h) hu hpq;simp only[decide_true]at hsm;clear hq6 hq6' hfin hsum' hSb hpq hbx;go_wp2_with fail
   refine a0y 7 (fun w'=>w'.cell? ⟨g,0,none⟩=some (.bool s6)/\w'.cell? ⟨g,1,none⟩=some (.slice a6 n6 c6)/\w'.cell? ⟨g,2,none⟩=some (.slice d6 k6 e6)) (by kernel_rfl) (by kernel_rfl) (hS.out _ (ExtX.refl _)) (fun hHeld hOnce=>?_);rw[hwd]at hS hXd hEfd |-
   (try rw[hwd]at hHeld)
   clear hwd;refine a0e (i:=0) (o:=⟨_,_,_,_,_,_⟩) (by kernel_rfl) rfl (fun K hK=>?_);go_simp
   (go_at_call 44;(with_reducible refine(a4e wd).mono ?_);rintro ee wa ⟨ga,rfl⟩)
   refine hK.out _ _ (hS.out _ ga) (fun hHeld=>?_);clear hK K
   (try simp only[Act.put,List.setIfInBounds_toArray,List.set_cons_zero,List.set_cons_succ])
   refine a0a hOnce (i:=1) (oi:=⟨_,_,_,_,_,_⟩) (v:=?_) rfl (by kernel_rfl) (fun _ _ _ h=>h) (by assumption) (by rfl) (fun w hSw=>?_) ?_
   rotate_left
   ·(try dsimp only at hSw)
    go_simp
    all_goals with_reducible rfl
   (try simp only[Act.put,List.setIfInBounds_toArray,List.set_cons_zero,List.set_cons_succ])
   refine a0a hOnce (i:=2) (oi:=⟨_,_,_,_,_,_⟩) (v:=?_) rfl (by kernel_rfl) (fun _ _ _ h=>h) (by assumption) (by rfl) (fun w hSw=>?_) ?_
   rotate_left
   ·(try dsimp only at hSw)
    go_simp
    all_goals with_reducible rfl
   (try simp only[Act.put,List.setIfInBounds_toArray,List.set_cons_zero,List.set_cons_succ])
   refine a0a hOnce (i:=3) (oi:=⟨_,_,_,_,_,_⟩) (v:=?_) rfl (by kernel_rfl) (fun _ _ _ h=>h) (by assumption) (by rfl) (fun w hSw=>?_) ?_
   rotate_left
   ·(try dsimp only at hSw)
    go_simp
    all_goals with_reducible rfl
   (try simp only[Act.put,List.setIfInBounds_toArray,List.set_cons_zero,List.set_cons_succ])
   refine a0e (i:=4) (o:=⟨_,_,_,_,_,_⟩) (by kernel_rfl) rfl (fun K hK=>?_);go_simp
   (go_at_call 48;(with_reducible refine(a3D Z wa pl (hXd.ext ga) (by omega) (by omega)).mono ?_);rintro ee wb ⟨gb,ub,rfl,hub⟩)
   refine hK.out _ _ (hS.out _ (ga.trans gb)) (fun hHeld=>?_);clear hK K
   (try simp only[Act.put,List.setIfInBounds_toArray,List.set_cons_zero,List.set_cons_succ])
   have hs9:=hsm.out wb ub (ga.trans gb) hub;refine a0e (i:=5) (o:=⟨_,_,_,_,_,_⟩) (by kernel_rfl) rfl (fun K hK=>?_);go_simp
   ((with_reducible refine hs9.mono ?_);rintro ee wc ⟨gc,rfl⟩)
   refine hK.out _ _ (hS.out _ (ga.trans (gb.trans gc))) (fun hHeld=>?_);clear hK K
   (try simp only[Act.put,List.setIfInBounds_toArray,List.set_cons_zero,List.set_cons_succ])
   refine a0a hOnce (i:=6) (oi:=⟨_,_,_,_,_,_⟩) (v:=?_) rfl (by kernel_rfl) (fun _ _ _ h=>h) (by assumption) (by rfl) (fun w hSw=>?_) ?_
   rotate_left
   ·(try dsimp only at hSw)
    go_simp
    all_goals with_reducible rfl
   (try simp only[Act.put,List.setIfInBounds_toArray,List.set_cons_zero,List.set_cons_succ])
   refine a0k (i:=7) (o:=⟨_,_,_,_,_,_⟩) (by kernel_rfl) rfl (by decide) (by kernel_rfl) (fun K hK=>?_);go_simp
   refine hK.out _ _ ?_;clear hK K;go_wp2_with fail
   go_ret
   exact⟨hEfd.trans (ga.trans (gb.trans gc)),rfl⟩
end Go.Proofs.YtkddecjkfdogiaaGreat
