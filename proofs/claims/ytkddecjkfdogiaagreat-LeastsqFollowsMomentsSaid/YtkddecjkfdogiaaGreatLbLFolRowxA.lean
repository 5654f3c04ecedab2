/- law 13: LeastsqFollowsMoments returns true. Conditions: none but Go's own. -/
import Derived.Test.YtkddecjkfdogiaaGreatLbLEquRowxA
namespace Go.Lin
open Go.Lim Go.Rep
theorem b3i {x:Mat} {p:List Nat} {B:Nat} (h:BM B x) (hp:∀i∈p,i<x.length):BM B (a3Z x p):=fun r hr=>by
 obtain⟨i,hi,rfl⟩:=List.mem_map.1 hr;have:=hp i hi;rw[a9x this];exact h _ (List.getElem_mem _)
theorem b3j {y:List Rat} {p:List Nat} {B:Nat} (h:BR B y) (hp:∀i∈p,i<y.length):BR B (a4a y p):=fun q hq'=>by
 obtain⟨i,hi,rfl⟩:=List.mem_map.1 hq';have:=hp i hi;rw[List.getD_eq_getElem?_getD,List.getElem?_eq_getElem this];exact h _ (List.getElem_mem _)
theorem b1H {x:Mat} {p:List Nat} {i:Nat} (h:i<(a3Z x p).length) (h1:i<p.length) (h2:p[i]<x.length):(a3Z x p)[i]=x[p[i]]:=by
 simp only[a3Z,List.getElem_map];exact a9x h2
theorem b1I {y:List Rat} {p:List Nat} {i:Nat} (h:i<(a4a y p).length) (h1:i<p.length) (h2:p[i]<y.length):(a4a y p)[i]=y[p[i]]:=by
 simp only[a4a,List.getElem_map];rw[List.getD_eq_getElem?_getD,List.getElem?_eq_getElem h2];rfl
end Go.Lin
namespace Go.Proofs.YtkddecjkfdogiaaGreat
open Go.RowKit Go.Rep Go.Lim Go.Lin
set_option maxRecDepth 100000 in
set_option maxHeartbeats 6400000 in
theorem a8x (w:World) (N K:Int) (ones:Bool) (ro:Option Addr) (raw:List Int) (rcap:Nat) (ro2:Option Addr) (raw2:List Int) (rcap2:Nat) (hs:Sl (a1y .i64) 1 (mk noY w) ro raw) (hraw:∀x∈raw,-9223372036854775808<=x/\x<=9223372036854775807) (hs2:Sl (a1y .i64) 1 (mk noY w) ro2 raw2):
  Calls Tryz.prog 8 #[.agg #[.int .i64 N, .int .i64 K, .bool ones, .slice ro raw.length rcap], .slice ro2 raw2.length rcap2] w (a8V w true):=by
 have hnoX:∀v:World,HX noY v:=fun v=>HX.none v;have m1:=Int.emod_nonneg (wrap64 (N - 1)) (show(6:Int)≠0 by omega);have m2:=Int.emod_lt_of_pos (wrap64 (N - 1)) (show(0:Int)<6 by omega);have m3:=Int.emod_nonneg (wrap64 (K - 1)) (show(4:Int)≠0 by omega);have m4:=Int.emod_lt_of_pos (wrap64 (K - 1)) (show(0:Int)<4 by omega);obtain⟨n,hn⟩:=Int.eq_ofNat_of_zero_le (show 0<=1+wrap64 (N - 1)%6 by omega);obtain⟨k,hk⟩:=Int.eq_ofNat_of_zero_le (show 0<=1+wrap64 (K - 1)%4 by omega);have hn16:1<=n/\n<=6:=by omega
 have hk14:1<=k/\k<=4:=by omega
 obtain⟨hsh,hcol,hxB,hyB,hyl,hfo,hok⟩:=a7N ones n k raw hn16.1 (by omega) hk14.1 hk14.2;obtain⟨W,hW,hE,b0,hz⟩:=a1w w #[.int .i64 N, .int .i64 K, .bool ones, .slice ro raw.length rcap] 69;have hTab:Calls Tryz.prog 38 #[.agg #[.int .i64 N, .int .i64 K, .bool ones, .slice ro raw.length rcap], .int .i64 6, .int .i64 4] W (a9v noY W (a9u ones n k raw) (b0k ones n k raw)):=a7M noY W N K ones ro raw rcap 6 4 n k (hnoX W) (hs.mono (a1y.mono _) (a0o hE)) hraw (by decide) (by decide) (by decide) (by decide) hn hk;obtain⟨b,hb⟩:∃b,w.heap.size=b:=⟨_,rfl⟩;rw[hb]at b0 hz;obtain⟨x,hx⟩:∃x,a9u ones n k raw=x:=⟨_,rfl⟩;obtain⟨y,hy⟩:∃y,b0k ones n k raw=y:=⟨_,rfl⟩;rw[hx]at hsh hcol hxB hfo hok hTab;rw[hy]at hyB hyl hok hTab;have p0:=b0.cell 0 rfl;have p1:=b0.cell 1 rfl;have p2:=b0.cell 2 rfl;have p3:=b0.cell 3 rfl;have hn1:=hn16.1;have hn6:=hn16.2;have hk1:=hk14.1;have hk4:=hk14.2;have hxl:Hid (x.length=n):=hid hsh.1;have hxB':=hid (show BM 68719476736 x from fun r hr q hq=>Nat.le_trans (hxB r hr q hq) (by decide));have hyB':=hid (show BR 68719476736 y from fun q hq=>Nat.le_trans (hyB q hq) (by decide));have hyl':=hid hyl;have hfit:=hid fun w' u v (hu:MC (mk noY w') u x) (hv:RC (mk noY w') v y)=>a5H noY w' u v x y n k 2 (hnoX w') (hu.mv hxB'.out) (hv.rv hyB'.out) hok hsh.1 hcol (by omega) hk4 hxB hyB (by decide) (by decide);clear m1 m2 m3 m4 hn hk hx hy hn16 hk14 hs hraw;have hpm:=hid fun w' (h:Ext w w')=>b3o noY w' n ro2 raw2 rcap2 (hnoX w') (hs2.mono (a1y.mono _) (a0o h)) hn1 (by omega);have hpp:=a6f n raw2 hn1 n (Nat.le_refl _);obtain⟨p,hp⟩:∃p,a4b n raw2 n=p:=⟨_,rfl⟩;rw[hp]at hpm hpp;have hpl:p.length=n:=by rw[hpp.length_eq];simp
 have hplt:∀i∈p,i<n:=fun i hi=>List.mem_range.1 (hpp.mem_iff.1 hi);clear hp hs2;have hPs:=b1o hsh hpp;have hPl:(a4a y p).length=n:=by unfold a4a;rw[List.length_map,hpl]
 have hPB:=b3i hxB (p:=p) fun i hi=>by rw[hsh.1];exact hplt i hi
 have hPR:=b3j hyB (p:=p) fun i hi=>by rw[hyl];exact hplt i hi
 obtain⟨-,hq1,hq64,hq12,-⟩:=a2g.1 hok;have hPc:=b0i hPs hn1;have hPok:a7Q (a3Z x p) (a4a y p)=true:=a2g.2 ⟨b2D hPs (by omega) hk1 (by omega),by rw[hPs.1];omega,by rw[hPs.1];omega,by rw[hPc];omega,by rw[hPl,hPs.1]⟩;have hgm:=b2Q (x:=x) (y:=y) (c:=k) hpp;have hga:=hid fun w' u v (hu:MC (mk noY w') u x) (hv:RC (mk noY w') v y)=>a4M noY w' u v x y n k 2 (hnoX w') (hu.mv hxB'.out) (hv.rv hyB'.out) hok hsh.1 hcol (by omega) hk4 hxB hyB (by decide) (by decide);have hgb:=hid fun w' u v (hu:MC (mk noY w') u (a3Z x p)) (hv:RC (mk noY w') v (a4a y p))=>a4M noY w' u v (a3Z x p) (a4a y p) n k 2 (hnoX w') (hu.mv fun r hr q hq=>Nat.le_trans (hPB r hr q hq) (by decide)) (hv.rv fun q hq=>Nat.le_trans (hPR q hq) (by decide)) hPok hPs.1 hPc (by omega) hk4 hPB hPR (by decide) (by decide);rw[hgm]at hgb;have hhb:=a6C hxB (by decide);have hbmM:BMo 5929 (gmM x y k n):=⟨a7s (a9o hhb (by omega) (by decide)),a9p hhb hyB (by omega) (by decide),Nat.le_trans (a9R (B:=4) fun r _=>Nat.le_trans (hq_mul _ _) (by have:=b2T hyB (by decide) r;omega)) (by omega)⟩;have hbmV:BMo 68719476736 (gmM x y k n):=⟨fun r hr q hq=>Nat.le_trans (hbmM.1 r hr q hq) (by decide),fun q hq=>Nat.le_trans (hbmM.2.1 q hq) (by decide),Nat.le_trans hbmM.2.2 (by decide)⟩;obtain⟨f1,f2,f3,f4,f5⟩:=a9t (y:=y) hsh (by omega) hk1 hk4;have hgms:Shp k k (gmM x y k n).xx:=a2G x n k;have hgml:(gmM x y k n).xy.length=k:=a8h x y n k;have hfm:=hid fun w' (v:Value) (h:a5f (mk noY w') v (gmM x y k n))=>a7H noY w' v (gmM x y k n) (hnoX w') (h.mv hbmV) (by rw[f2];exact hk4) hbmM;have hrss:(gmM x y k n).yy - a2l (fmC (gmM x y k n)) (gmM x y k n).xy=a2l (a2k x y (a0G x y n k)) (a2k x y (a0G x y n k)):=by
  rw[f4,b4Q hsh hyl,a5E (l:=y) hyl];rfl
 have hsmm:=hid fun w' u v (h1:a5f (mk noY w') u (gmM x y k n)) (h2:a5f (mk noY w') v (gmM x y k n))=>b3p noY w' u v (gmM x y k n) h1 h2 hbmV (by rw[hgms.1];omega) (fun r hr=>by rw[hgms.2 r hr];omega) (by rw[hgml];omega);unfold a9Z at hfm;rw[hrss,f1,f2,f4,f5]at hfm;have hfm':=hfm;obtain⟨GM,hGM⟩:∃GM,gmM x y k n=GM:=⟨_,rfl⟩;rw[hGM]at hga hgb hfm' hsmm f3;have hMx:Hid (∀i (h1:i<(a3Z x p).length) (h2:i<p.length) (h3:p[i]<x.length),(a3Z x p)[i]=x[p[i]]):=hid fun i h1 h2 h3=>b1H h1 h2 h3;have hMy:Hid (∀i (h1:i<(a4a y p).length) (h2:i<p.length) (h3:p[i]<y.length),(a4a y p)[i]=y[p[i]]):=hid fun i h1 h2 h3=>b1I h1 h2 h3;have hPsl:=hPs.1;have hPsr:=hPs.2;obtain⟨PX,hPX⟩:∃PX,a3Z x p=PX:=⟨_,rfl⟩;rw[hPX]at hgb hMx hPsl hPsr;obtain⟨PY,hPY⟩:∃PY,a4a y p=PY:=⟨_,rfl⟩;rw[hPY]at hgb hMy hPl;have hxr:=hid hsh.2;have hsh':=hid hsh;clear hPX hPY hGM hbmM hbmV hhb hgm hPok hPs hPB hPR hPc hq1 hq64 hq12 hrss f1 f2 f4 f5 hgms hgml hpp hfm;have bnd2:=a8l (y:=y) (n:=n) (c:=k) (a6C hxB (by decide)) hyB (by omega) hk4 (by decide);have bnd3:=a8m hsh hxB hyB bnd2 (by decide) hk4 (by decide);have bnd4:=b3O bnd3 (by rw[a2o (by rw[hyl,hsh.1]),hsh.1];omega);have hsl:=hid fun w' u v (h1:RC (mk noY w') u (a0G x y n k)) (h2:RC (mk noY w') v (a0G x y n k))=>a1Z noY w' u v _ _ h1 h2 (fun q hq=>Nat.le_trans (bnd2 q hq) (by decide)) (by rw[a1O];omega);have hsm:=hid fun w' u v (h1:QC (mk noY w') u (a2l (a2k x y (a0G x y n k)) (a2k x y (a0G x y n k)))) (h2:QC (mk noY w') v (a2l (a2k x y (a0G x y n k)) (a2k x y (a0G x y n k))))=>a5I noY w' u v _ _ h1 h2 (by omega);simp only[decide_true]at hsl hsm;clear bnd2 bnd3 bnd4;clear hok hfo hxB hyB hcol;go_enter Tryz.func8,Tryz.ntmps8
 go_wp2_with fail
 refine hTab.mono ?_;rintro ee w1 ⟨hE1,xv,yv,rfl,hxv,hyv⟩;clear p0 p1 p2 p3 hTab;have hxv':=hid hxv;have hyv':=hid hyv;obtain⟨xo,xc,rfl,hxc,hxs⟩:=hxv;obtain⟨yo,yc,rfl,hyc,hys⟩:=hyv;have hhx:Hd xo n:=by have:=hxs.hd;rw[hxl.out]at this;exact this
 have hhy:Hd yo n:=by have:=hys.hd;rw[hyl]at this;exact this
 rw[hxl.out]at hxv' hxc |-;rw[hyl]at hyv' hyc |-;go_wp2_with fail
 refine(hpm.out w1 (hE.trans hE1)).mono ?_;rintro ee w2 ⟨hE2,po,pc,rfl,hpc,hps⟩;have hhp:Hd po n:=by have:=hps.hd;rw[hpl]at this;exact this
 have hE02:=hE.trans (hE1.trans hE2);have hxs2:=hxs.mono RC.mono (a0o hE2);have hys2:=hys.mono QC.mono (a0o hE2);clear hpm hxs hys;go_wp2_with fail
 go_loopw [8,9,10] (fun av bv iv wr=>∃(i:Nat) (ao:Option Addr) (ac:Nat) (bo:Option Addr) (bc:Nat),iv= .int .i64 i/\av= .slice ao i ac/\bv= .slice bo i bc/\i<=n/\OL RC 1 (un noY bo) w2.heap.size 45 wr ao ac (PX.take i)/\OL QC 3 (un noY ao) w2.heap.size 32 wr bo bc (PY.take i)/\Ext w2 wr) (fun _ _ iv _=>n - (intOf iv).toNat)
 case atStart=>exact⟨0,none,0,none,0,rfl,rfl,rfl,Nat.zero_le _,OL.nil _ _ _ _ _ _,OL.nil _ _ _ _ _ _,ExtX.refl _⟩
 case round=>
  obtain⟨i,ao,ac,bo,bc,rfl,rfl,rfl,hi,hxa,hya,hEa⟩:=hrel;by_cases hlt:i<n
  ·have hip:i<p.length:=by omega
   have hEw:Ext wr wr.drew:=(ExtX.refl _).drew;have hE2d:=hEa.trans hEw;have hpin:=hplt _ (List.getElem_mem hip);have hqx:p[i]<x.length:=by rw[hxl.out];exact hpin
   have hqy:p[i]<y.length:=by rw[hyl];exact hpin
   have hpcl:=hps.nat i hip;have hX1:=hMx.out i (by omega) hip hqx;have hY1:=hMy.out i (by omega) hip hqy;obtain⟨q,hq⟩:∃q,p[i]=q:=⟨_,rfl⟩;simp only[hq]at hpcl hX1 hY1 hqx hqy hpin;have hpcl:=hpcl;obtain⟨ra,rc,hXb,hct,hclt,hqt⟩:=hxs2.row q hqx;obtain⟨ge,oe,s1,a1,n1,c9,d1,k9,e1,hadr,hXe,hce,hqe⟩:=hys2.rat QC.shaped q hqy;have hrl:=hid (hxr.out x[q] (List.getElem_mem hqx));have hrow:RC (mk noY w2) (.slice ra x[q].length rc) x[q]:=⟨ra,rc,rfl,hclt,hqt⟩;rw[hrl.out]at hct hrow;obtain⟨row,hrw⟩:∃row,x[q]=row:=⟨_,rfl⟩;obtain⟨yq,hyq⟩:∃yq,y[q]=yq:=⟨_,rfl⟩;rw[hrw]at hrow hX1;rw[hyq]at hqe hY1;have hno:∀b,b<w2.heap.size->two ao bo b=false:=fun b hb=>by unfold two;rw[hxa.ob_lt hb,hya.ob_lt hb];rfl
   have hS:Hid (∀w',ExtX (two ao bo) wr.drew w'->w'.cell? (adr po i)=some (.int .i64 (q:Int))/\w'.cell? (adr xo q)=some (.slice ra k rc)/\w'.cell? ⟨ge,oe,none⟩=some (.bool s1)/\w'.cell? ⟨ge,oe+1,none⟩=some (.slice a1 n1 c9)/\w'.cell? ⟨ge,oe+2,none⟩=some (.slice d1 k9 e1)):=hid fun w' h=>by
    have h2:=(ExtX.of hE2d).trans h;have c0:=hct.out noY w2 (ExtX.refl _) rfl;obtain⟨z1,z2,z3⟩:=hce.out noY w2 (ExtX.refl _) rfl;exact⟨h2.cellY hpcl (hno _ (a1A hpcl)),h2.cellY c0 (hno _ (a1A c0)),h2.cellY z1 (hno _ (a1A z1)),h2.cellY z2 (hno _ (a1A z2)),h2.cellY z3 (hno _ (a1A z3))⟩
   have hle0:Le (mk noY w2) (mk (un (un noY ao) bo) wr.drew):=a1f hE2d (fun _ _ h=>h) (fun b hb h=>by
    rcases a6O h with h|h
    ·rcases a6O h with h|h
     ·exact h
     ·rw[hxa.ob_lt hb]at h;cases h
    ·rw[hya.ob_lt hb]at h;cases h)
   have hr0:=RC.mono _ _ _ _ hle0 hrow;have hq0:=QC.mono _ _ _ _ hle0 hqe;have hend:=hid fun v ao' ac' bo' bc' (D:ExtX (two ao bo) wr.drew v) (h1:OL RC 1 (un noY bo') w2.heap.size 45 v ao' ac' (PX.take i++[row])) (h2:OL QC 3 (un noY ao') w2.heap.size 32 v bo' bc' (PY.take i++[yq]))=>(by
    refine⟨?_,?_,hE2d.then_ D fun b hb _=>hno b hb⟩
    ·rw[List.take_succ_eq_append_getElem (by omega),hX1];exact h1
    ·rw[List.take_succ_eq_append_getElem (by omega),hY1];exact h2:OL RC 1 (un noY bo') w2.heap.size 45 v ao' ac' (PX.take (i+1))/\OL QC 3 (un noY ao') w2.heap.size 32 v bo' bc' (PY.take (i+1))/\Ext w2 v)
   have hbs:w2.heap.size<=wr.drew.heap.size:=hEa.size;have hXA:HX noY wr.drew:=hnoX _;have i1:∀w',(Instr.indexAt 22 (.slice po n pc) (.int .i64 (i:Int))).run Tryz.prog w'= .ok (.pointer (some (adr po i))) w':=a0w a5e po n pc .i64 i hhp (by omega) rfl;have i2:∀w',(Instr.indexAt 25 (.slice xo n xc) (.int .i64 (q:Int))).run Tryz.prog w'= .ok (.pointer (some (adr xo q))) w':=a0w a0r xo n xc .i64 q hhx (by omega) rfl;have i3:∀w',(Instr.indexAt 45 (.slice yo n yc) (.int .i64 (q:Int))).run Tryz.prog w'= .ok (.pointer (some ⟨ge,oe,none⟩)) w':=by rw[<-hadr];exact a0j a0B yo n yc .i64 q hhy (by omega)
   have hx:=hxa.ext0 RC.elem hEw;have hy:=hya.ext0 QC.elem hEw;obtain⟨LX,hLX⟩:∃LX,PX.take i=LX:=⟨_,rfl⟩;obtain⟨LY,hLY⟩:∃LY,PY.take i=LY:=⟨_,rfl⟩;have hlx:Hid (LX.length=i):=hid (by rw[<-hLX];simp;omega);have hly:Hid (LY.length=i):=hid (by rw[<-hLY];simp;omega);rw[hLX]at hx hend;rw[hLY]at hy hend;clear hLX hLY hxa hya hrw hyq hq hrow hqe hpcl hX1 hY1 hct hce hclt hqt hadr hrl hle0 hno hE2d;go_wp2_with fail
   refine a0O 21 (fun w'=>w'.cell? (adr po i)=some (.int .i64 (q:Int))/\w'.cell? (adr xo q)=some (.slice ra k rc)/\w'.cell? ⟨ge,oe,none⟩=some (.bool s1)/\w'.cell? ⟨ge,oe+1,none⟩=some (.slice a1 n1 c9)/\w'.cell? ⟨ge,oe+2,none⟩=some (.slice d1 k9 e1)) (by kernel_rfl) (by kernel_rfl) (hS.out _ (ExtX.refl _)) (fun hHeld hOnce=>?_);have D0:ExtX (two ao bo) wr.drew wr.drew:=ExtX.refl _;obtain⟨wd,hwd⟩:∃wd,wr.drew=wd:=⟨_,rfl⟩;rw[hwd]at hx hy hq0 hr0 hS hend hXA hbs D0 |-
   (try rw[hwd]at hHeld)
   clear hwd;refine a0a hOnce (i:=0) (oi:=⟨_,_,_,_,_,_⟩) (v:=?_) rfl (by kernel_rfl) (fun _ _ _ h=>h) (by assumption) (by rfl) (fun w hSw=>?_) ?_
   rotate_left
   ·(try dsimp only at hSw)
    go_simp
    all_goals with_reducible rfl
   (try simp only[Act.put,List.setIfInBounds_toArray,List.set_cons_zero,List.set_cons_succ])
   refine a0a hOnce (i:=1) (oi:=⟨_,_,_,_,_,_⟩) (v:=?_) rfl (by kernel_rfl) (fun _ _ _ h=>h) (by assumption) (by rfl) (fun w hSw=>?_) ?_
   rotate_left
   ·(try dsimp only at hSw)
    go_simp
    all_goals with_reducible rfl
   (try simp only[Act.put,List.setIfInBounds_toArray,List.set_cons_zero,List.set_cons_succ])
   refine a0a hOnce (i:=2) (oi:=⟨_,_,_,_,_,_⟩) (v:=?_) rfl (by kernel_rfl) (fun _ _ _ h=>h) (by assumption) (by rfl) (fun w hSw=>?_) ?_
   rotate_left
   ·(try dsimp only at hSw)
    go_simp
    all_goals with_reducible rfl
   (try simp only[Act.put,List.setIfInBounds_toArray,List.set_cons_zero,List.set_cons_succ])
   refine a0a hOnce (i:=3) (oi:=⟨_,_,_,_,_,_⟩) (v:=?_) rfl (by kernel_rfl) (fun _ _ _ h=>h) (by assumption) (by rfl) (fun w hSw=>?_) ?_
   rotate_left
   ·(try dsimp only at hSw)
    go_simp
    all_goals with_reducible rfl
   (try simp only[Act.put,List.setIfInBounds_toArray,List.set_cons_zero,List.set_cons_succ])
   refine a0a hOnce (i:=4) (oi:=⟨_,_,_,_,_,_⟩) (v:=?_) rfl (by kernel_rfl) (fun _ _ _ h=>h) (by assumption) (by rfl) (fun w hSw=>?_) ?_
   rotate_left
   ·(try dsimp only at hSw)
    go_simp
    all_goals with_reducible rfl
   (try simp only[Act.put,List.setIfInBounds_toArray,List.set_cons_zero,List.set_cons_succ])
   refine a0a hOnce (i:=5) (oi:=⟨_,_,_,_,_,_⟩) (v:=?_) rfl (by kernel_rfl) (fun _ _ _ h=>h) (by assumption) (by rfl) (fun w hSw=>?_) ?_
   rotate_left
   ·(try dsimp only at hSw)
    go_simp
    all_goals with_reducible rfl
   (try simp only[Act.put,List.setIfInBounds_toArray,List.set_cons_zero,List.set_cons_succ])
   refine a0a hOnce (i:=6) (oi:=⟨_,_,_,_,_,_⟩) (v:=?_) rfl (by kernel_rfl) (fun _ _ _ h=>h) (by assumption) (by rfl) (fun w hSw=>?_) ?_
   rotate_left
   ·(try dsimp only at hSw)
    go_simp
    all_goals with_reducible rfl
   (try simp only[Act.put,List.setIfInBounds_toArray,List.set_cons_zero,List.set_cons_succ])
   refine a0a hOnce (i:=7) (oi:=⟨_,_,_,_,_,_⟩) (v:=?_) rfl (by kernel_rfl) (fun _ _ _ h=>h) (by assumption) (by rfl) (fun w hSw=>?_) ?_
   rotate_left
   ·(try dsimp only at hSw)
    go_simp
    all_goals with_reducible rfl
   (try simp only[Act.put,List.setIfInBounds_toArray,List.set_cons_zero,List.set_cons_succ])
   refine a0a hOnce (i:=10) (oi:=⟨_,_,_,_,_,_⟩) (v:=?_) rfl (by kernel_rfl) (fun _ _ _ h=>h) (by assumption) (by rfl) (fun w hSw=>?_) ?_
   rotate_left
   ·(try dsimp only at hSw)
    go_simp
    all_goals with_reducible rfl
   (try simp only[Act.put,List.setIfInBounds_toArray,List.set_cons_zero,List.set_cons_succ])
   refine a0a hOnce (i:=11) (oi:=⟨_,_,_,_,_,_⟩) (v:=?_) rfl (by kernel_rfl) (fun _ _ _ h=>h) (by assumption) (by rfl) (fun w hSw=>?_) ?_
   rotate_left
   ·(try dsimp only at hSw)
    go_simp
    all_goals with_reducible rfl
   (try simp only[Act.put,List.setIfInBounds_toArray,List.set_cons_zero,List.set_cons_succ])
   refine a0a hOnce (i:=12) (oi:=⟨_,_,_,_,_,_⟩) (v:=?_) rfl (by kernel_rfl) (fun _ _ _ h=>h) (by assumption) (by rfl) (fun w hSw=>?_) ?_
   rotate_left
   ·(try dsimp only at hSw)
    go_simp
    all_goals with_reducible rfl
   (try simp only[Act.put,List.setIfInBounds_toArray,List.set_cons_zero,List.set_cons_succ])
   refine a0a hOnce (i:=13) (oi:=⟨_,_,_,_,_,_⟩) (v:=?_) rfl (by kernel_rfl) (fun _ _ _ h=>h) (by assumption) (by rfl) (fun w hSw=>?_) ?_
   rotate_left
   ·(try dsimp only at hSw)
    go_simp
    all_goals with_reducible rfl
   (try simp only[Act.put,List.setIfInBounds_toArray,List.set_cons_zero,List.set_cons_succ])
   refine a0a hOnce (i:=14) (oi:=⟨_,_,_,_,_,_⟩) (v:=?_) rfl (by kernel_rfl) (fun _ _ _ h=>h) (by assumption) (by rfl) (fun w hSw=>?_) ?_
   rotate_left
   ·(try dsimp only at hSw)
    go_simp
    all_goals with_reducible rfl
   (try simp only[Act.put,List.setIfInBounds_toArray,List.set_cons_zero,List.set_cons_succ])
   refine a0a hOnce (i:=15) (oi:=⟨_,_,_,_,_,_⟩) (v:=?_) rfl (by kernel_rfl) (fun _ _ _ h=>h) (by assumption) (by rfl) (fun w hSw=>?_) ?_
   rotate_left
   ·(try dsimp only at hSw)
    go_simp
    all_goals with_reducible rfl
   (try simp only[Act.put,List.setIfInBounds_toArray,List.set_cons_zero,List.set_cons_succ])
   refine a0a hOnce (i:=16) (oi:=⟨_,_,_,_,_,_⟩) (v:=?_) rfl (by kernel_rfl) (fun _ _ _ h=>h) (by assumption) (by rfl) (fun w hSw=>?_) ?_
   rotate_left
   ·(try dsimp only at hSw)
    go_simp
    all_goals with_reducible rfl
   (try simp only[Act.put,List.setIfInBounds_toArray,List.set_cons_zero,List.set_cons_succ])
   refine a0a hOnce (i:=17) (oi:=⟨_,_,_,_,_,_⟩) (v:=?_) rfl (by kernel_rfl) (fun _ _ _ h=>h) (by assumption) (by rfl) (fun w hSw=>?_) ?_
   rotate_left
   ·(try dsimp only at hSw)
    go_simp
    all_goals with_reducible rfl
   (try simp only[Act.put,List.setIfInBounds_toArray,List.set_cons_zero,List.set_cons_succ])
   refine a0E (i:=8) (j:=18) (oi:=⟨_,_,_,_,_,_⟩) (oj:=⟨_,_,_,_,_,_⟩) (by kernel_rfl) rfl rfl (fun K hK=>?_) (fun K hK=>?_)
   ·skip
    go_simp
    skip
    refine hK.out _ _ (hS.out _ (D0.trans (ExtX.of ((ExtX.refl _).alloc _)))) (fun hHeld=>?_);clear hK K
    (try simp only[Act.put,List.setIfInBounds_toArray,List.set_cons_zero,List.set_cons_succ])
    have xe1:Ext wd (wd.alloc (.cells #[.slice ra k rc] 45)):=(ExtX.refl _).alloc _;have l1:Bx (wd.alloc (.cells #[.slice ra k rc] 45)) wd.heap.size #[.slice ra k rc] 45:=Bx.new wd _ _;have ge1:=Nat.le_refl wd.heap.size;obtain⟨v1,hv1⟩:∃v1,wd.alloc (.cells #[.slice ra k rc] 45)=v1:=⟨_,rfl⟩;rw[hv1]at xe1 l1 |-;obtain⟨g1,hg1⟩:∃g1,wd.heap.size=g1:=⟨_,rfl⟩;have gv1:wd.heap.size<=g1:=by rw[<-hg1];exact ge1
    have gg1:wd.heap.size<=g1:=by rw[<-hg1];exact D0.size
    rw[hg1]at l1 |-;clear hg1 hv1 ge1;have D1:=D0.trans (ExtX.of xe1);have h0_1:=hx.ext0 RC.elem xe1;have h1_1:=hy.ext0 QC.elem xe1;refine a0E (i:=9) (j:=18) (oi:=⟨_,_,_,_,_,_⟩) (oj:=⟨_,_,_,_,_,_⟩) (by kernel_rfl) rfl rfl (fun K hK=>?_) (fun K hK=>?_)
    ·skip
     (refine a0z (l:=LX) rfl rfl a0r rfl RC.elem (Nat.le_trans hbs D1.size) (a1M (a1u hXA D1.size) (fun k hk=>(h1_1.block hk).2)) i hlx.out rfl rfl l1 h0_1 (.slice ra k rc) row rfl (RC.mono _ _ _ _ (a8v D1 (Or.inl rfl)) hr0) (by omega) (by omega) ?_;intro o2 c2 v2 h0_2 E2 r2)
     refine hK.out _ _ (hS.out _ (D1.trans (a1h (b:=bo) E2))) (fun hHeld=>?_);clear hK K
     (try simp only[Act.put,List.setIfInBounds_toArray,List.set_cons_zero,List.set_cons_succ])
     have D2:=D1.trans (a1h (b:=bo) E2);have r20:=r2;have r2:=a3m r2 D1.size;have h1_2:=OL.after (A:=noY) QC.elem h1_1 E2 r20;refine a0e (i:=18) (o:=⟨_,_,_,_,_,_⟩) (by kernel_rfl) rfl (fun K hK=>?_);go_simp
     skip
     refine hK.out _ _ (hS.out _ (D2.trans (ExtX.of ((ExtX.refl _).alloc _)))) (fun hHeld=>?_);clear hK K
     (try simp only[Act.put,List.setIfInBounds_toArray,List.set_cons_zero,List.set_cons_succ])
     have xe3:Ext v2 (v2.alloc (.cells #[.bool s1, .slice a1 n1 c9, .slice d1 k9 e1] 32)):=(ExtX.refl _).alloc _;have l3:Bx (v2.alloc (.cells #[.bool s1, .slice a1 n1 c9, .slice d1 k9 e1] 32)) v2.heap.size #[.bool s1, .slice a1 n1 c9, .slice d1 k9 e1] 32:=Bx.new v2 _ _;have ge3:=Nat.le_refl v2.heap.size;obtain⟨v3,hv3⟩:∃v3,v2.alloc (.cells #[.bool s1, .slice a1 n1 c9, .slice d1 k9 e1] 32)=v3:=⟨_,rfl⟩;rw[hv3]at xe3 l3 |-;obtain⟨g3,hg3⟩:∃g3,v2.heap.size=g3:=⟨_,rfl⟩;have gv3:v2.heap.size<=g3:=by rw[<-hg3];exact ge3
     have gg3:wd.heap.size<=g3:=by rw[<-hg3];exact D2.size
     rw[hg3]at l3 |-;clear hg3 hv3 ge3;have D3:=D2.trans (ExtX.of xe3);have h0_3:=h0_2.ext0 RC.elem xe3;have h1_3:=h1_2.ext0 QC.elem xe3;refine a0e (i:=19) (o:=⟨_,_,_,_,_,_⟩) (by kernel_rfl) rfl (fun K hK=>?_)
     (refine a0z (l:=LY) rfl rfl a0B rfl QC.elem (Nat.le_trans hbs D3.size) (a1M (a1u hXA D3.size) (fun k hk=>(h0_3.block hk).2)) i hly.out rfl rfl l3 h1_3 (.agg #[.bool s1, .slice a1 n1 c9, .slice d1 k9 e1]) yq rfl (QC.mono _ _ _ _ (a4A D3 r2) hq0) (by omega) (by omega) ?_;intro o4 c4 v4 h1_4 E4 r4)
     refine hK.out _ _ (hS.out _ (D3.trans (a0P (a:=ao) E4))) (fun hHeld=>?_);clear hK K
     (try simp only[Act.put,List.setIfInBounds_toArray,List.set_cons_zero,List.set_cons_succ])
     have D4:=D3.trans (a0P (a:=ao) E4);have r40:=r4;have r4:=a3m r4 D3.size;have h0_4:=OL.after (A:=noY) RC.elem h0_3 E4 r40;refine a0a hOnce (i:=20) (oi:=⟨_,_,_,_,_,_⟩) (v:=?_) rfl (by kernel_rfl) (fun _ _ _ h=>h) (by assumption) (by rfl) (fun w hSw=>?_) ?_
     rotate_left
     ·(try dsimp only at hSw)
      go_simp
      all_goals with_reducible rfl
     (try simp only[Act.put,List.setIfInBounds_toArray,List.set_cons_zero,List.set_cons_succ])
     refine a0n (i:=21) (o:=⟨_,_,_,_,_,_⟩) (by kernel_rfl) rfl (by decide) (by kernel_rfl) (fun K hK=>?_);go_simp
     refine hK.out _ _ ?_;clear hK K;have fin:=hend.out _ _ _ _ _ D4 h0_4 h1_4;clear hS i1 i2 i3 hHeld hOnce;go_wp2_with fail
     go_roundw
     case rel=>exact⟨i+1,_,_,_,_,by go_num,by go_num,by go_num,by omega,fin⟩
     case measure=>simp[intOf];omega
    ·skip
     go_simp
     skip
     refine hK.out _ _ (hS.out _ (D1.trans (ExtX.of ((ExtX.refl _).alloc _)))) (fun hHeld=>?_);clear hK K
     (try simp only[Act.put,List.setIfInBounds_toArray,List.set_cons_zero,List.set_cons_succ])
     have xe5:Ext v1 (v1.alloc (.cells #[.bool s1, .slice a1 n1 c9, .slice d1 k9 e1] 32)):=(ExtX.refl _).alloc _;have l5:Bx (v1.alloc (.cells #[.bool s1, .slice a1 n1 c9, .slice d1 k9 e1] 32)) v1.heap.size #[.bool s1, .slice a1 n1 c9, .slice d1 k9 e1] 32:=Bx.new v1 _ _;have ge5:=Nat.le_refl v1.heap.size;obtain⟨v5,hv5⟩:∃v5,v1.alloc (.cells #[.bool s1, .slice a1 n1 c9, .slice d1 k9 e1] 32)=v5:=⟨_,rfl⟩;rw[hv5]at xe5 l5 |-;obtain⟨g5,hg5⟩:∃g5,v1.heap.size=g5:=⟨_,rfl⟩;have gv5:v1.heap.size<=g5:=by rw[<-hg5];exact ge5
     have gg5:wd.heap.size<=g5:=by rw[<-hg5];exact D1.size
     rw[hg5]at l5 |-;clear hg5 hv5 ge5;have D5:=D1.trans (ExtX.of xe5);have h0_5:=h0_1.ext0 RC.elem xe5;have h1_5:=h1_1.ext0 QC.elem xe5;have lit5:=l1.ext0 xe5;refine a0e (i:=9) (o:=⟨_,_,_,_,_,_⟩) (by kernel_rfl) rfl (fun K hK=>?_)
     (refine a0z (l:=LX) rfl rfl a0r rfl RC.elem (Nat.le_trans hbs D5.size) (a1M (a1u hXA D5.size) (fun k hk=>(h1_5.block hk).2)) i hlx.out rfl rfl lit5 h0_5 (.slice ra k rc) row rfl (RC.mono _ _ _ _ (a8v D5 (Or.inl rfl)) hr0) (by omega) (by omega) ?_;intro o6 c6 v6 h0_6 E6 r6)
     refine hK.out _ _ (hS.out _ (D5.trans (a1h (b:=bo) E6))) (fun hHeld=>?_);clear hK K
     (try simp only[Act.put,List.setIfInBounds_toArray,List.set_cons_zero,List.set_cons_succ])
     have D6:=D5.trans (a1h (b:=bo) E6);have r60:=r6;have r6:=a3m r6 D5.size;have lit6:=l5.ext E6 (OL.ob_ge hx gg5);have h1_6:=OL.after (A:=noY) QC.elem h1_5 E6 r60;refine a0e (i:=19) (o:=⟨_,_,_,_,_,_⟩) (by kernel_rfl) rfl (fun K hK=>?_)
     (refine a0z (l:=LY) rfl rfl a0B rfl QC.elem (Nat.le_trans hbs D6.size) (a1M (a1u hXA D6.size) (fun k hk=>(h0_6.block hk).2)) i hly.out rfl rfl lit6 h1_6 (.agg #[.bool s1, .slice a1 n1 c9, .slice d1 k9 e1]) yq rfl (QC.mono _ _ _ _ (a4A D6 r6) hq0) (by omega) (by omega) ?_;intro o7 c7 v7 h1_7 E7 r7)
     refine hK.out _ _ (hS.out _ (D6.trans (a0P (a:=ao) E7))) (fun hHeld=>?_);clear hK K
     (try simp only[Act.put,List.setIfInBounds_toArray,List.set_cons_zero,List.set_cons_succ])
     have D7:=D6.trans (a0P (a:=ao) E7);have r70:=r7;have r7:=a3m r7 D6.size;have h0_7:=OL.after (A:=noY) RC.elem h0_6 E7 r70;refine a0a hOnce (i:=20) (oi:=⟨_,_,_,_,_,_⟩) (v:=?_) rfl (by kernel_rfl) (fun _ _ _ h=>h) (by assumption) (by rfl) (fun w hSw=>?_) ?_
     rotate_left
     ·(try dsimp only at hSw)
      go_simp
      all_goals with_reducible rfl
     (try simp only[Act.put,List.setIfInBounds_toArray,List.set_cons_zero,List.set_cons_succ])
     refine a0n (i:=21) (o:=⟨_,_,_,_,_,_⟩) (by kernel_rfl) rfl (by decide) (by kernel_rfl) (fun K hK=>?_);go_simp
     refine hK.out _ _ ?_;clear hK K;have fin:=hend.out _ _ _ _ _ D7 h0_7 h1_7;clear hS i1 i2 i3 hHeld hOnce;go_wp2_with fail
     go_roundw
     case rel=>exact⟨i+1,_,_,_,_,by go_num,by go_num,by go_num,by omega,fin⟩
     case measure=>simp[intOf];omega
   ·skip
    go_simp
    skip
    refine hK.out _ _ (hS.out _ (D0.trans (ExtX.of ((ExtX.refl _).alloc _)))) (fun hHeld=>?_);clear hK K
    (try simp only[Act.put,List.setIfInBounds_toArray,List.set_cons_zero,List.set_cons_succ])
    have xe8:Ext wd (wd.alloc (.cells #[.bool s1, .slice a1 n1 c9, .slice d1 k9 e1] 32)):=(ExtX.refl _).alloc _;have l8:Bx (wd.alloc (.cells #[.bool s1, .slice a1 n1 c9, .slice d1 k9 e1] 32)) wd.heap.size #[.bool s1, .slice a1 n1 c9, .slice d1 k9 e1] 32:=Bx.new wd _ _;have ge8:=Nat.le_refl wd.heap.size;obtain⟨v8,hv8⟩:∃v8,wd.alloc (.cells #[.bool s1, .slice a1 n1 c9, .slice d1 k9 e1] 32)=v8:=⟨_,rfl⟩;rw[hv8]at xe8 l8 |-;obtain⟨g8,hg8⟩:∃g8,wd.heap.size=g8:=⟨_,rfl⟩;have gv8:wd.heap.size<=g8:=by rw[<-hg8];exact ge8
    have gg8:wd.heap.size<=g8:=by rw[<-hg8];exact D0.size
    rw[hg8]at l8 |-;clear hg8 hv8 ge8;have D8:=D0.trans (ExtX.of xe8);have h0_8:=hx.ext0 RC.elem xe8;have h1_8:=hy.ext0 QC.elem xe8;refine a0e (i:=8) (o:=⟨_,_,_,_,_,_⟩) (by kernel_rfl) rfl (fun K hK=>?_);go_simp
    skip
    refine hK.out _ _ (hS.out _ (D8.trans (ExtX.of ((ExtX.refl _).alloc _)))) (fun hHeld=>?_);clear hK K
    (try simp only[Act.put,List.setIfInBounds_toArray,List.set_cons_zero,List.set_cons_succ])
    have xe9:Ext v8 (v8.alloc (.cells #[.slice ra k rc] 45)):=(ExtX.refl _).alloc _;have l9:Bx (v8.alloc (.cells #[.slice ra k rc] 45)) v8.heap.size #[.slice ra k rc] 45:=Bx.new v8 _ _;have ge9:=Nat.le_refl v8.heap.size;obtain⟨v9,hv9⟩:∃v9,v8.alloc (.cells #[.slice ra k rc] 45)=v9:=⟨_,rfl⟩;rw[hv9]at xe9 l9 |-;obtain⟨g9,hg9⟩:∃g9,v8.heap.size=g9:=⟨_,rfl⟩;have gv9:v8.heap.size<=g9:=by rw[<-hg9];exact ge9
    have gg9:wd.heap.size<=g9:=by rw[<-hg9];exact D8.size
    rw[hg9]at l9 |-;clear hg9 hv9 ge9;have D9:=D8.trans (ExtX.of xe9);have h0_9:=h0_8.ext0 RC.elem xe9;have h1_9:=h1_8.ext0 QC.elem xe9;have lit9:=l8.ext0 xe9;refine a0e (i:=9) (o:=⟨_,_,_,_,_,_⟩) (by kernel_rfl) rfl (fun K hK=>?_)
    (refine a0z (l:=LX) rfl rfl a0r rfl RC.elem (Nat.le_trans hbs D9.size) (a1M (a1u hXA D9.size) (fun k hk=>(h1_9.block hk).2)) i hlx.out rfl rfl l9 h0_9 (.slice ra k rc) row rfl (RC.mono _ _ _ _ (a8v D9 (Or.inl rfl)) hr0) (by omega) (by omega) ?_;intro o10 c10 v10 h0_10 E10 r10)
    refine hK.out _ _ (hS.out _ (D9.trans (a1h (b:=bo) E10))) (fun hHeld=>?_);clear hK K
    (try simp only[Act.put,List.setIfInBounds_toArray,List.set_cons_zero,List.set_cons_succ])
    have D10:=D9.trans (a1h (b:=bo) E10);have r100:=r10;have r10:=a3m r10 D9.size;have lit10:=lit9.ext E10 (OL.ob_ge hx gg8);have h1_10:=OL.after (A:=noY) QC.elem h1_9 E10 r100;refine a0e (i:=19) (o:=⟨_,_,_,_,_,_⟩) (by kernel_rfl) rfl (fun K hK=>?_)
    (refine a0z (l:=LY) rfl rfl a0B rfl QC.elem (Nat.le_trans hbs D10.size) (a1M (a1u hXA D10.size) (fun k hk=>(h0_10.block hk).2)) i hly.out rfl rfl lit10 h1_10 (.agg #[.bool s1, .slice a1 n1 c9, .slice d1 k9 e1]) yq rfl (QC.mono _ _ _ _ (a4A D10 r10) hq0) (by omega) (by omega) ?_;intro o11 c11 v11 h1_11 E11 r11)
    refine hK.out _ _ (hS.out _ (D10.trans (a0P (a:=ao) E11))) (fun hHeld=>?_);clear hK K
    (try simp only[Act.put,List.setIfInBounds_toArray,List.set_cons_zero,List.set_cons_succ])
    have D11:=D10.trans (a0P (a:=ao) E11);have r110:=r11;have r11:=a3m r11 D10.size;have h0_11:=OL.after (A:=noY) RC.elem h0_10 E11 r110;refine a0a hOnce (i:=20) (oi:=⟨_,_,_,_,_,_⟩) (v:=?_) rfl (by kernel_rfl) (fun _ _ _ h=>h) (by assumption) (by rfl) (fun w hSw=>?_) ?_
    rotate_left
    ·(try dsimp only at hSw)
     go_simp
     all_goals with_reducible rfl
    (try simp only[Act.put,List.setIfInBounds_toArray,List.set_cons_zero,List.set_cons_succ])
    refine a0n (i:=21) (o:=⟨_,_,_,_,_,_⟩) (by kernel_rfl) rfl (by decide) (by kernel_rfl) (fun K hK=>?_);go_simp
    refine hK.out _ _ ?_;clear hK K;have fin:=hend.out _ _ _ _ _ D11 h0_11 h1_11;clear hS i1 i2 i3 hHeld hOnce;go_wp2_with fail
    go_roundw
    case rel=>exact⟨i+1,_,_,_,_,by go_num,by go_num,by go_num,by omega,fin⟩
    case measure=>simp[intOf];omega
  ·have hin:i=n:=by omega
   subst hin;rw[List.take_of_length_le (by omega)]at hxa hya;have hAs:=hxa.sl RC.elem;have hAc:=hxa.lenCap;have hBs:=hya.sl QC.elem;have hBc:=hya.lenCap;have hax:MC (mk noY wr) (.slice ao i ac) PX:=⟨ao,ac,by rw[hPsl],hAc,hAs.mono RC.mono (a1v fun _ _ h=>by cases h)⟩;have hby:RC (mk noY wr) (.slice bo i bc) PY:=⟨bo,bc,by rw[hPl],hBc,hBs.mono QC.mono (a1v fun _ _ h=>by cases h)⟩;have hE1r:=hE2.trans hEa;have hEwr:=hE02.trans hEa;clear hxa hya hAs hBs hAc hBc hxs2 hys2 hMx hMy hps;go_wp2_with fail
   refine(hfit.out wr _ _ (mkx MC.mono hxv'.out hE1r) (mkx RC.mono hyv'.out hE1r)).mono ?_;rintro ee w6 ⟨hE6,fv,rfl,hfv⟩;have hsh:=hsh';clear hfit;obtain⟨uo1,uc1,co1,cc1,ro1,rc1,s1,a1,nn1,c1,d1,k1,e1,lo1,lc1,rfl,huc1,hus1,hco1,hro1,hrs1,hlv1⟩:=a5m hsh.out hyl'.out hfv;have bf1:=Bx.new w6 #[.int .i64 0, .slice none 0 0, .slice none 0 0, .slice none 0 0, .bool false, .slice none 0 0, .slice none 0 0, .slice none 0 0] 63;go_wp2_with (first|((with_reducible show wpList _ _ _ (⟨_, .store 63 _ _,_,_,_,_⟩::_) _ _);refine a0c a7C rfl rfl bf1 rfl rfl (by intro v hv;simp at hv;rcases hv with rfl|rfl|rfl|rfl|rfl|rfl|rfl|rfl<;>rfl) ?_;intro w7 x1 y1;have F1:Ext w6 w7:=ExtX.box ((ExtX.refl w6).alloc _) y1 (Nat.le_refl _);skip)|fail)
   obtain⟨h1,hh1⟩:∃h,(w6).heap.size=h:=⟨_,rfl⟩;rw[hh1]at x1 |-;clear y1 bf1 hh1;have hE67:=hE6.trans F1;have hE17:=hE1r.trans hE67;refine(hga.out w7 _ _ (mkx MC.mono hxv'.out hE17) (mkx RC.mono hyv'.out hE17)).mono ?_;rintro ee w8 ⟨hE8,m1,rfl,hm1⟩;clear hga;have hmA:=hid hm1;obtain⟨xoA,xlA,xcA,yoA,ylA,ycA,sA,aA,nA,cA,dA,kA,eA,rfl,_,_,_⟩:=hm1;have bmA:=Bx.new w8 #[.int .i64 0, .slice none 0 0, .slice none 0 0, .bool false, .slice none 0 0, .slice none 0 0] 83;go_wp2_with (first|((with_reducible show wpList _ _ _ (⟨_, .store 83 _ _,_,_,_,_⟩::_) _ _);refine a0c a3l rfl rfl bmA rfl rfl (by intro v hv;simp at hv;rcases hv with rfl|rfl|rfl|rfl|rfl|rfl<;>rfl) ?_;intro w9 xA yA;have FA:Ext w8 w9:=ExtX.box ((ExtX.refl w8).alloc _) yA (Nat.le_refl _);skip)|fail)
   obtain⟨hA,hhA⟩:∃h,(w8).heap.size=h:=⟨_,rfl⟩;rw[hhA]at xA |-;clear yA bmA hhA;have hEr9:=hE67.trans (hE8.trans FA);refine(hgb.out w9 _ _ (mkx MC.mono hax hEr9) (mkx RC.mono hby hEr9)).mono ?_;rintro ee w10 ⟨hE10,m2,rfl,hm2⟩;have xA':=xA.ext0 hE10;clear hgb hax hby;have hmB:=hid hm2;obtain⟨xoB,xlB,xcB,yoB,ylB,ycB,sB,aB,nB,cB,dB,kB,eB,rfl,_,_,_⟩:=hm2;have bmB:=Bx.new w10 #[.int .i64 0, .slice none 0 0, .slice none 0 0, .bool false, .slice none 0 0, .slice none 0 0] 83;go_wp2_with (first|((with_reducible show wpList _ _ _ (⟨_, .store 83 _ _,_,_,_,_⟩::_) _ _);refine a0c a3l rfl rfl bmB rfl rfl (by intro v hv;simp at hv;rcases hv with rfl|rfl|rfl|rfl|rfl|rfl<;>rfl) ?_;intro w11 xB yB;have FB:Ext w10 w11:=ExtX.box ((ExtX.refl w10).alloc _) yB (Nat.le_refl _);have z1:=xA'.ext0 FB;have p0:=z1.cell 0 rfl;have p1:=z1.cell 1 rfl;have p2:=z1.cell 2 rfl;have p3:=z1.cell 3 rfl;have p4:=z1.cell 4 rfl;have p5:=z1.cell 5 rfl)|fail)
   obtain⟨hB,hhB⟩:∃h,(w10).heap.size=h:=⟨_,rfl⟩;rw[hhB]at xB |-;clear yB bmB hhB;have hE9b:=FA.trans (hE10.trans FB);refine(hfm'.out w11 _ (mkx a5f.mono hmA.out hE9b)).mono ?_;rintro ee w12 ⟨hE12,cv,rv,rk,ec,rfl,hor⟩;rcases hor with⟨hbad,_⟩|⟨_,hbad,_⟩|⟨_,_,rfl,rfl,hcv,hrv⟩
   ·simp at hbad
   ·exact absurd hbad f3
   obtain⟨s5,a5,n5,c5,d5,k5,e5,rfl⟩:=hrv.shape;have bR:=Bx.new w12 #[.bool false, .slice none 0 0, .slice none 0 0] 32;clear p0 p1 p2 p3 p4 p5 z1 hfm';go_wp2_with (first|((with_reducible show wpList _ _ _ (⟨_, .store 32 _ _,_,_,_,_⟩::_) _ _);refine a0c a0v rfl rfl bR rfl rfl (a3f _ _ _ _ _ _ _) ?_;intro w13 xR yR;have FR:Ext w12 w13:=ExtX.box ((ExtX.refl w12).alloc _) yR (Nat.le_refl _)))
   obtain⟨hR0,hR⟩:∃h,w12.heap.size=h:=⟨_,rfl⟩;rw[hR]at xR |-;clear yR bR hR;refine(a5J w13).mono ?_;rintro ee w14 ⟨hE14,rfl⟩;have hEbe:=FB.trans (hE12.trans (FR.trans hE14));have hE7e:=hE8.trans (FA.trans (hE10.trans hEbe));have zA:=xA'.ext0 hEbe;have zB:=xB.ext0 (hE12.trans (FR.trans hE14));have z1:=x1.ext0 hE7e;have zR:=xR.ext0 hE14;have p0:=zA.cell 0 rfl;have p1:=zA.cell 1 rfl;have p2:=zA.cell 2 rfl;have p3:=zA.cell 3 rfl;have p4:=zA.cell 4 rfl;have p5:=zA.cell 5 rfl;have r0:=zB.cell 0 rfl;have r1:=zB.cell 1 rfl;have r2:=zB.cell 2 rfl;have r3:=zB.cell 3 rfl;have r4:=zB.cell 4 rfl;have r5:=zB.cell 5 rfl;go_wp2_with fail
   refine(hsmm.out w14 _ _ (mkx a5f.mono hmA.out (FA.trans (hE10.trans hEbe))) (mkx a5f.mono hmB.out hEbe)).mono ?_;rintro ee w15 ⟨hE15,rfl⟩;clear p0 p1 p2 p3 p4 p5 r0 r1 r2 r3 r4 r5 hsmm;have z1:=z1.ext0 hE15;have zR:=zR.ext0 hE15;have p2:=z1.cell 2 rfl;go_wp2_with fail
   have hE7f:=F1.trans (hE7e.trans hE15);have hEcf:=FR.trans (hE14.trans hE15);have hl1:=hsl.out w15 cv _ (mkx RC.mono hcv hEcf) (mkx RC.mono hco1 hE7f);refine hl1.mono ?_;rintro ee w16 ⟨hE16,rfl⟩;clear p2 hl1 hsl;have z1:=z1.ext0 hE16;have zR:=zR.ext0 hE16;have p4:=z1.cell 4 rfl;have p5:=z1.cell 5 rfl;have p6:=z1.cell 6 rfl;have r0:=zR.cell 0 rfl;have r1:=zR.cell 1 rfl;have r2:=zR.cell 2 rfl;go_wp2_with fail
   have hs1:=hsm.out w16 _ _ (mkx QC.mono hrv (hEcf.trans hE16)) (mkx QC.mono hrs1 (hE7f.trans hE16));refine hs1.mono ?_;rintro ee w17 ⟨hE17',rfl⟩;clear p4 p5 p6 r0 r1 r2 hs1 hsm;have z1:=z1.ext0 hE17';have p0:=z1.cell 0 rfl;go_wp2_with fail
   go_ret
   exact⟨hEwr.trans (hE6.trans (hE7f.trans (hE16.trans hE17'))),rfl⟩
end Go.Proofs.YtkddecjkfdogiaaGreat
