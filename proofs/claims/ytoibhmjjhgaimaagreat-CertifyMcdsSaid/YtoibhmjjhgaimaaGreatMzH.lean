/- matrix: eliminate. Conditions: numbers of at most 2^36 digits. matrix: echelon's closure, slices.IndexFunc over it. Conditions: numbers of at most 2^36 digits. Rows exchanged, rows cleared: steps on matrices that a call has made itself. Conditions: none. matrix: echelon. Conditions: few rows and columns, numbers of at most 2^36 digits. matrix: reduce. Conditions: few rows and columns, numbers of at most 2^36 digits. matrix: Reduce. Conditions: few rows and columns, numbers of at most 2^36 digits. matrix: Null; slices.Contains. Conditions: few rows and columns, numbers of few digits. What Solve and Null return, for law 06. Conditions: at most four rows and columns. The inverse that the program computes. Conditions: at most four rows where a determinant is spoken of. Least squares, as lists: what the program and the reference return. Conditions: at most four columns. The memory of the reference's elimination: rows, pivots, factor, and what each step leaves of them. Conditions: none. reference 06: what its elimination needs of plain lists. Conditions: none. Least squares: bounds of digits. Conditions: at most 8 rows and 4 columns of numbers of at most 370 digits. The scatter of some rows of points: centre, matrix, determinant; bounds. Conditions: none. matrix: Rank, Det. Conditions: few rows and columns, numbers of few digits. reference 06: Columns, Formed. Conditions: lengths far below any machine's. A drawn region whose last operation waits for all others: the loads are taken first under a condition that need not hold behind the last operation. Conditions: none. -/
import Derived.Test.YtoibhmjjhgaimaaGreatMzG
import Derived.OrdersHeld
import Derived.StillTail
import Derived.Deep.RegionHeld
import Derived.WalkKit
namespace Go.Proofs.YtoibhmjjhgaimaaGreat
open Go.RowKit Go.Rep Go.Lim Go.Lin
def b7M (Z:Nat->Bool) (base:Nat) (e:TypeId) (w:World) (a:Option Addr) (cap:Nat) (l:List Rat) (ee:Ending) (w':World):Prop:=ee= .returned (.tuple #[])/\ExtX (ob a) w w'/\OL QC 3 (cut Z a) base e w' a cap l
set_option maxRecDepth 100000 in
set_option maxHeartbeats 1600000 in
theorem a6X (Z:Nat->Bool) (base:Nat) (w:World) (a1 a2:Option Addr) (c1 c2 n col:Nat) (row piv:List Rat) (hX:HX Z w) (h1:OL QC 3 (cut Z a1) base 32 w a1 c1 row) (h2:OL QC 3 (cut Z a2) base 32 w a2 c2 piv)
  (hz1:∀k,ob a1 k=true->Z k=true) (hz2:∀k,ob a2 k=true->Z k=true) (hdis:∀k,ob a1 k=true->ob a2 k=false) (hl1:row.length=n) (hl2:piv.length=n) (hn:n<=1000) (hcol:col<n)
  (hb1:BR 68719476736 row) (hb2:BR 68719476736 piv) (hb3:hq (row.getD col 0/piv.getD col 0)<=68719476736) (hb4:∀x∈piv,hq (row.getD col 0/piv.getD col 0*x)<=68719476736):
  Calls Tryz.prog 253 #[.slice a1 n c1, .slice a2 n c2, .int .i64 (col:Int)] w (b7M Z base 32 w a1 c1 (a3J row piv col)):=by
 have hu1:=hid (a9l hz1);have hu2:=hid (a9l hz2);have hdis2:∀k,ob a2 k=true->ob a1 k=false:=fun k hk=>by
  cases hb:ob a1 k
  ·rfl
  ·rw[hdis k hb]at hk;simp at hk
 have hd1:Hd a1 n:=by have:=h1.hd;rw[hl1]at this;exact this
 have hd2:Hd a2 n:=by have:=h2.hd;rw[hl2]at this;exact this
 have hc1r:col<row.length:=by omega
 have hc2r:col<piv.length:=by omega
 have g1:Hid (row.getD col 0=row[col]):=hid (by simp[List.getD_eq_getElem?_getD,hc1r]);have g2:Hid (piv.getD col 0=piv[col]):=hid (by simp[List.getD_eq_getElem?_getD,hc2r]);obtain⟨E,hE⟩:∃E,a3J row piv col=E:=⟨_,rfl⟩;have hEl:Hid (E.length=n):=hid (by rw[<-hE,a4e _ _ _ (by omega)];exact hl2);have hEi:Hid (∀j (hj:j<row.length) (hj2:j<piv.length) (hj3:j<E.length),E[j]=row[j] - (row.getD col 0/piv.getD col 0)*piv[j]):=hid fun j hj hj2 hj3=>by subst hE;simp[a3J]
 have hE0:Hid (row.getD col 0/piv.getD col 0=0->E=row):=hid fun h=>by rw[<-hE];exact a9J _ _ _ (by omega) h
 have hrE:Hid (E.length=row.length):=hid (by rw[hEl.out,hl1]);have hl1':=hid hl1;have hl2':=hid hl2;have hb1':=hid hb1;have hb2':=hid hb2;obtain⟨f,hf⟩:∃f,row.getD col 0/piv.getD col 0=f:=⟨_,rfl⟩;rw[hf]at hb3 hE0 hEi hb4;have hb3':=hid hb3;have hb4':=hid hb4;have hff:Hid (row[col]/piv[col]=f):=hid (by rw[<-g1.out,<-g2.out];exact hf);rw[hE];obtain⟨gg1,oo1,s1,p1,n1,q1,d1,k1,e1,hg1,hog1,hcc1,hr1⟩:=h1.rat QC.shaped col hc1r;obtain⟨gg2,oo2,s2,p2,n2,q2,d2,k2,e2,hg2,hog2,hcc2,hr2⟩:=h2.rat QC.shaped col hc2r;rw[hu1.out]at hr1;rw[hu2.out]at hr2;have i1:∀W,(Instr.indexAt 45 (.slice a1 n c1) (.int .i64 (col:Int))).run Tryz.prog W= .ok (.pointer (some ⟨gg1,oo1,none⟩)) W:=by rw[<-hg1];exact a0k a1c a1 n c1 .i64 col hd1 hcol
 have i2:∀W,(Instr.indexAt 45 (.slice a2 n c2) (.int .i64 (col:Int))).run Tryz.prog W= .ok (.pointer (some ⟨gg2,oo2,none⟩)) W:=by rw[<-hg2];exact a0k a1c a2 n c2 .i64 col hd2 hcol
 have hEd:Ext w w.drew:=(ExtX.refl w).drew;have hS:Hid (∀Y W',ExtX Y w.drew W'->Y gg1=false->Y gg2=false->W'.cell? ⟨gg1,oo1,none⟩=some (.bool s1)/\W'.cell? ⟨gg1,oo1+1,none⟩=some (.slice p1 n1 q1)/\W'.cell? ⟨gg1,oo1+2,none⟩=some (.slice d1 k1 e1)/\W'.cell? ⟨gg2,oo2,none⟩=some (.bool s2)/\W'.cell? ⟨gg2,oo2+1,none⟩=some (.slice p2 n2 q2)/\W'.cell? ⟨gg2,oo2+2,none⟩=some (.slice d2 k2 e2)):=hid fun Y W' h hy1 hy2=>by
  have z1:=hcc1.out Y W' ((ExtX.of hEd).trans h) hy1;have z2:=hcc2.out Y W' ((ExtX.of hEd).trans h) hy2;exact⟨z1.1,z1.2.1,z1.2.2,z2.1,z2.2.1,z2.2.2⟩
 obtain⟨k00,k01,k02,k10,k11,k12⟩:=hS.out noY w.drew (ExtX.refl _) rfl rfl;have hlt1:gg1<w.heap.size:=a3W k00;have hlt2:gg2<w.heap.size:=a3W k10;have hXd:HX Z w.drew:=hX;have hx1:QV (mk Z w.drew) (.agg #[.bool s1, .slice p1 n1 q1, .slice d1 k1 e1]) row[col]:=hr1.qv (hb1'.out _ (List.getElem_mem _));have hx2:QV (mk Z w.drew) (.agg #[.bool s2, .slice p2 n2 q2, .slice d2 k2 e2]) piv[col]:=hr2.qv (hb2'.out _ (List.getElem_mem _));obtain⟨ec,hec⟩:∃ec,e5 (decide (piv[col]=0))=ec:=⟨_,rfl⟩;have qd:=b6X Z w.drew _ _ _ _ hXd hx1 hx2;rw[hec,hff.out]at qd;have hEA:Ext w.drew (w.alloc (.cells #[.bool false, .slice none 0 0, .slice none 0 0] 32)).drew:=⟨rfl,rfl,rfl,((ExtX.refl (Y:=noY) w).alloc _).size,((ExtX.refl (Y:=noY) w).alloc _).block⟩;have bA:Bx (w.alloc (.cells #[.bool false, .slice none 0 0, .slice none 0 0] 32)).drew w.heap.size #[.bool false, .slice none 0 0, .slice none 0 0] 32:=Bx.new w _ _;have hEA2:Ext w (w.alloc (.cells #[.bool false, .slice none 0 0, .slice none 0 0] 32)).drew:=hEd.trans hEA;have hXA:HX (un Z (some ⟨w.heap.size,0,none⟩)) (w.alloc (.cells #[.bool false, .slice none 0 0, .slice none 0 0] 32)).drew:=fun k hk=>by
  have h9:(w.alloc (.cells #[.bool false, .slice none 0 0, .slice none 0 0] 32)).drew.heap.size=w.heap.size+1:=by show(w.alloc _).heap.size=_;simp
  rw[h9];by_cases hz:Z k=true
  ·have:=hX k hz;omega
  ·have:w.heap.size=k:=by simpa[un,hz,ob]using hk
   omega
 have hnewb:∀j,j<w.heap.size->ob (some ⟨w.heap.size,0,none⟩) j=false:=fun j hj=>a0c (by omega);have qdA:=b6X (un Z (some ⟨w.heap.size,0,none⟩)) (w.alloc (.cells #[.bool false, .slice none 0 0, .slice none 0 0] 32)).drew _ _ _ _ hXA (a9h (w:=w) QV.mono hx1 hEA2 hnewb) (a9h (w:=w) QV.mono hx2 hEA2 hnewb);rw[hec,hff.out]at qdA;clear hg1 hg2 hcc1 hcc2 hr1 hr2 hf hE hl1 hl2 hb1 hb2 hb3 hb4 hec;go_enter Tryz.func253,Tryz.ntmps253
 go_upto_region 0 with(fail)
 go_cut [6,7]from 10 to 21 (fun b6 _ wx=>∃bf s a n' c d k e,b6= .pointer (some ⟨bf,0,none⟩)/\Bx wx bf #[.bool s, .slice a n' c, .slice d k e] 32/\w.heap.size<=bf/\QC (mk Z wx) (.agg #[.bool s, .slice a n' c, .slice d k e]) f/\Ext w wx)
 case first=>
  go_region_held3 (fun w'=>w'.cell? ⟨gg1,oo1,none⟩=some (.bool s1)/\w'.cell? ⟨gg1,oo1+1,none⟩=some (.slice p1 n1 q1)/\w'.cell? ⟨gg1,oo1+2,none⟩=some (.slice d1 k1 e1)/\w'.cell? ⟨gg2,oo2,none⟩=some (.bool s2)/\w'.cell? ⟨gg2,oo2+1,none⟩=some (.slice p2 n2 q2)/\w'.cell? ⟨gg2,oo2+2,none⟩=some (.slice d2 k2 e2))
   (first|exact hS.out noY _ t1 rfl rfl|exact hS.out noY _ (ExtX.alloc t1 _) rfl rfl|exact hS.out noY _ hEA rfl rfl|exact hS.out noY _ (hEA.trans t2) rfl rfl|exact hS.out (ob (some ⟨w.heap.size,0,none⟩)) _ ((ExtX.of (hEA.trans t2)).trans hst.2) (a0c (by omega)) (a0c (by omega))|exact hS.out (ob (some ⟨w6.heap.size,0,none⟩)) _ ((ExtX.of (t1.alloc _)).trans hst.2) (a0c (by have:=t1.size;have h9:w.drew.heap.size=w.heap.size:=rfl;omega)) (a0c (by have:=t1.size;have h9:w.drew.heap.size=w.heap.size:=rfl;omega))|go_keep)
   (first|(go_at_call 230;(with_reducible refine qd.mono ?_);rintro ee w6 ⟨t1,u6,rfl,hu6⟩;obtain⟨s6,a6,n6,c6,d6,k6,e6,rfl⟩:=hu6.shape;have hst:=(Bx.new w6 #[.bool false, .slice none 0 0, .slice none 0 0] 32).set3 (.bool s6) (.slice a6 n6 c6) (.slice d6 k6 e6))|(go_at_call 230;(with_reducible refine qdA.mono ?_);rintro ee w6 ⟨t2,u6,rfl,hu6⟩;obtain⟨s6,a6,n6,c6,d6,k6,e6,rfl⟩:=hu6.shape;have bb:=bA.ext0 t2;have y0:=bb.cell 0 rfl;have y1:=bb.cell 1 rfl;have y2:=bb.cell 2 rfl;have z0:=bb.frozen 0;have z1:=bb.frozen 1;have z2:=bb.frozen 2;have hst:=bb.set3 (.bool s6) (.slice a6 n6 c6) (.slice d6 k6 e6)))
  ·clear k00 k01 k02 k10 k11 k12
   go_wp2_with fail
   go_meet
   case rel=>exact⟨w6.heap.size,_,_,_,_,_,_,_,rfl,Bx.new w6 _ _,(hEd.trans t1).size,QC.mono _ _ _ _ (a0h ((ExtX.refl w6).alloc _)) hu6,(hEd.trans t1).alloc _⟩
  ·have hq7:=QC.mono _ _ _ _ (a1N (X:=Z) fun k _ hk=>a0p hk) (QC.mono _ _ _ _ (a0w hst.2 fun k hk=>a0q hk) hu6)
   have hE7:Ext w _:=ExtX.box (hEA2.trans t2) hst.2 (Nat.le_refl _);clear k00 k01 k02 k10 k11 k12 y0 y1 y2 z0 z1 z2;go_wp2_with fail
   go_meet
   case rel=>exact⟨w.heap.size,_,_,_,_,_,_,_,rfl,hst.1,Nat.le_refl _,hq7,hE7⟩
 case rest=>
  obtain⟨bf,sf,af,nf,cf,df,kf,ef,rfl,b6,hbf,hqf,hEw⟩:=hcut;clear k00 k01 k02 k10 k11 k12 i1 i2 qd qdA hS bA hEA hEA2;have hXc:=hX.ext hEw;have h1c:=h1.ext0 QC.elem hEw;have h2c:=h2.ext0 QC.elem hEw;have f0:=b6.cell 0 rfl;have f1:=b6.cell 1 rfl;have f2:=b6.cell 2 rfl;have hqv:=hqf.qv hb3'.out;by_cases h0:f=0
  ·have hr:=hid (hE0.out h0)
   have hs0:Hid (f.num.sign=0):=hid (by rw[h0];rfl);clear h0;go_wp2_with fail
   refine(b2K Z wc _ f hXc hqv).mono ?_;rintro e w7 ⟨hE7,rfl⟩;rw[hs0.out];clear f0 f1 f2;go_wp2_with fail
   refine bodyPost_ret (results_none rfl _ _ _) rfl ?_;exact⟨rfl,ExtX.of (hEw.trans hE7),by rw[hr.out];exact h1c.ext0 QC.elem hE7⟩
  ·have hs0:((f.num.sign:Int)==0)=false:=a2f (by intro h;exact h0 (Rat.num_eq_zero.1 (Int.sign_eq_zero_iff_zero.1 h)))
   clear h0;go_wp2_with fail
   refine(b2K Z wc _ f hXc hqv).mono ?_;rintro e w7 ⟨hE7,rfl⟩;have b7:=b6.ext0 hE7;have hqf7:=mkx QV.mono hqv hE7;have hE07:=hEw.trans hE7;have h17:=h1c.ext0 QC.elem hE7;have h27:=h2c.ext0 QC.elem hE7;clear f0 f1 f2 b6;go_wp2_with fail
   go_loopw [27] (fun k wr=>∃(j:Nat),k= .int .i64 j/\j<=n/\OL QC 3 (cut Z a1) base 32 wr a1 c1 (mix E row j)/\OL QC 3 (cut Z a2) base 32 wr a2 c2 piv/\Bx wr bf #[.bool sf, .slice af nf cf, .slice df kf ef] 32/\QV (mk Z wr) (.agg #[.bool sf, .slice af nf cf, .slice df kf ef]) f/\ExtX (ob a1) w wr) (fun k _=>n - (intOf k).toNat)
   case atStart=>exact⟨0,rfl,Nat.zero_le _,by rw[a6V];exact h17,h27,b7,hqf7,ExtX.of hE07⟩
   case round=>
    obtain⟨j,rfl,hj,hO1,hO2,b7,hqf7,hE⟩:=hrel;have hXr:=hX.ext hE;by_cases hlj:j<n
    ·have hjr:j<row.length:=by rw[hl1'.out];exact hlj
     have hjp:j<piv.length:=by rw[hl2'.out];exact hlj
     have hjE:j<E.length:=by rw[hEl.out];exact hlj
     have hml:Hid ((mix E row j).length=n):=hid (by rw[a2Z hrE.out,hEl.out]);have hjm:j<(mix E row j).length:=by rw[hml.out];exact hlj
     have hmg:Hid ((mix E row j)[j]=row[j]):=hid (by rw[a2B hrE.out,if_neg (by omega)]);have hjs:Hid ((mix E row j).set j E[j]=mix E row (j+1)):=hid (a8n hrE.out hjE);have hEj:Hid (row[j] - f*piv[j]=E[j]):=hid (hEi.out j hjr hjp hjE).symm;have hbp:=hid (hb2'.out piv[j] (List.getElem_mem _));have hbr:=hid (hb1'.out row[j] (List.getElem_mem _));have hbm:=hid (hb4'.out piv[j] (List.getElem_mem _));obtain⟨x,hx⟩:∃x,piv[j]=x:=⟨_,rfl⟩;obtain⟨y,hy⟩:∃y,row[j]=y:=⟨_,rfl⟩;obtain⟨v,hv⟩:∃v,E[j]=v:=⟨_,rfl⟩;obtain⟨r,hr⟩:∃r,mix E row j=r:=⟨_,rfl⟩;obtain⟨gg,oo,sg,ap,np,cp,dp,kp,ep,hg,hog,hcc,hrr⟩:=hO1.rat QC.shaped j hjm;rw[hmg.out,hy,hu1.out]at hrr;rw[hx,hy,hv]at hEj;rw[hx]at hbp hbm;rw[hy]at hbr;rw[hv,hr]at hjs;rw[hr]at hO1 hjm hml;have hxp:=hid hx;have i1:∀W,(Instr.indexAt 45 (.slice a1 n c1) (.int .i64 (j:Int))).run Tryz.prog W= .ok (.pointer (some ⟨gg,oo,none⟩)) W:=by rw[<-hg];exact a0k a1c a1 n c1 .i64 j hd1 (by omega)
     have bx:=Bx.new wr #[.bool false, .slice none 0 0, .slice none 0 0] 32;clear hx hy hv hr hmg;go_wp2_with (first|(with_reducible refine a1E a1c (by omega) (by assumption) ?_)|((with_reducible show wpList _ _ _ (⟨_, .load _ _,_,_,_,_⟩::_) _ _);refine b1c a0s j hO2 hjp rfl (by simp) QC.agg ?_;intro u5 hu5;rw[hxp.out,hu2.out]at hu5;obtain⟨s5,a5,n5,c5,d5,k5,e5,rfl⟩:=hu5.shape)|((with_reducible show wpList _ _ _ (⟨_, .store _ _ _,_,_,_,_⟩::_) _ _);refine a0d a0s rfl rfl bx rfl rfl (a2n _ _ _ _ _ _ _) ?_;intro w5 r1 r2))
     have hE5:Ext wr w5:=ExtX.box ((ExtX.refl wr).alloc _) r2 (Nat.le_refl _);have hEd:Ext w5 w5.drew:=(ExtX.refl w5).drew;have hE5d:=hE5.trans hEd;have hO5:=hO1.ext0 QC.elem hE5d;have hP5:=hO2.ext0 QC.elem hE5d;have b5:=b7.ext0 hE5d;have hx5:QV (mk Z w5.drew) (.agg #[.bool s5, .slice a5 n5 c5, .slice d5 k5 e5]) x:=(mkx QC.mono hu5 hE5d).qv hbp.out;have hy5:QV (mk Z w5.drew) (.agg #[.bool sg, .slice ap np cp, .slice dp kp ep]) y:=(mkx QC.mono hrr hE5d).qv hbr.out;have hf5:QV (mk Z w5.drew) (.agg #[.bool sf, .slice af nf cf, .slice df kf ef]) f:=mkx QV.mono hqf7 hE5d;have hXd:HX Z w5.drew:=hXr.ext hE5d;obtain⟨bw,hbw⟩:∃bw,wr.heap.size=bw:=⟨_,rfl⟩;have hab:Hid (ob a1 bw=false):=hid (by rw[<-hbw];exact hO1.ob_ge (Nat.le_refl _));have haf:Hid (ob a1 bf=false):=hid (by
      cases hb:ob a1 bf
      ·rfl
      ·have:=(h1.block hb).2;omega)
     rw[hbw]at r1;have hS:Hid (∀Y W',ExtX Y w5.drew W'->Y gg=false->Y bf=false->Y bw=false->W'.cell? ⟨gg,oo,none⟩=some (.bool sg)/\W'.cell? ⟨gg,oo+1,none⟩=some (.slice ap np cp)/\W'.cell? ⟨gg,oo+2,none⟩=some (.slice dp kp ep)/\W'.cell? ⟨bf,0,none⟩=some (.bool sf)/\W'.cell? ⟨bf,1,none⟩=some (.slice af nf cf)/\W'.cell? ⟨bf,2,none⟩=some (.slice df kf ef)/\W'.cell? ⟨bw,0,none⟩=some (.bool s5)/\W'.cell? ⟨bw,1,none⟩=some (.slice a5 n5 c5)/\W'.cell? ⟨bw,2,none⟩=some (.slice d5 k5 e5)):=hid fun Y W' h hy1 hy2 hy3=>by
      have z1:=hcc.out Y W' ((ExtX.of hE5d).trans h) hy1;have z2:=b5.ext h hy2;have z3:=(r1.ext0 hEd).ext h hy3;exact⟨z1.1,z1.2.1,z1.2.2,z2.cell 0 rfl,z2.cell 1 rfl,z2.cell 2 rfl,z3.cell 0 rfl,z3.cell 1 rfl,z3.cell 2 rfl⟩
     obtain⟨k00,k01,k02,k10,k11,k12,k20,k21,k22⟩:=hS.out noY w5.drew (ExtX.refl _) rfl rfl rfl;have hR5:=r1.ext0 hEd;clear r1 bx hcc;rw[hbw];go_wp2_with fail
     go_region_with (first|(go_at_call 169;(with_reducible refine(b6V Z w5.drew _ _ _ _ hXd hf5 hx5).mono ?_);rintro ee w6 ⟨t1,u6,rfl,hu6⟩;obtain⟨s6,a6,n6,c6,d6,k6,e6,rfl⟩:=hu6.shape;have hX6:=hXd.ext t1;have hy6:=mkx QV.mono hy5 t1;have hm6:=hu6.qv hbm.out;obtain⟨m0,m1,m2,_⟩:=hS.out noY w6 t1 rfl rfl rfl)|(go_at_call 111;(with_reducible refine(b7x Z w6 _ _ _ _ hX6 hy6 hm6).mono ?_);rintro ee w7 ⟨t7,u7,rfl,hu7⟩;obtain⟨s7,a7,n7,c7,d7,k7,e7,rfl⟩:=hu7.shape;rw[hEj.out]at hu7;have t2:=t1.trans t7;have hO7:=hO5.ext0 QC.elem t2;obtain⟨_,v0,v1,v2,_,⟨g0,f0⟩,⟨g1,f1⟩,⟨g2,f2⟩,_⟩:=hO7.cell3 j hjm hg;have hset:=hO7.set3 a7z QC.elem j hjm hg (v0:= .bool s7) (v1:= .slice a7 n7 c7) (v2:= .slice d7 k7 e7) (x:=v) (by rw[hu1.out];exact hu7)))
     all_goals
      obtain⟨q1,q2⟩:=hset;rw[hjs.out]at q1;have hP8:=(hP5.ext0 QC.elem t2).ext QC.elem q2 (fun k _ hk=>a5k (hz1 k hk) (hdis k hk)) (fun _ _ hk=>hk);have b8:=(b5.ext0 t2).ext q2 haf.out;have hf8:QV (mk Z _) _ _:=QV.mono _ _ _ _ (a0w q2 hz1) (mkx QV.mono hf5 t2);have hE8:=(hE.trans (ExtX.of (hE5d.trans t2))).trans q2;clear k00 k01 k02 k10 k11 k12 k20 k21 k22 m0 m1 m2 g0 g1 g2 f0 f1 f2 i1;go_wp2_with fail
      go_roundw
      case rel=>exact⟨j+1,by go_num,by omega,q1,hP8,b8,hf8,hE8⟩
      case measure=>simp[intOf];omega
    ·have hjn:j=n:=by omega
     subst hjn;rw[a6W (by rw[hEl.out];exact Nat.le_refl _) (by rw[hl1'.out];exact Nat.le_refl _)]at hO1;go_wp2_with fail
     go_end0
     exact⟨rfl,hE,hO1⟩
end Go.Proofs.YtoibhmjjhgaimaaGreat
namespace Go.Lin
def b7a:Option Nat->Int
 |none=> -1
 |some k=>k
end Go.Lin
namespace Go.Proofs.YtoibhmjjhgaimaaGreat
open Go.RowKit Go.Rep Go.Lim Go.Lin
theorem a8o (X:Nat->Bool) (w:World) (a:Option Addr) (l:List Rat) (n c col b:Nat) (hX:HX X w) (hs:Sl QC 3 (mk X w) a l) (hl:l.length=n) (hcol:col<n) (hB:BR 68719476736 l) (hb:w.cell? ⟨b,0,none⟩=some (.int .i64 (col:Int))):
  Calls Tryz.prog 252 #[.slice a n c, .pointer (some ⟨b,0,none⟩)] w (b2F w (decide (l.getD col 0≠0))):=by
 have hh:Hd a n:=by have:=hs.hd;rw[hl]at this;exact this
 have hcl:col<l.length:=by omega
 have hsv:=hs.qv hB;obtain⟨x,hx⟩:∃x,l[col]=x:=⟨_,rfl⟩;have hg:Hid (l.getD col 0=x):=hid (by simp[List.getD_eq_getElem?_getD,hcl,hx]);have hx':=hid hx;clear hl hB hx;rw[hg.out];by_cases h0:x=0
 ·have hr:Hid (decide (x≠0)=false):=hid (by simp[h0])
  have hs0:Hid (x.num.sign=0):=hid (by rw[h0];rfl);rw[hr.out];clear h0;go_enter Tryz.func252,Tryz.ntmps252
  go_wp2_with (first|(with_reducible refine a1E a1c (by omega) (by assumption) ?_)|((with_reducible show wpList _ _ _ (⟨_, .load 32 _,_,_,_,_⟩::_) _ _);refine a0M a0s col hsv hcl rfl (by simp) QV.agg ?_;intro u5 hu5;rw[hx'.out]at hu5;obtain⟨s5,a5,n5,c5,d5,k5,e5,rfl⟩:=hu5.shape))
  refine(b2K X w _ x hX hu5).mono ?_;rintro e w7 ⟨hE7,rfl⟩;rw[hs0.out];go_wp2_with fail
  go_ret
  exact⟨hE7,rfl⟩
 ·have hr:Hid (decide (x≠0)=true):=hid (by simp[h0])
  have hs0:((x.num.sign:Int) !=0)=true:=a7i (by intro h;exact h0 (Rat.num_eq_zero.1 (Int.sign_eq_zero_iff_zero.1 h)));rw[hr.out];clear h0;go_enter Tryz.func252,Tryz.ntmps252
  go_wp2_with (first|(with_reducible refine a1E a1c (by omega) (by assumption) ?_)|((with_reducible show wpList _ _ _ (⟨_, .load 32 _,_,_,_,_⟩::_) _ _);refine a0M a0s col hsv hcl rfl (by simp) QV.agg ?_;intro u5 hu5;rw[hx'.out]at hu5;obtain⟨s5,a5,n5,c5,d5,k5,e5,rfl⟩:=hu5.shape))
  refine(b2K X w _ x hX hu5).mono ?_;rintro e w7 ⟨hE7,rfl⟩;generalize x.num.sign=sg at hs0;go_wp2_with fail
  go_ret
  exact⟨hE7,rfl⟩
set_option maxRecDepth 100000 in
theorem a6Y (X:Nat->Bool) (w:World) (a:Option Addr) (l:List (List Rat)) (n c nc col b:Nat) (hX:HX X w) (hs:Sl RC 1 (mk X w) a l) (hl:l.length=n) (hn:n<=1000000) (hr:∀r∈l,r.length=nc) (hcol:col<nc) (hB:BM 68719476736 l) (hb:w.cell? ⟨b,0,none⟩=some (.int .i64 (col:Int))):
  Calls Tryz.prog 251 #[.slice a n c, .func (.func 252) #[] #[.pointer (some ⟨b,0,none⟩)]] w (fun e w'=>Ext w w'/\e= .returned (.int .i64 (b7a (l.findIdx? fun r=>decide (r.getD col 0≠0))))):=by
 have hh:Hd a n:=by have:=hs.hd;rw[hl]at this;exact this
 have hl':=hid hl;have hr':=hid hr;have hB':=hid hB;have hres1:Hid (∀i (hi:i<l.length),(∀q (hq:q<l.length),q<i->l[q].getD col 0=0)->l[i].getD col 0≠0->l.findIdx? (fun r=>decide (r.getD col 0≠0))=some i):=hid fun i hi h1 h2=>by
  rw[List.findIdx?_eq_some_iff_getElem];exact⟨hi,by simpa using h2,fun q hq=>by simpa using h1 q (by omega) hq⟩
 have hres2:Hid ((∀q (hq:q<l.length),l[q].getD col 0=0)->l.findIdx? (fun r=>decide (r.getD col 0≠0))=none):=hid fun h1=>by
  rw[List.findIdx?_eq_none_iff];intro r hr;obtain⟨q,hq,rfl⟩:=List.getElem_of_mem hr;simpa using h1 q hq
 obtain⟨F,hF⟩:∃F,l.findIdx? (fun r=>decide (r.getD col 0≠0))=F:=⟨_,rfl⟩;rw[hF]at hres1 hres2 |-;clear hl hr hB hF;go_enter Tryz.func251,Tryz.ntmps251
 go_wp2_with fail
 go_loopw [8] (fun k wr=>∃(i:Nat),k= .int .i64 i/\i<=n/\Hid (∀q (hq:q<l.length),q<i->l[q].getD col 0=0)/\Ext w wr) (fun k _=>n - (intOf k).toNat)
 case atStart=>exact⟨0,rfl,Nat.zero_le _,hid (fun q hq h=>by omega),ExtX.refl _⟩
 case round=>
  obtain⟨i,rfl,hi,hok,hE⟩:=hrel;by_cases hlt:i<n
  ·have hil:i<l.length:=by rw[hl'.out];exact hlt
   obtain⟨a1,c1,hX1,hc1,hcl1,hq1⟩:=(hs.mono RC.mono (a0h hE)).row i hil;have k00:=hc1.out noY wr (ExtX.refl _) rfl;have hrl:=hid (hr'.out l[i] (List.getElem_mem _));have hbl:=hid (hB'.out l[i] (List.getElem_mem _));rw[hrl.out]at k00;have hcell:=hE.cell hb;have hcall:=a8o X wr a1 l[i] nc c1 col b (hX.ext hE) hq1 hrl.out hcol hbl.out hcell;by_cases h0:l[i].getD col 0=0
   ·have hd:Hid (decide (l[i].getD col 0≠0)=false):=hid (decide_eq_false (fun h=>h h0))
    rw[hd.out]at hcall;have hok2:Hid (∀q (hq:q<l.length),q<i+1->l[q].getD col 0=0):=hid fun q hq hqi=>by
     by_cases e:q=i
     ·subst e;exact h0
     ·exact hok.out q hq (by omega)
    clear h0 hc1 hq1;go_wp2_with (with_reducible refine a0o a0A (by omega) (by assumption) ?_)
    refine hcall.mono ?_;rintro e w5 ⟨hE5,rfl⟩;clear k00;go_wp2_with fail
    go_roundw
    case rel=>exact⟨i+1,by go_num,by omega,hok2,hE.trans hE5⟩
    case measure=>simp[intOf];omega
   ·have hd:Hid (decide (l[i].getD col 0≠0)=true):=hid (decide_eq_true h0)
    rw[hd.out]at hcall;have hf:=hid (hres1.out i hil (fun q hq hqi=>hok.out q hq hqi) h0);clear h0 hc1 hq1;go_wp2_with (with_reducible refine a0o a0A (by omega) (by assumption) ?_)
    refine hcall.mono ?_;rintro e w5 ⟨hE5,rfl⟩;clear k00;go_wp2_with fail
    go_ret
    exact⟨hE.trans hE5,a0K (by rw[hf.out];rfl)⟩
  ·have hf:=hid (hres2.out fun q hq=>hok.out q hq (by rw[hl'.out]at hq;omega))
   go_wp2_with fail
   go_ret
   exact⟨hE,a0K (by rw[hf.out];rfl)⟩
end Go.Proofs.YtoibhmjjhgaimaaGreat
namespace Go.Lin
theorem a5o {m:Mat} {i:Nat} (h:i<m.length):m.getD i []=m[i]:=by simp[List.getD_eq_getElem?_getD,h]
theorem a9Y (m:Mat) (t col:Nat):clear m t col 0=m:=by
 unfold clear rows;refine List.ext_getElem (by simp) fun q h1 h2=>?_;rw[List.getElem_mapIdx,if_neg (by omega)]
theorem a2C {m:Mat} {t col s i:Nat} (h:i<(clear m t col s).length) (h2:i<m.length):(clear m t col s)[i]=if t<i/\i<t+1+s then a3J m[i] (m.getD t []) col else m[i]:=by
 show(m.mapIdx _)[i]'(by simpa using h2)=_
 rw[List.getElem_mapIdx]
theorem a2i (m:Mat) (t col s:Nat):(clear m t col s).length=m.length:=by simp[clear,rows]
theorem b1d {m:Mat} {t col s:Nat} (h:t+1+s<m.length):(clear m t col s).set (t+1+s) (a3J m[t+1+s] (m.getD t []) col)=clear m t col (s+1):=by
 refine List.ext_getElem (by simp[a2i]) fun q h1 h2=>?_;have hq:q<m.length:=by rw[a2i]at h2;exact h2
 rw[List.getElem_set,a2C h2 hq];split
 ·subst_vars;rw[if_pos (by omega)]
 ·rw[a2C (by simpa[a2i]using hq) hq]
  by_cases a:t<q/\q<t+1+s
  ·rw[if_pos a,if_pos (by omega)]
  ·rw[if_neg a,if_neg (by omega)]
theorem a9Z {m:Mat} {t col s s':Nat} (h:m.length<=t+1+s) (h':m.length<=t+1+s'):clear m t col s=clear m t col s':=by
 refine List.ext_getElem (by simp[a2i]) fun q h1 h2=>?_;have hq:q<m.length:=by rw[a2i]at h2;exact h2
 rw[a2C h1 hq,a2C h2 hq];by_cases a:t<q
 ·rw[if_pos (by omega),if_pos (by omega)]
 ·rw[if_neg (by omega),if_neg (by omega)]
end Go.Lin
namespace Go.Rep
open Go.RowKit Go.Lim Go.Lin
theorem b2S {hs:List Hdr} {i k:Nat} (hi:i<hs.length) (hk:k<hs.length):obs ((hs.set i hs[k]).set k hs[i])=obs hs:=by
 funext b
 rw[Bool.eq_iff_iff];constructor
 ·intro h
  obtain⟨q,hq,h2⟩:=a3x h;simp only[List.length_set]at hq;rw[List.getElem_set]at h2;split at h2
  ·exact a1s hi h2
  ·rw[List.getElem_set]at h2
   split at h2
   ·exact a1s hk h2
   ·exact a1s hq h2
 ·intro h
  obtain⟨q,hq,h2⟩:=a3x h;by_cases a:q=i
  ·subst a
   refine a1s (i:=k) (by simpa using hk) ?_;rw[List.getElem_set_self];exact h2
  ·by_cases b':q=k
   ·subst b'
    refine a1s (i:=i) (by simpa using hi) ?_;rw[List.getElem_set_ne (by omega),List.getElem_set_self];exact h2
   ·refine a1s (i:=q) (by simpa using hq) ?_
    rw[List.getElem_set_ne (by omega),List.getElem_set_ne (by omega)];exact h2
section
variable {X:Nat->Bool} {base:Nat} {e1 e2:TypeId} {w w':World} {ao:Option Addr} {cap:Nat} {hs:List Hdr} {m:List (List Rat)}
theorem b1e {m:Mat} {i k q:Nat} (hi:i<m.length) (hk:k<m.length) (hq:q<(a0W m i k).length):(a0W m i k)[q]=if q=k then m[i]else if q=i then m[k]else m[q]'(by simpa[a0W]using hq):=by
 simp only[a0W,a5o hi,a5o hk];rw[List.getElem_set];by_cases a:k=q
 ·rw[if_pos a,if_pos a.symm]
 ·rw[if_neg a,if_neg (Ne.symm a),List.getElem_set]
  by_cases b:i=q
  ·rw[if_pos b,if_pos b.symm]
  ·rw[if_neg b,if_neg (Ne.symm b)]
theorem b2T {hs:List Hdr} {i k q:Nat} (hi:i<hs.length) (hk:k<hs.length) (hq:q<((hs.set i hs[k]).set k hs[i]).length):((hs.set i hs[k]).set k hs[i])[q]=if q=k then hs[i]else if q=i then hs[k]else hs[q]'(by simpa using hq):=by
 rw[List.getElem_set];by_cases a:k=q
 ·rw[if_pos a,if_pos a.symm]
 ·rw[if_neg a,if_neg (Ne.symm a),List.getElem_set]
  by_cases b:i=q
  ·rw[if_pos b,if_pos b.symm]
  ·rw[if_neg b,if_neg (Ne.symm b)]
theorem MO.swap (h:MO X base e1 e2 w ao cap hs m) {i k:Nat} (hi:i<hs.length) (hk:k<hs.length) (hE:ExtX (ob ao) w w') (ho:OL HdR 1 X base e1 w' ao cap ((hs.set i hs[k]).set k hs[i])):MO X base e1 e2 w' ao cap ((hs.set i hs[k]).set k hs[i]) (a0W m i k):=by
 have hl:=h.len;refine h.perm (fun q=>if q=k then i else if q=i then k else q) (fun q hq=>?_) (fun a b ha hb hab=>?_) (fun q hq=>?_) (by simp) (by simp[a0W]) (fun q hq hq'=>?_) (fun q hq hq'=>?_) hE ho
 ·split
  ·exact hi
  ·split
   ·exact hk
   ·exact hq
 ·split at hab<;>split at hab<;>(try split at hab)<;>(try split at hab)<;>omega
 ·by_cases a:q=i
  ·exact⟨k,hk,by simp[a]⟩
  ·by_cases b:q=k
   ·refine⟨i,hi,?_⟩
    by_cases c:i=k
    ·omega
    ·simp[c,b]
   ·exact⟨q,hq,by simp[a,b]⟩
 ·rw[b2T hi hk hq]
  by_cases a:q=k
  ·simp[a]
  ·by_cases b:q=i
   ·subst b;simp[a]
   ·simp[a,b]
 ·rw[b1e (by omega) (by omega) hq]
  by_cases a:q=k
  ·simp[a]
  ·by_cases b:q=i
   ·subst b;simp[a]
   ·simp[a,b]
end
section
variable {P:Program} {ops:Array Oper} {Q:Exit->Act->World->Prop} {rest:List Oper} {a:Act} {w:World}
variable {d:Option Tmp} {ty:TypeId} {ps:String} {af:Array Edge}
theorem b2U {t e by_:Nat} {z:Value} {x lo:Operand} {k1:IntKind} {m:Int} {ao:Option Addr} {cap:Nat} (T:SliceT P t e 1 by_ z) (n i:Nat) (hx:a.eval x= .slice ao n cap) (hlo:a.eval lo= .int k1 m) (hm:m=(i:Int)) (hd:Hd ao n) (hi:i<=n) (hc:n<=cap)
  (K:∀ao',(∀k,k<n - i->adr ao' k=adr ao (i+k))->Hd ao' (n - i)->wpList P ops Q rest (a.put d (.slice ao' (n - i) (cap - i))) w):
  wpList P ops Q (⟨d, .slice t x (some lo) none none,ty,ps,af,none⟩::rest) a w:=by
 refine wpList_plain rfl fun K' hK'=>?_;subst hm;have hr:=a3X (P:=P) (ao:=ao) T n cap k1 i hi hc w;have:=K (a1T ao i cap 1) (fun k hk=>by
  obtain⟨b,off,rfl⟩:=hd (by omega);have hm:¬cap=i:=by omega
  simp[a1T,hm,Addr.add_lit,adr,Nat.add_assoc]) (fun hn=>by
  obtain⟨b,off,rfl⟩:=hd (by omega);have hm:¬cap=i:=by omega
  exact⟨b,off+i*1,by simp[a1T,hm,Addr.add_lit]⟩)
 unfold Oper.wp;simp[execOp,hx,hlo,hr,Result.andThen];exact hK' _ _ this
end
end Go.Rep
namespace Go.Lin
theorem b1f (m:Mat) (k:Nat):eN m (k+1)=a5v (eN m k) k:=rfl
theorem a8p {n c B t i col:Nat} {m:Mat} (_hs:Shp n c m) (h:HB B m) (_ht:t<n) (_hi:i<n) (hB:5*B<=68719476736):
  Go.Rep.BR 68719476736 (m.getD i [])/\Go.Rep.BR 68719476736 (m.getD t [])/\Go.Lim.hq ((m.getD i []).getD col 0/(m.getD t []).getD col 0)<=68719476736/\∀x∈m.getD t [],Go.Lim.hq ((m.getD i []).getD col 0/(m.getD t []).getD col 0*x)<=68719476736:=by
 have hrow:∀k,Go.Rep.BR B (m.getD k []):=fun k q hq=>by
  obtain⟨j,hj,rfl⟩:=List.getElem_of_mem hq;have e:(m.getD k []).getD j 0=(m.getD k [])[j]:=by rw[List.getD_eq_getElem?_getD,List.getElem?_eq_getElem hj];rfl
  rw[<-e];exact h k j
 have h1:=h i col;have h2:=h t col;unfold ent at h1 h2;have h3:=Go.Lim.hq_div ((m.getD i []).getD col 0) ((m.getD t []).getD col 0);refine⟨fun q hq=>Nat.le_trans (hrow i q hq) (by omega),fun q hq=>Nat.le_trans (hrow t q hq) (by omega),by omega,fun x hx=>?_⟩;have h4:=hrow t x hx;have h5:=Go.Lim.hq_mul ((m.getD i []).getD col 0/(m.getD t []).getD col 0) x;omega
theorem HB.bm {B:Nat} {m:Mat} (h:HB B m):Go.Rep.BM B m:=fun r hr q hq=>by
 obtain⟨i,hi,rfl⟩:=List.getElem_of_mem hr;obtain⟨j,hj,rfl⟩:=List.getElem_of_mem hq;have:=h i j;simpa[ent,List.getD_eq_getElem?_getD,hi,hj]using this
end Go.Lin
namespace Go.Rep
theorem Sl.fromA {α:Type} {R:Mem->Value->α->Prop} {h:Mem} {ao ao':Option Addr} {l:List α} (s:Sl R 1 h ao l) (i:Nat) (ha:∀k,k<l.length - i->adr ao' k=adr ao (i+k)) (hd:Hd ao' (l.length - i)):Sl R 1 h ao' (l.drop i):=by
 refine⟨by rw[List.length_drop];exact hd,fun k hk=>?_⟩;rw[List.length_drop]at hk;obtain⟨u,h1,h2,h3⟩:=s.2 (i+k) (by omega);refine⟨u,h1,fun j hj=>?_,by simpa using h3⟩;have hj0:j=0:=by omega
 subst hj0;have:=h2 0 hj;simp only[Nat.mul_one,Nat.add_zero]at this |-;rw[ha k hk];exact this
theorem b4W {ao:Option Addr} {n i:Nat} (hd:Hd ao n) (hn:0<n) (k:Nat):adr (Option.map (fun x=>x.add i) ao) k=adr ao (i+k):=by
 obtain⟨b,off,rfl⟩:=hd hn;simp[Addr.add_lit,adr,Nat.add_assoc]
theorem a0b.pure (k:IntKind):∀h h' u x,a0b k h u x->a0b k h' u x:=fun _ _ _ _ h=>h
theorem b6m {ao:Option Addr} {n i m:Nat} (hd:Hd ao n) (hn:0<n):Hd (Option.map (fun x=>x.add i) ao) m:=fun _=>by
 obtain⟨b,off,rfl⟩:=hd hn;exact⟨b,off+i,by simp[Addr.add_lit]⟩
end Go.Rep
namespace Go.Proofs.YtoibhmjjhgaimaaGreat
open Go.RowKit Go.Rep Go.Lim Go.Lin
def b7b (X:Nat->Bool) (base:Nat) (w:World) (ao:Option Addr) (cap:Nat) (hs:List Hdr) (s:St) (e:Ending) (w':World):Prop:=
 ExtX (mb ao hs) w w'/\∃po pc hs',e= .returned (.tuple #[.slice po s.2.1.length pc, .bool s.2.2])/\mb ao hs'=mb ao hs/\MO (un X po) base 45 32 w' ao cap hs' s.1/\OL (a0b .i64) 1 (mz X ao hs) w.heap.size 3 w' po pc s.2.1
set_option maxRecDepth 100000 in
set_option maxHeartbeats 1600000 in
theorem a8q (X:Nat->Bool) (base:Nat) (w:World) (ao:Option Addr) (cap n c:Nat) (hs:List Hdr) (m:List (List Rat)) (hX:HX X w) (hM:MO X base 45 32 w ao cap hs m) (hsh:Shp n c m) (hc:a0L m=c) (hn:n<=900) (hcc:c<=900) (hT:a8c m c):
  Calls Tryz.prog 218 #[.slice ao n cap] w (b7b X base w ao cap hs (eN m c)):=by
 have hml:=hid hsh.1;have hmc:MC (mk X w) (.slice ao n cap) m:=by have:=hM.mc;rw[hml.out]at this;exact this
 have hcol:=a4a X w _ m hmc;rw[hc]at hcol;have hlen:=hid (hM.len.trans hml.out);have hcap:n<=cap:=by have:=hM.capLen;rw[hml.out]at this;exact this
 have hhO:Hd ao n:=by have:=hM.outer.hd;rw[hlen.out]at this;exact this
 have hn0:Hid (n=0->c=0):=hid fun h=>by
  have:m= []:=List.eq_nil_of_length_eq_zero (by rw[hml.out];exact h);rw[<-hc,this];rfl
 have hsh':=hid hsh;obtain⟨B,hB7,hBj⟩:=hT;have hB':=hid hBj;have hBB':=hid hB7;have hund:un X none=X:=by funext k;simp[un,ob]
 have hMu:MO (un X none) base 45 32 w ao cap hs m:=by rw[hund];exact hM
 have hXz:=hM.hz hX;clear hsh hBj hB7 hc hmc;go_enter Tryz.func218,Tryz.ntmps218
 go_wp2_with fail
 refine hcol.mono ?_;rintro e w1 ⟨rfl,rfl⟩;clear hcol;go_wp2_with fail
 go_loopw [2,3,11] (fun p o k wr=>∃(j:Nat) (po:Option Addr) (pc pl:Nat) (hs':List Hdr) (M:Mat) (P:List Nat) (od:Bool),k= .int .i64 j/\p= .slice po pl pc/\o= .bool od/\j<=c/\Hid (P.length=pl)/\Hid (eN m j=(M,P,od))/\Hid (j<c->pl<n)/\MO (un X po) base 45 32 wr ao cap hs' M/\OL (a0b .i64) 1 (mz X ao hs) w1.heap.size 3 wr po pc P/\Hid (mb ao hs'=mb ao hs)/\ExtX (mb ao hs) w1 wr) (fun _ _ k _=>c - (intOf k).toNat)
 case atStart=>exact⟨0,none,0,0,hs,m,[],false,rfl,rfl,rfl,Nat.zero_le _,hid rfl,hid rfl,hid (fun h=>by have:=hn0.out;omega),hMu,OL.nil _ _ _ _ _ _,hid rfl,ExtX.refl _⟩
 case round=>
  obtain⟨j,po,pc,pl,hs',M,P,od,rfl,rfl,rfl,hj,hpl,hst,hpn,hM,hP,hmb,hE⟩:=hrel;by_cases hlj:j<c
  ·have hpn2:=hpn.out hlj
   have hok:=a9K hsh'.out j;rw[hst.out]at hok;have hshM:Shp n c M:=hok.shp;have hMl:=hid hshM.1;have hhl:=hid (hM.len.trans hMl.out);have hXr:HX X wr:=hX.ext hE;have hXu:HX (un X po) wr:=fun k hk=>by
    by_cases hx:X k=true
    ·exact hXr k hx
    ·exact(hP.block (by simpa[un,hx]using hk)).2
   have hBM:HB B M:=by have:=hB'.out j (by omega);rw[hst.out]at this;exact this
   have hb5':5*B<=68719476736:=by have:=hBB'.out;omega
   have hBM2:=hid (hBM.bm);have hEb:Ext wr (wr.alloc (.cells #[.int .i64 (j:Int)] 3)):=(ExtX.refl wr).alloc _;have hbx:(wr.alloc (.cells #[.int .i64 (j:Int)] 3)).cell? ⟨wr.heap.size,0,none⟩=some (.int .i64 (j:Int)):=a1u 0 rfl;have hM1:=hM.ext0 hEb;have hP1:=hP.ext0 (a0b.elem _) hEb;have hX1:=hXu.ext hEb;have hSl:Sl RC 1 (mk (un X po) (wr.alloc (.cells #[.int .i64 (j:Int)] 3))) ao M:=by
    obtain⟨_,_,heq,_,h3⟩:=hM1.mc;simp only[Value.slice.injEq]at heq;obtain⟨rfl,_,rfl⟩:=heq;exact h3
   obtain⟨bw,hbw⟩:∃bw,wr.heap.size=bw:=⟨_,rfl⟩;obtain⟨w2,hw2⟩:∃w2,wr.alloc (.cells #[.int .i64 (j:Int)] 3)=w2:=⟨_,rfl⟩;rw[hw2]at hEb hbx hM1 hP1 hX1 hSl;rw[hbw]at hbx;have hpbw:Hid (ob po bw=false):=hid (by rw[<-hbw];exact hP.ob_ge (Nat.le_refl _));have hobw:Hid (ob ao bw=false):=hid (by rw[<-hbw];exact hM.outer.ob_ge (Nat.le_refl _));have hw2':=hid hw2;have hbw':=hid hbw;have hn1:0<n:=by omega
   have hmd:Hid (n - pl=(M.drop pl).length):=hid (by rw[List.length_drop,hMl.out]);have hSd:Sl RC 1 (mk (un X po) w2) (Option.map (fun x=>x.add pl) ao) (M.drop pl):=hSl.fromA pl (fun k _=>b4W hhO hn1 k) (b6m hhO hn1);have hrows:Hid (∀r∈M.drop pl,r.length=c):=hid fun r hr=>hshM.2 r (List.mem_of_mem_drop hr);have hbmd:Hid (BM 68719476736 (M.drop pl)):=hid fun r hr q hq=>Nat.le_trans (hBM2.out r (List.mem_of_mem_drop hr) q hq) (by omega);have hix:=a6Y (un X po) w2 _ (M.drop pl) (n - pl) (cap - pl) c j bw hX1 hSd hmd.out.symm (by omega) hrows.out hlj hbmd.out hbx;obtain⟨F,hF⟩:∃F,(M.drop pl).findIdx? (fun r=>decide (r.getD j 0≠0))=F:=⟨_,rfl⟩;rw[hF]at hix;have hnz:Hid (b0q M P.length j=F):=hid (by rw[hpl.out];exact hF);clear hF hSd hSl;go_wp2_with fail
   refine hix.mono ?_;rintro e w3 ⟨hE3,rfl⟩;have hM3:=hM1.ext0 hE3;have hP3:=hP1.ext0 (a0b.elem _) hE3;have hb3:=hE3.cell hbx;have hE03:=hE.trans (ExtX.of (hEb.trans hE3));clear hM1 hP1 hix hbx hw2
   match F,hnz with
   |none,hnz=>
    have hst2:Hid (eN m (j+1)=(M,P,od)):=hid (by
     rw[b1f,hst.out];unfold a5v;dsimp only;split
     ·rfl
     ·rw[hnz.out])
    simp only[b7a];go_wp2_with fail
    go_roundw
    case rel=>exact⟨j+1,po,pc,pl,hs',M,P,od,by go_num,rfl,rfl,by omega,hpl,hst2,hid (fun _=>hpn2),hM3,hP3,hmb,hE03⟩
    case measure=>simp[intOf];omega
   |some q,hnz=>
    obtain⟨hq1,hq2⟩:=a3j hnz.out;rw[hpl.out,hMl.out]at hq1;have hq0:¬(q:Int)<0:=by omega
    simp only[b7a];clear hq2;have hr1:pl+q<hs'.length:=by rw[hhl.out];exact hq1
    have hr2:pl<hs'.length:=by rw[hhl.out];exact hpn2
    obtain⟨a1,n1,c1,hh1⟩:∃a n c,hs'[pl]=(a,n,c):=⟨_,_,_,rfl⟩;obtain⟨a2,n2,c2,hh2⟩:∃a n c,hs'[pl+q]=(a,n,c):=⟨_,_,_,rfl⟩;have hO0:=hM3.outer;obtain⟨z1,zf1⟩:=hM3.hdr pl hr2;obtain⟨z2,zf2⟩:=hM3.hdr (pl+q) hr1;rw[hh1]at z1;rw[hh2]at z2
    dsimp only at z1 z2
    have k1:w3.cell? (adr ao pl)=some (.slice a1 n1 c1):=z1;have k2:w3.cell? (adr ao (pl+q))=some (.slice a2 n2 c2):=z2;have f1:w3.frozen? (adr ao pl)=false:=zf1;have f2:w3.frozen? (adr ao (pl+q))=false:=zf2;obtain⟨hO1,hE4⟩:=hO0.set1 a3R HdR.elem HdR.one pl hr2 (.slice a2 n2 c2) (a2,n2,c2) rfl;obtain⟨u3,k3,f3,hu3⟩:=hO1.cell HdR.one (pl+q) (by simpa using hr1);have hu3':u3= .slice a2 n2 c2:=by
     have e:(hs'.set pl (a2,n2,c2))[pl+q]'(by simpa using hr1)=(a2,n2,c2):=by
      rw[List.getElem_set];split
      ·rfl
      ·exact hh2
     rw[e]at hu3;exact hu3
    rw[hu3']at k3;obtain⟨hO2,hE5⟩:=hO1.set1 a3R HdR.elem HdR.one (pl+q) (by simpa using hr1) (.slice a1 n1 c1) (a1,n1,c1) rfl;have hE6:=(hE4.trans hE5).drew;have hO2:=hO2.ext0 HdR.elem (ExtX.refl (Y:=noY) _).drew;rw[<-hh1,<-hh2]at hO2;have i1:∀W,(Instr.indexAt 25 (.slice ao n cap) (.int .i64 (pl:Int))).run Tryz.prog W= .ok (.pointer (some (adr ao pl))) W:=a0I a0A ao n cap .i64 pl hhO (by omega) rfl;have i2:∀W,(Instr.indexAt 25 (.slice ao n cap) (.int .i64 ((pl:Int)+(q:Int)))).run Tryz.prog W= .ok (.pointer (some (adr ao (pl+q)))) W:=a0I a0A ao n cap .i64 (pl+q) hhO (by omega) (by omega);have ew:IntKind.i64.wrap ((pl:Int)+(q:Int))=(pl:Int)+(q:Int):=IntWalk.i64_in _ (by omega);have hM5:=hM3.swap hr2 hr1 hE6 hO2;have hX5:=hX1.ext hE3;have hP5:OL (a0b .i64) 1 (mz X ao hs) w1.heap.size 3 _ po pc P:=hP3.frame (a0b.pure _) hE6 (fun k hk=>by
     cases hb:ob ao k
     ·rfl
     ·have:=(hM3.out_sep hb).1;rw[a0q hk]at this;simp at this) hP3.1
    have hb5:=hE6.cellY hb3 hobw.out;clear hu3 hu3' hO0 hO1 hO2 z1 z2 zf1 zf2 hh1 hh2 hE4 hE5;go_wp2_with fail
    go_region
    obtain⟨w5,hw5⟩:∃w5,((w3.setCell (adr ao pl) (.slice a2 n2 c2)).setCell (adr ao (pl+q)) (.slice a1 n1 c1)).drew=w5:=⟨_,rfl⟩;rw[hw5]at hM5 hP5 hb5 hE6 |-;have hE05:=hE03.trans (ExtX.weaken hE6 fun k _ hk=>(b4U hk).1);have hX5:=hX5.ext hE6;have hXz5:=hXz.ext hE05;have hbase5:=hE05.size;clear k1 k2 k3 f1 f2 f3 i1 i2 hw5 hb3;have hpl5:pl+1<=n:=hpn2;go_wp2_with (first|((with_reducible show wpList _ _ _ (⟨_, .slice _ _ _ _ _,_,_,_,_⟩::_) _ _);refine b2U a0A n (pl+1) rfl rfl (by omega) hhO hpl5 hcap ?_;intro ao3 ha3 hd3;replace ha3:=hid ha3)|(at_builtin;refine a0H (l:=P) a0S rfl (a0b.elem .i64) hbase5 hXz5 pl hpl.out rfl rfl hP5 (.int .i64 (j:Int)) j rfl rfl (by omega) (by omega) ?_;intro po2 pc2 w6 hP6 hE7 hor;have b6:=hE7.cellY hb5 hpbw.out))
    have hM6:MO (un X po2) base 45 32 w6 ao cap _ _:=hM5.ext (X':=un X po2) hE7 (fun k _ hk=>a0q hk) (fun k hk hz=>by
     by_cases hx:X k=true
     ·exact a0p hx
     ·have h2:ob po2 k=true:=by simpa[un,hx]using hz
      rcases hor with rfl|⟨g,rfl,hg⟩
      ·exact a0q h2
      ·have:g=k:=by simpa[ob]using h2
       omega)
    have hE06:ExtX (mb ao hs) w1 w6:=hE05.then_ hE7 fun k hk _=>hP5.ob_lt hk;have hmb2:Hid (mb ao ((hs'.set pl hs'[pl+q]).set (pl+q) hs'[pl])=mb ao hs):=hid (by rw[<-hmb.out];exact(b1b (X:=X) fun k=>by rw[b2S hr2 hr1]).1);have hh2l:Hid (((hs'.set pl hs'[pl+q]).set (pl+q) hs'[pl]).length=n):=hid (by simp[hhl.out]);have hsh2:Shp n c (a0W M pl (pl+q)):=hshM.swap hpn2 hq1;have hBM2':HB B (a0W M pl (pl+q)):=hBM.swap hshM hpn2 hq1;have hst2:Hid (eN m (j+1)=(clear (a0W M pl (pl+q)) pl j n,P++[j],od !=decide (q≠0))):=hid (by
     rw[b1f,hst.out];unfold a5v;dsimp only;rw[if_neg (by rw[hpl.out,hMl.out];omega),hnz.out]
     dsimp only
     rw[hpl.out,hMl.out])
    have hbnd:Hid (∀i,i<n->BR 68719476736 ((a0W M pl (pl+q)).getD i [])/\BR 68719476736 ((a0W M pl (pl+q)).getD pl [])/\hq (((a0W M pl (pl+q)).getD i []).getD j 0/((a0W M pl (pl+q)).getD pl []).getD j 0)<=68719476736/\∀x∈(a0W M pl (pl+q)).getD pl [],hq (((a0W M pl (pl+q)).getD i []).getD j 0/((a0W M pl (pl+q)).getD pl []).getD j 0*x)<=68719476736):=hid fun i hi=>a8p hsh2 hBM2' hpn2 hi hb5';have hmbw:Hid (mb ao hs bw=false):=hid (by
     rw[<-hmb.out];cases hb:mb ao hs' bw
     ·rfl
     ·have:=(hM.mb_block hb).2;omega)
    obtain⟨hs2,hhs2⟩:∃hs2,(hs'.set pl hs'[pl+q]).set (pl+q) hs'[pl]=hs2:=⟨_,rfl⟩;obtain⟨M2,hM2⟩:∃M2,a0W M pl (pl+q)=M2:=⟨_,rfl⟩;rw[hhs2]at hM6 hmb2 hh2l;rw[hM2]at hM6 hsh2 hBM2' hst2 hbnd;clear hhs2 hM2;have hM2l:=hid hsh2.1;have hX6:HX X w6:=hX.ext hE06;have hM6':MO (un X po2) base 45 32 w6 ao cap hs2 (clear M2 pl j 0):=by rw[a9Y];exact hM6
    go_loopw [54] (fun k wx=>∃(s:Nat),k= .int .i64 s/\s<=n - (pl+1)/\MO (un X po2) base 45 32 wx ao cap hs2 (clear M2 pl j s)/\OL (a0b .i64) 1 (mz X ao hs) w1.heap.size 3 wx po2 pc2 (P++[j])/\ExtX (mb ao hs) w1 wx/\wx.cell? ⟨bw,0,none⟩=some (.int .i64 (j:Int))) (fun k _=>n - (pl+1) - (intOf k).toNat)
    case atStart=>exact⟨0,rfl,Nat.zero_le _,hM6',hP6,hE06,b6⟩
    case round=>
     obtain⟨s,rfl,hs9,hM8,hP8,hE8,b8⟩:=hrel;by_cases hls:s<n - (pl+1)
     ·obtain⟨t,ht⟩:∃t,pl+1+s=t:=⟨_,rfl⟩
      have htn:t<n:=by omega
      have hth:t<hs2.length:=by rw[hh2l.out];exact htn
      have hph:pl<hs2.length:=by rw[hh2l.out];exact hpn2
      have htm:t<M2.length:=by rw[hM2l.out];exact htn
      have hpm:pl<M2.length:=by rw[hM2l.out];exact hpn2
      have htc:t<(clear M2 pl j s).length:=by rw[a2i];exact htm
      have hpc:pl<(clear M2 pl j s).length:=by rw[a2i];exact hpm
      obtain⟨a1,n1,c1,hh1⟩:∃a n c,hs2[t]=(a,n,c):=⟨_,_,_,rfl⟩;obtain⟨a2,n2,c2,hh2⟩:∃a n c,hs2[pl]=(a,n,c):=⟨_,_,_,rfl⟩;have hg1:(clear M2 pl j s)[t]=M2[t]:=by rw[a2C htc htm,if_neg (by omega)]
      have hg2:(clear M2 pl j s)[pl]=M2[pl]:=by rw[a2C hpc hpm,if_neg (by omega)]
      have hn1':n1=c:=by
       have:=hM8.rlen t hth htc;rw[hh1,hg1,hsh2.2 _ (List.getElem_mem _)]at this;exact this
      have hn2':n2=c:=by
       have:=hM8.rlen pl hph hpc;rw[hh2,hg2,hsh2.2 _ (List.getElem_mem _)]at this;exact this
      subst hn1';subst hn2';have hR1:=hM8.row t hth htc;have hR2:=hM8.row pl hph hpc;rw[hg1]at hR1;rw[hg2]at hR2;simp only[hh1]at hR1;simp only[hh2]at hR2;have hz1:=fun k (hk:ob a1 k=true)=>hM8.mz_sub hth k (by rw[hh1];exact hk);have hz2:=fun k (hk:ob a2 k=true)=>hM8.mz_sub hph k (by rw[hh2];exact hk);have hds:∀k,ob a1 k=true->ob a2 k=false:=fun k hk=>by
       have:=hM8.dis t pl hth hph (by omega) k (by rw[hh1];exact hk);rw[hh2]at this;exact this
      have hsp:=fun k (hk:ob a1 k=true)=>hM8.sep t hth k (by rw[hh1];exact hk);have hBn:=hbnd.out t htn;rw[a5o htm]at hBn;have hcs:Hid ((clear M2 pl j s).set t (a3J M2[t] (M2.getD pl []) j)=clear M2 pl j (s+1)):=hid (by subst ht;exact b1d htm);have hpe:M2.getD pl []=M2[pl]:=a5o hpm;rw[<-hpe]at hR2;have hrl1:=hid (hsh2.2 M2[t] (List.getElem_mem _));have hrl2:=hid (show(M2.getD pl []).length=n2 by rw[hpe];exact hsh2.2 _ (List.getElem_mem _));obtain⟨row,hrow⟩:∃row,M2[t]=row:=⟨_,rfl⟩;obtain⟨piv,hpiv⟩:∃piv,M2.getD pl []=piv:=⟨_,rfl⟩;rw[hrow,hpiv]at hcs;rw[hrow]at hR1 hrl1;rw[hpiv]at hR2 hrl2;rw[hrow,hpiv]at hBn;have hX8:HX (un X po2) wr:=fun k hk=>by
       by_cases hx:X k=true
       ·exact hX.ext hE8 k hx
       ·exact(hP8.block (by simpa[un,hx]using hk)).2
      have hZ8:=hM8.hz hX8;have hEd:Ext wr wr.drew:=(ExtX.refl wr).drew;have hel:=a6X (mz (un X po2) ao hs2) base wr.drew a1 a2 c1 c2 n2 j row piv hZ8 (hR1.ext0 QC.elem hEd) (hR2.ext0 QC.elem hEd) hz1 hz2 hds hrl1.out hrl2.out (by omega) hlj hBn.1 hBn.2.1 hBn.2.2.1 hBn.2.2.2;have y1:wr.cell? (adr ao3 s)=some (.slice a1 n2 c1):=by
       have:=(hM8.hdr t hth).1;rw[hh1,<-ht]at this;rw[ha3.out s hls];exact this
      have y2:wr.drew.cell? (adr ao pl)=some (.slice a2 n2 c2):=by
       have:=(hM8.hdr pl hph).1;rw[hh2]at this;exact this
      have y3:wr.drew.cell? ⟨bw,0,none⟩=some (.int .i64 (j:Int)):=b8;have haob:Hid (ob a1 (adr ao pl).block=false):=hid (by
       cases hb:ob a1 (adr ao pl).block
       ·rfl
       ·have h1:=(hsp _ hb).2
        obtain⟨b0,o0,rfl⟩:=hhO (by omega);simp[ob,adr]at h1)
      have habw:Hid (ob a1 bw=false):=hid (by
       cases hb:ob a1 bw
       ·rfl
       ·have h5:mb ao hs2 bw=true:=a3g.2 (.inr (a1s hth (show ob hs2[t].1 bw=true by rw[hh1];exact hb)))
        rw[hmb2.out,hmbw.out]at h5;simp at h5)
      have i1:∀W,(Instr.indexAt 25 (.slice ao n cap) (.int .i64 (pl:Int))).run Tryz.prog W= .ok (.pointer (some (adr ao pl))) W:=a0I a0A ao n cap .i64 pl hhO (by omega) rfl;have hh1':=hid hh1
      replace ht:=hid ht
      clear hg1 hg2 hpe hrow hpiv hh1 hh2 hR1 hR2 hBn;go_wp2_with (with_reducible refine a0o a0A (by omega) (by assumption) ?_)
      go_region_held3 (fun w'=>w'.cell? (adr ao pl)=some (.slice a2 n2 c2)/\w'.cell? ⟨bw,0,none⟩=some (.int .i64 (j:Int)))
       (first|exact⟨t1.cellY y2 haob.out,t1.cellY y3 habw.out⟩|go_keep)
       ((go_at_call 253;(with_reducible refine hel.mono ?_);rintro ee w7 ⟨rfl,t1,hO7⟩))
      have b9:=t1.cellY y3 habw.out;have hEr:ExtX (ob hs2[t].1) wr.drew w7:=by rw[hh1'.out];exact t1
      have hM9:=(hM8.ext0 hEd).upd hth (l:=a3J row piv j) hEr (fun hi'=>by
       rw[a2C htc htm,if_neg (by have:=ht.out;omega),a4e _ _ _ (by rw[hrl1.out,hrl2.out]),hrl2.out];exact(hsh2.2 _ (List.getElem_mem _)).symm) (by rw[hh1'.out];exact hO7)
      rw[hcs.out]at hM9;have hP9:=(hP8.ext0 (a0b.elem _) hEd).frame (a0b.pure _) t1 (fun k hk=>by
       cases hb:ob a1 k
       ·rfl
       ·have:=(hsp k hb).1;rw[a0q hk]at this;simp at this) hP8.1
      have hE9:=(hE8.trans (ExtX.of hEd)).trans (by rw[<-hmb2.out];exact ExtX.row hth hEr);clear y1 y2 y3 i1;go_wp2_with fail
      go_roundw
      case rel=>exact⟨s+1,by go_num,by omega,hM9,hP9,hE9,b9⟩
      case measure=>simp[intOf];omega
     ·have hfin:Hid (clear M2 pl j s=clear M2 pl j n):=hid (a9Z (by rw[hM2l.out];omega) (by rw[hM2l.out];omega))
      rw[hfin.out]at hM8;have hodd:Hid ((!(od==((q:Int) !=0)))=(od !=decide (q≠0))):=hid (by cases od<;>by_cases h:q=0<;>simp[h]);have hpl2:Hid ((P++[j]).length=pl+1):=hid (by simp[hpl.out]);by_cases hfull:pl+1=n
      ·have hne:(((pl+1:Nat):Int)==(n:Int))=true:=a8d (by omega)
       have hne2:(((pl:Int)+1)==(n:Int))=true:=a8d (by omega);have hstop:Hid (eN m c=(clear M2 pl j n,P++[j],od !=decide (q≠0))):=hid (by
        rw[b4k m (j+1) (by rw[hst2.out];dsimp only;rw[hpl2.out,a2i,hM2l.out];exact hfull) c (by omega)];exact hst2.out)
       clear hfull;go_wp2_with fail
       go_ret2
       rw[hstop.out];exact⟨hE8,po2,pc2,hs2,by rw[hpl2.out,<-hodd.out];rfl,hmb2.out,hM8,hP8⟩
      ·have hne:(((pl+1:Nat):Int)==(n:Int))=false:=a2f (by omega)
       have hne2:(((pl:Int)+1)==(n:Int))=false:=a2f (by omega);have hpn3:Hid (j+1<c->pl+1<n):=hid fun _=>by omega
       clear hfull;go_wp2_with fail
       go_roundw
       case rel=>exact⟨j+1,po2,pc2,pl+1,hs2,_,_,_,by go_num,rfl,by rw[hodd.out],by omega,hpl2,hst2,hpn3,hM8,hP8,hmb2,hE8⟩
       case measure=>simp[intOf];omega
  ·have hjc:j=c:=by omega
   subst hjc;go_wp2_with fail
   go_ret2
   rw[hst.out];exact⟨hE,po,pc,hs',by rw[hpl.out];rfl,hmb.out,hM,hP⟩
end Go.Proofs.YtoibhmjjhgaimaaGreat
namespace Go.Lin
end Go.Lin
namespace Go.Rep
end Go.Rep
namespace Go.Proofs.YtoibhmjjhgaimaaGreat
open Go.RowKit Go.Rep Go.Lim Go.Lin
end Go.Proofs.YtoibhmjjhgaimaaGreat
namespace Go.Lin
open Go.Lim
end Go.Lin
namespace Go.Proofs.YtoibhmjjhgaimaaGreat
open Go.RowKit Go.Rep Go.Lim Go.Lin
end Go.Proofs.YtoibhmjjhgaimaaGreat
namespace Go.Lin
open Go.Lim
theorem b6n {l:List Rat} {B:Nat} (h:Go.Rep.BR B l) (hB:1<=B) (x:Nat):hq (l.getD x 0)<=B:=by
 by_cases hx:x<l.length
 ·rw[List.getD_eq_getElem?_getD,List.getElem?_eq_getElem hx];exact h _ (List.getElem_mem _)
 ·rw[List.getD_eq_getElem?_getD,List.getElem?_eq_none (by omega)]
  show hq 0<=B
  rw[a2k];exact hB
def fn (l:List Rat):Nat->Rat:=fun i=>l.getD i 0
theorem NS.congr {n c:Nat} {f f':F2} {y y' b b':Nat->Rat} (h:NS n c f y b) (hf:Eqm n c f f') (hy:∀i,i<n->y i=y' i) (hb:∀j,j<c->b j=b' j):NS n c f' y' b':=fun i hi=>by
 have e1:∀j,j<c->gr n f i j=gr n f' i j:=fun j hj=>a0r fun r hr=>by rw[hf r hr i hi,hf r hr j hj]
 have e2:gy n f y i=gy n f' y' i:=a0r fun r hr=>by rw[hf r hr i hi,hy r hr]
 rw[<-e2,<-h i hi];exact a0r fun j hj=>by rw[e1 j hj,hb j hj]
theorem Nul.congr {n c:Nat} {f f':F2} {x:Nat->Rat} (h:Nul n c f x) (e:Eqm n c f f'):Nul n c f' x:=((RE.same e).nul x).1 h
end Go.Lin
namespace Go.Rep
open Go.RowKit Go.Lim
abbrev a8r (X:Nat->Bool) (fb:Nat):Nat->Bool:=un X (some ⟨fb,0,none⟩)
abbrev a5L (X:Nat->Bool) (fb:Nat) (po oo:Option Addr):Nat->Bool:=un (un (a8r X fb) po) oo
structure RS (X:Nat->Bool) (w0:World) (b fb base:Nat) (T1 T2 T3:TypeId) (w:World) (oo:Option Addr) (co:Nat) (po:Option Addr) (pc:Nat) (M:List (List Rat)) (p:List Nat) (f:Rat):Prop where
 rows:OL RC 1 (un (a8r X fb) po) base T1 w oo co M
 piv:OL (a0b .i64) 1 (un (a8r X fb) oo) base T3 w po pc p
 fac:∃s a n c d k e,Bx w fb #[.bool s, .slice a n c, .slice d k e] T2/\QC (mk (a5L X fb po oo) w) (.agg #[.bool s, .slice a n c, .slice d k e]) f
 hx:HX X w
 res:Bx w b #[.bool false, .slice none 0 0, .slice none 0 0] T2
 rb:X b=true
 fb0:fb≠b
 ext:Ext w0 w
 low:w0.heap.size<=base
 lowf:w0.heap.size<=fb
section
variable {X:Nat->Bool} {w0 w w':World} {b fb base:Nat} {T1 T2 T3:TypeId} {oo po:Option Addr} {co pc:Nat} {M M':List (List Rat)} {p:List Nat} {f f':Rat}
theorem RS.oF (h:RS X w0 b fb base T1 T2 T3 w oo co po pc M p f):ob oo fb=false:=by
 cases hb:ob oo fb
 ·rfl
 ·have:=h.rows.1 fb hb;rw[a0p (a0q (a5H fb))]at this;simp at this
theorem RS.pF (h:RS X w0 b fb base T1 T2 T3 w oo co po pc M p f):ob po fb=false:=by
 cases hb:ob po fb
 ·rfl
 ·have:=h.piv.1 fb hb;rw[a0p (a0q (a5H fb))]at this;simp at this
theorem RS.oB (h:RS X w0 b fb base T1 T2 T3 w oo co po pc M p f):ob oo b=false:=by
 cases hb:ob oo b
 ·rfl
 ·have:=h.rows.1 b hb;rw[a0p (a0p h.rb)]at this;simp at this
theorem RS.pB (h:RS X w0 b fb base T1 T2 T3 w oo co po pc M p f):ob po b=false:=by
 cases hb:ob po b
 ·rfl
 ·have:=h.piv.1 b hb;rw[a0p (a0p h.rb)]at this;simp at this
theorem RS.po_oo (h:RS X w0 b fb base T1 T2 T3 w oo co po pc M p f) (k:Nat) (hk:ob po k=true):ob oo k=false:=(a1p (h.piv.1 k hk)).2
theorem RS.flt (h:RS X w0 b fb base T1 T2 T3 w oo co po pc M p f):fb<w.heap.size:=by
 obtain⟨_,_,_,_,_,_,_,h1,_⟩:=h.fac;exact h1.lt
theorem RS.hz (h:RS X w0 b fb base T1 T2 T3 w oo co po pc M p f):HX (a5L X fb po oo) w:=fun k hk=>by
 by_cases h1:ob oo k=true
 ·exact(h.rows.block h1).2
 ·by_cases h2:ob po k=true
  ·exact(h.piv.block h2).2
  ·by_cases h3:X k=true
   ·exact h.hx k h3
   ·have h1':ob oo k=false:=by simpa using h1
    have h2':ob po k=false:=by simpa using h2
    have h3':X k=false:=by simpa using h3
    have h4:ob (some ⟨fb,0,none⟩) k=true:=by simpa[a5L,a8r,un,h1',h2',h3']using hk
    have:fb=k:=by simpa[ob]using h4
    rw[<-this];exact h.flt
theorem RS.row (h:RS X w0 b fb base T1 T2 T3 w oo co po pc M p f) (i:Nat) (hi:i<M.length):∃a c,w.cell? (adr oo i)=some (.slice a M[i].length c)/\w.frozen? (adr oo i)=false/\M[i].length<=c/\Sl QC 3 (_root_.Go.Rep.mk (a5L X fb po oo) w) a M[i]:=by
 obtain⟨u,h1,h2,a,c,rfl,h4,h5⟩:=h.rows.cell SlV.one i hi;exact⟨a,c,h1,h2,h4,h5⟩
theorem RS.ext0 (h:RS X w0 b fb base T1 T2 T3 w oo co po pc M p f) (hE:Ext w w'):RS X w0 b fb base T1 T2 T3 w' oo co po pc M p f:=by
 obtain⟨s,a,n,c,d,k,e,h1,h2⟩:=h.fac;exact⟨h.rows.ext0 RC.elem hE,h.piv.ext0 (a0b.elem _) hE,⟨s,a,n,c,d,k,e,h1.ext0 hE,mkx QC.mono h2 hE⟩,h.hx.ext hE,h.res.ext0 hE,h.rb,h.fb0,h.ext.trans hE,h.low,h.lowf⟩
theorem RS.setRows (h:RS X w0 b fb base T1 T2 T3 w oo co po pc M p f) (hE:ExtX (ob oo) w w') (hO:OL RC 1 (un (a8r X fb) po) base T1 w' oo co M'):RS X w0 b fb base T1 T2 T3 w' oo co po pc M' p f:=by
 obtain⟨s,a,n,c,d,k,e,h1,h2⟩:=h.fac;exact⟨hO,h.piv.frame (a0b.pure _) hE (fun k hk=>h.po_oo k hk) h.piv.1,⟨s,a,n,c,d,k,e,h1.ext hE h.oF,QC.mono _ _ _ _ (a0w hE fun k hk=>a0q hk) h2⟩,h.hx.ext hE,h.res.ext hE h.oB,h.rb,h.fb0,h.ext.own h.rows h.low hE,h.low,h.lowf⟩
theorem RS.setFac (h:RS X w0 b fb base T1 T2 T3 w oo co po pc M p f) (hE:ExtX (ob (some ⟨fb,0,none⟩)) w w') {s:Bool} {a:Option Addr} {n c:Nat} {d:Option Addr} {k e:Nat} (hB:Bx w' fb #[.bool s, .slice a n c, .slice d k e] T2) (hq:QC (_root_.Go.Rep.mk (a5L X fb po oo) w') (.agg #[.bool s, .slice a n c, .slice d k e]) f'):RS X w0 b fb base T1 T2 T3 w' oo co po pc M p f':=by
 have hf:∀k,ob (some ⟨fb,0,none⟩) k=true->k=fb:=fun k hk=>by
  have:fb=k:=by simpa[ob]using hk
  exact this.symm
 refine⟨h.rows.ext RC.elem hE (fun k _ hk=>a0p (a0q hk)) (fun _ _ h=>h),h.piv.frame (a0b.pure _) hE (fun k hk=>?_) h.piv.1,⟨s,a,n,c,d,k,e,hB,hq⟩,h.hx.ext hE,h.res.ext hE (a0c (Ne.symm h.fb0)),h.rb,h.fb0,h.ext.then_ hE fun k hk _=>?_,h.low,h.lowf⟩
 ·cases hb:ob (some ⟨fb,0,none⟩) k
  ·rfl
  ·have:=hf k hb;subst this;rw[h.pF]at hk;simp at hk
 ·cases hb:ob (some ⟨fb,0,none⟩) k
  ·rfl
  ·have:=hf k hb;have:=h.lowf;omega
theorem RS.push (h:RS X w0 b fb base T1 T2 T3 w oo co po pc M p f) {po2:Option Addr} {pc2 j:Nat} (hE:ExtX (ob po) w w') (hP:OL (a0b .i64) 1 (un (a8r X fb) oo) base T3 w' po2 pc2 (p++[j])) (hor:po2=po\/∃g,po2=some ⟨g,0,none⟩/\w.heap.size<=g):RS X w0 b fb base T1 T2 T3 w' oo co po2 pc2 M (p++[j]) f:=by
 obtain⟨s,a,n,c,d,k,e,h1,h2⟩:=h.fac;have hold:∀k,k<w.heap.size->ob po2 k=true->ob po k=true:=fun k hk h9=>by
  rcases hor with rfl|⟨g,rfl,hg⟩
  ·exact h9
  ·have:g=k:=by simpa[ob]using h9
   omega
 have hF:∀k,k<w.heap.size->un (a8r X fb) po2 k=true->un (a8r X fb) po k=true:=fun k hk hz=>by
  by_cases hx:a8r X fb k=true
  ·exact a0p hx
  ·exact a0q (hold k hk (by simpa[un,hx]using hz))
 refine⟨h.rows.ext RC.elem hE (fun k _ hk=>a0q hk) hF,hP,⟨s,a,n,c,d,k,e,h1.ext hE h.pF,QC.mono _ _ _ _ (a0N hE (fun k _ hk=>a0p (a0q hk)) fun k hk hz=>?_) h2⟩,h.hx.ext hE,h.res.ext hE h.pB,h.rb,h.fb0,h.ext.own h.piv h.low hE,h.low,h.lowf⟩;by_cases ho:ob oo k=true
 ·exact a0q ho
 ·exact a0p (hF k hk (by simpa[un,ho]using hz))
end
end Go.Rep
namespace Go.Lin
open Go.Lim
def a8s (m:Mat) (c:Nat):Prop:=∃B,6*B<=68719476736/\∀j,j<=c->HB B (rN m j).1/\hq (rN m j).2.2<=B
theorem b4X {n c:Nat} {m:Mat} (hs:Shp n c m) (k:Nat):(rN m k).2.1.length<=n:=(a7Y hs k).ref.le
theorem b2V {n c B:Nat} {m:Mat} (hs:Shp n c m) (h:HB B m) (hB:6*(6^n*B)<=68719476736):a8s m c:=
 ⟨6^n*B,hB,fun j _=>by
  obtain⟨h1,h2⟩:=h.rN hs j;have hp:6^(rN m j).2.1.length*B<=6^n*B:=Nat.mul_le_mul_right _ (Nat.pow_le_pow_right (by decide) (b4X hs j));exact⟨h1.mono hp,Nat.le_trans h2 hp⟩⟩
theorem b1g (m:Mat) (k:Nat):rN m (k+1)=a5w (rN m k) k:=rfl
theorem a3y {m:Mat} {i:Nat} (h:i<m.length):m.getD i []=m[i]:=by simp[List.getD_eq_getElem?_getD,h]
theorem a8t {m:Mat} {i:Nat} (h:i<m.length) (j:Nat):ent m i j=(m[i]).getD j 0:=by unfold ent;rw[a3y h]
theorem b4Y {m:Mat} {n t col:Nat} (hl:m.length=n) (h:∀q,t<=q->q<n->ent m q col=0):b0q m t col=none:=by
 unfold b0q;rw[List.findIdx?_eq_none_iff];intro r hr;obtain⟨i,hi,rfl⟩:=List.getElem_of_mem hr;rw[List.length_drop]at hi;have:=h (t+i) (by omega) (by omega);rw[a8t (by omega)]at this;simpa using this
theorem b4Z {m:Mat} {n t col a:Nat} (hl:m.length=n) (h:∀q,t<=q->q<t+a->ent m q col=0) (ha:t+a<n) (hne:ent m (t+a) col≠0):b0q m t col=some a:=by
 unfold b0q;rw[List.findIdx?_eq_some_iff_getElem];refine⟨by rw[List.length_drop];omega,?_,fun j hj=>?_⟩
 ·rw[List.getElem_drop,<-a8t (by omega)];simpa using hne
 ·rw[List.getElem_drop,<-a8t (by omega)];simpa using h (t+j) (by omega) (by omega)
theorem b2W (m:Mat) (t col:Nat):out m t col 0=m:=by
 unfold out rows;refine List.ext_getElem (by simp) fun q h1 h2=>?_;rw[List.getElem_mapIdx,if_neg (by omega)]
theorem a4b (m:Mat) (t col s:Nat):(out m t col s).length=m.length:=by simp[out,rows]
theorem a4Q {m:Mat} {t col s i:Nat} (h:i<(out m t col s).length) (h2:i<m.length):(out m t col s)[i]=if i≠t/\i<s then List.zipWith (· + ·) m[i] ((m.getD t []).map (· * - m[i].getD col 0))else m[i]:=by
 show(m.mapIdx _)[i]'(by simpa using h2)=_
 rw[List.getElem_mapIdx]
theorem b5a {m:Mat} {t col s:Nat} (h:s<m.length) (hst:s≠t):(out m t col s).set s (List.zipWith (· + ·) m[s] ((m.getD t []).map (· * - m[s].getD col 0)))=out m t col (s+1):=by
 refine List.ext_getElem (by simp[a4b]) fun q h1 h2=>?_;have hq:q<m.length:=by rw[a4b]at h2;exact h2
 rw[List.getElem_set,a4Q h2 hq];split
 ·subst_vars;rw[if_pos ⟨hst,by omega⟩]
 ·rw[a4Q (by simpa[a4b]using hq) hq]
  by_cases a:q≠t/\q<s
  ·rw[if_pos a,if_pos ⟨a.1,by omega⟩]
  ·rw[if_neg a,if_neg (by omega)]
theorem b2X {m:Mat} {t col:Nat}:out m t col t=out m t col (t+1):=by
 refine List.ext_getElem (by simp[a4b]) fun q h1 h2=>?_;have hq:q<m.length:=by rw[a4b]at h2;exact h2
 rw[a4Q h1 hq,a4Q h2 hq];by_cases a:q≠t/\q<t
 ·rw[if_pos a,if_pos ⟨a.1,by omega⟩]
 ·rw[if_neg a,if_neg (by omega)]
theorem b1h {m:Mat} {i k:Nat} (hi:i<m.length) (hk:k<m.length):(m.set i m[k]).set k m[i]=a0W m i k:=by
 unfold a0W;rw[a3y hi,a3y hk]
theorem b6o {n c:Nat} {m M:Mat} {P:List Nat} {f:Rat} {j pl a:Nat} (hs:Shp n c m) (hst:rN m j=(M,P,f)) (hpl:P.length=pl) (hz:∀q,pl<=q->q<pl+a->ent M q j=0) (ha:pl+a<n) (hne:ent M (pl+a) j≠0):
  rN m (j+1)=(out (pv (a0W M (pl+a) pl) pl j) pl j n,P++[j],(if a=0 then f else - f)*ent (a0W M (pl+a) pl) pl j):=by
 have hM:Shp n c M:=by have:=(a7Y hs j).shp;rw[hst]at this;exact this
 subst hpl;rw[b1g,hst];unfold a5w
 dsimp only
 rw[b4Z hM.1 hz ha hne]
 dsimp only
 rw[hM.1]
theorem b5b {n c:Nat} {m M:Mat} {P:List Nat} {f:Rat} {j pl:Nat} (hs:Shp n c m) (hst:rN m j=(M,P,f)) (hpl:P.length=pl) (hz:∀q,pl<=q->q<n->ent M q j=0):rN m (j+1)=(M,P,f):=by
 have hM:Shp n c M:=by have:=(a7Y hs j).shp;rw[hst]at this;exact this
 subst hpl;rw[b1g,hst];unfold a5w
 dsimp only
 rw[b4Y hM.1 hz]
end Go.Lin
namespace Go.Rep
open Go.RowKit
theorem b1i {X:Nat->Bool} {b k:Nat} (h:X b=true) (hk:ob (some ⟨b,0,none⟩) k=true):X k=true:=by
 have:b=k:=by simpa[ob]using hk
 subst this;exact h
section
variable {P:Program} {w:World}
theorem a8u {fn:Func} {tmps:Array Value} {c d e:Tmp} {t:TypeId} {n b:Nat} {cs:Array Value} {T:TypeId} (h:fn.results=#[.tmp d, .tmp e, .cell c t]) (hp:tmps.getD c undef= .pointer (some ⟨b,0,none⟩)) (hT:a1L P t n) (hb:Bx w b cs T) (hcs:cs.size=n):
  (results fn tmps).run P w= .ok (.tuple #[tmps.getD d undef,tmps.getD e undef, .agg cs]) w:=by
 have hl:=a2a (P:=P) hT hb hcs;rw[Array.getD_eq_getD_getElem?]at hp;simp[results,h,hp,asAddr,hl]
end
end Go.Rep
namespace Go.Lin
open Go.Lim Go.Rep
theorem b5c {n B:Nat} {f:Nat->Rat} (h:∀i,i<n->hq (f i)<=B):hq (sm n f)<=1+n*(B+1):=by
 induction n with
 |zero=>unfold sm;rw[a2k];omega
 |succ n ih=>
  unfold sm;have h1:=ih fun i hi=>h i (by omega);have h2:=b0A (sm n f) (f n);have h3:=h n (by omega);have e:(n+1)*(B+1)=n*(B+1)+(B+1):=Nat.succ_mul _ _;omega
theorem b2Y {l:List Rat} {B:Nat} (h:BR B l) (hB:1<=B) (i:Nat):hq (fn l i)<=B:=b6n h hB i
def a4d (p:Mat) (rows:List Nat) (j t:Nat):Rat:=sm t fun i=>ent p (rows.getD i 0) j
def a4c (p:Mat) (rows:List Nat) (d:Nat):List Rat:=(List.range d).map fun j=>a4d p rows j rows.length/((rows.length:Int):Rat)
def a5p (p:Mat) (c:List Rat) (r:Nat):List Rat:=List.zipWith (· - ·) (p.getD r []) c
def a5l (p:Mat) (rows:List Nat) (d t:Nat):Mat:=ofF d d fun j k=>sm t fun i=>fn (a5p p (a4c p rows d) (rows.getD i 0)) j*fn (a5p p (a4c p rows d) (rows.getD i 0)) k
theorem a9n (p:Mat) (rows:List Nat) (d:Nat):(a4c p rows d).length=d:=by simp[a4c]
theorem a3a (p:Mat) (rows:List Nat) (d t:Nat):Shp d d (a5l p rows d t):=b0w _ _ _
theorem b1j {n:Nat} (h:n<4294967296):hq ((n:Int):Rat)<=1:=a5z _ _ (by
 rw[a1Z];simp;rw[a1a];omega) (by decide)
theorem a8v {p:Mat} {rows:List Nat} {j t B:Nat} (hp:HB B p):hq (a4d p rows j t)<=1+t*(B+1):=b5c fun _ _=>hp _ _
theorem a6Z {p:Mat} {rows:List Nat} {d B:Nat} (hp:HB B p) (hn:rows.length<=64):BR (2+rows.length*(B+1)) (a4c p rows d):=fun q hq'=>by
 obtain⟨j,_,rfl⟩:=List.mem_map.1 hq';have h1:=hq_div (a4d p rows j rows.length) ((rows.length:Int):Rat);have h2:=b1j (n:=rows.length) (by omega);have h3:=a8v (rows:=rows) (j:=j) (t:=rows.length) hp;omega
theorem a3z {p:Mat} {c:List Rat} {r B C:Nat} (hp:BM B p) (hc:BR C c):BR (B+C+1) (a5p p c r):=fun q hq'=>by
 obtain⟨i,hi,rfl⟩:=List.getElem_of_mem hq';unfold a5p at hi |-;rw[List.getElem_zipWith];have hl:i<(p.getD r []).length/\i<c.length:=by rw[List.length_zipWith]at hi;omega
 have h2:=hc _ (List.getElem_mem hl.2);have hr:r<p.length:=by
  by_cases h:r<p.length
  ·exact h
  ·have:=hl.1
   simp[List.getD_eq_getElem?_getD,List.getElem?_eq_none (Nat.le_of_not_lt h)]at this
 have h1:hq ((p.getD r [])[i]'hl.1)<=B:=by
  have e:p.getD r []=p[r]:=by simp[List.getD_eq_getElem?_getD,hr]
  exact hp (p.getD r []) (by rw[e];exact List.getElem_mem hr) _ (List.getElem_mem hl.1)
 have:=a6i ((p.getD r [])[i]'hl.1) c[i];omega
theorem a7a {p:Mat} {rows:List Nat} {d t Z:Nat} (hd:∀r,BR Z (a5p p (a4c p rows d) r)) (hZ:1<=Z):HB (1+t*(2*Z+1)) (a5l p rows d t):=fun i j=>by
 by_cases hij:i<d/\j<d
 ·rw[show ent (a5l p rows d t) i j=_ from b0x d d _ i hij.1 j hij.2]
  exact b5c fun r _=>by
   have:=hq_mul (fn (a5p p (a4c p rows d) (rows.getD r 0)) i) (fn (a5p p (a4c p rows d) (rows.getD r 0)) j);have:=b2Y (hd (rows.getD r 0)) hZ i;have:=b2Y (hd (rows.getD r 0)) hZ j;omega
 ·have h0:ent (a5l p rows d t) i j=0:=by
   obtain⟨h1,h2⟩:=a3a p rows d t;unfold ent;by_cases hi:i<d
   ·have hj:¬j<d:=fun hj=>hij ⟨hi,hj⟩
    have hr:((a5l p rows d t).getD i []).length=d:=by
     rw[show(a5l p rows d t).getD i []=(a5l p rows d t)[i]'(by omega)by simp[List.getD_eq_getElem?_getD,show i<(a5l p rows d t).length by omega]];exact h2 _ (List.getElem_mem _)
    simp only[List.getD_eq_getElem?_getD]at hr |-;rw[List.getElem?_eq_none (by omega)];rfl
   ·rw[show(a5l p rows d t).getD i []= []by simp[List.getD_eq_getElem?_getD,List.getElem?_eq_none (show(a5l p rows d t).length<=i by omega)]];rfl
  rw[h0,a2k];omega
end Go.Lin
namespace Go.Proofs.YtoibhmjjhgaimaaGreat
open Go.RowKit Go.Rep Go.Lim Go.Lin
set_option maxRecDepth 100000 in
set_option maxHeartbeats 1600000 in
theorem b6p (X:Nat->Bool) (w:World) (u:Value) (m:List (List Rat)) (n:Nat) (hX:HX X w) (hu:MV (mk X w) u m) (hf:a1z m=true) (hn:m.length=n) (hc:a0L m=n) (hn6:n<=6) (hT:a8c m n):Calls Tryz.prog 154 #[u] w (fun e w'=>Ext w w'/\∃u,e= .returned (.tuple #[u, .int .i64 0])/\QC (mk X w') u (a9g m n)):=by
 obtain⟨hsh,h96,hc96,_,_⟩:=a5K hf;rw[hn,hc]at hsh;obtain⟨W,hW,hEW,b0,hz⟩:=a1m w #[.bool false, .slice none 0 0, .slice none 0 0] 32;have hXW:HX (a0f X w.heap.size 1) W:=hX.boxes hz;have huW:=MV.mono _ _ _ _ (a0m (nb:=1) hEW) hu;have hfo:=a9W _ W u m huW (by omega);rw[hf]at hfo;have hcol:=a4a _ W u m huW;rw[hc]at hcol;have hco:=a9X _ W u m n n hXW huW hsh hc (by omega) (by omega);have hec:=fun w' ao cap hs (h:HX (a0f X w.heap.size 1) w') hM=>a8q (a0f X w.heap.size 1) W.heap.size w' ao cap n n hs m h hM hsh hc (by omega) (by omega) hT;have hok:=a9K hsh n;obtain⟨B,hB7,hBj⟩:=hT;have hBn:=hBj n (Nat.le_refl _);have hdv:Hid (a9g m n=if(eN m n).2.2 then - pr n (fun i=>ent (eN m n).1 i i)else pr n (fun i=>ent (eN m n).1 i i)):=hid rfl;obtain⟨⟨E,p,od⟩,hS⟩:∃S,eN m n=S:=⟨_,rfl⟩;rw[hS]at hec hok hBn hdv;have hEs:Shp n n E:=hok.shp;have hEs':=hid hEs;have hpq:=hid (fun k (hk:k<=n)=>show hq (pr k (fun i=>ent E i i))<=68719476736 from by
  have h1:=b4O (f:=fun i=>ent E i i) (fun i=>hBn i i) k;have h2:k*B<=6*B:=Nat.mul_le_mul_right _ (by omega);omega)
 have heq:=hid (fun i=>show hq (ent E i i)<=68719476736 from by have h9:hq (ent E i i)<=B:=hBn i i;omega);have hnn:=hid hn;have hW2:=hid hW;obtain⟨b,hb⟩:∃b,w.heap.size=b:=⟨_,rfl⟩;have hbw:w.heap.size<=b:=by omega
 rw[hb]at b0 hz hXW huW hco hec;obtain⟨ua,uca,rfl,huca,hua⟩:=hu;rw[hn]at hfo hcol hco huW |-;clear hf hc hsh hBj hok hB7 hS hua huca h96 hc96 hBn;go_enter Tryz.func154,Tryz.ntmps154
 go_wp2_with fail
 refine hfo.mono ?_;rintro e w1 ⟨rfl,rfl⟩;go_wp2_with fail
 refine hcol.mono ?_;rintro e w2 ⟨rfl,rfl⟩;clear hW;go_wp2_with fail
 refine hco.mono ?_;rintro e w3 ⟨hE3,ao,cap,hs,rfl,hM3⟩;rw[hnn.out];have hX3:=hXW.ext hE3;go_wp2_with fail
 refine(hec w3 ao cap hs hX3 hM3).mono ?_;rintro e w4 ⟨hE4,po,pc,hs',rfl,hmb,hM4,hP4⟩;have hE04:=hM3.ext_from hE3 (Nat.le_refl _) hE4;have hX4:=hXW.ext hE04;have hmc4:=MC.mono _ _ _ _ (a1N (X:=a0f X b 1) fun k _ hk=>a0p hk) hM4.mc
 dsimp only at hmc4
 rw[hEs.1]at hmc4;obtain⟨a4,c4,heq4,hcl4,hs4⟩:=hmc4;simp only[Value.slice.injEq]at heq4;obtain⟨rfl,hx9,rfl⟩:=heq4;clear hx9;have hhO:Hd ao n:=by have:=hs4.hd;rw[hEs.1]at this;exact this
 have b04:=b0.ext0 hE04;clear hfo hcol hco hec hM3 hM4 hP4 hmb
 dsimp only
 go_wp2_with fail
 refine(b6h (a0f X b 1) w4 1 hX4 (by omega) (by omega)).mono ?_;rintro e w5 ⟨hE5,u5,rfl,hu5⟩;obtain⟨s5,a5,n5,c5,d5,k5,e5,rfl⟩:=hu5.shape;have bx:=Bx.new w5 #[.bool false, .slice none 0 0, .slice none 0 0] 32;obtain⟨bo,hbo⟩:∃bo,w5.heap.size=bo:=⟨_,rfl⟩;rw[hbo]at bx;have h1r:((1:Int):Rat)=1:=by decide+kernel
 rw[h1r]at hu5;clear h1r;have hX5:=hX4.ext hE5;have hbnew:∀j,j<w5.heap.size->ob (some ⟨bo,0,none⟩) j=false:=fun j hj=>a0c (by omega);go_wp2_with ((with_reducible show wpList _ _ _ (⟨_, .store _ _ _,_,_,_,_⟩::_) _ _);refine a0d a0s rfl rfl bx rfl rfl (a2n _ _ _ _ _ _ _) ?_;intro w6 r1 r2)
 have hE6:Ext w5 w6:=ExtX.box ((ExtX.refl w5).alloc _) r2 (by omega);have hu6:=a9h (oo:=some ⟨bo,0,none⟩) QC.mono hu5 hE6 hbnew;have hs6:=(hs4.mono RC.mono (a0h hE5)).old (oo:=some ⟨bo,0,none⟩) RC.mono hE6 hbnew;have b06:=(b04.ext0 hE5).ext0 hE6;have hsz6:=r1.lt;have hX6:HX (un (a0f X b 1) (some ⟨bo,0,none⟩)) w6:=fun k hk=>by
  by_cases hx:a0f X b 1 k=true
  ·exact hX5.ext hE6 k hx
  ·have:bo=k:=by simpa[un,hx,ob]using hk
   omega
 have hE06:=hE04.trans (hE5.trans hE6);have hbob:b<bo:=by have:=b04.lt;have:=hE5.size;omega
 have hWbo:w2.heap.size<=bo:=by have:=hE04.size;have:=hE5.size;omega
 clear bx;go_loopw [31] (fun k wr=>∃(i:Nat) (s:Bool) (a:Option Addr) (n' c':Nat) (d:Option Addr) (kk e:Nat),k= .int .i64 i/\i<=n/\Bx wr b #[.bool false, .slice none 0 0, .slice none 0 0] 32/\Bx wr bo #[.bool s, .slice a n' c', .slice d kk e] 32/\QC (mk (un (a0f X b 1) (some ⟨bo,0,none⟩)) wr) (.agg #[.bool s, .slice a n' c', .slice d kk e]) (pr i fun i=>ent E i i)/\Sl RC 1 (mk (un (a0f X b 1) (some ⟨bo,0,none⟩)) wr) ao E/\HX (un (a0f X b 1) (some ⟨bo,0,none⟩)) wr/\Ext w2 wr) (fun k _=>n - (intOf k).toNat)
 case atStart=>exact⟨0,_,_,_,_,_,_,_,rfl,Nat.zero_le _,b06,r1,hu6,hs6,hX6,hE06⟩
 case round=>
  obtain⟨i,s,a,n',c',d,kk,e,rfl,hi,b0,b1,hq,hsr,hXr,hEr⟩:=hrel;by_cases hlt:i<n
  ·have hiE:i<E.length:=by rw[hEs'.out.1];exact hlt
   have hrl:Hid (E[i].length=n):=hid (hEs'.out.2 _ (List.getElem_mem _));have hie:Hid (∀h:i<E[i].length,E[i][i]=ent E i i):=hid fun h=>by
    unfold ent;rw[show E.getD i []=E[i]by simp[List.getD_eq_getElem?_getD,hiE],List.getD_eq_getElem?_getD,List.getElem?_eq_getElem h];rfl
   obtain⟨a1,c1,hX1,hc1,hcl1,hq1⟩:=hsr.row i hiE;have k40:=hc1.out noY wr (ExtX.refl _) rfl;have hbo1:=hid (hpq.out i hi);have hbe:=hid (heq.out i);have hst:Hid (pr i (fun i=>ent E i i)*ent E i i=pr (i+1) fun i=>ent E i i):=hid rfl;obtain⟨row,hrow⟩:∃row,E[i]=row:=⟨_,rfl⟩;rw[hrow]at k40 hq1 hrl hie;rw[hrl.out]at k40;have hir:i<row.length:=by rw[hrl.out];exact hlt
   have hda:Hd a1 n:=by have:=hq1.hd;rw[hrl.out]at this;exact this
   obtain⟨g2,o2,s2,p2,n2,q2,d2,k2,e2,hg2,hX2,hc2,hq2⟩:=hq1.rat QC.shaped i hir;rw[hie.out hir]at hq2;obtain⟨y,hy⟩:∃y,ent E i i=y:=⟨_,rfl⟩;obtain⟨D,hD⟩:∃D,pr i (fun i=>ent E i i)=D:=⟨_,rfl⟩;obtain⟨D2,hD2⟩:∃D2,pr (i+1) (fun i=>ent E i i)=D2:=⟨_,rfl⟩;rw[hy]at hq2 hbe hst;rw[hD]at hq hbo1 hst;rw[hD2]at hst;have hD2':=hid hD2;have i2:∀W,(Instr.indexAt 45 (.slice a1 n c1) (.int .i64 (i:Int))).run Tryz.prog W= .ok (.pointer (some ⟨g2,o2,none⟩)) W:=by rw[<-hg2];exact a0k a1c a1 n c1 .i64 i hda (by omega)
   have hEd:Ext wr wr.drew:=(ExtX.refl wr).drew;have b05:=b0.ext0 hEd;have b15:=b1.ext0 hEd;have k00:=b15.cell 0 rfl;have k01:=b15.cell 1 rfl;have k02:=b15.cell 2 rfl;obtain⟨k20,k21,k22⟩:=hc2.out noY wr.drew hEd rfl;have hXd:HX (un (a0f X b 1) (some ⟨bo,0,none⟩)) wr.drew:=hXr;have hy5:QV (mk (un (a0f X b 1) (some ⟨bo,0,none⟩)) wr.drew) (.agg #[.bool s2, .slice p2 n2 q2, .slice d2 k2 e2]) y:=(mkx QC.mono hq2 hEd).qv hbe.out;have hq5:QV (mk (un (a0f X b 1) (some ⟨bo,0,none⟩)) wr.drew) (.agg #[.bool s, .slice a n' c', .slice d kk e]) D:=(mkx QC.mono hq hEd).qv hbo1.out;clear hrow hy hD hD2 hg2 hc1 hc2;go_wp2_with (with_reducible refine a0o a0A (by omega) (by assumption) ?_)
   go_region_with ((go_at_call 169;(with_reducible refine(b6V (un (a0f X b 1) (some ⟨bo,0,none⟩)) wr.drew _ _ _ _ hXd hq5 hy5).mono ?_);rintro ee w7 ⟨t1,u7,rfl,hu7⟩;obtain⟨s7,a7,n7,c7,d7,k7,e7,rfl⟩:=hu7.shape;rw[hst.out]at hu7;have b17:=b15.ext0 t1;have g0:=b17.cell 0 rfl;have g1:=b17.cell 1 rfl;have g2':=b17.cell 2 rfl;have f0:=b17.frozen 0;have f1:=b17.frozen 1;have f2:=b17.frozen 2))
   all_goals
    obtain⟨z1,z2⟩:=b17.set3 (.bool s7) (.slice a7 n7 c7) (.slice d7 k7 e7);have h8:=QC.mono _ _ _ _ (a0w (X:=un (a0f X b 1) (some ⟨bo,0,none⟩)) z2 fun k hk=>a0q hk) hu7;have hs8:=(hsr.mono RC.mono (a0h (hEd.trans t1))).mono RC.mono (a0w z2 fun k hk=>a0q hk);have b08:=(b05.ext0 t1).ext z2 (a0c (by omega));have hE8:Ext w2 _:=ExtX.box (hEr.trans (hEd.trans t1)) z2 hWbo;have hX8:=(hXd.ext t1).ext z2;rw[<-hD2'.out]at h8;clear k00 k01 k02 k20 k21 k22 k40 g0 g1 g2' f0 f1 f2 i2;go_wp2_with fail
    go_roundw
    case rel=>exact⟨i+1,_,_,_,_,_,_,_,by go_num,by omega,b08,z1,h8,hs8,hX8,hE8⟩
    case measure=>simp[intOf];omega
  ·have hin:i=n:=by omega
   subst hin;have k00:=b1.cell 0 rfl;have k01:=b1.cell 1 rfl;have k02:=b1.cell 2 rfl;have hEw:Ext w wr:=hEW.trans hEr;have hbo1:=hpq.out i (Nat.le_refl _);cases od
   ·have hdv2:Hid (a9g m i=pr i (fun i=>ent E i i)):=hid hdv.out
    go_wp2_with ((with_reducible show wpList _ _ _ (⟨_, .store _ _ _,_,_,_,_⟩::_) _ _);refine a0d a0s rfl rfl b0 rfl rfl (a2n _ _ _ _ _ _ _) ?_;intro w7 r1 r2)
    have h7:=QC.mono _ _ _ _ a0l (QC.mono _ _ _ _ (a0g (lo:=b) (nb:=1) r2 (by omega) (by omega)) (QC.mono _ _ _ _ (a1N fun k _ hk=>a0p hk) hq));rw[<-hdv2.out]at h7;exact bodyPost_ret (a0C rfl rfl a0s r1 rfl) rfl ⟨ExtX.box hEw r2 (by omega),_,rfl,h7⟩
   ·have hdv2:Hid (a9g m i= - pr i (fun i=>ent E i i)):=hid hdv.out
    go_wp2_with fail
    refine(b7w (un (a0f X b 1) (some ⟨bo,0,none⟩)) wr _ _ hXr (hq.qv hbo1)).mono ?_;rintro e w8 ⟨hE8,u8,rfl,hu8⟩;obtain⟨s8,a8,n8,c8,d8,k8,e8,rfl⟩:=hu8.shape;have b18:=b1.ext0 hE8;have b08:=b0.ext0 hE8;clear k00 k01 k02;go_wp2_with ((with_reducible show wpList _ _ _ (⟨_, .store _ _ _,_,_,_,_⟩::_) _ _);first|(refine a0d a0s rfl rfl b18 rfl rfl (a2n _ _ _ _ _ _ _) ?_;intro w9 y1 y2;have b09:=b08.ext y2 (a0c (by omega));have j0:=y1.cell 0 rfl;have j1:=y1.cell 1 rfl;have j2:=y1.cell 2 rfl)|(refine a0d a0s rfl rfl b09 rfl rfl (a2n _ _ _ _ _ _ _) ?_;intro w7 r1 r2))
    have h9:=QC.mono _ _ _ _ (a0w (X:=un (a0f X b 1) (some ⟨bo,0,none⟩)) y2 fun k hk=>a0q hk) hu8;have h7:=QC.mono _ _ _ _ a0l (QC.mono _ _ _ _ (a0g (lo:=b) (nb:=1) r2 (by omega) (by omega)) (QC.mono _ _ _ _ (a1N fun k _ hk=>a0p hk) h9));rw[<-hdv2.out]at h7;exact bodyPost_ret (a0C rfl rfl a0s r1 rfl) rfl ⟨ExtX.box (ExtX.box (hEw.trans hE8) y2 (by have:=hEW.size;omega)) r2 (by omega),_,rfl,h7⟩
end Go.Proofs.YtoibhmjjhgaimaaGreat
namespace Go.Lin
theorem a9o {m:Mat} {i j:Nat} (hi:i<m.length) (hj:j<m[i].length):m[i][j]=ent m i j:=by
 unfold ent;rw[show m.getD i []=m[i]by simp[List.getD_eq_getElem?_getD,hi],List.getD_eq_getElem?_getD,List.getElem?_eq_getElem hj];rfl
theorem b1k {m:Mat} {n c:Nat} (h:Shp n c m) (hc:n=0->c=0):a0L m=c:=by
 by_cases hn:0<n
 ·have h0:0<m.length:=by rw[h.1];exact hn
  rw[a2g h0];exact h.2 _ (List.getElem_mem _)
 ·have:m= []:=List.eq_nil_of_length_eq_zero (by rw[h.1];omega)
  subst this;rw[hc (by omega)];rfl
end Go.Lin
namespace Go.Proofs.YtoibhmjjhgaimaaGreat
open Go.RowKit Go.Rep Go.Lim Go.Lin
theorem a9p {R:Mem->Value->Rat->Prop} (X:Nat->Bool) (w:World) (u:Value) (m:List (List Rat)) (hu:SlV (SlV R 3) 1 (mk X w) u m):Calls Tryz.prog 150 #[u] w (fun e w'=>w'=w/\e= .returned (.int .i64 (a0L m:Int))):=by
 obtain⟨ao,ca,rfl,hca,hsa⟩:=hu;have hha:=hsa.hd;by_cases h:0<m.length
 ·obtain⟨a1,c1,hX1,hc1,hcl1,hq1⟩:=hsa.row 0 h
  have k00:=hc1.out noY w (ExtX.refl _) rfl;have hc:=hid (a2g h);have hI:((m.length:Int)==0)=false:=a2f (by omega);go_enter Tryz.func150,Tryz.ntmps150
  go_wp2_with (with_reducible refine a0o a0A (by omega) (by assumption) ?_)
  go_ret
  exact⟨rfl,a0K (by rw[hc.out])⟩
 ·have hc:Hid (a0L m=0):=hid (by
   have:m= []:=List.eq_nil_of_length_eq_zero (by omega);subst this;rfl)
  have hI:((m.length:Int)==0)=true:=a8d (by omega);go_enter Tryz.func150,Tryz.ntmps150
  go_wp2_with (with_reducible refine a0o a0A (by omega) (by assumption) ?_)
  go_ret
  exact⟨rfl,a0K (by rw[hc.out];rfl)⟩
set_option maxRecDepth 100000 in
theorem b5d {R:Mem->Value->Rat->Prop} (hR:a3i R) (X:Nat->Bool) (w:World) (u:Value) (m:List (List Rat)) (hu:SlV (SlV R 3) 1 (mk X w) u m) (hl:m.length<=1099511627776):Calls Tryz.prog 148 #[u] w (b2F w (a1z m)):=by
 obtain⟨ao,ca,rfl,hca,hsa⟩:=hu;have hha:=hsa.hd;by_cases h96:96<m.length
 ·have hv:Hid (false=a1z m):=hid (by
   symm;cases hf:a1z m
   ·rfl
   ·have:=(a1A.1 hf).1;omega)
  have hI:(96:Int)<(m.length:Int):=by omega
  go_enter Tryz.func148,Tryz.ntmps148
  go_wp2_with fail
  go_ret
  exact⟨ExtX.refl _,a0j hv.out⟩
 ·have hI:¬(96:Int)<(m.length:Int):=by omega
  obtain⟨n,hn⟩:∃n,m.length=n:=⟨_,rfl⟩;have hn':=hid hn;have hn6:n<=96:=by omega
  rw[hn]at hha hI |-;clear hn hl h96 hca;go_enter Tryz.func148,Tryz.ntmps148
  go_wp2_with fail
  go_loopw [3] (fun c wr=>∃(i:Nat),c= .int .i64 i/\i<=n/\Hid (∀q,q<i->∀hq:q<m.length,1<=m[q].length/\m[q].length<=96/\m[q].length=a0L m)/\Ext w wr) (fun c _=>n - (intOf c).toNat)
  case atStart=>exact⟨0,rfl,Nat.zero_le _,hid (fun q hq=>by omega),ExtX.refl _⟩
  case round=>
   obtain⟨i,rfl,hi,hok,hE⟩:=hrel;by_cases hlt:i<n
   ·have hil:i<m.length:=by rw[hn'.out];exact hlt
    have h0:0<m.length:=by omega
    have hsr:=hsa.mono (SlV.mono hR 3) (a0h hE);obtain⟨a1,c1,hX1,hc1,hcl1,hq1⟩:=hsr.row i hil;obtain⟨a2,c2,hX2,hc2,hcl2,hq2⟩:=hsr.row 0 h0;have k00:=hc1.out noY wr (ExtX.refl _) rfl;have k10:=hc2.out noY wr (ExtX.refl _) rfl;have i1:∀W,(Instr.indexAt 25 (.slice ao n ca) (.int .i64 (i:Int))).run Tryz.prog W= .ok (.pointer (some (adr ao i))) W:=a0I a0A ao n ca .i64 i hha (by omega) rfl;have i0:∀W,(Instr.indexAt 25 (.slice ao n ca) (.int .i64 0)).run Tryz.prog W= .ok (.pointer (some (adr ao 0))) W:=a0I a0A ao n ca .i64 0 hha (by omega) rfl;have hcol:=a2g h0;have hno:=hid (a4y i hil);rw[<-hcol]at k10;obtain⟨x,hx⟩:∃x,m[i].length=x:=⟨_,rfl⟩;obtain⟨y,hy⟩:∃y,a0L m=y:=⟨_,rfl⟩;rw[hx]at k00 hno;rw[hy]at k10 hno;have hst:Hid (1<=x/\x<=96/\x=y->∀hq:i<m.length,1<=m[i].length/\m[i].length<=96/\m[i].length=a0L m):=hid fun h hq=>by rw[hx,hy];exact h
    clear hx hy hcol hc1 hc2 hq1 hq2 hcl1 hcl2 h0 hil;by_cases hx0:x=0
    ·have d0:decide ((x:Int)<1)=true:=decide_eq_true (by omega)
     have hv:=hid (hno.out (by omega));clear hx0 hno hst;go_wp2_with fail
     go_region
     all_goals
      clear k00 k10 i1 i0;go_wp2_with fail
      go_ret
      exact⟨hE.trans (ExtX.refl wr).drew,a0j hv.out⟩
    ·have d0:decide ((x:Int)<1)=false:=decide_eq_false (by omega)
     by_cases hx1:96<x
     ·have d1:decide ((96:Int)<(x:Int))=true:=decide_eq_true (by omega)
      have hv:=hid (hno.out (by omega));clear hx0 hno hst;go_wp2_with fail
      go_region
      all_goals
       clear k00 k10 i1 i0;go_wp2_with fail
       go_ret
       exact⟨hE.trans (ExtX.refl wr).drew,a0j hv.out⟩
     ·have d1:decide ((96:Int)<(x:Int))=false:=decide_eq_false (by omega)
      by_cases hxy:x=y
      ·have d2:((x:Int) !=(y:Int))=false:=b2t (by omega)
       have hst2:=hid (hst.out ⟨by omega,by omega,hxy⟩);clear hx0 hxy hno hst hx1;go_wp2_with fail
       go_region
       all_goals
        clear k00 k10 i1 i0;go_wp2_with fail
        go_roundw
        case rel=>exact⟨i+1,by go_num,by omega,hid (a0Y hok.out hst2.out),hE.trans (ExtX.refl wr).drew⟩
        case measure=>simp[intOf];omega
      ·have d2:((x:Int) !=(y:Int))=true:=a7i (by omega)
       have hv:=hid (hno.out (by omega));clear hx0 hxy hno hst hx1;go_wp2_with fail
       go_region
       all_goals
        clear k00 k10 i1 i0;go_wp2_with fail
        go_ret
        exact⟨hE.trans (ExtX.refl wr).drew,a0j hv.out⟩
   ·have hv:Hid (true=a1z m):=hid (by
     symm;exact a1A.2 ⟨by rw[hn'.out];omega,fun q hq=>hok.out q (by rw[hn'.out]at hq;omega) hq⟩)
    go_wp2_with fail
    go_ret
    exact⟨hE,a0j hv.out⟩
end Go.Proofs.YtoibhmjjhgaimaaGreat
namespace Go
section
variable {P:Program} {ops:Array Oper} {Q:Exit->Act->World->Prop} {md:Region.Mode} {S:World->Prop} {n:Nat}
def a2q (P:Program) (md:Region.Mode) (ops:Array Oper) (Q:Exit->Act->World->Prop) (S:World->Prop) (n:Nat):Nat->Array Bool->Act->World->Prop
 |0,listed,a,w=>Region.ready md ops listed= []/\Q .normal a w
 |fuel+1,listed,a,w=>
  (Region.ready md ops listed= []->Q .normal a w)/\
  ∀i∈Region.ready md ops listed,wpOp P ops Q i (fun a' w'=>(i<n->S w')/\a2q P md ops Q S n fuel (listed.setIfInBounds i true) a' w') a w
theorem a6t:∀(fuel:Nat) (listed:Array Bool) (a:Act) (w:World),a2q P md ops Q S n fuel listed a w->wpAny P md ops Q fuel listed a w
 |0,_,_,_,h=>h
 |fuel+1,_,_,_,h=>⟨h.1,fun i hi=>wpOp_mono (fun a' w' h'=>a6t fuel _ a' w' h'.2) (h.2 i hi)⟩
theorem a7F {i:Nat} {oi:Oper} {v:Value} (hs:Region.sinkB md ops n=true) (hc:Region.chainB md ops n=true) (hn:n<ops.size) (hin:i<n) (hi:ops[i]? =some oi) (hsel:∀(j:Nat) (o:Oper) cs b,ops[j]? =some o->o.op≠ .select cs b)
  (hQ:∀c a w,Q (.panic c) (a.put oi.dst v) w->Q (.panic c) a w):
  ∀(fuel:Nat) (listed:Array Bool) (a:Act) (w:World),HeadInv md ops n listed->
   (∀j oj,ops[j]? =some oj->j≠i->listed.getD j true=false->(∀e∈oj.after,Region.binds md e=true->e.on≠i)->oi.apart ops oj=true)->
   i∈Region.ready md ops listed->YieldsIf P ops S oi v a->S w->
   a2q P md ops Q S n fuel (listed.setIfInBounds i true) (a.put oi.dst v) w->a2q P md ops Q S n (fuel+1) listed a w:=by
 intro fuel
 induction fuel with
 |zero=>
  intro listed a w _ _ hr hy hS H;refine⟨fun h=>(by rw[h]at hr;cases hr),fun j hj=>?_⟩;by_cases hji:j=i
  ·subst hji;exact hy.wpOp hi hS ⟨fun _=>hS,H⟩
  ·have:=ready_mono hj hji
   rw[H.1]at this;cases this
 |succ fuel ih=>
  intro listed a w inv hfree hr hy hS H;refine⟨fun h=>(by rw[h]at hr;cases hr),fun j hj=>?_⟩;by_cases hji:j=i
  ·subst hji;exact hy.wpOp hi hS ⟨fun _=>hS,H⟩
  ·have hjn:j<n:=by
    rcases Nat.lt_or_ge j n with h|h
    ·exact h
    ·exact absurd hj (tail_waits hs hc hn inv (n - i) i rfl hin (mem_ready.1 hr).1 j h)
   have h1:=H.2 j (ready_mono hj hji);obtain⟨hjun,oj,hoj,hall⟩:=mem_ready.1 hj;have hnot:∀e∈oj.after,Region.binds md e=true->e.on≠i:=fun e he hb heq=>by
    have h1:=hall e he hb;have h0:=(mem_ready.1 hr).1;rw[heq]at h1;rcases Nat.lt_or_ge i listed.size with h'|h'
    ·simp[h']at h0 h1;rw[h0]at h1;cases h1
    ·simp[Array.getElem?_eq_none h']at h1
   have h2:=wpOp_putIf hoj (hfree j oj hoj hji hjun hnot) (fun cs b=>hsel i oi cs b hi) (fun cs b=>hsel j oj cs b hoj) hQ hy h1;have hfree':∀k ok,ops[k]? =some ok->k≠i->(listed.setIfInBounds j true).getD k true=false->
     (∀e∈ok.after,Region.binds md e=true->e.on≠i)->oi.apart ops ok=true:=fun k ok hk hki hun hno=>by
    refine hfree k ok hk hki ?_ hno;by_cases hjk:j=k
    ·subst hjk;exact hjun
    ·rw[getD_set_ne true hjk]at hun;exact hun
   refine wpOp_mono (fun a' w' h3=>⟨h3.2.1,ih (listed.setIfInBounds j true) a' w' (inv.set hj hjn) hfree' (ready_mono hr (Ne.symm hji)) h3.1 (h3.2.1 hjn) ?_⟩) h2;rw[Array.setIfInBounds_comm _ _ hji];exact h3.2.2
def b5e (md:Region.Mode) (ops:Array Oper) (n:Nat) (listed:Array Bool):Bool:=
 decide (listed.size=ops.size)&&
 ((List.range ops.size).all fun j=> !listed.getD j false||(match ops[j]? with|some o=>o.after.all fun e=> !Region.binds md e||listed.getD e.on false|none=>true))&&
 ((List.range ops.size).all fun t=>decide (t<n)|| !listed.getD t true)
theorem b1l {listed:Array Bool} (h:b5e md ops n listed=true):HeadInv md ops n listed:=by
 unfold b5e at h;simp only[Bool.and_eq_true,decide_eq_true_eq]at h;obtain⟨⟨h1,h2⟩,h3⟩:=h;refine⟨h1,fun j oj hj hl e he hb=>?_,fun t ht ht'=>?_⟩
 ·have hlt:j<ops.size:=(Array.getElem?_eq_some_iff.1 hj).1
  have h4:=List.all_eq_true.1 h2 j (List.mem_range.2 hlt);rw[hl,hj]at h4;simp only[Bool.not_true,Bool.false_or]at h4;have h5:=Array.all_eq_true_iff_forall_mem.1 h4 e he;rw[hb]at h5;simpa using h5
 ·have h4:=List.all_eq_true.1 h3 t (List.mem_range.2 ht')
  simp only[Bool.or_eq_true,decide_eq_true_eq,Bool.not_eq_true']at h4;rcases h4 with h4|h4
  ·omega
  ·exact h4
def b6q (md:Region.Mode) (ops:Array Oper) (n i:Nat) (listed:Array Bool):Bool:=
 decide (i<n)&&b5e md ops n listed&&Region.free md ops listed i&&(Region.ready md ops listed).contains i
def b2Z (md:Region.Mode) (ops:Array Oper) (n:Nat):Bool:=Region.sinkB md ops n&&Region.chainB md ops n&&decide (n<ops.size)&&Region.noSelect ops
theorem a0a {i:Nat} {oi:Oper} {v:Value} {fuel:Nat} {listed:Array Bool} {a:Act} {w:World} (hO:Shut (b2Z md ops n=true)) (hi:ops[i]? =some oi)
  (hB:b6q md ops n i listed=true)
  (hQ:∀c a w,Q (.panic c) (a.put oi.dst v) w->Q (.panic c) a w) (hS:S w) (hw:Region.wanted oi (yielded ops a.tmps)=true) (hy:∀w,S w->(execOp a.eval oi).run P w= .ok (.value v) w)
  (h:a2q P md ops Q S n fuel (listed.setIfInBounds i true) (a.put oi.dst v) w):a2q P md ops Q S n (fuel+1) listed a w:=by
 unfold b6q at hB;simp only[Bool.and_eq_true,decide_eq_true_eq]at hB;obtain⟨⟨⟨b4,b5⟩,b7⟩,b8⟩:=hB;have hO:=hO.out;unfold b2Z at hO;simp only[Bool.and_eq_true,decide_eq_true_eq]at hO;obtain⟨⟨⟨b1,b2⟩,b3⟩,b6⟩:=hO;exact a7F b1 b2 b3 b4 hi (Region.noSelect_spec b6) hQ fuel listed a w (b1l b5) (Region.free_spec hi b7) (by simpa using b8) (.inl ⟨hw,hy⟩) hS h
theorem a0v {i:Nat} {o:Oper} {fuel:Nat} {listed:Array Bool} {a:Act} {w:World} (hr:Region.ready md ops listed= [i]) (ho:ops[i]? =some o)
  (h:∀K':Act->World->Prop,Shut (∀a w,S w->(S w->a2q P md ops Q S n fuel (listed.setIfInBounds i true) a w)->K' a w)->if Region.wanted o (yielded ops a.tmps)=true then Oper.wp P o a w K' Q else K' (a.put o.dst undef) w):a2q P md ops Q S n (fuel+1) listed a w:=by
 refine⟨fun h0=>(by rw[hr]at h0;cases h0),fun j hj=>?_⟩;rw[hr]at hj;have:j=i:=by simpa using hj
 subst this;exact wpOp_step ho (fun K' hK=>h K' (fun a w hS hW=>hK a w ⟨fun _=>hS,hW hS⟩))
theorem a0O {i:Nat} {o:Oper} {fuel:Nat} {listed:Array Bool} {a:Act} {w:World} (hr:Region.ready md ops listed= [i]) (ho:ops[i]? =some o) (hin:n<=i)
  (hd:Region.ready md ops (listed.setIfInBounds i true)= [])
  (h:∀K':Act->World->Prop,Shut (∀a w,Q .normal a w->K' a w)->if Region.wanted o (yielded ops a.tmps)=true then Oper.wp P o a w K' Q else K' (a.put o.dst undef) w):a2q P md ops Q S n (fuel+1) listed a w:=by
 refine⟨fun h0=>(by rw[hr]at h0;cases h0),fun j hj=>?_⟩;rw[hr]at hj;have:j=i:=by simpa using hj
 subst this;refine wpOp_step ho (fun K' hK=>h K' (fun a w hq=>hK a w ⟨fun hlt=>absurd hlt (Nat.not_lt.2 hin),?_⟩));cases fuel with
 |zero=>exact⟨hd,hq⟩
 |succ f=>exact⟨fun _=>hq,by rw[hd];simp⟩
theorem a0P {id:Nat} {a:Act} {w:World} (n:Nat) (S:World->Prop) (hm:P.follows .mixedOrders=true) (hO:b2Z .any ops n=true) (hS:S w.drew)
  (h:S w.drew->Shut (b2Z .any ops n=true)->a2q P .any ops Q S n ops.size (Array.replicate ops.size false) a w.drew):(Code.region id ops true).wp P Q a w:=
 wp_region_any hm (a6t _ _ _ _ (h hS hO))
end
end Go
