/- law 13: LeastsqFits returns true. Conditions: none but Go's own. -/
import Derived.Test.YtkddecjkfdogiaaGreatLdO
namespace Go.Proofs.YtkddecjkfdogiaaGreat
open Go.RowKit Go.Rep Go.Lim Go.Lin
theorem b0a {m:List (List a5d)} (h:a5e m=true):m.length<=6/\∀x∈m,x.length<=4/\∀q∈x,Few 2 q:=by
 obtain⟨h1,h2⟩:=of_decide_eq_true h;exact⟨h1,fun x hx=>of_decide_eq_true (h2 x hx)⟩
theorem a6x {l:List a5d} {k:Nat} (h:a2f l k=true):l.length<=k/\∀q∈l,Few 2 q:=of_decide_eq_true h
theorem a7f {x:a5d} (h:Few 2 x):Few 68719476736 x:=⟨Nat.le_trans h.1 (by decide),Nat.le_trans h.2 (by decide)⟩
def b7c (w:World) (f:Fit) (c:Int) (e:Ending) (w':World):Prop:=Ext w w'/\∃u,e= .returned (.tuple #[u, .int .i64 c])/\b1i (mk noY w') u f
def b7p (f:Fit):Prop:=BR 68719476736 f.coef/\BR 68719476736 f.res/\hq f.rss<=68719476736/\BR 68719476736 f.lev/\f.coef.length<=1000/\f.res.length<=1000/\f.lev.length<=1000/\f.used.length<=1000
theorem a9w {m:Mat} {k:Nat} (h:∀r∈m,r.length<=k):colsL m<=k:=by
 cases m with
 |nil=>simp[colsL]
 |cons a m=>exact h a (by simp)
theorem b1I (x:Mat) (y:List Rat) (hl:x.length<=6) (hr:∀r∈x,r.length<=4) (hxB:BM 2 x) (hyB:BR 2 y):∃f c,b7p f/\(∀w u v,MC (mk noY w) u x\/MV (mk noY w) u x->RV (mk noY w) v y->MV (mk noY w) u x->Calls Tryz.prog 39 #[u,v] w (b7c w f c))/\∀w u v,MV (mk noY w) u x->RV (mk noY w) v y->Calls Tryz.prog 35 #[u,v] w (b7c w f c):=by
 cases hok:a4Z x y
 ·refine⟨⟨0,[],[],[],0,[]⟩,6,⟨fun q hq=>by simp at hq,fun q hq=>by simp at hq,by decide+kernel,fun q hq=>by simp at hq,by simp,by simp,by simp,by simp⟩,fun w u v _ hv hu=>?_,fun w u v hu hv=>?_⟩
  ·exact(b4X noY w u v x y (fun k hk=>by cases hk) hu hv hok (by omega)).mono fun e w' ⟨h1,h2⟩=>⟨h1,_,h2,a7S _⟩
  ·exact(b4Y noY w u v x y (fun k hk=>by cases hk) hu hv hok (by omega)).mono fun e w' ⟨h1,h2⟩=>⟨h1,_,h2,a7S _⟩
 ·obtain⟨hf,h1,h64,h12,hyl⟩:=a1T.1 hok
  obtain⟨hsh,_,_,_,_⟩:=a0w hf;have hc4:=a9w hr;have bnd1:=b6f (u:=pkL x (a0K x (colsL x)).2) (n:=x.length) (m:=(a0K x (colsL x)).2.length) (B:=2) (a8m hsh _) (b1u hxB (by decide)) (by omega) (Nat.le_trans (a9p hsh) hc4) (by decide) (by decide);have bnd2:=a8r (y:=y) (n:=x.length) (c:=colsL x) (a6b hxB (by decide)) hyB (by omega) hc4 (by decide);have bnd3:=a8s hsh hxB hyB bnd2 (by decide) hc4 (by decide);have hrl:(a2K x y (a1v x y x.length (colsL x))).length=x.length:=a3P hyl;have bnd4:=b6e bnd3 (by omega);refine⟨a9Y x y x.length (colsL x),0,⟨fun q hq=>Nat.le_trans (bnd2 q hq) (by decide),fun q hq=>Nat.le_trans (bnd3 q hq) (by decide),Nat.le_trans bnd4 (by decide),fun q hq=>Nat.le_trans (bnd1 q hq) (by decide),?_,?_,?_,?_⟩,fun w u v _ hv hu=>?_,fun w u v hu hv=>?_⟩
  ·show(a1v x y x.length (colsL x)).length<=1000
   rw[a3I];omega
  ·show(a2K x y (a1v x y x.length (colsL x))).length<=1000
   omega
  ·show(a4N (pkL x (a0K x (colsL x)).2) x.length (a0K x (colsL x)).2.length).length<=1000
   rw[a4H,a6Z];omega
  ·show(usedL (a0K x (colsL x)).2 (colsL x)).length<=1000
   rw[a1K];omega
  ·exact b1F noY w u v x y x.length (colsL x) 2 (fun k hk=>by cases hk) hu hv hok rfl rfl (by omega) hc4 hxB hyB (by decide) (by decide)
  ·exact b5e noY w u v x y x.length (colsL x) 2 (fun k hk=>by cases hk) hu hv hok rfl rfl (by omega) hc4 hxB hyB (by decide) (by decide)
set_option maxRecDepth 100000 in
set_option maxHeartbeats 1600000 in
theorem b3d (w:World) (ux uy ub:Value) (rx:List (List a5d)) (ry rb:List a5d) (hux:MR (mk noY w) ux rx) (huy:RR (mk noY w) uy ry) (hub:RR (mk noY w) ub rb):
  Calls Tryz.prog 10 #[ux,uy,ub] w (a7U w true):=by
 have hnoX:∀v:World,HX noY v:=fun v=>HX.none v;have l1:=a8z noY w ux rx hux;have l2:=hid fun w' (h:Ext w w')=>a5f noY w' uy ry 7 (mkx RR.mono huy h) (by omega);have l3:=hid fun w' (h:Ext w w')=>a5f noY w' ub rb 5 (mkx RR.mono hub h) (by omega);cases h1:a5e rx
 ·rw[h1]at l1
  clear h1;go_enter Tryz.func10,Tryz.ntmps10
  go_wp2_with fail
  refine l1.mono ?_;rintro e w1 ⟨hE1,rfl⟩;clear l1;go_wp2_with fail
  refine(a3i w1).mono ?_;rintro e w2 ⟨hE2,rfl⟩;go_wp2_with fail
  go_ret
  exact⟨hE1.trans hE2,rfl⟩
 rw[h1]at l1;cases h2:a2f ry 7
 ·rw[h2]at l2
  clear h1 h2;go_enter Tryz.func10,Tryz.ntmps10
  go_wp2_with fail
  refine l1.mono ?_;rintro e w1 ⟨hE1,rfl⟩;have l22:=l2.out w1 hE1;clear l1;go_wp2_with fail
  refine l22.mono ?_;rintro e w2 ⟨hE2,rfl⟩;clear l22;go_wp2_with fail
  refine(a3i w2).mono ?_;rintro e w3 ⟨hE3,rfl⟩;go_wp2_with fail
  go_ret
  exact⟨hE1.trans (hE2.trans hE3),rfl⟩
 rw[h2]at l2;cases h3:a2f rb 5
 ·rw[h3]at l3
  clear h1 h2 h3;go_enter Tryz.func10,Tryz.ntmps10
  go_wp2_with fail
  refine l1.mono ?_;rintro e w1 ⟨hE1,rfl⟩;have l22:=l2.out w1 hE1;clear l1;go_wp2_with fail
  refine l22.mono ?_;rintro e w2 ⟨hE2,rfl⟩;have l33:=l3.out w2 (hE1.trans hE2);clear l22;go_wp2_with fail
  refine l33.mono ?_;rintro e w3 ⟨hE3,rfl⟩;clear l33;go_wp2_with fail
  refine(a3i w3).mono ?_;rintro e w4 ⟨hE4,rfl⟩;go_wp2_with fail
  go_ret
  exact⟨hE1.trans (hE2.trans (hE3.trans hE4)),rfl⟩
 rw[h3]at l3;obtain⟨hx6,hxf⟩:=b0a h1;obtain⟨hy7,hyf⟩:=a6x h2;obtain⟨hb5,hbf⟩:=a6x h3;have hxB:=hux.bm (fun r hr=>(hxf r hr).2) (by decide);have hyB:=huy.br hyf (by decide);have hbB:=hub.br hbf (by decide);have hxv:=hux.mv fun r hr q hq=>a7f ((hxf r hr).2 q hq);have hyv:=huy.rv fun q hq=>a7f (hyf q hq);have hbv:=hub.rv fun q hq=>a7f (hbf q hq);have hxl:(b1J rx).length<=6:=by rw[b1J,List.length_map];exact hx6
 have hxr:∀r∈b1J rx,r.length<=4:=fun r hr=>by
  obtain⟨r',h,rfl⟩:=List.mem_map.1 hr;rw[List.length_map];exact(hxf r' h).1
 have hbl:(rb.map b1Q).length<=5:=by rw[List.length_map];exact hb5
 obtain⟨x,hx⟩:∃x,b1J rx=x:=⟨_,rfl⟩;obtain⟨y,hy⟩:∃y,ry.map b1Q=y:=⟨_,rfl⟩;obtain⟨b,hb⟩:∃b,rb.map b1Q=b:=⟨_,rfl⟩;rw[hx]at hxB hxv hxl hxr;rw[hy]at hyB hyv;rw[hb]at hbB hbv hbl;obtain⟨f,c,hfB,hF1,hF2⟩:=b1I x y hxl hxr hxB hyB;have hf1:=hid fun w' (h:Ext w w')=>hF1 w' ux uy (.inr (mkx MV.mono hxv h)) (mkx RV.mono hyv h) (mkx MV.mono hxv h);have hf2:=hid fun w' (h:Ext w w')=>hF2 w' ux uy (mkx MV.mono hxv h) (mkx RV.mono hyv h);have hr1:=hid fun w' (h:Ext w w')=>a6f noY w' ux uy ub x y b 2 (hnoX w') (mkx MV.mono hxv h) (mkx RV.mono hyv h) (mkx RV.mono hbv h) (by omega) hxB hbB (by decide) (by decide);have hr2:=hid fun w' (h:Ext w w')=>a6g noY w' ux uy ub x y b 2 (hnoX w') (mkx MV.mono hxv h) (mkx RV.mono hyv h) (mkx RV.mono hbv h) (by omega) hxB hbB (by decide) (by decide);have hrB:BR 68719476736 (if a5X x y b=true then a2K x y b else[])/\(if a5X x y b=true then a2K x y b else[]).length<=6:=by
  cases hrs:a5X x y b
  ·exact⟨fun q hq=>by simp at hq,by simp⟩
  ·rw[if_pos rfl]
   unfold a5X at hrs;obtain⟨hok,hbc⟩:=Bool.and_eq_true _ _|>.mp hrs;obtain⟨hf,_,_,_,hyl⟩:=a1T.1 hok;obtain⟨hsh,_,_,_,_⟩:=a0w hf;refine⟨fun q hq=>Nat.le_trans (b3E hsh hxB hyB hbB (by decide) (by decide) q hq) ?_,by rw[a3P hyl];exact hxl⟩;have:=a9w hxr;omega
 obtain⟨c2,hc2⟩:∃c2,(if a5X x y b=true then(0:Int)else 6)=c2:=⟨_,rfl⟩;rw[hc2]at hr1 hr2;obtain⟨R,hR⟩:∃R,(if a5X x y b=true then a2K x y b else[])=R:=⟨_,rfl⟩;rw[hR]at hr1 hr2 hrB;obtain⟨hB1,hB2,hB3,hB4,hl1,hl2,hl3,hl4⟩:=hfB;have hsf:=hid fun w' u v (h1:b1i (mk noY w') u f) (h2:b1i (mk noY w') v f)=>b3i noY w' u v f h1 h2 hB1 hB2 hB3 hB4 hl1 hl2 hl3 hl4;have hsl:=hid fun w' u v (h1:RC (mk noY w') u R) (h2:RC (mk noY w') v R)=>a2W noY w' u v R R h1 h2 hrB.1 (by omega);simp only[decide_true]at hsl;clear hx hy hb hc2 hR hF1 hF2 hxB hyB hbB hxv hyv hbv hxl hxr hbl hux huy hub hx6 hxf hy7 hyf hb5 hbf hB1 hB2 hB3 hB4 hl1 hl2 hl3 hl4 hrB h1 h2 h3;go_enter Tryz.func10,Tryz.ntmps10
 go_wp2_with fail
 refine l1.mono ?_;rintro e w1 ⟨hE1,rfl⟩;have l22:=l2.out w1 hE1;clear l1;go_wp2_with fail
 refine l22.mono ?_;rintro e w2 ⟨hE2,rfl⟩;have hE02:=hE1.trans hE2;have l33:=l3.out w2 hE02;clear l22;go_wp2_with fail
 refine l33.mono ?_;rintro e w3 ⟨hE3,rfl⟩;have hE03:=hE02.trans hE3;have g1:=hf1.out w3 hE03;clear l33 hf1 l2 l3;go_wp2_with fail
 refine g1.mono ?_;rintro e w4 ⟨hE4,fv,rfl,hfv⟩;have hfv':=hid hfv;obtain⟨uo1,uc1,co1,cl1,cc1,ro1,rl1,rc1,s1,a1,n1,c1,d1,k1,e1,lo1,ll1,lc1,rfl,_⟩:=hfv;have bf:=Bx.new w4 #[.int .i64 0, .slice none 0 0, .slice none 0 0, .slice none 0 0, .bool false, .slice none 0 0, .slice none 0 0, .slice none 0 0] 63;clear g1;go_wp2_with ((with_reducible show wpList _ _ _ (⟨_, .store 63 _ _,_,_,_,_⟩::_) _ _);refine a0b a3m rfl rfl bf rfl rfl (by intro v hv;simp at hv;rcases hv with rfl|rfl|rfl|rfl|rfl|rfl|rfl|rfl<;>rfl) ?_;intro w5 x5 y5;have F5:Ext w4 w5:=ExtX.box ((ExtX.refl w4).alloc _) y5 (Nat.le_refl _))
 obtain⟨p,hp⟩:∃h,w4.heap.size=h:=⟨_,rfl⟩;rw[hp]at x5 |-;clear y5 bf hp;have hE05:=hE03.trans (hE4.trans F5);have g2:=hf2.out w5 hE05;clear hf2;refine g2.mono ?_;rintro e w6 ⟨hE6,gv,rfl,hgv⟩;have hgv':=hid hgv;obtain⟨uo2,uc2,co2,cl2,cc2,ro2,rl2,rc2,s2,a2,n2,c3,d2,k2,e2,lo2,ll2,lc2,rfl,_⟩:=hgv;have bf:=Bx.new w6 #[.int .i64 0, .slice none 0 0, .slice none 0 0, .slice none 0 0, .bool false, .slice none 0 0, .slice none 0 0, .slice none 0 0] 63;have x6:=x5.ext0 hE6;clear g2 x5;go_wp2_with ((with_reducible show wpList _ _ _ (⟨_, .store 63 _ _,_,_,_,_⟩::_) _ _);refine a0b a3m rfl rfl bf rfl rfl (by intro v hv;simp at hv;rcases hv with rfl|rfl|rfl|rfl|rfl|rfl|rfl|rfl<;>rfl) ?_;intro w7 x7 y7;have F7:Ext w6 w7:=ExtX.box ((ExtX.refl w6).alloc _) y7 (Nat.le_refl _))
 obtain⟨q,hq⟩:∃h,w6.heap.size=h:=⟨_,rfl⟩;rw[hq]at x7 |-;clear y7 bf hq;have hE07:=hE05.trans (hE6.trans F7);have g3:=hr1.out w7 hE07;clear hr1;refine g3.mono ?_;rintro e w8 ⟨hE8,r1,rfl,hr1⟩;have hE08:=hE07.trans hE8;have g4:=hr2.out w8 hE08;clear g3 hr2;go_wp2_with fail
 refine g4.mono ?_;rintro e w9 ⟨hE9,r2,rfl,hr2⟩;clear g4;go_wp2_with fail
 refine(a3i w9).mono ?_;rintro e w10 ⟨hE10,rfl⟩;have hE7a:=hE8.trans (hE9.trans hE10);have z1:=x6.ext0 (F7.trans hE7a);have z2:=x7.ext0 hE7a;have p0:=z1.cell 0 rfl;have p1:=z1.cell 1 rfl;have p2:=z1.cell 2 rfl;have p3:=z1.cell 3 rfl;have p4:=z1.cell 4 rfl;have p5:=z1.cell 5 rfl;have p6:=z1.cell 6 rfl;have p7:=z1.cell 7 rfl;have q0:=z2.cell 0 rfl;have q1:=z2.cell 1 rfl;have q2:=z2.cell 2 rfl;have q3:=z2.cell 3 rfl;have q4:=z2.cell 4 rfl;have q5:=z2.cell 5 rfl;have q6:=z2.cell 6 rfl;have q7:=z2.cell 7 rfl;have g5:=hsf.out w10 _ _ (mkx b1i.mono hfv'.out (F5.trans (hE6.trans (F7.trans hE7a)))) (mkx b1i.mono hgv'.out (F7.trans hE7a));clear hsf x6 x7;go_wp2_with fail
 refine g5.mono ?_;rintro e w11 ⟨hE11,rfl⟩;clear p0 p1 p2 p3 p4 p5 p6 p7 q0 q1 q2 q3 q4 q5 q6 q7 g5 z1 z2;have g6:=hsl.out w11 r1 r2 (mkx RC.mono hr1 (hE9.trans (hE10.trans hE11))) (mkx RC.mono hr2 (hE10.trans hE11));go_wp2_with fail
 refine g6.mono ?_;rintro e w12 ⟨hE12,rfl⟩;clear g6;go_wp2_with fail
 go_ret
 exact⟨hE08.trans (hE9.trans (hE10.trans (hE11.trans hE12))),rfl⟩
end Go.Proofs.YtkddecjkfdogiaaGreat
