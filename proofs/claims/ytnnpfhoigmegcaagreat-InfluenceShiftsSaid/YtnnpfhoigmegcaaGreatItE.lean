/- Parts of a proof: each theorem states what it proves, and its conditions. -/
import Derived.Test.YtnnpfhoigmegcaaGreatItD
import Derived.Deep.RegionHeld3
set_option maxRecDepth 100000
set_option maxHeartbeats 800000
namespace Go.Proofs.YtnnpfhoigmegcaaGreat
open Go.RowKit Go.Rep Go.Lim
theorem c0j(X:Nat->Bool)(w:World)(u v:Value)(x y:Int)(hX:HX X w)(hu:ZV (mk X w) u x)(hv:ZV (mk X w) v y):Calls Tryz.prog 232 #[u,v] w (a1S X w ZC (x*y)):=by
 have f0:=hid hu.lg;have f1:=hid hv.lg;obtain⟨s1,a1,c1,l1,rfl,f4⟩:=id hu;obtain⟨s2,a2,c2,l2,rfl,f5⟩:=id hv;obtain⟨W,hW,hE,J,K,b2,hz⟩:=a2p w #[.bool s1,.slice a1 l1.length c1] #[.bool s2,.slice a2 l2.length c2] #[.bool false,.slice none 0 0] 39 39 39;have b3:HX (a0f X w.heap.size 3) W:=hX.boxes hz;have a8:=ZV.mono _ _ _ _ (a0j (nb:=3) hE) hu;have a9:=ZV.mono _ _ _ _ (a0j (nb:=3) hE) hv;obtain⟨b,hb⟩:∃b,w.heap.size=b:=⟨_,rfl⟩;have e7:w.heap.size<=b:=by omega
 rw[hb]at J K b2 hz b3 a8 a9;have c:Ext W W.drew:=(ExtX.refl W).drew;have a0:HX (a0f X b 3) W.drew:=b3;have b6:ZV (mk (a0f X b 3) W.drew) (.agg #[.bool s1,.slice a1 l1.length c1]) x:=a8;have b7:ZV (mk (a0f X b 3) W.drew) (.agg #[.bool s2,.slice a2 l2.length c2]) y:=a9;have r:=J.cell 0 rfl;have s:=J.cell 1 rfl;have t:=K.cell 0 rfl;have z:=K.cell 1 rfl;clear hu hv f4 f5;go_enter Tryz.func232,Tryz.ntmps232
 go_upto_region 1 with(fail)
 go_cut []from 5 to 8 (fun wx=>∃s3 H L R s4 I M S,Bx wx b #[.bool s3,.slice H R L] 39/\Bx wx (b+1) #[.bool s4,.slice I S M] 39/\Bx wx (b+1+1) #[.bool false,.slice none 0 0] 39/\ZC (mk (a0f X b 3) wx) (.agg #[.bool s3,.slice H R L]) x/\ZC (mk (a0f X b 3) wx) (.agg #[.bool s4,.slice I S M]) y/\Ext w wx)
 case first=>
  go_region_with (first|(go_at_call 282;(with_reducible refine(a5P (a0f X b 3) W.drew _ x a0 b6).mono ?_);rintro e T ⟨a,U,rfl,s5,a5,c5,l5,rfl,e3,e4,e6⟩;have V:=J.ext0 (c.trans a);have Y:=K.ext0 (c.trans a);have b9:=V.cell 0 rfl;have c0:=V.cell 1 rfl;have c7:=Y.cell 0 rfl;have c8:=Y.cell 1 rfl)|(go_at_call 282;(with_reducible refine(a5P (a0f X b 3) T _ y (HX.ext a0 a) (mkx ZV.mono b7 a)).mono ?_);rintro e w6 ⟨d,u6,rfl,B,n,o,A,rfl,j,h,k⟩;have f:=V.ext0 d;have D:=Y.ext0 d;have d3:=f.cell 0 rfl;have d4:=f.cell 1 rfl;have d5:=D.cell 0 rfl;have d6:=D.cell 1 rfl;have c9:=f.frozen 0;have d0:=f.frozen 1;have d1:=D.frozen 0;have d2:=D.frozen 1))
  all_goals
   obtain⟨wf,b8,q0,q1,q2,q3,q4⟩:=a2x (X:=X) (nb:=3) f D (hE.trans ((c.trans a).trans d)) e7 (by omega) (.bool s5) (.slice a5 l5.length c5) (.bool B) (.slice n A.length o);rw[b8];have e8:ZC (mk (a0f X b 3) wf) (.agg #[.bool s5,.slice a5 l5.length c5]) x:=⟨s5,a5,c5,l5,rfl,e3,e4,(e6.mono (a0c.mono _) (a0l d)).mono (a0c.mono _) q4⟩;have e9:ZC (mk (a0f X b 3) wf) (.agg #[.bool B,.slice n A.length o]) y:=⟨B,n,o,A,rfl,j,h,k.mono (a0c.mono _) q4⟩;have q5:=q2 (b+1+1) _ _ (by omega) (by omega) ((b2.ext0 (c.trans a)).ext0 d);clear b9 c0 c7 c8 d3 d4 d5 d6 c9 d0 d1 d2 r s t z b8;go_wp2_with fail
   go_meet
   exact⟨_,_,_,_,_,_,_,_,q0,q1,q5,e8,e9,q3⟩
 case rest=>
  clear r s t z J K b2 a8 a9 b6 b7 a0 c hW;obtain⟨s3,H,L,n3,s4,I,M,n4,J,K,b2,hx,hy,E⟩:=hcut;obtain⟨_,_,_,R,F,d7,N,d8⟩:=hx;simp only[Value.agg.injEq,Array.mk.injEq,List.cons.injEq,Value.bool.injEq,Value.slice.injEq,and_true]at F;obtain⟨rfl,rfl,rfl,rfl⟩:=F;obtain⟨_,_,_,S,F,d9,O,e0⟩:=hy;simp only[Value.agg.injEq,Array.mk.injEq,List.cons.injEq,Value.bool.injEq,Value.slice.injEq,and_true]at F;obtain⟨rfl,rfl,rfl,rfl⟩:=F;have b5:=hid (a3W N);have b4:=hid (a3W O);have f2:=hid N.1;have f3:=hid O.1;have c:Ext wc wc.drew:=(ExtX.refl wc).drew;have P:NV (mk (a0f X b 3) wc) (.slice H R.length L) x.natAbs:=NC.nv ⟨H,L,R,rfl,d7,N.2,d8⟩ (by have:=f0.out;omega);have Q:NV (mk (a0f X b 3) wc) (.slice I S.length M) y.natAbs:=NC.nv ⟨I,M,S,rfl,d9,O.2,e0⟩ (by have:=f1.out;omega);have f6:w.heap.size+3<=wc.heap.size:=by have:=b2.lt;omega
  have m:HX (a0f X b 3) wc:=hX.boxes' E (by omega) f6;have g:=hid (And.intro J (And.intro K b2));have r:=J.cell 0 rfl;have s:=J.cell 1 rfl;have t:=K.cell 0 rfl;have z:=K.cell 1 rfl;have f7:b+1≠b+1+1:=by omega
  have f8:b≠b+1+1:=by omega
  obtain⟨sn,a7⟩:∃sn,(s3 !=s4)=sn:=⟨_,rfl⟩;have C:Hid (sg sn (x.natAbs*y.natAbs)=x*y):=hid (by
   have e1:=b5.out;have e2:=b4.out;rw[<-a7,<-e1,<-e2,a7h,a7h];unfold sg;cases s3<;>cases s4<;>simp[Int.natCast_mul,Int.neg_mul,Int.mul_neg])
  have i:=hid a7;clear f2 f3 b5 b4 a7 N O;cases s3<;>cases s4
  ·obtain rfl:sn=false:=i.out.symm
   clear i;go_wp2_with fail
   go_region_held3 (fun l=>l.cell? ⟨b,0,none⟩=some (.bool false)/\l.cell? ⟨b,1,none⟩=some (.slice H R.length L)/\l.cell? ⟨b+1,0,none⟩=some (.bool false)/\l.cell? ⟨b+1,1,none⟩=some (.slice I S.length M))
    (first|exact⟨(g.out.1.ext0 (c.trans a)).cell 0 rfl,(g.out.1.ext0 (c.trans a)).cell 1 rfl,(g.out.2.1.ext0 (c.trans a)).cell 0 rfl,(g.out.2.1.ext0 (c.trans a)).cell 1 rfl⟩|exact⟨(g.out.1.ext0 (c.trans (a.trans d))).cell 0 rfl,(g.out.1.ext0 (c.trans (a.trans d))).cell 1 rfl,(g.out.2.1.ext0 (c.trans (a.trans d))).cell 0 rfl,(g.out.2.1.ext0 (c.trans (a.trans d))).cell 1 rfl⟩|exact⟨((g.out.1.ext0 (c.trans (a.trans d))).ext (f.set2 _ _).2 (a0b (by omega))).cell 0 rfl,((g.out.1.ext0 (c.trans (a.trans d))).ext (f.set2 _ _).2 (a0b (by omega))).cell 1 rfl,((g.out.2.1.ext0 (c.trans (a.trans d))).ext (f.set2 _ _).2 (a0b (by omega))).cell 0 rfl,((g.out.2.1.ext0 (c.trans (a.trans d))).ext (f.set2 _ _).2 (a0b (by omega))).cell 1 rfl⟩|go_keep)
    (first|(go_at_call 234;refine(b6k (X:=a0f X b 3) (w:=wc.drew) m P Q).mono ?_;rintro e T ⟨a,U,rfl,q⟩)|(go_at_call 292;refine(a2Q (a0f X b 3) T false U (x.natAbs*y.natAbs) (HX.ext (w:=wc.drew) m a) q).mono ?_;rintro e w6 ⟨d,u6,rfl,B,n,o,A,rfl,j,h,k⟩;have f:=g.out.2.2.ext0 (c.trans (a.trans d));have Z:=f.cell 0 rfl;have g2:=f.cell 1 rfl;have g3:=f.frozen 0;have g4:=f.frozen 1))
   obtain⟨r1,G⟩:=f.set2 (.bool B) (.slice n A.length o);have h7:=(k.mono (a0c.mono _) (a0h G (by omega) (by omega))).mono (a0c.mono _) a0k;rw[C.out]at h;have p:Ext w _:=ExtX.box (E.trans (c.trans (a.trans d))) G (by omega);clear Z g2 g3 g4 r s t z;go_wp2_with fail
   exact bodyPost_ret (a0e rfl rfl a0I r1 rfl) rfl ⟨p,_,rfl,B,n,o,A,rfl,j,h,h7⟩
  ·obtain rfl:sn=true:=i.out.symm
   clear i;go_wp2_with fail
   go_region_held3 (fun l=>l.cell? ⟨b,0,none⟩=some (.bool false)/\l.cell? ⟨b,1,none⟩=some (.slice H R.length L)/\l.cell? ⟨b+1,0,none⟩=some (.bool true)/\l.cell? ⟨b+1,1,none⟩=some (.slice I S.length M))
    (first|exact⟨(g.out.1.ext0 (c.trans a)).cell 0 rfl,(g.out.1.ext0 (c.trans a)).cell 1 rfl,(g.out.2.1.ext0 (c.trans a)).cell 0 rfl,(g.out.2.1.ext0 (c.trans a)).cell 1 rfl⟩|exact⟨(g.out.1.ext0 (c.trans (a.trans d))).cell 0 rfl,(g.out.1.ext0 (c.trans (a.trans d))).cell 1 rfl,(g.out.2.1.ext0 (c.trans (a.trans d))).cell 0 rfl,(g.out.2.1.ext0 (c.trans (a.trans d))).cell 1 rfl⟩|exact⟨((g.out.1.ext0 (c.trans (a.trans d))).ext (f.set2 _ _).2 (a0b (by omega))).cell 0 rfl,((g.out.1.ext0 (c.trans (a.trans d))).ext (f.set2 _ _).2 (a0b (by omega))).cell 1 rfl,((g.out.2.1.ext0 (c.trans (a.trans d))).ext (f.set2 _ _).2 (a0b (by omega))).cell 0 rfl,((g.out.2.1.ext0 (c.trans (a.trans d))).ext (f.set2 _ _).2 (a0b (by omega))).cell 1 rfl⟩|go_keep)
    (first|(go_at_call 234;refine(b6k (X:=a0f X b 3) (w:=wc.drew) m P Q).mono ?_;rintro e T ⟨a,U,rfl,q⟩)|(go_at_call 292;refine(a2Q (a0f X b 3) T true U (x.natAbs*y.natAbs) (HX.ext (w:=wc.drew) m a) q).mono ?_;rintro e w6 ⟨d,u6,rfl,B,n,o,A,rfl,j,h,k⟩;have f:=g.out.2.2.ext0 (c.trans (a.trans d));have Z:=f.cell 0 rfl;have g2:=f.cell 1 rfl;have g3:=f.frozen 0;have g4:=f.frozen 1))
   obtain⟨r1,G⟩:=f.set2 (.bool B) (.slice n A.length o);have h7:=(k.mono (a0c.mono _) (a0h G (by omega) (by omega))).mono (a0c.mono _) a0k;rw[C.out]at h;have p:Ext w _:=ExtX.box (E.trans (c.trans (a.trans d))) G (by omega);clear Z g2 g3 g4 r s t z;go_wp2_with fail
   exact bodyPost_ret (a0e rfl rfl a0I r1 rfl) rfl ⟨p,_,rfl,B,n,o,A,rfl,j,h,h7⟩
  ·obtain rfl:sn=true:=i.out.symm
   clear i;go_wp2_with fail
   go_region_held3 (fun l=>l.cell? ⟨b,0,none⟩=some (.bool true)/\l.cell? ⟨b,1,none⟩=some (.slice H R.length L)/\l.cell? ⟨b+1,0,none⟩=some (.bool false)/\l.cell? ⟨b+1,1,none⟩=some (.slice I S.length M))
    (first|exact⟨(g.out.1.ext0 (c.trans a)).cell 0 rfl,(g.out.1.ext0 (c.trans a)).cell 1 rfl,(g.out.2.1.ext0 (c.trans a)).cell 0 rfl,(g.out.2.1.ext0 (c.trans a)).cell 1 rfl⟩|exact⟨(g.out.1.ext0 (c.trans (a.trans d))).cell 0 rfl,(g.out.1.ext0 (c.trans (a.trans d))).cell 1 rfl,(g.out.2.1.ext0 (c.trans (a.trans d))).cell 0 rfl,(g.out.2.1.ext0 (c.trans (a.trans d))).cell 1 rfl⟩|exact⟨((g.out.1.ext0 (c.trans (a.trans d))).ext (f.set2 _ _).2 (a0b (by omega))).cell 0 rfl,((g.out.1.ext0 (c.trans (a.trans d))).ext (f.set2 _ _).2 (a0b (by omega))).cell 1 rfl,((g.out.2.1.ext0 (c.trans (a.trans d))).ext (f.set2 _ _).2 (a0b (by omega))).cell 0 rfl,((g.out.2.1.ext0 (c.trans (a.trans d))).ext (f.set2 _ _).2 (a0b (by omega))).cell 1 rfl⟩|go_keep)
    (first|(go_at_call 234;refine(b6k (X:=a0f X b 3) (w:=wc.drew) m P Q).mono ?_;rintro e T ⟨a,U,rfl,q⟩)|(go_at_call 292;refine(a2Q (a0f X b 3) T true U (x.natAbs*y.natAbs) (HX.ext (w:=wc.drew) m a) q).mono ?_;rintro e w6 ⟨d,u6,rfl,B,n,o,A,rfl,j,h,k⟩;have f:=g.out.2.2.ext0 (c.trans (a.trans d));have Z:=f.cell 0 rfl;have g2:=f.cell 1 rfl;have g3:=f.frozen 0;have g4:=f.frozen 1))
   obtain⟨r1,G⟩:=f.set2 (.bool B) (.slice n A.length o);have h7:=(k.mono (a0c.mono _) (a0h G (by omega) (by omega))).mono (a0c.mono _) a0k;rw[C.out]at h;have p:Ext w _:=ExtX.box (E.trans (c.trans (a.trans d))) G (by omega);clear Z g2 g3 g4 r s t z;go_wp2_with fail
   exact bodyPost_ret (a0e rfl rfl a0I r1 rfl) rfl ⟨p,_,rfl,B,n,o,A,rfl,j,h,h7⟩
  ·obtain rfl:sn=false:=i.out.symm
   clear i;go_wp2_with fail
   go_region_held3 (fun l=>l.cell? ⟨b,0,none⟩=some (.bool true)/\l.cell? ⟨b,1,none⟩=some (.slice H R.length L)/\l.cell? ⟨b+1,0,none⟩=some (.bool true)/\l.cell? ⟨b+1,1,none⟩=some (.slice I S.length M))
    (first|exact⟨(g.out.1.ext0 (c.trans a)).cell 0 rfl,(g.out.1.ext0 (c.trans a)).cell 1 rfl,(g.out.2.1.ext0 (c.trans a)).cell 0 rfl,(g.out.2.1.ext0 (c.trans a)).cell 1 rfl⟩|exact⟨(g.out.1.ext0 (c.trans (a.trans d))).cell 0 rfl,(g.out.1.ext0 (c.trans (a.trans d))).cell 1 rfl,(g.out.2.1.ext0 (c.trans (a.trans d))).cell 0 rfl,(g.out.2.1.ext0 (c.trans (a.trans d))).cell 1 rfl⟩|exact⟨((g.out.1.ext0 (c.trans (a.trans d))).ext (f.set2 _ _).2 (a0b (by omega))).cell 0 rfl,((g.out.1.ext0 (c.trans (a.trans d))).ext (f.set2 _ _).2 (a0b (by omega))).cell 1 rfl,((g.out.2.1.ext0 (c.trans (a.trans d))).ext (f.set2 _ _).2 (a0b (by omega))).cell 0 rfl,((g.out.2.1.ext0 (c.trans (a.trans d))).ext (f.set2 _ _).2 (a0b (by omega))).cell 1 rfl⟩|go_keep)
    (first|(go_at_call 234;refine(b6k (X:=a0f X b 3) (w:=wc.drew) m P Q).mono ?_;rintro e T ⟨a,U,rfl,q⟩)|(go_at_call 292;refine(a2Q (a0f X b 3) T false U (x.natAbs*y.natAbs) (HX.ext (w:=wc.drew) m a) q).mono ?_;rintro e w6 ⟨d,u6,rfl,B,n,o,A,rfl,j,h,k⟩;have f:=g.out.2.2.ext0 (c.trans (a.trans d));have Z:=f.cell 0 rfl;have g2:=f.cell 1 rfl;have g3:=f.frozen 0;have g4:=f.frozen 1))
   obtain⟨r1,G⟩:=f.set2 (.bool B) (.slice n A.length o);have h7:=(k.mono (a0c.mono _) (a0h G (by omega) (by omega))).mono (a0c.mono _) a0k;rw[C.out]at h;have p:Ext w _:=ExtX.box (E.trans (c.trans (a.trans d))) G (by omega);clear Z g2 g3 g4 r s t z;go_wp2_with fail
   exact bodyPost_ret (a0e rfl rfl a0I r1 rfl) rfl ⟨p,_,rfl,B,n,o,A,rfl,j,h,h7⟩
theorem c1i(X:Nat->Bool)(w:World)(u:Value)(x:Int)(V:HX X w)(o:ZV (mk X w) u x):Calls Tryz.prog 296 #[u] w (a1S X w ZC (-x)):=by
 have C:=hid o.lg;obtain⟨s1,P,R,l1,rfl,E⟩:=id o;obtain⟨W,hW,K,n,I,hz⟩:=a1w w #[.bool s1,.slice P l1.length R] #[.bool false,.slice none 0 0] 39 39;have d:HX (a0f X w.heap.size 2) W:=V.boxes hz;have m:=ZV.mono _ _ _ _ (a0j (nb:=2) K) o;obtain⟨b,Y⟩:∃b,w.heap.size=b:=⟨_,rfl⟩;have Z:w.heap.size<=b:=by omega
 rw[Y]at n I hz d m;have f:=n.cell 0 rfl;have g:=n.cell 1 rfl;clear o E;go_enter Tryz.func296,Tryz.ntmps296
 go_wp2_with fail
 refine(a5P (a0f X b 2) W _ x d m).mono ?_;rintro e w5 ⟨a,u5,rfl,F⟩;have k:=d.ext a;clear f g;go_wp2_with fail
 refine(b7r (a0f X b 2) w5 _ x k F C.out).mono ?_;rintro e w6 ⟨c,u6,rfl,G,H,J,L,rfl,v,h,y⟩;have q:=(n.ext0 a).ext0 c;have r:=(I.ext0 a).ext0 c;have D:=hid (a3W h);go_wp2_with ((with_reducible show wpList _ _ _ (⟨_,.store _ _ _,_,_,_,_⟩::_) _ _);refine a0a a0I rfl rfl q rfl rfl (a2V _ _ _ _) ?_;intro O N p;have f:=N.cell 0 rfl;have g:=N.cell 1 rfl)
 have B:=(k.ext c).ext p;have s:=r.ext p (a0b (by omega));have hn:NC (mk (a0f X b 2) O) (.slice H L.length J) x.natAbs:=⟨H,J,L,rfl,v,h.2,y.mono (a0c.mono _) (a0h p (by omega) (by omega))⟩;have l:Hid (sg (!G) x.natAbs= -x):=hid (by
  have T:=D.out;rw[<-T,a7h];unfold sg;cases G<;>simp)
 refine(a2Q (a0f X b 2) O (!G) _ _ B hn).mono ?_;rintro e w8 ⟨j,u8,rfl,s8,Q,S,l8,rfl,z,i,A⟩;rw[l.out]at i;have t:=s.ext0 j;clear f g;go_wp2_with ((with_reducible show wpList _ _ _ (⟨_,.store _ _ _,_,_,_,_⟩::_) _ _);refine a0a a0I rfl rfl t rfl rfl (a2V _ _ _ _) ?_;intro w9 q1 M)
 have U:=(A.mono (a0c.mono _) (a0h M (by omega) (by omega))).mono (a0c.mono _) a0k;exact bodyPost_ret (a0e rfl rfl a0I q1 rfl) rfl ⟨ExtX.box ((ExtX.box (K.trans (a.trans c)) p (by omega)).trans j) M (by omega),_,rfl,s8,Q,S,l8,rfl,z,i,U⟩
theorem b1r(X:Nat->Bool)(w:World)(u:Value)(x:Int)(I:HX X w)(z:ZV (mk X w) u x):Calls Tryz.prog 206 #[u] w (a3R w x.sign):=by
 obtain⟨N,D,E,M,rfl,A⟩:=id z;obtain⟨W,Q,t,s,hz⟩:=a1e w #[.bool N,.slice D M.length E] 39;have p:HX (a0f X w.heap.size 1) W:=I.boxes hz;have q:=ZV.mono _ _ _ _ (a0j (nb:=1) t) z;obtain⟨b,J⟩:∃b,w.heap.size=b:=⟨_,rfl⟩;have K:w.heap.size<=b:=by omega
 rw[J]at s hz p q;have j:=s.cell 0 rfl;have k:=s.cell 1 rfl;clear z A;go_enter Tryz.func206,Tryz.ntmps206
 go_wp2_with fail
 refine(a5P (a0f X b 1) W _ x p q).mono ?_;rintro e S ⟨g,R,rfl,B,O,P,v,rfl,F,n,G⟩;have m:=s.ext0 g;have d:=hid n.len0;have f:=hid n.1;clear j k n;by_cases o:v.length=0
 ·have i:x=0:=d.out.1 o
  subst i;have H:((v.length:Int)==0)=true:=a6R (by omega);have L:(v.length:Int)=0:=by omega
  clear d f o;go_wp2_with ((with_reducible show wpList _ _ _ (⟨_,.store _ _ _,_,_,_,_⟩::_) _ _);refine a0a a0I rfl rfl m rfl rfl (a2V _ _ _ _) ?_;intro C l r;have j:=l.cell 0 rfl;have k:=l.cell 1 rfl)
  have c:=ExtX.box (t.trans g) r (by omega);go_ret
  exact⟨c,rfl⟩
 ·have H:((v.length:Int)==0)=false:=a2J (by omega)
  have i:¬x=0:=fun h=>o (d.out.2 h);by_cases a:x<0
  ·have y:Hid (x.sign= -1):=hid (Int.sign_eq_neg_one_of_neg a)
   obtain rfl:B=true:=by rw[f.out];exact decide_eq_true a
   clear d o i a f;go_wp2_with ((with_reducible show wpList _ _ _ (⟨_,.store _ _ _,_,_,_,_⟩::_) _ _);refine a0a a0I rfl rfl m rfl rfl (a2V _ _ _ _) ?_;intro C l r;have j:=l.cell 0 rfl;have k:=l.cell 1 rfl)
   have c:=ExtX.box (t.trans g) r (by omega);go_ret
   exact⟨c,a0N y.out.symm⟩
  ·have y:Hid (x.sign=1):=hid (Int.sign_eq_one_of_pos (by omega))
   obtain rfl:B=false:=by rw[f.out];exact decide_eq_false a
   clear d o i a f;go_wp2_with ((with_reducible show wpList _ _ _ (⟨_,.store _ _ _,_,_,_,_⟩::_) _ _);refine a0a a0I rfl rfl m rfl rfl (a2V _ _ _ _) ?_;intro C l r;have j:=l.cell 0 rfl;have k:=l.cell 1 rfl)
   have c:=ExtX.box (t.trans g) r (by omega);go_ret
   exact⟨c,a0N y.out.symm⟩
theorem a9u(X:Nat->Bool)(w:World)(u v:Value)(x y:Int)(hX:HX X w)(hu:ZV (mk X w) u x)(hv:ZV (mk X w) v y)(b5:lg x.natAbs<=274877906944)(b6:lg y.natAbs<=274877906944):Calls Tryz.prog 121 #[u,v] w (a1S X w ZC (x*y)):=by
 have C:=hid b5;have D:=hid b6;clear b5 b6;have f3:=hid hu.lg;have f4:=hid hv.lg;obtain⟨s1,a1,c1,l1,rfl,f7⟩:=id hu;obtain⟨s2,a2,c2,l2,rfl,f8⟩:=id hv;obtain⟨W,hW,hE,L,M,b2,hz⟩:=a2p w #[.bool s1,.slice a1 l1.length c1] #[.bool s2,.slice a2 l2.length c2] #[.bool false,.slice none 0 0] 39 39 39;have b4:HX (a0f X w.heap.size 3) W:=hX.boxes hz;have a9:=ZV.mono _ _ _ _ (a0j (nb:=3) hE) hu;have b3:=ZV.mono _ _ _ _ (a0j (nb:=3) hE) hv;obtain⟨b,hb⟩:∃b,w.heap.size=b:=⟨_,rfl⟩;have f0:w.heap.size<=b:=by omega
 rw[hb]at L M b2 hz b4 a9 b3;have c:Ext W W.drew:=(ExtX.refl W).drew;have a7:HX (a0f X b 3) W.drew:=b4;have b9:ZV (mk (a0f X b 3) W.drew) (.agg #[.bool s1,.slice a1 l1.length c1]) x:=a9;have c0:ZV (mk (a0f X b 3) W.drew) (.agg #[.bool s2,.slice a2 l2.length c2]) y:=b3;have r:=L.cell 0 rfl;have s:=L.cell 1 rfl;have t:=M.cell 0 rfl;have z:=M.cell 1 rfl;clear hu hv f7 f8;go_enter Tryz.func121,Tryz.ntmps121
 go_upto_region 1 with(fail)
 go_cut []from 5 to 8 (fun wx=>∃s3 J N T s4 K O U,Bx wx b #[.bool s3,.slice J T N] 39/\Bx wx (b+1) #[.bool s4,.slice K U O] 39/\Bx wx (b+1+1) #[.bool false,.slice none 0 0] 39/\ZC (mk (a0f X b 3) wx) (.agg #[.bool s3,.slice J T N]) x/\ZC (mk (a0f X b 3) wx) (.agg #[.bool s4,.slice K U O]) y/\Ext w wx)
 case first=>
  go_region_with (first|(go_at_call 194;(with_reducible refine(a3X (a0f X b 3) W.drew _ x a7 b9).mono ?_);rintro e V ⟨a,Y,rfl,s5,a5,c5,l5,rfl,e7,e8,e9⟩;have Z:=L.ext0 (c.trans a);have a0:=M.ext0 (c.trans a);have c8:=Z.cell 0 rfl;have c9:=Z.cell 1 rfl;have d0:=a0.cell 0 rfl;have d1:=a0.cell 1 rfl)|(go_at_call 194;(with_reducible refine(a3X (a0f X b 3) V _ y (HX.ext a7 a) (mkx ZV.mono c0 a)).mono ?_);rintro e w6 ⟨d,u6,rfl,B,n,o,A,rfl,j,h,k⟩;have f:=Z.ext0 d;have F:=a0.ext0 d;have d6:=f.cell 0 rfl;have d7:=f.cell 1 rfl;have d8:=F.cell 0 rfl;have d9:=F.cell 1 rfl;have d2:=f.frozen 0;have d3:=f.frozen 1;have d4:=F.frozen 0;have d5:=F.frozen 1))
  all_goals
   obtain⟨wf,c7,q0,q1,q2,q3,q4⟩:=a2x (X:=X) (nb:=3) f F (hE.trans ((c.trans a).trans d)) f0 (by omega) (.bool s5) (.slice a5 l5.length c5) (.bool B) (.slice n A.length o);rw[c7];have f1:ZC (mk (a0f X b 3) wf) (.agg #[.bool s5,.slice a5 l5.length c5]) x:=⟨s5,a5,c5,l5,rfl,e7,e8,(e9.mono (a0c.mono _) (a0l d)).mono (a0c.mono _) q4⟩;have f2:ZC (mk (a0f X b 3) wf) (.agg #[.bool B,.slice n A.length o]) y:=⟨B,n,o,A,rfl,j,h,k.mono (a0c.mono _) q4⟩;have q5:=q2 (b+1+1) _ _ (by omega) (by omega) ((b2.ext0 (c.trans a)).ext0 d);clear c8 c9 d0 d1 d6 d7 d8 d9 d2 d3 d4 d5 r s t z c7;go_wp2_with fail
   go_meet
   exact⟨_,_,_,_,_,_,_,_,q0,q1,q5,f1,f2,q3⟩
 case rest=>
  clear r s t z L M b2 a9 b3 b9 c0 a7 c hW;obtain⟨s3,J,N,n3,s4,K,O,n4,L,M,b2,hx,hy,G⟩:=hcut;obtain⟨_,_,_,T,H,e0,P,e3⟩:=hx;simp only[Value.agg.injEq,Array.mk.injEq,List.cons.injEq,Value.bool.injEq,Value.slice.injEq,and_true]at H;obtain⟨rfl,rfl,rfl,rfl⟩:=H;obtain⟨_,_,_,U,H,e4,Q,e6⟩:=hy;simp only[Value.agg.injEq,Array.mk.injEq,List.cons.injEq,Value.bool.injEq,Value.slice.injEq,and_true]at H;obtain⟨rfl,rfl,rfl,rfl⟩:=H;have b8:=hid (a3W P);have b7:=hid (a3W Q);have f5:=hid P.1;have f6:=hid Q.1;have c:Ext wc wc.drew:=(ExtX.refl wc).drew;have R:NV (mk (a0f X b 3) wc) (.slice J T.length N) x.natAbs:=NC.nv ⟨J,N,T,rfl,e0,P.2,e3⟩ (by have:=f3.out;omega);have S:NV (mk (a0f X b 3) wc) (.slice K U.length O) y.natAbs:=NC.nv ⟨K,O,U,rfl,e4,Q.2,e6⟩ (by have:=f4.out;omega);have f9:w.heap.size+3<=wc.heap.size:=by have:=b2.lt;omega
  have m:HX (a0f X b 3) wc:=hX.boxes' G (by omega) f9;have g:=hid (And.intro L (And.intro M b2));have r:=L.cell 0 rfl;have s:=L.cell 1 rfl;have t:=M.cell 0 rfl;have z:=M.cell 1 rfl;have g0:b+1≠b+1+1:=by omega
  have g5:b≠b+1+1:=by omega
  obtain⟨sn,a8⟩:∃sn,(s3 !=s4)=sn:=⟨_,rfl⟩;have E:Hid (sg sn (x.natAbs*y.natAbs)=x*y):=hid (by
   have e1:=b8.out;have e2:=b7.out;rw[<-a8,<-e1,<-e2,a7h,a7h];unfold sg;cases s3<;>cases s4<;>simp[Int.natCast_mul,Int.neg_mul,Int.mul_neg])
  have i:=hid a8;clear f5 f6 b8 b7 a8 P Q;cases s3<;>cases s4
  ·obtain rfl:sn=false:=i.out.symm
   clear i;go_wp2_with fail
   go_region_held3 (fun l=>l.cell? ⟨b,0,none⟩=some (.bool false)/\l.cell? ⟨b,1,none⟩=some (.slice J T.length N)/\l.cell? ⟨b+1,0,none⟩=some (.bool false)/\l.cell? ⟨b+1,1,none⟩=some (.slice K U.length O))
    (first|exact⟨(g.out.1.ext0 (c.trans a)).cell 0 rfl,(g.out.1.ext0 (c.trans a)).cell 1 rfl,(g.out.2.1.ext0 (c.trans a)).cell 0 rfl,(g.out.2.1.ext0 (c.trans a)).cell 1 rfl⟩|exact⟨(g.out.1.ext0 (c.trans (a.trans d))).cell 0 rfl,(g.out.1.ext0 (c.trans (a.trans d))).cell 1 rfl,(g.out.2.1.ext0 (c.trans (a.trans d))).cell 0 rfl,(g.out.2.1.ext0 (c.trans (a.trans d))).cell 1 rfl⟩|exact⟨((g.out.1.ext0 (c.trans (a.trans d))).ext (f.set2 _ _).2 (a0b (by omega))).cell 0 rfl,((g.out.1.ext0 (c.trans (a.trans d))).ext (f.set2 _ _).2 (a0b (by omega))).cell 1 rfl,((g.out.2.1.ext0 (c.trans (a.trans d))).ext (f.set2 _ _).2 (a0b (by omega))).cell 0 rfl,((g.out.2.1.ext0 (c.trans (a.trans d))).ext (f.set2 _ _).2 (a0b (by omega))).cell 1 rfl⟩|go_keep)
    (first|(go_at_call 203;refine(b4H (a0f X b 3) wc.drew _ _ _ _ m R S C.out D.out).mono ?_;rintro e V ⟨a,Y,rfl,q⟩)|(go_at_call 200;refine(a1R (a0f X b 3) V false Y (x.natAbs*y.natAbs) (HX.ext (w:=wc.drew) m a) q).mono ?_;rintro e w6 ⟨d,u6,rfl,B,n,o,A,rfl,j,h,k⟩;have f:=g.out.2.2.ext0 (c.trans (a.trans d));have g1:=f.cell 0 rfl;have g2:=f.cell 1 rfl;have g3:=f.frozen 0;have g4:=f.frozen 1))
   obtain⟨r1,I⟩:=f.set2 (.bool B) (.slice n A.length o);have h7:=(k.mono (a0c.mono _) (a0h I (by omega) (by omega))).mono (a0c.mono _) a0k;rw[E.out]at h;have p:Ext w _:=ExtX.box (G.trans (c.trans (a.trans d))) I (by omega);clear g1 g2 g3 g4 r s t z;go_wp2_with fail
   exact bodyPost_ret (a0e rfl rfl a0I r1 rfl) rfl ⟨p,_,rfl,B,n,o,A,rfl,j,h,h7⟩
  ·obtain rfl:sn=true:=i.out.symm
   clear i;go_wp2_with fail
   go_region_held3 (fun l=>l.cell? ⟨b,0,none⟩=some (.bool false)/\l.cell? ⟨b,1,none⟩=some (.slice J T.length N)/\l.cell? ⟨b+1,0,none⟩=some (.bool true)/\l.cell? ⟨b+1,1,none⟩=some (.slice K U.length O))
    (first|exact⟨(g.out.1.ext0 (c.trans a)).cell 0 rfl,(g.out.1.ext0 (c.trans a)).cell 1 rfl,(g.out.2.1.ext0 (c.trans a)).cell 0 rfl,(g.out.2.1.ext0 (c.trans a)).cell 1 rfl⟩|exact⟨(g.out.1.ext0 (c.trans (a.trans d))).cell 0 rfl,(g.out.1.ext0 (c.trans (a.trans d))).cell 1 rfl,(g.out.2.1.ext0 (c.trans (a.trans d))).cell 0 rfl,(g.out.2.1.ext0 (c.trans (a.trans d))).cell 1 rfl⟩|exact⟨((g.out.1.ext0 (c.trans (a.trans d))).ext (f.set2 _ _).2 (a0b (by omega))).cell 0 rfl,((g.out.1.ext0 (c.trans (a.trans d))).ext (f.set2 _ _).2 (a0b (by omega))).cell 1 rfl,((g.out.2.1.ext0 (c.trans (a.trans d))).ext (f.set2 _ _).2 (a0b (by omega))).cell 0 rfl,((g.out.2.1.ext0 (c.trans (a.trans d))).ext (f.set2 _ _).2 (a0b (by omega))).cell 1 rfl⟩|go_keep)
    (first|(go_at_call 203;refine(b4H (a0f X b 3) wc.drew _ _ _ _ m R S C.out D.out).mono ?_;rintro e V ⟨a,Y,rfl,q⟩)|(go_at_call 200;refine(a1R (a0f X b 3) V true Y (x.natAbs*y.natAbs) (HX.ext (w:=wc.drew) m a) q).mono ?_;rintro e w6 ⟨d,u6,rfl,B,n,o,A,rfl,j,h,k⟩;have f:=g.out.2.2.ext0 (c.trans (a.trans d));have g1:=f.cell 0 rfl;have g2:=f.cell 1 rfl;have g3:=f.frozen 0;have g4:=f.frozen 1))
   obtain⟨r1,I⟩:=f.set2 (.bool B) (.slice n A.length o);have h7:=(k.mono (a0c.mono _) (a0h I (by omega) (by omega))).mono (a0c.mono _) a0k;rw[E.out]at h;have p:Ext w _:=ExtX.box (G.trans (c.trans (a.trans d))) I (by omega);clear g1 g2 g3 g4 r s t z;go_wp2_with fail
   exact bodyPost_ret (a0e rfl rfl a0I r1 rfl) rfl ⟨p,_,rfl,B,n,o,A,rfl,j,h,h7⟩
  ·obtain rfl:sn=true:=i.out.symm
   clear i;go_wp2_with fail
   go_region_held3 (fun l=>l.cell? ⟨b,0,none⟩=some (.bool true)/\l.cell? ⟨b,1,none⟩=some (.slice J T.length N)/\l.cell? ⟨b+1,0,none⟩=some (.bool false)/\l.cell? ⟨b+1,1,none⟩=some (.slice K U.length O))
    (first|exact⟨(g.out.1.ext0 (c.trans a)).cell 0 rfl,(g.out.1.ext0 (c.trans a)).cell 1 rfl,(g.out.2.1.ext0 (c.trans a)).cell 0 rfl,(g.out.2.1.ext0 (c.trans a)).cell 1 rfl⟩|exact⟨(g.out.1.ext0 (c.trans (a.trans d))).cell 0 rfl,(g.out.1.ext0 (c.trans (a.trans d))).cell 1 rfl,(g.out.2.1.ext0 (c.trans (a.trans d))).cell 0 rfl,(g.out.2.1.ext0 (c.trans (a.trans d))).cell 1 rfl⟩|exact⟨((g.out.1.ext0 (c.trans (a.trans d))).ext (f.set2 _ _).2 (a0b (by omega))).cell 0 rfl,((g.out.1.ext0 (c.trans (a.trans d))).ext (f.set2 _ _).2 (a0b (by omega))).cell 1 rfl,((g.out.2.1.ext0 (c.trans (a.trans d))).ext (f.set2 _ _).2 (a0b (by omega))).cell 0 rfl,((g.out.2.1.ext0 (c.trans (a.trans d))).ext (f.set2 _ _).2 (a0b (by omega))).cell 1 rfl⟩|go_keep)
    (first|(go_at_call 203;refine(b4H (a0f X b 3) wc.drew _ _ _ _ m R S C.out D.out).mono ?_;rintro e V ⟨a,Y,rfl,q⟩)|(go_at_call 200;refine(a1R (a0f X b 3) V true Y (x.natAbs*y.natAbs) (HX.ext (w:=wc.drew) m a) q).mono ?_;rintro e w6 ⟨d,u6,rfl,B,n,o,A,rfl,j,h,k⟩;have f:=g.out.2.2.ext0 (c.trans (a.trans d));have g1:=f.cell 0 rfl;have g2:=f.cell 1 rfl;have g3:=f.frozen 0;have g4:=f.frozen 1))
   obtain⟨r1,I⟩:=f.set2 (.bool B) (.slice n A.length o);have h7:=(k.mono (a0c.mono _) (a0h I (by omega) (by omega))).mono (a0c.mono _) a0k;rw[E.out]at h;have p:Ext w _:=ExtX.box (G.trans (c.trans (a.trans d))) I (by omega);clear g1 g2 g3 g4 r s t z;go_wp2_with fail
   exact bodyPost_ret (a0e rfl rfl a0I r1 rfl) rfl ⟨p,_,rfl,B,n,o,A,rfl,j,h,h7⟩
  ·obtain rfl:sn=false:=i.out.symm
   clear i;go_wp2_with fail
   go_region_held3 (fun l=>l.cell? ⟨b,0,none⟩=some (.bool true)/\l.cell? ⟨b,1,none⟩=some (.slice J T.length N)/\l.cell? ⟨b+1,0,none⟩=some (.bool true)/\l.cell? ⟨b+1,1,none⟩=some (.slice K U.length O))
    (first|exact⟨(g.out.1.ext0 (c.trans a)).cell 0 rfl,(g.out.1.ext0 (c.trans a)).cell 1 rfl,(g.out.2.1.ext0 (c.trans a)).cell 0 rfl,(g.out.2.1.ext0 (c.trans a)).cell 1 rfl⟩|exact⟨(g.out.1.ext0 (c.trans (a.trans d))).cell 0 rfl,(g.out.1.ext0 (c.trans (a.trans d))).cell 1 rfl,(g.out.2.1.ext0 (c.trans (a.trans d))).cell 0 rfl,(g.out.2.1.ext0 (c.trans (a.trans d))).cell 1 rfl⟩|exact⟨((g.out.1.ext0 (c.trans (a.trans d))).ext (f.set2 _ _).2 (a0b (by omega))).cell 0 rfl,((g.out.1.ext0 (c.trans (a.trans d))).ext (f.set2 _ _).2 (a0b (by omega))).cell 1 rfl,((g.out.2.1.ext0 (c.trans (a.trans d))).ext (f.set2 _ _).2 (a0b (by omega))).cell 0 rfl,((g.out.2.1.ext0 (c.trans (a.trans d))).ext (f.set2 _ _).2 (a0b (by omega))).cell 1 rfl⟩|go_keep)
    (first|(go_at_call 203;refine(b4H (a0f X b 3) wc.drew _ _ _ _ m R S C.out D.out).mono ?_;rintro e V ⟨a,Y,rfl,q⟩)|(go_at_call 200;refine(a1R (a0f X b 3) V false Y (x.natAbs*y.natAbs) (HX.ext (w:=wc.drew) m a) q).mono ?_;rintro e w6 ⟨d,u6,rfl,B,n,o,A,rfl,j,h,k⟩;have f:=g.out.2.2.ext0 (c.trans (a.trans d));have g1:=f.cell 0 rfl;have g2:=f.cell 1 rfl;have g3:=f.frozen 0;have g4:=f.frozen 1))
   obtain⟨r1,I⟩:=f.set2 (.bool B) (.slice n A.length o);have h7:=(k.mono (a0c.mono _) (a0h I (by omega) (by omega))).mono (a0c.mono _) a0k;rw[E.out]at h;have p:Ext w _:=ExtX.box (G.trans (c.trans (a.trans d))) I (by omega);clear g1 g2 g3 g4 r s t z;go_wp2_with fail
   exact bodyPost_ret (a0e rfl rfl a0I r1 rfl) rfl ⟨p,_,rfl,B,n,o,A,rfl,j,h,h7⟩
def b0B(w:World)(b:Bool)(e:Ending)(w':World):Prop:=Ext w w'/\e=.returned (.bool b)
theorem b7s(X:Nat->Bool)(w:World)(u:Value)(x:Int)(S:HX X w)(B:ZV (mk X w) u x):Calls Tryz.prog 129 #[u] w (a1S X w ZC (-x)):=by
 obtain⟨s1,M,O,Y,rfl,C⟩:=id B;obtain⟨W,hW,H,l,F,hz⟩:=a1w w #[.bool s1,.slice M Y.length O] #[.bool false,.slice none 0 0] 39 39;have c:HX (a0f X w.heap.size 2) W:=S.boxes hz;have k:=ZV.mono _ _ _ _ (a0j (nb:=2) H) B;obtain⟨b,T⟩:∃b,w.heap.size=b:=⟨_,rfl⟩;have U:w.heap.size<=b:=by omega
 rw[T]at l F hz c k;have d:=l.cell 0 rfl;have f:=l.cell 1 rfl;clear B C;go_enter Tryz.func129,Tryz.ntmps129
 go_wp2_with fail
 refine(a3X (a0f X b 2) W _ x c k).mono ?_;rintro e w6 ⟨a,u6,rfl,D,E,G,I,rfl,r,g,s⟩;have y:=c.ext a;have n:=l.ext0 a;have o:=F.ext0 a;have A:=hid (a3W g);clear d f;go_wp2_with ((with_reducible show wpList _ _ _ (⟨_,.store _ _ _,_,_,_,_⟩::_) _ _);refine a0a a0I rfl rfl n rfl rfl (a2V _ _ _ _) ?_;intro L K m;have d:=K.cell 0 rfl;have f:=K.cell 1 rfl)
 have z:=y.ext m;have p:=o.ext m (a0b (by omega));have V:NC (mk (a0f X b 2) L) (.slice E I.length G) x.natAbs:=⟨E,G,I,rfl,r,g.2,s.mono (a0c.mono _) (a0h m (by omega) (by omega))⟩;have j:Hid (sg (!D) x.natAbs= -x):=hid (by
  have Q:=A.out;rw[<-Q,a7h];unfold sg;cases D<;>simp)
 refine(a1R (a0f X b 2) L (!D) _ _ z V).mono ?_;rintro e w8 ⟨i,u8,rfl,s8,N,P,Z,rfl,t,h,v⟩;rw[j.out]at h;have q:=p.ext0 i;clear d f;go_wp2_with ((with_reducible show wpList _ _ _ (⟨_,.store _ _ _,_,_,_,_⟩::_) _ _);refine a0a a0I rfl rfl q rfl rfl (a2V _ _ _ _) ?_;intro w9 q1 J)
 have R:=(v.mono (a0c.mono _) (a0h J (by omega) (by omega))).mono (a0c.mono _) a0k;exact bodyPost_ret (a0e rfl rfl a0I q1 rfl) rfl ⟨ExtX.box ((ExtX.box (H.trans a) m (by omega)).trans i) J (by omega),_,rfl,s8,N,P,Z,rfl,t,h,R⟩
theorem b6p(X:Nat->Bool)(w:World)(u:Value)(x:Int)(H:HX X w)(z:ZV (mk X w) u x):Calls Tryz.prog 117 #[u] w (a3R w x.sign):=by
 obtain⟨L,E,F,K,rfl,A⟩:=id z;obtain⟨W,O,t,s,hz⟩:=a1e w #[.bool L,.slice E K.length F] 39;have p:HX (a0f X w.heap.size 1) W:=H.boxes hz;have q:=ZV.mono _ _ _ _ (a0j (nb:=1) t) z;obtain⟨b,I⟩:∃b,w.heap.size=b:=⟨_,rfl⟩;have J:w.heap.size<=b:=by omega
 rw[I]at s hz p q;have i:=s.cell 0 rfl;have j:=s.cell 1 rfl;clear z A;go_enter Tryz.func117,Tryz.ntmps117
 go_wp2_with fail
 refine(a3X (a0f X b 1) W _ x p q).mono ?_;rintro e R ⟨g,Q,rfl,C,M,N,B,rfl,v,m,G⟩;have l:=s.ext0 g;have d:=hid m.len0;have f:=hid m.1;clear i j m;by_cases a:x<0
 ·have y:Hid (x.sign= -1):=hid (Int.sign_eq_neg_one_of_neg a)
  obtain rfl:C=true:=by rw[f.out];exact decide_eq_true a
  clear d a f;go_wp2_with ((with_reducible show wpList _ _ _ (⟨_,.store _ _ _,_,_,_,_⟩::_) _ _);refine a0a a0I rfl rfl l rfl rfl (a2V _ _ _ _) ?_;intro D k r;have i:=k.cell 0 rfl;have j:=k.cell 1 rfl)
  have c:=ExtX.box (t.trans g) r (by omega);go_ret
  exact⟨c,a0N y.out.symm⟩
 ·obtain rfl:C=false:=by rw[f.out];exact decide_eq_false a
  by_cases o:B.length=0
  ·have n:x=0:=d.out.1 o
   subst n;obtain rfl:B= []:=List.eq_nil_of_length_eq_zero o;clear d f o a;simp only[List.length_nil]at v |-;go_wp2_with ((with_reducible show wpList _ _ _ (⟨_,.store _ _ _,_,_,_,_⟩::_) _ _);refine a0a a0I rfl rfl l rfl rfl (a2V _ _ _ _) ?_;intro D k r;have i:=k.cell 0 rfl;have j:=k.cell 1 rfl)
   have c:=ExtX.box (t.trans g) r (by omega);go_ret
   exact⟨c,rfl⟩
  ·have n:¬x=0:=fun h=>o (d.out.2 h)
   have P:0<B.length:=by omega
   have y:Hid (x.sign=1):=hid (Int.sign_eq_one_of_pos (by omega));clear d n a f o;go_wp2_with ((with_reducible show wpList _ _ _ (⟨_,.store _ _ _,_,_,_,_⟩::_) _ _);refine a0a a0I rfl rfl l rfl rfl (a2V _ _ _ _) ?_;intro D k r;have i:=k.cell 0 rfl;have j:=k.cell 1 rfl)
   have c:=ExtX.box (t.trans g) r (by omega);go_ret
   exact⟨c,a0N y.out.symm⟩
theorem b2N(X:Nat->Bool)(w:World)(v:Int)(N:HX X w)(T: -9223372036854775808<=v)(U:v<=9223372036854775807):Calls Tryz.prog 127 #[.int .i64 v] w (a1S X w ZC v):=by
 obtain⟨W,V,K,x,hz⟩:=a1e w #[.bool false,.slice none 0 0] 39;have d:HX (a0f X w.heap.size 1) W:=N.boxes hz;obtain⟨b,O⟩:∃b,w.heap.size=b:=⟨_,rfl⟩;have P:w.heap.size<=b:=by omega
 rw[O]at x hz d;by_cases Y:v<0
 ·obtain⟨n,C⟩:∃n:Nat,-(v+1)=n:=Int.eq_ofNat_of_zero_le (by omega)
  have E:Hid (sg true (n+1)=v):=hid (by unfold sg;simp;omega);have G:Hid (-(v+1)=(n:Int)):=hid C;have D:Hid (n<18446744073709551616):=hid (by omega);have Q:(n:Int)<=9223372036854775807:=by omega
  clear C;go_enter Tryz.func127,Tryz.ntmps127
  go_wp2_with fail
  rw[G.out];refine(b6l (X:=a0f X b 1) d D.out).mono ?_;rintro e t ⟨a,L,rfl,h⟩;have m:=d.ext a;go_wp2_with fail
  have i:=NC.lit m 1 110 (by omega) (by omega);have c:Ext t (t.alloc (.cells #[.int .u32 ((1:Nat):Int)] 110)):=(ExtX.refl t).alloc _;have q:lg n<=1099511627776:=by
   have:n<B^2:=by rw[a1s];omega
   have:=a3b.2 this;omega
  refine(b4G (m.ext c) (mkx NV.mono (h.nv q) c) (i.nv (by rw[a3F];decide))).mono ?_;rintro e M ⟨o,S,rfl,F⟩;have f:=a.trans (c.trans o);have A:=d.ext f;clear a c o m i h q;go_wp2_with fail
  refine(a1R (a0f X b 1) M true S _ A F).mono ?_;rintro e w8 ⟨p,R,rfl,J,u,y,H,rfl,k,g,l⟩;rw[E.out]at g;have j:=(x.ext0 f).ext0 p;go_wp2_with ((with_reducible show wpList _ _ _ (⟨_,.store _ _ _,_,_,_,_⟩::_) _ _);refine a0a a0I rfl rfl j rfl rfl (a2V _ _ _ _) ?_;intro w9 I s)
  have z:=(l.mono (a0c.mono _) (a0h s (by omega) (by omega))).mono (a0c.mono _) a0k;exact bodyPost_ret (a0e rfl rfl a0I I rfl) rfl ⟨ExtX.box (K.trans (f.trans p)) s (by omega),_,rfl,J,u,y,H,rfl,k,g,z⟩
 ·obtain⟨n,rfl⟩:=Int.eq_ofNat_of_zero_le (show 0<=v by omega)
  have C:Hid (sg false n=(n:Int)):=hid rfl;have r:Hid (n<18446744073709551616):=hid (by omega);go_enter Tryz.func127,Tryz.ntmps127
  go_wp2_with fail
  refine(b6l (X:=a0f X b 1) d r.out).mono ?_;rintro e t ⟨a,L,rfl,h⟩;go_wp2_with fail
  refine(a1R (a0f X b 1) t false L n (d.ext a) h).mono ?_;rintro e Z ⟨c,R,rfl,J,u,y,H,rfl,k,g,l⟩;have j:=(x.ext0 a).ext0 c;go_wp2_with ((with_reducible show wpList _ _ _ (⟨_,.store _ _ _,_,_,_,_⟩::_) _ _);refine a0a a0I rfl rfl j rfl rfl (a2V _ _ _ _) ?_;intro M I s)
  have z:=(l.mono (a0c.mono _) (a0h s (by omega) (by omega))).mono (a0c.mono _) a0k;exact bodyPost_ret (a0e rfl rfl a0I I rfl) rfl ⟨ExtX.box (K.trans (a.trans c)) s (by omega),_,rfl,J,u,y,H,rfl,k,g,z⟩
theorem b6q(X:Nat->Bool)(w:World)(u v:Value)(x y:Int)(K:ZC (mk X w) u x)(L:ZC (mk X w) v y)(t:lg x.natAbs<=1099511627776):Calls Tryz.prog 114 #[u,v] w (b0B w (decide (x=y))):=by
 obtain⟨G,g,l,E,rfl,o,a,p⟩:=K;obtain⟨H,i,n,F,rfl,q,c,r⟩:=L;obtain⟨W,Q,f,j,k,hz⟩:=a1w w #[.bool G,.slice g E.length l] #[.bool H,.slice i F.length n] 39 39;have A:NC (mk X W) (.slice g E.length l) x.natAbs:=⟨g,l,E,rfl,o,a.2,p.mono (a0c.mono _) (a0l f)⟩;have B:NC (mk X W) (.slice i F.length n) y.natAbs:=⟨i,n,F,rfl,q,c.2,r.mono (a0c.mono _) (a0l f)⟩;obtain⟨b,I⟩:∃b,w.heap.size=b:=⟨_,rfl⟩;rw[I]at j k hz;have M:=j.cell 0 rfl;have N:=j.cell 1 rfl;have O:=k.cell 0 rfl;have P:=k.cell 1 rfl;have C:=hid (a3W a);have D:=hid (a3W c);by_cases d:G=H
 ·subst d
  have s:Hid (decide (x=y)=decide (x.natAbs=y.natAbs)):=hid (by
   rw[Bool.eq_iff_iff];simp only[decide_eq_true_eq];constructor
   ·intro h;rw[h]
   ·intro h;rw[<-C.out,<-D.out,h])
  have z:=hid t;clear a c t;go_enter Tryz.func114,Tryz.ntmps114
  go_wp2_with fail
  refine(b6n X W _ _ _ _ A B z.out).mono ?_;rintro e R ⟨rfl,m,rfl⟩;go_wp2_with fail
  go_ret
  exact⟨f.trans ((ExtX.refl W).drewN m),a0o s.out.symm⟩
 ·have s:Hid (decide (x=y)=false):=hid (by
   rw[decide_eq_false_iff_not];intro h;subst h;exact d (a.1.trans c.1.symm))
  have J:(G==H)=false:=by simpa using d
  clear a c t d;go_enter Tryz.func114,Tryz.ntmps114
  go_wp2_with fail
  go_ret
  exact⟨f,a0o s.out.symm⟩
theorem a8v(s:Bool)(a:Option Addr)(n c:Nat)(W:World):(Instr.field 39 (.agg #[.bool s,.slice a n c]) 1).run Tryz.prog W=.ok (.slice a n c) W:=by kernel_rfl
theorem b9d(X:Nat->Bool)(w:World)(u v:Value)(x y:Int)(hX:HX X w)(r:ZV (mk X w) u x)(s:ZV (mk X w) v y)(l:lg x.natAbs<=274877906944)(m:lg y.natAbs<=274877906944):Calls Tryz.prog 197 #[u,v] w (a1S X w NC (Nat.gcd x.natAbs y.natAbs)):=by
 have c:=hid l;have d:=hid m;clear l m;have a3:=hid r.lg;have a4:=hid s.lg;obtain⟨s1,a1,c1,l1,rfl,P⟩:=id r;obtain⟨s2,a2,c2,l2,rfl,S⟩:=id s;obtain⟨W,hW,I,p,q,hz⟩:=a1w w #[.bool s1,.slice a1 l1.length c1] #[.bool s2,.slice a2 l2.length c2] 39 39;have k:HX (a0f X w.heap.size 2) W:=hX.boxes hz;have n:=ZV.mono _ _ _ _ (a0j (nb:=2) I) r;have o:=ZV.mono _ _ _ _ (a0j (nb:=2) I) s;obtain⟨b,hb⟩:∃b,w.heap.size=b:=⟨_,rfl⟩;have a0:w.heap.size<=b:=by omega
 rw[hb]at p q hz k n o;have g:Ext W W.drew:=(ExtX.refl W).drew;have h:HX (a0f X b 2) W.drew:=k;have R:ZV (mk (a0f X b 2) W.drew) (.agg #[.bool s1,.slice a1 l1.length c1]) x:=n;have T:ZV (mk (a0f X b 2) W.drew) (.agg #[.bool s2,.slice a2 l2.length c2]) y:=o;have U:=p.cell 0 rfl;have V:=p.cell 1 rfl;have Y:=q.cell 0 rfl;have Z:=q.cell 1 rfl;clear r s P S;have hB:=hid (And.intro p q);have M:=a8v;go_enter Tryz.func197,Tryz.ntmps197
 go_wp2_with fail
 go_region_with (first|(go_at_call 194;(with_reducible refine(a3X (a0f X b 2) W.drew _ x h R).mono ?_);rintro e w5 ⟨a,u5,rfl,s5,a5,c5,l5,rfl,C,D,E⟩;have i:=hB.out.1.ext0 (g.trans a);have j:=hB.out.2.ext0 (g.trans a);have t:=i.cell 0 rfl;have z:=i.cell 1 rfl;have A:=j.cell 0 rfl;have B:=j.cell 1 rfl)|(go_at_call 194;(with_reducible refine(a3X (a0f X b 2) w5 _ y (HX.ext h a) (mkx ZV.mono T a)).mono ?_);rintro e w6 ⟨f,u6,rfl,s6,a6,c6,l6,rfl,F,G,H⟩;have L:=HX.ext (HX.ext h a) f;have N:NV (mk (a0f X b 2) w6) (.slice a5 l5.length c5) x.natAbs:=NC.nv ⟨a5,c5,l5,rfl,C,D.2,E.mono (a0c.mono _) (a0l f)⟩ (by have:=c.out;omega);have O:NV (mk (a0f X b 2) w6) (.slice a6 l6.length c6) y.natAbs:=NC.nv ⟨a6,c6,l6,rfl,F,G.2,H⟩ (by have:=d.out;omega))|(go_at_call 275;(with_reducible refine(b9b (a0f X b 2) w6 _ _ _ _ L N O c.out d.out).mono ?_);rintro e w7 ⟨J,u7,rfl,Q⟩))
 all_goals
  have K:=I.trans (g.trans (a.trans (f.trans J)));clear t z A B U V Y Z M;go_wp2_with fail
  go_ret
  exact⟨K,_,rfl,NC.mono _ _ _ _ a0k Q⟩
def c0t(X:Nat->Bool)(w:World)(q:Int)(e:Ending)(w':World):Prop:=Ext w w'/\∃u sv av nv cv,e=.returned (.tuple #[u,.agg #[.bool sv,.slice av nv cv],.bool true])/\ZC (mk X w') u q
theorem a5Q{P:Program}{w:World}{fn:Func}{a:Array Value}{c m d:Tmp}{t:TypeId}{n b b':Nat}{i e:Array Value}{T q:TypeId}(h:fn.results=#[.cell c t,.cell m t,.tmp d])(p:a.getD c undef=.pointer (some ⟨b,0,none⟩))(g:a.getD m undef=.pointer (some ⟨b',0,none⟩))(o:a1K P t n)(r:Bx w b i T)(k:i.size=n)(j:Bx w b' e q)(f:e.size=n):(results fn a).run P w=.ok (.tuple #[.agg i,.agg e,a.getD d undef]) w:=by
 have s:=a2i (P:=P) o r k;have l:=a2i (P:=P) o j f;rw[Array.getD_eq_getD_getElem?]at p g;simp[results,h,p,g,asAddr,s,l]
theorem b4J(X:Nat->Bool)(w:World)(u v:Value)(x y:Int)(hX:HX X w)(hu:ZV (mk X w) u x)(hv:ZV (mk X w) v y)(a9:lg x.natAbs<=274877906944)(b5:lg y.natAbs<=274877906944)(h0:0<y)(hd:y∣x):Calls Tryz.prog 198 #[u,v] w (c0t X w (x/y)):=by
 have b4:=hid a9;have b6:=hid b5;have hq:Hid (∃k:Int,x=y*k/\x/y=k):=hid (by
  obtain⟨k,rfl⟩:=hd;exact⟨k,rfl,Int.mul_ediv_cancel_left _ (by omega)⟩)
 have N:=hid h0;clear a9 b5 hd h0;have g0:=hid hu.lg;have g1:=hid hv.lg;obtain⟨s1,a1,c1,l1,rfl,g4⟩:=id hu;obtain⟨s2,a2,c2,l2,rfl,g5⟩:=id hv;obtain⟨W,hW,hE,B,C,b2,b3,hz⟩:=b6o w #[.bool s1,.slice a1 l1.length c1] #[.bool s2,.slice a2 l2.length c2] #[.bool false,.slice none 0 0] #[.bool false,.slice none 0 0] 39 39 39 39;have a0:HX (a0f X w.heap.size 4) W:=hX.boxes hz;have U:=ZV.mono _ _ _ _ (a0j (nb:=4) hE) hu;have V:=ZV.mono _ _ _ _ (a0j (nb:=4) hE) hv;obtain⟨b,hb⟩:∃b,w.heap.size=b:=⟨_,rfl⟩;have f4:w.heap.size<=b:=by omega
 rw[hb]at B C b2 b3 hz a0 U V;have i:Ext W W.drew:=(ExtX.refl W).drew;have S:HX (a0f X b 4) W.drew:=a0;have d0:ZV (mk (a0f X b 4) W.drew) (.agg #[.bool s1,.slice a1 l1.length c1]) x:=U;have d1:ZV (mk (a0f X b 4) W.drew) (.agg #[.bool s2,.slice a2 l2.length c2]) y:=V;have l:=B.cell 0 rfl;have m:=B.cell 1 rfl;have n:=C.cell 0 rfl;have o:=C.cell 1 rfl;clear hu hv g4 g5;go_enter Tryz.func198,Tryz.ntmps198
 go_upto_region 1 with(fail)
 go_cut []from 10 to 13 (fun wx=>∃s3 a3 c3 l3 s4 a4 c4 l4,Bx wx b #[.bool s3,.slice a3 l3 c3] 39/\Bx wx (b+1) #[.bool s4,.slice a4 l4 c4] 39/\Bx wx (b+1+1) #[.bool false,.slice none 0 0] 39/\Bx wx (b+1+1+1) #[.bool false,.slice none 0 0] 39/\ZC (mk (a0f X b 4) wx) (.agg #[.bool s3,.slice a3 l3 c3]) x/\ZC (mk (a0f X b 4) wx) (.agg #[.bool s4,.slice a4 l4 c4]) y/\Ext w wx)
 case first=>
  go_region_with (first|(go_at_call 194;(with_reducible refine(a3X (a0f X b 4) W.drew _ x S d0).mono ?_);rintro e w5 ⟨c,u5,rfl,s5,a5,c5,l5,rfl,F,r,G⟩;have p:=B.ext0 (i.trans c);have q:=C.ext0 (i.trans c);have d6:=p.cell 0 rfl;have d7:=p.cell 1 rfl;have d8:=q.cell 0 rfl;have d9:=q.cell 1 rfl)|(go_at_call 194;(with_reducible refine(a3X (a0f X b 4) w5 _ y (HX.ext S c) (mkx ZV.mono d1 c)).mono ?_);rintro e w6 ⟨a,u6,rfl,s6,K,L,Y,rfl,s,j,t⟩;have f:=p.ext0 a;have g:=q.ext0 a;have e6:=f.cell 0 rfl;have e7:=f.cell 1 rfl;have e8:=g.cell 0 rfl;have e9:=g.cell 1 rfl;have e0:=f.frozen 0;have e2:=f.frozen 1;have e3:=g.frozen 0;have e4:=g.frozen 1))
  all_goals
   obtain⟨wf,d4,q0,q1,q2,q3,q4⟩:=a2x (X:=X) (nb:=4) f g (hE.trans ((i.trans c).trans a)) f4 (by omega) (.bool s5) (.slice a5 l5.length c5) (.bool s6) (.slice K Y.length L);rw[d4];have f6:ZC (mk (a0f X b 4) wf) (.agg #[.bool s5,.slice a5 l5.length c5]) x:=⟨s5,a5,c5,l5,rfl,F,r,(G.mono (a0c.mono _) (a0l a)).mono (a0c.mono _) q4⟩;have f7:ZC (mk (a0f X b 4) wf) (.agg #[.bool s6,.slice K Y.length L]) y:=⟨s6,K,L,Y,rfl,s,j,t.mono (a0c.mono _) q4⟩;have q5:=q2 (b+1+1) _ _ (by omega) (by omega) ((b2.ext0 (i.trans c)).ext0 a);have q6:=q2 (b+1+1+1) _ _ (by omega) (by omega) ((b3.ext0 (i.trans c)).ext0 a);clear d6 d7 d8 d9 e6 e7 e8 e9 e0 e2 e3 e4 l m n o d4;go_wp2_with fail
   go_meet
   exact⟨_,_,_,_,_,_,_,_,q0,q1,q5,q6,f6,f7,q3⟩
 case rest=>
  clear l m n o B C b2 b3 U V d0 d1 S i hW;obtain⟨s3,a3,c3,n3,s4,a4,c4,n4,B,C,b2,b3,hx,hy,R⟩:=hcut;obtain⟨_,_,_,l3,A,f0,D,f1⟩:=hx;simp only[Value.agg.injEq,Array.mk.injEq,List.cons.injEq,Value.bool.injEq,Value.slice.injEq,and_true]at A;obtain⟨rfl,rfl,rfl,rfl⟩:=A;obtain⟨_,_,_,l4,A,f2,E,f3⟩:=hy;simp only[Value.agg.injEq,Array.mk.injEq,List.cons.injEq,Value.bool.injEq,Value.slice.injEq,and_true]at A;obtain⟨rfl,rfl,rfl,rfl⟩:=A;have b7:=hid (a3W D);have f9:=hid (a3W E);have c8:=hid D.1;have c9:=hid E.1;have i:Ext wc wc.drew:=(ExtX.refl wc).drew;have g2:NV (mk (a0f X b 4) wc) (.slice a3 l3.length c3) x.natAbs:=NC.nv ⟨a3,c3,l3,rfl,f0,D.2,f1⟩ (by have:=g0.out;omega);have g3:NV (mk (a0f X b 4) wc) (.slice a4 l4.length c4) y.natAbs:=NC.nv ⟨a4,c4,l4,rfl,f2,E.2,f3⟩ (by have:=g1.out;omega);have g6:w.heap.size+4<=wc.heap.size:=by have:=b3.lt;omega
  have a8:HX (a0f X b 4) wc:=hX.boxes' R (by omega) g6;have l:=B.cell 0 rfl;have m:=B.cell 1 rfl;have n:=C.cell 0 rfl;have o:=C.cell 1 rfl;have d5:Hid (0<y.natAbs):=hid (by have:=N.out;omega);have b8:Hid (x.natAbs%y.natAbs=0):=hid (by
   obtain⟨k,hk,_⟩:=hq.out;rw[hk,Int.natAbs_mul];exact Nat.mul_mod_right _ _)
  obtain rfl:s4=false:=by rw[c9.out];exact decide_eq_false (by have:=N.out;omega)
  have J:Hid (sg s3 (x.natAbs/y.natAbs)=x/y):=hid (by
   obtain⟨k,hk,f8⟩:=hq.out;have h0:=N.out;have e1:=b7.out;rw[f8];have f5:x.natAbs/y.natAbs=k.natAbs:=by rw[hk,Int.natAbs_mul];exact Nat.mul_div_cancel_left _ d5.out
   rw[f5,c8.out];have hs:(x<0)=(k<0):=by
    rw[hk];exact propext ⟨fun h=>by
     by_cases I:k<0
     ·exact I
     ·have:=Int.mul_nonneg (show 0<=y by omega) (show 0<=k by omega);omega,fun h=>Int.mul_neg_of_pos_of_neg h0 h⟩
   unfold sg;simp only[hs];by_cases I:k<0
   ·simp only[I,decide_true,if_true];omega
   ·simp only[I,decide_false,Bool.false_eq_true,if_false];omega)
  clear c8 c9 b7 f9 D E i;go_wp2_with fail
  refine(b9a (a0f X b 4) wc _ _ _ _ a8 g2 g3 b4.out b6.out d5.out).mono ?_;rintro e w5 ⟨c,qu,ru,rfl,b9,c0⟩;rw[b8.out]at c0;obtain⟨a5,c5,l5,rfl,F,r,G⟩:=c0;obtain rfl:l5= []:=List.eq_nil_of_length_eq_zero ((a1q r).2 rfl);have H:=a8.ext c;have p:=B.ext0 c;have q:=C.ext0 c;have f:=b2.ext0 c;have g:=b3.ext0 c;clear l m n o;have l:=p.cell 0 rfl;have m:=p.cell 1 rfl;have n:=q.cell 0 rfl;have o:=q.cell 1 rfl;simp only[List.length_nil];cases s3
  ·
   go_wp2_with fail
   refine(a1R (a0f X b 4) w5 false qu _ H b9).mono ?_;rintro e w6 ⟨a,u6,rfl,s6,K,L,Y,rfl,s,j,t⟩;rw[J.out]at j;go_wp2_with fail
   refine(a1R (a0f X b 4) w6 false _ 0 (H.ext a) (mkx NC.mono ⟨a5,c5,[],rfl,F,r,G⟩ a)).mono ?_;rintro e w7 ⟨d,u7,rfl,s7,a7,c7,l7,rfl,O,P,Q⟩;have d2:=(f.ext0 a).ext0 d;have d3:=(g.ext0 a).ext0 d;have T:=t.mono (a0c.mono _) (a0l d);have z:=R.trans (c.trans (a.trans d));clear l m n o P Q O;go_wp2_with ((with_reducible show wpList _ _ _ (⟨_,.store _ _ _,_,_,_,_⟩::_) _ _);first|(refine a0a a0I rfl rfl d2 rfl rfl (a2V _ _ _ _) ?_;intro w8 r1 Z;have M:=d3.ext Z (a0b (by omega)))|(refine a0a a0I rfl rfl M rfl rfl (a2V _ _ _ _) ?_;intro w9 r3 r4))
   have r5:=r1.ext r4 (a0b (by omega));have h8:=((T.mono (a0c.mono _) (a0h Z (by omega) (by omega))).mono (a0c.mono _) (a0h r4 (by omega) (by omega))).mono (a0c.mono _) a0k;exact bodyPost_ret (a5Q rfl rfl rfl a0I r5 rfl r3 rfl) rfl ⟨ExtX.box (ExtX.box z Z (by omega)) r4 (by omega),_,_,_,_,_,rfl,s6,K,L,Y,rfl,s,j,h8⟩
  ·
   go_wp2_with fail
   refine(a1R (a0f X b 4) w5 true qu _ H b9).mono ?_;rintro e w6 ⟨a,u6,rfl,s6,K,L,Y,rfl,s,j,t⟩;rw[J.out]at j;go_wp2_with fail
   refine(a1R (a0f X b 4) w6 false _ 0 (H.ext a) (mkx NC.mono ⟨a5,c5,[],rfl,F,r,G⟩ a)).mono ?_;rintro e w7 ⟨d,u7,rfl,s7,a7,c7,l7,rfl,O,P,Q⟩;have d2:=(f.ext0 a).ext0 d;have d3:=(g.ext0 a).ext0 d;have T:=t.mono (a0c.mono _) (a0l d);have z:=R.trans (c.trans (a.trans d));clear l m n o P Q O;go_wp2_with ((with_reducible show wpList _ _ _ (⟨_,.store _ _ _,_,_,_,_⟩::_) _ _);first|(refine a0a a0I rfl rfl d2 rfl rfl (a2V _ _ _ _) ?_;intro w8 r1 Z;have M:=d3.ext Z (a0b (by omega)))|(refine a0a a0I rfl rfl M rfl rfl (a2V _ _ _ _) ?_;intro w9 r3 r4))
   have r5:=r1.ext r4 (a0b (by omega));have h8:=((T.mono (a0c.mono _) (a0h Z (by omega) (by omega))).mono (a0c.mono _) (a0h r4 (by omega) (by omega))).mono (a0c.mono _) a0k;exact bodyPost_ret (a5Q rfl rfl rfl a0I r5 rfl r3 rfl) rfl ⟨ExtX.box (ExtX.box z Z (by omega)) r4 (by omega),_,_,_,_,_,rfl,s6,K,L,Y,rfl,s,j,h8⟩
end Go.Proofs.YtnnpfhoigmegcaaGreat
namespace Go.Lim
def b6r(a b:Int):Int:=if a<b then -1 else if b<a then 1 else 0
theorem b7t(x y:Int):(x.sign<y.sign->b6r x y= -1)/\(y.sign<x.sign->b6r x y=1)/\(x.sign=y.sign->x.sign*a3c x.natAbs y.natAbs=b6r x y):=by
 have hs:∀z:Int,(z<0/\z.sign= -1)\/(z=0/\z.sign=0)\/(0<z/\z.sign=1):=fun z=>by
  rcases Int.lt_trichotomy z 0 with h|h|h
  ·exact .inl ⟨h,Int.sign_eq_neg_one_of_neg h⟩
  ·subst h;exact .inr (.inl ⟨rfl,rfl⟩)
  ·exact .inr (.inr ⟨h,Int.sign_eq_one_of_pos h⟩)
 unfold b6r a3c;rcases hs x with⟨h1,e1⟩|⟨h1,e1⟩|⟨h1,e1⟩<;>rcases hs y with⟨h2,e2⟩|⟨h2,e2⟩|⟨h2,e2⟩<;>rw[e1,e2]
 all_goals refine⟨fun h=>?_,fun h=>?_,fun h=>?_⟩
 all_goals first
  |omega
  |(repeat' split)<;>omega
end Go.Lim
namespace Go.Proofs.YtnnpfhoigmegcaaGreat
open Go.RowKit Go.Rep Go.Lim
theorem c0u(X:Nat->Bool)(w:World)(v:Int)(C:HX X w)(I: -9223372036854775808<=v)(J:v<=9223372036854775807):Calls Tryz.prog 231 #[.int .i64 v] w (a1S X w ZC v):=by
 obtain⟨W,K,A,o,hz⟩:=a1e w #[.bool false,.slice none 0 0] 39;have d:HX (a0f X w.heap.size 1) W:=C.boxes hz;obtain⟨b,D⟩:∃b,w.heap.size=b:=⟨_,rfl⟩;have E:w.heap.size<=b:=by omega
 rw[D]at o hz d;have r:Hid (v.natAbs<18446744073709551616):=hid (by omega);by_cases L:v<0
 ·have B:Hid (sg true v.natAbs=v):=hid (by unfold sg;simp;omega)
  have s:Hid (IntKind.u64.wrap (-(IntKind.u64.wrap v))=(v.natAbs:Int)):=hid (by rw[IntKind.wrap_u64,IntKind.wrap_u64];omega);go_enter Tryz.func231,Tryz.ntmps231
  go_wp2_with fail
  rw[s.out];refine(b8Z (X:=a0f X b 1) d r.out).mono ?_;rintro e z ⟨a,y,rfl,j⟩;go_wp2_with fail
  refine(a2Q (a0f X b 1) z true y _ (d.ext a) j).mono ?_;rintro e G ⟨c,F,rfl,x,m,p,t,rfl,h,f,i⟩;rw[B.out]at f;have g:=(o.ext0 a).ext0 c;go_wp2_with ((with_reducible show wpList _ _ _ (⟨_,.store _ _ _,_,_,_,_⟩::_) _ _);refine a0a a0I rfl rfl g rfl rfl (a2V _ _ _ _) ?_;intro H u l)
  have q:=(i.mono (a0c.mono _) (a0h l (by omega) (by omega))).mono (a0c.mono _) a0k;exact bodyPost_ret (a0e rfl rfl a0I u rfl) rfl ⟨ExtX.box (A.trans (a.trans c)) l (by omega),_,rfl,x,m,p,t,rfl,h,f,q⟩
 ·obtain⟨n,rfl⟩:=Int.eq_ofNat_of_zero_le (show 0<=v by omega)
  have B:Hid (sg false n=(n:Int)):=hid rfl;have k:Hid (n<18446744073709551616):=hid (by omega);go_enter Tryz.func231,Tryz.ntmps231
  go_wp2_with fail
  refine(b8Z (X:=a0f X b 1) d k.out).mono ?_;rintro e z ⟨a,y,rfl,j⟩;go_wp2_with fail
  refine(a2Q (a0f X b 1) z false y n (d.ext a) j).mono ?_;rintro e G ⟨c,F,rfl,x,m,p,t,rfl,h,f,i⟩;have g:=(o.ext0 a).ext0 c;go_wp2_with ((with_reducible show wpList _ _ _ (⟨_,.store _ _ _,_,_,_,_⟩::_) _ _);refine a0a a0I rfl rfl g rfl rfl (a2V _ _ _ _) ?_;intro H u l)
  have q:=(i.mono (a0c.mono _) (a0h l (by omega) (by omega))).mono (a0c.mono _) a0k;exact bodyPost_ret (a0e rfl rfl a0I u rfl) rfl ⟨ExtX.box (A.trans (a.trans c)) l (by omega),_,rfl,x,m,p,t,rfl,h,f,q⟩
theorem b4K(X:Nat->Bool)(w:World)(u v:Value)(x y:Int)(hX:HX X w)(hu:ZV (mk X w) u x)(hv:ZV (mk X w) v y):Calls Tryz.prog 259 #[u,v] w (a3R w (b6r x y)):=by
 have U:=hid hu.lg;have V:=hid hv.lg;obtain⟨s1,a1,c1,l1,rfl,f2⟩:=id hu;obtain⟨s2,a2,c2,l2,rfl,f3⟩:=id hv;obtain⟨W,hW,hE,s,q,hz⟩:=a1w w #[.bool s1,.slice a1 l1.length c1] #[.bool s2,.slice a2 l2.length c2] 39 39;have S:HX (a0f X w.heap.size 2) W:=hX.boxes hz;have N:=ZV.mono _ _ _ _ (a0j (nb:=2) hE) hu;have O:=ZV.mono _ _ _ _ (a0j (nb:=2) hE) hv;obtain⟨b,hb⟩:∃b,w.heap.size=b:=⟨_,rfl⟩;have e7:w.heap.size<=b:=by omega
 rw[hb]at s q hz S N O;have c:Ext W W.drew:=(ExtX.refl W).drew;have g:HX (a0f X b 2) W.drew:=S;have a9:ZV (mk (a0f X b 2) W.drew) (.agg #[.bool s1,.slice a1 l1.length c1]) x:=N;have b2:ZV (mk (a0f X b 2) W.drew) (.agg #[.bool s2,.slice a2 l2.length c2]) y:=O;have i:=s.cell 0 rfl;have j:=s.cell 1 rfl;have k:=q.cell 0 rfl;have l:=q.cell 1 rfl;clear hu hv f2 f3;go_enter Tryz.func259,Tryz.ntmps259
 go_upto_region 1 with(fail)
 go_cut []from 7 to 10 (fun wx=>∃s3 D H P s4 E I Q,Bx wx b #[.bool s3,.slice D P H] 39/\Bx wx (b+1) #[.bool s4,.slice E Q I] 39/\ZC (mk (a0f X b 2) wx) (.agg #[.bool s3,.slice D P H]) x/\ZC (mk (a0f X b 2) wx) (.agg #[.bool s4,.slice E Q I]) y/\Ext w wx)
 case first=>
  go_region_with (first|(go_at_call 282;(with_reducible refine(a5P (a0f X b 2) W.drew _ x g a9).mono ?_);rintro e w5 ⟨a,u5,rfl,s5,a5,c5,l5,rfl,d8,d9,e0⟩;have F:=s.ext0 (c.trans a);have G:=q.ext0 (c.trans a);have b6:=F.cell 0 rfl;have b7:=F.cell 1 rfl;have b8:=G.cell 0 rfl;have b9:=G.cell 1 rfl)|(go_at_call 282;(with_reducible refine(a5P (a0f X b 2) w5 _ y (HX.ext g a) (mkx ZV.mono b2 a)).mono ?_);rintro e w6 ⟨d,u6,rfl,s6,a6,c6,l6,rfl,e1,e2,e3⟩;have m:=F.ext0 d;have n:=G.ext0 d;have d0:=m.cell 0 rfl;have d1:=m.cell 1 rfl;have d2:=n.cell 0 rfl;have d3:=n.cell 1 rfl;have c0:=m.frozen 0;have c7:=m.frozen 1;have c8:=n.frozen 0;have c9:=n.frozen 1))
  all_goals
   obtain⟨wf,b3,q0,q1,q2,q3,q4⟩:=a2x (X:=X) (nb:=2) m n (hE.trans ((c.trans a).trans d)) e7 (by omega) (.bool s5) (.slice a5 l5.length c5) (.bool s6) (.slice a6 l6.length c6);rw[b3];have e8:ZC (mk (a0f X b 2) wf) (.agg #[.bool s5,.slice a5 l5.length c5]) x:=⟨s5,a5,c5,l5,rfl,d8,d9,(e0.mono (a0c.mono _) (a0l d)).mono (a0c.mono _) q4⟩;have e9:ZC (mk (a0f X b 2) wf) (.agg #[.bool s6,.slice a6 l6.length c6]) y:=⟨s6,a6,c6,l6,rfl,e1,e2,e3.mono (a0c.mono _) q4⟩;clear b6 b7 b8 b9 d0 d1 d2 d3 c0 c7 c8 c9 i j k l b3;go_wp2_with fail
   go_meet
   exact⟨_,_,_,_,_,_,_,_,q0,q1,e8,e9,q3⟩
 case rest=>
  clear i j k l s q N O a9 b2 g c hW;obtain⟨s3,D,H,n3,s4,E,I,n4,s,q,hx,hy,R⟩:=hcut;have b4:=hx.zv U.out;have b5:=hy.zv V.out;obtain⟨_,_,_,P,o,d4,t,d5⟩:=hx;simp only[Value.agg.injEq,Array.mk.injEq,List.cons.injEq,Value.bool.injEq,Value.slice.injEq,and_true]at o;obtain⟨rfl,rfl,rfl,rfl⟩:=o;obtain⟨_,_,_,Q,o,d6,A,d7⟩:=hy;simp only[Value.agg.injEq,Array.mk.injEq,List.cons.injEq,Value.bool.injEq,Value.slice.injEq,and_true]at o;obtain⟨rfl,rfl,rfl,rfl⟩:=o;have f1:=hid (a3W t);have f0:=hid (a3W A);have L:=hid t.1;have M:=hid A.1;have c:Ext wc wc.drew:=(ExtX.refl wc).drew;have Y:NV (mk (a0f X b 2) wc) (.slice D P.length H) x.natAbs:=NC.nv ⟨D,H,P,rfl,d4,t.2,d5⟩ (by have:=U.out;omega);have a0:NV (mk (a0f X b 2) wc) (.slice E Q.length I) y.natAbs:=NC.nv ⟨E,I,Q,rfl,d6,A.2,d7⟩ (by have:=V.out;omega);have f7:w.heap.size+2<=wc.heap.size:=by have:=q.lt;omega
  have e6:HX (a0f X b 2) wc:=hX.boxes' R (by omega) f7;have r:=hid (And.intro s q);have i:=s.cell 0 rfl;have j:=s.cell 1 rfl;have k:=q.cell 0 rfl;have l:=q.cell 1 rfl;have K:=hid (b7t x y);have a8:Hid (∀z:Int,z.sign= -1\/z.sign=0\/z.sign=1):=hid (fun z=>by
   rcases Int.lt_trichotomy z 0 with h|h|h
   ·exact .inl (Int.sign_eq_neg_one_of_neg h)
   ·subst h;exact .inr (.inl rfl)
   ·exact .inr (.inr (Int.sign_eq_one_of_pos h)))
  clear L M f1 f0 t A;have g:HX (a0f X b 2) wc.drew:=e6;have B:ZV (mk (a0f X b 2) wc.drew) (.agg #[.bool s3,.slice D P.length H]) x:=b4;have C:ZV (mk (a0f X b 2) wc.drew) (.agg #[.bool s4,.slice E Q.length I]) y:=b5;go_wp2_with fail
  go_region_held3 (fun w'=>w'.cell? ⟨b,0,none⟩=some (.bool s3)/\w'.cell? ⟨b,1,none⟩=some (.slice D P.length H)/\w'.cell? ⟨b+1,0,none⟩=some (.bool s4)/\w'.cell? ⟨b+1,1,none⟩=some (.slice E Q.length I))
   (first|exact⟨(r.out.1.ext0 (c.trans a)).cell 0 rfl,(r.out.1.ext0 (c.trans a)).cell 1 rfl,(r.out.2.ext0 (c.trans a)).cell 0 rfl,(r.out.2.ext0 (c.trans a)).cell 1 rfl⟩|exact⟨(r.out.1.ext0 (c.trans (a.trans d))).cell 0 rfl,(r.out.1.ext0 (c.trans (a.trans d))).cell 1 rfl,(r.out.2.ext0 (c.trans (a.trans d))).cell 0 rfl,(r.out.2.ext0 (c.trans (a.trans d))).cell 1 rfl⟩|go_keep)
   (first|(go_at_call 206;(with_reducible refine(b1r (a0f X b 2) wc.drew _ x g B).mono ?_);rintro e w5 ⟨a,rfl⟩)|(go_at_call 206;(with_reducible refine(b1r (a0f X b 2) w5 _ y (HX.ext g a) (mkx ZV.mono C a)).mono ?_);rintro e w6 ⟨d,rfl⟩))
  have f:Ext wc w6:=c.trans (a.trans d);have q0:=r.out.1.ext0 f;have q1:=r.out.2.ext0 f;have Z:=mkx NV.mono Y f;have a7:=mkx NV.mono a0 f;have J:=R.trans f;clear i j k l a d c g B C b4 b5 Y a0;have i:=q0.cell 0 rfl;have j:=q0.cell 1 rfl;have k:=q1.cell 0 rfl;have l:=q1.cell 1 rfl;have f4:=a8.out x;have f6:=a8.out y;have f5:=hid (show x.sign=x.sign from rfl);generalize L:x.sign=p at*;generalize M:y.sign=sy at*;clear f5 L M;have f8: -1<=p/\p<=1:=by omega
  have f9: -1<=sy/\sy<=1:=by omega
  clear f4 f6;by_cases h1:p<sy
  ·have T:=hid (K.out.1 h1)
   go_wp2_with fail
   go_ret
   exact⟨J,a0N T.out.symm⟩
  ·by_cases h2:sy<p
   ·have T:=hid (K.out.2.1 h2)
    go_wp2_with fail
    go_ret
    exact⟨J,a0N T.out.symm⟩
   ·have T:=hid (K.out.2.2 (by omega))
    go_wp2_with fail
    refine(c0i Z a7).mono ?_;rintro e w7 ⟨e4,rfl⟩;have g0: -1<=a3c x.natAbs y.natAbs/\a3c x.natAbs y.natAbs<=1:=by unfold a3c;split<;>(try split)<;>omega
    generalize a3c x.natAbs y.natAbs=cm at*;have g1: -1<=p*cm/\p*cm<=1:=by
     rcases(by omega:p= -1\/p=0\/p=1)with rfl|rfl|rfl<;>omega
    have g2:IntKind.i64.wrap (p*cm)=p*cm:=IntWalk.i64_in _ (by omega);clear i j k l;go_wp2_with fail
    go_ret
    exact⟨J.trans e4,a0N T.out⟩
end Go.Proofs.YtnnpfhoigmegcaaGreat
namespace Go.Rep
open Go.RowKit Go.Lim
def QV(h:Mem)(u:Value)(q:Rat):Prop:=∃s ao c m bo e d,u=.agg #[.bool s,.slice ao m.length c,.slice bo d.length e]/\m.length<=c/\d.length<=e/\Dig m/\Dig d/\m.length<=68719476736/\d.length<=68719476736/\Sl (a0c .u32) 1 h ao m/\Sl (a0c .u32) 1 h bo d/\b4g s m d=q
def QC(h:Mem)(u:Value)(q:Rat):Prop:=∃s ao c m bo e d,u=.agg #[.bool s,.slice ao m.length c,.slice bo d.length e]/\m.length<=c/\d.length<=e/\a6Q s m d q/\Sl (a0c .u32) 1 h ao m/\Sl (a0c .u32) 1 h bo d
theorem QV.mono:a3H QV:=by rintro h q u x a ⟨s,ao,c,m,b,e,d,rfl,f,g,i,j,k,l,n,o,p⟩;exact⟨s,ao,c,m,b,e,d,rfl,f,g,i,j,k,l,n.mono (a0c.mono _) a,o.mono (a0c.mono _) a,p⟩
theorem QC.mono:a3H QC:=by rintro h l u x a ⟨s,ao,c,m,b,e,d,rfl,f,g,i,j,k⟩;exact⟨s,ao,c,m,b,e,d,rfl,f,g,i,j.mono (a0c.mono _) a,k.mono (a0c.mono _) a⟩
theorem b2O(q:Rat):lg (dn q)<=hq q:=b8L q
theorem QC.qv{h:Mem}{u:Value}{q:Rat}(k:QC h u q)(o:hq q<=68719476736):QV h u q:=by
 obtain⟨s,ao,c,m,b,e,d,rfl,f,g,a,i,j⟩:=k;have l:=a0C q;have n:=b2O q;exact⟨s,ao,c,m,b,e,d,rfl,f,g,a.1.2.1,a.2.1,by rw[a.1.len];omega,by rw[a.2.len];omega,i,j,a.val⟩
theorem QC.zero(h:Mem):QC h (.agg #[.bool false,.slice none 0 0,.slice none 0 0]) 0:=⟨false,none,0,[],none,0,[],rfl,c1B _,c1B _,a6Q.zero,Sl.nil _ _ _ _,Sl.nil _ _ _ _⟩
theorem QV.hq{h:Mem}{u:Value}{q:Rat}(i:QV h u q):hq q<=68719476736:=by
 obtain⟨s,ao,c,m,j,e,d,rfl,k,l,a,b,f,g,n,o,rfl⟩:=i;exact b6Y s m d _ a b f g (by omega)
theorem QV.elem:Elem QV 3:=⟨QV.mono,by rintro h u x ⟨s,ao,c,m,b,e,d,rfl,_⟩;rfl,by
 rintro h u x ⟨s,ao,c,m,b,e,d,rfl,_⟩ v a;simp[a0i,Value.cells]at a;rcases a with rfl|rfl|rfl<;>rfl,by decide⟩
theorem QC.elem:Elem QC 3:=⟨QC.mono,by rintro h u x ⟨s,ao,c,m,b,e,d,rfl,_⟩;rfl,by
 rintro h u x ⟨s,ao,c,m,b,e,d,rfl,_⟩ v a;simp[a0i,Value.cells]at a;rcases a with rfl|rfl|rfl<;>rfl,by decide⟩
theorem QC.num{h:Mem}{s:Bool}{ao f:Option Addr}{n c k e:Nat}{q:Rat}(o:QC h (.agg #[.bool s,.slice ao n c,.slice f k e]) q):ZC h (.agg #[.bool s,.slice ao n c]) q.num/\NC h (.slice ao n c) q.num.natAbs/\NC h (.slice f k e) (dn q):=by
 obtain⟨_,_,_,m,_,_,d,a,g,j,b,i,l⟩:=o;simp only[Value.agg.injEq,Array.mk.injEq,List.cons.injEq,Value.bool.injEq,Value.slice.injEq,and_true]at a;obtain⟨rfl,⟨rfl,rfl,rfl⟩,rfl,rfl,rfl⟩:=a;exact⟨⟨_,_,_,_,rfl,g,b.1,i⟩,⟨_,_,_,rfl,g,b.1.2,i⟩,⟨_,_,_,rfl,j,b.2,l⟩⟩
theorem QC.shape{h:Mem}{u:Value}{q:Rat}(b:QC h u q):∃s ao n c a k e,u=.agg #[.bool s,.slice ao n c,.slice a k e]:=by
 obtain⟨s,ao,c,m,a,e,d,rfl,_⟩:=b;exact⟨_,_,_,_,_,_,_,rfl⟩
theorem QV.shape{h:Mem}{u:Value}{q:Rat}(b:QV h u q):∃s ao n c a k e,u=.agg #[.bool s,.slice ao n c,.slice a k e]:=by
 obtain⟨s,ao,c,m,a,e,d,rfl,_⟩:=b;exact⟨_,_,_,_,_,_,_,rfl⟩
theorem QC.of{h:Mem}{s:Bool}{ao b:Option Addr}{n c k e:Nat}{q:Rat}(p:ZC h (.agg #[.bool s,.slice ao n c]) q.num)(r:NC h (.slice b k e) (dn q)):QC h (.agg #[.bool s,.slice ao n c,.slice b k e]) q:=by
 obtain⟨_,_,_,m,a,f,g,i⟩:=p;simp only[Value.agg.injEq,Array.mk.injEq,List.cons.injEq,Value.bool.injEq,Value.slice.injEq,and_true]at a;obtain⟨rfl,rfl,rfl,rfl⟩:=a;obtain⟨_,_,d,a,j,l,o⟩:=r;simp only[Value.slice.injEq]at a;obtain⟨rfl,rfl,rfl⟩:=a;exact⟨_,_,_,_,_,_,_,rfl,f,j,⟨g,l⟩,i,o⟩
theorem NC.len0{h:Mem}{ao:Option Addr}{n c k:Nat}(e:NC h (.slice ao n c) k):n=0↔k=0:=by
 obtain⟨_,_,d,a,f,b,g⟩:=e;simp only[Value.slice.injEq]at a;obtain⟨rfl,rfl,rfl⟩:=a;exact a1q b
theorem a3Y(q:Rat):dn q=0↔q.den=1:=by
 unfold dn;split
 ·simp[*]
 ·have:=q.den_nz;omega
end Go.Rep
namespace Go.Proofs.YtnnpfhoigmegcaaGreat
open Go.RowKit Go.Rep Go.Lim
theorem a0p:a1K Tryz.prog 41 3:=by
 have h:(Tryz.prog.info? 41).map (fun i=>(i.zero,i.size,i.bytes))=some (some (.agg #[.bool false,.slice none 0 0,.slice none 0 0]),3,56):=by kernel_rfl
 obtain⟨ti,a,_,b,_⟩:=info_parts h;exact⟨_,ti,Tryz.underlying41,a,b⟩
theorem a1z(s:Bool)(ao b:Option Addr)(n c k e:Nat):∀v∈(#[Value.bool s,.slice ao n c,.slice b k e]:Array Value).toList,v.oneCell'=true:=by
 intro v a;simp at a;rcases a with rfl|rfl|rfl<;>rfl
theorem c0k(X:Nat->Bool)(w:World)(b:HX X w):Calls Tryz.prog 294 #[] w (a1S X w NC 1):=by
 have h:=NC.lit b 1 110 (by omega) (by omega);have a:Ext w (w.alloc (.cells #[.int .u32 ((1:Nat):Int)] 110)):=(ExtX.refl w).alloc _;go_enter Tryz.func294,Tryz.ntmps294
 go_wp2_with fail
 go_ret
 exact⟨a,_,rfl,h⟩
theorem a9h(X:Nat->Bool)(w:World)(u:Value)(q:Rat)(r:HX X w)(o:QC (mk X w) u q):Calls Tryz.prog 235 #[u] w (a1S X w NC q.den):=by
 obtain⟨s,ao,n,c,p,k,e,rfl⟩:=o.shape;obtain⟨W,y,f,m,hz⟩:=a1e w #[.bool s,.slice ao n c,.slice p k e] 41;have i:HX X W:=r.ext f;have hd:=mkx NC.mono o.num.2.2 f;have a:=hd.len0;rw[a3Y]at a;obtain⟨b,t⟩:∃b,w.heap.size=b:=⟨_,rfl⟩;rw[t]at m hz;have v:=m.cell 2 rfl;by_cases d:k=0
 ·have j:=hid (a.1 d)
  subst d;clear a hd;go_enter Tryz.func235,Tryz.ntmps235
  go_wp2_with fail
  refine(c0k X W i).mono ?_;rintro e A ⟨g,z,rfl,l⟩;go_wp2_with fail
  go_ret
  exact⟨f.trans g,_,rfl,by rw[j.out];exact l⟩
 ·have j:Hid (dn q=q.den):=hid (by unfold dn;rw[if_neg (fun h=>d (a.2 h))])
  have x:((k:Int)==0)=false:=a2J (by omega);clear a d;go_enter Tryz.func235,Tryz.ntmps235
  go_wp2_with fail
  go_ret
  exact⟨f,_,rfl,by rw[<-j.out];exact hd⟩
end Go.Proofs.YtnnpfhoigmegcaaGreat
namespace Go.Rep
open Go.RowKit Go.Lim
theorem QV.agg:∀h u y,QV h u y->∃a,u=.agg a:=by rintro h u x ⟨s,ao,c,m,b,e,d,rfl,_⟩;exact⟨_,rfl⟩
theorem QC.agg:∀h u y,QC h u y->∃a,u=.agg a:=by rintro h u x ⟨s,ao,c,m,b,e,d,rfl,_⟩;exact⟨_,rfl⟩
def b0C(R:Mem->Value->Rat->Prop):Prop:=∀h u q,R h u q->∃s ao n c bo k e,u=.agg #[.bool s,.slice ao n c,.slice bo k e]
theorem QC.shaped:b0C QC:=fun _ _ _ h=>h.shape
theorem QV.shaped:b0C QV:=fun _ _ _ h=>h.shape
theorem Sl.rat{R:Mem->Value->Rat->Prop}(t:b0C R){X:Nat->Bool}{w:World}{ao:Option Addr}{l:List Rat}(s:Sl R 3 (mk X w) ao l)(i:Nat)(v:i<l.length):∃g o sg a n c d k e,adr ao (i*3)=⟨g,o,none⟩/\X g=false/\Hid (∀Y W',ExtX Y w W'->Y g=false->W'.cell? ⟨g,o,none⟩=some (.bool sg)/\W'.cell? ⟨g,o+1,none⟩=some (.slice a n c)/\W'.cell? ⟨g,o+2,none⟩=some (.slice d k e))/\R (mk X w) (.agg #[.bool sg,.slice a n c,.slice d k e]) l[i]:=by
 obtain⟨u,y,b,m⟩:=s.2 i v;obtain⟨sg,a,n,c,d,k,e,rfl⟩:=t _ _ _ m;have j:=b 0 (by simp[Value.cells]);have p:=b 1 (by simp[Value.cells]);have q:=b 2 (by simp[Value.cells]);refine⟨(adr ao (i*3)).block,(adr ao (i*3)).off,sg,a,n,c,d,k,e,rfl,?_,hid fun Y W' f h=>⟨?_,?_,?_⟩,m⟩
 ·cases x:X (adr ao (i*3)).block
  ·rfl
  ·have r:mk X w (adr ao (i*3))=some (.bool sg):=j
   simp[mk,x]at r
 ·exact f.cellY (a1V j) h
 ·exact f.cellY (a1V p) h
 ·exact f.cellY (a1V q) h
abbrev RC:Mem->Value->List Rat->Prop:=SlV QC 3
abbrev RV:Mem->Value->List Rat->Prop:=SlV QV 3
abbrev MC:Mem->Value->List (List Rat)->Prop:=SlV RC 1
abbrev MV:Mem->Value->List (List Rat)->Prop:=SlV RV 1
theorem RC.mono:a3H RC:=SlV.mono QC.mono 3
theorem RV.mono:a3H RV:=SlV.mono QV.mono 3
theorem MC.mono:a3H MC:=SlV.mono RC.mono 1
theorem MV.mono:a3H MV:=SlV.mono RV.mono 1
theorem RC.elem:Elem RC 1:=SlV.elem QC.elem
theorem RV.elem:Elem RV 1:=SlV.elem QV.elem
def BR(B:Nat)(l:List Rat):Prop:=∀q∈l,hq q<=B
def BM(B:Nat)(m:List (List Rat)):Prop:=∀r∈m,BR B r
theorem Sl.qv{h:Mem}{ao:Option Addr}{l:List Rat}(s:Sl QC 3 h ao l)(d:BR 68719476736 l):Sl QV 3 h ao l:=
 ⟨s.1,fun i e=>let ⟨u,a,b,c⟩:=s.2 i e;⟨u,a,b,c.qv (d _ (c1E _))⟩⟩
theorem RC.rv{h:Mem}{u:Value}{l:List Rat}(s:RC h u l)(d:BR 68719476736 l):RV h u l:=by
 obtain⟨ao,c,rfl,a,b⟩:=s;exact⟨ao,c,rfl,a,b.qv d⟩
theorem MC.mv{h:Mem}{u:Value}{m:List (List Rat)}(s:MC h u m)(e:BM 68719476736 m):MV h u m:=by
 obtain⟨ao,c,rfl,a,b,d⟩:=s;exact⟨ao,c,rfl,a,b,fun i f=>let ⟨u,g,j,k⟩:=d i f;⟨u,g,j,RC.rv k (e _ (c1E _))⟩⟩
theorem Sl.row{R:Mem->Value->Rat->Prop}{X:Nat->Bool}{w:World}{ao:Option Addr}{m:List (List Rat)}(s:Sl (SlV R 3) 1 (mk X w) ao m)(i:Nat)(h:i<m.length):∃a c,X (adr ao i).block=false/\Hid (∀Y W',ExtX Y w W'->Y (adr ao i).block=false->W'.cell? (adr ao i)=some (.slice a m[i].length c))/\m[i].length<=c/\Sl R 3 (mk X w) a m[i]:=by
 obtain⟨u,b,a,c,rfl,d,e⟩:=s.cell SlV.one i h;refine⟨a,c,?_,hid fun Y W' f g=>f.cellY (a1V b) g,d,e⟩;cases j:X (adr ao i).block
 ·rfl
 ·simp[mk,j]at b
end Go.Rep
namespace Go.Proofs.YtnnpfhoigmegcaaGreat
open Go.RowKit Go.Rep Go.Lim
theorem a0w:SliceT Tryz.prog 26 41 3 56 (.agg #[.bool false,.slice none 0 0,.slice none 0 0]):=⟨Tryz.underlying26,by kernel_rfl⟩
theorem a0r:SliceT Tryz.prog 25 26 1 24 (.slice none 0 0):=⟨Tryz.underlying25,by kernel_rfl⟩
theorem b7u:(Tryz.prog.info? 26).map (fun i=>(i.zero,i.size,i.bytes))=some (some (.slice none 0 0),1,24):=by kernel_rfl
theorem a4Y:TyI Tryz.prog 26 1:=let ⟨i,h,_,a,_⟩:=info_parts b7u;⟨i,h,a⟩
theorem a3A:TyI Tryz.prog 41 3:=let ⟨_,ti,_,a,b⟩:=a0p;⟨ti,a,b⟩
end Go.Proofs.YtnnpfhoigmegcaaGreat
namespace Go.Lin
open Go.Lim
def a2W(l m:List Rat):Nat->Rat
 |0=>0
 |k+1=>a2W l m k+l.getD k 0*m.getD k 0
def a2u(l m:List Rat):Rat:=a2W l m l.length
theorem a5v(l m:List Rat)(k:Nat):a2W l m k=sm k fun q=>l.getD q 0*m.getD q 0:=by
 induction k with
 |zero=>rfl
 |succ k ih=>unfold a2W sm;rw[ih]
theorem b2P(l m:List Rat)(k:Nat):a2W l m k=a2W m l k:=by
 rw[a5v,a5v];exact a0g fun q _=>by grind
theorem b7v{l m:List Rat}{B:Nat}(hl:Go.Rep.BR B l)(hm:Go.Rep.BR B m)(hB:1<=B)(k:Nat):hq (a2W l m k)<=1+k*(2*B+1):=by
 have hg:∀(x:List Rat),Go.Rep.BR B x->∀q,hq (x.getD q 0)<=B:=fun x hx q=>by
  by_cases h:q<x.length
  ·rw[List.getD_eq_getElem?_getD,List.getElem?_eq_getElem h];exact hx _ (c1E h)
  ·rw[List.getD_eq_getElem?_getD,List.getElem?_eq_none (by omega)]
   show hq 0<=B
   rw[a0X];exact hB
 induction k with
 |zero=>show hq 0<=_;rw[a0X];omega
 |succ k ih=>
  have h1:=hq_mul (l.getD k 0) (m.getD k 0);have h2:=a7d (a2W l m k) (l.getD k 0*m.getD k 0);have h3:=hg l hl k;have h4:=hg m hm k
  show hq (a2W l m k+l.getD k 0*m.getD k 0)<=_
  rw[Nat.add_mul,Nat.one_mul];omega
def trL(m:Mat)(n c:Nat):Mat:=(List.range c).map fun q=>(List.range n).map fun p=>ent m p q
def trN(m:Mat)(n c i j:Nat):Mat:=(List.range c).map fun q=>(List.range n).map fun p=>if p<i\/(p=i/\q<j)then ent m p q else 0
theorem b4L(m:Mat)(n c:Nat):trN m n c 0 0=List.replicate c (List.replicate n 0):=by
 refine List.ext_getElem (by simp[trN]) fun q a b=>List.ext_getElem (by simp[trN]) fun p d e=>by simp[trN]
theorem b4M(m:Mat)(n c i:Nat):trN m n c i c=trN m n c (i+1) 0:=by
 refine List.ext_getElem (by simp[trN]) fun q d e=>List.ext_getElem (by simp[trN]) fun p f g=>?_;simp[trN]at d;simp only[trN,List.getElem_map,List.getElem_range];by_cases a:p<i
 ·rw[if_pos (.inl a),if_pos (.inl (by omega))]
 ·by_cases b:p=i
  ·rw[if_pos (.inr ⟨b,by omega⟩),if_pos (.inl (by omega))]
  ·rw[if_neg (by omega),if_neg (by omega)]
theorem b4N(m:Mat)(n c:Nat):trN m n c n 0=trL m n c:=by
 refine List.ext_getElem (by simp[trN,trL]) fun q b d=>List.ext_getElem (by simp[trN,trL]) fun p a e=>?_;simp[trN]at a;simp only[trN,trL,List.getElem_map,List.getElem_range];rw[if_pos (.inl a)]
theorem b7w(m:Mat)(n c i j:Nat):(trN m n c i j).length=c:=by simp[trN]
theorem a7L(m:Mat)(n c i j q:Nat)(h:q<(trN m n c i j).length):(trN m n c i j)[q].length=n:=by simp[trN]
theorem b7x{m:Mat}{n c i j:Nat}(h:j<(trN m n c i j).length):(trN m n c i j).set j ((trN m n c i j)[j].set i (ent m i j))=trN m n c i (j+1):=by
 refine List.ext_getElem (by simp[trN]) fun q e f=>List.ext_getElem ?_ fun p g k=>?_
 ·rw[List.getElem_set];split<;>simp[trN]
 ·simp only[List.getElem_set]
  by_cases a:j=q
  ·subst a
   simp only[if_true,List.getElem_set];by_cases b:i=p
   ·subst b;simp[trN]
   ·rw[if_neg b]
    simp only[trN,List.getElem_map,List.getElem_range];by_cases d:p<i
    ·rw[if_pos (.inl d),if_pos (.inl d)]
    ·rw[if_neg (by omega),if_neg (by omega)]
  ·simp only[a,if_false]
   simp only[trN,List.getElem_map,List.getElem_range];by_cases d:p<i
   ·rw[if_pos (.inl d),if_pos (.inl d)]
   ·by_cases b:p=i/\q<j
    ·rw[if_pos (.inr b),if_pos (.inr (by omega))]
    ·rw[if_neg (by omega),if_neg (by omega)]
theorem a1y(m:Mat)(n c:Nat):Shp c n (trL m n c):=⟨by simp[trL],fun r a=>by
 obtain⟨q,_,rfl⟩:=List.mem_map.1 a;simp⟩
theorem a7M(m:Mat)(n c:Nat):Eqm c n (ent (trL m n c)) fun i j=>ent m j i:=fun i a j b=>by
 simp[ent,trL,List.getD_eq_getElem?_getD,a,b]
theorem b0D{m:Mat}{n c B:Nat}(h:HB B m):HB B (trL m n c):=fun i j=>by
 by_cases a:i<c
 ·by_cases b:j<n
  ·rw[a7M m n c i a j b];exact h j i
  ·rw[a1U (a1y m n c) (.inr (by omega)),a0X];exact h.pos
 ·rw[a1U (a1y m n c) (.inl (by omega)),a0X];exact h.pos
def a2v(m:Mat)(v:List Rat):List Rat:=m.map fun r=>a2u r v
def a6b(a b:Mat)(n c:Nat):Mat:=a.map fun r=>a2v (trL b n c) r
theorem a2Z(m:Mat)(v:List Rat):(a2v m v).length=m.length:=by simp[a2v]
theorem b4O{a b:Mat}{k n c:Nat}(d:a.length=k):Shp k c (a6b a b n c):=⟨by simp[a6b,d],fun r e=>by
 obtain⟨x,_,rfl⟩:=List.mem_map.1 e;simp[a2v,trL]⟩
theorem b4P{a b:Mat}{k n c:Nat}(h:Shp k n a):Eqm k c (ent (a6b a b n c)) (mul n (ent a) (ent b)):=fun i o j e=>by
 have d:i<a.length:=by rw[h.1];exact o
 have p:(a[i]).length=n:=h.2 _ (c1E _);have m:ent (a6b a b n c) i j=a2u ((trL b n c).getD j []) (a[i]):=by
  unfold ent a6b;rw[List.getD_eq_getElem?_getD (l:=List.map _ _),List.getElem?_map,List.getElem?_eq_getElem d];have f:j<(trL b n c).length:=by simp[trL,e]
  simp[a2v,List.getD_eq_getElem?_getD,f]
 rw[m];unfold a2u;rw[(a1y b n c).row e,a5v];unfold mul;refine a0g fun q hq=>?_;have g:=a7M b n c j e q hq;unfold ent at g |-;rw[g,show a.getD i []=a[i]by simp[List.getD_eq_getElem?_getD,d]];grind
theorem a9v{m:Mat}{v:List Rat}{n c:Nat}(d:Shp n c m)(i:Nat)(f:i<n):(a2v m v).getD i 0=sm c fun j=>ent m i j*v.getD j 0:=by
 have a:i<m.length:=by rw[d.1];exact f
 have b:(m[i]).length=c:=d.2 _ (c1E _);have e:(a2v m v).getD i 0=a2u m[i] v:=by simp[a2v,List.getD_eq_getElem?_getD,a]
 rw[e];unfold a2u;rw[b,a5v];unfold ent;rw[show m.getD i []=m[i]by simp[List.getD_eq_getElem?_getD,a]]
noncomputable def b9e(m:Mat)(n:Nat):Rat:=if(eN m n).2.2 then - pr n (fun i=>ent (eN m n).1 i i)else pr n (fun i=>ent (eN m n).1 i i)
theorem a7N{n:Nat}{m:Mat}(b:n<=4)(e:Shp n n m):b9e m n=det n (ent m):=by
 have a:=a5Y e n;have c:=a.ech.det b;have d:=a.re.det_same b;unfold b9e;rw[<-c,d];split<;>grind
noncomputable def a8w(m:Mat)(c:Nat):Nat:=(eN m c).2.1.length
theorem a8x(m:Mat)(c:Nat):a8w m c=(a0H m c).2.length:=rfl
theorem b2Q{n:Nat}{m:Mat}(g:n<=4)(j:Shp n n m):a8w m n=n↔b9e m n≠0:=by
 rw[a7N g j,a8x];obtain⟨o,k,d,i⟩:=a1a j (c:=n);have b:=i.det_same g;have a:=k.det g;have l:=i.ne;by_cases e:(a0H m n).2.length=n
 ·rw[if_pos e]at a
  refine⟨fun _ h=>?_,fun _=>e⟩;rw[a,h]at b;grind
 ·rw[if_neg e]at a
  refine⟨fun h=>absurd h e,fun h=>?_⟩;rw[a]at b;rcases Rat.mul_eq_zero.1 b.symm with f|f
  ·exact absurd f l
  ·exact absurd f h
end Go.Lin
namespace Go.Rep
open Go.RowKit
theorem a2B{α:Type}{R:Mem->Value->α->Prop}(e:a3H R){X:Nat->Bool}{w c:World}{b:Option Addr}{u:Value}{x:α}(h:R (mk X w) u x)(d:Ext w c)(f:∀j,j<w.heap.size->ob b j=false):R (mk (un X b) c) u x:=
 e _ _ _ _ (a1k d (fun k _ a=>by simp[noY]at a) fun j a hz=>by simpa[un,f j a]using hz) h
section
variable {P:Program} {ops:Array Oper} {Q:Exit->Act->World->Prop} {a:Act} {w:World}
variable {α:Type} {R:Mem->Value->α->Prop} {sz:Nat} {X:Nat->Bool} {base:Nat} {e:TypeId} {ao:Option Addr} {cap:Nat} {l:List α}
theorem a1o{o:Oper}{K:Act->World->Prop}{E:Prop}{t j:Nat}{z:Value}{d:Array Value}{s x:Operand}(L:o.guard=none)(C:o.op=Op.call {callee:=Callee.builtin Builtin.append,args:=#[s,x],argTypes:=#[t,t]})(T:SliceT P t e sz j z)(D:z.cells.size=sz)(A:Elem R sz)(B:base<=w.heap.size)(J:∀k,X k=true->k<w.heap.size)(n:Nat)(O:l.length=n)(S:a.eval s=.slice ao n cap)(Y:a.eval x=.slice (some ⟨w.heap.size,0,none⟩) 1 1)(h:OL R sz X base e w ao cap l)(u:Value)(y:α)(p:d=u.cells)(V:R (mk (un X ao) w) u y)(f:(n+1)*j<=140737488355328)(q:n+1<=9223372036854775807)(I:∀c b r,OL R sz X base e r c b (l++[y])->ExtX (ob ao) w r->(c=ao\/∃g,c=some ⟨g,0,none⟩/\w.heap.size<=g)->K (a.put o.dst (.slice c (n+1) b)) r):if Region.wanted o (yielded ops a.tmps)=true then Oper.wp P o a (w.alloc (.cells d e)) K Q else E:=by
 have W:Region.wanted o (yielded ops a.tmps)=true:=by simp[Region.wanted,L]
 rw[if_pos W];subst O;have v:Ext w (w.alloc (.cells d e)):=(ExtX.refl w).alloc _;have U:w.heap.size+1=(w.alloc (.cells d e)).heap.size:=by simp
 obtain⟨c,b,r,F,G,H,m⟩:=(h.ext0 A v).run_append (P:=P) T D A (by omega) (fun k N=>by have:=J k N;omega) (some ⟨w.heap.size,0,none⟩) 1 [u] [y] (b6h w d e u p) rfl
  (fun i M _=>by
           have:i=0:=by simpa using M
           subst this;exact A.mono _ _ _ _ (a0l v) V) (by simpa using f) (by simpa using q) o.type
 unfold Oper.wp execOp;rw[C];simp only[resolve,invoke,builtin,Sem.run_bind,Sem.run_pure,Result.andThen_ok,List.map_toArray,List.map_cons,List.map_nil,S,Y];rw[show([y]:List α).length=1 from rfl]at F;rw[F];have:=I c b r G ((ExtX.of v).trans H) (by
  rcases m with m|⟨g,m,Z⟩
  ·exact .inl m
  ·exact .inr ⟨g,m,by omega⟩)
 rw[show(l++[y]).length=l.length+1 from by simp];exact this
end
end Go.Rep
namespace Go.Lim
theorem a7O(a b:Nat):(a3c a b==0)=decide (a=b):=by
 rw[Bool.eq_iff_iff];simp only[beq_iff_eq,decide_eq_true_eq];exact b6W a b
end Go.Lim
namespace Go.Proofs.YtnnpfhoigmegcaaGreat
open Go.RowKit Go.Rep Go.Lim
theorem b6s(X:Nat->Bool)(w:World)(s:Bool)(ao G:Option Addr)(c e:Nat)(m d:List Nat)(hX:HX X w)(hm:Sl (a0c .u32) 1 (mk X w) ao m)(hd:Sl (a0c .u32) 1 (mk X w) G d)(c4:m.length<=68719476736)(c2:d.length<=68719476736)(Y:Dig m)(S:Dig d)(b7:m.length<=c)(b3:d.length<=e):Calls Tryz.prog 283 #[.agg #[.bool s,.slice ao m.length c,.slice G d.length e]] w (b0B w (a1v s m d)):=by
 obtain⟨W,hW,y,E,hz⟩:=a1e w #[.bool s,.slice ao m.length c,.slice G d.length e] 41;have a5:HX X W:=hX.ext y;have v:=hm.mono (a0c.mono _) (a0l y);have I:=hd.mono (a0c.mono _) (a0l y);obtain⟨b,hb⟩:∃b,w.heap.size=b:=⟨_,rfl⟩;rw[hb]at E hz;have C:=E.cell 0 rfl;have D:=E.cell 1 rfl;have x:=E.cell 2 rfl;have g:Hid (a1v s m d=(a1t s m&&a1H d&&(decide (d.length=0)||(decide (0<m.length)&& !(nv d==1)&&(Nat.gcd (nv m) (nv d)==1))))):=hid rfl;clear hX hm hd hz;cases p:a1t s m
 ·have F:Hid (a1v s m d=false):=hid (by rw[g.out,p];rfl)
  have l:=hid p;clear p g;go_enter Tryz.func283,Tryz.ntmps283
  go_wp2_with fail
  refine(a7g X W s ao c m v (by omega)).mono ?_;rintro e q ⟨a,rfl⟩;rw[l.out];clear C D x;go_wp2_with fail
  go_ret
  exact⟨y.trans a,a0o F.out.symm⟩
 ·cases K:a1H d
  ·have F:Hid (a1v s m d=false):=hid (by rw[g.out,p,K];rfl)
   have l:=hid p;have u:=hid K;clear p g K;go_enter Tryz.func283,Tryz.ntmps283
   go_wp2_with fail
   refine(a7g X W s ao c m v (by omega)).mono ?_;rintro e q ⟨a,rfl⟩;rw[l.out];have n:=(E.ext0 a).cell 2 rfl;have i:=I.mono (a0c.mono _) (a0l a);clear C D x;go_wp2_with fail
   refine(a2t X _ _ _ _ i (by omega)).mono ?_;rintro e w2 ⟨rfl,rfl⟩;rw[u.out];clear n;go_wp2_with fail
   go_ret
   exact⟨y.trans a,a0o F.out.symm⟩
  ·have F:Hid (a1v s m d=(decide (d.length=0)||(decide (0<m.length)&& !(nv d==1)&&(Nat.gcd (nv m) (nv d)==1)))):=hid (by rw[g.out,p,K];rfl)
   have l:=hid p;have u:=hid K;have a0:a1H m=true:=by unfold a1t at p;simp at p;exact p.1
   have a8:=hid (show a0M m (nv m)from⟨Y,a0,rfl⟩);have a7:=hid (show a0M d (nv d)from⟨S,K,rfl⟩);clear p g K a0;by_cases M:d.length=0
   ·have j:Hid (a1v s m d=true):=hid (by rw[F.out,decide_eq_true M];rfl)
    obtain rfl:d= []:=List.eq_nil_of_length_eq_zero M;clear M F;simp only[List.length_nil]at hW E x |-;go_enter Tryz.func283,Tryz.ntmps283
    go_wp2_with fail
    refine(a7g X W s ao c m v (by omega)).mono ?_;rintro e q ⟨a,rfl⟩;rw[l.out];have n:=(E.ext0 a).cell 2 rfl;have i:=I.mono (a0c.mono _) (a0l a);clear C D x;go_wp2_with fail
    refine(a2t X _ [] _ _ i (by simp)).mono ?_;rintro e w2 ⟨rfl,rfl⟩;rw[u.out];go_wp2_with fail
    go_ret
    exact⟨y.trans a,a0o j.out.symm⟩
   ·have c1:((d.length:Int)==0)=false:=a2J (by omega)
    have z:Hid (a1v s m d=(decide (0<m.length)&& !(nv d==1)&&(Nat.gcd (nv m) (nv d)==1))):=hid (by rw[F.out,decide_eq_false M];rfl);clear F;go_enter Tryz.func283,Tryz.ntmps283
    go_wp2_with fail
    refine(a7g X W s ao c m v (by omega)).mono ?_;rintro e' q ⟨a,rfl⟩;rw[l.out];have b1:=E.ext0 a;have n:=b1.cell 2 rfl;have B:=b1.cell 1 rfl;have i:=I.mono (a0c.mono _) (a0l a);have b4:=v.mono (a0c.mono _) (a0l a);have Q:=a5.ext a;have Z:NV (mk X q) (.slice ao m.length c) (nv m):=⟨ao,c,m,rfl,b7,Y,by omega,b4,by unfold val;rw[a0M.vl a8.out]⟩;have J:NV (mk X q) (.slice G d.length e) (nv d):=⟨G,e,d,rfl,b3,S,by omega,i,by unfold val;rw[a0M.vl a7.out]⟩;clear C D x;have N:=hid b1;have r:Ext q q.drew:=(ExtX.refl q).drew;have a6:HX X q.drew:=Q;have T:NV (mk X q.drew) (.slice G d.length e) (nv d):=J;by_cases L:m.length=0
    ·have j:Hid (a1v s m d=false):=hid (by rw[z.out,decide_eq_false (by omega)];rfl)
     obtain rfl:m= []:=List.eq_nil_of_length_eq_zero L;clear z L M;simp only[List.length_nil]at b1 B N |-;go_wp2_with fail
     refine(a2t X _ _ _ _ i (by omega)).mono ?_;rintro e' w2 ⟨rfl,rfl⟩;rw[u.out];go_wp2_with fail
     try go_quiet (fail)
     go_wp2_with fail
     go_ret
     exact⟨y.trans (a.trans ((ExtX.refl q).drewN _)),a0o j.out.symm⟩
    ·have c3:((m.length:Int)==0)=false:=a2J (by omega)
     have A:Hid (a1v s m d=(!(nv d==1)&&(Nat.gcd (nv m) (nv d)==1))):=hid (by rw[z.out,decide_eq_true (by omega)];rfl);clear z L M;go_wp2_with fail
     refine(a2t X _ _ _ _ i (by omega)).mono ?_;rintro e' w2 ⟨rfl,rfl⟩;rw[u.out];go_wp2_with fail
     go_region_held3 (fun w'=>w'.cell? ⟨b,1,none⟩=some (.slice ao m.length c)/\w'.cell? ⟨b,2,none⟩=some (.slice G d.length e))
      (first|exact⟨(N.out.ext0 (r.trans k)).cell 1 rfl,(N.out.ext0 (r.trans k)).cell 2 rfl⟩|exact⟨(N.out.ext0 (r.trans (k.trans H))).cell 1 rfl,(N.out.ext0 (r.trans (k.trans H))).cell 2 rfl⟩|go_keep)
      (first|(go_at_call 294;(with_reducible refine(c0k X q.drew a6).mono ?_);rintro e5 w5 ⟨k,u5,rfl,b8⟩;have a1:=b8.nv (by rw[a3F];decide))|(go_at_call 168;(with_reducible refine(c0i (mkx NV.mono T k) a1).mono ?_);rintro e6 w6 ⟨H,rfl⟩))
     have f:=r.trans (k.trans H);have b6:=N.out.ext0 f;have b5:=mkx NV.mono Z f;have b2:=mkx NV.mono J f;have R:=Q.ext f;clear B n;have B:=b6.cell 1 rfl;have n:=b6.cell 2 rfl;rw[a7O];by_cases o:nv d=1
     ·have j:Hid (a1v s m d=false):=hid (by rw[A.out,o];rfl)
      have t:decide (nv d=1)=true:=decide_eq_true o;rw[t];clear o t A;go_wp2_with fail
      go_ret
      exact⟨y.trans (a.trans f),a0o j.out.symm⟩
     ·have j:Hid (a1v s m d=decide (Nat.gcd (nv m) (nv d)=1)):=hid (by
       rw[A.out,Bool.eq_iff_iff];simp[o])
      have t:decide (nv d=1)=false:=decide_eq_false o;rw[t];clear o t A;go_wp2_with fail
      refine(c1d R b5 b2).mono ?_;rintro e7 w7 ⟨O,u7,rfl,b9⟩;have a4:=R.ext O;have U:lg (Nat.gcd (nv m) (nv d))<=1099511627776:=by
       have o:Nat.gcd (nv m) (nv d)<=nv d\/nv d=0:=by
        by_cases h:nv d=0
        ·exact .inr h
        ·exact .inl (Nat.gcd_le_right _ (by omega))
       rcases o with o|o
       ·exact c1A (a1j o) J.lg
       ·rw[o,Nat.gcd_zero_right];exact Z.lg
      have V:=hid U;clear B n U;go_wp2_with fail
      refine(c0k X w7 a4).mono ?_;rintro e8 w8 ⟨P,u8,rfl,c0⟩;have a2:=mkx NV.mono (b9.nv V.out) P;go_wp2_with fail
      refine(c0i a2 (c0.nv (by rw[a3F];decide))).mono ?_;rintro e9 w9 ⟨a3,rfl⟩;have a9:Hid ((a3c (Nat.gcd (nv m) (nv d)) 1==0)=a1v s m d):=hid (by rw[a7O,j.out]);generalize a3c (Nat.gcd (nv m) (nv d)) 1=cc at*;go_wp2_with fail
      go_ret
      exact⟨y.trans (a.trans (f.trans (O.trans (P.trans a3)))),a0o a9.out⟩
theorem a4w(X:Nat->Bool)(w:World)(u:Value)(q:Rat)(M:HX X w)(P:QV (mk X w) u q):Calls Tryz.prog 207 #[u] w (a1S X w QC q):=by
 obtain⟨s,ao,c,m,o,e,d,rfl,A,B,C,D,H,I,K,L,rfl⟩:=P;obtain⟨W,S,r,n,t,hz⟩:=a1w w #[.bool s,.slice ao m.length c,.slice o d.length e] #[.bool false,.slice none 0 0,.slice none 0 0] 41 41;have l:HX (a0f X w.heap.size 2) W:=M.boxes hz;have g:Sl (a0c .u32) 1 (mk (a0f X w.heap.size 2) W) ao m:=K.mono (a0c.mono _) (a0j r);have h:Sl (a0c .u32) 1 (mk (a0f X w.heap.size 2) W) o d:=L.mono (a0c.mono _) (a0j r);obtain⟨b,N⟩:∃b,w.heap.size=b:=⟨_,rfl⟩;have O:w.heap.size<=b:=by omega
 rw[N]at n t hz g h l;have x:=n.cell 0 rfl;have y:=n.cell 1 rfl;have z:=n.cell 2 rfl;cases p:a1v s m d
 ·have G:=hid (a3M p)
  have i:=hid p;clear p;go_enter Tryz.func207,Tryz.ntmps207
  go_wp2_with fail
  refine(b6s (a0f X b 2) W s ao o c e m d l g h H I C D A B).mono ?_;rintro J Q ⟨a,rfl⟩;rw[i.out];have k:=t.ext0 a;clear x y z;go_wp2_with ((with_reducible show wpList _ _ _ (⟨_,.store _ _ _,_,_,_,_⟩::_) _ _);refine a0a a0p rfl rfl k rfl rfl (a1z _ _ _ _ _ _ _) ?_;intro R v f)
  exact bodyPost_ret (a0e rfl rfl a0p v rfl) rfl ⟨ExtX.box (r.trans a) f (by omega),_,rfl,by rw[G.out];exact QC.zero _⟩
 ·have i:=hid p
  clear p;go_enter Tryz.func207,Tryz.ntmps207
  go_wp2_with fail
  refine(b6s (a0f X b 2) W s ao o c e m d l g h H I C D A B).mono ?_;rintro J Q ⟨a,rfl⟩;rw[i.out];have j:=n.ext0 a;have k:=t.ext0 a;clear x y z;have x:=j.cell 0 rfl;have y:=j.cell 1 rfl;have z:=j.cell 2 rfl;go_wp2_with ((with_reducible show wpList _ _ _ (⟨_,.store _ _ _,_,_,_,_⟩::_) _ _);refine a0a a0p rfl rfl k rfl rfl (a1z _ _ _ _ _ _ _) ?_;intro R v f)
  have E:=((g.mono (a0c.mono _) (a0l a)).mono (a0c.mono _) (a0h f (by omega) (by omega))).mono (a0c.mono _) a0k;have F:=((h.mono (a0c.mono _) (a0l a)).mono (a0c.mono _) (a0h f (by omega) (by omega))).mono (a0c.mono _) a0k;exact bodyPost_ret (a0e rfl rfl a0p v rfl) rfl ⟨ExtX.box (r.trans a) f (by omega),_,rfl,s,ao,c,m,o,e,d,rfl,A,B,a6Q.of_valid C D i.out,E,F⟩
theorem _root_.Go.Rep.NC.asZ{M:Mem}{u:Value}{n:Nat}(f:NC M u n)(e:lg n<=549755813888):∃ao k c,u=.slice ao k c/\ZV M (.agg #[.bool false,.slice ao k c]) (n:Int):=by
 obtain⟨ao,c,l,rfl,b,a,d⟩:=f;refine⟨ao,_,c,rfl,false,ao,c,l,rfl,b,a.1,by rw[a.len];exact e,d,?_⟩;unfold a7y a1t;rw[a.2.1,a.2.2];simp
theorem a2j{X:Nat->Bool}{w a:World}{b nb:Nat}{t u v x y z:Value}{T U:TypeId}(l:Bx a b #[t,u,v] T)(m:Bx a (b+1) #[x,y,z] U)(n:Ext w a)(o:w.heap.size<=b)(A:2<=nb)(v0 v1 v2 u0 i j:Value):∃c,((((((a.setCell ⟨b,0,none⟩ v0).setCell ⟨b,1,none⟩ v1).setCell ⟨b,2,none⟩ v2).setCell ⟨b+1,0,none⟩ u0).setCell ⟨b+1,1,none⟩ i).setCell ⟨b+1,2,none⟩ j)=c/\Bx c b #[v0,v1,v2] T/\Bx c (b+1) #[u0,i,j] U/\(∀k f V,k≠b->k≠b+1->Bx a k f V->Bx c k f V)/\Ext w c/\Le (mk (a0f X b nb) a) (mk (a0f X b nb) c):=by
 obtain⟨r,d⟩:=l.set3 v0 v1 v2;have g:=m.ext d (a0b (by omega));obtain⟨s,e⟩:=g.set3 u0 i j;refine⟨_,rfl,r.ext e (a0b (by omega)),s,fun k f V p q h=>(h.ext d (a0b p)).ext e (a0b q),ExtX.box (ExtX.box n d o) e (by omega),(a0h d (c1B _) (by omega)).trans (a0h e (by omega) (by omega))⟩
theorem a5R(X:Nat->Bool)(w:World)(u v:Value)(x:Int)(n:Nat)(H:HX X w)(z:ZC (mk X w) u x)(K:NC (mk X w) v n)(A:lg x.natAbs<=549755813888)(y:lg n<=549755813888):Calls Tryz.prog 260 #[u,v] w (a1S X w ZC (x*n)):=by
 obtain⟨O,k,e,rfl,r⟩:=K.asZ y;have q:=z.zv A;obtain⟨s,ao,c,l,rfl,Q,R,S⟩:=z;obtain⟨W,T,p,h,t,hz⟩:=a1w w #[.bool s,.slice ao l.length c] #[.bool false,.slice none 0 0] 39 39;have d:HX (a0f X w.heap.size 2) W:=H.boxes hz;have f:=ZV.mono _ _ _ _ (a0j (nb:=2) p) q;have g:=ZV.mono _ _ _ _ (a0j (nb:=2) p) r;obtain⟨b,I⟩:∃b,w.heap.size=b:=⟨_,rfl⟩;have J:w.heap.size<=b:=by omega
 rw[I]at h t hz d f g;have D:=h.cell 0 rfl;have E:=h.cell 1 rfl;clear A y;go_enter Tryz.func260,Tryz.ntmps260
 go_wp2_with fail
 refine(c0j (a0f X b 2) W _ _ _ _ d f g).mono ?_;rintro P V ⟨a,U,rfl,N,C,F,L,rfl,j,m,o⟩;have i:=t.ext0 a;clear D E;go_wp2_with ((with_reducible show wpList _ _ _ (⟨_,.store _ _ _,_,_,_,_⟩::_) _ _);refine a0a a0I rfl rfl i rfl rfl (a2V _ _ _ _) ?_;intro Y M B)
 have G:=(o.mono (a0c.mono _) (a0h B (by omega) (by omega))).mono (a0c.mono _) a0k;exact bodyPost_ret (a0e rfl rfl a0I M rfl) rfl ⟨ExtX.box (p.trans a) B (by omega),_,rfl,N,C,F,L,rfl,j,m,G⟩
theorem a5w(X:Nat->Bool)(w:World)(u v:Value)(z:Int)(k:Nat)(hX:HX X w)(hu:ZC (mk X w) u z)(hv:NC (mk X w) v k)(hz:lg z.natAbs<=549755813888)(hk:lg k<=549755813888)(D:0<k):Calls Tryz.prog 233 #[u,v] w (a1S X w QC (mkRat z k)):=by
 obtain⟨s,ao,c,l,rfl,h1,Z,h3⟩:=hu;have U:=hv.nv (by omega:lg k<=1099511627776);obtain⟨bo,e,m,rfl,g1,g2,g3⟩:=hv;obtain⟨W,hW,hE,Y,b1,V⟩:=a1w w #[.bool s,.slice ao l.length c] #[.bool false,.slice none 0 0,.slice none 0 0] 39 41;have A:HX (a0f X w.heap.size 2) W:=hX.boxes V;have E:NV (mk (a0f X w.heap.size 2) W) (.slice ao l.length c) z.natAbs:=NC.nv ⟨ao,c,l,rfl,h1,Z.2,h3.mono (a0c.mono _) (a0j hE)⟩ (by omega);have F:=NV.mono _ _ _ _ (a0j (nb:=2) hE) U;obtain⟨b,hb⟩:∃b,w.heap.size=b:=⟨_,rfl⟩;have a5:w.heap.size<=b:=by omega
 rw[hb]at Y b1 V A E F;have c0:=Y.cell 0 rfl;have c1:=Y.cell 1 rfl;obtain⟨g,C⟩:∃g,Nat.gcd z.natAbs k=g:=⟨_,rfl⟩;have O:Hid (0<g):=hid (by rw[<-C];exact Nat.gcd_pos_of_pos_right _ D);have P:Hid (lg g<=1099511627776):=hid (by rw[<-C];exact c1A (a1j (Nat.gcd_le_right _ D)) (by omega));have r:=hid (fun(n d:List Nat) (hn:a0M n (z.natAbs/g)) (hd:a0M d (k/g))=>by
  have:=a6Q.lowest (s:=s) (z:=z) (k:=k) (n:=n) (d:=d) (by omega) Z.1 (by rw[C];exact hn) (by rw[C];exact hd);rw[C]at this;exact this)
 have a1:Hid (lg (k/g)<=1099511627776):=hid (c1A (a1j (Nat.div_le_self _ _)) (by omega));have a2:=hid C;clear hz hk D Z g2 U C;go_enter Tryz.func233,Tryz.ntmps233
 go_wp2_with fail
 refine(c1d A E F).mono ?_;rintro e1 w1 ⟨h,ug,rfl,q⟩;rw[a2.out]at q;have K:=A.ext h;have j:=Y.ext0 h;have j0:=j.cell 0 rfl;have j1:=j.cell 1 rfl;clear c0 c1;go_wp2_with fail
 refine(c1f K (mkx NV.mono E h) (q.nv P.out) O.out).mono ?_;rintro e2 w2 ⟨i,qu,ru,rfl,R,a3⟩;have L:=K.ext i;have a4:=j.ext0 i;clear j0 j1;go_wp2_with fail
 refine(c1f L (mkx NV.mono F (h.trans i)) (mkx NV.mono (q.nv P.out) i) O.out).mono ?_;rintro e3 w3 ⟨t,du,a6,rfl,B,T⟩;have a0:=L.ext t;go_wp2_with fail
 refine(c0k (a0f X b 2) w3 a0).mono ?_;rintro e4 w4 ⟨o,ou,rfl,Q⟩;go_wp2_with fail
 refine(c0i (mkx NV.mono (B.nv a1.out) o) (Q.nv (by rw[a3F];decide))).mono ?_;rintro e5 w5 ⟨x,rfl⟩;have p:Hid ((a3c (k/g) 1==0)=decide (k/g=1)):=hid (a7O _ _);have S:=mkx NC.mono R (t.trans (o.trans x));have M:=mkx NC.mono B (o.trans x);have y:=i.trans (t.trans (o.trans x));have H:=j.ext0 y;have I:=b1.ext0 (h.trans y);have j0:=H.cell 0 rfl;have j1:=H.cell 1 rfl;obtain⟨qa,qc,ql,rfl,q1,q2,q3⟩:=S;obtain⟨da,dc,dl,rfl,d1,d2,d3⟩:=M;have a:=hid (r.out ql dl q2 d2);have J:=hE.trans (h.trans y);clear R B a3 T Q q r q2 d2;by_cases f:k/g=1
 ·have N:=a.out
  rw[if_pos f]at N;have hI:(a3c (k/g) 1==0)=true:=by rw[p.out];exact decide_eq_true f
  generalize a3c (k/g) 1=cc at*;clear p f a;go_wp2_with ((with_reducible show wpList _ _ _ (⟨_,.store _ _ _,_,_,_,_⟩::_) _ _);refine a0a a0p rfl rfl I rfl rfl (a1z _ _ _ _ _ _ _) ?_;intro w7 r1 G)
  have h7:=(q3.mono (a0c.mono _) (a0h G (by omega) (by omega))).mono (a0c.mono _) a0k;exact bodyPost_ret (a0e rfl rfl a0p r1 rfl) rfl ⟨ExtX.box J G (by omega),_,rfl,s,qa,qc,ql,none,0,[],rfl,q1,c1B _,N,h7,Sl.nil _ _ _ _⟩
 ·have N:=a.out
  rw[if_neg f]at N;have hI:(a3c (k/g) 1==0)=false:=by rw[p.out];exact decide_eq_false f
  generalize a3c (k/g) 1=cc at*;clear p f a;go_wp2_with ((with_reducible show wpList _ _ _ (⟨_,.store _ _ _,_,_,_,_⟩::_) _ _);refine a0a a0p rfl rfl I rfl rfl (a1z _ _ _ _ _ _ _) ?_;intro w7 r1 G)
  have h7:=(q3.mono (a0c.mono _) (a0h G (by omega) (by omega))).mono (a0c.mono _) a0k;have h8:=(d3.mono (a0c.mono _) (a0h G (by omega) (by omega))).mono (a0c.mono _) a0k;exact bodyPost_ret (a0e rfl rfl a0p r1 rfl) rfl ⟨ExtX.box J G (by omega),_,rfl,s,qa,qc,ql,da,dc,dl,rfl,q1,d1,N,h7,h8⟩
theorem a8y(X:Nat->Bool)(w:World)(v:Int)(s:HX X w)(l: -9223372036854775808<=v)(m:v<=9223372036854775807):Calls Tryz.prog 150 #[.int .i64 v] w (a1S X w QC v):=by
 obtain⟨W,B,r,k,hz⟩:=a1e w #[.bool false,.slice none 0 0,.slice none 0 0] 41;have c:HX (a0f X w.heap.size 1) W:=s.boxes hz;obtain⟨b,t⟩:∃b,w.heap.size=b:=⟨_,rfl⟩;have u:w.heap.size<=b:=by omega
 rw[t]at k hz c;have e:=hid l;have f:=hid m;clear l m;go_enter Tryz.func150,Tryz.ntmps150
 go_wp2_with fail
 refine(c0u (a0f X b 1) W v c e.out f.out).mono ?_;rintro A D ⟨a,C,rfl,z,o,p,x,rfl,g,h,i⟩;have d:=k.ext0 a;have j:=a6Q.ofInt h;go_wp2_with ((with_reducible show wpList _ _ _ (⟨_,.store _ _ _,_,_,_,_⟩::_) _ _);refine a0a a0p rfl rfl d rfl rfl (a1z _ _ _ _ _ _ _) ?_;intro E y n)
 have q:=(i.mono (a0c.mono _) (a0h n (by omega) (by omega))).mono (a0c.mono _) a0k;exact bodyPost_ret (a0e rfl rfl a0p y rfl) rfl ⟨ExtX.box (r.trans a) n (by omega),_,rfl,z,o,p,x,none,0,[],rfl,g,c1B _,j,q,Sl.nil _ _ _ _⟩
end Go.Proofs.YtnnpfhoigmegcaaGreat
