/- Parts of a proof: each theorem states what it proves, and its conditions. -/
import Derived.Test.YtjmnhbebpffoaaaGreatIwD
import Derived.Deep.RegionHeld3
set_option maxRecDepth 100000
set_option maxHeartbeats 800000
namespace Go.Proofs.YtjmnhbebpffoaaaGreat
open Go.RowKit
theorem c0j(X:Nat->Bool)(w:World)(u v:Value)(x y:Int)(hX:HX X w)(hu:ZV (mk X w) u x)(hv:ZV (mk X w) v y):Calls Tryz.prog 75 #[u,v] w (a2b X w ZC (x*y)):=by
 have e9:=hid hu.lg;have f0:=hid hv.lg;obtain⟨s1,a1,c1,l1,rfl,f3⟩:=id hu;obtain⟨s2,a2,c2,l2,rfl,f4⟩:=id hv;obtain⟨W,hW,hE,J,K,b2,hz⟩:=a2r w #[.bool s1,.slice a1 l1.length c1] #[.bool s2,.slice a2 l2.length c2] #[.bool false,.slice none 0 0] 45 45 45;have b3:HX (a0f X w.heap.size 3) W:=hX.boxes hz;have a8:=ZV.mono _ _ _ _ (a0i (nb:=3) hE) hu;have a9:=ZV.mono _ _ _ _ (a0i (nb:=3) hE) hv;obtain⟨b,hb⟩:=c1F w.heap.size;have e6:w.heap.size<=b:=by omega
 rw[hb]at J K b2 hz b3 a8 a9;have c:=c1L W;have a0:HX (a0f X b 3) W.drew:=b3;have b6:ZV (mk (a0f X b 3) W.drew) (.agg #[.bool s1,.slice a1 l1.length c1]) x:=a8;have b7:ZV (mk (a0f X b 3) W.drew) (.agg #[.bool s2,.slice a2 l2.length c2]) y:=a9;have r:=J.cell 0 rfl;have s:=J.cell 1 rfl;have t:=K.cell 0 rfl;have z:=K.cell 1 rfl;clear hu hv f3 f4;go_enter Tryz.func75,Tryz.ntmps75
 go_upto_region 1 with(fail)
 go_cut []from 5 to 8 (fun wx=>∃s3 H L R s4 I M S,Bx wx b #[.bool s3,.slice H R L] 45/\Bx wx (b+1) #[.bool s4,.slice I S M] 45/\Bx wx (b+1+1) #[.bool false,.slice none 0 0] 45/\ZC (mk (a0f X b 3) wx) (.agg #[.bool s3,.slice H R L]) x/\ZC (mk (a0f X b 3) wx) (.agg #[.bool s4,.slice I S M]) y/\Ext w wx)
 case first=>
  go_region_with (first|(go_at_call 121;(with_reducible refine(a5U (a0f X b 3) W.drew _ x a0 b6).mono ?_);rintro e T ⟨a,U,rfl,s5,a5,c5,l5,rfl,e0,e3,e4⟩;have b9:=J.ext0 (c.trans a);have V:=K.ext0 (c.trans a);have c0:=V.cell 0 rfl;have c7:=V.cell 1 rfl)|(go_at_call 121;(with_reducible refine(a5U (a0f X b 3) T _ y (HX.ext a0 a) (mkx ZV.mono b7 a)).mono ?_);rintro e w6 ⟨d,u6,rfl,B,n,o,A,rfl,j,h,k⟩;have f:=b9.ext0 d;have D:=V.ext0 d;have d2:=f.cell 0 rfl;have d3:=f.cell 1 rfl;have d4:=D.cell 0 rfl;have d5:=D.cell 1 rfl;have c8:=f.frozen 0;have c9:=f.frozen 1;have d0:=D.frozen 0;have d1:=D.frozen 1))
  all_goals
   obtain⟨wf,b8,q0,q1,q2,q3,q4⟩:=a2y (X:=X) (nb:=3) f D (hE.trans ((c.trans a).trans d)) e6 (by omega) (.bool s5) (.slice a5 l5.length c5) (.bool B) (.slice n A.length o);rw[b8];have e7:ZC (mk (a0f X b 3) wf) (.agg #[.bool s5,.slice a5 l5.length c5]) x:=⟨s5,a5,c5,l5,rfl,e0,e3,(e4.mono (a0c.mono _) (a0k d)).mono (a0c.mono _) q4⟩;have e8:ZC (mk (a0f X b 3) wf) (.agg #[.bool B,.slice n A.length o]) y:=⟨B,n,o,A,rfl,j,h,k.mono (a0c.mono _) q4⟩;have q5:=q2 (b+1+1) _ _ (by omega) (by omega) ((b2.ext0 (c.trans a)).ext0 d);clear c0 c7 d2 d3 d4 d5 c8 c9 d0 d1 r s t z b8;go_wp2_with fail
   go_meet
   exact⟨_,_,_,_,_,_,_,_,q0,q1,q5,e7,e8,q3⟩
 case rest=>
  clear r s t z J K b2 a8 a9 b6 b7 a0 c hW;obtain⟨s3,H,L,n3,s4,I,M,n4,J,K,b2,hx,hy,E⟩:=hcut;obtain⟨_,_,_,R,F,d6,N,d7⟩:=hx;simp only[Value.agg.injEq,Array.mk.injEq,List.cons.injEq,Value.bool.injEq,Value.slice.injEq,and_true]at F;obtain⟨rfl,rfl,rfl,rfl⟩:=F;obtain⟨_,_,_,S,F,d8,O,d9⟩:=hy;simp only[Value.agg.injEq,Array.mk.injEq,List.cons.injEq,Value.bool.injEq,Value.slice.injEq,and_true]at F;obtain⟨rfl,rfl,rfl,rfl⟩:=F;have b5:=hid (a4b N);have b4:=hid (a4b O);have f1:=hid N.1;have f2:=hid O.1;have c:=c1L wc;have P:NV (mk (a0f X b 3) wc) (.slice H R.length L) x.natAbs:=NC.nv ⟨H,L,R,rfl,d6,N.2,d7⟩ (by have:=e9.out;omega);have Q:NV (mk (a0f X b 3) wc) (.slice I S.length M) y.natAbs:=NC.nv ⟨I,M,S,rfl,d8,O.2,d9⟩ (by have:=f0.out;omega);have f5:w.heap.size+3<=wc.heap.size:=by have:=b2.lt;omega
  have m:HX (a0f X b 3) wc:=hX.boxes' E (by omega) f5;have g:=hid (And.intro J (And.intro K b2));have r:=J.cell 0 rfl;have s:=J.cell 1 rfl;have t:=K.cell 0 rfl;have z:=K.cell 1 rfl;have f6:b+1≠b+1+1:=by omega
  have f7:b≠b+1+1:=by omega
  obtain⟨sn,a7⟩:=c1F ((s3 !=s4));have C:Hid (sg sn (x.natAbs*y.natAbs)=x*y):=hid (by
   have e1:=b5.out;have e2:=b4.out;rw[<-a7,<-e1,<-e2,a7s,a7s];unfold sg;cases s3<;>cases s4<;>simp[Int.natCast_mul,Int.neg_mul,Int.mul_neg])
  have i:=hid a7;clear f1 f2 b5 b4 a7 N O;cases s3<;>cases s4
  ·obtain rfl:sn=false:=i.out.symm
   clear i;go_wp2_with fail
   go_region_held3 (fun l=>l.cell? ⟨b,0,none⟩=some (.bool false)/\l.cell? ⟨b,1,none⟩=some (.slice H R.length L)/\l.cell? ⟨b+1,0,none⟩=some (.bool false)/\l.cell? ⟨b+1,1,none⟩=some (.slice I S.length M))
    (first|exact⟨(g.out.1.ext0 (c.trans a)).cell 0 rfl,(g.out.1.ext0 (c.trans a)).cell 1 rfl,(g.out.2.1.ext0 (c.trans a)).cell 0 rfl,(g.out.2.1.ext0 (c.trans a)).cell 1 rfl⟩|exact⟨(g.out.1.ext0 (c.trans (a.trans d))).cell 0 rfl,(g.out.1.ext0 (c.trans (a.trans d))).cell 1 rfl,(g.out.2.1.ext0 (c.trans (a.trans d))).cell 0 rfl,(g.out.2.1.ext0 (c.trans (a.trans d))).cell 1 rfl⟩|exact⟨((g.out.1.ext0 (c.trans (a.trans d))).ext (f.set2 _ _).2 (a0b (by omega))).cell 0 rfl,((g.out.1.ext0 (c.trans (a.trans d))).ext (f.set2 _ _).2 (a0b (by omega))).cell 1 rfl,((g.out.2.1.ext0 (c.trans (a.trans d))).ext (f.set2 _ _).2 (a0b (by omega))).cell 0 rfl,((g.out.2.1.ext0 (c.trans (a.trans d))).ext (f.set2 _ _).2 (a0b (by omega))).cell 1 rfl⟩|go_keep)
    (first|(go_at_call 77;refine(b6o (X:=a0f X b 3) (w:=wc.drew) m P Q).mono ?_;rintro e T ⟨a,U,rfl,q⟩)|(go_at_call 123;refine(a2R (a0f X b 3) T false U (x.natAbs*y.natAbs) (HX.ext (w:=wc.drew) m a) q).mono ?_;rintro e w6 ⟨d,u6,rfl,B,n,o,A,rfl,j,h,k⟩;have f:=g.out.2.2.ext0 (c.trans (a.trans d));have Y:=f.cell 0 rfl;have Z:=f.cell 1 rfl;have g3:=f.frozen 0;have g4:=f.frozen 1))
   obtain⟨r1,G⟩:=f.set2 (.bool B) (.slice n A.length o);have h7:=(k.mono (a0c.mono _) (a0h G (by omega) (by omega))).mono (a0c.mono _) a0l;rw[C.out]at h;have p:Ext w _:=ExtX.box (E.trans (c.trans (a.trans d))) G (by omega);clear Y Z g3 g4 r s t z;go_wp2_with fail
   exact bodyPost_ret (a0d rfl rfl a0H r1 rfl) rfl ⟨p,_,rfl,B,n,o,A,rfl,j,h,h7⟩
  ·obtain rfl:sn=true:=i.out.symm
   clear i;go_wp2_with fail
   go_region_held3 (fun l=>l.cell? ⟨b,0,none⟩=some (.bool false)/\l.cell? ⟨b,1,none⟩=some (.slice H R.length L)/\l.cell? ⟨b+1,0,none⟩=some (.bool true)/\l.cell? ⟨b+1,1,none⟩=some (.slice I S.length M))
    (first|exact⟨(g.out.1.ext0 (c.trans a)).cell 0 rfl,(g.out.1.ext0 (c.trans a)).cell 1 rfl,(g.out.2.1.ext0 (c.trans a)).cell 0 rfl,(g.out.2.1.ext0 (c.trans a)).cell 1 rfl⟩|exact⟨(g.out.1.ext0 (c.trans (a.trans d))).cell 0 rfl,(g.out.1.ext0 (c.trans (a.trans d))).cell 1 rfl,(g.out.2.1.ext0 (c.trans (a.trans d))).cell 0 rfl,(g.out.2.1.ext0 (c.trans (a.trans d))).cell 1 rfl⟩|exact⟨((g.out.1.ext0 (c.trans (a.trans d))).ext (f.set2 _ _).2 (a0b (by omega))).cell 0 rfl,((g.out.1.ext0 (c.trans (a.trans d))).ext (f.set2 _ _).2 (a0b (by omega))).cell 1 rfl,((g.out.2.1.ext0 (c.trans (a.trans d))).ext (f.set2 _ _).2 (a0b (by omega))).cell 0 rfl,((g.out.2.1.ext0 (c.trans (a.trans d))).ext (f.set2 _ _).2 (a0b (by omega))).cell 1 rfl⟩|go_keep)
    (first|(go_at_call 77;refine(b6o (X:=a0f X b 3) (w:=wc.drew) m P Q).mono ?_;rintro e T ⟨a,U,rfl,q⟩)|(go_at_call 123;refine(a2R (a0f X b 3) T true U (x.natAbs*y.natAbs) (HX.ext (w:=wc.drew) m a) q).mono ?_;rintro e w6 ⟨d,u6,rfl,B,n,o,A,rfl,j,h,k⟩;have f:=g.out.2.2.ext0 (c.trans (a.trans d));have Y:=f.cell 0 rfl;have Z:=f.cell 1 rfl;have g3:=f.frozen 0;have g4:=f.frozen 1))
   obtain⟨r1,G⟩:=f.set2 (.bool B) (.slice n A.length o);have h7:=(k.mono (a0c.mono _) (a0h G (by omega) (by omega))).mono (a0c.mono _) a0l;rw[C.out]at h;have p:Ext w _:=ExtX.box (E.trans (c.trans (a.trans d))) G (by omega);clear Y Z g3 g4 r s t z;go_wp2_with fail
   exact bodyPost_ret (a0d rfl rfl a0H r1 rfl) rfl ⟨p,_,rfl,B,n,o,A,rfl,j,h,h7⟩
  ·obtain rfl:sn=true:=i.out.symm
   clear i;go_wp2_with fail
   go_region_held3 (fun l=>l.cell? ⟨b,0,none⟩=some (.bool true)/\l.cell? ⟨b,1,none⟩=some (.slice H R.length L)/\l.cell? ⟨b+1,0,none⟩=some (.bool false)/\l.cell? ⟨b+1,1,none⟩=some (.slice I S.length M))
    (first|exact⟨(g.out.1.ext0 (c.trans a)).cell 0 rfl,(g.out.1.ext0 (c.trans a)).cell 1 rfl,(g.out.2.1.ext0 (c.trans a)).cell 0 rfl,(g.out.2.1.ext0 (c.trans a)).cell 1 rfl⟩|exact⟨(g.out.1.ext0 (c.trans (a.trans d))).cell 0 rfl,(g.out.1.ext0 (c.trans (a.trans d))).cell 1 rfl,(g.out.2.1.ext0 (c.trans (a.trans d))).cell 0 rfl,(g.out.2.1.ext0 (c.trans (a.trans d))).cell 1 rfl⟩|exact⟨((g.out.1.ext0 (c.trans (a.trans d))).ext (f.set2 _ _).2 (a0b (by omega))).cell 0 rfl,((g.out.1.ext0 (c.trans (a.trans d))).ext (f.set2 _ _).2 (a0b (by omega))).cell 1 rfl,((g.out.2.1.ext0 (c.trans (a.trans d))).ext (f.set2 _ _).2 (a0b (by omega))).cell 0 rfl,((g.out.2.1.ext0 (c.trans (a.trans d))).ext (f.set2 _ _).2 (a0b (by omega))).cell 1 rfl⟩|go_keep)
    (first|(go_at_call 77;refine(b6o (X:=a0f X b 3) (w:=wc.drew) m P Q).mono ?_;rintro e T ⟨a,U,rfl,q⟩)|(go_at_call 123;refine(a2R (a0f X b 3) T true U (x.natAbs*y.natAbs) (HX.ext (w:=wc.drew) m a) q).mono ?_;rintro e w6 ⟨d,u6,rfl,B,n,o,A,rfl,j,h,k⟩;have f:=g.out.2.2.ext0 (c.trans (a.trans d));have Y:=f.cell 0 rfl;have Z:=f.cell 1 rfl;have g3:=f.frozen 0;have g4:=f.frozen 1))
   obtain⟨r1,G⟩:=f.set2 (.bool B) (.slice n A.length o);have h7:=(k.mono (a0c.mono _) (a0h G (by omega) (by omega))).mono (a0c.mono _) a0l;rw[C.out]at h;have p:Ext w _:=ExtX.box (E.trans (c.trans (a.trans d))) G (by omega);clear Y Z g3 g4 r s t z;go_wp2_with fail
   exact bodyPost_ret (a0d rfl rfl a0H r1 rfl) rfl ⟨p,_,rfl,B,n,o,A,rfl,j,h,h7⟩
  ·obtain rfl:sn=false:=i.out.symm
   clear i;go_wp2_with fail
   go_region_held3 (fun l=>l.cell? ⟨b,0,none⟩=some (.bool true)/\l.cell? ⟨b,1,none⟩=some (.slice H R.length L)/\l.cell? ⟨b+1,0,none⟩=some (.bool true)/\l.cell? ⟨b+1,1,none⟩=some (.slice I S.length M))
    (first|exact⟨(g.out.1.ext0 (c.trans a)).cell 0 rfl,(g.out.1.ext0 (c.trans a)).cell 1 rfl,(g.out.2.1.ext0 (c.trans a)).cell 0 rfl,(g.out.2.1.ext0 (c.trans a)).cell 1 rfl⟩|exact⟨(g.out.1.ext0 (c.trans (a.trans d))).cell 0 rfl,(g.out.1.ext0 (c.trans (a.trans d))).cell 1 rfl,(g.out.2.1.ext0 (c.trans (a.trans d))).cell 0 rfl,(g.out.2.1.ext0 (c.trans (a.trans d))).cell 1 rfl⟩|exact⟨((g.out.1.ext0 (c.trans (a.trans d))).ext (f.set2 _ _).2 (a0b (by omega))).cell 0 rfl,((g.out.1.ext0 (c.trans (a.trans d))).ext (f.set2 _ _).2 (a0b (by omega))).cell 1 rfl,((g.out.2.1.ext0 (c.trans (a.trans d))).ext (f.set2 _ _).2 (a0b (by omega))).cell 0 rfl,((g.out.2.1.ext0 (c.trans (a.trans d))).ext (f.set2 _ _).2 (a0b (by omega))).cell 1 rfl⟩|go_keep)
    (first|(go_at_call 77;refine(b6o (X:=a0f X b 3) (w:=wc.drew) m P Q).mono ?_;rintro e T ⟨a,U,rfl,q⟩)|(go_at_call 123;refine(a2R (a0f X b 3) T false U (x.natAbs*y.natAbs) (HX.ext (w:=wc.drew) m a) q).mono ?_;rintro e w6 ⟨d,u6,rfl,B,n,o,A,rfl,j,h,k⟩;have f:=g.out.2.2.ext0 (c.trans (a.trans d));have Y:=f.cell 0 rfl;have Z:=f.cell 1 rfl;have g3:=f.frozen 0;have g4:=f.frozen 1))
   obtain⟨r1,G⟩:=f.set2 (.bool B) (.slice n A.length o);have h7:=(k.mono (a0c.mono _) (a0h G (by omega) (by omega))).mono (a0c.mono _) a0l;rw[C.out]at h;have p:Ext w _:=ExtX.box (E.trans (c.trans (a.trans d))) G (by omega);clear Y Z g3 g4 r s t z;go_wp2_with fail
   exact bodyPost_ret (a0d rfl rfl a0H r1 rfl) rfl ⟨p,_,rfl,B,n,o,A,rfl,j,h,h7⟩
theorem c1i(X:Nat->Bool)(w:World)(u:Value)(x:Int)(V:HX X w)(o:ZV (mk X w) u x):Calls Tryz.prog 132 #[u] w (a2b X w ZC (-x)):=by
 have C:=hid o.lg;obtain⟨s1,P,R,l1,rfl,E⟩:=id o;obtain⟨W,hW,K,n,I,hz⟩:=a1K w #[.bool s1,.slice P l1.length R] #[.bool false,.slice none 0 0] 45 45;have d:HX (a0f X w.heap.size 2) W:=V.boxes hz;have m:=ZV.mono _ _ _ _ (a0i (nb:=2) K) o;obtain⟨b,Y⟩:=c1F w.heap.size;have Z:w.heap.size<=b:=by omega
 rw[Y]at n I hz d m;have f:=n.cell 0 rfl;have g:=n.cell 1 rfl;clear o E;go_enter Tryz.func132,Tryz.ntmps132
 go_wp2_with fail
 refine(a5U (a0f X b 2) W _ x d m).mono ?_;rintro e w5 ⟨a,u5,rfl,F⟩;have k:=d.ext a;clear f g;go_wp2_with fail
 refine(b7u (a0f X b 2) w5 _ x k F C.out).mono ?_;rintro e w6 ⟨c,u6,rfl,G,H,J,L,rfl,v,h,y⟩;have q:=(n.ext0 a).ext0 c;have r:=(I.ext0 a).ext0 c;have D:=hid (a4b h);go_wp2_with ((with_reducible refine c1J ?_);refine a0a a0H rfl rfl q rfl rfl a3a ?_;intro O N p;have f:=N.cell 0 rfl;have g:=N.cell 1 rfl)
 have B:=(k.ext c).ext p;have s:=r.ext p (a0b (by omega));have hn:NC (mk (a0f X b 2) O) (.slice H L.length J) x.natAbs:=⟨H,J,L,rfl,v,h.2,y.mono (a0c.mono _) (a0h p (by omega) (by omega))⟩;have l:Hid (sg (!G) x.natAbs= -x):=hid (by
  have T:=D.out;rw[<-T,a7s];unfold sg;cases G<;>simp)
 refine(a2R (a0f X b 2) O (!G) _ _ B hn).mono ?_;rintro e w8 ⟨j,u8,rfl,s8,Q,S,l8,rfl,z,i,A⟩;rw[l.out]at i;have t:=s.ext0 j;clear f g;go_wp2_with ((with_reducible refine c1J ?_);refine a0a a0H rfl rfl t rfl rfl a3a ?_;intro w9 q1 M)
 have U:=(A.mono (a0c.mono _) (a0h M (by omega) (by omega))).mono (a0c.mono _) a0l;exact bodyPost_ret (a0d rfl rfl a0H q1 rfl) rfl ⟨ExtX.box ((ExtX.box (K.trans (a.trans c)) p (by omega)).trans j) M (by omega),_,rfl,s8,Q,S,l8,rfl,z,i,U⟩
theorem b1w(X:Nat->Bool)(w:World)(u:Value)(x:Int)(I:HX X w)(z:ZV (mk X w) u x):Calls Tryz.prog 72 #[u] w (a4A w x.sign):=by
 obtain⟨N,D,E,M,rfl,A⟩:=id z;obtain⟨W,Q,t,s,hz⟩:=a0Y w #[.bool N,.slice D M.length E] 45;have p:HX (a0f X w.heap.size 1) W:=I.boxes hz;have q:=ZV.mono _ _ _ _ (a0i (nb:=1) t) z;obtain⟨b,J⟩:=c1F w.heap.size;have K:w.heap.size<=b:=by omega
 rw[J]at s hz p q;have j:=s.cell 0 rfl;have k:=s.cell 1 rfl;clear z A;go_enter Tryz.func72,Tryz.ntmps72
 go_wp2_with fail
 refine(a5U (a0f X b 1) W _ x p q).mono ?_;rintro e S ⟨g,R,rfl,B,O,P,v,rfl,F,n,G⟩;have m:=s.ext0 g;have d:=hid n.len0;have f:=hid n.1;clear j k n;by_cases o:v.length=0
 ·have i:x=0:=d.out.1 o
  subst i;have H:((v.length:Int)==0)=true:=a6u (by omega);have L:(v.length:Int)=0:=by omega
  clear d f o;go_wp2_with ((with_reducible refine c1J ?_);refine a0a a0H rfl rfl m rfl rfl a3a ?_;intro C l r;have j:=l.cell 0 rfl;have k:=l.cell 1 rfl)
  have c:=ExtX.box (t.trans g) r (by omega);go_ret
  exact⟨c,rfl⟩
 ·have H:((v.length:Int)==0)=false:=a2C (by omega)
  have i:¬x=0:=fun h=>o (d.out.2 h);by_cases a:x<0
  ·have y:Hid (x.sign= -1):=hid (Int.sign_eq_neg_one_of_neg a)
   obtain rfl:B=true:=by rw[f.out];exact decide_eq_true a
   clear d o i a f;go_wp2_with ((with_reducible refine c1J ?_);refine a0a a0H rfl rfl m rfl rfl a3a ?_;intro C l r;have j:=l.cell 0 rfl;have k:=l.cell 1 rfl)
   have c:=ExtX.box (t.trans g) r (by omega);go_ret
   exact⟨c,a0N y.out.symm⟩
  ·have y:Hid (x.sign=1):=hid (Int.sign_eq_one_of_pos (by omega))
   obtain rfl:B=false:=by rw[f.out];exact decide_eq_false a
   clear d o i a f;go_wp2_with ((with_reducible refine c1J ?_);refine a0a a0H rfl rfl m rfl rfl a3a ?_;intro C l r;have j:=l.cell 0 rfl;have k:=l.cell 1 rfl)
   have c:=ExtX.box (t.trans g) r (by omega);go_ret
   exact⟨c,a0N y.out.symm⟩
theorem a9C(X:Nat->Bool)(w:World)(u v:Value)(x y:Int)(hX:HX X w)(hu:ZV (mk X w) u x)(hv:ZV (mk X w) v y)(b4:lg x.natAbs<=274877906944)(b5:lg y.natAbs<=274877906944):Calls Tryz.prog 57 #[u,v] w (a2b X w ZC (x*y)):=by
 have C:=hid b4;have D:=hid b5;clear b4 b5;have f1:=hid hu.lg;have f2:=hid hv.lg;obtain⟨s1,a1,c1,l1,rfl,f5⟩:=id hu;obtain⟨s2,a2,c2,l2,rfl,f6⟩:=id hv;obtain⟨W,hW,hE,L,M,b2,hz⟩:=a2r w #[.bool s1,.slice a1 l1.length c1] #[.bool s2,.slice a2 l2.length c2] #[.bool false,.slice none 0 0] 45 45 45;have b3:HX (a0f X w.heap.size 3) W:=hX.boxes hz;have a8:=ZV.mono _ _ _ _ (a0i (nb:=3) hE) hu;have a9:=ZV.mono _ _ _ _ (a0i (nb:=3) hE) hv;obtain⟨b,hb⟩:=c1F w.heap.size;have e8:w.heap.size<=b:=by omega
 rw[hb]at L M b2 hz b3 a8 a9;have c:=c1L W;have a0:HX (a0f X b 3) W.drew:=b3;have b8:ZV (mk (a0f X b 3) W.drew) (.agg #[.bool s1,.slice a1 l1.length c1]) x:=a8;have b9:ZV (mk (a0f X b 3) W.drew) (.agg #[.bool s2,.slice a2 l2.length c2]) y:=a9;have r:=L.cell 0 rfl;have s:=L.cell 1 rfl;have t:=M.cell 0 rfl;have z:=M.cell 1 rfl;clear hu hv f5 f6;go_enter Tryz.func57,Tryz.ntmps57
 go_upto_region 1 with(fail)
 go_cut []from 5 to 8 (fun wx=>∃s3 J N T s4 K O U,Bx wx b #[.bool s3,.slice J T N] 45/\Bx wx (b+1) #[.bool s4,.slice K U O] 45/\Bx wx (b+1+1) #[.bool false,.slice none 0 0] 45/\ZC (mk (a0f X b 3) wx) (.agg #[.bool s3,.slice J T N]) x/\ZC (mk (a0f X b 3) wx) (.agg #[.bool s4,.slice K U O]) y/\Ext w wx)
 case first=>
  go_region_with (first|(go_at_call 101;(with_reducible refine(a4c (a0f X b 3) W.drew _ x a0 b8).mono ?_);rintro e V ⟨a,Y,rfl,s5,a5,c5,l5,rfl,e4,e6,e7⟩;have c7:=L.ext0 (c.trans a);have Z:=M.ext0 (c.trans a);have c8:=Z.cell 0 rfl;have c9:=Z.cell 1 rfl)|(go_at_call 101;(with_reducible refine(a4c (a0f X b 3) V _ y (HX.ext a0 a) (mkx ZV.mono b9 a)).mono ?_);rintro e w6 ⟨d,u6,rfl,B,n,o,A,rfl,j,h,k⟩;have f:=c7.ext0 d;have F:=Z.ext0 d;have d4:=f.cell 0 rfl;have d5:=f.cell 1 rfl;have d6:=F.cell 0 rfl;have d7:=F.cell 1 rfl;have d0:=f.frozen 0;have d1:=f.frozen 1;have d2:=F.frozen 0;have d3:=F.frozen 1))
  all_goals
   obtain⟨wf,c0,q0,q1,q2,q3,q4⟩:=a2y (X:=X) (nb:=3) f F (hE.trans ((c.trans a).trans d)) e8 (by omega) (.bool s5) (.slice a5 l5.length c5) (.bool B) (.slice n A.length o);rw[c0];have e9:ZC (mk (a0f X b 3) wf) (.agg #[.bool s5,.slice a5 l5.length c5]) x:=⟨s5,a5,c5,l5,rfl,e4,e6,(e7.mono (a0c.mono _) (a0k d)).mono (a0c.mono _) q4⟩;have f0:ZC (mk (a0f X b 3) wf) (.agg #[.bool B,.slice n A.length o]) y:=⟨B,n,o,A,rfl,j,h,k.mono (a0c.mono _) q4⟩;have q5:=q2 (b+1+1) _ _ (by omega) (by omega) ((b2.ext0 (c.trans a)).ext0 d);clear c8 c9 d4 d5 d6 d7 d0 d1 d2 d3 r s t z c0;go_wp2_with fail
   go_meet
   exact⟨_,_,_,_,_,_,_,_,q0,q1,q5,e9,f0,q3⟩
 case rest=>
  clear r s t z L M b2 a8 a9 b8 b9 a0 c hW;obtain⟨s3,J,N,n3,s4,K,O,n4,L,M,b2,hx,hy,G⟩:=hcut;obtain⟨_,_,_,T,H,d8,P,d9⟩:=hx;simp only[Value.agg.injEq,Array.mk.injEq,List.cons.injEq,Value.bool.injEq,Value.slice.injEq,and_true]at H;obtain⟨rfl,rfl,rfl,rfl⟩:=H;obtain⟨_,_,_,U,H,e0,Q,e3⟩:=hy;simp only[Value.agg.injEq,Array.mk.injEq,List.cons.injEq,Value.bool.injEq,Value.slice.injEq,and_true]at H;obtain⟨rfl,rfl,rfl,rfl⟩:=H;have b7:=hid (a4b P);have b6:=hid (a4b Q);have f3:=hid P.1;have f4:=hid Q.1;have c:=c1L wc;have R:NV (mk (a0f X b 3) wc) (.slice J T.length N) x.natAbs:=NC.nv ⟨J,N,T,rfl,d8,P.2,d9⟩ (by have:=f1.out;omega);have S:NV (mk (a0f X b 3) wc) (.slice K U.length O) y.natAbs:=NC.nv ⟨K,O,U,rfl,e0,Q.2,e3⟩ (by have:=f2.out;omega);have f7:w.heap.size+3<=wc.heap.size:=by have:=b2.lt;omega
  have m:HX (a0f X b 3) wc:=hX.boxes' G (by omega) f7;have g:=hid (And.intro L (And.intro M b2));have r:=L.cell 0 rfl;have s:=L.cell 1 rfl;have t:=M.cell 0 rfl;have z:=M.cell 1 rfl;have f8:b+1≠b+1+1:=by omega
  have f9:b≠b+1+1:=by omega
  obtain⟨sn,a7⟩:=c1F ((s3 !=s4));have E:Hid (sg sn (x.natAbs*y.natAbs)=x*y):=hid (by
   have e1:=b7.out;have e2:=b6.out;rw[<-a7,<-e1,<-e2,a7s,a7s];unfold sg;cases s3<;>cases s4<;>simp[Int.natCast_mul,Int.neg_mul,Int.mul_neg])
  have i:=hid a7;clear f3 f4 b7 b6 a7 P Q;cases s3<;>cases s4
  ·obtain rfl:sn=false:=i.out.symm
   clear i;go_wp2_with fail
   go_region_held3 (fun l=>l.cell? ⟨b,0,none⟩=some (.bool false)/\l.cell? ⟨b,1,none⟩=some (.slice J T.length N)/\l.cell? ⟨b+1,0,none⟩=some (.bool false)/\l.cell? ⟨b+1,1,none⟩=some (.slice K U.length O))
    (first|exact⟨(g.out.1.ext0 (c.trans a)).cell 0 rfl,(g.out.1.ext0 (c.trans a)).cell 1 rfl,(g.out.2.1.ext0 (c.trans a)).cell 0 rfl,(g.out.2.1.ext0 (c.trans a)).cell 1 rfl⟩|exact⟨(g.out.1.ext0 (c.trans (a.trans d))).cell 0 rfl,(g.out.1.ext0 (c.trans (a.trans d))).cell 1 rfl,(g.out.2.1.ext0 (c.trans (a.trans d))).cell 0 rfl,(g.out.2.1.ext0 (c.trans (a.trans d))).cell 1 rfl⟩|exact⟨((g.out.1.ext0 (c.trans (a.trans d))).ext (f.set2 _ _).2 (a0b (by omega))).cell 0 rfl,((g.out.1.ext0 (c.trans (a.trans d))).ext (f.set2 _ _).2 (a0b (by omega))).cell 1 rfl,((g.out.2.1.ext0 (c.trans (a.trans d))).ext (f.set2 _ _).2 (a0b (by omega))).cell 0 rfl,((g.out.2.1.ext0 (c.trans (a.trans d))).ext (f.set2 _ _).2 (a0b (by omega))).cell 1 rfl⟩|go_keep)
    (first|(go_at_call 107;refine(b4O (a0f X b 3) wc.drew _ _ _ _ m R S C.out D.out).mono ?_;rintro e V ⟨a,Y,rfl,q⟩)|(go_at_call 95;refine(a1V (a0f X b 3) V false Y (x.natAbs*y.natAbs) (HX.ext (w:=wc.drew) m a) q).mono ?_;rintro e w6 ⟨d,u6,rfl,B,n,o,A,rfl,j,h,k⟩;have f:=g.out.2.2.ext0 (c.trans (a.trans d));have g1:=f.cell 0 rfl;have g2:=f.cell 1 rfl;have g3:=f.frozen 0;have g4:=f.frozen 1))
   obtain⟨r1,I⟩:=f.set2 (.bool B) (.slice n A.length o);have h7:=(k.mono (a0c.mono _) (a0h I (by omega) (by omega))).mono (a0c.mono _) a0l;rw[E.out]at h;have p:Ext w _:=ExtX.box (G.trans (c.trans (a.trans d))) I (by omega);clear g1 g2 g3 g4 r s t z;go_wp2_with fail
   exact bodyPost_ret (a0d rfl rfl a0H r1 rfl) rfl ⟨p,_,rfl,B,n,o,A,rfl,j,h,h7⟩
  ·obtain rfl:sn=true:=i.out.symm
   clear i;go_wp2_with fail
   go_region_held3 (fun l=>l.cell? ⟨b,0,none⟩=some (.bool false)/\l.cell? ⟨b,1,none⟩=some (.slice J T.length N)/\l.cell? ⟨b+1,0,none⟩=some (.bool true)/\l.cell? ⟨b+1,1,none⟩=some (.slice K U.length O))
    (first|exact⟨(g.out.1.ext0 (c.trans a)).cell 0 rfl,(g.out.1.ext0 (c.trans a)).cell 1 rfl,(g.out.2.1.ext0 (c.trans a)).cell 0 rfl,(g.out.2.1.ext0 (c.trans a)).cell 1 rfl⟩|exact⟨(g.out.1.ext0 (c.trans (a.trans d))).cell 0 rfl,(g.out.1.ext0 (c.trans (a.trans d))).cell 1 rfl,(g.out.2.1.ext0 (c.trans (a.trans d))).cell 0 rfl,(g.out.2.1.ext0 (c.trans (a.trans d))).cell 1 rfl⟩|exact⟨((g.out.1.ext0 (c.trans (a.trans d))).ext (f.set2 _ _).2 (a0b (by omega))).cell 0 rfl,((g.out.1.ext0 (c.trans (a.trans d))).ext (f.set2 _ _).2 (a0b (by omega))).cell 1 rfl,((g.out.2.1.ext0 (c.trans (a.trans d))).ext (f.set2 _ _).2 (a0b (by omega))).cell 0 rfl,((g.out.2.1.ext0 (c.trans (a.trans d))).ext (f.set2 _ _).2 (a0b (by omega))).cell 1 rfl⟩|go_keep)
    (first|(go_at_call 107;refine(b4O (a0f X b 3) wc.drew _ _ _ _ m R S C.out D.out).mono ?_;rintro e V ⟨a,Y,rfl,q⟩)|(go_at_call 95;refine(a1V (a0f X b 3) V true Y (x.natAbs*y.natAbs) (HX.ext (w:=wc.drew) m a) q).mono ?_;rintro e w6 ⟨d,u6,rfl,B,n,o,A,rfl,j,h,k⟩;have f:=g.out.2.2.ext0 (c.trans (a.trans d));have g1:=f.cell 0 rfl;have g2:=f.cell 1 rfl;have g3:=f.frozen 0;have g4:=f.frozen 1))
   obtain⟨r1,I⟩:=f.set2 (.bool B) (.slice n A.length o);have h7:=(k.mono (a0c.mono _) (a0h I (by omega) (by omega))).mono (a0c.mono _) a0l;rw[E.out]at h;have p:Ext w _:=ExtX.box (G.trans (c.trans (a.trans d))) I (by omega);clear g1 g2 g3 g4 r s t z;go_wp2_with fail
   exact bodyPost_ret (a0d rfl rfl a0H r1 rfl) rfl ⟨p,_,rfl,B,n,o,A,rfl,j,h,h7⟩
  ·obtain rfl:sn=true:=i.out.symm
   clear i;go_wp2_with fail
   go_region_held3 (fun l=>l.cell? ⟨b,0,none⟩=some (.bool true)/\l.cell? ⟨b,1,none⟩=some (.slice J T.length N)/\l.cell? ⟨b+1,0,none⟩=some (.bool false)/\l.cell? ⟨b+1,1,none⟩=some (.slice K U.length O))
    (first|exact⟨(g.out.1.ext0 (c.trans a)).cell 0 rfl,(g.out.1.ext0 (c.trans a)).cell 1 rfl,(g.out.2.1.ext0 (c.trans a)).cell 0 rfl,(g.out.2.1.ext0 (c.trans a)).cell 1 rfl⟩|exact⟨(g.out.1.ext0 (c.trans (a.trans d))).cell 0 rfl,(g.out.1.ext0 (c.trans (a.trans d))).cell 1 rfl,(g.out.2.1.ext0 (c.trans (a.trans d))).cell 0 rfl,(g.out.2.1.ext0 (c.trans (a.trans d))).cell 1 rfl⟩|exact⟨((g.out.1.ext0 (c.trans (a.trans d))).ext (f.set2 _ _).2 (a0b (by omega))).cell 0 rfl,((g.out.1.ext0 (c.trans (a.trans d))).ext (f.set2 _ _).2 (a0b (by omega))).cell 1 rfl,((g.out.2.1.ext0 (c.trans (a.trans d))).ext (f.set2 _ _).2 (a0b (by omega))).cell 0 rfl,((g.out.2.1.ext0 (c.trans (a.trans d))).ext (f.set2 _ _).2 (a0b (by omega))).cell 1 rfl⟩|go_keep)
    (first|(go_at_call 107;refine(b4O (a0f X b 3) wc.drew _ _ _ _ m R S C.out D.out).mono ?_;rintro e V ⟨a,Y,rfl,q⟩)|(go_at_call 95;refine(a1V (a0f X b 3) V true Y (x.natAbs*y.natAbs) (HX.ext (w:=wc.drew) m a) q).mono ?_;rintro e w6 ⟨d,u6,rfl,B,n,o,A,rfl,j,h,k⟩;have f:=g.out.2.2.ext0 (c.trans (a.trans d));have g1:=f.cell 0 rfl;have g2:=f.cell 1 rfl;have g3:=f.frozen 0;have g4:=f.frozen 1))
   obtain⟨r1,I⟩:=f.set2 (.bool B) (.slice n A.length o);have h7:=(k.mono (a0c.mono _) (a0h I (by omega) (by omega))).mono (a0c.mono _) a0l;rw[E.out]at h;have p:Ext w _:=ExtX.box (G.trans (c.trans (a.trans d))) I (by omega);clear g1 g2 g3 g4 r s t z;go_wp2_with fail
   exact bodyPost_ret (a0d rfl rfl a0H r1 rfl) rfl ⟨p,_,rfl,B,n,o,A,rfl,j,h,h7⟩
  ·obtain rfl:sn=false:=i.out.symm
   clear i;go_wp2_with fail
   go_region_held3 (fun l=>l.cell? ⟨b,0,none⟩=some (.bool true)/\l.cell? ⟨b,1,none⟩=some (.slice J T.length N)/\l.cell? ⟨b+1,0,none⟩=some (.bool true)/\l.cell? ⟨b+1,1,none⟩=some (.slice K U.length O))
    (first|exact⟨(g.out.1.ext0 (c.trans a)).cell 0 rfl,(g.out.1.ext0 (c.trans a)).cell 1 rfl,(g.out.2.1.ext0 (c.trans a)).cell 0 rfl,(g.out.2.1.ext0 (c.trans a)).cell 1 rfl⟩|exact⟨(g.out.1.ext0 (c.trans (a.trans d))).cell 0 rfl,(g.out.1.ext0 (c.trans (a.trans d))).cell 1 rfl,(g.out.2.1.ext0 (c.trans (a.trans d))).cell 0 rfl,(g.out.2.1.ext0 (c.trans (a.trans d))).cell 1 rfl⟩|exact⟨((g.out.1.ext0 (c.trans (a.trans d))).ext (f.set2 _ _).2 (a0b (by omega))).cell 0 rfl,((g.out.1.ext0 (c.trans (a.trans d))).ext (f.set2 _ _).2 (a0b (by omega))).cell 1 rfl,((g.out.2.1.ext0 (c.trans (a.trans d))).ext (f.set2 _ _).2 (a0b (by omega))).cell 0 rfl,((g.out.2.1.ext0 (c.trans (a.trans d))).ext (f.set2 _ _).2 (a0b (by omega))).cell 1 rfl⟩|go_keep)
    (first|(go_at_call 107;refine(b4O (a0f X b 3) wc.drew _ _ _ _ m R S C.out D.out).mono ?_;rintro e V ⟨a,Y,rfl,q⟩)|(go_at_call 95;refine(a1V (a0f X b 3) V false Y (x.natAbs*y.natAbs) (HX.ext (w:=wc.drew) m a) q).mono ?_;rintro e w6 ⟨d,u6,rfl,B,n,o,A,rfl,j,h,k⟩;have f:=g.out.2.2.ext0 (c.trans (a.trans d));have g1:=f.cell 0 rfl;have g2:=f.cell 1 rfl;have g3:=f.frozen 0;have g4:=f.frozen 1))
   obtain⟨r1,I⟩:=f.set2 (.bool B) (.slice n A.length o);have h7:=(k.mono (a0c.mono _) (a0h I (by omega) (by omega))).mono (a0c.mono _) a0l;rw[E.out]at h;have p:Ext w _:=ExtX.box (G.trans (c.trans (a.trans d))) I (by omega);clear g1 g2 g3 g4 r s t z;go_wp2_with fail
   exact bodyPost_ret (a0d rfl rfl a0H r1 rfl) rfl ⟨p,_,rfl,B,n,o,A,rfl,j,h,h7⟩
def a7U(w:World)(b:Bool)(e:Ending)(w':World):Prop:=Ext w w'/\e=.returned (.bool b)
theorem b7v(X:Nat->Bool)(w:World)(u:Value)(x:Int)(S:HX X w)(B:ZV (mk X w) u x):Calls Tryz.prog 103 #[u] w (a2b X w ZC (-x)):=by
 obtain⟨s1,M,O,Y,rfl,C⟩:=id B;obtain⟨W,hW,H,l,F,hz⟩:=a1K w #[.bool s1,.slice M Y.length O] #[.bool false,.slice none 0 0] 45 45;have c:HX (a0f X w.heap.size 2) W:=S.boxes hz;have k:=ZV.mono _ _ _ _ (a0i (nb:=2) H) B;obtain⟨b,T⟩:=c1F w.heap.size;have U:w.heap.size<=b:=by omega
 rw[T]at l F hz c k;have d:=l.cell 0 rfl;have f:=l.cell 1 rfl;clear B C;go_enter Tryz.func103,Tryz.ntmps103
 go_wp2_with fail
 refine(a4c (a0f X b 2) W _ x c k).mono ?_;rintro e w6 ⟨a,u6,rfl,D,E,G,I,rfl,r,g,s⟩;have y:=c.ext a;have n:=l.ext0 a;have o:=F.ext0 a;have A:=hid (a4b g);clear d f;go_wp2_with ((with_reducible refine c1J ?_);refine a0a a0H rfl rfl n rfl rfl a3a ?_;intro L K m;have d:=K.cell 0 rfl;have f:=K.cell 1 rfl)
 have z:=y.ext m;have p:=o.ext m (a0b (by omega));have V:NC (mk (a0f X b 2) L) (.slice E I.length G) x.natAbs:=⟨E,G,I,rfl,r,g.2,s.mono (a0c.mono _) (a0h m (by omega) (by omega))⟩;have j:Hid (sg (!D) x.natAbs= -x):=hid (by
  have Q:=A.out;rw[<-Q,a7s];unfold sg;cases D<;>simp)
 refine(a1V (a0f X b 2) L (!D) _ _ z V).mono ?_;rintro e w8 ⟨i,u8,rfl,s8,N,P,Z,rfl,t,h,v⟩;rw[j.out]at h;have q:=p.ext0 i;clear d f;go_wp2_with ((with_reducible refine c1J ?_);refine a0a a0H rfl rfl q rfl rfl a3a ?_;intro w9 q1 J)
 have R:=(v.mono (a0c.mono _) (a0h J (by omega) (by omega))).mono (a0c.mono _) a0l;exact bodyPost_ret (a0d rfl rfl a0H q1 rfl) rfl ⟨ExtX.box ((ExtX.box (H.trans a) m (by omega)).trans i) J (by omega),_,rfl,s8,N,P,Z,rfl,t,h,R⟩
theorem b6t(X:Nat->Bool)(w:World)(u:Value)(x:Int)(H:HX X w)(z:ZV (mk X w) u x):Calls Tryz.prog 81 #[u] w (a4A w x.sign):=by
 obtain⟨L,E,F,K,rfl,A⟩:=id z;obtain⟨W,O,t,s,hz⟩:=a0Y w #[.bool L,.slice E K.length F] 45;have p:HX (a0f X w.heap.size 1) W:=H.boxes hz;have q:=ZV.mono _ _ _ _ (a0i (nb:=1) t) z;obtain⟨b,I⟩:=c1F w.heap.size;have J:w.heap.size<=b:=by omega
 rw[I]at s hz p q;have i:=s.cell 0 rfl;have j:=s.cell 1 rfl;clear z A;go_enter Tryz.func81,Tryz.ntmps81
 go_wp2_with fail
 refine(a4c (a0f X b 1) W _ x p q).mono ?_;rintro e R ⟨g,Q,rfl,C,M,N,B,rfl,v,m,G⟩;have l:=s.ext0 g;have d:=hid m.len0;have f:=hid m.1;clear i j m;by_cases a:x<0
 ·have y:Hid (x.sign= -1):=hid (Int.sign_eq_neg_one_of_neg a)
  obtain rfl:C=true:=by rw[f.out];exact decide_eq_true a
  clear d a f;go_wp2_with ((with_reducible refine c1J ?_);refine a0a a0H rfl rfl l rfl rfl a3a ?_;intro D k r;have i:=k.cell 0 rfl;have j:=k.cell 1 rfl)
  have c:=ExtX.box (t.trans g) r (by omega);go_ret
  exact⟨c,a0N y.out.symm⟩
 ·obtain rfl:C=false:=by rw[f.out];exact decide_eq_false a
  by_cases o:B.length=0
  ·have n:x=0:=d.out.1 o
   subst n;obtain rfl:B= []:=List.eq_nil_of_length_eq_zero o;clear d f o a;simp only[List.length_nil]at v |-;go_wp2_with ((with_reducible refine c1J ?_);refine a0a a0H rfl rfl l rfl rfl a3a ?_;intro D k r;have i:=k.cell 0 rfl;have j:=k.cell 1 rfl)
   have c:=ExtX.box (t.trans g) r (by omega);go_ret
   exact⟨c,rfl⟩
  ·have n:¬x=0:=fun h=>o (d.out.2 h)
   have P:0<B.length:=by omega
   have y:Hid (x.sign=1):=hid (Int.sign_eq_one_of_pos (by omega));clear d n a f o;go_wp2_with ((with_reducible refine c1J ?_);refine a0a a0H rfl rfl l rfl rfl a3a ?_;intro D k r;have i:=k.cell 0 rfl;have j:=k.cell 1 rfl)
   have c:=ExtX.box (t.trans g) r (by omega);go_ret
   exact⟨c,a0N y.out.symm⟩
theorem b2Q(X:Nat->Bool)(w:World)(v:Int)(N:HX X w)(T: -9223372036854775808<=v)(U:v<=9223372036854775807):Calls Tryz.prog 50 #[.int .i64 v] w (a2b X w ZC v):=by
 obtain⟨W,V,K,x,hz⟩:=a0Y w #[.bool false,.slice none 0 0] 45;have d:HX (a0f X w.heap.size 1) W:=N.boxes hz;obtain⟨b,O⟩:=c1F w.heap.size;have P:w.heap.size<=b:=by omega
 rw[O]at x hz d;by_cases Y:v<0
 ·obtain⟨n,C⟩:∃n:Nat,-(v+1)=n:=Int.eq_ofNat_of_zero_le (by omega)
  have E:Hid (sg true (n+1)=v):=hid (by unfold sg;simp;omega);have G:Hid (-(v+1)=(n:Int)):=hid C;have D:Hid (n<18446744073709551616):=hid (by omega);have Q:(n:Int)<=9223372036854775807:=by omega
  clear C;go_enter Tryz.func50,Tryz.ntmps50
  go_wp2_with fail
  rw[G.out];refine(b6p (X:=a0f X b 1) d D.out).mono ?_;rintro e t ⟨a,L,rfl,h⟩;have m:=d.ext a;go_wp2_with fail
  have i:=NC.lit m 1 114 (by omega) (by omega);have c:Ext t (t.alloc (.cells #[.int .u32 ((1:Nat):Int)] 114)):=(ExtX.refl t).alloc _;have q:lg n<=1099511627776:=by
   have:n<B^2:=by rw[a1t];omega
   have:=a3e.2 this;omega
  refine(b4N (m.ext c) (mkx NV.mono (h.nv q) c) (i.nv (by rw[a3I];decide))).mono ?_;rintro e M ⟨o,S,rfl,F⟩;have f:=a.trans (c.trans o);have A:=d.ext f;clear a c o m i h q;go_wp2_with fail
  refine(a1V (a0f X b 1) M true S _ A F).mono ?_;rintro e w8 ⟨p,R,rfl,J,u,y,H,rfl,k,g,l⟩;rw[E.out]at g;have j:=(x.ext0 f).ext0 p;go_wp2_with ((with_reducible refine c1J ?_);refine a0a a0H rfl rfl j rfl rfl a3a ?_;intro w9 I s)
  have z:=(l.mono (a0c.mono _) (a0h s (by omega) (by omega))).mono (a0c.mono _) a0l;exact bodyPost_ret (a0d rfl rfl a0H I rfl) rfl ⟨ExtX.box (K.trans (f.trans p)) s (by omega),_,rfl,J,u,y,H,rfl,k,g,z⟩
 ·obtain⟨n,rfl⟩:=Int.eq_ofNat_of_zero_le (show 0<=v by omega)
  have C:Hid (sg false n=(n:Int)):=hid rfl;have r:Hid (n<18446744073709551616):=hid (by omega);go_enter Tryz.func50,Tryz.ntmps50
  go_wp2_with fail
  refine(b6p (X:=a0f X b 1) d r.out).mono ?_;rintro e t ⟨a,L,rfl,h⟩;go_wp2_with fail
  refine(a1V (a0f X b 1) t false L n (d.ext a) h).mono ?_;rintro e Z ⟨c,R,rfl,J,u,y,H,rfl,k,g,l⟩;have j:=(x.ext0 a).ext0 c;go_wp2_with ((with_reducible refine c1J ?_);refine a0a a0H rfl rfl j rfl rfl a3a ?_;intro M I s)
  have z:=(l.mono (a0c.mono _) (a0h s (by omega) (by omega))).mono (a0c.mono _) a0l;exact bodyPost_ret (a0d rfl rfl a0H I rfl) rfl ⟨ExtX.box (K.trans (a.trans c)) s (by omega),_,rfl,J,u,y,H,rfl,k,g,z⟩
theorem b6u(X:Nat->Bool)(w:World)(u v:Value)(x y:Int)(K:ZC (mk X w) u x)(L:ZC (mk X w) v y)(t:lg x.natAbs<=1099511627776):Calls Tryz.prog 51 #[u,v] w (a7U w (decide (x=y))):=by
 obtain⟨G,g,l,E,rfl,o,a,p⟩:=K;obtain⟨H,i,n,F,rfl,q,c,r⟩:=L;obtain⟨W,Q,f,j,k,hz⟩:=a1K w #[.bool G,.slice g E.length l] #[.bool H,.slice i F.length n] 45 45;have A:NC (mk X W) (.slice g E.length l) x.natAbs:=⟨g,l,E,rfl,o,a.2,p.mono (a0c.mono _) (a0k f)⟩;have B:NC (mk X W) (.slice i F.length n) y.natAbs:=⟨i,n,F,rfl,q,c.2,r.mono (a0c.mono _) (a0k f)⟩;obtain⟨b,I⟩:=c1F w.heap.size;rw[I]at j k hz;have M:=j.cell 0 rfl;have N:=j.cell 1 rfl;have O:=k.cell 0 rfl;have P:=k.cell 1 rfl;have C:=hid (a4b a);have D:=hid (a4b c);by_cases d:G=H
 ·subst d
  have s:Hid (decide (x=y)=decide (x.natAbs=y.natAbs)):=hid (by
   rw[Bool.eq_iff_iff];simp only[decide_eq_true_eq];constructor
   ·intro h;rw[h]
   ·intro h;rw[<-C.out,<-D.out,h])
  have z:=hid t;clear a c t;go_enter Tryz.func51,Tryz.ntmps51
  go_wp2_with fail
  refine(b6r X W _ _ _ _ A B z.out).mono ?_;rintro e R ⟨rfl,m,rfl⟩;go_wp2_with fail
  go_ret
  exact⟨f.trans ((ExtX.refl W).drewN m),a0m s.out.symm⟩
 ·have s:Hid (decide (x=y)=false):=hid (by
   rw[decide_eq_false_iff_not];intro h;subst h;exact d (a.1.trans c.1.symm))
  have J:(G==H)=false:=by simpa using d
  clear a c t d;go_enter Tryz.func51,Tryz.ntmps51
  go_wp2_with fail
  go_ret
  exact⟨f,a0m s.out.symm⟩
theorem a8D(s:Bool)(a:Option Addr)(n c:Nat)(W:World):(Instr.field 45 (.agg #[.bool s,.slice a n c]) 1).run Tryz.prog W=.ok (.slice a n c) W:=by kernel_rfl
theorem b9h(X:Nat->Bool)(w:World)(u v:Value)(x y:Int)(hX:HX X w)(M:ZV (mk X w) u x)(Q:ZV (mk X w) v y)(k:lg x.natAbs<=274877906944)(l:lg y.natAbs<=274877906944):Calls Tryz.prog 104 #[u,v] w (a2b X w NC (Nat.gcd x.natAbs y.natAbs)):=by
 have c:=hid k;have d:=hid l;clear k l;obtain⟨s1,a1,c1,l1,rfl,N⟩:=id M;obtain⟨s2,a2,c2,l2,rfl,R⟩:=id Q;obtain⟨W,hW,F,o,p,hz⟩:=a1K w #[.bool s1,.slice a1 l1.length c1] #[.bool s2,.slice a2 l2.length c2] 45 45;have j:HX (a0f X w.heap.size 2) W:=hX.boxes hz;have m:=ZV.mono _ _ _ _ (a0i (nb:=2) F) M;have n:=ZV.mono _ _ _ _ (a0i (nb:=2) F) Q;obtain⟨b,hb⟩:=c1F w.heap.size;rw[hb]at o p hz j m n;have g:=c1L W;have h:HX (a0f X b 2) W.drew:=j;have P:ZV (mk (a0f X b 2) W.drew) (.agg #[.bool s1,.slice a1 l1.length c1]) x:=m;have S:ZV (mk (a0f X b 2) W.drew) (.agg #[.bool s2,.slice a2 l2.length c2]) y:=n;have T:=o.cell 0 rfl;have U:=o.cell 1 rfl;have V:=p.cell 0 rfl;have Y:=p.cell 1 rfl;clear M Q N R;have hB:=hid (And.intro o p);have J:=a8D;go_enter Tryz.func104,Tryz.ntmps104
 go_wp2_with fail
 go_region_with (first|(go_at_call 101;(with_reducible refine(a4c (a0f X b 2) W.drew _ x h P).mono ?_);rintro e w5 ⟨a,u5,rfl,s5,a5,c5,l5,rfl,z,A,B⟩;have q:=hB.out.1.ext0 (g.trans a);have i:=hB.out.2.ext0 (g.trans a);have r:=q.cell 1 rfl;have s:=i.cell 0 rfl;have t:=i.cell 1 rfl)|(go_at_call 101;(with_reducible refine(a4c (a0f X b 2) w5 _ y (HX.ext h a) (mkx ZV.mono S a)).mono ?_);rintro e Z ⟨f,u6,rfl,s6,a6,c6,l6,rfl,C,D,E⟩;have I:=HX.ext (HX.ext h a) f;have K:NV (mk (a0f X b 2) Z) (.slice a5 l5.length c5) x.natAbs:=NC.nv ⟨a5,c5,l5,rfl,z,A.2,B.mono (a0c.mono _) (a0k f)⟩ (by have:=c.out;omega);have L:NV (mk (a0f X b 2) Z) (.slice a6 l6.length c6) y.natAbs:=NC.nv ⟨a6,c6,l6,rfl,C,D.2,E⟩ (by have:=d.out;omega))|(go_at_call 146;(with_reducible refine(b9f (a0f X b 2) Z _ _ _ _ I K L c.out d.out).mono ?_);rintro e w7 ⟨G,u7,rfl,O⟩))
 all_goals
  have H:=F.trans (g.trans (a.trans (f.trans G)));clear r s t T U V Y J;go_wp2_with fail
  go_ret
  exact⟨H,_,rfl,NC.mono _ _ _ _ a0l O⟩
def c0t(X:Nat->Bool)(w:World)(q:Int)(e:Ending)(w':World):Prop:=Ext w w'/\∃u sv av nv cv,e=.returned (.tuple #[u,.agg #[.bool sv,.slice av nv cv],.bool true])/\ZC (mk X w') u q
theorem a5V{P:Program}{w:World}{fn:Func}{a:Array Value}{c m d:Tmp}{t:TypeId}{n b b':Nat}{i e:Array Value}{T q:TypeId}(h:fn.results=#[.cell c t,.cell m t,.tmp d])(p:a.getD c undef=.pointer (some ⟨b,0,none⟩))(g:a.getD m undef=.pointer (some ⟨b',0,none⟩))(o:a1M P t n)(r:Bx w b i T)(k:i.size=n)(j:Bx w b' e q)(f:e.size=n):(results fn a).run P w=.ok (.tuple #[.agg i,.agg e,a.getD d undef]) w:=by
 have s:=a2m (P:=P) o r k;have l:=a2m (P:=P) o j f;rw[Array.getD_eq_getD_getElem?]at p g;simp[results,h,p,g,asAddr,s,l]
theorem b4Q(X:Nat->Bool)(w:World)(u v:Value)(x y:Int)(hX:HX X w)(hu:ZV (mk X w) u x)(hv:ZV (mk X w) v y)(a9:lg x.natAbs<=274877906944)(b5:lg y.natAbs<=274877906944)(h0:0<y)(hd:y∣x):Calls Tryz.prog 105 #[u,v] w (c0t X w (x/y)):=by
 have b4:=hid a9;have b6:=hid b5;have hq:Hid (∃k:Int,x=y*k/\x/y=k):=hid (by
  obtain⟨k,rfl⟩:=hd;exact⟨k,rfl,Int.mul_ediv_cancel_left _ (by omega)⟩)
 have N:=hid h0;clear a9 b5 hd h0;have f8:=hid hu.lg;have f9:=hid hv.lg;obtain⟨s1,a1,c1,l1,rfl,g2⟩:=id hu;obtain⟨s2,a2,c2,l2,rfl,g3⟩:=id hv;obtain⟨W,hW,hE,A,B,b2,b3,hz⟩:=b6s w #[.bool s1,.slice a1 l1.length c1] #[.bool s2,.slice a2 l2.length c2] #[.bool false,.slice none 0 0] #[.bool false,.slice none 0 0] 45 45 45 45;have a0:HX (a0f X w.heap.size 4) W:=hX.boxes hz;have U:=ZV.mono _ _ _ _ (a0i (nb:=4) hE) hu;have V:=ZV.mono _ _ _ _ (a0i (nb:=4) hE) hv;obtain⟨b,hb⟩:=c1F w.heap.size;have f2:w.heap.size<=b:=by omega
 rw[hb]at A B b2 b3 hz a0 U V;have i:=c1L W;have S:HX (a0f X b 4) W.drew:=a0;have d0:ZV (mk (a0f X b 4) W.drew) (.agg #[.bool s1,.slice a1 l1.length c1]) x:=U;have d1:ZV (mk (a0f X b 4) W.drew) (.agg #[.bool s2,.slice a2 l2.length c2]) y:=V;have l:=A.cell 0 rfl;have m:=A.cell 1 rfl;have n:=B.cell 0 rfl;have o:=B.cell 1 rfl;clear hu hv g2 g3;go_enter Tryz.func105,Tryz.ntmps105
 go_upto_region 1 with(fail)
 go_cut []from 10 to 13 (fun wx=>∃s3 a3 c3 l3 s4 a4 c4 l4,Bx wx b #[.bool s3,.slice a3 l3 c3] 45/\Bx wx (b+1) #[.bool s4,.slice a4 l4 c4] 45/\Bx wx (b+1+1) #[.bool false,.slice none 0 0] 45/\Bx wx (b+1+1+1) #[.bool false,.slice none 0 0] 45/\ZC (mk (a0f X b 4) wx) (.agg #[.bool s3,.slice a3 l3 c3]) x/\ZC (mk (a0f X b 4) wx) (.agg #[.bool s4,.slice a4 l4 c4]) y/\Ext w wx)
 case first=>
  go_region_with (first|(go_at_call 101;(with_reducible refine(a4c (a0f X b 4) W.drew _ x S d0).mono ?_);rintro e w5 ⟨c,u5,rfl,s5,a5,c5,l5,rfl,F,q,G⟩;have C:=A.ext0 (i.trans c);have p:=B.ext0 (i.trans c);have d6:=p.cell 0 rfl;have d7:=p.cell 1 rfl)|(go_at_call 101;(with_reducible refine(a4c (a0f X b 4) w5 _ y (HX.ext S c) (mkx ZV.mono d1 c)).mono ?_);rintro e w6 ⟨a,u6,rfl,s6,K,L,Y,rfl,r,j,s⟩;have f:=C.ext0 a;have g:=p.ext0 a;have e3:=f.cell 0 rfl;have e4:=f.cell 1 rfl;have e6:=g.cell 0 rfl;have e7:=g.cell 1 rfl;have d8:=f.frozen 0;have d9:=f.frozen 1;have e0:=g.frozen 0;have e2:=g.frozen 1))
  all_goals
   obtain⟨wf,d4,q0,q1,q2,q3,q4⟩:=a2y (X:=X) (nb:=4) f g (hE.trans ((i.trans c).trans a)) f2 (by omega) (.bool s5) (.slice a5 l5.length c5) (.bool s6) (.slice K Y.length L);rw[d4];have f4:ZC (mk (a0f X b 4) wf) (.agg #[.bool s5,.slice a5 l5.length c5]) x:=⟨s5,a5,c5,l5,rfl,F,q,(G.mono (a0c.mono _) (a0k a)).mono (a0c.mono _) q4⟩;have f5:ZC (mk (a0f X b 4) wf) (.agg #[.bool s6,.slice K Y.length L]) y:=⟨s6,K,L,Y,rfl,r,j,s.mono (a0c.mono _) q4⟩;have q5:=q2 (b+1+1) _ _ (by omega) (by omega) ((b2.ext0 (i.trans c)).ext0 a);have q6:=q2 (b+1+1+1) _ _ (by omega) (by omega) ((b3.ext0 (i.trans c)).ext0 a);clear d6 d7 e3 e4 e6 e7 d8 d9 e0 e2 l m n o d4;go_wp2_with fail
   go_meet
   exact⟨_,_,_,_,_,_,_,_,q0,q1,q5,q6,f4,f5,q3⟩
 case rest=>
  clear l m n o A B b2 b3 U V d0 d1 S i hW;obtain⟨s3,a3,c3,n3,s4,a4,c4,n4,A,B,b2,b3,hx,hy,R⟩:=hcut;obtain⟨_,_,_,l3,z,e8,D,e9⟩:=hx;simp only[Value.agg.injEq,Array.mk.injEq,List.cons.injEq,Value.bool.injEq,Value.slice.injEq,and_true]at z;obtain⟨rfl,rfl,rfl,rfl⟩:=z;obtain⟨_,_,_,l4,z,f0,E,f1⟩:=hy;simp only[Value.agg.injEq,Array.mk.injEq,List.cons.injEq,Value.bool.injEq,Value.slice.injEq,and_true]at z;obtain⟨rfl,rfl,rfl,rfl⟩:=z;have b7:=hid (a4b D);have f7:=hid (a4b E);have c8:=hid D.1;have c9:=hid E.1;have i:=c1L wc;have g0:NV (mk (a0f X b 4) wc) (.slice a3 l3.length c3) x.natAbs:=NC.nv ⟨a3,c3,l3,rfl,e8,D.2,e9⟩ (by have:=f8.out;omega);have g1:NV (mk (a0f X b 4) wc) (.slice a4 l4.length c4) y.natAbs:=NC.nv ⟨a4,c4,l4,rfl,f0,E.2,f1⟩ (by have:=f9.out;omega);have g4:w.heap.size+4<=wc.heap.size:=by have:=b3.lt;omega
  have a8:HX (a0f X b 4) wc:=hX.boxes' R (by omega) g4;have l:=A.cell 0 rfl;have m:=A.cell 1 rfl;have n:=B.cell 0 rfl;have o:=B.cell 1 rfl;have d5:Hid (0<y.natAbs):=hid (by have:=N.out;omega);have b8:Hid (x.natAbs%y.natAbs=0):=hid (by
   obtain⟨k,hk,_⟩:=hq.out;rw[hk,Int.natAbs_mul];exact Nat.mul_mod_right _ _)
  obtain rfl:s4=false:=by rw[c9.out];exact decide_eq_false (by have:=N.out;omega)
  have J:Hid (sg s3 (x.natAbs/y.natAbs)=x/y):=hid (by
   obtain⟨k,hk,f6⟩:=hq.out;have h0:=N.out;have e1:=b7.out;rw[f6];have f3:x.natAbs/y.natAbs=k.natAbs:=by rw[hk,Int.natAbs_mul];exact Nat.mul_div_cancel_left _ d5.out
   rw[f3,c8.out];have hs:(x<0)=(k<0):=by
    rw[hk];exact propext ⟨fun h=>by
     by_cases I:k<0
     ·exact I
     ·have:=Int.mul_nonneg (show 0<=y by omega) (show 0<=k by omega);omega,fun h=>Int.mul_neg_of_pos_of_neg h0 h⟩
   unfold sg;simp only[hs];by_cases I:k<0
   ·simp only[I,decide_true,if_true];omega
   ·simp only[I,decide_false,Bool.false_eq_true,if_false];omega)
  clear c8 c9 b7 f7 D E i;go_wp2_with fail
  refine(b9e (a0f X b 4) wc _ _ _ _ a8 g0 g1 b4.out b6.out d5.out).mono ?_;rintro e w5 ⟨c,qu,ru,rfl,b9,c0⟩;rw[b8.out]at c0;obtain⟨a5,c5,l5,rfl,F,q,G⟩:=c0;obtain rfl:l5= []:=List.eq_nil_of_length_eq_zero ((a1r q).2 rfl);have H:=a8.ext c;have C:=A.ext0 c;have p:=B.ext0 c;have f:=b2.ext0 c;have g:=b3.ext0 c;clear l m n o;have l:=C.cell 0 rfl;have m:=C.cell 1 rfl;have n:=p.cell 0 rfl;have o:=p.cell 1 rfl;simp only[List.length_nil];cases s3
  ·
   go_wp2_with fail
   refine(a1V (a0f X b 4) w5 false qu _ H b9).mono ?_;rintro e w6 ⟨a,u6,rfl,s6,K,L,Y,rfl,r,j,s⟩;rw[J.out]at j;go_wp2_with fail
   refine(a1V (a0f X b 4) w6 false _ 0 (H.ext a) (mkx NC.mono ⟨a5,c5,[],rfl,F,q,G⟩ a)).mono ?_;rintro e w7 ⟨d,u7,rfl,s7,a7,c7,l7,rfl,O,P,Q⟩;have d2:=(f.ext0 a).ext0 d;have d3:=(g.ext0 a).ext0 d;have T:=s.mono (a0c.mono _) (a0k d);have t:=R.trans (c.trans (a.trans d));clear l m n o P Q O;go_wp2_with ((with_reducible refine c1J ?_);first|(refine a0a a0H rfl rfl d2 rfl rfl a3a ?_;intro w8 r1 Z;have M:=d3.ext Z (a0b (by omega)))|(refine a0a a0H rfl rfl M rfl rfl a3a ?_;intro w9 r3 r4))
   have r5:=r1.ext r4 (a0b (by omega));have h8:=((T.mono (a0c.mono _) (a0h Z (by omega) (by omega))).mono (a0c.mono _) (a0h r4 (by omega) (by omega))).mono (a0c.mono _) a0l;exact bodyPost_ret (a5V rfl rfl rfl a0H r5 rfl r3 rfl) rfl ⟨ExtX.box (ExtX.box t Z (by omega)) r4 (by omega),_,_,_,_,_,rfl,s6,K,L,Y,rfl,r,j,h8⟩
  ·
   go_wp2_with fail
   refine(a1V (a0f X b 4) w5 true qu _ H b9).mono ?_;rintro e w6 ⟨a,u6,rfl,s6,K,L,Y,rfl,r,j,s⟩;rw[J.out]at j;go_wp2_with fail
   refine(a1V (a0f X b 4) w6 false _ 0 (H.ext a) (mkx NC.mono ⟨a5,c5,[],rfl,F,q,G⟩ a)).mono ?_;rintro e w7 ⟨d,u7,rfl,s7,a7,c7,l7,rfl,O,P,Q⟩;have d2:=(f.ext0 a).ext0 d;have d3:=(g.ext0 a).ext0 d;have T:=s.mono (a0c.mono _) (a0k d);have t:=R.trans (c.trans (a.trans d));clear l m n o P Q O;go_wp2_with ((with_reducible refine c1J ?_);first|(refine a0a a0H rfl rfl d2 rfl rfl a3a ?_;intro w8 r1 Z;have M:=d3.ext Z (a0b (by omega)))|(refine a0a a0H rfl rfl M rfl rfl a3a ?_;intro w9 r3 r4))
   have r5:=r1.ext r4 (a0b (by omega));have h8:=((T.mono (a0c.mono _) (a0h Z (by omega) (by omega))).mono (a0c.mono _) (a0h r4 (by omega) (by omega))).mono (a0c.mono _) a0l;exact bodyPost_ret (a5V rfl rfl rfl a0H r5 rfl r3 rfl) rfl ⟨ExtX.box (ExtX.box t Z (by omega)) r4 (by omega),_,_,_,_,_,rfl,s6,K,L,Y,rfl,r,j,h8⟩
def b6v(a b:Int):Int:=if a<b then -1 else if b<a then 1 else 0
theorem b7w(x y:Int):(x.sign<y.sign->b6v x y= -1)/\(y.sign<x.sign->b6v x y=1)/\(x.sign=y.sign->x.sign*a3f x.natAbs y.natAbs=b6v x y):=by
 have hs:∀z:Int,(z<0/\z.sign= -1)\/(z=0/\z.sign=0)\/(0<z/\z.sign=1):=fun z=>by
  rcases Int.lt_trichotomy z 0 with h|h|h
  ·exact .inl ⟨h,Int.sign_eq_neg_one_of_neg h⟩
  ·subst h;exact .inr (.inl ⟨rfl,rfl⟩)
  ·exact .inr (.inr ⟨h,Int.sign_eq_one_of_pos h⟩)
 unfold b6v a3f;rcases hs x with⟨h1,e1⟩|⟨h1,e1⟩|⟨h1,e1⟩<;>rcases hs y with⟨h2,e2⟩|⟨h2,e2⟩|⟨h2,e2⟩<;>rw[e1,e2]
 all_goals refine⟨fun h=>?_,fun h=>?_,fun h=>?_⟩
 all_goals first
  |omega
  |(repeat' split)<;>omega
theorem c0u(X:Nat->Bool)(w:World)(v:Int)(C:HX X w)(I: -9223372036854775808<=v)(J:v<=9223372036854775807):Calls Tryz.prog 74 #[.int .i64 v] w (a2b X w ZC v):=by
 obtain⟨W,K,A,o,hz⟩:=a0Y w #[.bool false,.slice none 0 0] 45;have d:HX (a0f X w.heap.size 1) W:=C.boxes hz;obtain⟨b,D⟩:=c1F w.heap.size;have E:w.heap.size<=b:=by omega
 rw[D]at o hz d;have r:Hid (v.natAbs<18446744073709551616):=hid (by omega);by_cases L:v<0
 ·have B:Hid (sg true v.natAbs=v):=hid (by unfold sg;simp;omega)
  have s:Hid (IntKind.u64.wrap (-(IntKind.u64.wrap v))=(v.natAbs:Int)):=hid (by rw[IntKind.wrap_u64,IntKind.wrap_u64];omega);go_enter Tryz.func74,Tryz.ntmps74
  go_wp2_with fail
  rw[s.out];refine(b9d (X:=a0f X b 1) d r.out).mono ?_;rintro e z ⟨a,y,rfl,j⟩;go_wp2_with fail
  refine(a2R (a0f X b 1) z true y _ (d.ext a) j).mono ?_;rintro e G ⟨c,F,rfl,x,m,p,t,rfl,h,f,i⟩;rw[B.out]at f;have g:=(o.ext0 a).ext0 c;go_wp2_with ((with_reducible refine c1J ?_);refine a0a a0H rfl rfl g rfl rfl a3a ?_;intro H u l)
  have q:=(i.mono (a0c.mono _) (a0h l (by omega) (by omega))).mono (a0c.mono _) a0l;exact bodyPost_ret (a0d rfl rfl a0H u rfl) rfl ⟨ExtX.box (A.trans (a.trans c)) l (by omega),_,rfl,x,m,p,t,rfl,h,f,q⟩
 ·obtain⟨n,rfl⟩:=Int.eq_ofNat_of_zero_le (show 0<=v by omega)
  have B:Hid (sg false n=(n:Int)):=hid rfl;have k:Hid (n<18446744073709551616):=hid (by omega);go_enter Tryz.func74,Tryz.ntmps74
  go_wp2_with fail
  refine(b9d (X:=a0f X b 1) d k.out).mono ?_;rintro e z ⟨a,y,rfl,j⟩;go_wp2_with fail
  refine(a2R (a0f X b 1) z false y n (d.ext a) j).mono ?_;rintro e G ⟨c,F,rfl,x,m,p,t,rfl,h,f,i⟩;have g:=(o.ext0 a).ext0 c;go_wp2_with ((with_reducible refine c1J ?_);refine a0a a0H rfl rfl g rfl rfl a3a ?_;intro H u l)
  have q:=(i.mono (a0c.mono _) (a0h l (by omega) (by omega))).mono (a0c.mono _) a0l;exact bodyPost_ret (a0d rfl rfl a0H u rfl) rfl ⟨ExtX.box (A.trans (a.trans c)) l (by omega),_,rfl,x,m,p,t,rfl,h,f,q⟩
theorem b4R(X:Nat->Bool)(w:World)(u v:Value)(x y:Int)(hX:HX X w)(hu:ZV (mk X w) u x)(hv:ZV (mk X w) v y):Calls Tryz.prog 140 #[u,v] w (a4A w (b6v x y)):=by
 have T:=hid hu.lg;have U:=hid hv.lg;obtain⟨s1,a1,c1,l1,rfl,f0⟩:=id hu;obtain⟨s2,a2,c2,l2,rfl,f1⟩:=id hv;obtain⟨W,hW,hE,s,q,hz⟩:=a1K w #[.bool s1,.slice a1 l1.length c1] #[.bool s2,.slice a2 l2.length c2] 45 45;have R:HX (a0f X w.heap.size 2) W:=hX.boxes hz;have M:=ZV.mono _ _ _ _ (a0i (nb:=2) hE) hu;have N:=ZV.mono _ _ _ _ (a0i (nb:=2) hE) hv;obtain⟨b,hb⟩:=c1F w.heap.size;have e4:w.heap.size<=b:=by omega
 rw[hb]at s q hz R M N;have c:=c1L W;have g:HX (a0f X b 2) W.drew:=R;have a8:ZV (mk (a0f X b 2) W.drew) (.agg #[.bool s1,.slice a1 l1.length c1]) x:=M;have a9:ZV (mk (a0f X b 2) W.drew) (.agg #[.bool s2,.slice a2 l2.length c2]) y:=N;have i:=s.cell 0 rfl;have j:=s.cell 1 rfl;have k:=q.cell 0 rfl;have l:=q.cell 1 rfl;clear hu hv f0 f1;go_enter Tryz.func140,Tryz.ntmps140
 go_upto_region 1 with(fail)
 go_cut []from 7 to 10 (fun wx=>∃s3 D G O s4 E H P,Bx wx b #[.bool s3,.slice D O G] 45/\Bx wx (b+1) #[.bool s4,.slice E P H] 45/\ZC (mk (a0f X b 2) wx) (.agg #[.bool s3,.slice D O G]) x/\ZC (mk (a0f X b 2) wx) (.agg #[.bool s4,.slice E P H]) y/\Ext w wx)
 case first=>
  go_region_with (first|(go_at_call 121;(with_reducible refine(a5U (a0f X b 2) W.drew _ x g a8).mono ?_);rintro e w5 ⟨a,u5,rfl,s5,a5,c5,l5,rfl,d6,d7,d8⟩;have b5:=s.ext0 (c.trans a);have F:=q.ext0 (c.trans a);have b6:=F.cell 0 rfl;have b7:=F.cell 1 rfl)|(go_at_call 121;(with_reducible refine(a5U (a0f X b 2) w5 _ y (HX.ext g a) (mkx ZV.mono a9 a)).mono ?_);rintro e w6 ⟨d,u6,rfl,s6,a6,c6,l6,rfl,d9,e0,e1⟩;have m:=b5.ext0 d;have n:=F.ext0 d;have c8:=m.cell 0 rfl;have c9:=m.cell 1 rfl;have d0:=n.cell 0 rfl;have d1:=n.cell 1 rfl;have b8:=m.frozen 0;have b9:=m.frozen 1;have c0:=n.frozen 0;have c7:=n.frozen 1))
  all_goals
   obtain⟨wf,b2,q0,q1,q2,q3,q4⟩:=a2y (X:=X) (nb:=2) m n (hE.trans ((c.trans a).trans d)) e4 (by omega) (.bool s5) (.slice a5 l5.length c5) (.bool s6) (.slice a6 l6.length c6);rw[b2];have e6:ZC (mk (a0f X b 2) wf) (.agg #[.bool s5,.slice a5 l5.length c5]) x:=⟨s5,a5,c5,l5,rfl,d6,d7,(d8.mono (a0c.mono _) (a0k d)).mono (a0c.mono _) q4⟩;have e7:ZC (mk (a0f X b 2) wf) (.agg #[.bool s6,.slice a6 l6.length c6]) y:=⟨s6,a6,c6,l6,rfl,d9,e0,e1.mono (a0c.mono _) q4⟩;clear b6 b7 c8 c9 d0 d1 b8 b9 c0 c7 i j k l b2;go_wp2_with fail
   go_meet
   exact⟨_,_,_,_,_,_,_,_,q0,q1,e6,e7,q3⟩
 case rest=>
  clear i j k l s q M N a8 a9 g c hW;obtain⟨s3,D,G,n3,s4,E,H,n4,s,q,hx,hy,Q⟩:=hcut;have b3:=hx.zv T.out;have b4:=hy.zv U.out;obtain⟨_,_,_,O,o,d2,t,d3⟩:=hx;simp only[Value.agg.injEq,Array.mk.injEq,List.cons.injEq,Value.bool.injEq,Value.slice.injEq,and_true]at o;obtain⟨rfl,rfl,rfl,rfl⟩:=o;obtain⟨_,_,_,P,o,d4,A,d5⟩:=hy;simp only[Value.agg.injEq,Array.mk.injEq,List.cons.injEq,Value.bool.injEq,Value.slice.injEq,and_true]at o;obtain⟨rfl,rfl,rfl,rfl⟩:=o;have e9:=hid (a4b t);have e8:=hid (a4b A);have K:=hid t.1;have L:=hid A.1;have c:=c1L wc;have V:NV (mk (a0f X b 2) wc) (.slice D O.length G) x.natAbs:=NC.nv ⟨D,G,O,rfl,d2,t.2,d3⟩ (by have:=T.out;omega);have Z:NV (mk (a0f X b 2) wc) (.slice E P.length H) y.natAbs:=NC.nv ⟨E,H,P,rfl,d4,A.2,d5⟩ (by have:=U.out;omega);have f5:w.heap.size+2<=wc.heap.size:=by have:=q.lt;omega
  have e3:HX (a0f X b 2) wc:=hX.boxes' Q (by omega) f5;have r:=hid (And.intro s q);have i:=s.cell 0 rfl;have j:=s.cell 1 rfl;have k:=q.cell 0 rfl;have l:=q.cell 1 rfl;have J:=hid (b7w x y);have a7:Hid (∀z:Int,z.sign= -1\/z.sign=0\/z.sign=1):=hid (fun z=>by
   rcases Int.lt_trichotomy z 0 with h|h|h
   ·exact .inl (Int.sign_eq_neg_one_of_neg h)
   ·subst h;exact .inr (.inl rfl)
   ·exact .inr (.inr (Int.sign_eq_one_of_pos h)))
  clear K L e9 e8 t A;have g:HX (a0f X b 2) wc.drew:=e3;have B:ZV (mk (a0f X b 2) wc.drew) (.agg #[.bool s3,.slice D O.length G]) x:=b3;have C:ZV (mk (a0f X b 2) wc.drew) (.agg #[.bool s4,.slice E P.length H]) y:=b4;go_wp2_with fail
  go_region_held3 (fun w'=>w'.cell? ⟨b,0,none⟩=some (.bool s3)/\w'.cell? ⟨b,1,none⟩=some (.slice D O.length G)/\w'.cell? ⟨b+1,0,none⟩=some (.bool s4)/\w'.cell? ⟨b+1,1,none⟩=some (.slice E P.length H))
   (first|exact⟨(r.out.1.ext0 (c.trans a)).cell 0 rfl,(r.out.1.ext0 (c.trans a)).cell 1 rfl,(r.out.2.ext0 (c.trans a)).cell 0 rfl,(r.out.2.ext0 (c.trans a)).cell 1 rfl⟩|exact⟨(r.out.1.ext0 (c.trans (a.trans d))).cell 0 rfl,(r.out.1.ext0 (c.trans (a.trans d))).cell 1 rfl,(r.out.2.ext0 (c.trans (a.trans d))).cell 0 rfl,(r.out.2.ext0 (c.trans (a.trans d))).cell 1 rfl⟩|go_keep)
   (first|(go_at_call 72;(with_reducible refine(b1w (a0f X b 2) wc.drew _ x g B).mono ?_);rintro e w5 ⟨a,rfl⟩)|(go_at_call 72;(with_reducible refine(b1w (a0f X b 2) w5 _ y (HX.ext g a) (mkx ZV.mono C a)).mono ?_);rintro e w6 ⟨d,rfl⟩))
  have f:Ext wc w6:=c.trans (a.trans d);have q0:=r.out.1.ext0 f;have q1:=r.out.2.ext0 f;have Y:=mkx NV.mono V f;have a0:=mkx NV.mono Z f;have I:=Q.trans f;clear i j k l a d c g B C b3 b4 V Z;have i:=q0.cell 0 rfl;have j:=q0.cell 1 rfl;have k:=q1.cell 0 rfl;have l:=q1.cell 1 rfl;have f2:=a7.out x;have f4:=a7.out y;have f3:=hid (show x.sign=x.sign from rfl);generalize K:x.sign=p at*;generalize L:y.sign=sy at*;clear f3 K L;have f6: -1<=p/\p<=1:=by omega
  have f7: -1<=sy/\sy<=1:=by omega
  clear f2 f4;by_cases h1:p<sy
  ·have S:=hid (J.out.1 h1)
   go_wp2_with fail
   go_ret
   exact⟨I,a0N S.out.symm⟩
  ·by_cases h2:sy<p
   ·have S:=hid (J.out.2.1 h2)
    go_wp2_with fail
    go_ret
    exact⟨I,a0N S.out.symm⟩
   ·have S:=hid (J.out.2.2 (by omega))
    go_wp2_with fail
    refine(c0i Y a0).mono ?_;rintro e w7 ⟨e2,rfl⟩;have f8: -1<=a3f x.natAbs y.natAbs/\a3f x.natAbs y.natAbs<=1:=by unfold a3f;split<;>(try split)<;>omega
    generalize a3f x.natAbs y.natAbs=cm at*;have f9: -1<=p*cm/\p*cm<=1:=by
     rcases(by omega:p= -1\/p=0\/p=1)with rfl|rfl|rfl<;>omega
    have g0:IntKind.i64.wrap (p*cm)=p*cm:=IntWalk.i64_in _ (by omega);clear i j k l;go_wp2_with fail
    go_ret
    exact⟨I.trans e2,a0N S.out⟩
def QV(h:Mem)(u:Value)(q:Rat):Prop:=∃s ao c m bo e d,u=.agg #[.bool s,.slice ao m.length c,.slice bo d.length e]/\m.length<=c/\d.length<=e/\Dig m/\Dig d/\m.length<=68719476736/\d.length<=68719476736/\Sl (a0c .u32) 1 h ao m/\Sl (a0c .u32) 1 h bo d/\b2y s m d=q
def QC(h:Mem)(u:Value)(q:Rat):Prop:=∃s ao c m bo e d,u=.agg #[.bool s,.slice ao m.length c,.slice bo d.length e]/\m.length<=c/\d.length<=e/\a7b s m d q/\Sl (a0c .u32) 1 h ao m/\Sl (a0c .u32) 1 h bo d
theorem QV.mono:a3K QV:=by rintro h q u x a ⟨s,ao,c,m,b,e,d,rfl,f,g,i,j,k,l,n,o,p⟩;exact⟨s,ao,c,m,b,e,d,rfl,f,g,i,j,k,l,n.mono (a0c.mono _) a,o.mono (a0c.mono _) a,p⟩
theorem QC.mono:a3K QC:=by rintro h l u x a ⟨s,ao,c,m,b,e,d,rfl,f,g,i,j,k⟩;exact⟨s,ao,c,m,b,e,d,rfl,f,g,i,j.mono (a0c.mono _) a,k.mono (a0c.mono _) a⟩
theorem b2R(q:Rat):lg (dn q)<=hq q:=b7a q
theorem QC.qv{h:Mem}{u:Value}{q:Rat}(k:QC h u q)(o:hq q<=68719476736):QV h u q:=by
 obtain⟨s,ao,c,m,b,e,d,rfl,f,g,a,i,j⟩:=k;have l:=a0G q;have n:=b2R q;exact⟨s,ao,c,m,b,e,d,rfl,f,g,a.1.2.1,a.2.1,by rw[a.1.len];omega,by rw[a.2.len];omega,i,j,a.val⟩
theorem QC.zero(h:Mem):QC h (.agg #[.bool false,.slice none 0 0,.slice none 0 0]) 0:=⟨false,none,0,[],none,0,[],rfl,c1B _,c1B _,a7b.zero,Sl.nil _ _ _ _,Sl.nil _ _ _ _⟩
theorem QV.hq{h:Mem}{u:Value}{q:Rat}(i:QV h u q):hq q<=68719476736:=by
 obtain⟨s,ao,c,m,j,e,d,rfl,k,l,a,b,f,g,n,o,rfl⟩:=i;exact a9v s m d _ a b f g (by omega)
theorem QV.elem:Elem QV 3:=⟨QV.mono,by rintro h u x ⟨s,ao,c,m,b,e,d,rfl,_⟩;rfl,by
 rintro h u x ⟨s,ao,c,m,b,e,d,rfl,_⟩ v a;simp[a0g,Value.cells]at a;rcases a with rfl|rfl|rfl<;>rfl,by decide⟩
theorem QC.elem:Elem QC 3:=⟨QC.mono,by rintro h u x ⟨s,ao,c,m,b,e,d,rfl,_⟩;rfl,by
 rintro h u x ⟨s,ao,c,m,b,e,d,rfl,_⟩ v a;simp[a0g,Value.cells]at a;rcases a with rfl|rfl|rfl<;>rfl,by decide⟩
theorem QC.num{h:Mem}{s:Bool}{ao f:Option Addr}{n c k e:Nat}{q:Rat}(o:QC h (.agg #[.bool s,.slice ao n c,.slice f k e]) q):ZC h (.agg #[.bool s,.slice ao n c]) q.num/\NC h (.slice ao n c) q.num.natAbs/\NC h (.slice f k e) (dn q):=by
 obtain⟨_,_,_,m,_,_,d,a,g,j,b,i,l⟩:=o;simp only[Value.agg.injEq,Array.mk.injEq,List.cons.injEq,Value.bool.injEq,Value.slice.injEq,and_true]at a;obtain⟨rfl,⟨rfl,rfl,rfl⟩,rfl,rfl,rfl⟩:=a;exact⟨⟨_,_,_,_,rfl,g,b.1,i⟩,⟨_,_,_,rfl,g,b.1.2,i⟩,⟨_,_,_,rfl,j,b.2,l⟩⟩
theorem QC.shape{h:Mem}{u:Value}{q:Rat}(b:QC h u q):∃s ao n c a k e,u=.agg #[.bool s,.slice ao n c,.slice a k e]:=by
 obtain⟨s,ao,c,m,a,e,d,rfl,_⟩:=b;exact⟨_,_,_,_,_,_,_,rfl⟩
theorem QV.shape{h:Mem}{u:Value}{q:Rat}(b:QV h u q):∃s ao n c a k e,u=.agg #[.bool s,.slice ao n c,.slice a k e]:=by
 obtain⟨s,ao,c,m,a,e,d,rfl,_⟩:=b;exact⟨_,_,_,_,_,_,_,rfl⟩
theorem QC.of{h:Mem}{s:Bool}{ao b:Option Addr}{n c k e:Nat}{q:Rat}(p:ZC h (.agg #[.bool s,.slice ao n c]) q.num)(r:NC h (.slice b k e) (dn q)):QC h (.agg #[.bool s,.slice ao n c,.slice b k e]) q:=by
 obtain⟨_,_,_,m,a,f,g,i⟩:=p;simp only[Value.agg.injEq,Array.mk.injEq,List.cons.injEq,Value.bool.injEq,Value.slice.injEq,and_true]at a;obtain⟨rfl,rfl,rfl,rfl⟩:=a;obtain⟨_,_,d,a,j,l,o⟩:=r;simp only[Value.slice.injEq]at a;obtain⟨rfl,rfl,rfl⟩:=a;exact⟨_,_,_,_,_,_,_,rfl,f,j,⟨g,l⟩,i,o⟩
theorem NC.len0{h:Mem}{ao:Option Addr}{n c k:Nat}(e:NC h (.slice ao n c) k):n=0↔k=0:=by
 obtain⟨_,_,d,a,f,b,g⟩:=e;simp only[Value.slice.injEq]at a;obtain⟨rfl,rfl,rfl⟩:=a;exact a1r b
theorem a4d(q:Rat):dn q=0↔q.den=1:=by
 unfold dn;split
 ·simp[*]
 ·have:=q.den_nz;omega
theorem a0p:a1M Tryz.prog 47 3:=by
 have h:(Tryz.prog.info? 47).map (fun i=>(i.zero,i.size,i.bytes))=some (some (.agg #[.bool false,.slice none 0 0,.slice none 0 0]),3,56):=by kernel_rfl
 obtain⟨ti,a,_,b,_⟩:=info_parts h;exact⟨_,ti,Tryz.underlying47,a,b⟩
theorem a1s{s:Bool}{ao b:Option Addr}{n c k e:Nat}:∀v∈(#[Value.bool s,.slice ao n c,.slice b k e]:Array Value).toList,v.oneCell'=true:=by
 intro v a;simp at a;rcases a with rfl|rfl|rfl<;>rfl
theorem c0k(X:Nat->Bool)(w:World)(b:HX X w):Calls Tryz.prog 128 #[] w (a2b X w NC 1):=by
 have h:=NC.lit b 1 114 (by omega) (by omega);have a:Ext w (w.alloc (.cells #[.int .u32 ((1:Nat):Int)] 114)):=(ExtX.refl w).alloc _;go_enter Tryz.func128,Tryz.ntmps128
 go_wp2_with fail
 go_ret
 exact⟨a,_,rfl,h⟩
theorem a9p(X:Nat->Bool)(w:World)(u:Value)(q:Rat)(r:HX X w)(o:QC (mk X w) u q):Calls Tryz.prog 78 #[u] w (a2b X w NC q.den):=by
 obtain⟨s,ao,n,c,p,k,e,rfl⟩:=o.shape;obtain⟨W,y,f,m,hz⟩:=a0Y w #[.bool s,.slice ao n c,.slice p k e] 47;have i:HX X W:=r.ext f;have hd:=mkx NC.mono o.num.2.2 f;have a:=hd.len0;rw[a4d]at a;obtain⟨b,t⟩:=c1F w.heap.size;rw[t]at m hz;have v:=m.cell 2 rfl;by_cases d:k=0
 ·have j:=hid (a.1 d)
  subst d;clear a hd;go_enter Tryz.func78,Tryz.ntmps78
  go_wp2_with fail
  refine(c0k X W i).mono ?_;rintro e A ⟨g,z,rfl,l⟩;go_wp2_with fail
  go_ret
  exact⟨f.trans g,_,rfl,by rw[j.out];exact l⟩
 ·have j:Hid (dn q=q.den):=hid (by unfold dn;rw[if_neg (fun h=>d (a.2 h))])
  have x:((k:Int)==0)=false:=a2C (by omega);clear a d;go_enter Tryz.func78,Tryz.ntmps78
  go_wp2_with fail
  go_ret
  exact⟨f,_,rfl,by rw[<-j.out];exact hd⟩
theorem QV.agg:∀h u y,QV h u y->∃a,u=.agg a:=by rintro h u x ⟨s,ao,c,m,b,e,d,rfl,_⟩;exact⟨_,rfl⟩
theorem QC.agg:∀h u y,QC h u y->∃a,u=.agg a:=by rintro h u x ⟨s,ao,c,m,b,e,d,rfl,_⟩;exact⟨_,rfl⟩
def b0G(R:Mem->Value->Rat->Prop):Prop:=∀h u q,R h u q->∃s ao n c bo k e,u=.agg #[.bool s,.slice ao n c,.slice bo k e]
theorem QC.shaped:b0G QC:=fun _ _ _ h=>h.shape
theorem QV.shaped:b0G QV:=fun _ _ _ h=>h.shape
theorem Sl.rat{R:Mem->Value->Rat->Prop}(t:b0G R){X:Nat->Bool}{w:World}{ao:Option Addr}{l:List Rat}(s:Sl R 3 (mk X w) ao l)(i:Nat)(v:i<l.length):∃g o sg a n c d k e,adr ao (i*3)=⟨g,o,none⟩/\X g=false/\Hid (∀Y W',ExtX Y w W'->Y g=false->W'.cell? ⟨g,o,none⟩=some (.bool sg)/\W'.cell? ⟨g,o+1,none⟩=some (.slice a n c)/\W'.cell? ⟨g,o+2,none⟩=some (.slice d k e))/\R (mk X w) (.agg #[.bool sg,.slice a n c,.slice d k e]) l[i]:=by
 obtain⟨u,y,b,m⟩:=s.2 i v;obtain⟨sg,a,n,c,d,k,e,rfl⟩:=t _ _ _ m;have j:=b 0 (by simp[Value.cells]);have p:=b 1 (by simp[Value.cells]);have q:=b 2 (by simp[Value.cells]);refine⟨(adr ao (i*3)).block,(adr ao (i*3)).off,sg,a,n,c,d,k,e,rfl,?_,hid fun Y W' f h=>⟨?_,?_,?_⟩,m⟩
 ·cases x:X (adr ao (i*3)).block
  ·rfl
  ·have r:mk X w (adr ao (i*3))=some (.bool sg):=j
   simp[mk,x]at r
 ·exact f.cellY (a1H j) h
 ·exact f.cellY (a1H p) h
 ·exact f.cellY (a1H q) h
abbrev RC:Mem->Value->List Rat->Prop:=SlV QC 3
abbrev RV:Mem->Value->List Rat->Prop:=SlV QV 3
abbrev MC:Mem->Value->List (List Rat)->Prop:=SlV RC 1
abbrev MV:Mem->Value->List (List Rat)->Prop:=SlV RV 1
theorem RC.mono:a3K RC:=SlV.mono QC.mono 3
theorem RV.mono:a3K RV:=SlV.mono QV.mono 3
theorem MC.mono:a3K MC:=SlV.mono RC.mono 1
theorem MV.mono:a3K MV:=SlV.mono RV.mono 1
theorem RC.elem:Elem RC 1:=SlV.elem QC.elem
theorem RV.elem:Elem RV 1:=SlV.elem QV.elem
def BR(B:Nat)(l:List Rat):Prop:=∀q∈l,hq q<=B
def BM(B:Nat)(m:List (List Rat)):Prop:=∀r∈m,BR B r
theorem Sl.qv{h:Mem}{ao:Option Addr}{l:List Rat}(s:Sl QC 3 h ao l)(d:BR 68719476736 l):Sl QV 3 h ao l:=
 ⟨s.1,fun i e=>let ⟨u,a,b,c⟩:=s.2 i e;⟨u,a,b,c.qv (d _ (c1E _))⟩⟩
theorem RC.rv{h:Mem}{u:Value}{l:List Rat}(s:RC h u l)(d:BR 68719476736 l):RV h u l:=by
 obtain⟨ao,c,rfl,a,b⟩:=s;exact⟨ao,c,rfl,a,b.qv d⟩
theorem MC.mv{h:Mem}{u:Value}{m:List (List Rat)}(s:MC h u m)(e:BM 68719476736 m):MV h u m:=by
 obtain⟨ao,c,rfl,a,b,d⟩:=s;exact⟨ao,c,rfl,a,b,fun i f=>let ⟨u,g,j,k⟩:=d i f;⟨u,g,j,RC.rv k (e _ (c1E _))⟩⟩
theorem Sl.row{R:Mem->Value->Rat->Prop}{X:Nat->Bool}{w:World}{ao:Option Addr}{m:List (List Rat)}(s:Sl (SlV R 3) 1 (mk X w) ao m)(i:Nat)(h:i<m.length):∃a c,X (adr ao i).block=false/\Hid (∀Y W',ExtX Y w W'->Y (adr ao i).block=false->W'.cell? (adr ao i)=some (.slice a m[i].length c))/\m[i].length<=c/\Sl R 3 (mk X w) a m[i]:=by
 obtain⟨u,b,a,c,rfl,d,e⟩:=s.cell SlV.one i h;refine⟨a,c,?_,hid fun Y W' f g=>f.cellY (a1H b) g,d,e⟩;cases j:X (adr ao i).block
 ·rfl
 ·simp[mk,j]at b
theorem a0x:SliceT Tryz.prog 24 47 3 56 (.agg #[.bool false,.slice none 0 0,.slice none 0 0]):=⟨Tryz.underlying24,by kernel_rfl⟩
theorem a0o:SliceT Tryz.prog 23 24 1 24 (.slice none 0 0):=⟨Tryz.underlying23,by kernel_rfl⟩
theorem b7x:(Tryz.prog.info? 24).map (fun i=>(i.zero,i.size,i.bytes))=some (some (.slice none 0 0),1,24):=by kernel_rfl
theorem a3L:TyI Tryz.prog 24 1:=let ⟨i,h,_,a,_⟩:=info_parts b7x;⟨i,h,a⟩
theorem a3C:TyI Tryz.prog 47 3:=let ⟨_,ti,_,a,b⟩:=a0p;⟨ti,a,b⟩
def a4q(l m:List Rat):Nat->Rat
 |0=>0
 |k+1=>a4q l m k+l.getD k 0*m.getD k 0
def a2S(l m:List Rat):Rat:=a4q l m l.length
theorem a6A(l m:List Rat)(k:Nat):a4q l m k=sm k fun q=>l.getD q 0*m.getD q 0:=by
 induction k with
 |zero=>rfl
 |succ k ih=>unfold a4q sm;rw[ih]
theorem b2S(l m:List Rat)(k:Nat):a4q l m k=a4q m l k:=by
 rw[a6A,a6A];exact a0q fun q _=>by grind
theorem b7y{l m:List Rat}{B:Nat}(hl:YtjmnhbebpffoaaaGreat.BR B l)(hm:YtjmnhbebpffoaaaGreat.BR B m)(hB:1<=B)(k:Nat):hq (a4q l m k)<=1+k*(2*B+1):=by
 have hg:∀(x:List Rat),YtjmnhbebpffoaaaGreat.BR B x->∀q,hq (x.getD q 0)<=B:=fun x hx q=>by
  by_cases h:q<x.length
  ·rw[List.getD_eq_getElem?_getD,List.getElem?_eq_getElem h];exact hx _ (c1E h)
  ·rw[List.getD_eq_getElem?_getD,List.getElem?_eq_none (by omega)]
   show hq 0<=B
   rw[a0U];exact hB
 induction k with
 |zero=>show hq 0<=_;rw[a0U];omega
 |succ k ih=>
  have h1:=hq_mul (l.getD k 0) (m.getD k 0);have h2:=a7p (a4q l m k) (l.getD k 0*m.getD k 0);have h3:=hg l hl k;have h4:=hg m hm k
  show hq (a4q l m k+l.getD k 0*m.getD k 0)<=_
  rw[Nat.add_mul,Nat.one_mul];omega
def trL(m:Mat)(n c:Nat):Mat:=(List.range c).map fun q=>(List.range n).map fun p=>ent m p q
def trN(m:Mat)(n c i j:Nat):Mat:=(List.range c).map fun q=>(List.range n).map fun p=>if p<i\/(p=i/\q<j)then ent m p q else 0
theorem b4S(m:Mat)(n c:Nat):trN m n c 0 0=List.replicate c (List.replicate n 0):=by
 refine List.ext_getElem (by simp[trN]) fun q a b=>List.ext_getElem (by simp[trN]) fun p d e=>by simp[trN]
theorem b4T(m:Mat)(n c i:Nat):trN m n c i c=trN m n c (i+1) 0:=by
 refine List.ext_getElem (by simp[trN]) fun q d e=>List.ext_getElem (by simp[trN]) fun p f g=>?_;simp[trN]at d;simp only[trN,List.getElem_map,List.getElem_range];by_cases a:p<i
 ·rw[if_pos (.inl a),if_pos (.inl (by omega))]
 ·by_cases b:p=i
  ·rw[if_pos (.inr ⟨b,by omega⟩),if_pos (.inl (by omega))]
  ·rw[if_neg (by omega),if_neg (by omega)]
theorem b4U(m:Mat)(n c:Nat):trN m n c n 0=trL m n c:=by
 refine List.ext_getElem (by simp[trN,trL]) fun q b d=>List.ext_getElem (by simp[trN,trL]) fun p a e=>?_;simp[trN]at a;simp only[trN,trL,List.getElem_map,List.getElem_range];rw[if_pos (.inl a)]
theorem b7z(m:Mat)(n c i j:Nat):(trN m n c i j).length=c:=by simp[trN]
theorem a7V(m:Mat)(n c i j q:Nat)(h:q<(trN m n c i j).length):(trN m n c i j)[q].length=n:=by simp[trN]
theorem b7A{m:Mat}{n c i j:Nat}(h:j<(trN m n c i j).length):(trN m n c i j).set j ((trN m n c i j)[j].set i (ent m i j))=trN m n c i (j+1):=by
 refine List.ext_getElem (by simp[trN]) fun q e f=>List.ext_getElem ?_ fun p g k=>?_
 ·rw[List.getElem_set];split<;>simp[trN]
 ·simp only[List.getElem_set]
  by_cases a:j=q
  ·subst a
   simp only[if_true,List.getElem_set];by_cases b:i=p
   ·subst b;simp[trN]
   ·rw[if_neg b]
    simp only[trN,List.getElem_map,List.getElem_range];by_cases d:p<i
    ·rw[if_pos (.inl d),if_pos (.inl d)]
    ·rw[if_neg (by omega),if_neg (by omega)]
  ·simp only[a,if_false]
   simp only[trN,List.getElem_map,List.getElem_range];by_cases d:p<i
   ·rw[if_pos (.inl d),if_pos (.inl d)]
   ·by_cases b:p=i/\q<j
    ·rw[if_pos (.inr b),if_pos (.inr (by omega))]
    ·rw[if_neg (by omega),if_neg (by omega)]
theorem a1B(m:Mat)(n c:Nat):Shp c n (trL m n c):=⟨by simp[trL],fun r a=>by
 obtain⟨q,_,rfl⟩:=List.mem_map.1 a;simp⟩
theorem a7W(m:Mat)(n c:Nat):Eqm c n (ent (trL m n c)) fun i j=>ent m j i:=fun i a j b=>by
 simp[ent,trL,List.getD_eq_getElem?_getD,a,b]
theorem b0H{m:Mat}{n c B:Nat}(h:HB B m):HB B (trL m n c):=fun i j=>by
 by_cases a:i<c
 ·by_cases b:j<n
  ·rw[a7W m n c i a j b];exact h j i
  ·rw[a1Y (a1B m n c) (.inr (by omega)),a0U];exact h.pos
 ·rw[a1Y (a1B m n c) (.inl (by omega)),a0U];exact h.pos
def a2w(m:Mat)(v:List Rat):List Rat:=m.map fun r=>a2S r v
def a6f(a b:Mat)(n c:Nat):Mat:=a.map fun r=>a2w (trL b n c) r
theorem a3d(m:Mat)(v:List Rat):(a2w m v).length=m.length:=by simp[a2w]
theorem b4V{a b:Mat}{k n c:Nat}(d:a.length=k):Shp k c (a6f a b n c):=⟨by simp[a6f,d],fun r e=>by
 obtain⟨x,_,rfl⟩:=List.mem_map.1 e;simp[a2w,trL]⟩
theorem b4W{a b:Mat}{k n c:Nat}(m:Shp k n a):Eqm k c (ent (a6f a b n c)) (mul n (ent a) (ent b)):=fun i o j e=>by
 have d:i<a.length:=by rw[m.1];exact o
 have h:ent (a6f a b n c) i j=a2S ((trL b n c).getD j []) (a[i]):=by
  unfold ent a6f;rw[List.getD_eq_getElem?_getD (l:=List.map _ _),List.getElem?_map,List.getElem?_eq_getElem d];have f:j<(trL b n c).length:=by simp[trL,e]
  simp[a2w,List.getD_eq_getElem?_getD,f]
 rw[h];unfold a2S;rw[(a1B b n c).row e,a6A];unfold mul;refine a0q fun q hq=>?_;have g:=a7W b n c j e q hq;unfold ent at g |-;rw[g,show a.getD i []=a[i]by simp[List.getD_eq_getElem?_getD,d]];grind
theorem a9D{m:Mat}{v:List Rat}{n c:Nat}(d:Shp n c m)(i:Nat)(f:i<n):(a2w m v).getD i 0=sm c fun j=>ent m i j*v.getD j 0:=by
 have a:i<m.length:=by rw[d.1];exact f
 have b:(m[i]).length=c:=d.2 _ (c1E _);have e:(a2w m v).getD i 0=a2S m[i] v:=by simp[a2w,List.getD_eq_getElem?_getD,a]
 rw[e];unfold a2S;rw[b,a6A];unfold ent;rw[show m.getD i []=m[i]by simp[List.getD_eq_getElem?_getD,a]]
noncomputable def b9i(m:Mat)(n:Nat):Rat:=if(eN m n).2.2 then - pr n (fun i=>ent (eN m n).1 i i)else pr n (fun i=>ent (eN m n).1 i i)
theorem a7X{n:Nat}{m:Mat}(b:n<=4)(e:Shp n n m):b9i m n=det n (ent m):=by
 have a:=a6c e n;have c:=a.ech.det b;have d:=a.re.det_same b;unfold b9i;rw[<-c,d];split<;>grind
noncomputable def a8E(m:Mat)(c:Nat):Nat:=(eN m c).2.1.length
theorem a8F(m:Mat)(c:Nat):a8E m c=(a0J m c).2.length:=rfl
theorem b2T{n:Nat}{m:Mat}(g:n<=4)(j:Shp n n m):a8E m n=n↔b9i m n≠0:=by
 rw[a7X g j,a8F];obtain⟨o,k,d,i⟩:=a1f j (c:=n);have b:=i.det_same g;have a:=k.det g;have l:=i.ne;by_cases e:(a0J m n).2.length=n
 ·rw[if_pos e]at a
  refine⟨fun _ h=>?_,fun _=>e⟩;rw[a,h]at b;grind
 ·rw[if_neg e]at a
  refine⟨fun h=>absurd h e,fun h=>?_⟩;rw[a]at b;rcases Rat.mul_eq_zero.1 b.symm with f|f
  ·exact absurd f l
  ·exact absurd f h
theorem a2j{α:Type}{R:Mem->Value->α->Prop}(d:a3K R){X:Nat->Bool}{w b:World}{oo:Option Addr}{u:Value}{x:α}(h:R (mk X w) u x)(c:Ext w b)(e:∀j,j<w.heap.size->ob oo j=false):R (mk (un X oo) b) u x:=
 d _ _ _ _ (a1g c (fun k _ a=>by simp[noY]at a) fun j a hz=>by simpa[un,e j a]using hz) h
section
variable {P:Program} {ops:Array Oper} {Q:Exit->Act->World->Prop} {a:Act} {w:World}
variable {α:Type} {R:Mem->Value->α->Prop} {sz:Nat} {X:Nat->Bool} {base:Nat} {e:TypeId} {ao:Option Addr} {cap:Nat} {l:List α}
theorem a1p{o:Oper}{K:Act->World->Prop}{E:Prop}{t j:Nat}{z:Value}{d:Array Value}{s x:Operand}(L:o.guard=none)(C:o.op=Op.call {callee:=Callee.builtin Builtin.append,args:=#[s,x],argTypes:=#[t,t]})(T:SliceT P t e sz j z)(D:z.cells.size=sz)(A:Elem R sz)(B:base<=w.heap.size)(J:∀k,X k=true->k<w.heap.size)(n:Nat)(O:l.length=n)(S:a.eval s=.slice ao n cap)(Y:a.eval x=.slice (some ⟨w.heap.size,0,none⟩) 1 1)(h:OL R sz X base e w ao cap l)(u:Value)(y:α)(p:d=u.cells)(V:R (mk (un X ao) w) u y)(f:(n+1)*j<=140737488355328)(q:n+1<=9223372036854775807)(I:∀c b r,OL R sz X base e r c b (l++[y])->ExtX (ob ao) w r->(c=ao\/∃g,c=some ⟨g,0,none⟩/\w.heap.size<=g)->K (a.put o.dst (.slice c (n+1) b)) r):if Region.wanted o (yielded ops a.tmps)=true then Oper.wp P o a (w.alloc (.cells d e)) K Q else E:=by
 have W:Region.wanted o (yielded ops a.tmps)=true:=by simp[Region.wanted,L]
 rw[if_pos W];subst O;have v:Ext w (w.alloc (.cells d e)):=(ExtX.refl w).alloc _;have U:w.heap.size+1=(w.alloc (.cells d e)).heap.size:=by simp
 obtain⟨c,b,r,F,G,H,m⟩:=(h.ext0 A v).run_append (P:=P) T D A (by omega) (fun k N=>by have:=J k N;omega) (some ⟨w.heap.size,0,none⟩) 1 [u] [y] (b6k w d e u p) rfl
  (fun i M _=>by
           have:i=0:=by simpa using M
           subst this;exact A.mono _ _ _ _ (a0k v) V) (by simpa using f) (by simpa using q) o.type
 unfold Oper.wp execOp;rw[C];simp only[resolve,invoke,builtin,Sem.run_bind,Sem.run_pure,Result.andThen_ok,List.map_toArray,List.map_cons,List.map_nil,S,Y];rw[show([y]:List α).length=1 from rfl]at F;rw[F];have:=I c b r G ((ExtX.of v).trans H) (by
  rcases m with m|⟨g,m,Z⟩
  ·exact .inl m
  ·exact .inr ⟨g,m,by omega⟩)
 rw[show(l++[y]).length=l.length+1 from by simp];exact this
end
theorem a7Y(a b:Nat):(a3f a b==0)=decide (a=b):=by
 rw[Bool.eq_iff_iff];simp only[beq_iff_eq,decide_eq_true_eq];exact b6Y a b
theorem b6w(X:Nat->Bool)(w:World)(s:Bool)(ao G:Option Addr)(c e:Nat)(m d:List Nat)(hX:HX X w)(hm:Sl (a0c .u32) 1 (mk X w) ao m)(hd:Sl (a0c .u32) 1 (mk X w) G d)(c4:m.length<=68719476736)(c2:d.length<=68719476736)(Y:Dig m)(S:Dig d)(b7:m.length<=c)(b3:d.length<=e):Calls Tryz.prog 122 #[.agg #[.bool s,.slice ao m.length c,.slice G d.length e]] w (a7U w (a1A s m d)):=by
 obtain⟨W,hW,y,E,hz⟩:=a0Y w #[.bool s,.slice ao m.length c,.slice G d.length e] 47;have a5:HX X W:=hX.ext y;have v:=hm.mono (a0c.mono _) (a0k y);have I:=hd.mono (a0c.mono _) (a0k y);obtain⟨b,hb⟩:=c1F w.heap.size;rw[hb]at E hz;have C:=E.cell 0 rfl;have D:=E.cell 1 rfl;have x:=E.cell 2 rfl;have g:Hid (a1A s m d=(a1v s m&&a1J d&&(decide (d.length=0)||(decide (0<m.length)&& !(nv d==1)&&(Nat.gcd (nv m) (nv d)==1))))):=hid rfl;clear hX hm hd hz;cases p:a1v s m
 ·have F:Hid (a1A s m d=false):=hid (by rw[g.out,p];rfl)
  have l:=hid p;clear p g;go_enter Tryz.func122,Tryz.ntmps122
  go_wp2_with fail
  refine(a7r X W s ao c m v (by omega)).mono ?_;rintro e q ⟨a,rfl⟩;rw[l.out];clear C D x;go_wp2_with fail
  go_ret
  exact⟨y.trans a,a0m F.out.symm⟩
 ·cases K:a1J d
  ·have F:Hid (a1A s m d=false):=hid (by rw[g.out,p,K];rfl)
   have l:=hid p;have u:=hid K;clear p g K;go_enter Tryz.func122,Tryz.ntmps122
   go_wp2_with fail
   refine(a7r X W s ao c m v (by omega)).mono ?_;rintro e q ⟨a,rfl⟩;rw[l.out];have n:=(E.ext0 a).cell 2 rfl;have i:=I.mono (a0c.mono _) (a0k a);clear C D x;go_wp2_with fail
   refine(a2v X _ _ _ _ i (by omega)).mono ?_;rintro e w2 ⟨rfl,rfl⟩;rw[u.out];clear n;go_wp2_with fail
   go_ret
   exact⟨y.trans a,a0m F.out.symm⟩
  ·have F:Hid (a1A s m d=(decide (d.length=0)||(decide (0<m.length)&& !(nv d==1)&&(Nat.gcd (nv m) (nv d)==1)))):=hid (by rw[g.out,p,K];rfl)
   have l:=hid p;have u:=hid K;have a0:a1J m=true:=by unfold a1v at p;simp at p;exact p.1
   have a8:=hid (show a0M m (nv m)from⟨Y,a0,rfl⟩);have a7:=hid (show a0M d (nv d)from⟨S,K,rfl⟩);clear p g K a0;by_cases M:d.length=0
   ·have j:Hid (a1A s m d=true):=hid (by rw[F.out,decide_eq_true M];rfl)
    obtain rfl:d= []:=List.eq_nil_of_length_eq_zero M;clear M F;simp only[List.length_nil]at hW E x |-;go_enter Tryz.func122,Tryz.ntmps122
    go_wp2_with fail
    refine(a7r X W s ao c m v (by omega)).mono ?_;rintro e q ⟨a,rfl⟩;rw[l.out];have n:=(E.ext0 a).cell 2 rfl;have i:=I.mono (a0c.mono _) (a0k a);clear C D x;go_wp2_with fail
    refine(a2v X _ [] _ _ i (by simp)).mono ?_;rintro e w2 ⟨rfl,rfl⟩;rw[u.out];go_wp2_with fail
    go_ret
    exact⟨y.trans a,a0m j.out.symm⟩
   ·have c1:((d.length:Int)==0)=false:=a2C (by omega)
    have z:Hid (a1A s m d=(decide (0<m.length)&& !(nv d==1)&&(Nat.gcd (nv m) (nv d)==1))):=hid (by rw[F.out,decide_eq_false M];rfl);clear F;go_enter Tryz.func122,Tryz.ntmps122
    go_wp2_with fail
    refine(a7r X W s ao c m v (by omega)).mono ?_;rintro e' q ⟨a,rfl⟩;rw[l.out];have b1:=E.ext0 a;have n:=b1.cell 2 rfl;have B:=b1.cell 1 rfl;have i:=I.mono (a0c.mono _) (a0k a);have b4:=v.mono (a0c.mono _) (a0k a);have Q:=a5.ext a;have Z:NV (mk X q) (.slice ao m.length c) (nv m):=⟨ao,c,m,rfl,b7,Y,by omega,b4,by unfold val;rw[a0M.vl a8.out]⟩;have J:NV (mk X q) (.slice G d.length e) (nv d):=⟨G,e,d,rfl,b3,S,by omega,i,by unfold val;rw[a0M.vl a7.out]⟩;clear C D x;have N:=hid b1;have r:=c1L q;have a6:HX X q.drew:=Q;have T:NV (mk X q.drew) (.slice G d.length e) (nv d):=J;by_cases L:m.length=0
    ·have j:Hid (a1A s m d=false):=hid (by rw[z.out,decide_eq_false (by omega)];rfl)
     obtain rfl:m= []:=List.eq_nil_of_length_eq_zero L;clear z L M;simp only[List.length_nil]at b1 B N |-;go_wp2_with fail
     refine(a2v X _ _ _ _ i (by omega)).mono ?_;rintro e' w2 ⟨rfl,rfl⟩;rw[u.out];go_wp2_with fail
     try go_quiet (fail)
     go_wp2_with fail
     go_ret
     exact⟨y.trans (a.trans ((ExtX.refl q).drewN _)),a0m j.out.symm⟩
    ·have c3:((m.length:Int)==0)=false:=a2C (by omega)
     have A:Hid (a1A s m d=(!(nv d==1)&&(Nat.gcd (nv m) (nv d)==1))):=hid (by rw[z.out,decide_eq_true (by omega)];rfl);clear z L M;go_wp2_with fail
     refine(a2v X _ _ _ _ i (by omega)).mono ?_;rintro e' w2 ⟨rfl,rfl⟩;rw[u.out];go_wp2_with fail
     go_region_held3 (fun w'=>w'.cell? ⟨b,1,none⟩=some (.slice ao m.length c)/\w'.cell? ⟨b,2,none⟩=some (.slice G d.length e))
      (first|exact⟨(N.out.ext0 (r.trans k)).cell 1 rfl,(N.out.ext0 (r.trans k)).cell 2 rfl⟩|exact⟨(N.out.ext0 (r.trans (k.trans H))).cell 1 rfl,(N.out.ext0 (r.trans (k.trans H))).cell 2 rfl⟩|go_keep)
      (first|(go_at_call 128;(with_reducible refine(c0k X q.drew a6).mono ?_);rintro e5 w5 ⟨k,u5,rfl,b8⟩;have a1:=b8.nv (by rw[a3I];decide))|(go_at_call 127;(with_reducible refine(c0i (mkx NV.mono T k) a1).mono ?_);rintro e6 w6 ⟨H,rfl⟩))
     have f:=r.trans (k.trans H);have b6:=N.out.ext0 f;have b5:=mkx NV.mono Z f;have b2:=mkx NV.mono J f;have R:=Q.ext f;clear B n;have B:=b6.cell 1 rfl;have n:=b6.cell 2 rfl;rw[a7Y];by_cases o:nv d=1
     ·have j:Hid (a1A s m d=false):=hid (by rw[A.out,o];rfl)
      have t:decide (nv d=1)=true:=decide_eq_true o;rw[t];clear o t A;go_wp2_with fail
      go_ret
      exact⟨y.trans (a.trans f),a0m j.out.symm⟩
     ·have j:Hid (a1A s m d=decide (Nat.gcd (nv m) (nv d)=1)):=hid (by
       rw[A.out,Bool.eq_iff_iff];simp[o])
      have t:decide (nv d=1)=false:=decide_eq_false o;rw[t];clear o t A;go_wp2_with fail
      refine(c1d R b5 b2).mono ?_;rintro e7 w7 ⟨O,u7,rfl,b9⟩;have a4:=R.ext O;have U:lg (Nat.gcd (nv m) (nv d))<=1099511627776:=by
       have o:Nat.gcd (nv m) (nv d)<=nv d\/nv d=0:=by
        by_cases h:nv d=0
        ·exact .inr h
        ·exact .inl (Nat.gcd_le_right _ (by omega))
       rcases o with o|o
       ·exact c1A (a1l o) J.lg
       ·rw[o,Nat.gcd_zero_right];exact Z.lg
      have V:=hid U;clear B n U;go_wp2_with fail
      refine(c0k X w7 a4).mono ?_;rintro e8 w8 ⟨P,u8,rfl,c0⟩;have a2:=mkx NV.mono (b9.nv V.out) P;go_wp2_with fail
      refine(c0i a2 (c0.nv (by rw[a3I];decide))).mono ?_;rintro e9 w9 ⟨a3,rfl⟩;have a9:Hid ((a3f (Nat.gcd (nv m) (nv d)) 1==0)=a1A s m d):=hid (by rw[a7Y,j.out]);generalize a3f (Nat.gcd (nv m) (nv d)) 1=cc at*;go_wp2_with fail
      go_ret
      exact⟨y.trans (a.trans (f.trans (O.trans (P.trans a3)))),a0m a9.out⟩
theorem a4C(X:Nat->Bool)(w:World)(u:Value)(q:Rat)(M:HX X w)(O:QV (mk X w) u q):Calls Tryz.prog 73 #[u] w (a2b X w QC q):=by
 obtain⟨s,ao,c,m,o,e,d,rfl,A,B,C,D,H,I,K,L,rfl⟩:=O;obtain⟨W,R,r,n,t,hz⟩:=a1K w #[.bool s,.slice ao m.length c,.slice o d.length e] #[.bool false,.slice none 0 0,.slice none 0 0] 47 47;have l:HX (a0f X w.heap.size 2) W:=M.boxes hz;have g:Sl (a0c .u32) 1 (mk (a0f X w.heap.size 2) W) ao m:=K.mono (a0c.mono _) (a0i r);have h:Sl (a0c .u32) 1 (mk (a0f X w.heap.size 2) W) o d:=L.mono (a0c.mono _) (a0i r);obtain⟨b,N⟩:=c1F w.heap.size;rw[N]at n t hz g h l;have x:=n.cell 0 rfl;have y:=n.cell 1 rfl;have z:=n.cell 2 rfl;cases p:a1A s m d
 ·have G:=hid (a3S p)
  have i:=hid p;clear p;go_enter Tryz.func73,Tryz.ntmps73
  go_wp2_with fail
  refine(b6w (a0f X b 2) W s ao o c e m d l g h H I C D A B).mono ?_;rintro J P ⟨a,rfl⟩;rw[i.out];have k:=t.ext0 a;clear x y z;go_wp2_with ((with_reducible refine c1J ?_);refine a0a a0p rfl rfl k rfl rfl a1s ?_;intro Q v f)
  exact bodyPost_ret (a0d rfl rfl a0p v rfl) rfl ⟨ExtX.box (r.trans a) f (by omega),_,rfl,by rw[G.out];exact QC.zero _⟩
 ·have i:=hid p
  clear p;go_enter Tryz.func73,Tryz.ntmps73
  go_wp2_with fail
  refine(b6w (a0f X b 2) W s ao o c e m d l g h H I C D A B).mono ?_;rintro J P ⟨a,rfl⟩;rw[i.out];have j:=n.ext0 a;have k:=t.ext0 a;clear x y z;have x:=j.cell 0 rfl;have y:=j.cell 1 rfl;have z:=j.cell 2 rfl;go_wp2_with ((with_reducible refine c1J ?_);refine a0a a0p rfl rfl k rfl rfl a1s ?_;intro Q v f)
  have E:=((g.mono (a0c.mono _) (a0k a)).mono (a0c.mono _) (a0h f (by omega) (by omega))).mono (a0c.mono _) a0l;have F:=((h.mono (a0c.mono _) (a0k a)).mono (a0c.mono _) (a0h f (by omega) (by omega))).mono (a0c.mono _) a0l;exact bodyPost_ret (a0d rfl rfl a0p v rfl) rfl ⟨ExtX.box (r.trans a) f (by omega),_,rfl,s,ao,c,m,o,e,d,rfl,A,B,a7b.of_valid C D i.out,E,F⟩
theorem NC.asZ{M:Mem}{u:Value}{n:Nat}(f:NC M u n)(e:lg n<=549755813888):∃ao k c,u=.slice ao k c/\ZV M (.agg #[.bool false,.slice ao k c]) (n:Int):=by
 obtain⟨ao,c,l,rfl,b,a,d⟩:=f;refine⟨ao,_,c,rfl,false,ao,c,l,rfl,b,a.1,by rw[a.len];exact e,d,?_⟩;unfold a7H a1v;rw[a.2.1,a.2.2];simp
theorem a2n{X:Nat->Bool}{w a:World}{b nb:Nat}{t u v x y z:Value}{T U:TypeId}(l:Bx a b #[t,u,v] T)(m:Bx a (b+1) #[x,y,z] U)(n:Ext w a)(o:w.heap.size<=b)(A:2<=nb)(v0 v1 v2 u0 i j:Value):∃c,((((((a.setCell ⟨b,0,none⟩ v0).setCell ⟨b,1,none⟩ v1).setCell ⟨b,2,none⟩ v2).setCell ⟨b+1,0,none⟩ u0).setCell ⟨b+1,1,none⟩ i).setCell ⟨b+1,2,none⟩ j)=c/\Bx c b #[v0,v1,v2] T/\Bx c (b+1) #[u0,i,j] U/\(∀k f V,k≠b->k≠b+1->Bx a k f V->Bx c k f V)/\Ext w c/\Le (mk (a0f X b nb) a) (mk (a0f X b nb) c):=by
 obtain⟨r,d⟩:=l.set3 v0 v1 v2;have g:=m.ext d (a0b (by omega));obtain⟨s,e⟩:=g.set3 u0 i j;refine⟨_,rfl,r.ext e (a0b (by omega)),s,fun k f V p q h=>(h.ext d (a0b p)).ext e (a0b q),ExtX.box (ExtX.box n d o) e (by omega),(a0h d (c1B _) (by omega)).trans (a0h e (by omega) (by omega))⟩
theorem a5W(X:Nat->Bool)(w:World)(u v:Value)(x:Int)(n:Nat)(H:HX X w)(z:ZC (mk X w) u x)(J:NC (mk X w) v n)(A:lg x.natAbs<=549755813888)(y:lg n<=549755813888):Calls Tryz.prog 92 #[u,v] w (a2b X w ZC (x*n)):=by
 obtain⟨N,k,e,rfl,r⟩:=J.asZ y;have q:=z.zv A;obtain⟨s,ao,c,l,rfl,P,Q,R⟩:=z;obtain⟨W,S,p,h,t,hz⟩:=a1K w #[.bool s,.slice ao l.length c] #[.bool false,.slice none 0 0] 45 45;have d:HX (a0f X w.heap.size 2) W:=H.boxes hz;have f:=ZV.mono _ _ _ _ (a0i (nb:=2) p) q;have g:=ZV.mono _ _ _ _ (a0i (nb:=2) p) r;obtain⟨b,I⟩:=c1F w.heap.size;rw[I]at h t hz d f g;have D:=h.cell 0 rfl;have E:=h.cell 1 rfl;clear A y;go_enter Tryz.func92,Tryz.ntmps92
 go_wp2_with fail
 refine(c0j (a0f X b 2) W _ _ _ _ d f g).mono ?_;rintro O U ⟨a,T,rfl,M,C,F,K,rfl,j,m,o⟩;have i:=t.ext0 a;clear D E;go_wp2_with ((with_reducible refine c1J ?_);refine a0a a0H rfl rfl i rfl rfl a3a ?_;intro V L B)
 have G:=(o.mono (a0c.mono _) (a0h B (by omega) (by omega))).mono (a0c.mono _) a0l;exact bodyPost_ret (a0d rfl rfl a0H L rfl) rfl ⟨ExtX.box (p.trans a) B (by omega),_,rfl,M,C,F,K,rfl,j,m,G⟩
theorem a5F(X:Nat->Bool)(w:World)(u v:Value)(z:Int)(k:Nat)(hX:HX X w)(hu:ZC (mk X w) u z)(hv:NC (mk X w) v k)(hz:lg z.natAbs<=549755813888)(hk:lg k<=549755813888)(D:0<k):Calls Tryz.prog 76 #[u,v] w (a2b X w QC (mkRat z k)):=by
 obtain⟨s,ao,c,l,rfl,h1,Z,h3⟩:=hu;have U:=hv.nv (by omega:lg k<=1099511627776);obtain⟨bo,e,m,rfl,g1,g2,g3⟩:=hv;obtain⟨W,hW,hE,Y,b1,V⟩:=a1K w #[.bool s,.slice ao l.length c] #[.bool false,.slice none 0 0,.slice none 0 0] 45 47;have A:HX (a0f X w.heap.size 2) W:=hX.boxes V;have E:NV (mk (a0f X w.heap.size 2) W) (.slice ao l.length c) z.natAbs:=NC.nv ⟨ao,c,l,rfl,h1,Z.2,h3.mono (a0c.mono _) (a0i hE)⟩ (by omega);have F:=NV.mono _ _ _ _ (a0i (nb:=2) hE) U;obtain⟨b,hb⟩:=c1F w.heap.size;rw[hb]at Y b1 V A E F;have c1:=Y.cell 1 rfl;obtain⟨g,C⟩:=c1F (Nat.gcd z.natAbs k);have O:Hid (0<g):=hid (by rw[<-C];exact Nat.gcd_pos_of_pos_right _ D);have P:Hid (lg g<=1099511627776):=hid (by rw[<-C];exact c1A (a1l (Nat.gcd_le_right _ D)) (by omega));have q:=hid (fun(n d:List Nat) (hn:a0M n (z.natAbs/g)) (hd:a0M d (k/g))=>by
  have:=a7b.lowest (s:=s) (z:=z) (k:=k) (n:=n) (d:=d) (by omega) Z.1 (by rw[C];exact hn) (by rw[C];exact hd);rw[C]at this;exact this)
 have a1:Hid (lg (k/g)<=1099511627776):=hid (c1A (a1l (Nat.div_le_self _ _)) (by omega));have a2:=hid C;clear hz hk D Z g2 U C;go_enter Tryz.func76,Tryz.ntmps76
 go_wp2_with fail
 refine(c1d A E F).mono ?_;rintro e1 w1 ⟨h,ug,rfl,p⟩;rw[a2.out]at p;have K:=A.ext h;have r:=Y.ext0 h;have j0:=r.cell 0 rfl;have j1:=r.cell 1 rfl;clear c1;go_wp2_with fail
 refine(c1f K (mkx NV.mono E h) (p.nv P.out) O.out).mono ?_;rintro e2 w2 ⟨i,qu,ru,rfl,R,a3⟩;have L:=K.ext i;clear j0 j1;go_wp2_with fail
 refine(c1f L (mkx NV.mono F (h.trans i)) (mkx NV.mono (p.nv P.out) i) O.out).mono ?_;rintro e3 w3 ⟨t,du,a4,rfl,B,T⟩;have a0:=L.ext t;go_wp2_with fail
 refine(c0k (a0f X b 2) w3 a0).mono ?_;rintro e4 w4 ⟨j,ou,rfl,Q⟩;go_wp2_with fail
 refine(c0i (mkx NV.mono (B.nv a1.out) j) (Q.nv (by rw[a3I];decide))).mono ?_;rintro e5 w5 ⟨x,rfl⟩;have o:Hid ((a3f (k/g) 1==0)=decide (k/g=1)):=hid (a7Y _ _);have S:=mkx NC.mono R (t.trans (j.trans x));have M:=mkx NC.mono B (j.trans x);have y:=i.trans (t.trans (j.trans x));have H:=r.ext0 y;have I:=b1.ext0 (h.trans y);have j0:=H.cell 0 rfl;have j1:=H.cell 1 rfl;obtain⟨qa,qc,ql,rfl,q1,q2,q3⟩:=S;obtain⟨da,dc,dl,rfl,d1,d2,d3⟩:=M;have a:=hid (q.out ql dl q2 d2);have J:=hE.trans (h.trans y);clear R B a3 T Q p q q2 d2;by_cases f:k/g=1
 ·have N:=a.out
  rw[if_pos f]at N;have hI:(a3f (k/g) 1==0)=true:=by rw[o.out];exact decide_eq_true f
  generalize a3f (k/g) 1=cc at*;clear o f a;go_wp2_with ((with_reducible refine c1J ?_);refine a0a a0p rfl rfl I rfl rfl a1s ?_;intro w7 r1 G)
  have h7:=(q3.mono (a0c.mono _) (a0h G (by omega) (by omega))).mono (a0c.mono _) a0l;exact bodyPost_ret (a0d rfl rfl a0p r1 rfl) rfl ⟨ExtX.box J G (by omega),_,rfl,s,qa,qc,ql,none,0,[],rfl,q1,c1B _,N,h7,Sl.nil _ _ _ _⟩
 ·have N:=a.out
  rw[if_neg f]at N;have hI:(a3f (k/g) 1==0)=false:=by rw[o.out];exact decide_eq_false f
  generalize a3f (k/g) 1=cc at*;clear o f a;go_wp2_with ((with_reducible refine c1J ?_);refine a0a a0p rfl rfl I rfl rfl a1s ?_;intro w7 r1 G)
  have h7:=(q3.mono (a0c.mono _) (a0h G (by omega) (by omega))).mono (a0c.mono _) a0l;have h8:=(d3.mono (a0c.mono _) (a0h G (by omega) (by omega))).mono (a0c.mono _) a0l;exact bodyPost_ret (a0d rfl rfl a0p r1 rfl) rfl ⟨ExtX.box J G (by omega),_,rfl,s,qa,qc,ql,da,dc,dl,rfl,q1,d1,N,h7,h8⟩
theorem a8G(X:Nat->Bool)(w:World)(v:Int)(s:HX X w)(l: -9223372036854775808<=v)(m:v<=9223372036854775807):Calls Tryz.prog 34 #[.int .i64 v] w (a2b X w QC v):=by
 obtain⟨W,B,r,k,hz⟩:=a0Y w #[.bool false,.slice none 0 0,.slice none 0 0] 47;have c:HX (a0f X w.heap.size 1) W:=s.boxes hz;obtain⟨b,t⟩:=c1F w.heap.size;have u:w.heap.size<=b:=by omega
 rw[t]at k hz c;have e:=hid l;have f:=hid m;clear l m;go_enter Tryz.func34,Tryz.ntmps34
 go_wp2_with fail
 refine(c0u (a0f X b 1) W v c e.out f.out).mono ?_;rintro A D ⟨a,C,rfl,z,o,p,x,rfl,g,h,i⟩;have d:=k.ext0 a;have j:=a7b.ofInt h;go_wp2_with ((with_reducible refine c1J ?_);refine a0a a0p rfl rfl d rfl rfl a1s ?_;intro E y n)
 have q:=(i.mono (a0c.mono _) (a0h n (by omega) (by omega))).mono (a0c.mono _) a0l;exact bodyPost_ret (a0d rfl rfl a0p y rfl) rfl ⟨ExtX.box (r.trans a) n (by omega),_,rfl,z,o,p,x,none,0,[],rfl,g,c1B _,j,q,Sl.nil _ _ _ _⟩
end Go.Proofs.YtjmnhbebpffoaaaGreat
