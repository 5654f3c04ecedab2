/- Parts of a proof: each theorem states what it proves, and its conditions. -/
import Derived.Test.YtnnpfhoigmegcaaGreatBcC
set_option maxRecDepth 100000
set_option maxHeartbeats 800000
namespace Go.Proofs.YtnnpfhoigmegcaaGreat
open Go.RowKit Go.Rep Go.Lim
theorem a4V(X:Nat->Bool)(w:World)(s:Bool)(ao:Option Addr)(c:Nat)(l:List Nat)(m:Sl (a0c .u32) 1 (mk X w) ao l)(o:l.length<=549755813888):Calls Tryz.prog 273 #[.agg #[.bool s, .slice ao l.length c]] w fun e j=>Ext w j/\e= .returned (.bool (a0U s l)):=by
 have h:Ext w (w.alloc (.cells #[.bool s, .slice ao l.length c] 39)):=(ExtX.refl w).alloc _;have d:=m.mono (a0c.mono _) (a0k h);have a:Hid (a0U s l=(a1i l&&(decide (0<l.length)|| !s))):=hid rfl;cases i:a1i l
 ·have g:Hid (a0U s l=false):=hid (by rw[a.out,i];rfl)
  have f:=hid i;clear i;go_enter Tryz.func273,Tryz.ntmps273
  go_wp2_with fail
  refine(a1w X _ _ _ _ d (by omega)).mono ?_;rintro e j ⟨rfl,rfl⟩;rw[f.out];go_wp2_with fail
  go_ret
  exact⟨h,a0q g.out.symm⟩
 ·have g:Hid (a0U s l=(decide (0<l.length)|| !s)):=hid (by rw[a.out,i];rfl)
  have f:=hid i;clear i;cases s
  ·have b:Hid (a0U false l=true):=hid (by rw[g.out];simp)
   clear g a;go_enter Tryz.func273,Tryz.ntmps273
   go_wp2_with fail
   refine(a1w X _ _ _ _ d (by omega)).mono ?_;rintro e j ⟨rfl,rfl⟩;rw[f.out];go_wp2_with fail
   go_ret
   exact⟨h,a0q b.out.symm⟩
  ·by_cases k:0<l.length
   ·have b:Hid (a0U true l=true):=hid (by rw[g.out,decide_eq_true k];rfl)
    have n:((l.length:Int)==0)=false:=a2S (by omega);clear g a;go_enter Tryz.func273,Tryz.ntmps273
    go_wp2_with fail
    refine(a1w X _ _ _ _ d (by omega)).mono ?_;rintro e j ⟨rfl,rfl⟩;rw[f.out];go_wp2_with fail
    go_ret
    exact⟨h,a0q b.out.symm⟩
   ·have b:Hid (a0U true l=false):=hid (by rw[g.out,decide_eq_false k];rfl)
    obtain rfl:l= []:=List.eq_nil_of_length_eq_zero (by omega);clear k g a;simp only[List.length_nil]at h d |-;go_enter Tryz.func273,Tryz.ntmps273
    go_wp2_with fail
    refine(a1w X _ [] _ _ d (by simp)).mono ?_;rintro e j ⟨rfl,rfl⟩;rw[f.out];go_wp2_with fail
    go_ret
    exact⟨h,a0q b.out.symm⟩
theorem a3d(X:Nat->Bool)(w:World)(u:Value)(z:Int)(Q:HX X w)(hu:ZV (mk X w) u z):Calls Tryz.prog 194 #[u] w (a1u X w ZC z):=by
 obtain⟨s,ao,c,l,rfl,h1,O,P,h4,rfl⟩:=hu;obtain⟨W,y⟩:∃W,(w.alloc (.cells #[.bool s, .slice ao l.length c] 39)).alloc (.cells #[.bool false, .slice none 0 0] 39)=W:=⟨_,rfl⟩;have x:Ext w W:=by rw[<-y];exact((ExtX.refl w).alloc _).alloc _
 have r:Bx W w.heap.size #[.bool s, .slice ao l.length c] 39:=by
  rw[<-y];exact(Bx.new w _ _).ext0 ((ExtX.refl _).alloc _)
 have A:Bx W (w.heap.size+1) #[.bool false, .slice none 0 0] 39:=by
  rw[<-y];have:=Bx.new (w.alloc (.cells #[.bool s, .slice ao l.length c] 39)) #[.bool false, .slice none 0 0] 39;simpa using this
 have hz:W.heap.size=w.heap.size+2:=by rw[<-y];simp
 have i:Sl (a0c .u32) 1 (mk (a0e X w.heap.size 2) W) ao l:=h4.mono (a0c.mono _) (a0i x);obtain⟨b,hb⟩:∃b,w.heap.size=b:=⟨_,rfl⟩;have a1:w.heap.size<=b:=by omega
 have a0:HX X w:=Q;rw[hb]at r A hz i;have t:=r.cell 0 rfl;have v:=r.cell 1 rfl;cases q:a0U s l
 ·have K:=hid (a4y q)
  have j:=hid q;clear q;go_enter Tryz.func194,Tryz.ntmps194
  go_wp2_with fail
  refine(a4V (a0e X b 2) W s ao c l i P).mono ?_;rintro e k ⟨a,rfl⟩;rw[j.out];have h:=A.ext0 a;clear t v;go_wp2_with ((with_reducible show wpList _ _ _ (⟨_, .store _ _ _,_,_,_,_⟩::_) _ _);refine a0a a0r rfl rfl h rfl rfl (a2o _ _ _ _) ?_;intro w2 T E)
  exact bodyPost_ret (a0d rfl rfl a0r T rfl) rfl ⟨ExtX.box (x.trans a) E (by omega),_,rfl,by rw[K.out];exact ZC.zero _⟩
 ·have j:=hid q
  clear q;go_enter Tryz.func194,Tryz.ntmps194
  go_wp2_with fail
  refine(a4V (a0e X b 2) W s ao c l i P).mono ?_;rintro e k ⟨a,rfl⟩;rw[j.out];have m:=r.ext0 a;have h:=A.ext0 a;have G:HX (a0e X b 2) k:=Q.boxes' (x.trans a) (by have:=h.lt;omega) (by have:=h.lt;omega);have n:=hid (a4x.of_valid O j.out);have J:NV (mk (a0e X b 2) k) (.slice ao l.length c) (nv l):=⟨ao,c,l,rfl,h1,O,by omega,i.mono (a0c.mono _) (a0k a),by unfold val;rw[a0w.vl n.out.2]⟩;have H:HX (a0e X b 2) k.drew:=G;have I:NV (mk (a0e X b 2) k.drew) (.slice ao l.length c) (nv l):=J;have g:Ext k k.drew:=(ExtX.refl k).drew;have o:=hid (And.intro m h);clear t v;have t:=m.cell 0 rfl;have v:=m.cell 1 rfl;go_wp2_with fail
  go_region_held3 (fun S=>S.cell? ⟨b,0,none⟩=some (.bool s)/\S.cell? ⟨b,1,none⟩=some (.slice ao l.length c))
   (first|exact⟨(o.out.1.ext0 (g.trans f)).cell 0 rfl,(o.out.1.ext0 (g.trans f)).cell 1 rfl⟩|exact⟨((o.out.1.ext0 (g.trans f)).ext (d.set2 _ _).2 (a0b (by omega))).cell 0 rfl,((o.out.1.ext0 (g.trans f)).ext (d.set2 _ _).2 (a0b (by omega))).cell 1 rfl⟩|go_keep)
   (first|(go_at_call 196;(with_reducible refine(a3c H I).mono ?_);rintro e w5 ⟨f,u5,rfl,M,N,L,rfl,B,C,D⟩;have d:=o.out.2.ext0 (g.trans f);have U:=d.cell 0 rfl;have V:=d.cell 1 rfl;have Y:=d.frozen 0;have Z:=d.frozen 1))
  obtain⟨r1,R⟩:=d.set2 (.bool s) (.slice M L.length N);have h7:=(D.mono (a0c.mono _) (a0f R (by omega) (by omega))).mono (a0c.mono _) a0h;have p:a4x s L (a6q s l):=⟨n.out.1,by rw[<-n.out.2.2.2];exact C⟩;have F:Ext w _:=ExtX.box (x.trans (a.trans (g.trans f))) R (by omega);clear U V Y Z t v;go_wp2_with fail
  exact bodyPost_ret (a0d rfl rfl a0r r1 rfl) rfl ⟨F,_,rfl,s,M,N,L,rfl,B,p,h7⟩
theorem a1k(X:Nat->Bool)(w:World)(s:Bool)(u:Value)(n:Nat)(_:HX X w)(v:NC (mk X w) u n):Calls Tryz.prog 200 #[.bool s,u] w (a1u X w ZC (sg s n)):=by
 obtain⟨ao,c,l,rfl,i,p,q⟩:=v;obtain⟨W,m⟩:∃W,w.alloc (.cells #[.bool false, .slice none 0 0] 39)=W:=⟨_,rfl⟩;have j:Ext w W:=by rw[<-m];exact(ExtX.refl w).alloc _
 have h:Bx W w.heap.size #[.bool false, .slice none 0 0] 39:=by rw[<-m];exact Bx.new w _ _
 have e:Sl (a0c .u32) 1 (mk (a0e X w.heap.size 1) W) ao l:=q.mono (a0c.mono _) (a0i j);obtain⟨b,r⟩:∃b,w.heap.size=b:=⟨_,rfl⟩;have t:w.heap.size<=b:=by omega
 rw[r]at h e;have d:Hid (a4x (s&&decide (0<l.length)) l (sg s n)):=hid (b0c p);cases s
 ·rw[Bool.false_and]at d
  go_enter Tryz.func200,Tryz.ntmps200
  go_wp2_with ((with_reducible show wpList _ _ _ (⟨_, .store _ _ _,_,_,_,_⟩::_) _ _);refine a0a a0r rfl rfl h rfl rfl (a2o _ _ _ _) ?_;intro o g a)
  have f:=(e.mono (a0c.mono _) (a0f a (by omega) (by omega))).mono (a0c.mono _) a0h;exact bodyPost_ret (a0d rfl rfl a0r g rfl) rfl ⟨ExtX.box j a (by omega),_,rfl,_,ao,c,l,rfl,i,d.out,f⟩
 ·rw[Bool.true_and]at d
  by_cases k:0<l.length
  ·rw[decide_eq_true k]at d
   go_enter Tryz.func200,Tryz.ntmps200
   go_wp2_with ((with_reducible show wpList _ _ _ (⟨_, .store _ _ _,_,_,_,_⟩::_) _ _);refine a0a a0r rfl rfl h rfl rfl (a2o _ _ _ _) ?_;intro o g a)
   have f:=(e.mono (a0c.mono _) (a0f a (by omega) (by omega))).mono (a0c.mono _) a0h;exact bodyPost_ret (a0d rfl rfl a0r g rfl) rfl ⟨ExtX.box j a (by omega),_,rfl,_,ao,c,l,rfl,i,d.out,f⟩
  ·rw[decide_eq_false k]at d
   obtain rfl:l= []:=List.eq_nil_of_length_eq_zero (by omega);clear k;simp only[List.length_nil]at i d e |-;go_enter Tryz.func200,Tryz.ntmps200
   go_wp2_with ((with_reducible show wpList _ _ _ (⟨_, .store _ _ _,_,_,_,_⟩::_) _ _);refine a0a a0r rfl rfl h rfl rfl (a2o _ _ _ _) ?_;intro o g a)
   have f:=(e.mono (a0c.mono _) (a0f a (by omega) (by omega))).mono (a0c.mono _) a0h;exact bodyPost_ret (a0d rfl rfl a0r g rfl) rfl ⟨ExtX.box j a (by omega),_,rfl,_,ao,c,[],rfl,i,d.out,f⟩
theorem b5Y(X:Nat->Bool)(w:World)(u v:Value)(x y:Int)(hX:HX X w)(hu:ZV (mk X w) u x)(hv:ZV (mk X w) v y):Calls Tryz.prog 264 #[u,v] w (a1u X w ZC (x+y)):=by
 have e9:=hid hu.lg;have f0:=hid hv.lg;obtain⟨s1,a1,c1,l1,rfl,f1⟩:=id hu;obtain⟨s2,a2,c2,l2,rfl,f2⟩:=id hv;obtain⟨W,hW,hE,E,F,b2,hz⟩:=a1F w #[.bool s1, .slice a1 l1.length c1] #[.bool s2, .slice a2 l2.length c2] #[.bool false, .slice none 0 0] 39 39 39;have a8:HX (a0e X w.heap.size 3) W:=hX.boxes hz;have V:=ZV.mono _ _ _ _ (a0i (nb:=3) hE) hu;have Z:=ZV.mono _ _ _ _ (a0i (nb:=3) hE) hv;obtain⟨b,hb⟩:∃b,w.heap.size=b:=⟨_,rfl⟩;have e6:w.heap.size<=b:=by omega
 rw[hb]at E F b2 hz a8 V Z;have f:Ext W W.drew:=(ExtX.refl W).drew;have N:HX (a0e X b 3) W.drew:=a8;have b3:ZV (mk (a0e X b 3) W.drew) (.agg #[.bool s1, .slice a1 l1.length c1]) x:=V;have b4:ZV (mk (a0e X b 3) W.drew) (.agg #[.bool s2, .slice a2 l2.length c2]) y:=Z;have l:=E.cell 0 rfl;have m:=E.cell 1 rfl;have i:=F.cell 0 rfl;have j:=F.cell 1 rfl;clear hu hv f1 f2;go_enter Tryz.func264,Tryz.ntmps264
 go_upto_region 1 with(fail)
 go_cut []from 9 to 12 (fun wx=>∃t a3 c3 l3 I a4 c4 l4,Bx wx b #[.bool t, .slice a3 l3 c3] 39/\Bx wx (b+1) #[.bool I, .slice a4 l4 c4] 39/\Bx wx (b+1+1) #[.bool false, .slice none 0 0] 39/\ZC (mk (a0e X b 3) wx) (.agg #[.bool t, .slice a3 l3 c3]) x/\ZC (mk (a0e X b 3) wx) (.agg #[.bool I, .slice a4 l4 c4]) y/\Ext w wx)
 case first=>
  go_region_with (first|(go_at_call 282;(with_reducible refine(a4A (a0e X b 3) W.drew _ x N b3).mono ?_);rintro e w5 ⟨a,u5,rfl,s5,a5,c5,l5,rfl,d9,e0,e3⟩;have n:=E.ext0 (f.trans a);have o:=F.ext0 (f.trans a);have b7:=n.cell 0 rfl;have b8:=n.cell 1 rfl;have b9:=o.cell 0 rfl;have c0:=o.cell 1 rfl)|(go_at_call 282;(with_reducible refine(a4A (a0e X b 3) w5 _ y (HX.ext N a) (mkx ZV.mono b4 a)).mono ?_);rintro e w6 ⟨c,u6,rfl,D,A,B,C,rfl,p,g,q⟩;have d:=n.ext0 c;have k:=o.ext0 c;have d1:=d.cell 0 rfl;have d2:=d.cell 1 rfl;have d3:=k.cell 0 rfl;have d4:=k.cell 1 rfl;have c7:=d.frozen 0;have c8:=d.frozen 1;have c9:=k.frozen 0;have d0:=k.frozen 1))
  all_goals
   obtain⟨wf,b5,q0,q1,q2,q3,q4⟩:=a1K (X:=X) (nb:=3) d k (hE.trans ((f.trans a).trans c)) e6 (by omega) (.bool s5) (.slice a5 l5.length c5) (.bool D) (.slice A C.length B);rw[b5];have e7:ZC (mk (a0e X b 3) wf) (.agg #[.bool s5, .slice a5 l5.length c5]) x:=⟨s5,a5,c5,l5,rfl,d9,e0,(e3.mono (a0c.mono _) (a0k c)).mono (a0c.mono _) q4⟩;have e8:ZC (mk (a0e X b 3) wf) (.agg #[.bool D, .slice A C.length B]) y:=⟨D,A,B,C,rfl,p,g,q.mono (a0c.mono _) q4⟩;have q5:=q2 (b+1+1) _ _ (by omega) (by omega) ((b2.ext0 (f.trans a)).ext0 c);clear b7 b8 b9 c0 d1 d2 d3 d4 c7 c8 c9 d0 l m i j b5;go_wp2_with fail
   go_meet
   exact⟨_,_,_,_,_,_,_,_,q0,q1,q5,e7,e8,q3⟩
 case rest=>
  clear l m i j E F b2 V Z b3 b4 N f hW;obtain⟨t,a3,c3,n3,I,a4,c4,n4,E,F,b2,hx,hy,G⟩:=hcut;obtain⟨_,_,_,l3,z,d5,K,d6⟩:=hx;simp only[Value.agg.injEq,Array.mk.injEq,List.cons.injEq,Value.bool.injEq,Value.slice.injEq,and_true]at z;obtain⟨rfl,rfl,rfl,rfl⟩:=z;obtain⟨_,_,_,l4,z,d7,L,d8⟩:=hy;simp only[Value.agg.injEq,Array.mk.injEq,List.cons.injEq,Value.bool.injEq,Value.slice.injEq,and_true]at z;obtain⟨rfl,rfl,rfl,rfl⟩:=z;have S:NV (mk (a0e X b 3) wc) (.slice a3 l3.length c3) x.natAbs:=NC.nv ⟨a3,c3,l3,rfl,d5,K.2,d6⟩ (by have:=e9.out;omega);have T:NV (mk (a0e X b 3) wc) (.slice a4 l4.length c4) y.natAbs:=NC.nv ⟨a4,c4,l4,rfl,d7,L.2,d8⟩ (by have:=f0.out;omega);have f9:=hid K.1;have g0:=hid L.1;have f4:w.heap.size+3<=wc.heap.size:=by have:=b2.lt;omega
  have H:HX (a0e X b 3) wc:=hX.boxes' G (by omega) f4;have r:=hid (And.intro E (And.intro F b2));have l:=E.cell 0 rfl;have m:=E.cell 1 rfl;have i:=F.cell 0 rfl;have j:=F.cell 1 rfl;have R:=hid (a3E K);have Q:=hid (a3E L);have f:Ext wc wc.drew:=(ExtX.refl wc).drew;have f6:b+1≠b+1+1:=by omega
  have f7:b≠b+1+1:=by omega
  by_cases U:t=I
  ·subst U
   have a9:Hid (sg t (x.natAbs+y.natAbs)=x+y):=hid (by
    have e1:=R.out;have e2:=Q.out;unfold sg at*;cases t<;>simp at*<;>omega)
   go_wp2_with fail
   go_region_held3 (fun w'=>w'.cell? ⟨b,0,none⟩=some (.bool t)/\w'.cell? ⟨b,1,none⟩=some (.slice a3 l3.length c3)/\w'.cell? ⟨b+1,1,none⟩=some (.slice a4 l4.length c4))
    (first|exact⟨(r.out.1.ext0 (f.trans a)).cell 0 rfl,(r.out.1.ext0 (f.trans a)).cell 1 rfl,(r.out.2.1.ext0 (f.trans a)).cell 1 rfl⟩|exact⟨(r.out.1.ext0 (f.trans (a.trans c))).cell 0 rfl,(r.out.1.ext0 (f.trans (a.trans c))).cell 1 rfl,(r.out.2.1.ext0 (f.trans (a.trans c))).cell 1 rfl⟩|exact⟨((r.out.1.ext0 (f.trans (a.trans c))).ext (d.set2 _ _).2 (a0b (by omega))).cell 0 rfl,((r.out.1.ext0 (f.trans (a.trans c))).ext (d.set2 _ _).2 (a0b (by omega))).cell 1 rfl,((r.out.2.1.ext0 (f.trans (a.trans c))).ext (d.set2 _ _).2 (a0b (by omega))).cell 1 rfl⟩|go_keep)
    (first|(go_at_call 166;refine(b6V (X:=a0e X b 3) (w:=wc.drew) H S T).mono ?_;rintro e w5 ⟨a,u5,rfl,Y⟩)|(go_at_call 292;refine(a2i (a0e X b 3) w5 t u5 (x.natAbs+y.natAbs) (HX.ext (w:=wc.drew) H a) Y).mono ?_;rintro e w6 ⟨c,u6,rfl,D,A,B,C,rfl,p,g,q⟩;have d:=r.out.2.2.ext0 (f.trans (a.trans c));have g1:=d.cell 0 rfl;have g2:=d.cell 1 rfl;have g3:=d.frozen 0;have g4:=d.frozen 1))
   obtain⟨r1,J⟩:=d.set2 (.bool D) (.slice A C.length B);have h7:=(q.mono (a0c.mono _) (a0f J (by omega) (by omega))).mono (a0c.mono _) a0h;rw[a9.out]at g;have e4:Ext w _:=ExtX.box (G.trans (f.trans (a.trans c))) J (by omega);clear g1 g2 g3 g4 l m i j;go_wp2_with fail
   exact bodyPost_ret (a0d rfl rfl a0r r1 rfl) rfl ⟨e4,_,rfl,D,A,B,C,rfl,p,g,h7⟩
  ·have f8:(t==I)=false:=by simpa using U
   have O:Hid (y.natAbs<=x.natAbs->sg t (x.natAbs - y.natAbs)=x+y):=hid (fun h=>by
    have e1:=R.out;have e2:=Q.out;unfold sg at*;cases t<;>cases I<;>simp at*<;>omega)
   have P:Hid (¬y.natAbs<=x.natAbs->sg I (y.natAbs - x.natAbs)=x+y):=hid (fun h=>by
    have e1:=R.out;have e2:=Q.out;unfold sg at*;cases t<;>cases I<;>simp at*<;>omega)
   clear U;go_wp2_with fail
   refine(b7B H S T).mono ?_;rintro e w5 ⟨a,u5,rfl,Y⟩;have M:=H.ext a;have n:=r.out.1.ext0 a;have o:=r.out.2.1.ext0 a;have d:=r.out.2.2.ext0 a;clear l m i j;have l:=n.cell 0 rfl;have m:=n.cell 1 rfl;have i:=o.cell 0 rfl;have j:=o.cell 1 rfl;by_cases s:y.natAbs<=x.natAbs
   ·have hd:decide (y.natAbs<=x.natAbs)=true:=decide_eq_true s
    have hf:=hid (O.out s);rw[hd];clear hd s;go_wp2_with fail
    refine(a2i (a0e X b 3) w5 t u5 _ M Y).mono ?_;rintro e w6 ⟨c,u6,rfl,D,A,B,C,rfl,p,g,q⟩;have k:=d.ext0 c;clear l m i j;go_wp2_with ((with_reducible show wpList _ _ _ (⟨_, .store _ _ _,_,_,_,_⟩::_) _ _);refine a0a a0r rfl rfl k rfl rfl (a2o _ _ _ _) ?_;intro w7 r1 J)
    have h7:=(q.mono (a0c.mono _) (a0f J (by omega) (by omega))).mono (a0c.mono _) a0h;rw[hf.out]at g;exact bodyPost_ret (a0d rfl rfl a0r r1 rfl) rfl ⟨ExtX.box (G.trans (a.trans c)) J (by omega),_,rfl,D,A,B,C,rfl,p,g,h7⟩
   ·have hd:decide (y.natAbs<=x.natAbs)=false:=decide_eq_false s
    have hf:=hid (P.out s);rw[hd];clear hd s;go_wp2_with fail
    refine(b7B M (mkx NV.mono T a) (mkx NV.mono S a)).mono ?_;rintro e w6 ⟨c,v5,rfl,f3⟩;have f5:=n.ext0 c;have a0:=o.ext0 c;have b6:=d.ext0 c;clear l m i j;have i:=a0.cell 0 rfl;have j:=a0.cell 1 rfl;go_wp2_with fail
    refine(a2i (a0e X b 3) w6 I v5 _ (M.ext c) f3).mono ?_;rintro e w7 ⟨a7,u6,rfl,D,A,B,C,rfl,p,g,q⟩;have k:=b6.ext0 a7;clear i j;go_wp2_with ((with_reducible show wpList _ _ _ (⟨_, .store _ _ _,_,_,_,_⟩::_) _ _);refine a0a a0r rfl rfl k rfl rfl (a2o _ _ _ _) ?_;intro w8 r1 J)
    have h7:=(q.mono (a0c.mono _) (a0f J (by omega) (by omega))).mono (a0c.mono _) a0h;rw[hf.out]at g;exact bodyPost_ret (a0d rfl rfl a0r r1 rfl) rfl ⟨ExtX.box (G.trans (a.trans (c.trans a7))) J (by omega),_,rfl,D,A,B,C,rfl,p,g,h7⟩
theorem b6W(X:Nat->Bool)(w:World)(u v:Value)(x y:Int)(hX:HX X w)(hu:ZV (mk X w) u x)(hv:ZV (mk X w) v y):Calls Tryz.prog 120 #[u,v] w (a1u X w ZC (x+y)):=by
 have e9:=hid hu.lg;have f0:=hid hv.lg;obtain⟨s1,a1,c1,l1,rfl,f1⟩:=id hu;obtain⟨s2,a2,c2,l2,rfl,f2⟩:=id hv;obtain⟨W,hW,hE,E,F,b2,hz⟩:=a1F w #[.bool s1, .slice a1 l1.length c1] #[.bool s2, .slice a2 l2.length c2] #[.bool false, .slice none 0 0] 39 39 39;have a8:HX (a0e X w.heap.size 3) W:=hX.boxes hz;have V:=ZV.mono _ _ _ _ (a0i (nb:=3) hE) hu;have Z:=ZV.mono _ _ _ _ (a0i (nb:=3) hE) hv;obtain⟨b,hb⟩:∃b,w.heap.size=b:=⟨_,rfl⟩;have e6:w.heap.size<=b:=by omega
 rw[hb]at E F b2 hz a8 V Z;have f:Ext W W.drew:=(ExtX.refl W).drew;have N:HX (a0e X b 3) W.drew:=a8;have b3:ZV (mk (a0e X b 3) W.drew) (.agg #[.bool s1, .slice a1 l1.length c1]) x:=V;have b4:ZV (mk (a0e X b 3) W.drew) (.agg #[.bool s2, .slice a2 l2.length c2]) y:=Z;have l:=E.cell 0 rfl;have m:=E.cell 1 rfl;have i:=F.cell 0 rfl;have j:=F.cell 1 rfl;clear hu hv f1 f2;go_enter Tryz.func120,Tryz.ntmps120
 go_upto_region 1 with(fail)
 go_cut []from 9 to 12 (fun wx=>∃t a3 c3 l3 I a4 c4 l4,Bx wx b #[.bool t, .slice a3 l3 c3] 39/\Bx wx (b+1) #[.bool I, .slice a4 l4 c4] 39/\Bx wx (b+1+1) #[.bool false, .slice none 0 0] 39/\ZC (mk (a0e X b 3) wx) (.agg #[.bool t, .slice a3 l3 c3]) x/\ZC (mk (a0e X b 3) wx) (.agg #[.bool I, .slice a4 l4 c4]) y/\Ext w wx)
 case first=>
  go_region_with (first|(go_at_call 194;(with_reducible refine(a3d (a0e X b 3) W.drew _ x N b3).mono ?_);rintro e w5 ⟨a,u5,rfl,s5,a5,c5,l5,rfl,d9,e0,e3⟩;have n:=E.ext0 (f.trans a);have o:=F.ext0 (f.trans a);have b7:=n.cell 0 rfl;have b8:=n.cell 1 rfl;have b9:=o.cell 0 rfl;have c0:=o.cell 1 rfl)|(go_at_call 194;(with_reducible refine(a3d (a0e X b 3) w5 _ y (HX.ext N a) (mkx ZV.mono b4 a)).mono ?_);rintro e w6 ⟨c,u6,rfl,D,A,B,C,rfl,p,g,q⟩;have d:=n.ext0 c;have k:=o.ext0 c;have d1:=d.cell 0 rfl;have d2:=d.cell 1 rfl;have d3:=k.cell 0 rfl;have d4:=k.cell 1 rfl;have c7:=d.frozen 0;have c8:=d.frozen 1;have c9:=k.frozen 0;have d0:=k.frozen 1))
  all_goals
   obtain⟨wf,b5,q0,q1,q2,q3,q4⟩:=a1K (X:=X) (nb:=3) d k (hE.trans ((f.trans a).trans c)) e6 (by omega) (.bool s5) (.slice a5 l5.length c5) (.bool D) (.slice A C.length B);rw[b5];have e7:ZC (mk (a0e X b 3) wf) (.agg #[.bool s5, .slice a5 l5.length c5]) x:=⟨s5,a5,c5,l5,rfl,d9,e0,(e3.mono (a0c.mono _) (a0k c)).mono (a0c.mono _) q4⟩;have e8:ZC (mk (a0e X b 3) wf) (.agg #[.bool D, .slice A C.length B]) y:=⟨D,A,B,C,rfl,p,g,q.mono (a0c.mono _) q4⟩;have q5:=q2 (b+1+1) _ _ (by omega) (by omega) ((b2.ext0 (f.trans a)).ext0 c);clear b7 b8 b9 c0 d1 d2 d3 d4 c7 c8 c9 d0 l m i j b5;go_wp2_with fail
   go_meet
   exact⟨_,_,_,_,_,_,_,_,q0,q1,q5,e7,e8,q3⟩
 case rest=>
  clear l m i j E F b2 V Z b3 b4 N f hW;obtain⟨t,a3,c3,n3,I,a4,c4,n4,E,F,b2,hx,hy,G⟩:=hcut;obtain⟨_,_,_,l3,z,d5,K,d6⟩:=hx;simp only[Value.agg.injEq,Array.mk.injEq,List.cons.injEq,Value.bool.injEq,Value.slice.injEq,and_true]at z;obtain⟨rfl,rfl,rfl,rfl⟩:=z;obtain⟨_,_,_,l4,z,d7,L,d8⟩:=hy;simp only[Value.agg.injEq,Array.mk.injEq,List.cons.injEq,Value.bool.injEq,Value.slice.injEq,and_true]at z;obtain⟨rfl,rfl,rfl,rfl⟩:=z;have S:NV (mk (a0e X b 3) wc) (.slice a3 l3.length c3) x.natAbs:=NC.nv ⟨a3,c3,l3,rfl,d5,K.2,d6⟩ (by have:=e9.out;omega);have T:NV (mk (a0e X b 3) wc) (.slice a4 l4.length c4) y.natAbs:=NC.nv ⟨a4,c4,l4,rfl,d7,L.2,d8⟩ (by have:=f0.out;omega);have f9:=hid K.1;have g0:=hid L.1;have f4:w.heap.size+3<=wc.heap.size:=by have:=b2.lt;omega
  have H:HX (a0e X b 3) wc:=hX.boxes' G (by omega) f4;have r:=hid (And.intro E (And.intro F b2));have l:=E.cell 0 rfl;have m:=E.cell 1 rfl;have i:=F.cell 0 rfl;have j:=F.cell 1 rfl;have R:=hid (a3E K);have Q:=hid (a3E L);have f:Ext wc wc.drew:=(ExtX.refl wc).drew;have f6:b+1≠b+1+1:=by omega
  have f7:b≠b+1+1:=by omega
  by_cases U:t=I
  ·subst U
   have a9:Hid (sg t (x.natAbs+y.natAbs)=x+y):=hid (by
    have e1:=R.out;have e2:=Q.out;unfold sg at*;cases t<;>simp at*<;>omega)
   go_wp2_with fail
   go_region_held3 (fun w'=>w'.cell? ⟨b,0,none⟩=some (.bool t)/\w'.cell? ⟨b,1,none⟩=some (.slice a3 l3.length c3)/\w'.cell? ⟨b+1,1,none⟩=some (.slice a4 l4.length c4))
    (first|exact⟨(r.out.1.ext0 (f.trans a)).cell 0 rfl,(r.out.1.ext0 (f.trans a)).cell 1 rfl,(r.out.2.1.ext0 (f.trans a)).cell 1 rfl⟩|exact⟨(r.out.1.ext0 (f.trans (a.trans c))).cell 0 rfl,(r.out.1.ext0 (f.trans (a.trans c))).cell 1 rfl,(r.out.2.1.ext0 (f.trans (a.trans c))).cell 1 rfl⟩|exact⟨((r.out.1.ext0 (f.trans (a.trans c))).ext (d.set2 _ _).2 (a0b (by omega))).cell 0 rfl,((r.out.1.ext0 (f.trans (a.trans c))).ext (d.set2 _ _).2 (a0b (by omega))).cell 1 rfl,((r.out.2.1.ext0 (f.trans (a.trans c))).ext (d.set2 _ _).2 (a0b (by omega))).cell 1 rfl⟩|go_keep)
    (first|(go_at_call 201;refine(b1T (X:=a0e X b 3) (w:=wc.drew) H S T).mono ?_;rintro e w5 ⟨a,u5,rfl,Y⟩)|(go_at_call 200;refine(a1k (a0e X b 3) w5 t u5 (x.natAbs+y.natAbs) (HX.ext (w:=wc.drew) H a) Y).mono ?_;rintro e w6 ⟨c,u6,rfl,D,A,B,C,rfl,p,g,q⟩;have d:=r.out.2.2.ext0 (f.trans (a.trans c));have g1:=d.cell 0 rfl;have g2:=d.cell 1 rfl;have g3:=d.frozen 0;have g4:=d.frozen 1))
   obtain⟨r1,J⟩:=d.set2 (.bool D) (.slice A C.length B);have h7:=(q.mono (a0c.mono _) (a0f J (by omega) (by omega))).mono (a0c.mono _) a0h;rw[a9.out]at g;have e4:Ext w _:=ExtX.box (G.trans (f.trans (a.trans c))) J (by omega);clear g1 g2 g3 g4 l m i j;go_wp2_with fail
   exact bodyPost_ret (a0d rfl rfl a0r r1 rfl) rfl ⟨e4,_,rfl,D,A,B,C,rfl,p,g,h7⟩
  ·have f8:(t==I)=false:=by simpa using U
   have O:Hid (y.natAbs<=x.natAbs->sg t (x.natAbs - y.natAbs)=x+y):=hid (fun h=>by
    have e1:=R.out;have e2:=Q.out;unfold sg at*;cases t<;>cases I<;>simp at*<;>omega)
   have P:Hid (¬y.natAbs<=x.natAbs->sg I (y.natAbs - x.natAbs)=x+y):=hid (fun h=>by
    have e1:=R.out;have e2:=Q.out;unfold sg at*;cases t<;>cases I<;>simp at*<;>omega)
   clear U;go_wp2_with fail
   refine(b4k _ _ _ _ _ _ H S T).mono ?_;rintro e w5 ⟨a,u5,rfl,Y⟩;have M:=H.ext a;have n:=r.out.1.ext0 a;have o:=r.out.2.1.ext0 a;have d:=r.out.2.2.ext0 a;clear l m i j;have l:=n.cell 0 rfl;have m:=n.cell 1 rfl;have i:=o.cell 0 rfl;have j:=o.cell 1 rfl;by_cases s:y.natAbs<=x.natAbs
   ·have hd:decide (y.natAbs<=x.natAbs)=true:=decide_eq_true s
    have hf:=hid (O.out s);rw[hd];clear hd s;go_wp2_with fail
    refine(a1k (a0e X b 3) w5 t u5 _ M Y).mono ?_;rintro e w6 ⟨c,u6,rfl,D,A,B,C,rfl,p,g,q⟩;have k:=d.ext0 c;clear l m i j;go_wp2_with ((with_reducible show wpList _ _ _ (⟨_, .store _ _ _,_,_,_,_⟩::_) _ _);refine a0a a0r rfl rfl k rfl rfl (a2o _ _ _ _) ?_;intro w7 r1 J)
    have h7:=(q.mono (a0c.mono _) (a0f J (by omega) (by omega))).mono (a0c.mono _) a0h;rw[hf.out]at g;exact bodyPost_ret (a0d rfl rfl a0r r1 rfl) rfl ⟨ExtX.box (G.trans (a.trans c)) J (by omega),_,rfl,D,A,B,C,rfl,p,g,h7⟩
   ·have hd:decide (y.natAbs<=x.natAbs)=false:=decide_eq_false s
    have hf:=hid (P.out s);rw[hd];clear hd s;go_wp2_with fail
    refine(b4k _ _ _ _ _ _ M (mkx NV.mono T a) (mkx NV.mono S a)).mono ?_;rintro e w6 ⟨c,v5,rfl,f3⟩;have f5:=n.ext0 c;have a0:=o.ext0 c;have b6:=d.ext0 c;clear l m i j;have i:=a0.cell 0 rfl;have j:=a0.cell 1 rfl;go_wp2_with fail
    refine(a1k (a0e X b 3) w6 I v5 _ (M.ext c) f3).mono ?_;rintro e w7 ⟨a7,u6,rfl,D,A,B,C,rfl,p,g,q⟩;have k:=b6.ext0 a7;clear i j;go_wp2_with ((with_reducible show wpList _ _ _ (⟨_, .store _ _ _,_,_,_,_⟩::_) _ _);refine a0a a0r rfl rfl k rfl rfl (a2o _ _ _ _) ?_;intro w8 r1 J)
    have h7:=(q.mono (a0c.mono _) (a0f J (by omega) (by omega))).mono (a0c.mono _) a0h;rw[hf.out]at g;exact bodyPost_ret (a0d rfl rfl a0r r1 rfl) rfl ⟨ExtX.box (G.trans (a.trans (c.trans a7))) J (by omega),_,rfl,D,A,B,C,rfl,p,g,h7⟩
theorem b6G(X:Nat->Bool)(w:World)(u v:Value)(x y:Int)(hX:HX X w)(hu:ZV (mk X w) u x)(hv:ZV (mk X w) v y):Calls Tryz.prog 232 #[u,v] w (a1u X w ZC (x*y)):=by
 have f0:=hid hu.lg;have f1:=hid hv.lg;obtain⟨s1,a1,c1,l1,rfl,f4⟩:=id hu;obtain⟨s2,a2,c2,l2,rfl,f5⟩:=id hv;obtain⟨W,hW,hE,J,K,b2,hz⟩:=a1F w #[.bool s1, .slice a1 l1.length c1] #[.bool s2, .slice a2 l2.length c2] #[.bool false, .slice none 0 0] 39 39 39;have b3:HX (a0e X w.heap.size 3) W:=hX.boxes hz;have a8:=ZV.mono _ _ _ _ (a0i (nb:=3) hE) hu;have a9:=ZV.mono _ _ _ _ (a0i (nb:=3) hE) hv;obtain⟨b,hb⟩:∃b,w.heap.size=b:=⟨_,rfl⟩;have e7:w.heap.size<=b:=by omega
 rw[hb]at J K b2 hz b3 a8 a9;have c:Ext W W.drew:=(ExtX.refl W).drew;have a0:HX (a0e X b 3) W.drew:=b3;have b6:ZV (mk (a0e X b 3) W.drew) (.agg #[.bool s1, .slice a1 l1.length c1]) x:=a8;have b7:ZV (mk (a0e X b 3) W.drew) (.agg #[.bool s2, .slice a2 l2.length c2]) y:=a9;have r:=J.cell 0 rfl;have s:=J.cell 1 rfl;have t:=K.cell 0 rfl;have z:=K.cell 1 rfl;clear hu hv f4 f5;go_enter Tryz.func232,Tryz.ntmps232
 go_upto_region 1 with(fail)
 go_cut []from 5 to 8 (fun wx=>∃s3 H L R s4 I M S,Bx wx b #[.bool s3, .slice H R L] 39/\Bx wx (b+1) #[.bool s4, .slice I S M] 39/\Bx wx (b+1+1) #[.bool false, .slice none 0 0] 39/\ZC (mk (a0e X b 3) wx) (.agg #[.bool s3, .slice H R L]) x/\ZC (mk (a0e X b 3) wx) (.agg #[.bool s4, .slice I S M]) y/\Ext w wx)
 case first=>
  go_region_with (first|(go_at_call 282;(with_reducible refine(a4A (a0e X b 3) W.drew _ x a0 b6).mono ?_);rintro e T ⟨a,U,rfl,s5,a5,c5,l5,rfl,e3,e4,e6⟩;have V:=J.ext0 (c.trans a);have Y:=K.ext0 (c.trans a);have b9:=V.cell 0 rfl;have c0:=V.cell 1 rfl;have c7:=Y.cell 0 rfl;have c8:=Y.cell 1 rfl)|(go_at_call 282;(with_reducible refine(a4A (a0e X b 3) T _ y (HX.ext a0 a) (mkx ZV.mono b7 a)).mono ?_);rintro e w6 ⟨d,u6,rfl,B,n,o,A,rfl,j,h,k⟩;have f:=V.ext0 d;have D:=Y.ext0 d;have d3:=f.cell 0 rfl;have d4:=f.cell 1 rfl;have d5:=D.cell 0 rfl;have d6:=D.cell 1 rfl;have c9:=f.frozen 0;have d0:=f.frozen 1;have d1:=D.frozen 0;have d2:=D.frozen 1))
  all_goals
   obtain⟨wf,b8,q0,q1,q2,q3,q4⟩:=a1K (X:=X) (nb:=3) f D (hE.trans ((c.trans a).trans d)) e7 (by omega) (.bool s5) (.slice a5 l5.length c5) (.bool B) (.slice n A.length o);rw[b8];have e8:ZC (mk (a0e X b 3) wf) (.agg #[.bool s5, .slice a5 l5.length c5]) x:=⟨s5,a5,c5,l5,rfl,e3,e4,(e6.mono (a0c.mono _) (a0k d)).mono (a0c.mono _) q4⟩;have e9:ZC (mk (a0e X b 3) wf) (.agg #[.bool B, .slice n A.length o]) y:=⟨B,n,o,A,rfl,j,h,k.mono (a0c.mono _) q4⟩;have q5:=q2 (b+1+1) _ _ (by omega) (by omega) ((b2.ext0 (c.trans a)).ext0 d);clear b9 c0 c7 c8 d3 d4 d5 d6 c9 d0 d1 d2 r s t z b8;go_wp2_with fail
   go_meet
   exact⟨_,_,_,_,_,_,_,_,q0,q1,q5,e8,e9,q3⟩
 case rest=>
  clear r s t z J K b2 a8 a9 b6 b7 a0 c hW;obtain⟨s3,H,L,n3,s4,I,M,n4,J,K,b2,hx,hy,E⟩:=hcut;obtain⟨_,_,_,R,F,d7,N,d8⟩:=hx;simp only[Value.agg.injEq,Array.mk.injEq,List.cons.injEq,Value.bool.injEq,Value.slice.injEq,and_true]at F;obtain⟨rfl,rfl,rfl,rfl⟩:=F;obtain⟨_,_,_,S,F,d9,O,e0⟩:=hy;simp only[Value.agg.injEq,Array.mk.injEq,List.cons.injEq,Value.bool.injEq,Value.slice.injEq,and_true]at F;obtain⟨rfl,rfl,rfl,rfl⟩:=F;have b5:=hid (a3E N);have b4:=hid (a3E O);have f2:=hid N.1;have f3:=hid O.1;have c:Ext wc wc.drew:=(ExtX.refl wc).drew;have P:NV (mk (a0e X b 3) wc) (.slice H R.length L) x.natAbs:=NC.nv ⟨H,L,R,rfl,d7,N.2,d8⟩ (by have:=f0.out;omega);have Q:NV (mk (a0e X b 3) wc) (.slice I S.length M) y.natAbs:=NC.nv ⟨I,M,S,rfl,d9,O.2,e0⟩ (by have:=f1.out;omega);have f6:w.heap.size+3<=wc.heap.size:=by have:=b2.lt;omega
  have m:HX (a0e X b 3) wc:=hX.boxes' E (by omega) f6;have g:=hid (And.intro J (And.intro K b2));have r:=J.cell 0 rfl;have s:=J.cell 1 rfl;have t:=K.cell 0 rfl;have z:=K.cell 1 rfl;have f7:b+1≠b+1+1:=by omega
  have f8:b≠b+1+1:=by omega
  obtain⟨sn,a7⟩:∃sn,(s3 !=s4)=sn:=⟨_,rfl⟩;have C:Hid (sg sn (x.natAbs*y.natAbs)=x*y):=hid (by
   have e1:=b5.out;have e2:=b4.out;rw[<-a7,<-e1,<-e2,a5L,a5L];unfold sg;cases s3<;>cases s4<;>simp[Int.natCast_mul,Int.neg_mul,Int.mul_neg])
  have i:=hid a7;clear f2 f3 b5 b4 a7 N O;cases s3<;>cases s4
  ·obtain rfl:sn=false:=i.out.symm
   clear i;go_wp2_with fail
   go_region_held3 (fun l=>l.cell? ⟨b,0,none⟩=some (.bool false)/\l.cell? ⟨b,1,none⟩=some (.slice H R.length L)/\l.cell? ⟨b+1,0,none⟩=some (.bool false)/\l.cell? ⟨b+1,1,none⟩=some (.slice I S.length M))
    (first|exact⟨(g.out.1.ext0 (c.trans a)).cell 0 rfl,(g.out.1.ext0 (c.trans a)).cell 1 rfl,(g.out.2.1.ext0 (c.trans a)).cell 0 rfl,(g.out.2.1.ext0 (c.trans a)).cell 1 rfl⟩|exact⟨(g.out.1.ext0 (c.trans (a.trans d))).cell 0 rfl,(g.out.1.ext0 (c.trans (a.trans d))).cell 1 rfl,(g.out.2.1.ext0 (c.trans (a.trans d))).cell 0 rfl,(g.out.2.1.ext0 (c.trans (a.trans d))).cell 1 rfl⟩|exact⟨((g.out.1.ext0 (c.trans (a.trans d))).ext (f.set2 _ _).2 (a0b (by omega))).cell 0 rfl,((g.out.1.ext0 (c.trans (a.trans d))).ext (f.set2 _ _).2 (a0b (by omega))).cell 1 rfl,((g.out.2.1.ext0 (c.trans (a.trans d))).ext (f.set2 _ _).2 (a0b (by omega))).cell 0 rfl,((g.out.2.1.ext0 (c.trans (a.trans d))).ext (f.set2 _ _).2 (a0b (by omega))).cell 1 rfl⟩|go_keep)
    (first|(go_at_call 234;refine(b3q (X:=a0e X b 3) (w:=wc.drew) m P Q).mono ?_;rintro e T ⟨a,U,rfl,q⟩)|(go_at_call 292;refine(a2i (a0e X b 3) T false U (x.natAbs*y.natAbs) (HX.ext (w:=wc.drew) m a) q).mono ?_;rintro e w6 ⟨d,u6,rfl,B,n,o,A,rfl,j,h,k⟩;have f:=g.out.2.2.ext0 (c.trans (a.trans d));have Z:=f.cell 0 rfl;have g2:=f.cell 1 rfl;have g3:=f.frozen 0;have g4:=f.frozen 1))
   obtain⟨r1,G⟩:=f.set2 (.bool B) (.slice n A.length o);have h7:=(k.mono (a0c.mono _) (a0f G (by omega) (by omega))).mono (a0c.mono _) a0h;rw[C.out]at h;have p:Ext w _:=ExtX.box (E.trans (c.trans (a.trans d))) G (by omega);clear Z g2 g3 g4 r s t z;go_wp2_with fail
   exact bodyPost_ret (a0d rfl rfl a0r r1 rfl) rfl ⟨p,_,rfl,B,n,o,A,rfl,j,h,h7⟩
  ·obtain rfl:sn=true:=i.out.symm
   clear i;go_wp2_with fail
   go_region_held3 (fun l=>l.cell? ⟨b,0,none⟩=some (.bool false)/\l.cell? ⟨b,1,none⟩=some (.slice H R.length L)/\l.cell? ⟨b+1,0,none⟩=some (.bool true)/\l.cell? ⟨b+1,1,none⟩=some (.slice I S.length M))
    (first|exact⟨(g.out.1.ext0 (c.trans a)).cell 0 rfl,(g.out.1.ext0 (c.trans a)).cell 1 rfl,(g.out.2.1.ext0 (c.trans a)).cell 0 rfl,(g.out.2.1.ext0 (c.trans a)).cell 1 rfl⟩|exact⟨(g.out.1.ext0 (c.trans (a.trans d))).cell 0 rfl,(g.out.1.ext0 (c.trans (a.trans d))).cell 1 rfl,(g.out.2.1.ext0 (c.trans (a.trans d))).cell 0 rfl,(g.out.2.1.ext0 (c.trans (a.trans d))).cell 1 rfl⟩|exact⟨((g.out.1.ext0 (c.trans (a.trans d))).ext (f.set2 _ _).2 (a0b (by omega))).cell 0 rfl,((g.out.1.ext0 (c.trans (a.trans d))).ext (f.set2 _ _).2 (a0b (by omega))).cell 1 rfl,((g.out.2.1.ext0 (c.trans (a.trans d))).ext (f.set2 _ _).2 (a0b (by omega))).cell 0 rfl,((g.out.2.1.ext0 (c.trans (a.trans d))).ext (f.set2 _ _).2 (a0b (by omega))).cell 1 rfl⟩|go_keep)
    (first|(go_at_call 234;refine(b3q (X:=a0e X b 3) (w:=wc.drew) m P Q).mono ?_;rintro e T ⟨a,U,rfl,q⟩)|(go_at_call 292;refine(a2i (a0e X b 3) T true U (x.natAbs*y.natAbs) (HX.ext (w:=wc.drew) m a) q).mono ?_;rintro e w6 ⟨d,u6,rfl,B,n,o,A,rfl,j,h,k⟩;have f:=g.out.2.2.ext0 (c.trans (a.trans d));have Z:=f.cell 0 rfl;have g2:=f.cell 1 rfl;have g3:=f.frozen 0;have g4:=f.frozen 1))
   obtain⟨r1,G⟩:=f.set2 (.bool B) (.slice n A.length o);have h7:=(k.mono (a0c.mono _) (a0f G (by omega) (by omega))).mono (a0c.mono _) a0h;rw[C.out]at h;have p:Ext w _:=ExtX.box (E.trans (c.trans (a.trans d))) G (by omega);clear Z g2 g3 g4 r s t z;go_wp2_with fail
   exact bodyPost_ret (a0d rfl rfl a0r r1 rfl) rfl ⟨p,_,rfl,B,n,o,A,rfl,j,h,h7⟩
  ·obtain rfl:sn=true:=i.out.symm
   clear i;go_wp2_with fail
   go_region_held3 (fun l=>l.cell? ⟨b,0,none⟩=some (.bool true)/\l.cell? ⟨b,1,none⟩=some (.slice H R.length L)/\l.cell? ⟨b+1,0,none⟩=some (.bool false)/\l.cell? ⟨b+1,1,none⟩=some (.slice I S.length M))
    (first|exact⟨(g.out.1.ext0 (c.trans a)).cell 0 rfl,(g.out.1.ext0 (c.trans a)).cell 1 rfl,(g.out.2.1.ext0 (c.trans a)).cell 0 rfl,(g.out.2.1.ext0 (c.trans a)).cell 1 rfl⟩|exact⟨(g.out.1.ext0 (c.trans (a.trans d))).cell 0 rfl,(g.out.1.ext0 (c.trans (a.trans d))).cell 1 rfl,(g.out.2.1.ext0 (c.trans (a.trans d))).cell 0 rfl,(g.out.2.1.ext0 (c.trans (a.trans d))).cell 1 rfl⟩|exact⟨((g.out.1.ext0 (c.trans (a.trans d))).ext (f.set2 _ _).2 (a0b (by omega))).cell 0 rfl,((g.out.1.ext0 (c.trans (a.trans d))).ext (f.set2 _ _).2 (a0b (by omega))).cell 1 rfl,((g.out.2.1.ext0 (c.trans (a.trans d))).ext (f.set2 _ _).2 (a0b (by omega))).cell 0 rfl,((g.out.2.1.ext0 (c.trans (a.trans d))).ext (f.set2 _ _).2 (a0b (by omega))).cell 1 rfl⟩|go_keep)
    (first|(go_at_call 234;refine(b3q (X:=a0e X b 3) (w:=wc.drew) m P Q).mono ?_;rintro e T ⟨a,U,rfl,q⟩)|(go_at_call 292;refine(a2i (a0e X b 3) T true U (x.natAbs*y.natAbs) (HX.ext (w:=wc.drew) m a) q).mono ?_;rintro e w6 ⟨d,u6,rfl,B,n,o,A,rfl,j,h,k⟩;have f:=g.out.2.2.ext0 (c.trans (a.trans d));have Z:=f.cell 0 rfl;have g2:=f.cell 1 rfl;have g3:=f.frozen 0;have g4:=f.frozen 1))
   obtain⟨r1,G⟩:=f.set2 (.bool B) (.slice n A.length o);have h7:=(k.mono (a0c.mono _) (a0f G (by omega) (by omega))).mono (a0c.mono _) a0h;rw[C.out]at h;have p:Ext w _:=ExtX.box (E.trans (c.trans (a.trans d))) G (by omega);clear Z g2 g3 g4 r s t z;go_wp2_with fail
   exact bodyPost_ret (a0d rfl rfl a0r r1 rfl) rfl ⟨p,_,rfl,B,n,o,A,rfl,j,h,h7⟩
  ·obtain rfl:sn=false:=i.out.symm
   clear i;go_wp2_with fail
   go_region_held3 (fun l=>l.cell? ⟨b,0,none⟩=some (.bool true)/\l.cell? ⟨b,1,none⟩=some (.slice H R.length L)/\l.cell? ⟨b+1,0,none⟩=some (.bool true)/\l.cell? ⟨b+1,1,none⟩=some (.slice I S.length M))
    (first|exact⟨(g.out.1.ext0 (c.trans a)).cell 0 rfl,(g.out.1.ext0 (c.trans a)).cell 1 rfl,(g.out.2.1.ext0 (c.trans a)).cell 0 rfl,(g.out.2.1.ext0 (c.trans a)).cell 1 rfl⟩|exact⟨(g.out.1.ext0 (c.trans (a.trans d))).cell 0 rfl,(g.out.1.ext0 (c.trans (a.trans d))).cell 1 rfl,(g.out.2.1.ext0 (c.trans (a.trans d))).cell 0 rfl,(g.out.2.1.ext0 (c.trans (a.trans d))).cell 1 rfl⟩|exact⟨((g.out.1.ext0 (c.trans (a.trans d))).ext (f.set2 _ _).2 (a0b (by omega))).cell 0 rfl,((g.out.1.ext0 (c.trans (a.trans d))).ext (f.set2 _ _).2 (a0b (by omega))).cell 1 rfl,((g.out.2.1.ext0 (c.trans (a.trans d))).ext (f.set2 _ _).2 (a0b (by omega))).cell 0 rfl,((g.out.2.1.ext0 (c.trans (a.trans d))).ext (f.set2 _ _).2 (a0b (by omega))).cell 1 rfl⟩|go_keep)
    (first|(go_at_call 234;refine(b3q (X:=a0e X b 3) (w:=wc.drew) m P Q).mono ?_;rintro e T ⟨a,U,rfl,q⟩)|(go_at_call 292;refine(a2i (a0e X b 3) T false U (x.natAbs*y.natAbs) (HX.ext (w:=wc.drew) m a) q).mono ?_;rintro e w6 ⟨d,u6,rfl,B,n,o,A,rfl,j,h,k⟩;have f:=g.out.2.2.ext0 (c.trans (a.trans d));have Z:=f.cell 0 rfl;have g2:=f.cell 1 rfl;have g3:=f.frozen 0;have g4:=f.frozen 1))
   obtain⟨r1,G⟩:=f.set2 (.bool B) (.slice n A.length o);have h7:=(k.mono (a0c.mono _) (a0f G (by omega) (by omega))).mono (a0c.mono _) a0h;rw[C.out]at h;have p:Ext w _:=ExtX.box (E.trans (c.trans (a.trans d))) G (by omega);clear Z g2 g3 g4 r s t z;go_wp2_with fail
   exact bodyPost_ret (a0d rfl rfl a0r r1 rfl) rfl ⟨p,_,rfl,B,n,o,A,rfl,j,h,h7⟩
theorem b7C(X:Nat->Bool)(w:World)(u:Value)(x:Int)(V:HX X w)(o:ZV (mk X w) u x):Calls Tryz.prog 296 #[u] w (a1u X w ZC (-x)):=by
 have C:=hid o.lg;obtain⟨s1,P,R,l1,rfl,E⟩:=id o;obtain⟨W,hW,K,n,I,hz⟩:=a0W w #[.bool s1, .slice P l1.length R] #[.bool false, .slice none 0 0] 39 39;have d:HX (a0e X w.heap.size 2) W:=V.boxes hz;have m:=ZV.mono _ _ _ _ (a0i (nb:=2) K) o;obtain⟨b,Y⟩:∃b,w.heap.size=b:=⟨_,rfl⟩;have Z:w.heap.size<=b:=by omega
 rw[Y]at n I hz d m;have f:=n.cell 0 rfl;have g:=n.cell 1 rfl;clear o E;go_enter Tryz.func296,Tryz.ntmps296
 go_wp2_with fail
 refine(a4A (a0e X b 2) W _ x d m).mono ?_;rintro e w5 ⟨a,u5,rfl,F⟩;have k:=d.ext a;clear f g;go_wp2_with fail
 refine(b4m (a0e X b 2) w5 _ x k F C.out).mono ?_;rintro e w6 ⟨c,u6,rfl,G,H,J,L,rfl,v,h,y⟩;have q:=(n.ext0 a).ext0 c;have r:=(I.ext0 a).ext0 c;have D:=hid (a3E h);go_wp2_with ((with_reducible show wpList _ _ _ (⟨_, .store _ _ _,_,_,_,_⟩::_) _ _);refine a0a a0r rfl rfl q rfl rfl (a2o _ _ _ _) ?_;intro O N p;have f:=N.cell 0 rfl;have g:=N.cell 1 rfl)
 have B:=(k.ext c).ext p;have s:=r.ext p (a0b (by omega));have hn:NC (mk (a0e X b 2) O) (.slice H L.length J) x.natAbs:=⟨H,J,L,rfl,v,h.2,y.mono (a0c.mono _) (a0f p (by omega) (by omega))⟩;have l:Hid (sg (!G) x.natAbs= -x):=hid (by
  have T:=D.out;rw[<-T,a5L];unfold sg;cases G<;>simp)
 refine(a2i (a0e X b 2) O (!G) _ _ B hn).mono ?_;rintro e w8 ⟨j,u8,rfl,s8,Q,S,l8,rfl,z,i,A⟩;rw[l.out]at i;have t:=s.ext0 j;clear f g;go_wp2_with ((with_reducible show wpList _ _ _ (⟨_, .store _ _ _,_,_,_,_⟩::_) _ _);refine a0a a0r rfl rfl t rfl rfl (a2o _ _ _ _) ?_;intro w9 q1 M)
 have U:=(A.mono (a0c.mono _) (a0f M (by omega) (by omega))).mono (a0c.mono _) a0h;exact bodyPost_ret (a0d rfl rfl a0r q1 rfl) rfl ⟨ExtX.box ((ExtX.box (K.trans (a.trans c)) p (by omega)).trans j) M (by omega),_,rfl,s8,Q,S,l8,rfl,z,i,U⟩
theorem a9i(X:Nat->Bool)(w:World)(u:Value)(x:Int)(I:HX X w)(z:ZV (mk X w) u x):Calls Tryz.prog 206 #[u] w (a2L w x.sign):=by
 obtain⟨N,D,E,M,rfl,A⟩:=id z;obtain⟨W,Q,t,s,hz⟩:=a0J w #[.bool N, .slice D M.length E] 39;have p:HX (a0e X w.heap.size 1) W:=I.boxes hz;have q:=ZV.mono _ _ _ _ (a0i (nb:=1) t) z;obtain⟨b,J⟩:∃b,w.heap.size=b:=⟨_,rfl⟩;have K:w.heap.size<=b:=by omega
 rw[J]at s hz p q;have j:=s.cell 0 rfl;have k:=s.cell 1 rfl;clear z A;go_enter Tryz.func206,Tryz.ntmps206
 go_wp2_with fail
 refine(a4A (a0e X b 1) W _ x p q).mono ?_;rintro e S ⟨g,R,rfl,B,O,P,v,rfl,F,n,G⟩;have m:=s.ext0 g;have d:=hid n.len0;have f:=hid n.1;clear j k n;by_cases o:v.length=0
 ·have i:x=0:=d.out.1 o
  subst i;have H:((v.length:Int)==0)=true:=b5A (by omega);have L:(v.length:Int)=0:=by omega
  clear d f o;go_wp2_with ((with_reducible show wpList _ _ _ (⟨_, .store _ _ _,_,_,_,_⟩::_) _ _);refine a0a a0r rfl rfl m rfl rfl (a2o _ _ _ _) ?_;intro C l r;have j:=l.cell 0 rfl;have k:=l.cell 1 rfl)
  have c:=ExtX.box (t.trans g) r (by omega);go_ret
  exact⟨c,rfl⟩
 ·have H:((v.length:Int)==0)=false:=a2S (by omega)
  have i:¬x=0:=fun h=>o (d.out.2 h);by_cases a:x<0
  ·have y:Hid (x.sign= -1):=hid (Int.sign_eq_neg_one_of_neg a)
   obtain rfl:B=true:=by rw[f.out];exact decide_eq_true a
   clear d o i a f;go_wp2_with ((with_reducible show wpList _ _ _ (⟨_, .store _ _ _,_,_,_,_⟩::_) _ _);refine a0a a0r rfl rfl m rfl rfl (a2o _ _ _ _) ?_;intro C l r;have j:=l.cell 0 rfl;have k:=l.cell 1 rfl)
   have c:=ExtX.box (t.trans g) r (by omega);go_ret
   exact⟨c,a0y y.out.symm⟩
  ·have y:Hid (x.sign=1):=hid (Int.sign_eq_one_of_pos (by omega))
   obtain rfl:B=false:=by rw[f.out];exact decide_eq_false a
   clear d o i a f;go_wp2_with ((with_reducible show wpList _ _ _ (⟨_, .store _ _ _,_,_,_,_⟩::_) _ _);refine a0a a0r rfl rfl m rfl rfl (a2o _ _ _ _) ?_;intro C l r;have j:=l.cell 0 rfl;have k:=l.cell 1 rfl)
   have c:=ExtX.box (t.trans g) r (by omega);go_ret
   exact⟨c,a0y y.out.symm⟩
theorem b0d(X:Nat->Bool)(w:World)(u v:Value)(x y:Int)(hX:HX X w)(hu:ZV (mk X w) u x)(hv:ZV (mk X w) v y)(b5:lg x.natAbs<=274877906944)(b6:lg y.natAbs<=274877906944):Calls Tryz.prog 121 #[u,v] w (a1u X w ZC (x*y)):=by
 have C:=hid b5;have D:=hid b6;clear b5 b6;have f3:=hid hu.lg;have f4:=hid hv.lg;obtain⟨s1,a1,c1,l1,rfl,f7⟩:=id hu;obtain⟨s2,a2,c2,l2,rfl,f8⟩:=id hv;obtain⟨W,hW,hE,L,M,b2,hz⟩:=a1F w #[.bool s1, .slice a1 l1.length c1] #[.bool s2, .slice a2 l2.length c2] #[.bool false, .slice none 0 0] 39 39 39;have b4:HX (a0e X w.heap.size 3) W:=hX.boxes hz;have a9:=ZV.mono _ _ _ _ (a0i (nb:=3) hE) hu;have b3:=ZV.mono _ _ _ _ (a0i (nb:=3) hE) hv;obtain⟨b,hb⟩:∃b,w.heap.size=b:=⟨_,rfl⟩;have f0:w.heap.size<=b:=by omega
 rw[hb]at L M b2 hz b4 a9 b3;have c:Ext W W.drew:=(ExtX.refl W).drew;have a7:HX (a0e X b 3) W.drew:=b4;have b9:ZV (mk (a0e X b 3) W.drew) (.agg #[.bool s1, .slice a1 l1.length c1]) x:=a9;have c0:ZV (mk (a0e X b 3) W.drew) (.agg #[.bool s2, .slice a2 l2.length c2]) y:=b3;have r:=L.cell 0 rfl;have s:=L.cell 1 rfl;have t:=M.cell 0 rfl;have z:=M.cell 1 rfl;clear hu hv f7 f8;go_enter Tryz.func121,Tryz.ntmps121
 go_upto_region 1 with(fail)
 go_cut []from 5 to 8 (fun wx=>∃s3 J N T s4 K O U,Bx wx b #[.bool s3, .slice J T N] 39/\Bx wx (b+1) #[.bool s4, .slice K U O] 39/\Bx wx (b+1+1) #[.bool false, .slice none 0 0] 39/\ZC (mk (a0e X b 3) wx) (.agg #[.bool s3, .slice J T N]) x/\ZC (mk (a0e X b 3) wx) (.agg #[.bool s4, .slice K U O]) y/\Ext w wx)
 case first=>
  go_region_with (first|(go_at_call 194;(with_reducible refine(a3d (a0e X b 3) W.drew _ x a7 b9).mono ?_);rintro e V ⟨a,Y,rfl,s5,a5,c5,l5,rfl,e7,e8,e9⟩;have Z:=L.ext0 (c.trans a);have a0:=M.ext0 (c.trans a);have c8:=Z.cell 0 rfl;have c9:=Z.cell 1 rfl;have d0:=a0.cell 0 rfl;have d1:=a0.cell 1 rfl)|(go_at_call 194;(with_reducible refine(a3d (a0e X b 3) V _ y (HX.ext a7 a) (mkx ZV.mono c0 a)).mono ?_);rintro e w6 ⟨d,u6,rfl,B,n,o,A,rfl,j,h,k⟩;have f:=Z.ext0 d;have F:=a0.ext0 d;have d6:=f.cell 0 rfl;have d7:=f.cell 1 rfl;have d8:=F.cell 0 rfl;have d9:=F.cell 1 rfl;have d2:=f.frozen 0;have d3:=f.frozen 1;have d4:=F.frozen 0;have d5:=F.frozen 1))
  all_goals
   obtain⟨wf,c7,q0,q1,q2,q3,q4⟩:=a1K (X:=X) (nb:=3) f F (hE.trans ((c.trans a).trans d)) f0 (by omega) (.bool s5) (.slice a5 l5.length c5) (.bool B) (.slice n A.length o);rw[c7];have f1:ZC (mk (a0e X b 3) wf) (.agg #[.bool s5, .slice a5 l5.length c5]) x:=⟨s5,a5,c5,l5,rfl,e7,e8,(e9.mono (a0c.mono _) (a0k d)).mono (a0c.mono _) q4⟩;have f2:ZC (mk (a0e X b 3) wf) (.agg #[.bool B, .slice n A.length o]) y:=⟨B,n,o,A,rfl,j,h,k.mono (a0c.mono _) q4⟩;have q5:=q2 (b+1+1) _ _ (by omega) (by omega) ((b2.ext0 (c.trans a)).ext0 d);clear c8 c9 d0 d1 d6 d7 d8 d9 d2 d3 d4 d5 r s t z c7;go_wp2_with fail
   go_meet
   exact⟨_,_,_,_,_,_,_,_,q0,q1,q5,f1,f2,q3⟩
 case rest=>
  clear r s t z L M b2 a9 b3 b9 c0 a7 c hW;obtain⟨s3,J,N,n3,s4,K,O,n4,L,M,b2,hx,hy,G⟩:=hcut;obtain⟨_,_,_,T,H,e0,P,e3⟩:=hx;simp only[Value.agg.injEq,Array.mk.injEq,List.cons.injEq,Value.bool.injEq,Value.slice.injEq,and_true]at H;obtain⟨rfl,rfl,rfl,rfl⟩:=H;obtain⟨_,_,_,U,H,e4,Q,e6⟩:=hy;simp only[Value.agg.injEq,Array.mk.injEq,List.cons.injEq,Value.bool.injEq,Value.slice.injEq,and_true]at H;obtain⟨rfl,rfl,rfl,rfl⟩:=H;have b8:=hid (a3E P);have b7:=hid (a3E Q);have f5:=hid P.1;have f6:=hid Q.1;have c:Ext wc wc.drew:=(ExtX.refl wc).drew;have R:NV (mk (a0e X b 3) wc) (.slice J T.length N) x.natAbs:=NC.nv ⟨J,N,T,rfl,e0,P.2,e3⟩ (by have:=f3.out;omega);have S:NV (mk (a0e X b 3) wc) (.slice K U.length O) y.natAbs:=NC.nv ⟨K,O,U,rfl,e4,Q.2,e6⟩ (by have:=f4.out;omega);have f9:w.heap.size+3<=wc.heap.size:=by have:=b2.lt;omega
  have m:HX (a0e X b 3) wc:=hX.boxes' G (by omega) f9;have g:=hid (And.intro L (And.intro M b2));have r:=L.cell 0 rfl;have s:=L.cell 1 rfl;have t:=M.cell 0 rfl;have z:=M.cell 1 rfl;have g0:b+1≠b+1+1:=by omega
  have g5:b≠b+1+1:=by omega
  obtain⟨sn,a8⟩:∃sn,(s3 !=s4)=sn:=⟨_,rfl⟩;have E:Hid (sg sn (x.natAbs*y.natAbs)=x*y):=hid (by
   have e1:=b8.out;have e2:=b7.out;rw[<-a8,<-e1,<-e2,a5L,a5L];unfold sg;cases s3<;>cases s4<;>simp[Int.natCast_mul,Int.neg_mul,Int.mul_neg])
  have i:=hid a8;clear f5 f6 b8 b7 a8 P Q;cases s3<;>cases s4
  ·obtain rfl:sn=false:=i.out.symm
   clear i;go_wp2_with fail
   go_region_held3 (fun l=>l.cell? ⟨b,0,none⟩=some (.bool false)/\l.cell? ⟨b,1,none⟩=some (.slice J T.length N)/\l.cell? ⟨b+1,0,none⟩=some (.bool false)/\l.cell? ⟨b+1,1,none⟩=some (.slice K U.length O))
    (first|exact⟨(g.out.1.ext0 (c.trans a)).cell 0 rfl,(g.out.1.ext0 (c.trans a)).cell 1 rfl,(g.out.2.1.ext0 (c.trans a)).cell 0 rfl,(g.out.2.1.ext0 (c.trans a)).cell 1 rfl⟩|exact⟨(g.out.1.ext0 (c.trans (a.trans d))).cell 0 rfl,(g.out.1.ext0 (c.trans (a.trans d))).cell 1 rfl,(g.out.2.1.ext0 (c.trans (a.trans d))).cell 0 rfl,(g.out.2.1.ext0 (c.trans (a.trans d))).cell 1 rfl⟩|exact⟨((g.out.1.ext0 (c.trans (a.trans d))).ext (f.set2 _ _).2 (a0b (by omega))).cell 0 rfl,((g.out.1.ext0 (c.trans (a.trans d))).ext (f.set2 _ _).2 (a0b (by omega))).cell 1 rfl,((g.out.2.1.ext0 (c.trans (a.trans d))).ext (f.set2 _ _).2 (a0b (by omega))).cell 0 rfl,((g.out.2.1.ext0 (c.trans (a.trans d))).ext (f.set2 _ _).2 (a0b (by omega))).cell 1 rfl⟩|go_keep)
    (first|(go_at_call 203;refine(b1U (a0e X b 3) wc.drew _ _ _ _ m R S C.out D.out).mono ?_;rintro e V ⟨a,Y,rfl,q⟩)|(go_at_call 200;refine(a1k (a0e X b 3) V false Y (x.natAbs*y.natAbs) (HX.ext (w:=wc.drew) m a) q).mono ?_;rintro e w6 ⟨d,u6,rfl,B,n,o,A,rfl,j,h,k⟩;have f:=g.out.2.2.ext0 (c.trans (a.trans d));have g1:=f.cell 0 rfl;have g2:=f.cell 1 rfl;have g3:=f.frozen 0;have g4:=f.frozen 1))
   obtain⟨r1,I⟩:=f.set2 (.bool B) (.slice n A.length o);have h7:=(k.mono (a0c.mono _) (a0f I (by omega) (by omega))).mono (a0c.mono _) a0h;rw[E.out]at h;have p:Ext w _:=ExtX.box (G.trans (c.trans (a.trans d))) I (by omega);clear g1 g2 g3 g4 r s t z;go_wp2_with fail
   exact bodyPost_ret (a0d rfl rfl a0r r1 rfl) rfl ⟨p,_,rfl,B,n,o,A,rfl,j,h,h7⟩
  ·obtain rfl:sn=true:=i.out.symm
   clear i;go_wp2_with fail
   go_region_held3 (fun l=>l.cell? ⟨b,0,none⟩=some (.bool false)/\l.cell? ⟨b,1,none⟩=some (.slice J T.length N)/\l.cell? ⟨b+1,0,none⟩=some (.bool true)/\l.cell? ⟨b+1,1,none⟩=some (.slice K U.length O))
    (first|exact⟨(g.out.1.ext0 (c.trans a)).cell 0 rfl,(g.out.1.ext0 (c.trans a)).cell 1 rfl,(g.out.2.1.ext0 (c.trans a)).cell 0 rfl,(g.out.2.1.ext0 (c.trans a)).cell 1 rfl⟩|exact⟨(g.out.1.ext0 (c.trans (a.trans d))).cell 0 rfl,(g.out.1.ext0 (c.trans (a.trans d))).cell 1 rfl,(g.out.2.1.ext0 (c.trans (a.trans d))).cell 0 rfl,(g.out.2.1.ext0 (c.trans (a.trans d))).cell 1 rfl⟩|exact⟨((g.out.1.ext0 (c.trans (a.trans d))).ext (f.set2 _ _).2 (a0b (by omega))).cell 0 rfl,((g.out.1.ext0 (c.trans (a.trans d))).ext (f.set2 _ _).2 (a0b (by omega))).cell 1 rfl,((g.out.2.1.ext0 (c.trans (a.trans d))).ext (f.set2 _ _).2 (a0b (by omega))).cell 0 rfl,((g.out.2.1.ext0 (c.trans (a.trans d))).ext (f.set2 _ _).2 (a0b (by omega))).cell 1 rfl⟩|go_keep)
    (first|(go_at_call 203;refine(b1U (a0e X b 3) wc.drew _ _ _ _ m R S C.out D.out).mono ?_;rintro e V ⟨a,Y,rfl,q⟩)|(go_at_call 200;refine(a1k (a0e X b 3) V true Y (x.natAbs*y.natAbs) (HX.ext (w:=wc.drew) m a) q).mono ?_;rintro e w6 ⟨d,u6,rfl,B,n,o,A,rfl,j,h,k⟩;have f:=g.out.2.2.ext0 (c.trans (a.trans d));have g1:=f.cell 0 rfl;have g2:=f.cell 1 rfl;have g3:=f.frozen 0;have g4:=f.frozen 1))
   obtain⟨r1,I⟩:=f.set2 (.bool B) (.slice n A.length o);have h7:=(k.mono (a0c.mono _) (a0f I (by omega) (by omega))).mono (a0c.mono _) a0h;rw[E.out]at h;have p:Ext w _:=ExtX.box (G.trans (c.trans (a.trans d))) I (by omega);clear g1 g2 g3 g4 r s t z;go_wp2_with fail
   exact bodyPost_ret (a0d rfl rfl a0r r1 rfl) rfl ⟨p,_,rfl,B,n,o,A,rfl,j,h,h7⟩
  ·obtain rfl:sn=true:=i.out.symm
   clear i;go_wp2_with fail
   go_region_held3 (fun l=>l.cell? ⟨b,0,none⟩=some (.bool true)/\l.cell? ⟨b,1,none⟩=some (.slice J T.length N)/\l.cell? ⟨b+1,0,none⟩=some (.bool false)/\l.cell? ⟨b+1,1,none⟩=some (.slice K U.length O))
    (first|exact⟨(g.out.1.ext0 (c.trans a)).cell 0 rfl,(g.out.1.ext0 (c.trans a)).cell 1 rfl,(g.out.2.1.ext0 (c.trans a)).cell 0 rfl,(g.out.2.1.ext0 (c.trans a)).cell 1 rfl⟩|exact⟨(g.out.1.ext0 (c.trans (a.trans d))).cell 0 rfl,(g.out.1.ext0 (c.trans (a.trans d))).cell 1 rfl,(g.out.2.1.ext0 (c.trans (a.trans d))).cell 0 rfl,(g.out.2.1.ext0 (c.trans (a.trans d))).cell 1 rfl⟩|exact⟨((g.out.1.ext0 (c.trans (a.trans d))).ext (f.set2 _ _).2 (a0b (by omega))).cell 0 rfl,((g.out.1.ext0 (c.trans (a.trans d))).ext (f.set2 _ _).2 (a0b (by omega))).cell 1 rfl,((g.out.2.1.ext0 (c.trans (a.trans d))).ext (f.set2 _ _).2 (a0b (by omega))).cell 0 rfl,((g.out.2.1.ext0 (c.trans (a.trans d))).ext (f.set2 _ _).2 (a0b (by omega))).cell 1 rfl⟩|go_keep)
    (first|(go_at_call 203;refine(b1U (a0e X b 3) wc.drew _ _ _ _ m R S C.out D.out).mono ?_;rintro e V ⟨a,Y,rfl,q⟩)|(go_at_call 200;refine(a1k (a0e X b 3) V true Y (x.natAbs*y.natAbs) (HX.ext (w:=wc.drew) m a) q).mono ?_;rintro e w6 ⟨d,u6,rfl,B,n,o,A,rfl,j,h,k⟩;have f:=g.out.2.2.ext0 (c.trans (a.trans d));have g1:=f.cell 0 rfl;have g2:=f.cell 1 rfl;have g3:=f.frozen 0;have g4:=f.frozen 1))
   obtain⟨r1,I⟩:=f.set2 (.bool B) (.slice n A.length o);have h7:=(k.mono (a0c.mono _) (a0f I (by omega) (by omega))).mono (a0c.mono _) a0h;rw[E.out]at h;have p:Ext w _:=ExtX.box (G.trans (c.trans (a.trans d))) I (by omega);clear g1 g2 g3 g4 r s t z;go_wp2_with fail
   exact bodyPost_ret (a0d rfl rfl a0r r1 rfl) rfl ⟨p,_,rfl,B,n,o,A,rfl,j,h,h7⟩
  ·obtain rfl:sn=false:=i.out.symm
   clear i;go_wp2_with fail
   go_region_held3 (fun l=>l.cell? ⟨b,0,none⟩=some (.bool true)/\l.cell? ⟨b,1,none⟩=some (.slice J T.length N)/\l.cell? ⟨b+1,0,none⟩=some (.bool true)/\l.cell? ⟨b+1,1,none⟩=some (.slice K U.length O))
    (first|exact⟨(g.out.1.ext0 (c.trans a)).cell 0 rfl,(g.out.1.ext0 (c.trans a)).cell 1 rfl,(g.out.2.1.ext0 (c.trans a)).cell 0 rfl,(g.out.2.1.ext0 (c.trans a)).cell 1 rfl⟩|exact⟨(g.out.1.ext0 (c.trans (a.trans d))).cell 0 rfl,(g.out.1.ext0 (c.trans (a.trans d))).cell 1 rfl,(g.out.2.1.ext0 (c.trans (a.trans d))).cell 0 rfl,(g.out.2.1.ext0 (c.trans (a.trans d))).cell 1 rfl⟩|exact⟨((g.out.1.ext0 (c.trans (a.trans d))).ext (f.set2 _ _).2 (a0b (by omega))).cell 0 rfl,((g.out.1.ext0 (c.trans (a.trans d))).ext (f.set2 _ _).2 (a0b (by omega))).cell 1 rfl,((g.out.2.1.ext0 (c.trans (a.trans d))).ext (f.set2 _ _).2 (a0b (by omega))).cell 0 rfl,((g.out.2.1.ext0 (c.trans (a.trans d))).ext (f.set2 _ _).2 (a0b (by omega))).cell 1 rfl⟩|go_keep)
    (first|(go_at_call 203;refine(b1U (a0e X b 3) wc.drew _ _ _ _ m R S C.out D.out).mono ?_;rintro e V ⟨a,Y,rfl,q⟩)|(go_at_call 200;refine(a1k (a0e X b 3) V false Y (x.natAbs*y.natAbs) (HX.ext (w:=wc.drew) m a) q).mono ?_;rintro e w6 ⟨d,u6,rfl,B,n,o,A,rfl,j,h,k⟩;have f:=g.out.2.2.ext0 (c.trans (a.trans d));have g1:=f.cell 0 rfl;have g2:=f.cell 1 rfl;have g3:=f.frozen 0;have g4:=f.frozen 1))
   obtain⟨r1,I⟩:=f.set2 (.bool B) (.slice n A.length o);have h7:=(k.mono (a0c.mono _) (a0f I (by omega) (by omega))).mono (a0c.mono _) a0h;rw[E.out]at h;have p:Ext w _:=ExtX.box (G.trans (c.trans (a.trans d))) I (by omega);clear g1 g2 g3 g4 r s t z;go_wp2_with fail
   exact bodyPost_ret (a0d rfl rfl a0r r1 rfl) rfl ⟨p,_,rfl,B,n,o,A,rfl,j,h,h7⟩
def b3s(w:World)(b:Bool)(e:Ending)(w':World):Prop:=Ext w w'/\e= .returned (.bool b)
theorem b4n(X:Nat->Bool)(w:World)(u:Value)(x:Int)(S:HX X w)(B:ZV (mk X w) u x):Calls Tryz.prog 129 #[u] w (a1u X w ZC (-x)):=by
 obtain⟨s1,M,O,Y,rfl,C⟩:=id B;obtain⟨W,hW,H,l,F,hz⟩:=a0W w #[.bool s1, .slice M Y.length O] #[.bool false, .slice none 0 0] 39 39;have c:HX (a0e X w.heap.size 2) W:=S.boxes hz;have k:=ZV.mono _ _ _ _ (a0i (nb:=2) H) B;obtain⟨b,T⟩:∃b,w.heap.size=b:=⟨_,rfl⟩;have U:w.heap.size<=b:=by omega
 rw[T]at l F hz c k;have d:=l.cell 0 rfl;have f:=l.cell 1 rfl;clear B C;go_enter Tryz.func129,Tryz.ntmps129
 go_wp2_with fail
 refine(a3d (a0e X b 2) W _ x c k).mono ?_;rintro e w6 ⟨a,u6,rfl,D,E,G,I,rfl,r,g,s⟩;have y:=c.ext a;have n:=l.ext0 a;have o:=F.ext0 a;have A:=hid (a3E g);clear d f;go_wp2_with ((with_reducible show wpList _ _ _ (⟨_, .store _ _ _,_,_,_,_⟩::_) _ _);refine a0a a0r rfl rfl n rfl rfl (a2o _ _ _ _) ?_;intro L K m;have d:=K.cell 0 rfl;have f:=K.cell 1 rfl)
 have z:=y.ext m;have p:=o.ext m (a0b (by omega));have V:NC (mk (a0e X b 2) L) (.slice E I.length G) x.natAbs:=⟨E,G,I,rfl,r,g.2,s.mono (a0c.mono _) (a0f m (by omega) (by omega))⟩;have j:Hid (sg (!D) x.natAbs= -x):=hid (by
  have Q:=A.out;rw[<-Q,a5L];unfold sg;cases D<;>simp)
 refine(a1k (a0e X b 2) L (!D) _ _ z V).mono ?_;rintro e w8 ⟨i,u8,rfl,s8,N,P,Z,rfl,t,h,v⟩;rw[j.out]at h;have q:=p.ext0 i;clear d f;go_wp2_with ((with_reducible show wpList _ _ _ (⟨_, .store _ _ _,_,_,_,_⟩::_) _ _);refine a0a a0r rfl rfl q rfl rfl (a2o _ _ _ _) ?_;intro w9 q1 J)
 have R:=(v.mono (a0c.mono _) (a0f J (by omega) (by omega))).mono (a0c.mono _) a0h;exact bodyPost_ret (a0d rfl rfl a0r q1 rfl) rfl ⟨ExtX.box ((ExtX.box (H.trans a) m (by omega)).trans i) J (by omega),_,rfl,s8,N,P,Z,rfl,t,h,R⟩
theorem b3t(X:Nat->Bool)(w:World)(u:Value)(x:Int)(H:HX X w)(z:ZV (mk X w) u x):Calls Tryz.prog 117 #[u] w (a2L w x.sign):=by
 obtain⟨L,E,F,K,rfl,A⟩:=id z;obtain⟨W,O,t,s,hz⟩:=a0J w #[.bool L, .slice E K.length F] 39;have p:HX (a0e X w.heap.size 1) W:=H.boxes hz;have q:=ZV.mono _ _ _ _ (a0i (nb:=1) t) z;obtain⟨b,I⟩:∃b,w.heap.size=b:=⟨_,rfl⟩;have J:w.heap.size<=b:=by omega
 rw[I]at s hz p q;have i:=s.cell 0 rfl;have j:=s.cell 1 rfl;clear z A;go_enter Tryz.func117,Tryz.ntmps117
 go_wp2_with fail
 refine(a3d (a0e X b 1) W _ x p q).mono ?_;rintro e R ⟨g,Q,rfl,C,M,N,B,rfl,v,m,G⟩;have l:=s.ext0 g;have d:=hid m.len0;have f:=hid m.1;clear i j m;by_cases a:x<0
 ·have y:Hid (x.sign= -1):=hid (Int.sign_eq_neg_one_of_neg a)
  obtain rfl:C=true:=by rw[f.out];exact decide_eq_true a
  clear d a f;go_wp2_with ((with_reducible show wpList _ _ _ (⟨_, .store _ _ _,_,_,_,_⟩::_) _ _);refine a0a a0r rfl rfl l rfl rfl (a2o _ _ _ _) ?_;intro D k r;have i:=k.cell 0 rfl;have j:=k.cell 1 rfl)
  have c:=ExtX.box (t.trans g) r (by omega);go_ret
  exact⟨c,a0y y.out.symm⟩
 ·obtain rfl:C=false:=by rw[f.out];exact decide_eq_false a
  by_cases o:B.length=0
  ·have n:x=0:=d.out.1 o
   subst n;obtain rfl:B= []:=List.eq_nil_of_length_eq_zero o;clear d f o a;simp only[List.length_nil]at v |-;go_wp2_with ((with_reducible show wpList _ _ _ (⟨_, .store _ _ _,_,_,_,_⟩::_) _ _);refine a0a a0r rfl rfl l rfl rfl (a2o _ _ _ _) ?_;intro D k r;have i:=k.cell 0 rfl;have j:=k.cell 1 rfl)
   have c:=ExtX.box (t.trans g) r (by omega);go_ret
   exact⟨c,rfl⟩
  ·have n:¬x=0:=fun h=>o (d.out.2 h)
   have P:0<B.length:=by omega
   have y:Hid (x.sign=1):=hid (Int.sign_eq_one_of_pos (by omega));clear d n a f o;go_wp2_with ((with_reducible show wpList _ _ _ (⟨_, .store _ _ _,_,_,_,_⟩::_) _ _);refine a0a a0r rfl rfl l rfl rfl (a2o _ _ _ _) ?_;intro D k r;have i:=k.cell 0 rfl;have j:=k.cell 1 rfl)
   have c:=ExtX.box (t.trans g) r (by omega);go_ret
   exact⟨c,a0y y.out.symm⟩
theorem b0e(X:Nat->Bool)(w:World)(v:Int)(N:HX X w)(T: -9223372036854775808<=v)(U:v<=9223372036854775807):Calls Tryz.prog 127 #[.int .i64 v] w (a1u X w ZC v):=by
 obtain⟨W,V,K,x,hz⟩:=a0J w #[.bool false, .slice none 0 0] 39;have d:HX (a0e X w.heap.size 1) W:=N.boxes hz;obtain⟨b,O⟩:∃b,w.heap.size=b:=⟨_,rfl⟩;have P:w.heap.size<=b:=by omega
 rw[O]at x hz d;by_cases Y:v<0
 ·obtain⟨n,C⟩:∃n:Nat,-(v+1)=n:=Int.eq_ofNat_of_zero_le (by omega)
  have E:Hid (sg true (n+1)=v):=hid (by unfold sg;simp;omega);have G:Hid (-(v+1)=(n:Int)):=hid C;have D:Hid (n<18446744073709551616):=hid (by omega);have Q:(n:Int)<=9223372036854775807:=by omega
  clear C;go_enter Tryz.func127,Tryz.ntmps127
  go_wp2_with fail
  rw[G.out];refine(b3r (X:=a0e X b 1) d D.out).mono ?_;rintro e t ⟨a,L,rfl,h⟩;have m:=d.ext a;go_wp2_with fail
  have i:=NC.lit m 1 110 (by omega) (by omega);have c:Ext t (t.alloc (.cells #[.int .u32 ((1:Nat):Int)] 110)):=(ExtX.refl t).alloc _;have q:lg n<=1099511627776:=by
   have:n<B^2:=by rw[a0S];omega
   have:=a2n.2 this;omega
  refine(b1T (m.ext c) (mkx NV.mono (h.nv q) c) (i.nv (by rw[a2O];decide))).mono ?_;rintro e M ⟨o,S,rfl,F⟩;have f:=a.trans (c.trans o);have A:=d.ext f;clear a c o m i h q;go_wp2_with fail
  refine(a1k (a0e X b 1) M true S _ A F).mono ?_;rintro e w8 ⟨p,R,rfl,J,u,y,H,rfl,k,g,l⟩;rw[E.out]at g;have j:=(x.ext0 f).ext0 p;go_wp2_with ((with_reducible show wpList _ _ _ (⟨_, .store _ _ _,_,_,_,_⟩::_) _ _);refine a0a a0r rfl rfl j rfl rfl (a2o _ _ _ _) ?_;intro w9 I s)
  have z:=(l.mono (a0c.mono _) (a0f s (by omega) (by omega))).mono (a0c.mono _) a0h;exact bodyPost_ret (a0d rfl rfl a0r I rfl) rfl ⟨ExtX.box (K.trans (f.trans p)) s (by omega),_,rfl,J,u,y,H,rfl,k,g,z⟩
 ·obtain⟨n,rfl⟩:=Int.eq_ofNat_of_zero_le (show 0<=v by omega)
  have C:Hid (sg false n=(n:Int)):=hid rfl;have r:Hid (n<18446744073709551616):=hid (by omega);go_enter Tryz.func127,Tryz.ntmps127
  go_wp2_with fail
  refine(b3r (X:=a0e X b 1) d r.out).mono ?_;rintro e t ⟨a,L,rfl,h⟩;go_wp2_with fail
  refine(a1k (a0e X b 1) t false L n (d.ext a) h).mono ?_;rintro e Z ⟨c,R,rfl,J,u,y,H,rfl,k,g,l⟩;have j:=(x.ext0 a).ext0 c;go_wp2_with ((with_reducible show wpList _ _ _ (⟨_, .store _ _ _,_,_,_,_⟩::_) _ _);refine a0a a0r rfl rfl j rfl rfl (a2o _ _ _ _) ?_;intro M I s)
  have z:=(l.mono (a0c.mono _) (a0f s (by omega) (by omega))).mono (a0c.mono _) a0h;exact bodyPost_ret (a0d rfl rfl a0r I rfl) rfl ⟨ExtX.box (K.trans (a.trans c)) s (by omega),_,rfl,J,u,y,H,rfl,k,g,z⟩
theorem a6Q(s:Bool)(a:Option Addr)(n c:Nat)(W:World):(Instr.field 39 (.agg #[.bool s, .slice a n c]) 1).run Tryz.prog W= .ok (.slice a n c) W:=by kernel_rfl
theorem b5Z(X:Nat->Bool)(w:World)(u v:Value)(x y:Int)(hX:HX X w)(r:ZV (mk X w) u x)(s:ZV (mk X w) v y)(l:lg x.natAbs<=274877906944)(m:lg y.natAbs<=274877906944):Calls Tryz.prog 197 #[u,v] w (a1u X w NC (Nat.gcd x.natAbs y.natAbs)):=by
 have c:=hid l;have d:=hid m;clear l m;have a3:=hid r.lg;have a4:=hid s.lg;obtain⟨s1,a1,c1,l1,rfl,P⟩:=id r;obtain⟨s2,a2,c2,l2,rfl,S⟩:=id s;obtain⟨W,hW,I,p,q,hz⟩:=a0W w #[.bool s1, .slice a1 l1.length c1] #[.bool s2, .slice a2 l2.length c2] 39 39;have k:HX (a0e X w.heap.size 2) W:=hX.boxes hz;have n:=ZV.mono _ _ _ _ (a0i (nb:=2) I) r;have o:=ZV.mono _ _ _ _ (a0i (nb:=2) I) s;obtain⟨b,hb⟩:∃b,w.heap.size=b:=⟨_,rfl⟩;have a0:w.heap.size<=b:=by omega
 rw[hb]at p q hz k n o;have g:Ext W W.drew:=(ExtX.refl W).drew;have h:HX (a0e X b 2) W.drew:=k;have R:ZV (mk (a0e X b 2) W.drew) (.agg #[.bool s1, .slice a1 l1.length c1]) x:=n;have T:ZV (mk (a0e X b 2) W.drew) (.agg #[.bool s2, .slice a2 l2.length c2]) y:=o;have U:=p.cell 0 rfl;have V:=p.cell 1 rfl;have Y:=q.cell 0 rfl;have Z:=q.cell 1 rfl;clear r s P S;have hB:=hid (And.intro p q);have M:=a6Q;go_enter Tryz.func197,Tryz.ntmps197
 go_wp2_with fail
 go_region_with (first|(go_at_call 194;(with_reducible refine(a3d (a0e X b 2) W.drew _ x h R).mono ?_);rintro e w5 ⟨a,u5,rfl,s5,a5,c5,l5,rfl,C,D,E⟩;have i:=hB.out.1.ext0 (g.trans a);have j:=hB.out.2.ext0 (g.trans a);have t:=i.cell 0 rfl;have z:=i.cell 1 rfl;have A:=j.cell 0 rfl;have B:=j.cell 1 rfl)|(go_at_call 194;(with_reducible refine(a3d (a0e X b 2) w5 _ y (HX.ext h a) (mkx ZV.mono T a)).mono ?_);rintro e w6 ⟨f,u6,rfl,s6,a6,c6,l6,rfl,F,G,H⟩;have L:=HX.ext (HX.ext h a) f;have N:NV (mk (a0e X b 2) w6) (.slice a5 l5.length c5) x.natAbs:=NC.nv ⟨a5,c5,l5,rfl,C,D.2,E.mono (a0c.mono _) (a0k f)⟩ (by have:=c.out;omega);have O:NV (mk (a0e X b 2) w6) (.slice a6 l6.length c6) y.natAbs:=NC.nv ⟨a6,c6,l6,rfl,F,G.2,H⟩ (by have:=d.out;omega))|(go_at_call 275;(with_reducible refine(b5W (a0e X b 2) w6 _ _ _ _ L N O c.out d.out).mono ?_);rintro e w7 ⟨J,u7,rfl,Q⟩))
 all_goals
  have K:=I.trans (g.trans (a.trans (f.trans J)));clear t z A B U V Y Z M;go_wp2_with fail
  go_ret
  exact⟨K,_,rfl,NC.mono _ _ _ _ a0h Q⟩
def b6X(X:Nat->Bool)(w:World)(q:Int)(e:Ending)(w':World):Prop:=Ext w w'/\∃u sv av nv cv,e= .returned (.tuple #[u, .agg #[.bool sv, .slice av nv cv], .bool true])/\ZC (mk X w') u q
theorem a4B{P:Program}{w:World}{fn:Func}{a:Array Value}{c m d:Tmp}{t:TypeId}{n b b':Nat}{i e:Array Value}{T q:TypeId}(h:fn.results=#[.cell c t, .cell m t, .tmp d])(p:a.getD c undef= .pointer (some ⟨b,0,none⟩))(g:a.getD m undef= .pointer (some ⟨b',0,none⟩))(o:a1H P t n)(r:Bx w b i T)(k:i.size=n)(j:Bx w b' e q)(f:e.size=n):(results fn a).run P w= .ok (.tuple #[.agg i, .agg e,a.getD d undef]) w:=by
 have s:=a2h (P:=P) o r k;have l:=a2h (P:=P) o j f;rw[Array.getD_eq_getD_getElem?]at p g;simp[results,h,p,g,asAddr,s,l]
theorem b1V(X:Nat->Bool)(w:World)(u v:Value)(x y:Int)(hX:HX X w)(hu:ZV (mk X w) u x)(hv:ZV (mk X w) v y)(a9:lg x.natAbs<=274877906944)(b5:lg y.natAbs<=274877906944)(h0:0<y)(hd:y∣x):Calls Tryz.prog 198 #[u,v] w (b6X X w (x/y)):=by
 have b4:=hid a9;have b6:=hid b5;have hq:Hid (∃k:Int,x=y*k/\x/y=k):=hid (by
  obtain⟨k,rfl⟩:=hd;exact⟨k,rfl,Int.mul_ediv_cancel_left _ (by omega)⟩)
 have N:=hid h0;clear a9 b5 hd h0;have g0:=hid hu.lg;have g1:=hid hv.lg;obtain⟨s1,a1,c1,l1,rfl,g4⟩:=id hu;obtain⟨s2,a2,c2,l2,rfl,g5⟩:=id hv;obtain⟨W,hW,hE,B,C,b2,b3,hz⟩:=b5X w #[.bool s1, .slice a1 l1.length c1] #[.bool s2, .slice a2 l2.length c2] #[.bool false, .slice none 0 0] #[.bool false, .slice none 0 0] 39 39 39 39;have a0:HX (a0e X w.heap.size 4) W:=hX.boxes hz;have U:=ZV.mono _ _ _ _ (a0i (nb:=4) hE) hu;have V:=ZV.mono _ _ _ _ (a0i (nb:=4) hE) hv;obtain⟨b,hb⟩:∃b,w.heap.size=b:=⟨_,rfl⟩;have f4:w.heap.size<=b:=by omega
 rw[hb]at B C b2 b3 hz a0 U V;have i:Ext W W.drew:=(ExtX.refl W).drew;have S:HX (a0e X b 4) W.drew:=a0;have d0:ZV (mk (a0e X b 4) W.drew) (.agg #[.bool s1, .slice a1 l1.length c1]) x:=U;have d1:ZV (mk (a0e X b 4) W.drew) (.agg #[.bool s2, .slice a2 l2.length c2]) y:=V;have l:=B.cell 0 rfl;have m:=B.cell 1 rfl;have n:=C.cell 0 rfl;have o:=C.cell 1 rfl;clear hu hv g4 g5;go_enter Tryz.func198,Tryz.ntmps198
 go_upto_region 1 with(fail)
 go_cut []from 10 to 13 (fun wx=>∃s3 a3 c3 l3 s4 a4 c4 l4,Bx wx b #[.bool s3, .slice a3 l3 c3] 39/\Bx wx (b+1) #[.bool s4, .slice a4 l4 c4] 39/\Bx wx (b+1+1) #[.bool false, .slice none 0 0] 39/\Bx wx (b+1+1+1) #[.bool false, .slice none 0 0] 39/\ZC (mk (a0e X b 4) wx) (.agg #[.bool s3, .slice a3 l3 c3]) x/\ZC (mk (a0e X b 4) wx) (.agg #[.bool s4, .slice a4 l4 c4]) y/\Ext w wx)
 case first=>
  go_region_with (first|(go_at_call 194;(with_reducible refine(a3d (a0e X b 4) W.drew _ x S d0).mono ?_);rintro e w5 ⟨c,u5,rfl,s5,a5,c5,l5,rfl,F,r,G⟩;have p:=B.ext0 (i.trans c);have q:=C.ext0 (i.trans c);have d6:=p.cell 0 rfl;have d7:=p.cell 1 rfl;have d8:=q.cell 0 rfl;have d9:=q.cell 1 rfl)|(go_at_call 194;(with_reducible refine(a3d (a0e X b 4) w5 _ y (HX.ext S c) (mkx ZV.mono d1 c)).mono ?_);rintro e w6 ⟨a,u6,rfl,s6,K,L,Y,rfl,s,j,t⟩;have f:=p.ext0 a;have g:=q.ext0 a;have e6:=f.cell 0 rfl;have e7:=f.cell 1 rfl;have e8:=g.cell 0 rfl;have e9:=g.cell 1 rfl;have e0:=f.frozen 0;have e2:=f.frozen 1;have e3:=g.frozen 0;have e4:=g.frozen 1))
  all_goals
   obtain⟨wf,d4,q0,q1,q2,q3,q4⟩:=a1K (X:=X) (nb:=4) f g (hE.trans ((i.trans c).trans a)) f4 (by omega) (.bool s5) (.slice a5 l5.length c5) (.bool s6) (.slice K Y.length L);rw[d4];have f6:ZC (mk (a0e X b 4) wf) (.agg #[.bool s5, .slice a5 l5.length c5]) x:=⟨s5,a5,c5,l5,rfl,F,r,(G.mono (a0c.mono _) (a0k a)).mono (a0c.mono _) q4⟩;have f7:ZC (mk (a0e X b 4) wf) (.agg #[.bool s6, .slice K Y.length L]) y:=⟨s6,K,L,Y,rfl,s,j,t.mono (a0c.mono _) q4⟩;have q5:=q2 (b+1+1) _ _ (by omega) (by omega) ((b2.ext0 (i.trans c)).ext0 a);have q6:=q2 (b+1+1+1) _ _ (by omega) (by omega) ((b3.ext0 (i.trans c)).ext0 a);clear d6 d7 d8 d9 e6 e7 e8 e9 e0 e2 e3 e4 l m n o d4;go_wp2_with fail
   go_meet
   exact⟨_,_,_,_,_,_,_,_,q0,q1,q5,q6,f6,f7,q3⟩
 case rest=>
  clear l m n o B C b2 b3 U V d0 d1 S i hW;obtain⟨s3,a3,c3,n3,s4,a4,c4,n4,B,C,b2,b3,hx,hy,R⟩:=hcut;obtain⟨_,_,_,l3,A,f0,D,f1⟩:=hx;simp only[Value.agg.injEq,Array.mk.injEq,List.cons.injEq,Value.bool.injEq,Value.slice.injEq,and_true]at A;obtain⟨rfl,rfl,rfl,rfl⟩:=A;obtain⟨_,_,_,l4,A,f2,E,f3⟩:=hy;simp only[Value.agg.injEq,Array.mk.injEq,List.cons.injEq,Value.bool.injEq,Value.slice.injEq,and_true]at A;obtain⟨rfl,rfl,rfl,rfl⟩:=A;have b7:=hid (a3E D);have f9:=hid (a3E E);have c8:=hid D.1;have c9:=hid E.1;have i:Ext wc wc.drew:=(ExtX.refl wc).drew;have g2:NV (mk (a0e X b 4) wc) (.slice a3 l3.length c3) x.natAbs:=NC.nv ⟨a3,c3,l3,rfl,f0,D.2,f1⟩ (by have:=g0.out;omega);have g3:NV (mk (a0e X b 4) wc) (.slice a4 l4.length c4) y.natAbs:=NC.nv ⟨a4,c4,l4,rfl,f2,E.2,f3⟩ (by have:=g1.out;omega);have g6:w.heap.size+4<=wc.heap.size:=by have:=b3.lt;omega
  have a8:HX (a0e X b 4) wc:=hX.boxes' R (by omega) g6;have l:=B.cell 0 rfl;have m:=B.cell 1 rfl;have n:=C.cell 0 rfl;have o:=C.cell 1 rfl;have d5:Hid (0<y.natAbs):=hid (by have:=N.out;omega);have b8:Hid (x.natAbs%y.natAbs=0):=hid (by
   obtain⟨k,hk,_⟩:=hq.out;rw[hk,Int.natAbs_mul];exact Nat.mul_mod_right _ _)
  obtain rfl:s4=false:=by rw[c9.out];exact decide_eq_false (by have:=N.out;omega)
  have J:Hid (sg s3 (x.natAbs/y.natAbs)=x/y):=hid (by
   obtain⟨k,hk,f8⟩:=hq.out;have h0:=N.out;have e1:=b7.out;rw[f8];have f5:x.natAbs/y.natAbs=k.natAbs:=by rw[hk,Int.natAbs_mul];exact Nat.mul_div_cancel_left _ d5.out
   rw[f5,c8.out];have hs:(x<0)=(k<0):=by
    rw[hk];exact propext ⟨fun h=>by
     by_cases I:k<0
     ·exact I
     ·have:=Int.mul_nonneg (show 0<=y by omega) (show 0<=k by omega);omega,fun h=>Int.mul_neg_of_pos_of_neg h0 h⟩
   unfold sg;simp only[hs];by_cases I:k<0
   ·simp only[I,decide_true,if_true];omega
   ·simp only[I,decide_false,Bool.false_eq_true,if_false];omega)
  clear c8 c9 b7 f9 D E i;go_wp2_with fail
  refine(b5V (a0e X b 4) wc _ _ _ _ a8 g2 g3 b4.out b6.out d5.out).mono ?_;rintro e w5 ⟨c,qu,ru,rfl,b9,c0⟩;rw[b8.out]at c0;obtain⟨a5,c5,l5,rfl,F,r,G⟩:=c0;obtain rfl:l5= []:=List.eq_nil_of_length_eq_zero ((a0R r).2 rfl);have H:=a8.ext c;have p:=B.ext0 c;have q:=C.ext0 c;have f:=b2.ext0 c;have g:=b3.ext0 c;clear l m n o;have l:=p.cell 0 rfl;have m:=p.cell 1 rfl;have n:=q.cell 0 rfl;have o:=q.cell 1 rfl;simp only[List.length_nil];cases s3
  ·
   go_wp2_with fail
   refine(a1k (a0e X b 4) w5 false qu _ H b9).mono ?_;rintro e w6 ⟨a,u6,rfl,s6,K,L,Y,rfl,s,j,t⟩;rw[J.out]at j;go_wp2_with fail
   refine(a1k (a0e X b 4) w6 false _ 0 (H.ext a) (mkx NC.mono ⟨a5,c5,[],rfl,F,r,G⟩ a)).mono ?_;rintro e w7 ⟨d,u7,rfl,s7,a7,c7,l7,rfl,O,P,Q⟩;have d2:=(f.ext0 a).ext0 d;have d3:=(g.ext0 a).ext0 d;have T:=t.mono (a0c.mono _) (a0k d);have z:=R.trans (c.trans (a.trans d));clear l m n o P Q O;go_wp2_with ((with_reducible show wpList _ _ _ (⟨_, .store _ _ _,_,_,_,_⟩::_) _ _);first|(refine a0a a0r rfl rfl d2 rfl rfl (a2o _ _ _ _) ?_;intro w8 r1 Z;have M:=d3.ext Z (a0b (by omega)))|(refine a0a a0r rfl rfl M rfl rfl (a2o _ _ _ _) ?_;intro w9 r3 r4))
   have r5:=r1.ext r4 (a0b (by omega));have h8:=((T.mono (a0c.mono _) (a0f Z (by omega) (by omega))).mono (a0c.mono _) (a0f r4 (by omega) (by omega))).mono (a0c.mono _) a0h;exact bodyPost_ret (a4B rfl rfl rfl a0r r5 rfl r3 rfl) rfl ⟨ExtX.box (ExtX.box z Z (by omega)) r4 (by omega),_,_,_,_,_,rfl,s6,K,L,Y,rfl,s,j,h8⟩
  ·
   go_wp2_with fail
   refine(a1k (a0e X b 4) w5 true qu _ H b9).mono ?_;rintro e w6 ⟨a,u6,rfl,s6,K,L,Y,rfl,s,j,t⟩;rw[J.out]at j;go_wp2_with fail
   refine(a1k (a0e X b 4) w6 false _ 0 (H.ext a) (mkx NC.mono ⟨a5,c5,[],rfl,F,r,G⟩ a)).mono ?_;rintro e w7 ⟨d,u7,rfl,s7,a7,c7,l7,rfl,O,P,Q⟩;have d2:=(f.ext0 a).ext0 d;have d3:=(g.ext0 a).ext0 d;have T:=t.mono (a0c.mono _) (a0k d);have z:=R.trans (c.trans (a.trans d));clear l m n o P Q O;go_wp2_with ((with_reducible show wpList _ _ _ (⟨_, .store _ _ _,_,_,_,_⟩::_) _ _);first|(refine a0a a0r rfl rfl d2 rfl rfl (a2o _ _ _ _) ?_;intro w8 r1 Z;have M:=d3.ext Z (a0b (by omega)))|(refine a0a a0r rfl rfl M rfl rfl (a2o _ _ _ _) ?_;intro w9 r3 r4))
   have r5:=r1.ext r4 (a0b (by omega));have h8:=((T.mono (a0c.mono _) (a0f Z (by omega) (by omega))).mono (a0c.mono _) (a0f r4 (by omega) (by omega))).mono (a0c.mono _) a0h;exact bodyPost_ret (a4B rfl rfl rfl a0r r5 rfl r3 rfl) rfl ⟨ExtX.box (ExtX.box z Z (by omega)) r4 (by omega),_,_,_,_,_,rfl,s6,K,L,Y,rfl,s,j,h8⟩
end Go.Proofs.YtnnpfhoigmegcaaGreat
namespace Go.Lim
def b3u(a b:Int):Int:=if a<b then -1 else if b<a then 1 else 0
theorem b4o(x y:Int):(x.sign<y.sign->b3u x y= -1)/\(y.sign<x.sign->b3u x y=1)/\(x.sign=y.sign->x.sign*a2v x.natAbs y.natAbs=b3u x y):=by
 have hs:∀z:Int,(z<0/\z.sign= -1)\/(z=0/\z.sign=0)\/(0<z/\z.sign=1):=fun z=>by
  rcases Int.lt_trichotomy z 0 with h|h|h
  ·exact .inl ⟨h,Int.sign_eq_neg_one_of_neg h⟩
  ·subst h;exact .inr (.inl ⟨rfl,rfl⟩)
  ·exact .inr (.inr ⟨h,Int.sign_eq_one_of_pos h⟩)
 unfold b3u a2v;rcases hs x with⟨h1,e1⟩|⟨h1,e1⟩|⟨h1,e1⟩<;>rcases hs y with⟨h2,e2⟩|⟨h2,e2⟩|⟨h2,e2⟩<;>rw[e1,e2]
 all_goals refine⟨fun h=>?_,fun h=>?_,fun h=>?_⟩
 all_goals first
  |omega
  |(repeat' split)<;>omega
end Go.Lim
namespace Go.Proofs.YtnnpfhoigmegcaaGreat
open Go.RowKit Go.Rep Go.Lim
theorem b6Y(X:Nat->Bool)(w:World)(v:Int)(C:HX X w)(I: -9223372036854775808<=v)(J:v<=9223372036854775807):Calls Tryz.prog 231 #[.int .i64 v] w (a1u X w ZC v):=by
 obtain⟨W,K,A,o,hz⟩:=a0J w #[.bool false, .slice none 0 0] 39;have d:HX (a0e X w.heap.size 1) W:=C.boxes hz;obtain⟨b,D⟩:∃b,w.heap.size=b:=⟨_,rfl⟩;have E:w.heap.size<=b:=by omega
 rw[D]at o hz d;have r:Hid (v.natAbs<18446744073709551616):=hid (by omega);by_cases L:v<0
 ·have B:Hid (sg true v.natAbs=v):=hid (by unfold sg;simp;omega)
  have s:Hid (IntKind.u64.wrap (-(IntKind.u64.wrap v))=(v.natAbs:Int)):=hid (by rw[IntKind.wrap_u64,IntKind.wrap_u64];omega);go_enter Tryz.func231,Tryz.ntmps231
  go_wp2_with fail
  rw[s.out];refine(b5U (X:=a0e X b 1) d r.out).mono ?_;rintro e z ⟨a,y,rfl,j⟩;go_wp2_with fail
  refine(a2i (a0e X b 1) z true y _ (d.ext a) j).mono ?_;rintro e G ⟨c,F,rfl,x,m,p,t,rfl,h,f,i⟩;rw[B.out]at f;have g:=(o.ext0 a).ext0 c;go_wp2_with ((with_reducible show wpList _ _ _ (⟨_, .store _ _ _,_,_,_,_⟩::_) _ _);refine a0a a0r rfl rfl g rfl rfl (a2o _ _ _ _) ?_;intro H u l)
  have q:=(i.mono (a0c.mono _) (a0f l (by omega) (by omega))).mono (a0c.mono _) a0h;exact bodyPost_ret (a0d rfl rfl a0r u rfl) rfl ⟨ExtX.box (A.trans (a.trans c)) l (by omega),_,rfl,x,m,p,t,rfl,h,f,q⟩
 ·obtain⟨n,rfl⟩:=Int.eq_ofNat_of_zero_le (show 0<=v by omega)
  have B:Hid (sg false n=(n:Int)):=hid rfl;have k:Hid (n<18446744073709551616):=hid (by omega);go_enter Tryz.func231,Tryz.ntmps231
  go_wp2_with fail
  refine(b5U (X:=a0e X b 1) d k.out).mono ?_;rintro e z ⟨a,y,rfl,j⟩;go_wp2_with fail
  refine(a2i (a0e X b 1) z false y n (d.ext a) j).mono ?_;rintro e G ⟨c,F,rfl,x,m,p,t,rfl,h,f,i⟩;have g:=(o.ext0 a).ext0 c;go_wp2_with ((with_reducible show wpList _ _ _ (⟨_, .store _ _ _,_,_,_,_⟩::_) _ _);refine a0a a0r rfl rfl g rfl rfl (a2o _ _ _ _) ?_;intro H u l)
  have q:=(i.mono (a0c.mono _) (a0f l (by omega) (by omega))).mono (a0c.mono _) a0h;exact bodyPost_ret (a0d rfl rfl a0r u rfl) rfl ⟨ExtX.box (A.trans (a.trans c)) l (by omega),_,rfl,x,m,p,t,rfl,h,f,q⟩
theorem b1W(X:Nat->Bool)(w:World)(u v:Value)(x y:Int)(hX:HX X w)(hu:ZV (mk X w) u x)(hv:ZV (mk X w) v y):Calls Tryz.prog 259 #[u,v] w (a2L w (b3u x y)):=by
 have U:=hid hu.lg;have V:=hid hv.lg;obtain⟨s1,a1,c1,l1,rfl,f2⟩:=id hu;obtain⟨s2,a2,c2,l2,rfl,f3⟩:=id hv;obtain⟨W,hW,hE,s,q,hz⟩:=a0W w #[.bool s1, .slice a1 l1.length c1] #[.bool s2, .slice a2 l2.length c2] 39 39;have S:HX (a0e X w.heap.size 2) W:=hX.boxes hz;have N:=ZV.mono _ _ _ _ (a0i (nb:=2) hE) hu;have O:=ZV.mono _ _ _ _ (a0i (nb:=2) hE) hv;obtain⟨b,hb⟩:∃b,w.heap.size=b:=⟨_,rfl⟩;have e7:w.heap.size<=b:=by omega
 rw[hb]at s q hz S N O;have c:Ext W W.drew:=(ExtX.refl W).drew;have g:HX (a0e X b 2) W.drew:=S;have a9:ZV (mk (a0e X b 2) W.drew) (.agg #[.bool s1, .slice a1 l1.length c1]) x:=N;have b2:ZV (mk (a0e X b 2) W.drew) (.agg #[.bool s2, .slice a2 l2.length c2]) y:=O;have i:=s.cell 0 rfl;have j:=s.cell 1 rfl;have k:=q.cell 0 rfl;have l:=q.cell 1 rfl;clear hu hv f2 f3;go_enter Tryz.func259,Tryz.ntmps259
 go_upto_region 1 with(fail)
 go_cut []from 7 to 10 (fun wx=>∃s3 D H P s4 E I Q,Bx wx b #[.bool s3, .slice D P H] 39/\Bx wx (b+1) #[.bool s4, .slice E Q I] 39/\ZC (mk (a0e X b 2) wx) (.agg #[.bool s3, .slice D P H]) x/\ZC (mk (a0e X b 2) wx) (.agg #[.bool s4, .slice E Q I]) y/\Ext w wx)
 case first=>
  go_region_with (first|(go_at_call 282;(with_reducible refine(a4A (a0e X b 2) W.drew _ x g a9).mono ?_);rintro e w5 ⟨a,u5,rfl,s5,a5,c5,l5,rfl,d8,d9,e0⟩;have F:=s.ext0 (c.trans a);have G:=q.ext0 (c.trans a);have b6:=F.cell 0 rfl;have b7:=F.cell 1 rfl;have b8:=G.cell 0 rfl;have b9:=G.cell 1 rfl)|(go_at_call 282;(with_reducible refine(a4A (a0e X b 2) w5 _ y (HX.ext g a) (mkx ZV.mono b2 a)).mono ?_);rintro e w6 ⟨d,u6,rfl,s6,a6,c6,l6,rfl,e1,e2,e3⟩;have m:=F.ext0 d;have n:=G.ext0 d;have d0:=m.cell 0 rfl;have d1:=m.cell 1 rfl;have d2:=n.cell 0 rfl;have d3:=n.cell 1 rfl;have c0:=m.frozen 0;have c7:=m.frozen 1;have c8:=n.frozen 0;have c9:=n.frozen 1))
  all_goals
   obtain⟨wf,b3,q0,q1,q2,q3,q4⟩:=a1K (X:=X) (nb:=2) m n (hE.trans ((c.trans a).trans d)) e7 (by omega) (.bool s5) (.slice a5 l5.length c5) (.bool s6) (.slice a6 l6.length c6);rw[b3];have e8:ZC (mk (a0e X b 2) wf) (.agg #[.bool s5, .slice a5 l5.length c5]) x:=⟨s5,a5,c5,l5,rfl,d8,d9,(e0.mono (a0c.mono _) (a0k d)).mono (a0c.mono _) q4⟩;have e9:ZC (mk (a0e X b 2) wf) (.agg #[.bool s6, .slice a6 l6.length c6]) y:=⟨s6,a6,c6,l6,rfl,e1,e2,e3.mono (a0c.mono _) q4⟩;clear b6 b7 b8 b9 d0 d1 d2 d3 c0 c7 c8 c9 i j k l b3;go_wp2_with fail
   go_meet
   exact⟨_,_,_,_,_,_,_,_,q0,q1,e8,e9,q3⟩
 case rest=>
  clear i j k l s q N O a9 b2 g c hW;obtain⟨s3,D,H,n3,s4,E,I,n4,s,q,hx,hy,R⟩:=hcut;have b4:=hx.zv U.out;have b5:=hy.zv V.out;obtain⟨_,_,_,P,o,d4,t,d5⟩:=hx;simp only[Value.agg.injEq,Array.mk.injEq,List.cons.injEq,Value.bool.injEq,Value.slice.injEq,and_true]at o;obtain⟨rfl,rfl,rfl,rfl⟩:=o;obtain⟨_,_,_,Q,o,d6,A,d7⟩:=hy;simp only[Value.agg.injEq,Array.mk.injEq,List.cons.injEq,Value.bool.injEq,Value.slice.injEq,and_true]at o;obtain⟨rfl,rfl,rfl,rfl⟩:=o;have f1:=hid (a3E t);have f0:=hid (a3E A);have L:=hid t.1;have M:=hid A.1;have c:Ext wc wc.drew:=(ExtX.refl wc).drew;have Y:NV (mk (a0e X b 2) wc) (.slice D P.length H) x.natAbs:=NC.nv ⟨D,H,P,rfl,d4,t.2,d5⟩ (by have:=U.out;omega);have a0:NV (mk (a0e X b 2) wc) (.slice E Q.length I) y.natAbs:=NC.nv ⟨E,I,Q,rfl,d6,A.2,d7⟩ (by have:=V.out;omega);have f6:w.heap.size+2<=wc.heap.size:=by have:=q.lt;omega
  have e6:HX (a0e X b 2) wc:=hX.boxes' R (by omega) f6;have r:=hid (And.intro s q);have i:=s.cell 0 rfl;have j:=s.cell 1 rfl;have k:=q.cell 0 rfl;have l:=q.cell 1 rfl;have K:=hid (b4o x y);have a8:Hid (∀z:Int,z.sign= -1\/z.sign=0\/z.sign=1):=hid (fun z=>by
   rcases Int.lt_trichotomy z 0 with h|h|h
   ·exact .inl (Int.sign_eq_neg_one_of_neg h)
   ·subst h;exact .inr (.inl rfl)
   ·exact .inr (.inr (Int.sign_eq_one_of_pos h)))
  clear L M f1 f0 t A;have g:HX (a0e X b 2) wc.drew:=e6;have B:ZV (mk (a0e X b 2) wc.drew) (.agg #[.bool s3, .slice D P.length H]) x:=b4;have C:ZV (mk (a0e X b 2) wc.drew) (.agg #[.bool s4, .slice E Q.length I]) y:=b5;go_wp2_with fail
  go_region_held3 (fun w'=>w'.cell? ⟨b,0,none⟩=some (.bool s3)/\w'.cell? ⟨b,1,none⟩=some (.slice D P.length H)/\w'.cell? ⟨b+1,0,none⟩=some (.bool s4)/\w'.cell? ⟨b+1,1,none⟩=some (.slice E Q.length I))
   (first|exact⟨(r.out.1.ext0 (c.trans a)).cell 0 rfl,(r.out.1.ext0 (c.trans a)).cell 1 rfl,(r.out.2.ext0 (c.trans a)).cell 0 rfl,(r.out.2.ext0 (c.trans a)).cell 1 rfl⟩|exact⟨(r.out.1.ext0 (c.trans (a.trans d))).cell 0 rfl,(r.out.1.ext0 (c.trans (a.trans d))).cell 1 rfl,(r.out.2.ext0 (c.trans (a.trans d))).cell 0 rfl,(r.out.2.ext0 (c.trans (a.trans d))).cell 1 rfl⟩|go_keep)
   (first|(go_at_call 206;(with_reducible refine(a9i (a0e X b 2) wc.drew _ x g B).mono ?_);rintro e w5 ⟨a,rfl⟩)|(go_at_call 206;(with_reducible refine(a9i (a0e X b 2) w5 _ y (HX.ext g a) (mkx ZV.mono C a)).mono ?_);rintro e w6 ⟨d,rfl⟩))
  have f:Ext wc w6:=c.trans (a.trans d);have q0:=r.out.1.ext0 f;have q1:=r.out.2.ext0 f;have Z:=mkx NV.mono Y f;have a7:=mkx NV.mono a0 f;have J:=R.trans f;clear i j k l a d c g B C b4 b5 Y a0;have i:=q0.cell 0 rfl;have j:=q0.cell 1 rfl;have k:=q1.cell 0 rfl;have l:=q1.cell 1 rfl;have f4:=a8.out x;have f5:=a8.out y;have hxs:=hid (show x.sign=x.sign from rfl);generalize L:x.sign=p at*;generalize M:y.sign=sy at*;clear hxs L M;have f7: -1<=p/\p<=1:=by omega
  have f8: -1<=sy/\sy<=1:=by omega
  clear f4 f5;by_cases h1:p<sy
  ·have T:=hid (K.out.1 h1)
   go_wp2_with fail
   go_ret
   exact⟨J,a0y T.out.symm⟩
  ·by_cases h2:sy<p
   ·have T:=hid (K.out.2.1 h2)
    go_wp2_with fail
    go_ret
    exact⟨J,a0y T.out.symm⟩
   ·have T:=hid (K.out.2.2 (by omega))
    go_wp2_with fail
    refine(b6F Z a7).mono ?_;rintro e w7 ⟨e4,rfl⟩;have f9: -1<=a2v x.natAbs y.natAbs/\a2v x.natAbs y.natAbs<=1:=by unfold a2v;split<;>(try split)<;>omega
    generalize a2v x.natAbs y.natAbs=cm at*;have g0: -1<=p*cm/\p*cm<=1:=by
     rcases(by omega:p= -1\/p=0\/p=1)with rfl|rfl|rfl<;>omega
    have g1:IntKind.i64.wrap (p*cm)=p*cm:=IntWalk.i64_in _ (by omega);clear i j k l;go_wp2_with fail
    go_ret
    exact⟨J.trans e4,a0y T.out⟩
end Go.Proofs.YtnnpfhoigmegcaaGreat
namespace Go.Rep
open Go.RowKit Go.Lim
def QV(h:Mem)(u:Value)(q:Rat):Prop:=∃s ao c m bo e d,u= .agg #[.bool s, .slice ao m.length c, .slice bo d.length e]/\m.length<=c/\d.length<=e/\Dig m/\Dig d/\m.length<=68719476736/\d.length<=68719476736/\Sl (a0c .u32) 1 h ao m/\Sl (a0c .u32) 1 h bo d/\b1x s m d=q
def QC(h:Mem)(u:Value)(q:Rat):Prop:=∃s ao c m bo e d,u= .agg #[.bool s, .slice ao m.length c, .slice bo d.length e]/\m.length<=c/\d.length<=e/\a5t s m d q/\Sl (a0c .u32) 1 h ao m/\Sl (a0c .u32) 1 h bo d
theorem QV.mono:a2Q QV:=by rintro h q u x a ⟨s,ao,c,m,b,e,d,rfl,f,g,i,j,k,l,n,o,p⟩;exact⟨s,ao,c,m,b,e,d,rfl,f,g,i,j,k,l,n.mono (a0c.mono _) a,o.mono (a0c.mono _) a,p⟩
theorem QC.mono:a2Q QC:=by rintro h l u x a ⟨s,ao,c,m,b,e,d,rfl,f,g,i,j,k⟩;exact⟨s,ao,c,m,b,e,d,rfl,f,g,i,j.mono (a0c.mono _) a,k.mono (a0c.mono _) a⟩
theorem b0f(q:Rat):lg (dn q)<=hq q:=b6T q
theorem QC.qv{h:Mem}{u:Value}{q:Rat}(k:QC h u q)(o:hq q<=68719476736):QV h u q:=by
 obtain⟨s,ao,c,m,b,e,d,rfl,f,g,a,i,j⟩:=k;have l:=a0s q;have n:=b0f q;exact⟨s,ao,c,m,b,e,d,rfl,f,g,a.1.2.1,a.2.1,by rw[a.1.len];omega,by rw[a.2.len];omega,i,j,a.val⟩
theorem QC.zero(h:Mem):QC h (.agg #[.bool false, .slice none 0 0, .slice none 0 0]) 0:=⟨false,none,0,[],none,0,[],rfl,Nat.le_refl _,Nat.le_refl _,a5t.zero,Sl.nil _ _ _ _,Sl.nil _ _ _ _⟩
theorem QV.hq{h:Mem}{u:Value}{q:Rat}(i:QV h u q):hq q<=68719476736:=by
 obtain⟨s,ao,c,m,j,e,d,rfl,k,l,a,b,f,g,n,o,rfl⟩:=i;exact b4h s m d _ a b f g (by omega)
theorem QV.elem:Elem QV 3:=⟨QV.mono,by rintro h u x ⟨s,ao,c,m,b,e,d,rfl,_⟩;rfl,by
 rintro h u x ⟨s,ao,c,m,b,e,d,rfl,_⟩ v a;simp[a0g,Value.cells]at a;rcases a with rfl|rfl|rfl<;>rfl,by decide⟩
theorem QC.elem:Elem QC 3:=⟨QC.mono,by rintro h u x ⟨s,ao,c,m,b,e,d,rfl,_⟩;rfl,by
 rintro h u x ⟨s,ao,c,m,b,e,d,rfl,_⟩ v a;simp[a0g,Value.cells]at a;rcases a with rfl|rfl|rfl<;>rfl,by decide⟩
theorem QC.num{h:Mem}{s:Bool}{ao f:Option Addr}{n c k e:Nat}{q:Rat}(o:QC h (.agg #[.bool s, .slice ao n c, .slice f k e]) q):ZC h (.agg #[.bool s, .slice ao n c]) q.num/\NC h (.slice ao n c) q.num.natAbs/\NC h (.slice f k e) (dn q):=by
 obtain⟨_,_,_,m,_,_,d,a,g,j,b,i,l⟩:=o;simp only[Value.agg.injEq,Array.mk.injEq,List.cons.injEq,Value.bool.injEq,Value.slice.injEq,and_true]at a;obtain⟨rfl,⟨rfl,rfl,rfl⟩,rfl,rfl,rfl⟩:=a;exact⟨⟨_,_,_,_,rfl,g,b.1,i⟩,⟨_,_,_,rfl,g,b.1.2,i⟩,⟨_,_,_,rfl,j,b.2,l⟩⟩
theorem QC.shape{h:Mem}{u:Value}{q:Rat}(b:QC h u q):∃s ao n c a k e,u= .agg #[.bool s, .slice ao n c, .slice a k e]:=by
 obtain⟨s,ao,c,m,a,e,d,rfl,_⟩:=b;exact⟨_,_,_,_,_,_,_,rfl⟩
theorem QV.shape{h:Mem}{u:Value}{q:Rat}(b:QV h u q):∃s ao n c a k e,u= .agg #[.bool s, .slice ao n c, .slice a k e]:=by
 obtain⟨s,ao,c,m,a,e,d,rfl,_⟩:=b;exact⟨_,_,_,_,_,_,_,rfl⟩
theorem QC.of{h:Mem}{s:Bool}{ao b:Option Addr}{n c k e:Nat}{q:Rat}(p:ZC h (.agg #[.bool s, .slice ao n c]) q.num)(r:NC h (.slice b k e) (dn q)):QC h (.agg #[.bool s, .slice ao n c, .slice b k e]) q:=by
 obtain⟨_,_,_,m,a,f,g,i⟩:=p;simp only[Value.agg.injEq,Array.mk.injEq,List.cons.injEq,Value.bool.injEq,Value.slice.injEq,and_true]at a;obtain⟨rfl,rfl,rfl,rfl⟩:=a;obtain⟨_,_,d,a,j,l,o⟩:=r;simp only[Value.slice.injEq]at a;obtain⟨rfl,rfl,rfl⟩:=a;exact⟨_,_,_,_,_,_,_,rfl,f,j,⟨g,l⟩,i,o⟩
theorem NC.len0{h:Mem}{ao:Option Addr}{n c k:Nat}(e:NC h (.slice ao n c) k):n=0↔k=0:=by
 obtain⟨_,_,d,a,f,b,g⟩:=e;simp only[Value.slice.injEq]at a;obtain⟨rfl,rfl,rfl⟩:=a;exact a0R b
theorem a4m(q:Rat):dn q=0↔q.den=1:=by
 unfold dn;split
 ·simp[*]
 ·have:=q.den_nz;omega
end Go.Rep
namespace Go.Proofs.YtnnpfhoigmegcaaGreat
open Go.RowKit Go.Rep Go.Lim
theorem a0j:a1H Tryz.prog 41 3:=by
 have h:(Tryz.prog.info? 41).map (fun i=>(i.zero,i.size,i.bytes))=some (some (.agg #[.bool false, .slice none 0 0, .slice none 0 0]),3,56):=by kernel_rfl
 obtain⟨ti,a,_,b,_⟩:=info_parts h;exact⟨_,ti,Tryz.underlying41,a,b⟩
theorem a1q(s:Bool)(ao b:Option Addr)(n c k e:Nat):∀v∈(#[Value.bool s, .slice ao n c, .slice b k e]:Array Value).toList,v.oneCell'=true:=by
 intro v a;simp at a;rcases a with rfl|rfl|rfl<;>rfl
theorem b6H(X:Nat->Bool)(w:World)(b:HX X w):Calls Tryz.prog 294 #[] w (a1u X w NC 1):=by
 have h:=NC.lit b 1 110 (by omega) (by omega);have a:Ext w (w.alloc (.cells #[.int .u32 ((1:Nat):Int)] 110)):=(ExtX.refl w).alloc _;go_enter Tryz.func294,Tryz.ntmps294
 go_wp2_with fail
 go_ret
 exact⟨a,_,rfl,h⟩
theorem a7v(X:Nat->Bool)(w:World)(u:Value)(q:Rat)(r:HX X w)(o:QC (mk X w) u q):Calls Tryz.prog 235 #[u] w (a1u X w NC q.den):=by
 obtain⟨s,ao,n,c,p,k,e,rfl⟩:=o.shape;obtain⟨W,y,f,m,hz⟩:=a0J w #[.bool s, .slice ao n c, .slice p k e] 41;have i:HX X W:=r.ext f;have hd:=mkx NC.mono o.num.2.2 f;have a:=hd.len0;rw[a4m]at a;obtain⟨b,t⟩:∃b,w.heap.size=b:=⟨_,rfl⟩;rw[t]at m hz;have v:=m.cell 2 rfl;by_cases d:k=0
 ·have j:=hid (a.1 d)
  subst d;clear a hd;go_enter Tryz.func235,Tryz.ntmps235
  go_wp2_with fail
  refine(b6H X W i).mono ?_;rintro e A ⟨g,z,rfl,l⟩;go_wp2_with fail
  go_ret
  exact⟨f.trans g,_,rfl,by rw[j.out];exact l⟩
 ·have j:Hid (dn q=q.den):=hid (by unfold dn;rw[if_neg (fun h=>d (a.2 h))])
  have x:((k:Int)==0)=false:=a2S (by omega);clear a d;go_enter Tryz.func235,Tryz.ntmps235
  go_wp2_with fail
  go_ret
  exact⟨f,_,rfl,by rw[<-j.out];exact hd⟩
end Go.Proofs.YtnnpfhoigmegcaaGreat
namespace Go.Lim
theorem a6t(a b:Nat):(a2v a b==0)=decide (a=b):=by
 rw[Bool.eq_iff_iff];simp only[beq_iff_eq,decide_eq_true_eq];exact b3P a b
end Go.Lim
namespace Go.Proofs.YtnnpfhoigmegcaaGreat
open Go.RowKit Go.Rep Go.Lim
theorem b3v(X:Nat->Bool)(w:World)(s:Bool)(ao G:Option Addr)(c e:Nat)(m d:List Nat)(hX:HX X w)(hm:Sl (a0c .u32) 1 (mk X w) ao m)(hd:Sl (a0c .u32) 1 (mk X w) G d)(c4:m.length<=68719476736)(c2:d.length<=68719476736)(Y:Dig m)(S:Dig d)(b7:m.length<=c)(b3:d.length<=e):Calls Tryz.prog 283 #[.agg #[.bool s, .slice ao m.length c, .slice G d.length e]] w (b3s w (a0V s m d)):=by
 obtain⟨W,hW,y,E,hz⟩:=a0J w #[.bool s, .slice ao m.length c, .slice G d.length e] 41;have a5:HX X W:=hX.ext y;have v:=hm.mono (a0c.mono _) (a0k y);have I:=hd.mono (a0c.mono _) (a0k y);obtain⟨b,hb⟩:∃b,w.heap.size=b:=⟨_,rfl⟩;rw[hb]at E hz;have C:=E.cell 0 rfl;have D:=E.cell 1 rfl;have x:=E.cell 2 rfl;have g:Hid (a0V s m d=(a0U s m&&a1i d&&(decide (d.length=0)||(decide (0<m.length)&& !(nv d==1)&&(Nat.gcd (nv m) (nv d)==1))))):=hid rfl;clear hX hm hd hz;cases p:a0U s m
 ·have F:Hid (a0V s m d=false):=hid (by rw[g.out,p];rfl)
  have l:=hid p;clear p g;go_enter Tryz.func283,Tryz.ntmps283
  go_wp2_with fail
  refine(a5K X W s ao c m v (by omega)).mono ?_;rintro e q ⟨a,rfl⟩;rw[l.out];clear C D x;go_wp2_with fail
  go_ret
  exact⟨y.trans a,a0q F.out.symm⟩
 ·cases K:a1i d
  ·have F:Hid (a0V s m d=false):=hid (by rw[g.out,p,K];rfl)
   have l:=hid p;have u:=hid K;clear p g K;go_enter Tryz.func283,Tryz.ntmps283
   go_wp2_with fail
   refine(a5K X W s ao c m v (by omega)).mono ?_;rintro e q ⟨a,rfl⟩;rw[l.out];have n:=(E.ext0 a).cell 2 rfl;have i:=I.mono (a0c.mono _) (a0k a);clear C D x;go_wp2_with fail
   refine(a1z X _ _ _ _ i (by omega)).mono ?_;rintro e w2 ⟨rfl,rfl⟩;rw[u.out];clear n;go_wp2_with fail
   go_ret
   exact⟨y.trans a,a0q F.out.symm⟩
  ·have F:Hid (a0V s m d=(decide (d.length=0)||(decide (0<m.length)&& !(nv d==1)&&(Nat.gcd (nv m) (nv d)==1)))):=hid (by rw[g.out,p,K];rfl)
   have l:=hid p;have u:=hid K;have a0:a1i m=true:=by unfold a0U at p;simp at p;exact p.1
   have a8:=hid (show a0w m (nv m)from⟨Y,a0,rfl⟩);have a7:=hid (show a0w d (nv d)from⟨S,K,rfl⟩);clear p g K a0;by_cases M:d.length=0
   ·have j:Hid (a0V s m d=true):=hid (by rw[F.out,decide_eq_true M];rfl)
    obtain rfl:d= []:=List.eq_nil_of_length_eq_zero M;clear M F;simp only[List.length_nil]at hW E x |-;go_enter Tryz.func283,Tryz.ntmps283
    go_wp2_with fail
    refine(a5K X W s ao c m v (by omega)).mono ?_;rintro e q ⟨a,rfl⟩;rw[l.out];have n:=(E.ext0 a).cell 2 rfl;have i:=I.mono (a0c.mono _) (a0k a);clear C D x;go_wp2_with fail
    refine(a1z X _ [] _ _ i (by simp)).mono ?_;rintro e w2 ⟨rfl,rfl⟩;rw[u.out];go_wp2_with fail
    go_ret
    exact⟨y.trans a,a0q j.out.symm⟩
   ·have c1:((d.length:Int)==0)=false:=a2S (by omega)
    have z:Hid (a0V s m d=(decide (0<m.length)&& !(nv d==1)&&(Nat.gcd (nv m) (nv d)==1))):=hid (by rw[F.out,decide_eq_false M];rfl);clear F;go_enter Tryz.func283,Tryz.ntmps283
    go_wp2_with fail
    refine(a5K X W s ao c m v (by omega)).mono ?_;rintro e' q ⟨a,rfl⟩;rw[l.out];have b1:=E.ext0 a;have n:=b1.cell 2 rfl;have B:=b1.cell 1 rfl;have i:=I.mono (a0c.mono _) (a0k a);have b4:=v.mono (a0c.mono _) (a0k a);have Q:=a5.ext a;have Z:NV (mk X q) (.slice ao m.length c) (nv m):=⟨ao,c,m,rfl,b7,Y,by omega,b4,by unfold val;rw[a0w.vl a8.out]⟩;have J:NV (mk X q) (.slice G d.length e) (nv d):=⟨G,e,d,rfl,b3,S,by omega,i,by unfold val;rw[a0w.vl a7.out]⟩;clear C D x;have N:=hid b1;have r:Ext q q.drew:=(ExtX.refl q).drew;have a6:HX X q.drew:=Q;have T:NV (mk X q.drew) (.slice G d.length e) (nv d):=J;by_cases L:m.length=0
    ·have j:Hid (a0V s m d=false):=hid (by rw[z.out,decide_eq_false (by omega)];rfl)
     obtain rfl:m= []:=List.eq_nil_of_length_eq_zero L;clear z L M;simp only[List.length_nil]at b1 B N |-;go_wp2_with fail
     refine(a1z X _ _ _ _ i (by omega)).mono ?_;rintro e' w2 ⟨rfl,rfl⟩;rw[u.out];go_wp2_with fail
     try go_quiet (fail)
     go_wp2_with fail
     go_ret
     exact⟨y.trans (a.trans ((ExtX.refl q).drewN _)),a0q j.out.symm⟩
    ·have c3:((m.length:Int)==0)=false:=a2S (by omega)
     have A:Hid (a0V s m d=(!(nv d==1)&&(Nat.gcd (nv m) (nv d)==1))):=hid (by rw[z.out,decide_eq_true (by omega)];rfl);clear z L M;go_wp2_with fail
     refine(a1z X _ _ _ _ i (by omega)).mono ?_;rintro e' w2 ⟨rfl,rfl⟩;rw[u.out];go_wp2_with fail
     go_region_held3 (fun w'=>w'.cell? ⟨b,1,none⟩=some (.slice ao m.length c)/\w'.cell? ⟨b,2,none⟩=some (.slice G d.length e))
      (first|exact⟨(N.out.ext0 (r.trans k)).cell 1 rfl,(N.out.ext0 (r.trans k)).cell 2 rfl⟩|exact⟨(N.out.ext0 (r.trans (k.trans H))).cell 1 rfl,(N.out.ext0 (r.trans (k.trans H))).cell 2 rfl⟩|go_keep)
      (first|(go_at_call 294;(with_reducible refine(b6H X q.drew a6).mono ?_);rintro e5 w5 ⟨k,u5,rfl,b8⟩;have a1:=b8.nv (by rw[a2O];decide))|(go_at_call 168;(with_reducible refine(b6F (mkx NV.mono T k) a1).mono ?_);rintro e6 w6 ⟨H,rfl⟩))
     have f:=r.trans (k.trans H);have b6:=N.out.ext0 f;have b5:=mkx NV.mono Z f;have b2:=mkx NV.mono J f;have R:=Q.ext f;clear B n;have B:=b6.cell 1 rfl;have n:=b6.cell 2 rfl;rw[a6t];by_cases o:nv d=1
     ·have j:Hid (a0V s m d=false):=hid (by rw[A.out,o];rfl)
      have t:decide (nv d=1)=true:=decide_eq_true o;rw[t];clear o t A;go_wp2_with fail
      go_ret
      exact⟨y.trans (a.trans f),a0q j.out.symm⟩
     ·have j:Hid (a0V s m d=decide (Nat.gcd (nv m) (nv d)=1)):=hid (by
       rw[A.out,Bool.eq_iff_iff];simp[o])
      have t:decide (nv d=1)=false:=decide_eq_false o;rw[t];clear o t A;go_wp2_with fail
      refine(b7x R b5 b2).mono ?_;rintro e7 w7 ⟨O,u7,rfl,b9⟩;have a4:=R.ext O;have U:lg (Nat.gcd (nv m) (nv d))<=1099511627776:=by
       have o:Nat.gcd (nv m) (nv d)<=nv d\/nv d=0:=by
        by_cases h:nv d=0
        ·exact .inr h
        ·exact .inl (Nat.gcd_le_right _ (by omega))
       rcases o with o|o
       ·exact Nat.le_trans (a0P o) J.lg
       ·rw[o,Nat.gcd_zero_right];exact Z.lg
      have V:=hid U;clear B n U;go_wp2_with fail
      refine(b6H X w7 a4).mono ?_;rintro e8 w8 ⟨P,u8,rfl,c0⟩;have a2:=mkx NV.mono (b9.nv V.out) P;go_wp2_with fail
      refine(b6F a2 (c0.nv (by rw[a2O];decide))).mono ?_;rintro e9 w9 ⟨a3,rfl⟩;have a9:Hid ((a2v (Nat.gcd (nv m) (nv d)) 1==0)=a0V s m d):=hid (by rw[a6t,j.out]);generalize a2v (Nat.gcd (nv m) (nv d)) 1=cc at*;go_wp2_with fail
      go_ret
      exact⟨y.trans (a.trans (f.trans (O.trans (P.trans a3)))),a0q a9.out⟩
theorem a3A(X:Nat->Bool)(w:World)(u:Value)(q:Rat)(M:HX X w)(P:QV (mk X w) u q):Calls Tryz.prog 207 #[u] w (a1u X w QC q):=by
 obtain⟨s,ao,c,m,o,e,d,rfl,A,B,C,D,H,I,K,L,rfl⟩:=P;obtain⟨W,S,r,n,t,hz⟩:=a0W w #[.bool s, .slice ao m.length c, .slice o d.length e] #[.bool false, .slice none 0 0, .slice none 0 0] 41 41;have l:HX (a0e X w.heap.size 2) W:=M.boxes hz;have g:Sl (a0c .u32) 1 (mk (a0e X w.heap.size 2) W) ao m:=K.mono (a0c.mono _) (a0i r);have h:Sl (a0c .u32) 1 (mk (a0e X w.heap.size 2) W) o d:=L.mono (a0c.mono _) (a0i r);obtain⟨b,N⟩:∃b,w.heap.size=b:=⟨_,rfl⟩;have O:w.heap.size<=b:=by omega
 rw[N]at n t hz g h l;have x:=n.cell 0 rfl;have y:=n.cell 1 rfl;have z:=n.cell 2 rfl;cases p:a0V s m d
 ·have G:=hid (a3b p)
  have i:=hid p;clear p;go_enter Tryz.func207,Tryz.ntmps207
  go_wp2_with fail
  refine(b3v (a0e X b 2) W s ao o c e m d l g h H I C D A B).mono ?_;rintro J Q ⟨a,rfl⟩;rw[i.out];have k:=t.ext0 a;clear x y z;go_wp2_with ((with_reducible show wpList _ _ _ (⟨_, .store _ _ _,_,_,_,_⟩::_) _ _);refine a0a a0j rfl rfl k rfl rfl (a1q _ _ _ _ _ _ _) ?_;intro R v f)
  exact bodyPost_ret (a0d rfl rfl a0j v rfl) rfl ⟨ExtX.box (r.trans a) f (by omega),_,rfl,by rw[G.out];exact QC.zero _⟩
 ·have i:=hid p
  clear p;go_enter Tryz.func207,Tryz.ntmps207
  go_wp2_with fail
  refine(b3v (a0e X b 2) W s ao o c e m d l g h H I C D A B).mono ?_;rintro J Q ⟨a,rfl⟩;rw[i.out];have j:=n.ext0 a;have k:=t.ext0 a;clear x y z;have x:=j.cell 0 rfl;have y:=j.cell 1 rfl;have z:=j.cell 2 rfl;go_wp2_with ((with_reducible show wpList _ _ _ (⟨_, .store _ _ _,_,_,_,_⟩::_) _ _);refine a0a a0j rfl rfl k rfl rfl (a1q _ _ _ _ _ _ _) ?_;intro R v f)
  have E:=((g.mono (a0c.mono _) (a0k a)).mono (a0c.mono _) (a0f f (by omega) (by omega))).mono (a0c.mono _) a0h;have F:=((h.mono (a0c.mono _) (a0k a)).mono (a0c.mono _) (a0f f (by omega) (by omega))).mono (a0c.mono _) a0h;exact bodyPost_ret (a0d rfl rfl a0j v rfl) rfl ⟨ExtX.box (r.trans a) f (by omega),_,rfl,s,ao,c,m,o,e,d,rfl,A,B,a5t.of_valid C D i.out,E,F⟩
theorem _root_.Go.Rep.NC.asZ{M:Mem}{u:Value}{n:Nat}(f:NC M u n)(e:lg n<=549755813888):∃ao k c,u= .slice ao k c/\ZV M (.agg #[.bool false, .slice ao k c]) (n:Int):=by
 obtain⟨ao,c,l,rfl,b,a,d⟩:=f;refine⟨ao,_,c,rfl,false,ao,c,l,rfl,b,a.1,by rw[a.len];exact e,d,?_⟩;unfold a6q a0U;rw[a.2.1,a.2.2];simp
theorem a1L{X:Nat->Bool}{w a:World}{b nb:Nat}{t u v x y z:Value}{T U:TypeId}(l:Bx a b #[t,u,v] T)(m:Bx a (b+1) #[x,y,z] U)(n:Ext w a)(o:w.heap.size<=b)(A:2<=nb)(v0 v1 v2 u0 i j:Value):∃c,((((((a.setCell ⟨b,0,none⟩ v0).setCell ⟨b,1,none⟩ v1).setCell ⟨b,2,none⟩ v2).setCell ⟨b+1,0,none⟩ u0).setCell ⟨b+1,1,none⟩ i).setCell ⟨b+1,2,none⟩ j)=c/\Bx c b #[v0,v1,v2] T/\Bx c (b+1) #[u0,i,j] U/\(∀k f V,k≠b->k≠b+1->Bx a k f V->Bx c k f V)/\Ext w c/\Le (mk (a0e X b nb) a) (mk (a0e X b nb) c):=by
 obtain⟨r,d⟩:=l.set3 v0 v1 v2;have g:=m.ext d (a0b (by omega));obtain⟨s,e⟩:=g.set3 u0 i j;refine⟨_,rfl,r.ext e (a0b (by omega)),s,fun k f V p q h=>(h.ext d (a0b p)).ext e (a0b q),ExtX.box (ExtX.box n d o) e (by omega),(a0f d (Nat.le_refl _) (by omega)).trans (a0f e (by omega) (by omega))⟩
theorem a4C(X:Nat->Bool)(w:World)(u v:Value)(x:Int)(n:Nat)(G:HX X w)(z:ZC (mk X w) u x)(J:NC (mk X w) v n)(hx:lg x.natAbs<=549755813888)(y:lg n<=549755813888):Calls Tryz.prog 260 #[u,v] w (a1u X w ZC (x*n)):=by
 obtain⟨N,k,e,rfl,r⟩:=J.asZ y;have q:=z.zv hx;obtain⟨s,ao,c,l,rfl,P,Q,R⟩:=z;obtain⟨W,S,p,h,t,hz⟩:=a0W w #[.bool s, .slice ao l.length c] #[.bool false, .slice none 0 0] 39 39;have d:HX (a0e X w.heap.size 2) W:=G.boxes hz;have f:=ZV.mono _ _ _ _ (a0i (nb:=2) p) q;have g:=ZV.mono _ _ _ _ (a0i (nb:=2) p) r;obtain⟨b,H⟩:∃b,w.heap.size=b:=⟨_,rfl⟩;have I:w.heap.size<=b:=by omega
 rw[H]at h t hz d f g;have C:=h.cell 0 rfl;have D:=h.cell 1 rfl;clear hx y;go_enter Tryz.func260,Tryz.ntmps260
 go_wp2_with fail
 refine(b6G (a0e X b 2) W _ _ _ _ d f g).mono ?_;rintro O U ⟨a,T,rfl,M,B,E,K,rfl,j,m,o⟩;have i:=t.ext0 a;clear C D;go_wp2_with ((with_reducible show wpList _ _ _ (⟨_, .store _ _ _,_,_,_,_⟩::_) _ _);refine a0a a0r rfl rfl i rfl rfl (a2o _ _ _ _) ?_;intro V L A)
 have F:=(o.mono (a0c.mono _) (a0f A (by omega) (by omega))).mono (a0c.mono _) a0h;exact bodyPost_ret (a0d rfl rfl a0r L rfl) rfl ⟨ExtX.box (p.trans a) A (by omega),_,rfl,M,B,E,K,rfl,j,m,F⟩
theorem a4n(X:Nat->Bool)(w:World)(u v:Value)(z:Int)(k:Nat)(hX:HX X w)(hu:ZC (mk X w) u z)(hv:NC (mk X w) v k)(hz:lg z.natAbs<=549755813888)(hk:lg k<=549755813888)(D:0<k):Calls Tryz.prog 233 #[u,v] w (a1u X w QC (mkRat z k)):=by
 obtain⟨s,ao,c,l,rfl,h1,Z,h3⟩:=hu;have U:=hv.nv (by omega:lg k<=1099511627776);obtain⟨bo,e,m,rfl,g1,g2,g3⟩:=hv;obtain⟨W,hW,hE,Y,b1,V⟩:=a0W w #[.bool s, .slice ao l.length c] #[.bool false, .slice none 0 0, .slice none 0 0] 39 41;have A:HX (a0e X w.heap.size 2) W:=hX.boxes V;have E:NV (mk (a0e X w.heap.size 2) W) (.slice ao l.length c) z.natAbs:=NC.nv ⟨ao,c,l,rfl,h1,Z.2,h3.mono (a0c.mono _) (a0i hE)⟩ (by omega);have F:=NV.mono _ _ _ _ (a0i (nb:=2) hE) U;obtain⟨b,hb⟩:∃b,w.heap.size=b:=⟨_,rfl⟩;have a5:w.heap.size<=b:=by omega
 rw[hb]at Y b1 V A E F;have c0:=Y.cell 0 rfl;have c1:=Y.cell 1 rfl;obtain⟨g,C⟩:∃g,Nat.gcd z.natAbs k=g:=⟨_,rfl⟩;have O:Hid (0<g):=hid (by rw[<-C];exact Nat.gcd_pos_of_pos_right _ D);have P:Hid (lg g<=1099511627776):=hid (by rw[<-C];exact Nat.le_trans (a0P (Nat.gcd_le_right _ D)) (by omega));have r:=hid (fun(n d:List Nat) (hn:a0w n (z.natAbs/g)) (hd:a0w d (k/g))=>by
  have:=a5t.lowest (s:=s) (z:=z) (k:=k) (n:=n) (d:=d) (by omega) Z.1 (by rw[C];exact hn) (by rw[C];exact hd);rw[C]at this;exact this)
 have a1:Hid (lg (k/g)<=1099511627776):=hid (Nat.le_trans (a0P (Nat.div_le_self _ _)) (by omega));have a2:=hid C;clear hz hk D Z g2 U C;go_enter Tryz.func233,Tryz.ntmps233
 go_wp2_with fail
 refine(b7x A E F).mono ?_;rintro e1 w1 ⟨h,ug,rfl,q⟩;rw[a2.out]at q;have K:=A.ext h;have j:=Y.ext0 h;have j0:=j.cell 0 rfl;have j1:=j.cell 1 rfl;clear c0 c1;go_wp2_with fail
 refine(b7z K (mkx NV.mono E h) (q.nv P.out) O.out).mono ?_;rintro e2 w2 ⟨i,qu,ru,rfl,R,a3⟩;have L:=K.ext i;have a4:=j.ext0 i;clear j0 j1;go_wp2_with fail
 refine(b7z L (mkx NV.mono F (h.trans i)) (mkx NV.mono (q.nv P.out) i) O.out).mono ?_;rintro e3 w3 ⟨t,du,a6,rfl,B,T⟩;have a0:=L.ext t;go_wp2_with fail
 refine(b6H (a0e X b 2) w3 a0).mono ?_;rintro e4 w4 ⟨o,ou,rfl,Q⟩;go_wp2_with fail
 refine(b6F (mkx NV.mono (B.nv a1.out) o) (Q.nv (by rw[a2O];decide))).mono ?_;rintro e5 w5 ⟨x,rfl⟩;have p:Hid ((a2v (k/g) 1==0)=decide (k/g=1)):=hid (a6t _ _);have S:=mkx NC.mono R (t.trans (o.trans x));have M:=mkx NC.mono B (o.trans x);have y:=i.trans (t.trans (o.trans x));have H:=j.ext0 y;have I:=b1.ext0 (h.trans y);have j0:=H.cell 0 rfl;have j1:=H.cell 1 rfl;obtain⟨qa,qc,ql,rfl,q1,q2,q3⟩:=S;obtain⟨da,dc,dl,rfl,d1,d2,d3⟩:=M;have a:=hid (r.out ql dl q2 d2);have J:=hE.trans (h.trans y);clear R B a3 T Q q r q2 d2;by_cases f:k/g=1
 ·have N:=a.out
  rw[if_pos f]at N;have hI:(a2v (k/g) 1==0)=true:=by rw[p.out];exact decide_eq_true f
  generalize a2v (k/g) 1=cc at*;clear p f a;go_wp2_with ((with_reducible show wpList _ _ _ (⟨_, .store _ _ _,_,_,_,_⟩::_) _ _);refine a0a a0j rfl rfl I rfl rfl (a1q _ _ _ _ _ _ _) ?_;intro w7 r1 G)
  have h7:=(q3.mono (a0c.mono _) (a0f G (by omega) (by omega))).mono (a0c.mono _) a0h;exact bodyPost_ret (a0d rfl rfl a0j r1 rfl) rfl ⟨ExtX.box J G (by omega),_,rfl,s,qa,qc,ql,none,0,[],rfl,q1,Nat.le_refl _,N,h7,Sl.nil _ _ _ _⟩
 ·have N:=a.out
  rw[if_neg f]at N;have hI:(a2v (k/g) 1==0)=false:=by rw[p.out];exact decide_eq_false f
  generalize a2v (k/g) 1=cc at*;clear p f a;go_wp2_with ((with_reducible show wpList _ _ _ (⟨_, .store _ _ _,_,_,_,_⟩::_) _ _);refine a0a a0j rfl rfl I rfl rfl (a1q _ _ _ _ _ _ _) ?_;intro w7 r1 G)
  have h7:=(q3.mono (a0c.mono _) (a0f G (by omega) (by omega))).mono (a0c.mono _) a0h;have h8:=(d3.mono (a0c.mono _) (a0f G (by omega) (by omega))).mono (a0c.mono _) a0h;exact bodyPost_ret (a0d rfl rfl a0j r1 rfl) rfl ⟨ExtX.box J G (by omega),_,rfl,s,qa,qc,ql,da,dc,dl,rfl,q1,d1,N,h7,h8⟩
theorem b1X(X:Nat->Bool)(w:World)(v:Int)(s:HX X w)(l: -9223372036854775808<=v)(m:v<=9223372036854775807):Calls Tryz.prog 150 #[.int .i64 v] w (a1u X w QC v):=by
 obtain⟨W,B,r,k,hz⟩:=a0J w #[.bool false, .slice none 0 0, .slice none 0 0] 41;have c:HX (a0e X w.heap.size 1) W:=s.boxes hz;obtain⟨b,t⟩:∃b,w.heap.size=b:=⟨_,rfl⟩;have u:w.heap.size<=b:=by omega
 rw[t]at k hz c;have e:=hid l;have f:=hid m;clear l m;go_enter Tryz.func150,Tryz.ntmps150
 go_wp2_with fail
 refine(b6Y (a0e X b 1) W v c e.out f.out).mono ?_;rintro A D ⟨a,C,rfl,z,o,p,x,rfl,g,h,i⟩;have d:=k.ext0 a;have j:=a5t.ofInt h;go_wp2_with ((with_reducible show wpList _ _ _ (⟨_, .store _ _ _,_,_,_,_⟩::_) _ _);refine a0a a0j rfl rfl d rfl rfl (a1q _ _ _ _ _ _ _) ?_;intro E y n)
 have q:=(i.mono (a0c.mono _) (a0f n (by omega) (by omega))).mono (a0c.mono _) a0h;exact bodyPost_ret (a0d rfl rfl a0j y rfl) rfl ⟨ExtX.box (r.trans a) n (by omega),_,rfl,z,o,p,x,none,0,[],rfl,g,Nat.le_refl _,j,q,Sl.nil _ _ _ _⟩
end Go.Proofs.YtnnpfhoigmegcaaGreat
