/- Parts of a proof: each theorem states what it proves, and its conditions. -/
import Derived.Test.YtjmnhbebpffoaaaGreatIwL
set_option maxRecDepth 100000
set_option maxHeartbeats 6400000
namespace Go.Proofs.YtjmnhbebpffoaaaGreat
open Go.RowKit
def a2N(L:List Rat)(i:Nat):List Rat:=L.take i++List.replicate (L.length - i) 0
theorem a5L(L:List Rat):a2N L 0=List.replicate L.length 0:=by simp[a2N]
theorem a5t{L:List Rat}{i:Nat}(h:i<=L.length):(a2N L i).length=L.length:=by simp[a2N];omega
theorem a5M(L:List Rat):a2N L L.length=L:=by simp[a2N]
theorem a6P{L:List Rat}{i:Nat}(h:i<L.length):(a2N L i).set i L[i]=a2N L (i+1):=by
 unfold a2N;rw[List.set_append_right _ _ (by simp;omega),show L.length - i=(L.length - (i+1))+1 by omega,List.replicate_succ,show i - (L.take i).length=0 by simp;omega,c1H,<-List.take_append_getElem h,List.append_assoc];rfl
theorem b1b{u:Mat}{n m i:Nat}(a:i<u.length)(h:i<(a5y u n m).length):(a5y u n m)[i]=a2S u[i] (a2w (a2z (a1N u n m) m) u[i]):=a8P a h
theorem a9b(X:Nat->Bool)(w:World)(u:Value)(z:Mat)(n m B:Nat)(hX:HX X w)(hu:MV (mk X w) u z)(c:Shp n m z)(c4:1<=n)(hn:n<=8)(hm:m<=4)(hB:BM B z)(O:1<=B)(b3:B<=510/\n*(2*B+1)<=6540)(K:m≠0->¬a4u (a1N z n m) m):Calls Tryz.prog 113 #[u] w (a2b X w RC (a5y z n m)):=by
 have d:Hid ((a5y z n m).length=n):=hid (by rw[a5l];exact c.1);have D:=hid fun i (b:i<z.length) (h:i<(a5y z n m).length)=>b1b b h;have S:=hid fun(h0:m=0)=>(by subst h0;exact a8Q c:a5y z n m=List.replicate n 0);have j4:=hid fun a (h:Ext w a)=>mkx MV.mono hu h;obtain⟨ua,uc,rfl,f9,Y⟩:=hu;have i3:=Y.hd;rw[c.1]at j4 i3 f9 |-;have c6:=hid c.1;have j0:=hid c.2;have h0:0<z.length:=by rw[c.1];exact c4
 obtain⟨a0,c0,j6,e4,e8,i9⟩:=Y.row 0 h0;rw[c.2 z[0] (c1E _)]at e4;have x:=hid fun(b:1<=m)=>(⟨b2X c (by omega) b (by omega),a9F c c4,b2X (a1B z n m) (by omega) c4 (by omega),a9F (a1B z n m) b,b2X (a0D z n m) (by omega) b (by omega),a9F (a0D z n m) b,b2X (a2f (a0D z n m)) (by omega) b (by omega),a9F (a2f (a0D z n m)) b⟩:a0A z=true/\colsL z=m/\a0A (trL z n m)=true/\colsL (trL z n m)=n/\a0A (a1N z n m)=true/\colsL (a1N z n m)=m/\a0A (a2z (a1N z n m) m)=true/\colsL (a2z (a1N z n m) m)=m);have Q:=a6C hB O;have V:BM B (trL z n m):=a5H (b0H Q);have b8:=hid (a8e (m:=m) Q hn b3);have H:=hid (a9R (m:=m) Q hn hm b3);have o:=hid fun r (M:r∈z)=>a9S (m:=m) hB hn hm O b3 M;have i6:=hid (a1B z n m).1;have i7:=hid (a0D z n m).1;have l:=hid (a2f (a0D z n m));have j3:=hid fun(b:1<=m)=>(a3r (a1j (a0D z n m)) (a6k (a0D z n m) b8.out) hm (by decide)).1;have W:=hid fun(b:1<=m) Z a (v:Value) (hZ:HX Z a) (h:MV (mk Z a) v z)=>a2E Z a v z n m hZ h (x.out b).1 c.1 (x.out b).2.1;have J:=hid fun(b:1<=m) Z a (v u2:Value) (hZ:HX Z a) (ht:MV (mk Z a) v (trL z n m)) (h:MV (mk Z a) u2 z)=>b9p Z a v u2 (trL z n m) z m n m B hZ ht h (x.out b).2.2.1 (x.out b).1 i6.out c.1 (x.out b).2.2.2.1 (x.out b).2.1 V hB O (by omega);have f:=hid fun(b:1<=m) Z a (v:Value) (hZ:HX Z a) (ht:MV (mk Z a) v (a1N z n m))=>b1T Z a v (a1N z n m) m hZ ht (x.out b).2.2.2.2.1 i7.out (x.out b).2.2.2.2.2.1 (j3.out b);obtain⟨T,hT⟩:=c1F (trL z n m);have b9:a1N z n m=a6f T z n m:=by rw[<-hT];rfl
 have a5:BM 68719476736 (a6f T z n m):=by rw[<-b9];exact fun r M q hq=>c1A (a5H b8.out r M q hq) (by decide)
 rw[hT]at W J V;rw[b9]at f K D H o l x;obtain⟨G,hG⟩:=c1F (a6f T z n m);rw[hG]at f K D H o l x a5 J;obtain⟨I,hI⟩:=c1F (a2z G m);rw[hI]at D H o l x;unfold b6D at f;rw[hI]at f;have e3:=hid fun(Z:Nat->Bool) a (v t:Value) (r:List Rat) (b:1<=m) (b5:HX Z a) (h2:MV (mk Z a) v I) (h3:RV (mk Z a) t r) (h4:r.length=m) (N:BR B r)=>b0O Z a v t I r 8500000 b5 h2 h3 (x.out b).2.2.2.2.2.2.1 (by rw[h4,(x.out b).2.2.2.2.2.2.2]) H.out (fun q hq=>c1A (N q hq) (by omega)) (by decide) (by decide);have e9:=hid fun(Z:Nat->Bool) a (v t:Value) (r:List Rat) (b5:HX Z a) (h2:RV (mk Z a) v r) (h3:RV (mk Z a) t (a2w I r)) (h4:r.length=m) (N:r∈z) (h6:(a2w I r).length=r.length)=>a6l Z a v t r (a2w I r) b5 h2 h3 (by omega) h6 (a1D (B:=34100000) (fun q hq=>c1A (hB r N q hq) (by omega)) (o.out r N) (by decide) (by omega) (by decide)).1 (a1D (B:=34100000) (fun q hq=>c1A (hB r N q hq) (by omega)) (o.out r N) (by decide) (by omega) (by decide)).2;have h9:=hid fun r (N:r∈z) (h4:r.length=m)=>(c1A (a8R h4 (hB r N) (o.out r N) O (by decide)) (by have:=Nat.mul_le_mul hm (show B+34100000+1<=34100511 by omega);omega):hq (a2S r (a2w I r))<=68719476736);have g5:BM 68719476736 I:=fun r M q hq=>c1A (H.out r M q hq) (by decide);have g7:BM 68719476736 T:=fun r M q hq=>c1A (V r M q hq) (by omega);obtain⟨L,hL⟩:=c1F (a5y z n m);rw[hL]at d D S |-;have d8:Hid (a2N L 0=List.replicate n 0):=hid (by rw[a5L,d.out]);have g2:=hid hB;clear hT b9 hG hI hL V Q b8 hB c i9 e8 h0;go_enter Tryz.func113,Tryz.ntmps113
 go_wp2_with ((with_reducible show wpList _ _ _ (⟨_,.makeSlice _ _ _,_,_,_,_⟩::_) _ _);refine a2x (R:=QC) a0x QC.elem (0:Rat) (fun _=>QC.zero _) X hX w.heap.size (c1B _) n rfl rfl rfl (by omega) (by omega) ?_;intro oo w1 g A)
 rw[<-d8.out]at g;have g9:=hX.ext A;have a2:=e4.out noY w1 A rfl;have d5:(0:Int)<=0/\(0:Int)<(n:Int):=by omega
 by_cases U:m=0
 ·have ht:((m:Int)==0)=true:=a6u (by omega)
  have hz:=S.out U;rw[d8.out,<-hz]at g;have hc:=g.lenCap;have hs:=g.sl QC.elem;rw[d.out]at hc;clear S hz U d5 W J f e3 e9 h9;go_wp2_with (with_reducible refine a0v a0o ?_)
  go_ret
  exact⟨A,_,rfl,oo,n,by rw[d.out];rfl,by rw[d.out];exact hc,hs⟩
 ·have ht:((m:Int)==0)=false:=a2C (by omega)
  have b:1<=m:=by omega
  have E:HX (un X oo) w1:=g.unX g9;have c9:Hid (∀a,Ext w1 a->MV (mk (un X oo) a) (.slice ua n uc) z):=hid fun a h=>mkx MV.mono ⟨ua,uc,by rw[c6.out],by rw[c6.out];exact f9,Y.old RV.mono A (fun j hj=>g.ob_lt hj)⟩ h;have b2:=W.out b (un X oo) w1 _ E (c9.out w1 (ExtX.refl _));have K:=K U;clear S W U;go_wp2_with (with_reducible refine a0v a0o ?_)
  refine b2.mono ?_;rintro e w2 ⟨P,tv,rfl,f7⟩;have b1:=J.out b (un X oo) w2 tv _ (E.ext P) (f7.mv g7) (c9.out w2 P);obtain⟨j8,tc,rfl,_,_⟩:=f7;clear b2 a2;go_wp2_with fail
  refine b1.mono ?_;rintro e w3 ⟨d1,gv,rfl,i2⟩;have a6:=f.out b (un X oo) w3 gv (E.ext (P.trans d1)) (i2.mv a5);clear b1;go_wp2_with fail
  refine a6.mono ?_;rintro e w4 ⟨g3,i8⟩;rcases i8 with⟨j1,_⟩|⟨_,iv,rfl,f0⟩
  ·exact absurd j1 K
  have a3:=P.trans (d1.trans g3);have d9:=g.ext0 QC.elem a3;have i4:=f0.mv g5;have d0:=A.trans a3;clear d5 a6 J f g f0 c9;obtain⟨g1,g0,rfl,a8,f1⟩:=i4;rw[l.out.1]at a8 |-;have i5:MV (mk (un X oo) w4) (.slice g1 m g0) I:=⟨g1,g0,by rw[l.out.1],by rw[l.out.1];exact a8,f1⟩;go_wp2_with fail
  go_loopw [41] (fun k wr=>∃(i:Nat),k=.int .i64 i/\i<=n/\OL QC 3 X w.heap.size 47 wr oo n (a2N L i)/\ExtX (ob oo) w4 wr/\Ext w wr) (fun k _=>n - (intOf k).toNat)
  case atStart=>exact⟨0,rfl,Nat.zero_le _,d9,ExtX.refl _,d0⟩
  case round=>
   obtain⟨i,rfl,hi,hO,d3,p⟩:=hrel;clear d9;have h8:HX X wr:=hX.ext p;by_cases f3:i<n
   ·have c3:i<z.length:=by rw[c6.out];exact f3
    have c2:i<L.length:=by rw[d.out];exact f3
    have e2:HX (un X oo) wr:=hO.unX h8;have j2:Sl RV 1 (mk (un X oo) wr) ua z:=Y.old RV.mono p (fun j hj=>hO.ob_lt hj);obtain⟨a1,c1,j5,e6,a4,f5⟩:=j2.row i c3;have a2:=e6.out noY wr (ExtX.refl _) rfl;have y:=j0.out z[i] (c1E _);have d6:=D.out i c3 c2;have c8:=c1E c3;have c5:RV (mk (un X oo) wr) (.slice a1 m c1) z[i]:=⟨a1,c1,by rw[y],a4,f5⟩;have F:=e3.out (un X oo) wr _ _ z[i] b e2 (MV.mono _ _ _ _ (a0s d3 fun k hk=>a0u hk) i5) c5 y (g2.out z[i] c8);have s:=hid fun a (v t:Value) (g8:HX (un X oo) a) (h2:RV (mk (un X oo) a) v z[i]) (h3:RV (mk (un X oo) a) t (a2w I z[i]))=>e9.out (un X oo) a v t z[i] g8 h2 h3 y c8 (by rw[a3d,l.out.1,y]);have b7:=hid (a6P c2);rw[d6]at b7;rw[y]at a2;have i1:i<(a2N L i).length:=by rw[a5t (by omega)];exact c2
    have j7:Hd oo n:=by have:=hO.hd;rw[a5t (by omega),d.out]at this;exact this
    have a9:Hid (BR 68719476736 (a2w I z[i])):=hid fun q hq=>c1A (o.out z[i] c8 q hq) (by decide);have b0:Hid ((a2w I z[i]).length=m):=hid (by rw[a3d];exact l.out.1);obtain⟨v,hv⟩:=c1F (a2S z[i] (a2w I z[i]));rw[hv]at s b7;obtain⟨ln,f2⟩:=c1F (a2w I z[i]);rw[f2]at F s a9 b0;obtain⟨r,M⟩:=c1F (z[i]);rw[M]at c5 s;clear hv f2 M e6 y d6 f5 a4;go_wp2_with (with_reducible refine a0v a0o ?_)
    refine F.mono ?_;rintro e w6 ⟨C,lv,rfl,f4⟩;have h7:=e2.ext C;have f6:=mkx RV.mono c5 C;have g6:=hO.ext0 QC.elem C;have b6:=s.out w6 _ lv h7 f6 (f4.rv a9.out);obtain⟨lo,lc,rfl,_,_⟩:=f4;rw[b0.out]at b6 |-;clear F a2;go_wp2_with fail
    refine b6.mono ?_;rintro e w7 ⟨b4,u7,rfl,f8⟩;obtain⟨s7,a7,n7,c7,d7,k7,e7,rfl⟩:=f8.shape;have e0:=g6.ext0 QC.elem b4;clear b6;go_wp2_with (first|(with_reducible refine a1w a0x ?_)|((with_reducible refine c1J (t:=47) ?_);refine a2L a3C QC.elem i rfl (by simp) e0 i1 (.agg #[.bool s7,.slice a7 n7 c7,.slice d7 k7 e7]) v rfl f8 ?_;intro w8 e1 d2))
    rw[b7.out]at e1;have g4:=(p.trans (C.trans b4)).own e0 (c1B _) d2;have d4:=(d3.trans (ExtX.of (C.trans b4))).trans d2;go_roundw
    case rel=>exact⟨i+1,by go_num,by omega,e1,d4,g4⟩
    case measure=>simp[intOf];omega
   ·have f:i=n:=by omega
    subst f;have i0:a2N L i=L:=by rw[<-d.out];exact a5M L
    rw[i0]at hO;have hc:=hO.lenCap;have hs:=hO.sl QC.elem;go_wp2_with fail
    go_ret
    exact⟨p,_,rfl,oo,i,by rw[d.out];rfl,hc,hs⟩
noncomputable def a4m(x:Mat)(y:List Rat)(n c:Nat):Fit:=⟨(a0J x c).2.length,usedL (a0J x c).2 c,a1I x y n c,a4r x y (a1I x y n c),a2S (a4r x y (a1I x y n c)) (a4r x y (a1I x y n c)),a5y (pkL x (a0J x c).2) n (a0J x c).2.length⟩
theorem b5K{x:Mat}{y:List Rat}{n c:Nat}(e:Shp n c x)(i:n<=8)(a:1<=c)(h:c<=4):a6N (gmM x y c n)=true/\(gmM x y c n).xx.length=c/\c∉(fmS (gmM x y c n)).2/\fmC (gmM x y c n)=a1I x y n c/\a8E (gmM x y c n).xx c=(a0J x c).2.length:=by
 have b:(gmM x y c n).xx.length=c:=(a3h x n c).1;have d:fmS (gmM x y c n)=lsS x y n c:=by unfold fmS lsS;rw[b];rfl
 have f:fmC (gmM x y c n)=a1I x y n c:=by unfold fmC a1I;rw[d,b]
 have g:colsL (gmM x y c n).xx=c:=a9F (a3h x n c) a;refine⟨?_,b,by rw[d];exact(a9K e).1,f,by rw[a8F];exact congrArg List.length (b9s e)⟩;unfold a6N;rw[b,g,show a0A (gmM x y c n).xx=true from b2X (a3h x n c) (by omega) a (by omega),show(gmM x y c n).xy.length=c from b3d x y n c];simp only[Bool.true_and,Bool.and_eq_true,decide_eq_true_eq];exact⟨⟨by show(0:Int)<=(n:Int);omega,by show(n:Int)<=1099511627776;omega⟩,trivial,trivial,by omega⟩
theorem b5L:(Tryz.prog.info? 65).map (fun i=>(i.zero,i.size,i.bytes))=some (some (.slice none 0 0),1,24):=by kernel_rfl
theorem b8e:TyI Tryz.prog 65 1:=let ⟨i,h,_,a,_⟩:=info_parts b5L;⟨i,h,a⟩
theorem a6Q{P:Program}{ops:Array Oper}{Q:Exit->Act->World->Prop}{g:List Oper}{a:Act}{w:World}{d:Option Tmp}{F:TypeId}{E:String}{p:Array Edge}{t:TypeId}{x y:Operand}{n b o:Nat}{c e:Array Value}{T:TypeId}(u:a1M P t n)(C:a.eval x=.pointer (some ⟨b,o,none⟩))(D:a.eval y=.agg e)(m:Bx w b c T)(z:o+n<=c.size)(f:e.size=n)(h:∀v∈e.toList,v.oneCell'=true)(K:∀l,Bx l b (c.toList.take o++e.toList++c.toList.drop (o+n)).toArray T->ExtX (ob (some ⟨b,0,none⟩)) w l->wpList P ops Q g (a.put d undef) l):wpList P ops Q (⟨d,.store t x y,F,E,p,none⟩::g) a w:=by
 refine wpList_plain rfl fun G j=>?_;obtain⟨H,ti,I,r,s⟩:=u;have i:=run_storeCells_at P b o T e.toList 0 c w m (by simp[f];omega) h;have B:(storeVar t ⟨b,o,none⟩ (.agg e)).run P w=.ok () (w.setRow b (c.toList.take (o+0)++e.toList++c.toList.drop (o+0+e.toList.length)).toArray):=by
  simp[storeVar,sizeOf,typeInfo,r,s,Value.cells,f];simp only[Nat.add_zero,Array.length_toList,f,List.append_assoc]at i |-;exact i
 unfold Oper.wp;simp[execOp,C,D,Instr.storeAt,Instr.sureAddr,B,Result.andThen];refine j _ _ (K _ ?_ ?_)
 ·unfold Bx
  have:=setRow_heap w b c (c.toList.take (o+0)++e.toList++c.toList.drop (o+0+e.toList.length)).toArray T (0,0) m;simp only[Nat.add_zero,Array.length_toList,f,List.append_assoc]at this |-;exact this
 ·exact⟨rfl,rfl,rfl,by simp,fun k _ A=>setRow_other w b k _ (fun q=>by subst q;simp[ob]at A)⟩
def a6R(X:Nat->Bool)(w:World)(f:Fit)(e:Ending)(w':World):Prop:=Ext w w'/\∃u,e=.returned (.tuple #[u,.int .i64 0])/\b4o (mk X w') u f
theorem b8f(X:Nat->Bool)(w:World)(u t:Value)(x:Mat)(y:List Rat)(n c B:Nat)(hX:HX X w)(hu:MV (mk X w) u x)(ht:RV (mk X w) t y)(hok:a2Y x y=true)(hnx:x.length=n)(hcx:colsL x=c)(hn:n<=8)(hc:c<=4)(hxB:BM B x)(hyB:BR B y)(hB1:1<=B)(hB:B<=510/\n*(2*B+1)<=6540):Calls Tryz.prog 60 #[u,t] w (a6R X w (a4m x y n c)):=by
 obtain⟨W,hW,hE,b0,hz⟩:=a0Y w #[.int .i64 0,.slice none 0 0,.slice none 0 0,.slice none 0 0,.bool false,.slice none 0 0,.slice none 0 0,.slice none 0 0] 67;have hXW:HX (a0f X w.heap.size 1) W:=hX.boxes hz;have hle:Hid (∀w',Ext W w'->Le (mk X w) (mk (a0f X w.heap.size 1) w')):=hid fun w' h=>a0i (hE.trans h);obtain⟨b,hb⟩:=c1F w.heap.size;rw[hb]at b0 hz hXW hle;have hbw:w.heap.size<=b:=by omega
 obtain⟨Z0,hZ0⟩:=c1F (a0f X b 1);rw[hZ0]at hXW hle;obtain⟨hf,h1,h64,h12,hyl⟩:=a1k.1 hok;obtain⟨hsh,h96,_,hpos,_⟩:=a0w hf;rw[hnx]at h1;have hc1:=hpos (by omega);rw[hcx]at hc1;rw[hnx,hcx]at hsh;rw[hnx]at hyl;have huW:=hid fun w' (h:Ext W w')=>MV.mono _ _ _ _ (hle.out w' h) hu;have htW:=hid fun w' (h:Ext W w')=>RV.mono _ _ _ _ (hle.out w' h) ht;have hga:=b1P Z0 W u t x y n c B hXW (huW.out W (ExtX.refl _)) (htW.out W (ExtX.refl _)) hok hnx hcx hn hc hxB hyB hB1 hB;obtain⟨f1,f2,f3,f4,f5⟩:=b5K (y:=y) hsh hn hc1 hc;have hhb:=a6C hxB hB1;have hT:=a7v hsh hhb hc (by omega);obtain⟨_,hg,_,_⟩:=a1f hsh;have hrb:BM 68719476736 (a0J x c).1:=by
  obtain⟨B',hb6,hbj⟩:=hT.2;rw[(b0p hsh).1];exact fun r hr q hq=>c1A (a5H (hbj c (c1B _)).1 r hr q hq) (by omega)
 have hcb:=a8d (c:=c) hhb hyB hn hc hB;have hrsb:=a9Q hsh hxB hyB hcb hB1 hc hB;have hresl:(a4r x y (a1I x y n c)).length=n:=by rw[a5k (by rw[hyl,hnx])];exact hnx
 have hp4:=c1A (a7u hsh) hc;have hbmM:BMo 6541 (gmM x y c n):=⟨a5H (b3q hhb hn hB),b3r hhb hyB hn hB,c1A (b1E (B:=2*B) fun r _=>c1A (hq_mul _ _) (by have:=b3p hyB hB1 r;omega)) (a5m hn hB)⟩;have hal:=hid fun Z w' (hZ:HX Z w') (h:MV (mk Z w') u x)=>b3H Z w' u x n c hZ h hf hnx hcx h1 hT.1 hrb;have hfm:=hid fun Z w' (v:Value) (hZ:HX Z w') (h:a8V (mk Z w') v (gmM x y c n))=>b3M Z w' v (gmM x y c n) hZ (h.mv ⟨fun r hr q hq=>c1A (hbmM.1 r hr q hq) (by decide),fun q hq=>c1A (hbmM.2.1 q hq) (by decide),c1A hbmM.2.2 (by decide)⟩) (by rw[f2];exact hc) hbmM;have hrs:=hid fun Z w' (v:Value) (hZ:HX Z w') (h:MV (mk Z w') u x) (h2:RV (mk Z w') t y) (h3:RV (mk Z w') v (a1I x y n c))=>b5I Z w' u t v x y (a1I x y n c) n c 8500000 hZ h h2 h3 hsh hyl (a4h _ _ _ _) (by omega) (by omega) (fun r hr q hq=>c1A (hxB r hr q hq) (by omega)) hcb (by decide) (by decide);have hdb:=a1D (l:=a4r x y (a1I x y n c)) (m:=a4r x y (a1I x y n c)) hrsb hrsb (by decide) (by rw[hresl];omega) (by decide);have hdo:=hid fun Z w' (v:Value) (hZ:HX Z w') (h:RV (mk Z w') v (a4r x y (a1I x y n c)))=>a6l Z w' v v _ _ hZ h h (by rw[hresl];omega) rfl hdb.1 hdb.2;have hch:=hid fun Z w' (uo:Option Addr) (uc:Nat) (hZ:HX Z w') (h:MV (mk Z w') u x) (h2:Sl BlR 1 (mk Z w') uo (usedL (a0J x c).2 c))=>b1V Z w' u uo uc x (a0J x c).2 n c hZ h h2 hsh (by omega) (by omega) hg.pw (fun j hj=>by obtain⟨k,hk,rfl⟩:=List.getElem_of_mem hj;exact hg.lt k hk) (fun r hr q hq=>c1A (hxB r hr q hq) (by omega));have hlv:=hid fun Z w' (v:Value) (hZ:HX Z w') (h:MV (mk Z w') v (pkL x (a0J x c).2))=>a9b Z w' v (pkL x (a0J x c).2) n (a0J x c).2.length B hZ h (a9L hsh _) h1 hn hp4 (b3t hxB hB1) hB1 hB (fun _=>(a9M hsh hp4).1);have hcbv:Hid (BR 68719476736 (a1I x y n c)):=hid fun q hq=>c1A (hcb q hq) (by decide);have hrbv:Hid (BR 68719476736 (a4r x y (a1I x y n c))):=hid fun q hq=>c1A (hrsb q hq) (by decide);have hcl:=hid (a4h x y n c);have hrl:=hid hresl;have hfd:=hid (show a4m x y n c=⟨(a0J x c).2.length,usedL (a0J x c).2 c,a1I x y n c,a4r x y (a1I x y n c),a2S (a4r x y (a1I x y n c)) (a4r x y (a1I x y n c)),a5y (pkL x (a0J x c).2) n (a0J x c).2.length⟩from rfl);unfold b3L at hfm;rw[f1,f2,f4,f5]at hfm;obtain⟨Fi,hFi⟩:=c1F (a4m x y n c);rw[hFi]at hfd |-;have hul:=hid (a2k (a0J x c).2 c);obtain⟨Cf,hCf⟩:=c1F (a1I x y n c);rw[hCf]at hfm hrs hdo hcbv hrbv hcl hrl hfd;obtain⟨Rs,hRs⟩:=c1F (a4r x y Cf);rw[hRs]at hrs hdo hrbv hrl hfd;obtain⟨Us,hUs⟩:=c1F (usedL (a0J x c).2 c);unfold b5D at hal;rw[hUs]at hch hfd hal hul;obtain⟨p,hp⟩:=c1F ((a0J x c).2);rw[hp]at hch hfd hlv hfm;obtain⟨pl,hpl⟩:=c1F p.length;rw[hpl]at hfd hlv hfm;obtain⟨M,hM⟩:=c1F (gmM x y c n);rw[hM]at hga hfm f3;clear hok hf h64 h12 hpos hsh f1 f2 f4 f5 hhb hT hg hrb hcb hrsb hresl hp4 hbmM hdb hFi hCf hRs hUs hp hpl hM hnx hcx hyl hu ht h96;have hfin:Hid (∀w' uo uc co cc ro rc (s:Bool) a n' c' d k e lo lc,Ext w w'->c<=uc->Sl BlR 1 (mk X w') uo Us->RC (mk X w') (.slice co c cc) Cf->RC (mk X w') (.slice ro n rc) Rs->QC (mk X w') (.agg #[.bool s,.slice a n' c',.slice d k e]) (a2S Rs Rs)->∀ll,RC (mk X w') (.slice lo ll lc) (a5y (pkL x p) n pl)->a6R X w Fi (.returned (.tuple #[.agg #[.int .i64 (pl:Int),.slice uo c uc,.slice co c cc,.slice ro n rc,.bool s,.slice a n' c',.slice d k e,.slice lo ll lc],.int .i64 0])) w'):=hid fun w' uo uc co cc ro rc s a n' c' d k e lo lc h0 h1 h2 h3 h4 h5 ll h6=>by
  rw[hfd.out];exact⟨h0,_,rfl,uo,uc,co,c,cc,ro,n,rc,s,a,n',c',d,k,e,lo,ll,lc,by rw[hul.out],by rw[hul.out];exact h1,h2,h3,h4,h5,h6⟩
 obtain⟨F,hF⟩:=c1F (a6R X w Fi);rw[hF]at hfin |-;have hXZ0:Hid (∀k,X k=true->Z0 k=true):=hid fun k hk=>by rw[<-hZ0];simp[a0f,hk]
 have hb0:Hid (∀k,ob (some ⟨b,0,none⟩) k=true->Z0 k=true):=hid fun k hk=>by
  have hk2:b=k:=by simpa[ob]using hk
  rw[<-hZ0];exact a3B (by omega) (by omega)
 clear hF hfd hul hZ0;go_enter Tryz.func60,Tryz.ntmps60
 go_wp2_with fail
 refine hga.mono ?_;rintro ee w1 ⟨hE1,mv,rfl,hmv⟩;obtain⟨xo,xl,xc,yo,yl,yc,s,a,n',c',d,k,e,rfl,q1,q2,q3⟩:=hmv;have hmv:a8V (mk Z0 w1) _ M:=⟨xo,xl,xc,yo,yl,yc,s,a,n',c',d,k,e,rfl,q1,q2,q3⟩;have bm:=Bx.new w1 #[.int .i64 0,.slice none 0 0,.slice none 0 0,.bool false,.slice none 0 0,.slice none 0 0] 124;clear q1 q2 q3 hga;go_wp2_with (first
  |((with_reducible refine c1J (t:=124) ?_);refine a0a a3H rfl rfl bm rfl rfl (by intro v hv;simp at hv;rcases hv with rfl|rfl|rfl|rfl|rfl|rfl<;>rfl) ?_;intro w2 m1 m2;have bf:=Bx.new w2 #[.int .i64 0,.slice none 0 0,.slice none 0 0,.slice none 0 0,.bool false,.slice none 0 0,.slice none 0 0,.slice none 0 0] 67)
  |((with_reducible refine c1J (t:=67) ?_);refine a0a a1n rfl rfl bf rfl rfl (by intro v hv;simp at hv;rcases hv with rfl|rfl|rfl|rfl|rfl|rfl|rfl|rfl<;>rfl) ?_;intro w3 v1 v2))
 obtain⟨g,hg⟩:=c1F w1.heap.size;have hgw:w1.heap.size<=g:=by omega
 have zG:(w1.alloc (.cells #[.int .i64 0,.slice none 0 0,.slice none 0 0,.bool false,.slice none 0 0,.slice none 0 0] 124)).heap.size=g+1:=by rw[<-hg];simp
 have eG:Ext w1 (w1.alloc (.cells #[.int .i64 0,.slice none 0 0,.slice none 0 0,.bool false,.slice none 0 0,.slice none 0 0] 124)):=(ExtX.refl _).alloc _;rw[hg]at m1 m2 |-;have hE2:Ext w1 w2:=ExtX.box eG m2 hgw;have hg2:g<w2.heap.size:=by have:=m2.size;omega
 obtain⟨h,hh⟩:=c1F w2.heap.size;have zH:(w2.alloc (.cells #[.int .i64 0,.slice none 0 0,.slice none 0 0,.slice none 0 0,.bool false,.slice none 0 0,.slice none 0 0,.slice none 0 0] 67)).heap.size=h+1:=by rw[<-hh];simp
 have eH:Ext w2 (w2.alloc (.cells #[.int .i64 0,.slice none 0 0,.slice none 0 0,.slice none 0 0,.bool false,.slice none 0 0,.slice none 0 0,.slice none 0 0] 67)):=(ExtX.refl _).alloc _;rw[hh]at v1 v2 hg2 |-;have hgh:w1.heap.size<=h:=by omega
 have hE3:Ext w1 w3:=ExtX.box (hE2.trans eH) v2 hgh;have hh3:h<w3.heap.size:=by have:=v2.size;omega
 have m3:=(m1.ext0 eH).ext v2 (a0b (by omega));obtain⟨Z,hZ⟩:=c1F (un Z0 (some ⟨h,0,none⟩));have hX3:HX Z w3:=by rw[<-hZ];exact a1m (hXW.ext (hE1.trans hE3)) hh3
 have hZb:Hid (∀k,ob (some ⟨h,0,none⟩) k=true->Z k=true):=hid fun k hk=>by rw[<-hZ];simp[un,hk]
 have hZ0:Hid (∀k,Z0 k=true->Z k=true):=hid fun k hk=>by rw[<-hZ];simp[un,hk]
 have hnx:Hid (∀a b,ExtX (ob (some ⟨h,0,none⟩)) a b->Le (mk Z a) (mk Z b)):=hid fun a b hab=>a4k hab hZb.out fun _ hk=>hk;have huZ:=hid fun w' (hw:Ext w1 w')=>MV.mono _ _ _ _ (hZ▸a2g hw hgh:Le (mk Z0 w1) (mk Z w')) (huW.out w1 hE1);have htZ:=hid fun w' (hw:Ext w1 w')=>RV.mono _ _ _ _ (hZ▸a2g hw hgh:Le (mk Z0 w1) (mk Z w')) (htW.out w1 hE1);have hmZ:=hid fun w' (hw:Ext w1 w')=>a8V.mono _ _ _ _ (hZ▸a2g hw hgh:Le (mk Z0 w1) (mk Z w')) hmv;have hxg:=hid fun w' (hw:w3.heap.size<=w'.heap.size)=>(fun k hk=>c1C (hX3 k hk) hw:HX Z w');have ha3:=hal.out Z w3 hX3 (huZ.out w3 hE3);clear hal hmv huW htW hZ zG zH eG eH bm bf m1 m2 v2 hE2;go_wp2_with fail
 refine ha3.mono ?_;rintro ee w4 ⟨e4,uo,uc,uv,rfl,huc,hus⟩;have v4:=v1.ext0 e4;have m4:=m3.ext0 e4;have hE4:=hE3.trans e4;have s4:=e4.size;clear ha3 v1 m3;go_wp2_with ((show wpList _ _ _ (⟨_,.store _ _ _,_,_,_,_⟩::_) _ _);refine a1G (v:= .slice uo c uc) b8e rfl rfl rfl rfl v4 (by decide) ?_;intro w5 v5 x5;have m5:=m4.ext x5 (a0b (by omega));have q0:=m5.cell 0 rfl;have q1:=m5.cell 1 rfl;have q2:=m5.cell 2 rfl;have q3:=m5.cell 3 rfl;have q4:=m5.cell 4 rfl;have q5:=m5.cell 5 rfl)
 have hE5:=ExtX.box hE4 x5 hgh;have hus:=hus.mono BlR.mono (hnx.out _ _ x5);have hf5:=hfm.out Z w5 _ (hxg.out w5 (c1A s4 x5.size)) (hmZ.out w5 hE5);have s5:=c1A s4 x5.size;clear hfm q0 q1 q2 q3 q4 q5 m4 m5 v4 hmZ e4 s4 hE4;refine hf5.mono ?_;rintro ee w6 ⟨e6,cv,cu,ck,cc0,rfl,hor⟩;rcases hor with⟨hbad,_⟩|⟨_,hbad,_⟩|⟨_,_,rfl,rfl,hcv,_⟩
 ·simp at hbad
 ·exact absurd hbad f3
 have v6:=v5.ext0 e6;have hE6:=hE5.trans e6;have s6:=c1A s5 e6.size;have hus:=hus.mono BlR.mono (hnx.out _ _ (ExtX.of e6));have hcv':=hid hcv;obtain⟨co,cc,rfl,hcc,hcs⟩:=hcv;rw[hcl.out]at hcv' hcc |-;clear hf5 f3 v5 e6 s5 hE5 x5 hcs hcl;go_wp2_with ((show wpList _ _ _ (⟨_,.store _ _ _,_,_,_,_⟩::_) _ _);first
  |(refine a1G (v:= .slice co c cc) a8W rfl rfl rfl rfl v6 (by simp) ?_;intro w7 v7 x7)
  |(refine a1G (v:= .int .i64 (pl:Int)) b8V rfl rfl rfl rfl v7 (by simp) ?_;intro w8 v8 x8;have q2:=v8.cell 2 rfl))
 have w68:=x7.trans x8;have hE8:=ExtX.box (ExtX.box hE6 x7 hgh) x8 hgh;have s8:=c1A s6 w68.size;have hus:=hus.mono BlR.mono (hnx.out _ _ w68);have hcv8:=RC.mono _ _ _ _ (hnx.out _ _ w68) hcv'.out;have hr8:=hrs.out Z w8 _ (hxg.out w8 s8) (huZ.out w8 hE8) (htZ.out w8 hE8) (hcv8.rv hcbv.out);clear hrs htZ hcv' x7 x8 v6 v7 w68 hcbv s6 hE6;go_wp2_with fail
 refine hr8.mono ?_;rintro ee w9 ⟨e9,rv,rfl,hrv⟩;have v9:=v8.ext0 e9;have hE9:=hE8.trans e9;have s9:=c1A s8 e9.size;have hus:=hus.mono BlR.mono (hnx.out _ _ (ExtX.of e9));have hcv9:=RC.mono _ _ _ _ (hnx.out _ _ (ExtX.of e9)) hcv8;have hrv':=hid hrv;obtain⟨ro,rc,rfl,hrc,hrs⟩:=hrv;rw[hrl.out]at hrv' hrc |-;clear q2 hr8 v8 e9 s8 hE8 hrs hrl hcv8;go_wp2_with ((show wpList _ _ _ (⟨_,.store _ _ _,_,_,_,_⟩::_) _ _);refine a1G (v:= .slice ro n rc) a8W rfl rfl rfl rfl v9 (by simp) ?_;intro wa va xa;have q3:=va.cell 3 rfl)
 have hEa:=ExtX.box hE9 xa hgh;have sa:=c1A s9 xa.size;have hus:=hus.mono BlR.mono (hnx.out _ _ xa);have hcva:=RC.mono _ _ _ _ (hnx.out _ _ xa) hcv9;have hrva:=RC.mono _ _ _ _ (hnx.out _ _ xa) hrv'.out;have hda:=hdo.out Z wa _ (hxg.out wa sa) (hrva.rv hrbv.out);clear hdo v9 xa s9 hE9 hrv' hcv9 hrbv;refine hda.mono ?_;rintro ee wb ⟨eb,dv,rfl,hdv⟩;have hdv':=hid hdv;obtain⟨s',a',n'',c'',d',k',e',rfl⟩:=hdv.shape;have vb:=va.ext0 eb;have hEb:=hEa.trans eb;have sb:=c1A sa eb.size;have hus:=hus.mono BlR.mono (hnx.out _ _ (ExtX.of eb));have hcvb:=RC.mono _ _ _ _ (hnx.out _ _ (ExtX.of eb)) hcva;have hrvb:=RC.mono _ _ _ _ (hnx.out _ _ (ExtX.of eb)) hrva;clear q3 hda va eb sa hEa hdv hcva hrva;go_wp2_with ((show wpList _ _ _ (⟨_,.store _ _ _,_,_,_,_⟩::_) _ _);refine a6Q a0p rfl rfl vb (by simp) rfl (by intro v hv;simp at hv;rcases hv with rfl|rfl|rfl<;>rfl) ?_;intro wc vc xc';have q1:=vc.cell 1 rfl)
 have hEc:=ExtX.box hEb xc' hgh;have sc:=c1A sb xc'.size;have hus:=hus.mono BlR.mono (hnx.out _ _ xc');have hcvc:=RC.mono _ _ _ _ (hnx.out _ _ xc') hcvb;have hrvc:=RC.mono _ _ _ _ (hnx.out _ _ xc') hrvb;have hdvc:=QC.mono _ _ _ _ (hnx.out _ _ xc') hdv'.out;have hcc8:=hch.out Z wc uo uc (hxg.out wc sc) (huZ.out wc hEc) hus;clear hch vb xc' sb hEb hdv' hcvb hrvb huZ;refine hcc8.mono ?_;rintro ee wd ⟨ed,zv,rfl,hzv⟩;have hEd:=hEc.trans ed;have sd:=c1A sc ed.size;have hlv8:=hlv.out Z wd zv (hxg.out wd sd) hzv;clear hcc8 hlv;go_wp2_with fail
 refine hlv8.mono ?_;rintro ee we ⟨ee',lv,rfl,hlvv⟩;have ece:=ed.trans ee';have ve:=vc.ext0 ece;have hEe:=hEd.trans ee';have hus:=hus.mono BlR.mono (hnx.out _ _ (ExtX.of ece));have hcve:=RC.mono _ _ _ _ (hnx.out _ _ (ExtX.of ece)) hcvc;have hrve:=RC.mono _ _ _ _ (hnx.out _ _ (ExtX.of ece)) hrvc;have hdve:=QC.mono _ _ _ _ (hnx.out _ _ (ExtX.of ece)) hdvc;have hlv':=hid hlvv;obtain⟨lo,lc,rfl,hlc,hls⟩:=hlvv;obtain⟨ll,hll⟩:=c1F ((a5y (pkL x p) n pl).length);rw[hll]at hlv' hlc |-;have hby:b<we.heap.size:=by have:=hEe.size;have:=hE1.size;omega
 have hbg:h≠b:=by have:=hE1.size;omega
 clear q1 hlv8 vc ed ee' sd sc hEc hEd ece hcvc hrvc hdvc hls hzv hxg;have be:=b0.ext0 (hE1.trans hEe);go_wp2_with ((show wpList _ _ _ (⟨_,.store _ _ _,_,_,_,_⟩::_) _ _);first|(refine a0a a1n rfl rfl bb rfl rfl (by intro v hv;simp at hv;rcases hv with rfl|rfl|rfl|rfl|rfl|rfl|rfl|rfl<;>rfl) ?_;intro wg vg xg)|(refine a1G (v:= .slice lo ll lc) a8W rfl rfl rfl rfl ve (by simp) ?_;intro wf vf xf;have bb:=be.ext xf (a0b (by omega));have q0:=vf.cell 0 rfl;have q1:=vf.cell 1 rfl;have q2:=vf.cell 2 rfl;have q3:=vf.cell 3 rfl;have q4:=vf.cell 4 rfl;have q5:=vf.cell 5 rfl;have q6:=vf.cell 6 rfl;have q7:=vf.cell 7 rfl))
 have hEf:Ext w wf:=hE.trans (hE1.trans (ExtX.box hEe xf hgh));have hdr:=a4k (X:=X) xg (fun k hk=>hZ0.out k (hb0.out k hk)) (fun k hk=>hZ0.out k (hXZ0.out k hk));have hd1:=hnx.out _ _ xf;have hus:=(hus.mono BlR.mono hd1).mono BlR.mono hdr;have hcvg:=RC.mono _ _ _ _ hdr (RC.mono _ _ _ _ hd1 hcve);have hrvg:=RC.mono _ _ _ _ hdr (RC.mono _ _ _ _ hd1 hrve);have hdvg:=QC.mono _ _ _ _ hdr (QC.mono _ _ _ _ hd1 hdve);have hlvg:=RC.mono _ _ _ _ hdr (RC.mono _ _ _ _ hd1 hlv'.out);exact bodyPost_ret (a0C rfl rfl a1n vg rfl) rfl (hfin.out _ _ _ _ _ _ _ _ _ _ _ _ _ _ _ _ (ExtX.box hEf xg hbw) huc hus hcvg hrvg hdvg _ hlvg)
theorem b9J:∀v∈(#[Value.int .i64 0,.slice none 0 0,.slice none 0 0,.slice none 0 0,.bool false,.slice none 0 0,.slice none 0 0,.slice none 0 0]:Array Value).toList,v.oneCell'=true:=by
 intro v a;simp at a;rcases a with rfl|rfl|rfl|rfl|rfl|rfl|rfl|rfl<;>rfl
theorem b9K:∀v∈(#[Value.int .i64 0,.slice none 0 0,.slice none 0 0,.bool false,.slice none 0 0,.slice none 0 0]:Array Value).toList,v.oneCell'=true:=by
 intro v a;simp at a;rcases a with rfl|rfl|rfl|rfl|rfl|rfl<;>rfl
def b5M(w:World)(z:Value)(e:Ending)(w':World):Prop:=Ext w w'/\e=.returned (.tuple #[z,.int .i64 6])
theorem b1W(X:Nat->Bool)(w:World)(u t:Value)(x:Mat)(y:List Rat)(r:HX X w)(o:MV (mk X w) u x)(m:RV (mk X w) t y)(d:a2Y x y=false)(v:x.length<=1000000):Calls Tryz.prog 108 #[u,t] w (b5M w (.agg #[.int .i64 0,.slice none 0 0,.slice none 0 0,.bool false,.slice none 0 0,.slice none 0 0])):=by
 obtain⟨W,C,e,l,hz⟩:=a0Y w #[.int .i64 0,.slice none 0 0,.slice none 0 0,.bool false,.slice none 0 0,.slice none 0 0] 124;have a:=a6L X W u t x y (r.ext e) (mkx MV.mono o e) (mkx RV.mono m e) (by omega);rw[d]at a;obtain⟨F,G,rfl,j,k⟩:=o;obtain⟨D,E,rfl,h,i⟩:=m;obtain⟨b,s⟩:=c1F w.heap.size;have f:w.heap.size<=b:=by omega
 rw[s]at l hz;obtain⟨n,g⟩:=c1F x.length;obtain⟨q,hq⟩:=c1F y.length;rw[g,hq]at a;rw[g,hq];clear d g hq k i j h v;go_enter Tryz.func108,Tryz.ntmps108
 go_wp2_with fail
 refine a.mono ?_;rintro B H ⟨c,rfl⟩;have p:=l.ext0 c;clear a;go_wp2_with ((show wpList _ _ _ (⟨_,.store _ _ _,_,_,_,_⟩::_) _ _);refine a0a a3H rfl rfl p rfl rfl b9K ?_;intro I z A)
 exact bodyPost_ret (a0C rfl rfl a3H z rfl) rfl ⟨ExtX.box (e.trans c) A f,rfl⟩
theorem b8g(X:Nat->Bool)(w:World)(u t:Value)(x:Mat)(y:List Rat)(hX:HX X w)(hu:MV (mk X w) u x)(ht:RV (mk X w) t y)(hok:a2Y x y=false)(hl:x.length<=1000000):Calls Tryz.prog 60 #[u,t] w (b5M w (.agg #[.int .i64 0,.slice none 0 0,.slice none 0 0,.slice none 0 0,.bool false,.slice none 0 0,.slice none 0 0,.slice none 0 0])):=by
 obtain⟨W,hW,hE,b0,hz⟩:=a0Y w #[.int .i64 0,.slice none 0 0,.slice none 0 0,.slice none 0 0,.bool false,.slice none 0 0,.slice none 0 0,.slice none 0 0] 67;have hga:=b1W X W u t x y (hX.ext hE) (mkx MV.mono hu hE) (mkx RV.mono ht hE) hok hl;obtain⟨ua,uc,rfl,huc,hus⟩:=hu;obtain⟨ta,tc,rfl,htc,hts⟩:=ht;obtain⟨b,hb⟩:=c1F w.heap.size;have hbw:w.heap.size<=b:=by omega
 rw[hb]at b0 hz;obtain⟨n,hn⟩:=c1F x.length;obtain⟨q,hq⟩:=c1F y.length;rw[hn,hq]at hga;rw[hn,hq];clear hok hn hq hus hts huc htc hl;go_enter Tryz.func60,Tryz.ntmps60
 go_wp2_with fail
 refine hga.mono ?_;rintro ee w1 ⟨hE1,rfl⟩;have b1:=b0.ext0 hE1;have bm:=Bx.new w1 #[.int .i64 0,.slice none 0 0,.slice none 0 0,.bool false,.slice none 0 0,.slice none 0 0] 124;have hb1:b<w1.heap.size:=a1Z (b1.cell 0 rfl);clear hga;go_wp2_with ((show wpList _ _ _ (⟨_,.store _ _ _,_,_,_,_⟩::_) _ _);first
  |(refine a0a a3H rfl rfl bm rfl rfl b9K ?_;intro w2 m1 m2;have b2:=(b1.ext0 ((ExtX.refl w1).alloc _)).ext m2 (a0b (by omega)))
  |(refine a0a a1n rfl rfl b2 rfl rfl b9J ?_;intro w7 r1 r2))
 have hE2:=c1M m2;exact bodyPost_ret (a0C rfl rfl a1n r1 rfl) rfl ⟨ExtX.box (hE.trans (hE1.trans hE2)) r2 hbw,rfl⟩
theorem b3P(X:Nat->Bool)(w:World)(u t:Value)(x:Mat)(y:List Rat)(r:HX X w)(o:MV (mk X w) u x)(m:RV (mk X w) t y)(d:a2Y x y=false)(v:x.length<=1000000):Calls Tryz.prog 31 #[u,t] w (b5M w (.agg #[.int .i64 0,.slice none 0 0,.slice none 0 0,.slice none 0 0,.bool false,.slice none 0 0,.slice none 0 0,.slice none 0 0])):=by
 obtain⟨W,C,e,l,hz⟩:=a0Y w #[.int .i64 0,.slice none 0 0,.slice none 0 0,.slice none 0 0,.bool false,.slice none 0 0,.slice none 0 0,.slice none 0 0] 67;have a:=a6M X W u t x y (r.ext e) (mkx MV.mono o e) (mkx RV.mono m e) (by omega);rw[d]at a;obtain⟨F,G,rfl,j,k⟩:=o;obtain⟨D,E,rfl,h,i⟩:=m;obtain⟨b,s⟩:=c1F w.heap.size;have f:w.heap.size<=b:=by omega
 rw[s]at l hz;obtain⟨n,g⟩:=c1F x.length;obtain⟨q,hq⟩:=c1F y.length;rw[g,hq]at a;rw[g,hq];clear d g hq k i j h v;go_enter Tryz.func31,Tryz.ntmps31
 go_wp2_with fail
 refine a.mono ?_;rintro B H ⟨c,rfl⟩;have p:=l.ext0 c;clear a;go_wp2_with ((show wpList _ _ _ (⟨_,.store _ _ _,_,_,_,_⟩::_) _ _);refine a0a a1n rfl rfl p rfl rfl b9J ?_;intro I z A)
 exact bodyPost_ret (a0C rfl rfl a1n z rfl) rfl ⟨ExtX.box (e.trans c) A f,rfl⟩
noncomputable def a1C(x:Mat)(y:List Rat):Int:=if a2Y x y=false then 6 else if(a0J x (colsL x)).2.length<colsL x then 7 else 0
noncomputable def a9r(x:Mat)(y:List Rat)(n c:Nat):List (List Rat):=(List.range n).map fun i=>a1I (a1P x i) (a1P y i) (n - 1) c
noncomputable def b6F(x:Mat)(y:List Rat):Int:=if a1C x y≠0 then a1C x y else if∃i,i<x.length/\(x.length=1\/(a0J (a1P x i) (colsL x)).2.length<colsL x)then 7 else 0
theorem a6m{x:Mat}{y:List Rat}{n c i:Nat}(h:a2Y x y=true)(f:x.length=n)(e:colsL x=c)(j:2<=n)(q:i<n):Shp (n - 1) c (a1P x i)/\a2Y (a1P x i) (a1P y i)=true/\colsL (a1P x i)=c/\(a1P x i).length=n - 1:=by
 obtain⟨d,k,l,o,p⟩:=a1k.1 h;have g:Shp n c x:=by
  have:=(a0w d).1;rw[f,e]at this;exact this
 obtain⟨m,rfl⟩:∃m,n=m+1:=⟨n - 1,by omega⟩;have hd:=b5n g (i:=i) (by omega);have b:colsL (a1P x i)=c:=a9F hd (by omega);have a:1<=c:=by
  have:=(a0w d).2.2.2.1 (by omega);omega
 refine⟨hd,a1k.2 ⟨(b1J hd (by omega) a (by omega) (by omega)).1,by rw[hd.1];omega,by rw[hd.1];omega,by omega,?_⟩,b,hd.1⟩;rw[hd.1,a3G (by omega)];omega
theorem b3Q{B:Nat}{y:List Rat}{i:Nat}(h:BR B y):BR B (a1P y i):=fun q hq=>by
 unfold a1P at hq;rcases List.mem_append.1 hq with a|a
 ·exact h q (List.mem_of_mem_take a)
 ·exact h q (List.mem_of_mem_drop a)
theorem b3R{B:Nat}{x:Mat}{i:Nat}(h:BM B x):BM B (a1P x i):=fun r b=>by
 unfold a1P at b;rcases List.mem_append.1 b with a|a
 ·exact h r (List.mem_of_mem_take a)
 ·exact h r (List.mem_of_mem_drop a)
theorem a1Q{r:Int}{a:Option Addr}{m g:Nat}{b:Option Addr}{n h:Nat}{c:Option Addr}{o i:Nat}{s:Bool}{d:Option Addr}{p j:Nat}{e:Option Addr}{q k:Nat}{f:Option Addr}{t l:Nat}:∀v∈(#[Value.int .i64 r,.slice a m g,.slice b n h,.slice c o i,.bool s,.slice d p j,.slice e q k,.slice f t l]:Array Value).toList,v.oneCell'=true:=by
 simp[Value.oneCell']
def c1w(v:Value):Prop:=∃r uo ul uc co cl cc ro rl rc s a n c d k e lo ll lc,v=.agg #[.int .i64 r,.slice uo ul uc,.slice co cl cc,.slice ro rl rc,.bool s,.slice a n c,.slice d k e,.slice lo ll lc]
def b8h(X:Nat->Bool)(w:World)(er:Int)(f:Fit)(e:Ending)(w':World):Prop:=Ext w w'/\∃z,e=.returned (.tuple #[z,.int .i64 er])/\c1w z/\(er=0->b4o (mk X w') z f)
theorem b8i(X:Nat->Bool)(w:World)(u v:Value)(x:Mat)(y:List Rat)(n c B:Nat)(hX:HX X w)(hu:MV (mk X w) u x)(hv:RV (mk X w) v y)(hnx:x.length=n)(hcx:colsL x=c)(hl:n<=1000000)(hbd:a2Y x y=true->n<=8/\c<=4)(hxB:BM B x)(hyB:BR B y)(hB1:1<=B)(hB:B<=510/\n*(2*B+1)<=6540):Calls Tryz.prog 27 #[u,v] w (b8h X w (a1C x y) (a4m x y n c)):=by
 obtain⟨W,hW,hE,b0,hz⟩:=a0Y w #[.int .i64 0,.slice none 0 0,.slice none 0 0,.slice none 0 0,.bool false,.slice none 0 0,.slice none 0 0,.slice none 0 0] 67;have hXW:HX (a0f X w.heap.size 1) W:=hX.boxes hz;have hu1:=MV.mono _ _ _ _ (a0i (nb:=1) hE) hu;have hv1:=RV.mono _ _ _ _ (a0i (nb:=1) hE) hv;obtain⟨b,hb⟩:=c1F w.heap.size;have hbw:w.heap.size<=b:=by omega
 rw[hb]at b0 hz hXW hu1 hv1;have bNw:=hid fun(w':World)=>Bx.new w' #[.int .i64 0,.slice none 0 0,.slice none 0 0,.slice none 0 0,.bool false,.slice none 0 0,.slice none 0 0,.slice none 0 0] 67;have hnl:=hid (show∃ao ca,u=.slice ao n ca from by
  obtain⟨ao,ca,e,_⟩:=hu;exact⟨ao,ca,by rw[e,hnx]⟩)
 cases hok:a2Y x y with
 |false=>
  have e1:a1C x y=6:=by unfold a1C;rw[hok,if_pos rfl]
  have hno:=b8g (a0f X b 1) W u v x y hXW hu1 hv1 hok (by omega);rw[e1];clear hok e1 hu1 hv1 hu hv hbd;go_enter Tryz.func27,Tryz.ntmps27
  go_wp2_with (first
   |(go_at_call 60;(with_reducible refine hno.mono ?_);rintro ee w2 ⟨t2,rfl⟩;have b2:=b0.ext0 t2;have bN:=bNw.out w2)
   |((with_reducible refine c1J (t:=67) ?_);(first|(refine a0a a1n rfl rfl bN rfl rfl a1Q ?_;intro w7 x1 y1;have hE7:=c1M y1;have b07:=b2.ext0 hE7;clear bN)|(refine a0a a1n rfl rfl b07 rfl rfl a1Q ?_;intro w8 x2 y2))))
  exact bodyPost_ret (a0C rfl rfl a1n x2 rfl) rfl ⟨ExtX.box (hE.trans (t2.trans hE7)) y2 hbw,_,rfl,⟨_,_,_,_,_,_,_,_,_,_,_,_,_,_,_,_,_,_,_,_,rfl⟩,fun h=>absurd h (by decide)⟩
 |true=>
  obtain⟨hn8,hc4⟩:=hbd hok;obtain⟨g1,g2,g3,g4,g5⟩:=a1k.1 hok;have hfit:=b8f (a0f X b 1) W u v x y n c B hXW hu1 hv1 hok hnx hcx hn8 hc4 hxB hyB hB1 hB;have hrow:=hid (show∃ao ca a0 c0,u=.slice ao n ca/\Hd ao n/\∀w',Ext W w'->w'.cell? (adr ao 0)=some (.slice a0 c c0)from by
   obtain⟨ao,ca,e,hca,hsa⟩:=hu1;obtain⟨a0,c0,_,hc0,_,_⟩:=hsa.row 0 (by omega);rw[<-a1i (by omega),hcx]at hc0;have hd:=hsa.hd;rw[hnx]at hd;exact⟨ao,ca,a0,c0,by rw[e,hnx],hd,fun w' h=>hc0.out noY w' h rfl⟩)
  have hrk:(a4m x y n c).rank=(a0J x c).2.length:=rfl;have hfe:a1C x y=if(a0J x c).2.length<c then 7 else 0:=by unfold a1C;rw[hok,if_neg (by decide),hcx]
  have hrc:(a0J x c).2.length<=4:=by
   have:=a7u (a0w g1).1;rw[hcx]at this;omega
  obtain⟨er,her⟩:=c1F (a1C x y);obtain⟨F,hF⟩:=c1F (a4m x y n c);rw[hF]at hfit hrk |-;rw[her]at hfe |-;obtain⟨R,hR⟩:=c1F ((a0J x c).2.length);rw[hR]at hrk hfe hrc;obtain⟨ao,ca,a0,c0,hue,hhd,hk0⟩:=hrow.out;subst hue;have hn1:0<n:=by omega
  have hrk':=hid hrk;have hk0':=hid hk0;clear hok hu1 hv1 hu hv hbd hrow hF her hR g1 g2 g3 g4 g5 hrk hnl hk0;have i0:∀W,(Instr.indexAt 23 (.slice ao n ca) (.int .i64 0)).run Tryz.prog W=.ok (.pointer (some (adr ao 0))) W:=a0y a0o ao n ca .i64 0 hhd hn1 rfl;by_cases hlt:R<c
  ·rw[if_pos hlt]at hfe
   subst hfe;go_enter Tryz.func27,Tryz.ntmps27
   go_upto_region 4 with(first
    |(go_at_call 60;(with_reducible refine hfit.mono ?_);rintro ee w2 ⟨t2,fv,rfl,hfv⟩;have hfv':=hfv;obtain⟨uo,uc',co',cl',cc,ro,rl,rc,s3,a3,n3,c3,d3,k3,e3,fo,ll,lc,rfl,hfv2⟩:=hfv;rw[hrk'.out]at hfv' |-;clear hfv2;have b2:=b0.ext0 t2;have bN:=bNw.out w2)
    |((with_reducible refine c1J (t:=67) ?_);refine a0a a1n rfl rfl bN rfl rfl a1Q ?_;intro w7 x1 y1))
   have hE7:=c1M y1;have hEd:=c1L w7;have b07:=(b2.ext0 hE7).ext0 hEd;have x1d:=x1.ext0 hEd;have hwS:w7.drew.cell? ⟨w2.heap.size,0,none⟩=some (.int .i64 (R:Int))/\w7.drew.cell? (adr ao 0)=some (.slice a0 c c0):=⟨x1d.cell 0 rfl,hk0'.out _ ((t2.trans hE7).trans hEd)⟩
   (try simp only[Act.put])
   refine a0n 6 (fun w'=>w'.cell? ⟨w2.heap.size,0,none⟩=some (.int .i64 (R:Int))/\w'.cell? (adr ao 0)=some (.slice a0 c c0)) (by kernel_rfl) (by kernel_rfl) hwS (fun hHeld hOnce=>?_);refine kt 0 hOnce ?_;refine kt 1 hOnce ?_;refine kt 2 hOnce ?_;refine kt 3 hOnce ?_;refine kt 4 hOnce ?_;refine kt 5 hOnce ?_;refine kl 6 (fun K hK=>?_);go_simp
   refine hK.out _ _ ?_;clear hK K;clear hHeld hOnce hwS y1 bN x1 i0;go_wp2_with ((with_reducible refine c1J (t:=67) ?_);refine a0a a1n rfl rfl b07 rfl rfl a1Q ?_;intro w8 x2 y2)
   exact bodyPost_ret (a0C rfl rfl a1n x2 rfl) rfl ⟨ExtX.box (hE.trans (t2.trans (hE7.trans hEd))) y2 hbw,_,rfl,⟨_,_,_,_,_,_,_,_,_,_,_,_,_,_,_,_,_,_,_,_,rfl⟩,fun h=>absurd h (by decide)⟩
  ·rw[if_neg hlt]at hfe
   subst hfe;go_enter Tryz.func27,Tryz.ntmps27
   go_upto_region 4 with(first
    |(go_at_call 60;(with_reducible refine hfit.mono ?_);rintro ee w2 ⟨t2,fv,rfl,hfv⟩;have hfv':=hfv;obtain⟨uo,uc',co',cl',cc,ro,rl,rc,s3,a3,n3,c3,d3,k3,e3,fo,ll,lc,rfl,hfv2⟩:=hfv;rw[hrk'.out]at hfv' |-;clear hfv2;have b2:=b0.ext0 t2;have bN:=bNw.out w2)
    |((with_reducible refine c1J (t:=67) ?_);refine a0a a1n rfl rfl bN rfl rfl a1Q ?_;intro w7 x1 y1))
   have hE7:=c1M y1;have hEd:=c1L w7;have b07:=(b2.ext0 hE7).ext0 hEd;have x1d:=x1.ext0 hEd;have hwS:w7.drew.cell? ⟨w2.heap.size,0,none⟩=some (.int .i64 (R:Int))/\w7.drew.cell? (adr ao 0)=some (.slice a0 c c0):=⟨x1d.cell 0 rfl,hk0'.out _ ((t2.trans hE7).trans hEd)⟩
   (try simp only[Act.put])
   refine a0n 6 (fun w'=>w'.cell? ⟨w2.heap.size,0,none⟩=some (.int .i64 (R:Int))/\w'.cell? (adr ao 0)=some (.slice a0 c c0)) (by kernel_rfl) (by kernel_rfl) hwS (fun hHeld hOnce=>?_);refine kt 0 hOnce ?_;refine kt 1 hOnce ?_;refine kt 2 hOnce ?_;refine kt 3 hOnce ?_;refine kt 4 hOnce ?_;refine kt 5 hOnce ?_;refine kl 6 (fun K hK=>?_);go_simp
   refine hK.out _ _ ?_;clear hK K;clear hHeld hOnce hwS y1 bN x1 i0;go_wp2_with (first
    |((with_reducible refine c1K (t:=67) ?_);refine a2P a1n rfl x1d rfl ?_)
    |((with_reducible refine c1J (t:=67) ?_);refine a0a a1n rfl rfl b07 rfl rfl a1Q ?_;intro w8 x2 y2))
   have h8:=b4o.mono _ _ _ _ a0l (b4o.mono _ _ _ _ (a0h y2 (by omega) (by omega)) (mkx b4o.mono hfv' (hE7.trans hEd)));exact bodyPost_ret (a0C rfl rfl a1n x2 rfl) rfl ⟨ExtX.box (hE.trans (t2.trans (hE7.trans hEd))) y2 hbw,_,rfl,⟨_,_,_,_,_,_,_,_,_,_,_,_,_,_,_,_,_,_,_,_,rfl⟩,fun _=>h8⟩
def b3S(X:Nat->Bool)(w:World)(er:Int)(L:List (List Rat))(e:Ending)(w':World):Prop:=Ext w w'/\∃u,e=.returned (.tuple #[u,.int .i64 er])/\(er≠0->u=.slice none 0 0)/\(er=0->MC (mk X w') u L)
theorem b1X(X:Nat->Bool)(w:World)(u v:Value)(x:Mat)(y:List Rat)(n c B:Nat)(hX:HX X w)(hu:MV (mk X w) u x)(hv:RV (mk X w) v y)(hnx:x.length=n)(hcx:colsL x=c)(hl:n<=1000000)(hbd:a2Y x y=true->n<=8/\c<=4)(hxB:BM B x)(hyB:BR B y)(hB1:1<=B)(hB:B<=510/\n*(2*B+1)<=6540):Calls Tryz.prog 11 #[u,v] w (b3S X w (b6F x y) (a9r x y n c)):=by
 have hfu:=b8i X w u v x y n c B hX hu hv hnx hcx hl hbd hxB hyB hB1 hB;have hde:Hid (b6F x y=if a1C x y≠0 then a1C x y else if∃i,i<x.length/\(x.length=1\/(a0J (a1P x i) (colsL x)).2.length<colsL x)then 7 else 0):=hid rfl;obtain⟨F,hF⟩:=c1F (a4m x y n c);rw[hF]at hfu;have bNw:=hid fun(w':World)=>Bx.new w' #[.int .i64 0,.slice none 0 0,.slice none 0 0,.slice none 0 0,.bool false,.slice none 0 0,.slice none 0 0,.slice none 0 0] 67;by_cases h0:a1C x y=0
 rotate_left 1
 ·have hde1:=hde.out
  rw[if_pos h0]at hde1;rw[hde1];obtain⟨er,her⟩:=c1F (a1C x y);rw[her]at h0 hfu |-;have d0:(er !=(0:Int))=true:=a7c h0;have h0':=hid h0;clear h0 her hde hde1 hu hv hbd hF;go_enter Tryz.func11,Tryz.ntmps11
  go_wp2_with (first
   |(go_at_call 27;refine hfu.mono ?_;rintro ee w2 ⟨t2,fv,rfl,hfs,_⟩;obtain⟨r,uo,ul,uc',co',cl',cc,ro,rl,rc,s3,a3,n3,c3,d3,k3,e3,fo,ll,lc,rfl⟩:=hfs;have bN:=bNw.out w2)
   |((with_reducible refine c1J (t:=67) ?_);refine a0a a1n rfl rfl bN rfl rfl a1Q ?_;intro w7 x1 y1;have hE7:=c1M y1;clear bN))
  go_ret2
  exact⟨t2.trans hE7,_,rfl,fun _=>rfl,fun h=>absurd h h0'.out⟩
 ·have hok:a2Y x y=true:=by
   cases h:a2Y x y
   ·unfold a1C at h0;rw[h,if_pos rfl]at h0;exact absurd h0 (by decide)
   ·rfl
  obtain⟨hn8,hc4⟩:=hbd hok;obtain⟨g1,g2,g3,g4,g5⟩:=a1k.1 hok;have hde1:=hde.out;rw[if_neg (by rw[h0];decide),hnx,hcx]at hde1;have hn1:1<=n:=by omega
  have hc1:1<=c:=by have:=(a0w g1).2.2.2.1 (by omega);omega
  have hyl:y.length=n:=by omega
  have hdel:=hid fun i (hi:i<n) (h2:2<=n)=>a6m hok hnx hcx h2 hi;have hfe:=hid fun i (hi:i<n) (h2:2<=n)=>(by
   obtain⟨_,h3,h4,_⟩:=a6m hok hnx hcx h2 hi;unfold a1C;rw[h3,if_neg (by decide),h4]:a1C (a1P x i) (a1P y i)=if(a0J (a1P x i) c).2.length<c then 7 else 0)
  have hdu:=hid fun X' w' u' v' i (hi:i<n) (h2:2<=n) (h3:HX X' w') (h4:MV (mk X' w') u' (a1P x i)) (h5:RV (mk X' w') v' (a1P y i))=>(by
   obtain⟨q1,q2,q3,q4⟩:=a6m hok hnx hcx h2 hi;have hBn:(n - 1)*(2*B+1)<=6540:=c1A (Nat.mul_le_mul_right _ (by omega)) hB.2;exact b8i X' w' u' v' (a1P x i) (a1P y i) (n - 1) c B h3 h4 h5 q4 q3 (by omega) (fun _=>⟨by omega,hc4⟩) (b3R hxB) (b3Q hyB) hB1 ⟨hB.1,hBn⟩:Calls Tryz.prog 27 #[u',v'] w' (b8h X' w' (a1C (a1P x i) (a1P y i)) (a4m (a1P x i) (a1P y i) (n - 1) c)))
  have hcl:(a9r x y n c).length=n:=by simp[a9r]
  have hcg:=hid fun i (hi:i<(a9r x y n c).length)=>(by simp[a9r]:(a9r x y n c)[i]=a1I (a1P x i) (a1P y i) (n - 1) c);have hwx:=hid fun X' w' u' i (h3:HX X' w') (h4:MV (mk X' w') u' x) (hi:i<n)=>b8a X' w' u' x n i h3 h4 hnx (by omega) hi;have hwy:=hid fun X' w' u' i (h3:HX X' w') (h4:RV (mk X' w') u' y) (hi:i<n)=>b9F X' w' u' y n i h3 h4 hyl (by omega) hi;obtain⟨ao,ca,hue,hca,hsa⟩:=id hu;obtain⟨vo,vc,hve,hvc,hsv⟩:=id hv;obtain⟨a0,c0,_,hc0,_,_⟩:=hsa.row 0 (by omega);rw[<-a1i (by omega),hcx]at hc0;have hk0:=hid fun w' (h:Ext w w')=>hc0.out noY w' h rfl;have hhd:Hd ao n:=by have:=hsa.hd;rwa[hnx]at this
  rw[hnx]at hue hca;rw[hyl]at hve hvc;obtain⟨C,hC⟩:=c1F (a9r x y n c);rw[hC]at hcl hcg |-;have hcl':=hid hcl;have hnx':=hid hnx;have hyl':=hid hyl;subst hue hve;rw[h0]at hfu;rw[hde1];obtain⟨er,her⟩:∃er:Int,(if∃i,i<n/\(n=1\/(a0J (a1P x i) c).2.length<c)then 7 else 0)=er:=⟨_,rfl⟩;rw[her];have her':=hid her;clear her;clear hde hde1 h0 hF hbd hc0 hC hcl hxB hyB;clear hok;by_cases hn2:n=1
  ·subst hn2
   have e7:=her'.out;rw[if_pos ⟨0,by decide,.inl rfl⟩]at e7;subst e7;go_enter Tryz.func11,Tryz.ntmps11
   go_wp2_with (first
    |(with_reducible refine a0v a0o ?_)
    |(go_at_call 27;refine hfu.mono ?_;rintro ee w2 ⟨t2,fv,rfl,hfs,_⟩;obtain⟨r,uo,ul,uc',co',cl',cc,ro,rl,rc,s3,a3,n3,c3,d3,k3,e3,fo,ll,lc,rfl⟩:=hfs;have bN:=bNw.out w2)
    |((with_reducible refine c1J (t:=67) ?_);refine a0a a1n rfl rfl bN rfl rfl a1Q ?_;intro w7 x1 y1;have hE7:=c1M y1;have k00:=hk0.out w7 (t2.trans hE7);clear bN))
   go_ret2
   exact⟨t2.trans hE7,_,rfl,fun _=>rfl,fun h=>absurd h (by decide)⟩
  ·have hn2':2<=n:=by omega
   have dn1:((n:Int)==1)=false:=a2C (by omega);go_enter Tryz.func11,Tryz.ntmps11
   go_wp2_with (first
    |(go_at_call 27;refine hfu.mono ?_;rintro ee w2 ⟨t2,fv,rfl,hfs,_⟩;obtain⟨r,uo,ul,uc',co',cl',cc,ro,rl,rc,s3,a3,n3,c3,d3,k3,e3,fo,ll,lc,rfl⟩:=hfs;have bN:=bNw.out w2)
    |((with_reducible refine c1J (t:=67) ?_);refine a0a a1n rfl rfl bN rfl rfl a1Q ?_;intro w7 x1 y1;have hE7:=c1M y1;clear bN))
   have t7:=t2.trans hE7;have hX7:=hX.ext t7;have hs7:=hsa.mono RV.mono (a0k t7);have hv7:=hsv.mono QV.mono (a0k t7);clear hfu x1 y1 t2 hE7 hk0;go_loopw [8,32] (fun o cx wr=>∃(i:Nat) (oo:Option Addr) (oc:Nat),cx=.int .i64 i/\o=.slice oo i oc/\i<=n/\Hid (∀j,j<i->¬(a0J (a1P x j) c).2.length<c)/\OL RC 1 X w7.heap.size 24 wr oo oc (C.take i)/\Ext w7 wr) (fun _ cx _=>n - (intOf cx).toNat)
   case atStart=>exact⟨0,none,0,rfl,rfl,Nat.zero_le _,hid fun j hj=>absurd hj (Nat.not_lt_zero _),OL.nil _ _ _ _ _ _,ExtX.refl _⟩
   case round=>
    obtain⟨i,oo,oc,rfl,rfl,hi,hall,hO,hE⟩:=hrel;have hXr:=hX7.ext hE;by_cases hlt:i<n
    ·have hXu:HX (un X oo) wr:=hO.unX hXr
     have hxu:MV (mk (un X oo) wr) (.slice ao n ca) x:=⟨ao,ca,by rw[hnx'.out],by rw[hnx'.out];exact hca,hs7.old RV.mono hE (fun j hj=>hO.ob_lt hj)⟩;have hyu:RV (mk (un X oo) wr) (.slice vo n vc) y:=⟨vo,vc,by rw[hyl'.out],by rw[hyl'.out];exact hvc,hv7.old QV.mono hE (fun j hj=>hO.ob_lt hj)⟩;have hw1:=hwx.out (un X oo) wr _ i hXu hxu hlt;have hfe1:=hid (hfe.out i hlt hn2');have hdu1:=hid fun w' u' v' (h:HX (un X oo) w') h4 h5=>hdu.out (un X oo) w' u' v' i hlt hn2' h h4 h5;have hcg1:=hid (hcg.out i (by rw[hcl'.out];exact hlt));have hln:=hid (a0O (l:=C) (i:=i) (by rw[hcl'.out];omega));have htk:=hid (a0I C i (by rw[hcl'.out];exact hlt));obtain⟨Fi,hFi⟩:=c1F (a4m (a1P x i) (a1P y i) (n - 1) c);have hco:Hid (Fi.coef=C[i]'(by rw[hcl'.out];exact hlt)):=hid (by rw[hcg1.out,<-hFi];rfl);obtain⟨ei,hei⟩:=c1F (a1C (a1P x i) (a1P y i));rw[hei]at hfe1 hdu1;rw[hFi]at hdu1;obtain⟨Ci,hCi⟩:∃D,C[i]'(by rw[hcl'.out];exact hlt)=D:=⟨_,rfl⟩;rw[hCi]at hco htk;obtain⟨xd,hxd⟩:=c1F (a1P x i);rw[hxd]at hw1 hdu1;clear hFi hei hCi hcg1;go_wp2_with fail
     refine hw1.mono ?_;rintro e w2 ⟨hE2,u2,rfl,hu2⟩;have hw2:=hwy.out (un X oo) w2 _ i (hXu.ext hE2) (mkx RV.mono hyu hE2) hlt;clear hw1;go_wp2_with fail
     refine hw2.mono ?_;rintro e w3 ⟨hE3,u3,rfl,hu3⟩;have hw3:=hdu1.out w3 u2 u3 ((hXu.ext hE2).ext hE3) (mkx MV.mono hu2 hE3) hu3;clear hw2 hdu1;go_wp2_with fail
     refine hw3.mono ?_;rintro e w4 ⟨hE4,z,rfl,hzs,hzf⟩;have bN:=bNw.out w4;have hE14:=hE2.trans (hE3.trans hE4);clear hw3 hu2 hu3 hxu hyu;by_cases hrk:(a0J xd c).2.length<c
     ·have he7:=hfe1.out
      rw[hxd,if_pos hrk]at he7;subst he7;have hex:∃q,q<n/\(n=1\/(a0J (a1P x q) c).2.length<c):=⟨i,hlt,.inr (by rw[hxd];exact hrk)⟩;obtain⟨r,uo,ul,uc',co',cl',cc,ro,rl,rc,s3,a3,n3,c3,d3,k3,e3,fo,ll,lc,rfl⟩:=hzs;have e7:=her'.out;rw[if_pos hex]at e7;subst e7;clear hzf hex hrk hfe1 hxd;go_wp2_with ((with_reducible refine c1J (t:=67) ?_);refine a0a a1n rfl rfl bN rfl rfl a1Q ?_;intro w7 x1 y1;have hE8:=c1M y1;clear bN)
      go_ret2
      exact⟨t7.trans (hE.trans (hE14.trans hE8)),_,rfl,fun _=>rfl,fun h=>absurd h (by decide)⟩
     ·have he0:=hfe1.out
      rw[hxd,if_neg hrk]at he0;subst he0;have hall2:Hid (∀j,j<i+1->¬(a0J (a1P x j) c).2.length<c):=hid fun j hj=>by
       by_cases e:j=i
       ·subst e;rw[hxd];exact hrk
       ·exact hall.out j (by omega)
      obtain⟨uo,uc',co',cl',cc,ro,rl,rc,s3,a3,n3,c3,d3,k3,e3,fo,ll,lc,rfl,_,_,hRC,_,_,_⟩:=hzf rfl;rw[hco.out]at hRC;have hO4:=hO.ext0 RC.elem hE14;have hE04:=hE.trans hE14;clear hzs hzf hrk hfe1 hxd hO hE14 hE2 hE3 hE4 hall;go_wp2_with (first
       |((with_reducible refine c1J (t:=67) ?_);refine a0a a1n rfl rfl bN rfl rfl a1Q ?_;intro w7' x1 y1;have hE8:Ext w4 w7':=ExtX.box ((ExtX.refl w4).alloc _) y1 (c1B _);have hO8:=hO4.ext0 RC.elem hE8;have hRC8:=mkx RC.mono hRC hE8;have hX8:=(hX7.ext hE04).ext hE8;have hb8:=(hE04.trans hE8).size;have kc:w7'.cell? ⟨w4.heap.size,2,none⟩=some (.slice co' cl' cc):=x1.cell 2 rfl;clear bN)
       |(at_builtin;refine a0t (l:=C.take i) a0o rfl RC.elem hb8 hX8 i hln.out rfl rfl hO8 (.slice co' cl' cc) Ci rfl hRC8 (by omega) (by omega) ?_;intro oo2 oc2 w9 hO9 hE9 hor))
      have hE10:=(hE04.trans hE8).own hO8 (c1B _) hE9;rw[htk.out]at hO9;go_roundw
      case rel=>exact⟨i+1,oo2,oc2,by go_num,by go_num,by omega,hall2,hO9,hE10⟩
      case measure=>simp[intOf];omega
    ·obtain rfl:i=n:=by omega
     have hne:¬∃q,q<i/\(i=1\/(a0J (a1P x q) c).2.length<c):=fun⟨q,h1,h2⟩=>by
      rcases h2 with h2|h2
      ·exact hn2 h2
      ·exact hall.out q h1 h2
     have e0:=her'.out;rw[if_neg hne]at e0;subst e0;rw[c1D (by rw[hcl'.out];exact c1B _)]at hO;clear hne;go_wp2_with fail
     go_ret2
     exact⟨t7.trans hE,_,rfl,fun h=>absurd rfl h,fun _=>⟨oo,oc,by rw[hcl'.out];rfl,hO.lenCap,hO.sl RC.elem⟩⟩
end Go.Proofs.YtjmnhbebpffoaaaGreat
namespace Go
open Go.Proofs.YtjmnhbebpffoaaaGreat
structure AS where
 op:Nat
 slot:Nat
 T:TypeId
 z:Array Value
def ptr(g:Nat):Value:= .pointer (some ⟨g,0,none⟩)
def a1y(B:Act):List AS->(Nat->Value)->Act
 | [],_=>B
 |a::bs,ps=>a1y (B.put (some a.slot) (ps 0)) bs fun i=>ps (i+1)
theorem b5N{a:Act}{i j:Nat}(h:i≠j)(v u:Value):(a.put (some i) v).put (some j) u=(a.put (some j) u).put (some i) v:=by
 simp only[Act.put];rw[Array.setIfInBounds_comm _ _ h]
theorem b8j{a:Act}{i:Nat}(v u:Value):(a.put (some i) v).put (some i) u=a.put (some i) u:=by
 simp only[Act.put,Array.setIfInBounds_setIfInBounds]
theorem a8m{s:Nat}{v:Value}:∀{bs:List AS} {B:Act} {ps:Nat->Value},(∀a∈bs,a.slot≠s)->(a1y B bs ps).put (some s) v=a1y (B.put (some s) v) bs ps
 | [],_,_,_=>rfl
 |a::bs,B,ps,h=>by
  show(a1y (B.put (some a.slot) (ps 0)) bs fun i=>ps (i+1)).put (some s) v=a1y ((B.put (some s) v).put (some a.slot) (ps 0)) bs fun i=>ps (i+1)
  rw[a8m fun b hb=>h b (List.mem_cons_of_mem _ hb),b5N (h a List.mem_cons_self)]
theorem b1c{u:Value}:∀{bs:List AS} {B:Act} {ps:Nat->Value} {k:Nat} {a:AS},bs.Pairwise (fun(a b:AS)=>a.slot≠b.slot)->bs[k]? =some a->(a1y B bs ps).put (some a.slot) u=a1y B bs fun i=>if i=k then u else ps i
 | [],_,_,_,_,_,h=>by simp at h
 |b::bs,B,ps,0,a,hp,h=>by
  simp at h;subst h;rw[List.pairwise_cons]at hp
  show(a1y (B.put (some b.slot) (ps 0)) bs fun i=>ps (i+1)).put (some b.slot) u=a1y (B.put (some b.slot) u) bs fun i=>ps (i+1)
  rw[a8m fun c hc=>(hp.1 c hc).symm,b8j]
 |b::bs,B,ps,k+1,a,hp,h=>by
  rw[List.pairwise_cons]at hp
  show(a1y (B.put (some b.slot) (ps 0)) bs fun i=>ps (i+1)).put (some a.slot) u=a1y (B.put (some b.slot) (ps 0)) bs fun i=>if i+1=k+1 then u else ps (i+1)
  rw[b1c hp.2 (by simpa using h)]
  congr 1
  funext i
  by_cases hi:i=k<;>simp[hi]
theorem upx{α:Type}{R:Mem->Value->α->Prop}(b:a3K R){h a:Mem}{u:Value}{x:α}(c:Le h a)(d:R h u x):R a u x:=b _ _ _ _ c d
def Up(Φ:Mem->Prop):Prop:=∀h h',Le h h'->Φ h->Φ h'
section
variable (P:Program) (md:Region.Mode) (ops:Array Oper) (Q:Exit->Act->World->Prop) (S:World->Prop) (n fe:Nat) (le:Array Bool) (bs:List AS) (Z:Nat->Bool) (W0:World)
def ChG:List Nat->Act->(Mem->Prop)->Prop
 | [],B,Φ=>∀M w (gs:Nat->Nat),HX M w->(∀k,Z k=true->M k=true)->Ext W0 w->Φ (mk M w)->S w->(∀(i:Nat) (a:AS),bs[i]? =some a->Bx w (gs i) a.z a.T/\M (gs i)=true/\W0.heap.size<=gs i)->(∀i j,i<j->j<bs.length->gs i≠gs j)->
   a1q P md ops Q S n fe le (a1y B bs fun i=>ptr (gs i)) w
 |c::cs,B,Φ=>Up Φ->∀M w ps,HX M w->(∀k,Z k=true->M k=true)->Ext W0 w->Φ (mk M w)->S w->
   wpOp P ops Q c (fun a' w'=>∃(s:Nat) (v:Value) (Ψ:Mem->Prop),(∀a∈bs,a.slot≠s)/\Ext w w'/\Up Ψ/\Ψ (mk M w')/\a'=(a1y B bs ps).put (some s) v/\ChG cs (B.put (some s) v) Ψ) (a1y B bs ps) w
end
def okC(md:Region.Mode)(ops:Array Oper)(le:Array Bool):Nat->Array Bool->List Nat->List Nat->Bool
 |0,l,cs,rem=>cs.isEmpty&&rem.isEmpty&&decide (l=le)
 |f+1,l,cs,rem=> !(Region.ready md ops l).isEmpty&&(Region.ready md ops l).all fun i=>
   (match cs with|c::cs'=>decide (i=c)&&okC md ops le f (l.setIfInBounds i true) cs' rem| []=>false)||(rem.contains i&&okC md ops le f (l.setIfInBounds i true) cs (rem.erase i))
section
variable {P:Program} {md:Region.Mode} {ops:Array Oper} {Q:Exit->Act->World->Prop} {S:World->Prop} {n fe:Nat} {le:Array Bool} {bs:List AS} {Z:Nat->Bool} {W0:World}
theorem a0E{c:Nat}{p:List Nat}{B:Act}{Φ:Mem->Prop}{s:Nat}{l:Op}{o:TypeId}{m:String}{i:Array Edge}{g:Option (Nat×Bool)}(h:∀M w b,HX M w->(∀k,Z k=true->M k=true)->Ext W0 w->Φ (mk M w)->S w->∀K:Act->World->Prop,Shut (∀{α:Type} (R:Mem->Value->α->Prop) (v:Value) (x:α) f e,a3K R->Ext w e->R (mk M e) v x->f=(a1y B bs b).put (some s) v->
   ChG P md ops Q S n fe le bs Z W0 p (B.put (some s) v) (fun h=>Φ h/\R h v x)->K f e)->
   if Region.wanted ⟨some s,l,o,m,i,g⟩ (yielded ops (a1y B bs b).tmps)=true then Oper.wp P ⟨some s,l,o,m,i,g⟩ (a1y B bs b) w K Q else K ((a1y B bs b).put (some s) undef) w)
  (H:ops[c]? =some ⟨some s,l,o,m,i,g⟩:=by rfl) (J:(bs.all fun a=>a.slot !=s)=true:=by decide):ChG P md ops Q S n fe le bs Z W0 (c::p) B Φ:=fun q M w b E F z u D=>by
 refine wpOp_step H fun y A=>h M w b E F z u D y fun{α} R v x f e C d I j G=>A f e ⟨s,v,fun h=>Φ h/\R h v x,fun a j=>?_,d,fun h L t r=>⟨q _ _ t r.1,C _ _ _ _ t r.2⟩,⟨q _ _ (a0k d) u,I⟩,j,G⟩;have:=List.all_eq_true.1 J a j;simpa using this
theorem b1Y(hS:∀w w',S w->Ext w w'->S w')(hp:bs.Pairwise fun(a b:AS)=>a.slot≠b.slot)(hA:∀(i:Nat) (a:AS),bs[i]? =some a->∀(K:Act->World->Prop) b w,K (b.put (some a.slot) (ptr w.heap.size)) (w.alloc (.cells a.z a.T))->wpOp P ops Q a.op K b w):∀(f:Nat) (l:Array Bool) (cs rem:List Nat) (B:Act) (Φ:Mem->Prop) (M:Nat->Bool) (w:World) (ps:Nat->Value) (gs:Nat->Nat),okC md ops le f l cs rem=true->rem.Nodup->Up Φ->HX M w->(∀k,Z k=true->M k=true)->Ext W0 w->Φ (mk M w)->S w-> (∀(i:Nat) (a:AS),bs[i]? =some a->(a.op∈rem\/(ps i=ptr (gs i)/\Bx w (gs i) a.z a.T/\M (gs i)=true/\W0.heap.size<=gs i)))-> (∀(i j:Nat) (a b:AS),bs[i]? =some a->bs[j]? =some b->i<j->a.op∉rem->b.op∉rem->gs i≠gs j)-> (∀o∈rem,∃(i:Nat) (a:AS),bs[i]? =some a/\a.op=o)->(∀(i j:Nat) (a b:AS),bs[i]? =some a->bs[j]? =some b->a.op=b.op->i=j)-> ChG P md ops Q S n fe le bs Z W0 cs B Φ->a1q P md ops Q S n (f+fe) l (a1y B bs ps) w:=by
 intro f
 induction f with
 |zero=>
  intro l cs rem B Φ M w ps gs hok _ _ hX hZ hE hΦ hSw hd hne _ _ hg;unfold okC at hok;simp only[Bool.and_eq_true,List.isEmpty_iff,decide_eq_true_eq]at hok;obtain⟨⟨rfl,rfl⟩,rfl⟩:=hok;have key:∀(i:Nat) (a:AS),bs[i]? =some a->ps i=ptr (gs i)/\Bx w (gs i) a.z a.T/\M (gs i)=true/\W0.heap.size<=gs i:=fun i a ha=>by
   rcases hd i a ha with h|h
   ·simp at h
   ·exact h
  have e:a1y B bs ps=a1y B bs fun i=>ptr (gs i):=by
   have aux:∀(xs:List AS) (B:Act) (ps qs:Nat->Value),(∀i,i<xs.length->ps i=qs i)->a1y B xs ps=a1y B xs qs:=by
    intro xs
    induction xs with
    |nil=>intro _ _ _ _;rfl
    |cons a xs ih=>
     intro B ps qs h
     show a1y (B.put (some a.slot) (ps 0)) xs _=a1y (B.put (some a.slot) (qs 0)) xs _
     rw[h 0 (by simp),ih _ _ _ fun i hi=>h (i+1) (by simpa using hi)]
   exact aux bs B ps _ fun i hi=>(key i bs[i] (List.getElem?_eq_getElem hi)).1
  rw[e,Nat.zero_add];exact hg M w gs hX hZ hE hΦ hSw (fun i a ha=>(key i a ha).2) fun i j hij hj=>hne i j bs[i] bs[j] (List.getElem?_eq_getElem (by omega)) (List.getElem?_eq_getElem hj) hij (by simp) (by simp)
 |succ f ih=>
  intro l cs rem B Φ M w ps gs hok hnd hU hX hZ hE hΦ hSw hd hne hr hu hg;unfold okC at hok;simp only[Bool.and_eq_true,Bool.not_eq_true',List.all_eq_true,Bool.or_eq_true]at hok;obtain⟨hne0,hall⟩:=hok;rw[Nat.add_right_comm];refine⟨fun h0=>(by rw[h0]at hne0;cases hne0),fun i hi=>?_⟩;rcases hall i hi with h1|h1
  ·cases cs with
   |nil=>cases h1
   |cons c cs=>
    simp only[Bool.and_eq_true,decide_eq_true_eq]at h1;obtain⟨rfl,hok'⟩:=h1;refine wpOp_mono ?_ (hg hU M w ps hX hZ hE hΦ hSw);rintro a' w' ⟨s,v,Ψ,hs,hE',hUp,hΨ,rfl,hg'⟩;have hS':=hS _ _ hSw hE';refine⟨fun _=>hS',?_⟩;rw[a8m hs];exact ih _ cs rem _ Ψ M w' ps gs hok' hnd hUp (hX.ext hE') hZ (hE.trans hE') hΨ hS' (fun j a ha=>(hd j a ha).imp id fun h=>⟨h.1,h.2.1.ext0 hE',h.2.2⟩) hne hr hu hg'
  ·simp only[List.contains_iff_mem]at h1
   obtain⟨hmem,hok'⟩:=h1;obtain⟨k,a,hka,rfl⟩:=hr i hmem;refine hA k a hka _ _ _ ⟨fun _=>hS _ _ hSw ((ExtX.refl w).alloc _),?_⟩;have hEa:Ext w (w.alloc (.cells a.z a.T)):=(ExtX.refl w).alloc _;have hbx:=Bx.new w a.z a.T;rw[b1c hp hka];refine ih _ cs (rem.erase a.op) B Φ (un M (some ⟨w.heap.size,0,none⟩)) _ (fun i=>if i=k then ptr w.heap.size else ps i) (fun i=>if i=k then w.heap.size else gs i) hok' (hnd.erase _) hU ?_ (fun q hq=>a0j (hZ q hq)) (hE.trans hEa) (hU _ _ (a2g hEa (c1B _)) hΦ) (hS _ _ hSw hEa) ?_ ?_ (fun o ho=>hr o (List.mem_of_mem_erase ho)) hu hg
   ·intro q hq
    simp only[un,Bool.or_eq_true]at hq;rcases hq with h|h
    ·exact(hX.ext hEa) q h
    ·have:w.heap.size=q:=by simpa[ob]using h
     rw[<-this];exact hbx.lt
   ·intro j b hb
    by_cases hj:j=k
    ·subst hj
     rw[hka]at hb;cases hb;exact Or.inr ⟨by simp,by simpa using hbx,by simp[un,ob],by simpa using hE.size⟩
    ·simp only[if_neg hj]
     rcases hd j b hb with h|h
     ·exact Or.inl ((List.mem_erase_of_ne fun e=>hj (hu j k b a hb hka e)).2 h)
     ·exact Or.inr ⟨h.1,h.2.1.ext0 hEa,a0j h.2.2.1,h.2.2.2⟩
   ·intro p q x y hx hy hpq h1 h2
    have old:∀(j:Nat) (b:AS),bs[j]? =some b->j≠k->b.op∉rem.erase a.op->gs j<w.heap.size/\b.op∉rem:=fun j b hb hj hn=>by
     have hb':b.op∉rem:=fun h=>hn ((List.mem_erase_of_ne fun e=>hj (hu j k b a hb hka e)).2 h);exact⟨((hd j b hb).resolve_left hb').2.1.lt,hb'⟩
    by_cases hpk:p=k
    ·have hqk:q≠k:=by omega
     simp only[if_pos hpk,if_neg hqk];have:=(old q y hy hqk h2).1;omega
    ·by_cases hqk:q=k
     ·simp only[if_pos hqk,if_neg hpk]
      have:=(old p x hx hpk h1).1;omega
     ·simp only[if_neg hpk,if_neg hqk]
      exact hne p q x y hx hy hpq (old p x hx hpk h1).2 (old q y hy hqk h2).2
theorem b1d:∀(bs:List AS) (B:Act),a1y B bs (fun i=>match bs[i]? with|some a=>B.tmps.getD a.slot undef|none=>undef)=B
 | [],_=>rfl
 |a::bs,B=>by
  show a1y (B.put (some a.slot) (B.tmps.getD a.slot undef)) bs (fun i=>match bs[i]? with|some a=>B.tmps.getD a.slot undef|none=>undef)=B
  have e:B.put (some a.slot) (B.tmps.getD a.slot undef)=B:=by
   cases B with
   |mk t d=>
    simp only[Act.put]
    congr 1
    refine Array.ext (by simp) fun i h1 h2=>?_;rw[Array.getElem_setIfInBounds];split
    ·rename_i h;subst h;simp[h2]
    ·rfl
  rw[e];exact b1d bs B
def c0I(P:Program)(ops:Array Oper)(Q:Exit->Act->World->Prop):List AS->Prop
 | []=>True
 |a::bs=>(∀(K:Act->World->Prop) b w,K (b.put (some a.slot) (ptr w.heap.size)) (w.alloc (.cells a.z a.T))->wpOp P ops Q a.op K b w)/\c0I P ops Q bs
theorem b1e:∀{bs:List AS},c0I P ops Q bs->∀(i:Nat) (a:AS),bs[i]? =some a->∀(K:Act->World->Prop) b w,K (b.put (some a.slot) (ptr w.heap.size)) (w.alloc (.cells a.z a.T))->wpOp P ops Q a.op K b w
 | [],_,_,_,h=>by simp at h
 |a::bs,h,0,b,hb=>by simp at hb;subst hb;exact h.1
 |a::bs,h,i+1,b,hb=>b1e h.2 i b (by simpa using hb)
def c1k(l:Array Bool)(cs:List Nat)(bs:List AS):Array Bool:=(cs++bs.map (·.op)).foldl (fun l i=>l.setIfInBounds i true) l
theorem a1z{fuel:Nat}{l:Array Bool}{a:Act}{w:World}(cs:List Nat)(bs:List AS)(Z:Nat->Bool)(fe:Nat)(hX:HX Z w)(hw:S w)(hS:∀w w',S w->Ext w w'->S w')(hg:ChG P md ops Q S n fe (c1k l cs bs) bs Z w cs a (Le (mk Z w)))(hf:cs.length+bs.length+fe=fuel:=by rfl)(hok:okC md ops (c1k l cs bs) (cs.length+bs.length) l cs (bs.map (·.op))=true:=by kernel_rfl)(hnd:(bs.map (·.op)).Nodup:=by decide)(hp:(bs.map (·.slot)).Nodup:=by decide)(hA:c0I P ops Q bs:=by first|exact trivial|(refine⟨?_,trivial⟩;intro K b w h;refine wpOp_step (o:=⟨_,_,_,_,_,_⟩) (by rfl) (fun K' hK=>?_);go_simp;exact hK _ _ h)|(refine⟨?_,?_,trivial⟩<;>(intro K b w h;refine wpOp_step (o:=⟨_,_,_,_,_,_⟩) (by rfl) (fun K' hK=>?_);go_simp;exact hK _ _ h))):a1q P md ops Q S n fuel l a w:=by
 subst hf;have hops:∀(i j:Nat) (x y:AS),bs[i]? =some x->bs[j]? =some y->x.op=y.op->i=j:=fun i j x y hx hy he=>by
  have h1:(bs.map (·.op))[i]? =some x.op:=by simp[hx]
  have h2:(bs.map (·.op))[j]? =some x.op:=by simp[hy,he]
  have hi:=(List.getElem?_eq_some_iff.1 h1).1;have:=(List.getElem?_inj hi hnd).1 (h1.trans h2.symm);exact this
 have hsl:bs.Pairwise fun(a b:AS)=>a.slot≠b.slot:=by
  have:=hp;rw[List.nodup_iff_pairwise_ne,List.pairwise_map]at this;exact this
 have h:=b1Y (fe:=fe) (W0:=w) hS hsl (b1e hA) (cs.length+bs.length) l cs (bs.map (·.op)) a (Le (mk Z w)) Z w (fun i=>match bs[i]? with|some b=>a.tmps.getD b.slot undef|none=>undef) (fun _=>0) hok hnd (fun _ _ hl h=>h.trans hl) hX (fun _ h=>h) (ExtX.refl w) (Le.refl _) hw
  (fun i b hb=>Or.inl (List.mem_map.2 ⟨b,List.mem_of_getElem? hb,rfl⟩)) (fun i j x y hx _ _ hn _=>absurd (List.mem_map.2 ⟨x,List.mem_of_getElem? hx,rfl⟩) hn)
  (fun o ho=>by
   obtain⟨b,hb,rfl⟩:=List.mem_map.1 ho;obtain⟨i,hi⟩:=List.mem_iff_getElem?.1 hb;exact⟨i,b,hi,rfl⟩) hops hg
 rwa[b1d]at h
theorem a2W{B:Act}{Φ:Mem->Prop}(h:∀M w (b:Nat->Nat),HX M w->(∀k,Z k=true->M k=true)->Ext W0 w->Φ (mk M w)->S w->(∀(i:Nat) (a:AS),bs[i]? =some a->Bx w (b i) a.z a.T/\M (b i)=true/\W0.heap.size<=b i)->(∀i j,i<j->j<bs.length->b i≠b j)->
  a1q P md ops Q S n fe le (a1y B bs fun i=>ptr (b i)) w):ChG P md ops Q S n fe le bs Z W0 [] B Φ:=h
end
end Go
namespace Go.Proofs.YtjmnhbebpffoaaaGreat
open Go.RowKit
def a6S(F:Fit)(n c:Nat):Rat:=((c:Int):Rat)*(F.rss/(((n - c:Nat):Int):Rat))
def b1Z(F:Fit)(n c i:Nat):Rat:=(fn F.res i*fn F.res i*fn F.lev i)/(a6S F n c*((1 - fn F.lev i)*(1 - fn F.lev i)))
def a7i(F:Fit)(n c:Nat):List Rat:=(List.range n).map (b1Z F n c)
theorem a6T(F:Fit)(n c:Nat):(a7i F n c).length=n:=by simp[a7i]
theorem a9c(F:Fit)(n c i:Nat)(h:i<(a7i F n c).length):(a7i F n c)[i]=b1Z F n c i:=by simp[a7i]
noncomputable def a4v(er:Int)(F:Fit)(n c:Nat):Int:=if er≠0 then er else if n<=c\/F.rss=0 then 7 else if∃i,i<n/\1 - fn F.lev i=0 then 7 else 0
structure FitB (F:Fit) (n:Nat):Prop where
 rl:F.res.length=n
 ll:F.lev.length=n
 rb:BR 34100000 F.res
 lb:BR 140000000 F.lev
 sb:hq F.rss<=600000000
theorem b3T{x:Mat}{y:List Rat}{n c B:Nat}(d:Shp n c x)(o:y.length=n)(k:n<=8)(m:c<=4)(b:BM B x)(g:BR B y)(a:1<=B)(h:B<=510/\n*(2*B+1)<=6540):FitB (a4m x y n c) n:=by
 have j:=a6C b a;have i:=a8d (c:=c) j g k m h;have e:=a9Q d b g i a m h;have f:(a4r x y (a1I x y n c)).length=n:=by rw[a5k (by rw[o,d.1])];exact d.1
 have l:(a0J x c).2.length<=4:=by have:=a7u d;omega
 exact⟨f,by show(a5y _ _ _).length=n;rw[a5l,a8c];exact d.1,e,b9A (a9L d _) (b3t b a) k l a h,b9z e (by rw[f];exact k)⟩
theorem b1f{l:List Rat}{i:Nat}(h:i<l.length):fn l i=l[i]:=by simp[fn,List.getD_eq_getElem?_getD,h]
theorem b9L:hq (1:Rat)<=1:=by decide+kernel
theorem a7A{k:Nat}(h:k<=1000):hq ((k:Int):Rat)<=2:=by
 have:=a4y (k:Int) 1 (by
  rw[Int.natAbs_natCast];by_cases a:k=0
  ·subst a;simp[a5B]
  ·rw[a2c (by omega) (by omega)];exact c1B _) (c1B _)
 omega
theorem a6U{F:Fit}{n c i:Nat}(h:FitB F n)(q:i<n)(r:n<=8)(p:c<=8):hq (F.rss/(((n - c:Nat):Int):Rat))<=600000010/\hq (a6S F n c)<=600000020/\hq (fn F.res i)<=34100000/\hq (fn F.lev i)<=140000000/\hq (1 - fn F.lev i)<=140000010/\hq ((1 - fn F.lev i)*(1 - fn F.lev i))<=280000030/\hq (a6S F n c*((1 - fn F.lev i)*(1 - fn F.lev i)))<=880000100/\hq (fn F.res i*fn F.res i)<=68200010/\hq (fn F.res i*fn F.res i*fn F.lev i)<=208200030:=by
 have a:=h.sb;have b:=b3p h.rb (by decide) i;have d:=b3p h.lb (by decide) i;have s:=a7A (k:=n - c) (by omega);have t:=a7A (k:=c) (by omega);have u:=b9L;have e:=hq_div F.rss (((n - c:Nat):Int):Rat);have f:hq (a6S F n c)<=_:=hq_mul ((c:Int):Rat) (F.rss/(((n - c:Nat):Int):Rat));have g:=a3J 1 (fn F.lev i);have j:=hq_mul (1 - fn F.lev i) (1 - fn F.lev i);have l:=hq_mul (a6S F n c) ((1 - fn F.lev i)*(1 - fn F.lev i));have m:=hq_mul (fn F.res i) (fn F.res i);have o:=hq_mul (fn F.res i*fn F.res i) (fn F.lev i);omega
def b0b(X:Nat->Bool)(w:World)(er:Int)(L:List Rat)(e:Ending)(w':World):Prop:=Ext w w'/\∃u,e=.returned (.tuple #[u,.int .i64 er])/\(er≠0->u=.slice none 0 0)/\(er=0->RC (mk X w') u L)
theorem c0J(X:Nat->Bool)(w:World)(u v:Value)(x:Mat)(y:List Rat)(n c B:Nat)(hX:HX X w)(hu:MV (mk X w) u x)(hv:RV (mk X w) v y)(hnx:x.length=n)(hcx:colsL x=c)(hl:n<=1000000)(hbd:a2Y x y=true->n<=8/\c<=4)(hxB:BM B x)(hyB:BR B y)(hB1:1<=B)(hB:B<=510/\n*(2*B+1)<=6540):Calls Tryz.prog 13 #[u,v] w (b0b X w (a4v (a1C x y) (a4m x y n c) n c) (a7i (a4m x y n c) n c)):=by
 have hfu:=b8i X w u v x y n c B hX hu hv hnx hcx hl hbd hxB hyB hB1 hB;have bNw:=hid fun(w':World)=>Bx.new w' #[.int .i64 0,.slice none 0 0,.slice none 0 0,.slice none 0 0,.bool false,.slice none 0 0,.slice none 0 0,.slice none 0 0] 67;have bRw:=hid fun(w':World)=>Bx.new w' #[.bool false,.slice none 0 0,.slice none 0 0] 47;by_cases h0:a1C x y=0
 rotate_left 1
 ·have he:a4v (a1C x y) (a4m x y n c) n c=a1C x y:=by unfold a4v;rw[if_pos h0]
  rw[he];obtain⟨er,her⟩:=c1F (a1C x y);obtain⟨F,hF⟩:=c1F (a4m x y n c);rw[hF]at hfu |-;rw[her]at h0 hfu |-;have d0:(er !=(0:Int))=true:=a7c h0;have h0':=hid h0;clear h0 her he hu hv hbd hF;go_enter Tryz.func13,Tryz.ntmps13
  go_wp2_with (first
   |(go_at_call 27;refine hfu.mono ?_;rintro ee w2 ⟨t2,fv,rfl,hfs,_⟩;obtain⟨r,uo,ul,uc',co',cl',cc,ro,rl,rc,s3,a3,n3,c3,d3,k3,e3,fo,ll,lc,rfl⟩:=hfs;have bN:=bNw.out w2)
   |((with_reducible refine c1J (t:=67) ?_);refine a0a a1n rfl rfl bN rfl rfl a1Q ?_;intro w7 x1 y1;have hE7:=c1M y1;clear bN))
  go_ret2
  exact⟨t2.trans hE7,_,rfl,fun _=>rfl,fun h=>absurd h h0'.out⟩
 have hok:a2Y x y=true:=by
  cases h:a2Y x y
  ·unfold a1C at h0;rw[h,if_pos rfl]at h0;exact absurd h0 (by decide)
  ·rfl
 obtain⟨hn8,hc4⟩:=hbd hok;obtain⟨g1,g2,g3,g4,g5⟩:=a1k.1 hok;have hn1:1<=n:=by omega
 have hc1:1<=c:=by have:=(a0w g1).2.2.2.1 (by omega);omega
 have hsh:Shp n c x:=by
  have:=(a0w g1).1;rw[hnx,hcx]at this;exact this
 have hfb:=b3T hsh (by omega) hn8 hc4 hxB hyB hB1 hB;have hrow:=hid (show∃ao ca a0 c0,u=.slice ao n ca/\Hd ao n/\∀w',Ext w w'->w'.cell? (adr ao 0)=some (.slice a0 c c0)from by
  obtain⟨ao,ca,e,hca,hsa⟩:=hu;obtain⟨a0,c0,_,hc0,_,_⟩:=hsa.row 0 (by omega);rw[<-a1i (by omega),hcx]at hc0;have hd:=hsa.hd;rw[hnx]at hd;exact⟨ao,ca,a0,c0,by rw[e,hnx],hd,fun w' h=>hc0.out noY w' h rfl⟩)
 rw[h0]at hfu |-;obtain⟨F,hF⟩:=c1F (a4m x y n c);rw[hF]at hfu hfb |-;have hce:Hid (a4v 0 F n c=if n<=c\/F.rss=0 then 7 else if∃i,i<n/\1 - fn F.lev i=0 then 7 else 0):=hid (by unfold a4v;rw[if_neg (by decide)]);have hLl:=hid (a6T F n c);have hLg:=hid fun i h=>a9c F n c i h;have hqs:=hid fun i (h:i<n)=>a6U hfb h hn8 (c:=c) (by omega);have hqs0:=hid (a6U (i:=0) hfb (by omega) hn8 (c:=c) (by omega));have hfb':=hid hfb;obtain⟨er,her⟩:=c1F (a4v 0 F n c);rw[her]at hce |-;obtain⟨L,hL⟩:=c1F (a7i F n c);rw[hL]at hLl hLg |-;obtain⟨ao,ca,a0,c0,hue,hhd,hk0⟩:=hrow.out;subst hue;have i0:∀W,(Instr.indexAt 23 (.slice ao n ca) (.int .i64 0)).run Tryz.prog W=.ok (.pointer (some (adr ao 0))) W:=a0y a0o ao n ca .i64 0 hhd (by omega) rfl;have hk0':=hid hk0;clear h0 hok hbd g1 g2 g3 g4 g5 hsh hrow hF her hL hu hv hxB hyB hnx hcx hfb hk0;go_enter Tryz.func13,Tryz.ntmps13
 go_upto_region 4 with(first
  |(go_at_call 27;refine hfu.mono ?_;rintro ee w2 ⟨t2,fv,rfl,_,hfv⟩;have hfv':=hfv rfl;obtain⟨uo,uc',co',cl',cc,ro,rl,rc,s3,a3,n3,c3,d3,k3,e3,fo,ll,lc,rfl,_,_,_,hRr,hQs,hLv⟩:=hfv';have bN:=bNw.out w2)
  |((with_reducible refine c1J (t:=67) ?_);refine a0a a1n rfl rfl bN rfl rfl a1Q ?_;intro w7 x1 y1))
 have hE7:=c1M y1;have hEd:=c1L w7;have hE27:=hE7.trans hEd;have x7:=x1.ext0 hEd;obtain⟨gf,hgf⟩:=c1F w2.heap.size;rw[hgf]at x7
 (try rw[hgf])
 have hRr7:=mkx RC.mono hRr hE27;have hQs7:=mkx QC.mono hQs hE27;have hLv7:=mkx RC.mono hLv hE27;have t7:=t2.trans hE27;have k00:=hk0'.out _ t7;clear hRr hQs hLv x1 y1 bN hfv hfu bNw hgf
 (try simp only[Act.put])
 refine a0n 7 (fun w'=>w'.cell? (adr ao 0)=some (.slice a0 c c0)) (by kernel_rfl) (by kernel_rfl) k00 (fun hHeld hOnce=>?_);refine kt 0 hOnce ?_;refine kt 1 hOnce ?_;refine kt 2 hOnce ?_;refine kt 3 hOnce ?_;refine kt 4 hOnce ?_;refine kt 5 hOnce ?_;refine ks 6 (fun K hK=>?_);go_simp
 skip
 refine kcn hK hHeld (fun hHeld=>?_);clear hK K;refine kl 7 (fun K hK=>?_);go_simp
 refine hK.out _ _ ?_;clear hK K;clear hHeld hOnce i0 k00;have hXd:HX X w7.drew:=hX.ext t7;obtain⟨wd,hwd⟩:=c1F w7.drew;rw[hwd]at x7 hRr7 hQs7 hLv7 t7 hXd |-;have hrl:=hfb'.out.rl;have hll:=hfb'.out.ll;obtain⟨rr,hrr⟩:∃rr,rr=rl:=⟨_,rfl⟩;have er1:rl=n:=by obtain⟨_,_,he,_⟩:=hRr7;simp only[Value.slice.injEq]at he;rw[he.2.1];exact hrl
 have el1:ll=n:=by obtain⟨_,_,he,_⟩:=hLv7;simp only[Value.slice.injEq]at he;rw[he.2.1];exact hll
 subst er1;subst el1;clear hrr rr hwd hEd hE7 hE27;have j4:=x7.cell 4 rfl;have j5:wd.cell? ⟨gf,4+1,none⟩=some (.slice a3 n3 c3):=x7.cell 5 rfl;have j6:wd.cell? ⟨gf,4+2,none⟩=some (.slice d3 k3 e3):=x7.cell 6 rfl;have hrssq:hq F.rss<=68719476736:=c1A hfb'.out.sb (by decide);have hsig:=hid fun w' (h:Ext wd w')=>b1y X w' _ F.rss (hXd.ext h) ((mkx QC.mono hQs7 h).qv hrssq);have dc0:((c:Int)==0)=false:=a2C (by omega);have hce1:=hce.out;clear hce;by_cases hnc:ll<=c
 ·rw[if_pos (.inl hnc)]at hce1
  subst hce1;have d1:decide ((ll:Int)<=(c:Int))=true:=decide_eq_true (by omega);go_wp2_with fail
  go_ret2
  exact⟨t7,_,rfl,fun _=>rfl,fun h=>absurd h (by decide)⟩
 have d1:decide ((ll:Int)<=(c:Int))=false:=decide_eq_false (by omega);by_cases hr0:F.rss=0
 ·rw[if_pos (.inr hr0)]at hce1
  subst hce1;have hsg:(F.rss.num.sign==(0:Int))=true:=by rw[hr0];rfl
  have hs1:=hsig.out wd (ExtX.refl _);obtain⟨sg,hsg'⟩:∃sg,F.rss.num.sign=sg:=⟨_,rfl⟩;rw[hsg']at hs1 hsg;clear hsg' hr0 hsig;go_wp2_with fail
  refine hs1.mono ?_;rintro e w8 ⟨hE8,rfl⟩;clear j4 j5 j6 hs1;go_wp2_with fail
  go_ret2
  exact⟨t7.trans hE8,_,rfl,fun _=>rfl,fun h=>absurd h (by decide)⟩
 rw[if_neg (fun h=>h.elim hnc hr0)]at hce1;have hce2:=hid hce1;have hsg:(F.rss.num.sign==(0:Int))=false:=a2C (fun h=>hr0 (by rw[Int.sign_eq_zero_iff_zero]at h;exact Rat.num_eq_zero.1 h));have hs1:=hsig.out wd (ExtX.refl _);obtain⟨sg,hsg'⟩:∃sg,F.rss.num.sign=sg:=⟨_,rfl⟩;rw[hsg']at hs1 hsg;clear hsg' hr0 hsig hce1;go_wp2_with fail
 refine hs1.mono ?_;rintro e w8 ⟨hE8,rfl⟩;clear j4 j5 j6 hs1;have hone:=a8G X w8 1 (hXd.ext hE8) (by decide) (by decide);go_wp2_with fail
 refine hone.mono ?_;rintro e w9 ⟨hE9,u9,rfl,hu9⟩;obtain⟨s9,a9,n9,c9,d9,k9,e9,rfl⟩:=hu9.shape;have bR:=bRw.out w9;clear hone;go_upto_region 8 with((with_reducible refine c1J (t:=47) ?_);refine a0a a0p rfl rfl bR rfl rfl a1s ?_;intro w10 r10 y10)
 have hE10:=c1M y10;obtain⟨g1,hg1⟩:=c1F w9.heap.size;rw[hg1]at r10
 (try rw[hg1])
 have hEd10:=c1L w10;have hE7d:=(hE8.trans hE9).trans (hE10.trans hEd10);have xf:=x7.ext0 hE7d;have hRr:=mkx RC.mono hRr7 hE7d;have hQs:=hid (mkx QC.mono hQs7 hE7d);have hLv:=mkx RC.mono hLv7 hE7d;have ho1:=mkx QC.mono hu9 (hE10.trans hEd10);have rone:=r10.ext0 hEd10;have tD:=t7.trans hE7d;have hXD:=hX.ext tD;obtain⟨q1,q2,_⟩:=hqs0.out;have hk1:=hid (c1A (a7A (k:=c) (by omega)) (show 2<=68719476736 by decide));have hk2:=hid (c1A (a7A (k:=ll - c) (by omega)) (show 2<=68719476736 by decide));have ew:IntKind.i64.wrap ((ll:Int) - (c:Int))=((ll - c:Nat):Int):=by rw[IntWalk.i64_in _ (by omega)];omega
 have hq1:=hid q1;have hq2:=hid q2;have hsc:Hid (a6S F ll c=((c:Int):Rat)*(F.rss/(((ll - c:Nat):Int):Rat))):=hid rfl;obtain⟨wD,hwD⟩:=c1F w10.drew;have hSd:wD.cell? ⟨gf,4,none⟩=some (.bool s3)/\wD.cell? ⟨gf,4+1,none⟩=some (.slice a3 n3 c3)/\wD.cell? ⟨gf,4+2,none⟩=some (.slice d3 k3 e3):=by rw[<-hwD];exact⟨xf.cell 4 rfl,xf.cell 5 rfl,xf.cell 6 rfl⟩
 rw[<-hwD]at hSd;clear hE8 hE9 hE10 hEd10 hE7d x7 hRr7 hQs7 hLv7 hu9 r10 y10 bR hqs0 hwD wD hXd
 (try simp only[Act.put])
 refine a0n 11 (fun w'=>w'.cell? ⟨gf,4,none⟩=some (.bool s3)/\w'.cell? ⟨gf,4+1,none⟩=some (.slice a3 n3 c3)/\w'.cell? ⟨gf,4+2,none⟩=some (.slice d3 k3 e3)) (by kernel_rfl) (by kernel_rfl) hSd (fun hHeld hOnce=>?_);refine kt 0 hOnce ?_;refine kt 2 hOnce ?_;refine kt 3 hOnce ?_;refine kt 4 hOnce ?_;refine kt 5 hOnce ?_;refine kt 6 hOnce ?_;refine a1z [1,7,8,9] [⟨10,11,47,#[.bool false,.slice none 0 0,.slice none 0 0]⟩] X 1 hXD hHeld (fun _ _ h hE=>⟨hE.cell h.1,hE.cell h.2.1,hE.cell h.2.2⟩) ?_;refine a0E (fun M1 w1 ps1 hX1 hZ1 hE1 hF1 hS1 K hK=>?_);simp only[a1y,Act.put,c1G,c1H,c1I];go_simp
 (with_reducible refine(a8G M1 w1 (c:Int) hX1 (by omega) (by omega)).mono ?_);rintro ee w' ⟨hE',u1,rfl,hu1⟩
 refine hK.out _ _ _ _ _ QC.mono hE' hu1 (by simp only[a1y,Act.put,c1G,c1H,c1I]) ?_;clear hK K hX1 hZ1 hE1 hF1 hS1;refine a0E (fun M2 w2 ps2 hX2 hZ2 hE2 hF2 hS2 K hK=>?_);simp only[a1y,Act.put,c1G,c1H,c1I];go_simp
 (with_reducible refine(a8G M2 w2 ((ll - c:Nat):Int) hX2 (by omega) (by omega)).mono ?_);rintro ee w' ⟨hE',u2,rfl,hu2⟩
 refine hK.out _ _ _ _ _ QC.mono hE' hu2 (by simp only[a1y,Act.put,c1G,c1H,c1I]) ?_;clear hK K hX2 hZ2 hE2 hF2 hS2;refine a0E (fun M3 w3 ps3 hX3 hZ3 hE3 hF3 hS3 K hK=>?_);simp only[a1y,Act.put,c1G,c1H,c1I];go_simp
 (with_reducible refine(b5x M3 w3 _ u2 F.rss _ hX3 ((upx QC.mono hF3.1.1 hQs.out).qv hrssq) (hF3.2.qv hk2.out)).mono ?_);rintro ee w' ⟨hE',u3,rfl,hu3⟩
 refine hK.out _ _ _ _ _ QC.mono hE' hu3 (by simp only[a1y,Act.put,c1G,c1H,c1I]) ?_;clear hK K hX3 hZ3 hE3 hF3 hS3;refine a0E (fun M4 w4 ps4 hX4 hZ4 hE4 hF4 hS4 K hK=>?_);simp only[a1y,Act.put,c1G,c1H,c1I];go_simp
 (with_reducible refine(a9E M4 w4 u1 u3 _ _ hX4 (hF4.1.1.2.qv hk1.out) (hF4.2.qv (c1A hq1.out (by decide)))).mono ?_);rintro ee w' ⟨hE',u4,rfl,hu4⟩;obtain⟨s4,a4,n4,c4,d4,k4,e4,rfl⟩:=hu4.shape
 refine hK.out _ _ _ _ _ QC.mono hE' hu4 (by simp only[a1y,Act.put,c1G,c1H,c1I]) ?_;clear hK K hX4 hZ4 hE4 hF4 hS4;refine a2W (fun M w5 gs hX5 hZ5 hE5 hF5 hS5 hb5 hn5=>?_);simp only[a1y,ptr,Act.put,c1G,c1H,c1I];obtain⟨g2,hg2⟩:=c1F (gs 0);obtain⟨x5,m5,l5⟩:=hb5 0 _ rfl;rw[hg2]at x5 m5 l5;simp only[hg2];refine kl 11 (fun K hK=>?_)
 (refine a0r rfl rfl a0p rfl rfl x5 rfl rfl a1s ?_;intro w11 z5 y5)
 refine hK.out _ _ ?_;clear hK K
 (try simp only[Act.put])
 have hl6:=a0s (X:=M) y5 (fun k hk=>by
  have:g2=k:=by simpa[ob]using hk
  rw[<-this];exact m5)
 have hsub11:Le (mk M w11) (mk X w11):=a1a fun k _ h=>hZ5 k h;have hscq:=QC.mono _ _ _ _ (hl6.trans hsub11) hF5.2;rw[<-hsc.out]at hscq;have hE11d:Ext w10.drew w11:=ExtX.box hE5 y5 l5;have xf2:=xf.ext0 hE11d;have hsx:=z5;have ro2:=rone.ext0 hE11d;have hRr2:=mkx RC.mono hRr hE11d;have hLv2:=mkx RC.mono hLv hE11d;have ho2:=mkx QC.mono ho1 hE11d;have t11:=tD.trans hE11d;have hX11:=hX.ext t11;clear hF5 hS5 hb5 hn5 hX5 hZ5 hE5 l5 m5 x5 y5 hl6 hHeld hOnce hSd hsub11 hg2 xf rone hRr hLv ho1 hQs hE11d tD hXD hg1;have j7:=xf2.cell 7 rfl;go_wp2_with fail
 clear j7;go_loopw [12,60] (fun o cx wr=>∃(i:Nat) (oo:Option Addr) (oc:Nat),cx=.int .i64 i/\o=.slice oo i oc/\i<=ll/\Hid (∀j,j<i->1 - fn F.lev j≠0)/\OL QC 3 X w11.heap.size 47 wr oo oc (L.take i)/\Ext w11 wr) (fun _ cx _=>ll - (intOf cx).toNat)
 case atStart=>exact⟨0,none,0,rfl,rfl,Nat.zero_le _,hid fun j hj=>absurd hj (Nat.not_lt_zero _),OL.nil _ _ _ _ _ _,ExtX.refl _⟩
 case round=>
  obtain⟨i,oo,oc,rfl,rfl,hi,hall,hO,hE⟩:=hrel;have hXr:=hX11.ext hE;by_cases hlt:i<ll
  ·have hUr:HX (un X oo) wr:=hO.unX hXr
   have hob:∀j,j<w11.heap.size->ob oo j=false:=fun j hj=>hO.ob_lt hj;have hobn:∀k,wr.heap.size<=k->ob oo k=false:=fun k hk=>by
    cases h:ob oo k
    ·rfl
    ·have:=(hO.block h).2;omega
   obtain⟨q1',q2',q3',q4',q5',q6',q7',q8',q9'⟩:=hqs.out i hlt;have hLu:RC (mk (un X oo) wr) (.slice fo ll lc) F.lev:=a2j RC.mono hLv2 hE hob;have hRu:RC (mk (un X oo) wr) (.slice ro ll rc) F.res:=a2j RC.mono hRr2 hE hob;have hou:=a2j QC.mono ho2 hE hob;have hsu:=a2j QC.mono hscq hE hob;have hsl:Sl QC 3 (mk (un X oo) wr) fo F.lev:=by
    obtain⟨_,_,he,_,h⟩:=hLu;simp only[Value.slice.injEq]at he;obtain⟨rfl,_,rfl⟩:=he;exact h
   have hsr:Sl QC 3 (mk (un X oo) wr) ro F.res:=by
    obtain⟨_,_,he,_,h⟩:=hRu;simp only[Value.slice.injEq]at he;obtain⟨rfl,_,rfl⟩:=he;exact h
   have hil:i<F.lev.length:=by rw[hll];exact hlt
   have hir:i<F.res.length:=by rw[hfb'.out.rl];exact hlt
   have hdl:Hd fo ll:=by have:=hsl.hd;rwa[hll]at this
   have hdr:Hd ro ll:=by have:=hsr.hd;rwa[hfb'.out.rl]at this
   have eh:=hid (b1f hil);have ere:=hid (b1f hir);have hcg:=hid (hLg.out i (by rw[hLl.out];exact hlt));have hcv:Hid (b1Z F ll c i=(fn F.res i*fn F.res i*fn F.lev i)/(a6S F ll c*((1 - fn F.lev i)*(1 - fn F.lev i)))):=hid rfl;have hln:=hid (a0O (l:=L) (i:=i) (by rw[hLl.out];omega));have htk:=hid (a0I L i (by rw[hLl.out];exact hlt));have hLi:Hid (L[i]'(by rw[hLl.out];exact hlt)=b1Z F ll c i):=hid (hcg.out);obtain⟨Li,hLie⟩:∃D,L[i]'(by rw[hLl.out];exact hlt)=D:=⟨_,rfl⟩;rw[hLie]at htk hLi;obtain⟨hv,hhv⟩:=c1F (fn F.lev i);obtain⟨rv,hrv⟩:=c1F (fn F.res i);obtain⟨sc,hsce⟩:=c1F (a6S F ll c);rw[hhv,hrv,hsce]at hcv;rw[<-hLi.out]at hcv;rw[hhv]at eh q4' q5' q6' q7' q9';rw[hrv]at ere q3' q8' q9';rw[hsce]at q2' q7' hsu;have hhv':=hid hhv;have hee:=hid eh.out.symm;have her2:=hid ere.out.symm;have bx:=bRw.out wr;clear hhv hrv hsce hLie hcg eh ere hLi hLu hRu hqs;go_upto_region 13 with(first
    |(with_reducible refine a1w a0x ?_)
    |((with_reducible refine c1K (t:=47) ?_);refine a0z a0p i hsl hil rfl (by simp) QC.agg ?_;intro u12 hu12;rw[hee.out]at hu12;obtain⟨s12,a12,n12,c12,d12,k12,e12,rfl⟩:=hu12.shape)
    |((with_reducible refine c1J (t:=47) ?_);refine a0a a0p rfl rfl bx rfl rfl a1s ?_;intro w12 r12 y12))
   have hE12:=c1M y12;obtain⟨g14,hg14⟩:=c1F wr.heap.size;rw[hg14]at r12 hobn
   (try rw[hg14])
   have oc1:=(ro2.ext0 hE).ext0 hE12;have z0:=oc1.cell 0 rfl;have z1:=oc1.cell 1 rfl;have z2:=oc1.cell 2 rfl;have z3:=r12.cell 0 rfl;have z4:=r12.cell 1 rfl;have z5:=r12.cell 2 rfl;have hh12:=mkx QC.mono hu12 hE12;have hsb:=b4X (un X oo) w12 _ _ _ hv (hUr.ext hE12) ((mkx QC.mono hou hE12).qv (by decide+kernel)) (hh12.qv (c1A q4' (by decide)));rw[show((((1:Int)):Rat))=1 from rfl]at hsb;obtain⟨re,hre⟩:=c1F (1 - hv);have hre':=hid hre;rw[hre]at hsb q5' q6' q7' hcv;clear hu12 bx y12 hou hre hg14;go_wp2_with fail
   refine hsb.mono ?_;rintro e w13 ⟨hE13,u13,rfl,hu13⟩;obtain⟨s13,a13,n13,c13,d13,k13,e13,rfl⟩:=hu13.shape;have bx:=bRw.out w13;clear z0 z1 z2 z3 z4 z5 hsb;go_upto_region 14 with((with_reducible refine c1J (t:=47) ?_);refine a0a a0p rfl rfl bx rfl rfl a1s ?_;intro w14 r14 y14)
   have hE14:=c1M y14;obtain⟨g15,hg15⟩:=c1F w13.heap.size;rw[hg15]at r14
   (try rw[hg15])
   have z0:=r14.cell 0 rfl;have z1:=r14.cell 1 rfl;have z2:=r14.cell 2 rfl;have hq14:=mkx QC.mono hu13 hE14;have hE214:=hE12.trans (hE13.trans hE14);have hsg:=b1y (un X oo) w14 _ re (hUr.ext hE214) (hq14.qv (c1A q5' (by decide)));have hsz:Hid (re.num.sign=0↔re=0):=hid (by rw[Int.sign_eq_zero_iff_zero];exact Rat.num_eq_zero);obtain⟨sg,hsg'⟩:∃sg,re.num.sign=sg:=⟨_,rfl⟩;rw[hsg']at hsg hsz;have r12':=r12.ext0 (hE13.trans hE14);have hh14:=mkx QC.mono hh12 (hE13.trans hE14);have g1415:g14<g15:=by have:=(r12.ext0 hE13).lt;omega
   clear hu13 bx y14 hsg' hh12 r12 hg15;go_wp2_with fail
   refine hsg.mono ?_;rintro e w15 ⟨hE15,rfl⟩;clear z0 z1 z2 hsg;have hE215:=hE214.trans hE15;by_cases hz:re=0
   ·have d2:(sg==(0:Int))=true:=a6u (hsz.out.2 hz)
    have e7:=hce2.out;rw[if_pos ⟨i,hlt,by rw[hhv'.out,hre'.out];exact hz⟩]at e7;subst e7;clear hsz hz;go_wp2_with fail
    go_ret2
    exact⟨t11.trans (hE.trans hE215),_,rfl,fun _=>rfl,fun h=>absurd h (by decide)⟩
   have d2:(sg==(0:Int))=false:=a2C (fun h=>hz (hsz.out.1 h));have hall2:Hid (∀j,j<i+1->1 - fn F.lev j≠0):=hid fun j hj=>by
    by_cases e:j=i
    ·subst e;rw[hhv'.out,hre'.out];exact hz
    ·exact hall.out j (by omega)
   have xf15:=(xf2.ext0 hE).ext0 hE215;have y3:=xf15.cell 3 rfl;have hsr15:=hsr.mono QC.mono (a0k hE215);have bx:=bRw.out w15;clear hsz hz hall hhv' hre' hsl;go_upto_region 17 with(first
    |(with_reducible refine a1w a0x ?_)
    |((with_reducible refine c1K (t:=47) ?_);refine a0z a0p i hsr15 hir rfl (by simp) QC.agg ?_;intro u16 hu16;rw[her2.out]at hu16;obtain⟨s16,a16,n16,c16,d16,k16,e16,rfl⟩:=hu16.shape)
    |((with_reducible refine c1J (t:=47) ?_);refine a0a a0p rfl rfl bx rfl rfl a1s ?_;intro w16 r16 y16))
   have hE16:=c1M y16;obtain⟨g16,hg16⟩:=c1F w15.heap.size;rw[hg16]at r16
   (try rw[hg16])
   have hEd16:=c1L w16;have hE14d:=hE15.trans (hE16.trans hEd16);have hEr:=hE214.trans hE14d;have r15:=r14.ext0 hE14d;have r14':=r12'.ext0 hE14d;have r16':=r16.ext0 hEd16;have hUd:=hUr.ext hEr;have qre:=hid ((mkx QC.mono hq14 hE14d).qv (c1A q5' (by decide)));have qh:=hid ((mkx QC.mono hh14 hE14d).qv (c1A q4' (by decide)));have qr:=hid ((mkx QC.mono hu16 (hE16.trans hEd16)).qv (c1A q3' (by decide)));have qsc:=hid ((mkx QC.mono hsu hEr).qv (c1A q2' (by decide)));have scd:=(hsx.ext0 hE).ext0 hEr;have hwS:w16.drew.cell? ⟨g2,0,none⟩=some (.bool s4)/\w16.drew.cell? ⟨g2,1,none⟩=some (.slice a4 n4 c4)/\w16.drew.cell? ⟨g2,2,none⟩=some (.slice d4 k4 e4)/\w16.drew.cell? ⟨g15,0,none⟩=some (.bool s13)/\w16.drew.cell? ⟨g15,1,none⟩=some (.slice a13 n13 c13)/\w16.drew.cell? ⟨g15,2,none⟩=some (.slice d13 k13 e13):=⟨scd.cell 0 rfl,scd.cell 1 rfl,scd.cell 2 rfl,r15.cell 0 rfl,r15.cell 1 rfl,r15.cell 2 rfl⟩;have g1416:g15<g16:=by have:=(r14.ext0 hE15).lt;omega
   clear hu16 bx y16 y3 xf15 hsr15 hq14 hh14 r14 r12' hg16 hE15 hE16 hE13 hE14 hsu hE12
   (try simp only[Act.put])
   refine a0n 6 (fun w'=>w'.cell? ⟨g2,0,none⟩=some (.bool s4)/\w'.cell? ⟨g2,1,none⟩=some (.slice a4 n4 c4)/\w'.cell? ⟨g2,2,none⟩=some (.slice d4 k4 e4)/\w'.cell? ⟨g15,0,none⟩=some (.bool s13)/\w'.cell? ⟨g15,1,none⟩=some (.slice a13 n13 c13)/\w'.cell? ⟨g15,2,none⟩=some (.slice d13 k13 e13)) (by kernel_rfl) (by kernel_rfl) hwS (fun hHeld hOnce=>?_);refine kt 0 hOnce ?_;refine kt 1 hOnce ?_;refine kt 2 hOnce ?_;refine a1z [3,4] [⟨5,17,47,#[.bool false,.slice none 0 0,.slice none 0 0]⟩] (un X oo) 1 hUd hHeld (fun _ _ h hE=>⟨hE.cell h.1,hE.cell h.2.1,hE.cell h.2.2.1,hE.cell h.2.2.2.1,hE.cell h.2.2.2.2.1,hE.cell h.2.2.2.2.2⟩) ?_;refine a0E (fun M1 w1 ps1 hX1 hZ1 hE1 hF1 hS1 K hK=>?_);simp only[a1y,Act.put,c1G,c1H,c1I];go_simp
   (with_reducible refine(a9E M1 w1 _ _ re re hX1 (upx QV.mono hF1 qre.out) (upx QV.mono hF1 qre.out)).mono ?_);rintro ee w' ⟨hE',u1,rfl,hu1⟩
   refine hK.out _ _ _ _ _ QC.mono hE' hu1 (by simp only[a1y,Act.put,c1G,c1H,c1I]) ?_;clear hK K hX1 hZ1 hE1 hF1 hS1;refine a0E (fun M2 w2 ps2 hX2 hZ2 hE2 hF2 hS2 K hK=>?_);simp only[a1y,Act.put,c1G,c1H,c1I];go_simp
   (with_reducible refine(a9E M2 w2 _ u1 sc _ hX2 (upx QV.mono hF2.1 qsc.out) (hF2.2.qv (c1A q6' (by decide)))).mono ?_);rintro ee w' ⟨hE',u2,rfl,hu2⟩;obtain⟨s17,a17,n17,c17,d17,k17,e17,rfl⟩:=hu2.shape
   refine hK.out _ _ _ _ _ QC.mono hE' hu2 (by simp only[a1y,Act.put,c1G,c1H,c1I]) ?_;clear hK K hX2 hZ2 hE2 hF2 hS2;refine a2W (fun M w5 gs hX5 hZ5 hE5 hF5 hS5 hb5 hn5=>?_);simp only[a1y,ptr,Act.put,c1G,c1H,c1I];obtain⟨g17,hg17⟩:=c1F (gs 0);obtain⟨x5,m5,l5⟩:=hb5 0 _ rfl;rw[hg17]at x5 m5 l5;simp only[hg17];refine kl 6 (fun K hK=>?_)
   (refine a0r rfl rfl a0p rfl rfl x5 rfl rfl a1s ?_;intro w17 z17 y17)
   refine hK.out _ _ ?_;clear hK K
   (try simp only[Act.put])
   have hl17:=a0s (X:=M) y17 (fun k hk=>by
    have:g17=k:=by simpa[ob]using hk
    rw[<-this];exact m5)
   have hsub17:Le (mk M w17) (mk (un X oo) w17):=a1a fun k _ h=>hZ5 k h;have hden:=QC.mono _ _ _ _ (hl17.trans hsub17) hF5.2;have hE17:Ext w16.drew w17:=ExtX.box hE5 y17 l5;have hEr17:=hEr.trans hE17;have b14:=r14'.ext0 hE17;have b16:=r16'.ext0 hE17;have qh17:=hid (mkx QV.mono qh.out hE17);have qr17:=hid (mkx QV.mono qr.out hE17);have hO17:=hO.ext0 QC.elem hEr17;have g1417:g14<=g17:=by have:=r14'.lt;omega
   clear hF5 hS5 hb5 hn5 hX5 hZ5 hE5 m5 x5 y17 hl17 hsub17 hHeld hOnce hwS hg17 qre qh qr qsc scd r15 r14' r16' hUd hO;go_upto_region 18 with fail
   have hEd17:=c1L w17;have hErd:=hEr17.trans hEd17;have hUd:=hUr.ext hErd;have b14d:=b14.ext0 hEd17;have b16d:=b16.ext0 hEd17;have b17d:=z17.ext0 hEd17;have qhd:=hid (mkx QV.mono qh17.out hEd17);have qrd:=hid (mkx QV.mono qr17.out hEd17);have qdd:=hid ((mkx QC.mono hden hEd17).qv (c1A q7' (by decide)));have hwS:w17.drew.cell? ⟨g16,0,none⟩=some (.bool s16)/\w17.drew.cell? ⟨g16,1,none⟩=some (.slice a16 n16 c16)/\w17.drew.cell? ⟨g16,2,none⟩=some (.slice d16 k16 e16)/\w17.drew.cell? ⟨g14,0,none⟩=some (.bool s12)/\w17.drew.cell? ⟨g14,1,none⟩=some (.slice a12 n12 c12)/\w17.drew.cell? ⟨g14,2,none⟩=some (.slice d12 k12 e12)/\w17.drew.cell? ⟨g17,0,none⟩=some (.bool s17)/\w17.drew.cell? ⟨g17,1,none⟩=some (.slice a17 n17 c17)/\w17.drew.cell? ⟨g17,2,none⟩=some (.slice d17 k17 e17):=⟨b16d.cell 0 rfl,b16d.cell 1 rfl,b16d.cell 2 rfl,b14d.cell 0 rfl,b14d.cell 1 rfl,b14d.cell 2 rfl,b17d.cell 0 rfl,b17d.cell 1 rfl,b17d.cell 2 rfl⟩;have hS18:=hid fun w' (h:Ext w17.drew w')=>(⟨(b16d.ext0 h).cell 0 rfl,(b16d.ext0 h).cell 1 rfl,(b16d.ext0 h).cell 2 rfl,(b14d.ext0 h).cell 0 rfl,(b14d.ext0 h).cell 1 rfl,(b14d.ext0 h).cell 2 rfl,(b17d.ext0 h).cell 0 rfl,(b17d.ext0 h).cell 1 rfl,(b17d.ext0 h).cell 2 rfl⟩:w'.cell? ⟨g16,0,none⟩=some (.bool s16)/\w'.cell? ⟨g16,1,none⟩=some (.slice a16 n16 c16)/\w'.cell? ⟨g16,2,none⟩=some (.slice d16 k16 e16)/\w'.cell? ⟨g14,0,none⟩=some (.bool s12)/\w'.cell? ⟨g14,1,none⟩=some (.slice a12 n12 c12)/\w'.cell? ⟨g14,2,none⟩=some (.slice d12 k12 e12)/\w'.cell? ⟨g17,0,none⟩=some (.bool s17)/\w'.cell? ⟨g17,1,none⟩=some (.slice a17 n17 c17)/\w'.cell? ⟨g17,2,none⟩=some (.slice d17 k17 e17))
   (try simp only[Act.put])
   refine a0n 10 (fun w'=>w'.cell? ⟨g16,0,none⟩=some (.bool s16)/\w'.cell? ⟨g16,1,none⟩=some (.slice a16 n16 c16)/\w'.cell? ⟨g16,2,none⟩=some (.slice d16 k16 e16)/\w'.cell? ⟨g14,0,none⟩=some (.bool s12)/\w'.cell? ⟨g14,1,none⟩=some (.slice a12 n12 c12)/\w'.cell? ⟨g14,2,none⟩=some (.slice d12 k12 e12)/\w'.cell? ⟨g17,0,none⟩=some (.bool s17)/\w'.cell? ⟨g17,1,none⟩=some (.slice a17 n17 c17)/\w'.cell? ⟨g17,2,none⟩=some (.slice d17 k17 e17)) (by kernel_rfl) (by kernel_rfl) hwS (fun hHeld hOnce=>?_);refine kt 0 hOnce ?_;refine kt 1 hOnce ?_;refine kt 2 hOnce ?_;refine kt 4 hOnce ?_;refine kt 6 hOnce ?_;refine ks 3 (fun K hK=>?_);go_simp
   ((with_reducible refine(a9E (un X oo) w17.drew _ _ rv rv hUd qrd.out qrd.out).mono ?_);rintro ee wa ⟨ga,ua,rfl,hua⟩)
   refine kcn hK (hS18.out _ ga) (fun hHeld=>?_);clear hK K;refine ks 5 (fun K hK=>?_);go_simp
   ((with_reducible refine(a9E (un X oo) wa ua _ _ hv (hUd.ext ga) (hua.qv (c1A q8' (by decide))) (mkx QV.mono qhd.out ga)).mono ?_);rintro ee wb ⟨gb,ub,rfl,hub⟩)
   refine kcn hK (hS18.out _ (ga.trans gb)) (fun hHeld=>?_);clear hK K;have gab:=ga.trans gb;refine ks 7 (fun K hK=>?_);go_simp
   ((with_reducible refine(b5x (un X oo) wb ub _ _ _ (hUd.ext gab) (hub.qv (c1A q9' (by decide))) (mkx QV.mono qdd.out gab)).mono ?_);rintro ee wc ⟨gc,uc,rfl,huc⟩;obtain⟨s18,a18,n18,c18,d18,k18,e18,rfl⟩:=huc.shape)
   refine kcn hK (hS18.out _ (gab.trans gc)) (fun hHeld=>?_);clear hK K;have gac:=gab.trans gc;rw[<-hcv.out]at huc;have hOc:=(hO17.ext0 QC.elem hEd17).ext0 QC.elem gac;have hXc:=hXr.ext (hErd.trans gac);have hbc:=(hE.trans (hErd.trans gac)).size;have hEal:Ext wc (wc.alloc (.cells #[.bool s18,.slice a18 n18 c18,.slice d18 k18 e18] 47)):=(ExtX.refl _).alloc _;refine ks 8 (fun K hK=>?_);go_simp
   skip
   refine kcn hK (hS18.out _ (gac.trans hEal)) (fun hHeld=>?_);clear hK K;obtain⟨j1,j2,j3,j4,j5,j6,j7,j8,j9⟩:=hS18.out _ gac;have ob16:=hobn g16 (by omega);have ob14:=hobn g14 (c1B _);have ob17:=hobn g17 g1417;refine ks 9 (fun K hK=>?_)
   (refine a1p (l:=L.take i) rfl (by rfl) a0x rfl QC.elem hbc hXc i hln.out rfl rfl hOc (.agg #[.bool s18,.slice a18 n18 c18,.slice d18 k18 e18]) Li rfl huc (by omega) (by omega) ?_;intro oo2 oc2 w19 hO19 hE19 hor)
   refine kcn hK ⟨hE19.cellY j1 ob16,hE19.cellY j2 ob16,hE19.cellY j3 ob16,hE19.cellY j4 ob14,hE19.cellY j5 ob14,hE19.cellY j6 ob14,hE19.cellY j7 ob17,hE19.cellY j8 ob17,hE19.cellY j9 ob17⟩ (fun hHeld=>?_);clear hK K;refine kl 10 (fun K hK=>?_);go_simp
   refine hK.out _ _ ?_;clear hK K;have hE20:=(hE.trans (hErd.trans gac)).own hOc (c1B _) hE19;rw[htk.out]at hO19;clear hHeld hOnce hwS hS18 j1 j2 j3 j4 j5 j6 j7 j8 j9;go_wp2_with fail
   go_roundw
   case rel=>exact⟨i+1,oo2,oc2,by go_num,by go_num,by omega,hall2,hO19,hE20⟩
   case measure=>simp[intOf];omega
  ·obtain rfl:i=ll:=by omega
   have e0:=hce2.out;rw[if_neg (fun⟨q,h1,h2⟩=>hall.out q h1 h2)]at e0;subst e0;rw[c1D (by rw[hLl.out];exact c1B _)]at hO;go_wp2_with fail
   go_ret2
   exact⟨t11.trans hE,_,rfl,fun h=>absurd rfl h,fun _=>⟨oo,oc,by rw[hLl.out];rfl,hO.lenCap,hO.sl QC.elem⟩⟩
section
variable {P:Program} {ops:Array Oper} {Q:Exit->Act->World->Prop} {a:Act} {w:World}
variable {α:Type} {R:Mem->Value->α->Prop} {sz:Nat} {X:Nat->Bool} {e:TypeId}
theorem a9d{o:Oper}{K:Act->World->Prop}{E:Prop}{t g:Nat}{z:Value}{s x:Operand}{r:Option Addr}{u m:Nat}(G:o.guard=none)(j:o.op=Op.call {callee:=Callee.builtin Builtin.append,args:=#[s,x],argTypes:=#[t,t]})(T:SliceT P t e sz g z)(q:z.cells.size=sz)(D:Elem R sz)(F:∀k,X k=true->k<w.heap.size)(i:List α)(H:i.length=m)(I:a.eval s=.slice none 0 0)(J:a.eval x=.slice r m u)(p:Sl R sz (mk X w) r i)(d:m*g<=140737488355328)(h:m<=9223372036854775807)(C:∀c b f,OL R sz X w.heap.size e f c b i->Ext w f->K (a.put o.dst (.slice c m b)) f):if Region.wanted o (yielded ops a.tmps)=true then Oper.wp P o a w K Q else E:=by
 have v:OL R sz X w.heap.size e w none 0 []:=OL.nil _ _ _ _ _ _;have n:un X none=X:=by funext k;simp[un,ob]
 refine a1T (l:=[]) G j T q D (c1B _) F i 0 m rfl H I J v (by rw[n];exact p) (by simpa using d) (by simpa using h) ?_;intro c b f y A _;have B:Ext w f:=A.weaken fun k _ _=>by simp[ob]
 rw[Nat.zero_add];exact C c b f y B
end
theorem c0K(X:Nat->Bool)(w:World)(u v:Value)(x:Mat)(y:List Rat)(n i:Nat)(hX:HX X w)(hu:MV (mk X w) u x)(hv:RV (mk X w) v y)(Y:x.length=n)(Z:y.length=n)(a0:n<=64)(hi:i<n):Calls Tryz.prog 32 #[u,v,.int .i64 (i:Int)] w (fun e w'=>Ext w w'/\∃p q,e=.returned (.tuple #[p,q])/\MV (mk X w') p (a1P x i)/\RV (mk X w') q (a1P y i)):=by
 obtain⟨ao,h,rfl,M,F⟩:=hu;obtain⟨C,k,rfl,N,G⟩:=hv;rw[Y]at M |-;rw[Z]at N |-;have ht:Hid ((x.take i).length=i):=hid (by rw[List.length_take];omega);have hd:Hid ((x.drop (i+1)).length=n - (i+1)):=hid (by rw[List.length_drop,Y]);have yt:Hid ((y.take i).length=i):=hid (by rw[List.length_take];omega);have yd:Hid ((y.drop (i+1)).length=n - (i+1)):=hid (by rw[List.length_drop,Z]);have f:=c1L w;have D:=hX.ext f;have s1:=hid ((F.take i).mono RV.mono (a0k f));have s2:Hid (Sl RV 1 (mk X w.drew) (a1b ao (i+1) h 1) (x.drop (i+1))):=hid (by
  have:=F.sub (i+1) x.length h (by omega) (by omega) (c1B _);rw[List.take_length]at this;exact this.mono RV.mono (a0k f))
 have y1:=hid ((G.take i).mono QV.mono (a0k f));have y2:Hid (Sl QV 3 (mk X w.drew) (a1b C (i+1) k 3) (y.drop (i+1))):=hid (by
  have:=G.sub (i+1) y.length k (by omega) (by omega) (c1B _);rw[List.take_length]at this;exact this.mono QV.mono (a0k f))
 have ew:IntKind.i64.wrap ((i:Int)+1)=(i:Int)+1:=IntWalk.i64_in _ (by omega);have f1:∀W,(Instr.sliceAt 23 (.slice ao n h) none (some (.int .i64 (i:Int))) none).run Tryz.prog W=.ok (.slice ao i h) W:=a2G a0o n h .i64 i (by omega);have f2:∀W,(Instr.sliceAt 23 (.slice ao n h) (some (.int .i64 ((i:Int)+1))) none none).run Tryz.prog W=.ok (.slice (a1b ao (i+1) h 1) (n - (i+1)) (h - (i+1))) W:=a2l a0o n h .i64 (i+1) (by omega) M;have f3:∀W,(Instr.sliceAt 24 (.slice C n k) none (some (.int .i64 (i:Int))) none).run Tryz.prog W=.ok (.slice C i k) W:=a2G a0x n k .i64 i (by omega);have f4:∀W,(Instr.sliceAt 24 (.slice C n k) (some (.int .i64 ((i:Int)+1))) none none).run Tryz.prog W=.ok (.slice (a1b C (i+1) k 3) (n - (i+1)) (k - (i+1))) W:=a2l a0x n k .i64 (i+1) (by omega) N;have g:Hid (i+(n - (i+1))=n - 1):=hid (by omega);have E:Hid (x.take i++x.drop (i+1)=a1P x i):=hid rfl;have H:Hid (y.take i++y.drop (i+1)=a1P y i):=hid rfl;have a8:Hid ((a1P x i).length=n - 1):=hid (by rw[a3G (by omega),Y]);have b2:Hid ((a1P y i).length=n - 1):=hid (by rw[a3G (by omega),Z]);obtain⟨ax,J⟩:=c1F (a1b ao (i+1) h 1);rw[J]at s2 f2;obtain⟨bx,L⟩:=c1F (a1b C (i+1) k 3);rw[L]at y2 f4;obtain⟨l1,O⟩:=c1F (x.take i);obtain⟨l2,P⟩:=c1F (x.drop (i+1));obtain⟨m1,S⟩:=c1F (y.take i);obtain⟨m2,T⟩:=c1F (y.drop (i+1));obtain⟨V,U⟩:=c1F (n - (i+1));rw[U]at hd yd g f2 f4;rw[O]at ht s1 E;rw[P]at hd s2 E;rw[S]at yt y1 H;rw[T]at yd y2 H;have b5:V<=64/\i<=64:=by omega
 clear J L O P S T U F G Y Z hi a0 hX;go_enter Tryz.func32,Tryz.ntmps32
 go_upto_region 1 with fail
 refine a0n 19 (fun _=>True) (by kernel_rfl) (by kernel_rfl) trivial (fun b a=>?_);refine kt 0 a ?_;refine kt 1 a ?_;refine kt 2 a ?_;refine kt 4 a ?_;refine kt 5 a ?_;refine kt 6 a ?_;refine kt 7 a ?_;refine kt 9 a ?_;refine kt 10 a ?_;refine kt 11 a ?_;refine kt 13 a ?_;refine kt 14 a ?_;refine kt 15 a ?_;refine kt 16 a ?_;refine ks 3 (fun K d=>?_)
 (refine a9d rfl rfl a0o rfl RV.elem D l1 ht.out rfl rfl s1.out (by omega) (by omega) ?_;intro o1 c1 w1 r m)
 refine kcn d trivial (fun b=>?_);clear d K;have a6:=D.ext m;have a9:Sl RV 1 (mk (un X o1) w1) ax l2:=s2.out.old RV.mono m (fun j hj=>r.ob_lt hj);refine ks 8 (fun K d=>?_)
 (refine a1T (l:=l1) rfl rfl a0o rfl RV.elem m.size a6 l2 i V ht.out hd.out rfl rfl r a9 (by omega) (by omega) ?_;intro o2 c2 w2 s a1 b3)
 refine kcn d trivial (fun b=>?_);clear d K;have c:Ext w.drew w2:=((ExtX.refl w.drew).then_ m (fun _ _ _=>rfl)).own r (c1B _) a1;have I:=D.ext c;have b0:Sl QV 3 (mk X w2) C m1:=y1.out.mono QV.mono (a0k c);rw[E.out]at s;refine ks 12 (fun K d=>?_)
 (refine a9d rfl rfl a0x rfl QV.elem I m1 yt.out rfl rfl b0 (by omega) (by omega) ?_;intro o3 c3 w3 z o)
 refine kcn d trivial (fun b=>?_);clear d K;have a7:=I.ext o;have b1:Sl QV 3 (mk (un X o3) w3) bx m2:=(y2.out.mono QV.mono (a0k c)).old QV.mono o (fun j hj=>z.ob_lt hj);refine ks 17 (fun K d=>?_)
 (refine a1T (l:=m1) rfl rfl a0x rfl QV.elem o.size a7 m2 i V yt.out yd.out rfl rfl z b1 (by omega) (by omega) ?_;intro o4 c4 w4 A a2 b4)
 refine kcn d trivial (fun b=>?_);clear d K;refine kt 18 a ?_;refine kl 19 (fun K d=>?_);go_simp
 refine d.out _ _ ?_;clear d K;have B:Ext w2 w4:=o.own z (c1B _) a2;have a3:Ext w w4:=f.trans (c.trans B);rw[H.out]at A;have a4:=(s.sl RV.elem).mono RV.mono (a0k B);have Q:=s.lenCap;have R:=A.lenCap;have a5:=A.sl QV.elem;clear b a s A r z;go_wp2_with fail
 go_ret2
 exact⟨a3,_,_,rfl,⟨o2,c2,by rw[a8.out,g.out];rfl,Q,a4⟩,⟨o4,c4,by rw[b2.out,g.out];rfl,R,a5⟩⟩
end Go.Proofs.YtjmnhbebpffoaaaGreat
