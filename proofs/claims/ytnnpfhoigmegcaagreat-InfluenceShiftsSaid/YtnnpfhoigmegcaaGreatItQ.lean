/- Parts of a proof: each theorem states what it proves, and its conditions. -/
import Derived.Test.YtnnpfhoigmegcaaGreatItP
import Derived.IntWalk
import Derived.WalkKit
import Derived.ProofKit
import Derived.OpenShut
import Derived.ShutString
import Derived.ChangeOld
import Derived.Below
import Derived.Deep.Slices
import Derived.Deep.Fields
import Derived.ChangeSame
import Derived.Test.YtnnpfhoigmegcaaGreatRows
import Derived.JoinedOf
set_option maxRecDepth 100000
set_option maxHeartbeats 12800000
namespace Go.Lin
open Go.Lim Go.Rep
def rkN(us:List Bool)(j:Nat):Nat:=((List.range j).filter fun i=>us.getD i false).length
theorem b4d{a:List Bool}{j:Nat}(h:a.getD j false=true):rkN a (j+1)=rkN a j+1:=by
 unfold rkN;rw[List.range_succ,List.filter_append,show List.filter (fun i=>a.getD i false) [j]= [j]from by simp only[List.filter,h],List.length_append];rfl
theorem b6I{a:List Bool}{j:Nat}(h:a.getD j false=false):rkN a (j+1)=rkN a j:=by
 unfold rkN;rw[List.range_succ,List.filter_append,show List.filter (fun i=>a.getD i false) [j]= []from by simp only[List.filter,h],List.append_nil]
theorem b6J(a:List Bool)(j:Nat):rkN a j<=j:=by
 unfold rkN;exact c1A (List.length_filter_le _ _) (by rw[List.length_range];exact c1B _)
theorem b1f{p:List Nat}{c:Nat}(d:p.Pairwise (· < ·))(b:∀j∈p,j<c):(List.range c).filter (fun i=>(Go.Rep.usedL p c).getD i false)=p:=by
 rw[<-a6K d b];refine List.filter_congr fun j a=>?_;have a:=List.mem_range.1 a;simp[Go.Rep.usedL,List.getD_eq_getElem?_getD,a]
theorem b8t{p:List Nat}{c:Nat}(b:p.Pairwise (· < ·))(a:∀j∈p,j<c):rkN (Go.Rep.usedL p c) c=p.length:=by unfold rkN;rw[b1f b a]
theorem c0h{p:List Nat}{c j:Nat}(m:p.Pairwise (· < ·))(k:∀j∈p,j<c)(o:j<c)(b:j∈p):∃h:rkN (Go.Rep.usedL p c) j<p.length,p[rkN (Go.Rep.usedL p c) j]=j:=by
 have e:=b1f m k;obtain⟨d,rfl⟩:∃d,c=j+(d+1):=⟨c - j - 1,by omega⟩;rw[List.range_add,List.range_succ_eq_map,List.map_cons,List.filter_append]at e;have n:(Go.Rep.usedL p (j+(d+1))).getD (j+0) false=true:=by
  simp[Go.Rep.usedL,List.getD_eq_getElem?_getD,b]
 rw[List.filter_cons_of_pos (p:=fun i=>(Go.Rep.usedL p (j+(d+1))).getD i false) n]at e;have a:=congrArg List.length e;simp only[List.length_append,List.length_cons]at a;refine⟨by unfold rkN;omega,?_⟩;have g:p[rkN (Go.Rep.usedL p (j+(d+1))) j]? =some j:=by
  have f:=congrArg (fun l=>l[((List.range j).filter fun i=>(Go.Rep.usedL p (j+(d+1))).getD i false).length]?) e;simp only[List.getElem?_append_right (c1B _),Nat.sub_self]at f;unfold rkN;rw[<-f];rfl
 exact(List.getElem?_eq_some_iff.1 g).2
theorem b1Y{L:List Rat}{i:Nat}(h:i<L.length)(a:L[i]=0):a2M L (i+1)=a2M L i:=by
 unfold a2M;rw[List.take_succ_eq_append_getElem h,a,show L.length - i=(L.length - (i+1))+1 by omega,List.replicate_succ,List.append_assoc];rfl
theorem b5Y{x:Mat}{y:List Rat}{n c j:Nat}(o:Shp n c x)(b:j<c)(h:j<(a6T x y n c).length):((usedL (a0H x c).2 c).getD j false=true->∃a:rkN (usedL (a0H x c).2 c) j<(bU (pkL x (a0H x c).2) y n (a0H x c).2.length).length,(bU (pkL x (a0H x c).2) y n (a0H x c).2.length)[rkN (usedL (a0H x c).2 c) j]=(a6T x y n c)[j])/\((usedL (a0H x c).2 c).getD j false=false->(a6T x y n c)[j]=0):=by
 obtain⟨_,f,_⟩:=a1a o;have e:(a6T x y n c)[j]=b4f (a0H x c).2 (fn (bU (pkL x (a0H x c).2) y n (a0H x c).2.length)) j:=by simp[a6T]
 have p:(usedL (a0H x c).2 c).getD j false=decide (j∈(a0H x c).2):=by simp[usedL,List.getD_eq_getElem?_getD,b]
 have g:∀j∈(a0H x c).2,j<c:=fun j b=>by obtain⟨k,m,rfl⟩:=List.getElem_of_mem b;exact f.lt k m
 rw[e,p];constructor
 ·intro d
  obtain⟨a,l⟩:=c0h f.pw g b (of_decide_eq_true d);have i:=a6p f (fn (bU (pkL x (a0H x c).2) y n (a0H x c).2.length)) _ a;rw[l]at i;refine⟨by rw[b3e];exact a,?_⟩;rw[i];unfold fn;rw[List.getD_eq_getElem?_getD,List.getElem?_eq_getElem (by rw[b3e];exact a)];rfl
 ·intro d
  exact a4L _ (of_decide_eq_false d)
end Go.Lin
namespace Go.Rep
open Go.RowKit Go.Lim
section
variable {P:Program} {ops:Array Oper} {Q:Exit->Act->World->Prop} {a:Act} {w:World}
theorem a4z{α:Type}{R:Mem->Value->α->Prop}{sz:Nat}{X:Nat->Bool}{base b:Nat}{e:TypeId}{ao:Option Addr}{l:List α}{o:Oper}{K:Act->World->Prop}{E:Prop}{t:TypeId}{x y:Operand}(r:o.guard=none)(d:o.op=.store t x y)(q:TyI P t sz)(p:Elem R sz)(i:Nat){A:Addr}(D:a.eval x=.pointer (some A))(m:adr ao (i*sz)=A)(h:OL R sz X base e w ao b l)(s:i<l.length)(u:Value)(v:α)(F:a.eval y=u)(B:R (mk (un X ao) w) u v)(n:∀c,OL R sz X base e c ao b (l.set i v)->ExtX (ob ao) w c->K (a.put o.dst undef) c):if Region.wanted o (yielded ops a.tmps)=true then Oper.wp P o a w K Q else E:=by
 have C:Region.wanted o (yielded ops a.tmps)=true:=by simp[Region.wanted,r]
 rw[if_pos C];obtain⟨ti,z,f⟩:=q;obtain⟨c,g,j,k⟩:=h.run_store (P:=P) z f p i s u v B;rw[m]at g;unfold Oper.wp execOp;rw[d];simp[D,F,Instr.storeAt,Instr.sureAddr,g,Result.andThen];exact n _ j k
end
end Go.Rep
namespace Go.Proofs.YtnnpfhoigmegcaaGreat
open Go.RowKit Go.Rep Go.Lim Go.Lin
def FS(Z:Nat->Bool)(base g:Nat)(uo:Option Addr)(uc c n:Nat)(co lo:Option Addr)(rk:Nat)(C L:List Rat)(w:World):Prop:=
 Bx w g #[.int .i64 (rk:Int),.slice uo c uc,.slice co c c,.slice none 0 0,.bool false,.slice none 0 0,.slice none 0 0,.slice lo n n] 98/\OL QC 3 (un Z lo) base 41 w co c C/\OL QC 3 (un Z co) base 41 w lo n L
theorem b8u(X:Nat->Bool)(w:World)(u t:Value)(x:Mat)(y:List Rat)(n c B:Nat)(hX:HX X w)(hu:MV (mk X w) u x)(ht:RV (mk X w) t y)(u8:a4o x y=true)(f4:x.length=n)(n8:colsL x=c)(hn:n<=8)(hc:c<=4)(p4:BM B x)(p5:BR B y)(d0:1<=B)(O:B<=510/\n*(2*B+1)<=6540):Calls Tryz.prog 77 #[u,t] w (a7r X w (a4q x y n c)):=by
 obtain⟨W,hW,hE,b0,hz⟩:=a1e w #[.int .i64 0,.slice none 0 0,.slice none 0 0,.slice none 0 0,.bool false,.slice none 0 0,.slice none 0 0,.slice none 0 0] 98;have j9:HX (a0f X w.heap.size 1) W:=hX.boxes hz;have i7:Hid (∀D,Ext W D->Le (mk X w) (mk (a0f X w.heap.size 1) D)):=hid fun D h=>a0j (hE.trans h);obtain⟨b,hb⟩:=zA w.heap.size;rw[hb]at b0 hz j9 i7;have I3:w.heap.size<=b:=by omega
 obtain⟨N,n4⟩:=zA (a0f X b 1);rw[n4]at j9 i7;obtain⟨hf,h1,G6,G5,j1⟩:=a1Q.1 u8;obtain⟨b5,G7,_,r4,_⟩:=a0x hf;rw[f4]at h1;have I4:=r4 (by omega);rw[n8]at I4;rw[f4,n8]at b5;rw[f4]at j1;have l5:=a5e p4 d0;have hT:=(a7k b5 l5 hc (by omega)).2;obtain⟨_,hg,_,_⟩:=a1a b5;have f3:=c1A (a8H b5) hc;have m1:∀j∈(a0H x c).2,j<c:=fun j hj=>by obtain⟨k,E,rfl⟩:=List.getElem_of_mem hj;exact hg.lt k E
 have m2:=a9S N W u t x y j9 (MV.mono _ _ _ _ (i7.out W (ExtX.refl _)) hu) (RV.mono _ _ _ _ (i7.out W (ExtX.refl _)) ht) (by omega);rw[u8]at m2;have k2:=hid fun D (hZ:HX N D) (h:MV (mk N D) u x)=>b1H N D u x n c hZ h hf f4 n8 h1 hT;have l9:=hid fun Z D (uo:Option Addr) (uc:Nat) (hZ:HX Z D) (h:MV (mk Z D) u x) (h2:Sl BlR 1 (mk Z D) uo (usedL (a0H x c).2 c))=>b4a Z D u uo uc x (a0H x c).2 n c hZ h h2 b5 (by omega) (by omega) hg.pw m1;have Q:=a9D b5 (a0H x c).2;have c5:=b3o p4 d0 (p:=(a0H x c).2);have d4:=hid fun(h:1<=(a0H x c).2.length)=>(a6z b5 f3).1;have l0:=b5c (y:=y) b5 hc;have a3:=hid fun j (hj:j<c) (h:j<(a6T x y n c).length)=>b5Y (y:=y) b5 hj h;have b8:=a1Y x y n c;rw[l0]at a3;have l1:=hid fun(h:(a0H x c).2.length=0)=>(by
  have D6:(a0H x c).2= []:=List.eq_nil_of_length_eq_zero h;refine a6y (n:=c) b8 List.length_replicate fun j hj=>?_;have h0:=(a4E (y:=y) b5).2.2.2 j hj (by rw[D6];simp)
  show fn (a0D x y n c) j=_
  rw[h0];simp[List.getD_eq_getElem?_getD,hj]:a0D x y n c=List.replicate c 0)
 have i8:=hid fun(h:(a0H x c).2.length=0)=>(by
  have h2:=Q;rw[h]at h2 |-;exact a8J h2:a4m (pkL x (a0H x c).2) n (a0H x c).2.length=List.replicate n 0)
 have g9:=hid (b8t hg.pw m1);have n7:=a4G (y:=y) (c:=c) l5 p5 hn hc O;have f5:=a9I b5 p4 p5 n7 d0 hc O;have d3:(a3i x y (a0D x y n c)).length=n:=by rw[a4l (by rw[j1,f4])];exact f4
 have j0:=hid fun Z D (v:Value) (hZ:HX Z D) (h:MV (mk Z D) u x) (h2:RV (mk Z D) t y) (h3:RC (mk Z D) v (a0D x y n c))=>b5F Z D u t v x y (a0D x y n c) n c 8500000 hZ h h2 (h3.rv fun q hq=>c1A (n7 q hq) (by decide)) b5 j1 b8 (by omega) (by omega) (fun r hr q hq=>c1A (p4 r hr q hq) (by omega)) n7 (by decide) (by decide);have t9:=a1A (l:=a3i x y (a0D x y n c)) (m:=a3i x y (a0D x y n c)) f5 f5 (by decide) (by rw[d3];omega) (by decide);have u1:=hid fun Z D (v:Value) (hZ:HX Z D) (h:RC (mk Z D) v (a3i x y (a0D x y n c)))=>a5m Z D v v _ _ hZ (h.rv fun q hq=>c1A (f5 q hq) (by decide)) (h.rv fun q hq=>c1A (f5 q hq) (by decide)) (by rw[d3];omega) rfl t9.1 t9.2;have g3:=hid d3;have i6:=hid b8;have p3:=hid (a2h (a0H x c).2 c);have c9:=hid (b3e (u:=pkL x (a0H x c).2) (y:=y) (n:=n) (m:=(a0H x c).2.length));have b6:Hid (∀D uo uc co cc ro rc (s:Bool) a n' c' d k e lo lc,Ext w D->c<=uc->Sl BlR 1 (mk X D) uo (usedL (a0H x c).2 c)->RC (mk X D) (.slice co c cc) (a0D x y n c)->RC (mk X D) (.slice ro n rc) (a3i x y (a0D x y n c))->QC (mk X D) (.agg #[.bool s,.slice a n' c',.slice d k e]) (a2u (a3i x y (a0D x y n c)) (a3i x y (a0D x y n c)))->RC (mk X D) (.slice lo n lc) (a4m (pkL x (a0H x c).2) n (a0H x c).2.length)->a7r X w (a4q x y n c) (.returned (.tuple #[.agg #[.int .i64 ((a0H x c).2.length:Int),.slice uo c uc,.slice co c cc,.slice ro n rc,.bool s,.slice a n' c',.slice d k e,.slice lo n lc],.int .i64 0])) D):=hid fun D uo uc co cc ro rc s a n' c' d k e lo lc h0 h1 h2 h3 h4 h5 h6=>
  ⟨h0,_,rfl,uo,uc,co,c,cc,ro,n,rc,s,a,n',c',d,k,e,lo,n,lc,by rw[show(a4q x y n c).used=usedL (a0H x c).2 c from rfl,a2h];rfl,by rw[show(a4q x y n c).used=usedL (a0H x c).2 c from rfl,a2h];exact h1,h2,h3,h4,h5,h6⟩
 obtain⟨F,hF⟩:=zA (a7r X w (a4q x y n c));rw[hF]at b6 |-;obtain⟨m,hm⟩:=zA ((a0H x c).2.length);rw[hm]at f3 Q d4 a3 l1 i8 g9 c9 b6;obtain⟨U,hU⟩:=zA (pkL x (a0H x c).2);rw[hU]at Q c5 a3 i8 c9 b6 l9 d4;have a4:=hid fun(h1:1<=m)=>(⟨b2f Q (by omega) h1 (by omega),a9i Q (by omega),b2f (a1y U n m) (by omega) (by omega) (by omega),a9i (a1y U n m) h1,b2f (a0F U n m) (by omega) h1 (by omega),a9i (a0F U n m) h1,b2f (a2c (a0F U n m)) (by omega) h1 (by omega),a9i (a2c (a0F U n m)) h1⟩:a0y U=true/\colsL U=m/\a0y (trL U n m)=true/\colsL (trL U n m)=n/\a0y (a1L U n m)=true/\colsL (a1L U n m)=m/\a0y (a2y (a1L U n m) m)=true/\colsL (a2y (a1L U n m) m)=m);have o2:=a5e c5 d0;have m6:BM B (trL U n m):=a5y (b0D o2);have l3:=a7T (m:=m) o2 hn O;have o3:=a9J (m:=m) o2 hn f3 O;have E8:=a3q (a1i (a0F U n m)) (a6g (a0F U n m) l3) f3 (by decide);have E7:=a3q (a0F U n m) l3 f3 (by decide);have F8:BM 68719476736 (a1g (a1L U n m) m):=fun r hr q hq=>c1A (a5y (a6g (a0F U n m) l3) r hr q hq) (by decide);have r7:=hid (show BM 68719476736 U from fun r hr q hq=>c1A (c5 r hr q hq) (by omega));have r5:=hid (show BM 68719476736 (trL U n m)from fun r hr q hq=>c1A (m6 r hr q hq) (by omega));have C2:=hid (show BM 68719476736 (a1L U n m)from fun r hr q hq=>c1A (a5y l3 r hr q hq) (by decide));have C8:=hid (show BM 68719476736 (a2y (a1L U n m) m)from fun r hr q hq=>c1A (o3 r hr q hq) (by decide));have m7:BR 6541 (a2v (trL U n m) y):=fun q hq=>c1A (b3p (a1y U n m) m6 p5 d0 d0 q hq) (by have h2:=O.2;rw[Nat.two_mul]at h2;omega);have s2:(a2v (trL U n m) y).length=m:=by rw[a2Z];exact(a1y U n m).1
 have p1:=hid fun(h1:1<=m) Z D (v:Value) (hZ:HX Z D) (h:MC (mk Z D) v U)=>a5p Z D v U n m hZ (h.mv r7.out) (a4.out h1).1 Q.1 (a4.out h1).2.1;have i9:=hid fun(h1:1<=m) Z D (v u2:Value) (hZ:HX Z D) (ht:MC (mk Z D) v (trL U n m)) (h:MC (mk Z D) u2 U)=>b8r Z D v u2 (trL U n m) U m n m B hZ (ht.mv r5.out) (h.mv r7.out) (a4.out h1).2.2.1 (a4.out h1).1 (a1y U n m).1 Q.1 (a4.out h1).2.2.2.1 (a4.out h1).2.1 m6 c5 d0 (by omega);have f2:=hid fun(h1:1<=m) Z D (v:Value) (hZ:HX Z D) (ht:MC (mk Z D) v (a1L U n m))=>b0e Z D v (a1L U n m) m hZ (ht.mv C2.out) (a4.out h1).2.2.2.2.1 (a0F U n m).1 (a4.out h1).2.2.2.2.2.1 E7.2 E8.2 F8;have o6:=hid fun(h1:1<=m) (h0:a9k (a1L U n m) m=0)=>d4.out h1 ((c0X f3 (a0F U n m)).2 h0);have c7:=hid fun(h1:1<=m) Z D (v:Value) (hZ:HX Z D) (h:MC (mk Z D) v (trL U n m)) (h2:RV (mk Z D) t y)=>a9g Z D v t (trL U n m) y B hZ (h.mv r5.out) h2 (a4.out h1).2.2.1 (by rw[(a4.out h1).2.2.2.1];exact j1) m6 p5 d0 (by omega);have f1:=hid fun(h1:1<=m) Z D (v v2:Value) (r:List Rat) (hZ:HX Z D) (h:MC (mk Z D) v (a2y (a1L U n m) m)) (h2:RC (mk Z D) v2 r) (h3:r.length=m) (h4:BR 8500000 r)=>a9g Z D v v2 (a2y (a1L U n m) m) r 8500000 hZ (h.mv C8.out) (h2.rv fun q hq=>c1A (h4 q hq) (by decide)) (a4.out h1).2.2.2.2.2.2.1 (by rw[(a4.out h1).2.2.2.2.2.2.2];exact h3) o3 h4 (by decide) (by decide);have o4:=hid fun r (hr:r∈U)=>a9K (m:=m) c5 hn f3 d0 O hr;have y7:(a2y (a1L U n m) m).length=m:=(a2c (a0F U n m)).1;have g7:=hid fun Z D (v v2:Value) (r:List Rat) (hZ:HX Z D) (hr:r∈U) (h:RC (mk Z D) v r) (h2:RC (mk Z D) v2 (a2v (a2y (a1L U n m) m) r))=>a5m Z D v v2 r (a2v (a2y (a1L U n m) m) r) hZ (h.rv fun q hq=>c1A (c5 r hr q hq) (by omega)) (h2.rv fun q hq=>c1A (o4.out r hr q hq) (by decide)) (by rw[Q.2 r hr];omega) (by rw[a2Z,y7,Q.2 r hr]) (a1A (B:=34100000) (fun q hq=>c1A (c5 r hr q hq) (by omega)) (o4.out r hr) (by decide) (by rw[Q.2 r hr];omega) (by decide)).1 (a1A (B:=34100000) (fun q hq=>c1A (c5 r hr q hq) (by omega)) (o4.out r hr) (by decide) (by rw[Q.2 r hr];omega) (by decide)).2;have m4:=hid fun r (hr:r∈U)=>(fun q hq=>c1A (c5 r hr q hq) (by omega):BR 8500000 r);have j6:=hid fun i (h1:i<U.length) (h:i<(a4m U n m).length)=>b0X h1 h;have i4:=hid (show(a4m U n m).length=n by rw[a5h];exact Q.1);have c8:bU U y n m=a2v (a2y (a1L U n m) m) (a2v (trL U n m) y):=rfl;have k7:BR 68719476736 (bU U y n m):=fun q hq=>c1A (b3p (a2c (a0F U n m)) o3 (fun q hq=>c1A (m7 q hq) (by decide)) (by decide) (C:=8500000) (by decide) q hq) (by have:=Nat.mul_le_mul f3 (show 8500000+8500000+1<=17000001 by omega);omega);have r0:a1L U n m=a6b (trL U n m) U n m:=rfl;rw[<-r0]at i9;have g5:=hid (show BR 8500000 (a2v (trL U n m) y)from fun q hq=>c1A (m7 q hq) (by decide));have g6:=hid s2;unfold b4c at f2;obtain⟨us,r9⟩:=zA (usedL (a0H x c).2 c);unfold b5z at k2;rw[r9]at k2 l9 a3 g9 p3 b6;obtain⟨G,hG⟩:=zA (a1L U n m);rw[hG]at i9 f2 o6 f1 g7 j6 c8;obtain⟨I,hI⟩:=zA (a2y G m);rw[hI]at f2 f1 g7 j6 c8;obtain⟨T,z5⟩:=zA (trL U n m);rw[z5]at p1 i9 c7 g5 g6 c8;obtain⟨V,z6⟩:=zA (a2v T y);rw[z6]at c7 g5 g6 c8;have k8:=hid c8;obtain⟨bu,B1⟩:=zA (bU U y n m);rw[B1]at a3 c9 k7 k8;have I1:=hid k7;obtain⟨L,hL⟩:=zA (a4m U n m);rw[hL]at i8 j6 i4 b6;obtain⟨Cf,x2⟩:=zA (a0D x y n c);rw[x2]at a3 l1 i6 j0 u1 g3 b6;obtain⟨Rs,z4⟩:=zA (a3i x y Cf);rw[z4]at j0 u1 g3 b6;have t1:=hid Q.1;have H6:=hid Q.2;have v8:=hid fun D (h:Ext W D)=>MV.mono _ _ _ _ (i7.out D h) hu;have E5:=hid fun D (h:Ext W D)=>RV.mono _ _ _ _ (i7.out D h) ht;obtain⟨ua,L3,rfl,r8,K2⟩:=hu;obtain⟨ta,L2,rfl,r6,K0⟩:=ht;rw[f4]at m2 k2 l9 j0 v8 r8 |-;rw[j1]at m2 c7 j0 E5 r6 |-;have A1:Hid (∀k,X k=true->N k=true):=hid fun k E=>by rw[<-n4];simp[a0f,E]
 have I0:Hid (∀k,ob (some ⟨b,0,none⟩) k=true->N k=true):=hid fun k E=>by
  have L1:b=k:=by simpa[ob]using E
  rw[<-n4];exact a3z (by omega) (by omega)
 clear u8 hf G6 G5 r4 b5 l5 hT hg n7 f5 d3 t9 hF hm hU hG hI z5 z6 c8 B1 k7 hL x2 z4 r9 n4 f4 n8 j1 m7 s2 m6 l3 o3 E8 E7 F8 d4 m1 l0 b8 o2 c5 a4 r0 y7 G7 Q r6 r8 K2 K0;go_enter Tryz.func77,Tryz.ntmps77
 go_wp2_with fail
 refine m2.mono ?_;rintro ee wa ⟨s7,rfl⟩;clear m2;go_wp2_with fail
 refine(k2.out wa (j9.ext s7) (v8.out wa s7)).mono ?_;rintro ee z ⟨H2,uo,uc,uv,rfl,K3,Q⟩;have f9:=s7.trans H2;have z7:HX N z:=j9.ext f9;clear k2;go_upto_region 4 with fail
 have d9:Ext z z.drew:=(ExtX.refl z).drew;have c2:HX N z.drew:=z7.ext d9
 (try simp only[Act.put])
 go_cut [9]from 38 to 46 (fun bv wx=>∃(g:Nat) (co lo:Option Addr),bv=.pointer (some ⟨g,0,none⟩)/\Bx wx g #[.int .i64 0,.slice uo c uc,.slice co c c,.slice none 0 0,.bool false,.slice none 0 0,.slice none 0 0,.slice lo n n] 98/\OL QC 3 (un (un N (some ⟨g,0,none⟩)) lo) z.drew.heap.size 41 wx co c (List.replicate c 0)/\OL QC 3 (un (un N (some ⟨g,0,none⟩)) co) z.drew.heap.size 41 wx lo n (List.replicate n 0)/\z.heap.size<=g/\g<wx.heap.size/\Ext z wx)
 case first=>
  refine a0n 9 (fun _=>True) (by kernel_rfl) (by kernel_rfl) trivial (fun A f=>?_);refine kt 0 f ?_;refine kt 1 f ?_;refine kt 2 f ?_;refine kt 4 f ?_;refine kt 5 f ?_;refine a5X (i:=3) (j:=6) (l:=8) (oi:=⟨_,_,_,_,_,_⟩) (oj:=⟨_,_,_,_,_,_⟩) (ol:=⟨_,_,_,_,_,_⟩) (by kernel_rfl) rfl rfl rfl (fun K J=>?_) (fun K J=>?_) (fun K J=>?_)
  ·skip
   (refine a0O (R:=QC) rfl rfl a0w QC.elem (0:Rat) (fun _=>QC.zero _) N (c2.ext (ExtX.refl (Y:=noY) z.drew)) z.drew.heap.size (c1B _) c rfl rfl rfl (by omega) (by omega) ?_;intro xo vA P eA)
   refine kcn J trivial (fun A=>?_);clear J K;have nA:∀q,ob xo q=true->z.drew.heap.size<=q:=fun q hq=>(P.block hq).1;have P:=P.base_le (b':=z.drew.heap.size) ((ExtX.refl (Y:=noY) z.drew)).size;have EA:Ext z.drew vA:=(ExtX.refl (Y:=noY) z.drew).trans eA;refine a1B (i:=6) (j:=8) (oi:=⟨_,_,_,_,_,_⟩) (oj:=⟨_,_,_,_,_,_⟩) (by kernel_rfl) rfl rfl (fun K J=>?_) (fun K J=>?_)
   ·skip
    (refine a0O (R:=QC) rfl rfl a0w QC.elem (0:Rat) (fun _=>QC.zero _) (un N xo) (a3f (c2.ext EA) fun q hq=>(P.block hq).2) vA.heap.size (c1B _) n rfl rfl rfl (by omega) (by omega) ?_;intro yo vB O eB)
    refine kcn J trivial (fun A=>?_);clear J K;have nB:∀q,ob yo q=true->vA.heap.size<=q:=fun q hq=>(O.block hq).1;have O:=O.base_le (b':=z.drew.heap.size) (EA).size;have P:=a0U QC.elem P eB nB;have EB:Ext z.drew vB:=EA.trans eB;refine kt 7 f ?_;refine a1d (i:=8) (o:=⟨_,_,_,_,_,_⟩) (by kernel_rfl) rfl (fun K J=>?_);go_simp
    skip
    refine kcn J trivial (fun A=>?_);clear J K;have eG:Ext vB (vB.alloc (.cells #[.int .i64 0,.slice none 0 0,.slice none 0 0,.slice none 0 0,.bool false,.slice none 0 0,.slice none 0 0,.slice none 0 0] 98)):=(ExtX.refl _).alloc _;have bG:Bx (vB.alloc (.cells #[.int .i64 0,.slice none 0 0,.slice none 0 0,.slice none 0 0,.bool false,.slice none 0 0,.slice none 0 0,.slice none 0 0] 98)) vB.heap.size #[.int .i64 0,.slice none 0 0,.slice none 0 0,.slice none 0 0,.bool false,.slice none 0 0,.slice none 0 0,.slice none 0 0] 98:=Bx.new vB _ _;have zG:(vB.alloc (.cells #[.int .i64 0,.slice none 0 0,.slice none 0 0,.slice none 0 0,.bool false,.slice none 0 0,.slice none 0 0,.slice none 0 0] 98)).heap.size=vB.heap.size+1:=by simp
    obtain⟨vG,d5⟩:=zA (vB.alloc (.cells #[.int .i64 0,.slice none 0 0,.slice none 0 0,.slice none 0 0,.bool false,.slice none 0 0,.slice none 0 0,.slice none 0 0] 98));rw[d5]at eG bG zG |-;obtain⟨H,a5⟩:=zA vB.heap.size;have a7:vB.heap.size<=H:=by rw[<-a5];exact c1B _
    rw[a5]at bG zG |-;have M:H<vG.heap.size:=by omega
    have nG:∀q,ob (some ⟨H,0,none⟩) q=true->vB.heap.size<=q:=fun q hq=>(by simpa[ob]using hq:H=q)▸a7;have S:z.heap.size<=H:=c1A (EB).size a7;have P:=a0U QC.elem P eG nG;have O:=a0U QC.elem O eG nG;have EG:Ext z.drew vG:=EB.trans eG;refine kl 9 (fun K J=>?_)
    (refine a0q rfl rfl a2m rfl rfl bG rfl rfl (by intro v hv;simp at hv;rcases hv with rfl|rfl|rfl|rfl|rfl|rfl|rfl|rfl<;>rfl) ?_;intro w9 y1 y2)
    refine J.out _ _ ?_;clear J K
    (try simp only[Act.put])
    have b9:OL QC 3 (un (un N (some ⟨H,0,none⟩)) yo) z.drew.heap.size 41 w9 xo c (List.replicate c 0):=by
     have h:=P.ext QC.elem (Z:=un (un N yo) (some ⟨H,0,none⟩)) y2 (fun q _ hq=>by simp[un,hq]) (fun _ _ h=>h)
     first|exact h|(rw[a0R]at h;exact h)
    have c0:OL QC 3 (un (un N (some ⟨H,0,none⟩)) xo) z.drew.heap.size 41 w9 yo n (List.replicate n 0):=by
     have h:=O.ext QC.elem (Z:=un (un N xo) (some ⟨H,0,none⟩)) y2 (fun q _ hq=>by simp[un,hq]) (fun _ _ h=>h)
     first|exact h|(rw[a0R]at h;exact h)
    have a8:Ext z w9:=ExtX.box (d9.trans EG) y2 S;have a0:=c1C M y2.size;go_wp2_with fail
    go_meet
    case rel=>exact⟨H,xo,yo,rfl,y1,b9,c0,S,a0,a8⟩
   ·skip
    go_simp
    skip
    refine kcn J trivial (fun A=>?_);clear J K;have eG:Ext vA (vA.alloc (.cells #[.int .i64 0,.slice none 0 0,.slice none 0 0,.slice none 0 0,.bool false,.slice none 0 0,.slice none 0 0,.slice none 0 0] 98)):=(ExtX.refl _).alloc _;have bG:Bx (vA.alloc (.cells #[.int .i64 0,.slice none 0 0,.slice none 0 0,.slice none 0 0,.bool false,.slice none 0 0,.slice none 0 0,.slice none 0 0] 98)) vA.heap.size #[.int .i64 0,.slice none 0 0,.slice none 0 0,.slice none 0 0,.bool false,.slice none 0 0,.slice none 0 0,.slice none 0 0] 98:=Bx.new vA _ _;have zG:(vA.alloc (.cells #[.int .i64 0,.slice none 0 0,.slice none 0 0,.slice none 0 0,.bool false,.slice none 0 0,.slice none 0 0,.slice none 0 0] 98)).heap.size=vA.heap.size+1:=by simp
    obtain⟨vG,d5⟩:=zA (vA.alloc (.cells #[.int .i64 0,.slice none 0 0,.slice none 0 0,.slice none 0 0,.bool false,.slice none 0 0,.slice none 0 0,.slice none 0 0] 98));rw[d5]at eG bG zG |-;obtain⟨H,a5⟩:=zA vA.heap.size;have a7:vA.heap.size<=H:=by rw[<-a5];exact c1B _
    rw[a5]at bG zG |-;have M:H<vG.heap.size:=by omega
    have nG:∀q,ob (some ⟨H,0,none⟩) q=true->vA.heap.size<=q:=fun q hq=>(by simpa[ob]using hq:H=q)▸a7;have S:z.heap.size<=H:=c1A (EA).size a7;have P:=a0U QC.elem P eG nG;have EG:Ext z.drew vG:=EA.trans eG;refine a1d (i:=6) (o:=⟨_,_,_,_,_,_⟩) (by kernel_rfl) rfl (fun K J=>?_)
    (refine a0O (R:=QC) rfl rfl a0w QC.elem (0:Rat) (fun _=>QC.zero _) (un (un N xo) (some ⟨H,0,none⟩)) (a1m (a3f (c2.ext EG) fun q hq=>(P.block hq).2) M) vG.heap.size (c1B _) n rfl rfl rfl (by omega) (by omega) ?_;intro yo vB O eB)
    refine kcn J trivial (fun A=>?_);clear J K;have nB:∀q,ob yo q=true->vG.heap.size<=q:=fun q hq=>(O.block hq).1;have O:=O.base_le (b':=z.drew.heap.size) (EG).size;have P:=a0U QC.elem P eB nB;have bG:=bG.ext0 eB;have M:=c1C M eB.size;have EB:Ext z.drew vB:=EG.trans eB;refine kt 7 f ?_;refine kl 9 (fun K J=>?_)
    (refine a0q rfl rfl a2m rfl rfl bG rfl rfl (by intro v hv;simp at hv;rcases hv with rfl|rfl|rfl|rfl|rfl|rfl|rfl|rfl<;>rfl) ?_;intro w9 y1 y2)
    refine J.out _ _ ?_;clear J K
    (try simp only[Act.put])
    have b9:OL QC 3 (un (un N (some ⟨H,0,none⟩)) yo) z.drew.heap.size 41 w9 xo c (List.replicate c 0):=by
     have h:=P.ext QC.elem (Z:=un (un N (some ⟨H,0,none⟩)) yo) y2 (fun q _ hq=>by simp[un,hq]) (fun _ _ h=>h)
     first|exact h|(rw[a0R]at h;exact h)
    have c0:OL QC 3 (un (un N (some ⟨H,0,none⟩)) xo) z.drew.heap.size 41 w9 yo n (List.replicate n 0):=by
     have h:=O.ext QC.elem (Z:=un (un N xo) (some ⟨H,0,none⟩)) y2 (fun q _ hq=>by simp[un,hq]) (fun _ _ h=>h)
     first|exact h|(rw[a0R]at h;exact h)
    have a8:Ext z w9:=ExtX.box (d9.trans EB) y2 S;have a0:=c1C M y2.size;go_wp2_with fail
    go_meet
    case rel=>exact⟨H,xo,yo,rfl,y1,b9,c0,S,a0,a8⟩
  ·skip
   (refine a0O (R:=QC) rfl rfl a0w QC.elem (0:Rat) (fun _=>QC.zero _) N (c2.ext (ExtX.refl (Y:=noY) z.drew)) z.drew.heap.size (c1B _) n rfl rfl rfl (by omega) (by omega) ?_;intro yo vB O eB)
   refine kcn J trivial (fun A=>?_);clear J K;have nB:∀q,ob yo q=true->z.drew.heap.size<=q:=fun q hq=>(O.block hq).1;have O:=O.base_le (b':=z.drew.heap.size) ((ExtX.refl (Y:=noY) z.drew)).size;have EB:Ext z.drew vB:=(ExtX.refl (Y:=noY) z.drew).trans eB;refine a1B (i:=3) (j:=8) (oi:=⟨_,_,_,_,_,_⟩) (oj:=⟨_,_,_,_,_,_⟩) (by kernel_rfl) rfl rfl (fun K J=>?_) (fun K J=>?_)
   ·skip
    (refine a0O (R:=QC) rfl rfl a0w QC.elem (0:Rat) (fun _=>QC.zero _) (un N yo) (a3f (c2.ext EB) fun q hq=>(O.block hq).2) vB.heap.size (c1B _) c rfl rfl rfl (by omega) (by omega) ?_;intro xo vA P eA)
    refine kcn J trivial (fun A=>?_);clear J K;have nA:∀q,ob xo q=true->vB.heap.size<=q:=fun q hq=>(P.block hq).1;have P:=P.base_le (b':=z.drew.heap.size) (EB).size;have O:=a0U QC.elem O eA nA;have EA:Ext z.drew vA:=EB.trans eA;refine kt 7 f ?_;refine a1d (i:=8) (o:=⟨_,_,_,_,_,_⟩) (by kernel_rfl) rfl (fun K J=>?_);go_simp
    skip
    refine kcn J trivial (fun A=>?_);clear J K;have eG:Ext vA (vA.alloc (.cells #[.int .i64 0,.slice none 0 0,.slice none 0 0,.slice none 0 0,.bool false,.slice none 0 0,.slice none 0 0,.slice none 0 0] 98)):=(ExtX.refl _).alloc _;have bG:Bx (vA.alloc (.cells #[.int .i64 0,.slice none 0 0,.slice none 0 0,.slice none 0 0,.bool false,.slice none 0 0,.slice none 0 0,.slice none 0 0] 98)) vA.heap.size #[.int .i64 0,.slice none 0 0,.slice none 0 0,.slice none 0 0,.bool false,.slice none 0 0,.slice none 0 0,.slice none 0 0] 98:=Bx.new vA _ _;have zG:(vA.alloc (.cells #[.int .i64 0,.slice none 0 0,.slice none 0 0,.slice none 0 0,.bool false,.slice none 0 0,.slice none 0 0,.slice none 0 0] 98)).heap.size=vA.heap.size+1:=by simp
    obtain⟨vG,d5⟩:=zA (vA.alloc (.cells #[.int .i64 0,.slice none 0 0,.slice none 0 0,.slice none 0 0,.bool false,.slice none 0 0,.slice none 0 0,.slice none 0 0] 98));rw[d5]at eG bG zG |-;obtain⟨H,a5⟩:=zA vA.heap.size;have a7:vA.heap.size<=H:=by rw[<-a5];exact c1B _
    rw[a5]at bG zG |-;have M:H<vG.heap.size:=by omega
    have nG:∀q,ob (some ⟨H,0,none⟩) q=true->vA.heap.size<=q:=fun q hq=>(by simpa[ob]using hq:H=q)▸a7;have S:z.heap.size<=H:=c1A (EA).size a7;have O:=a0U QC.elem O eG nG;have P:=a0U QC.elem P eG nG;have EG:Ext z.drew vG:=EA.trans eG;refine kl 9 (fun K J=>?_)
    (refine a0q rfl rfl a2m rfl rfl bG rfl rfl (by intro v hv;simp at hv;rcases hv with rfl|rfl|rfl|rfl|rfl|rfl|rfl|rfl<;>rfl) ?_;intro w9 y1 y2)
    refine J.out _ _ ?_;clear J K
    (try simp only[Act.put])
    have b9:OL QC 3 (un (un N (some ⟨H,0,none⟩)) yo) z.drew.heap.size 41 w9 xo c (List.replicate c 0):=by
     have h:=P.ext QC.elem (Z:=un (un N yo) (some ⟨H,0,none⟩)) y2 (fun q _ hq=>by simp[un,hq]) (fun _ _ h=>h)
     first|exact h|(rw[a0R]at h;exact h)
    have c0:OL QC 3 (un (un N (some ⟨H,0,none⟩)) xo) z.drew.heap.size 41 w9 yo n (List.replicate n 0):=by
     have h:=O.ext QC.elem (Z:=un (un N xo) (some ⟨H,0,none⟩)) y2 (fun q _ hq=>by simp[un,hq]) (fun _ _ h=>h)
     first|exact h|(rw[a0R]at h;exact h)
    have a8:Ext z w9:=ExtX.box (d9.trans EG) y2 S;have a0:=c1C M y2.size;go_wp2_with fail
    go_meet
    case rel=>exact⟨H,xo,yo,rfl,y1,b9,c0,S,a0,a8⟩
   ·skip
    go_simp
    skip
    refine kcn J trivial (fun A=>?_);clear J K;have eG:Ext vB (vB.alloc (.cells #[.int .i64 0,.slice none 0 0,.slice none 0 0,.slice none 0 0,.bool false,.slice none 0 0,.slice none 0 0,.slice none 0 0] 98)):=(ExtX.refl _).alloc _;have bG:Bx (vB.alloc (.cells #[.int .i64 0,.slice none 0 0,.slice none 0 0,.slice none 0 0,.bool false,.slice none 0 0,.slice none 0 0,.slice none 0 0] 98)) vB.heap.size #[.int .i64 0,.slice none 0 0,.slice none 0 0,.slice none 0 0,.bool false,.slice none 0 0,.slice none 0 0,.slice none 0 0] 98:=Bx.new vB _ _;have zG:(vB.alloc (.cells #[.int .i64 0,.slice none 0 0,.slice none 0 0,.slice none 0 0,.bool false,.slice none 0 0,.slice none 0 0,.slice none 0 0] 98)).heap.size=vB.heap.size+1:=by simp
    obtain⟨vG,d5⟩:=zA (vB.alloc (.cells #[.int .i64 0,.slice none 0 0,.slice none 0 0,.slice none 0 0,.bool false,.slice none 0 0,.slice none 0 0,.slice none 0 0] 98));rw[d5]at eG bG zG |-;obtain⟨H,a5⟩:=zA vB.heap.size;have a7:vB.heap.size<=H:=by rw[<-a5];exact c1B _
    rw[a5]at bG zG |-;have M:H<vG.heap.size:=by omega
    have nG:∀q,ob (some ⟨H,0,none⟩) q=true->vB.heap.size<=q:=fun q hq=>(by simpa[ob]using hq:H=q)▸a7;have S:z.heap.size<=H:=c1A (EB).size a7;have O:=a0U QC.elem O eG nG;have EG:Ext z.drew vG:=EB.trans eG;refine a1d (i:=3) (o:=⟨_,_,_,_,_,_⟩) (by kernel_rfl) rfl (fun K J=>?_)
    (refine a0O (R:=QC) rfl rfl a0w QC.elem (0:Rat) (fun _=>QC.zero _) (un (un N yo) (some ⟨H,0,none⟩)) (a1m (a3f (c2.ext EG) fun q hq=>(O.block hq).2) M) vG.heap.size (c1B _) c rfl rfl rfl (by omega) (by omega) ?_;intro xo vA P eA)
    refine kcn J trivial (fun A=>?_);clear J K;have nA:∀q,ob xo q=true->vG.heap.size<=q:=fun q hq=>(P.block hq).1;have P:=P.base_le (b':=z.drew.heap.size) (EG).size;have O:=a0U QC.elem O eA nA;have bG:=bG.ext0 eA;have M:=c1C M eA.size;have EA:Ext z.drew vA:=EG.trans eA;refine kt 7 f ?_;refine kl 9 (fun K J=>?_)
    (refine a0q rfl rfl a2m rfl rfl bG rfl rfl (by intro v hv;simp at hv;rcases hv with rfl|rfl|rfl|rfl|rfl|rfl|rfl|rfl<;>rfl) ?_;intro w9 y1 y2)
    refine J.out _ _ ?_;clear J K
    (try simp only[Act.put])
    have b9:OL QC 3 (un (un N (some ⟨H,0,none⟩)) yo) z.drew.heap.size 41 w9 xo c (List.replicate c 0):=by
     have h:=P.ext QC.elem (Z:=un (un N yo) (some ⟨H,0,none⟩)) y2 (fun q _ hq=>by simp[un,hq]) (fun _ _ h=>h)
     first|exact h|(rw[a0R]at h;exact h)
    have c0:OL QC 3 (un (un N (some ⟨H,0,none⟩)) xo) z.drew.heap.size 41 w9 yo n (List.replicate n 0):=by
     have h:=O.ext QC.elem (Z:=un (un N (some ⟨H,0,none⟩)) xo) y2 (fun q _ hq=>by simp[un,hq]) (fun _ _ h=>h)
     first|exact h|(rw[a0R]at h;exact h)
    have a8:Ext z w9:=ExtX.box (d9.trans EA) y2 S;have a0:=c1C M y2.size;go_wp2_with fail
    go_meet
    case rel=>exact⟨H,xo,yo,rfl,y1,b9,c0,S,a0,a8⟩
  ·skip
   go_simp
   skip
   refine kcn J trivial (fun A=>?_);clear J K;have eG:Ext z.drew (z.alloc (.cells #[.int .i64 0,.slice none 0 0,.slice none 0 0,.slice none 0 0,.bool false,.slice none 0 0,.slice none 0 0,.slice none 0 0] 98)).drew:=⟨rfl,rfl,rfl,((ExtX.refl (Y:=noY) z).alloc _).size,((ExtX.refl (Y:=noY) z).alloc _).block⟩;have bG:Bx (z.alloc (.cells #[.int .i64 0,.slice none 0 0,.slice none 0 0,.slice none 0 0,.bool false,.slice none 0 0,.slice none 0 0,.slice none 0 0] 98)).drew z.heap.size #[.int .i64 0,.slice none 0 0,.slice none 0 0,.slice none 0 0,.bool false,.slice none 0 0,.slice none 0 0,.slice none 0 0] 98:=Bx.new z _ _;have zG:(z.alloc (.cells #[.int .i64 0,.slice none 0 0,.slice none 0 0,.slice none 0 0,.bool false,.slice none 0 0,.slice none 0 0,.slice none 0 0] 98)).drew.heap.size=z.heap.size+1:=by show(z.alloc _).heap.size=_;simp
   obtain⟨vG,d5⟩:=zA ((z.alloc (.cells #[.int .i64 0,.slice none 0 0,.slice none 0 0,.slice none 0 0,.bool false,.slice none 0 0,.slice none 0 0,.slice none 0 0] 98)).drew);rw[d5]at eG bG zG |-;obtain⟨H,a5⟩:=zA z.heap.size;have a7:z.drew.heap.size<=H:=by rw[<-a5];exact c1B _
   rw[a5]at bG zG |-;have M:H<vG.heap.size:=by omega
   have nG:∀q,ob (some ⟨H,0,none⟩) q=true->z.drew.heap.size<=q:=fun q hq=>(by simpa[ob]using hq:H=q)▸a7;have S:z.heap.size<=H:=c1A ((ExtX.refl (Y:=noY) z.drew)).size a7;have EG:Ext z.drew vG:=(ExtX.refl (Y:=noY) z.drew).trans eG;refine a1B (i:=3) (j:=6) (oi:=⟨_,_,_,_,_,_⟩) (oj:=⟨_,_,_,_,_,_⟩) (by kernel_rfl) rfl rfl (fun K J=>?_) (fun K J=>?_)
   ·skip
    (refine a0O (R:=QC) rfl rfl a0w QC.elem (0:Rat) (fun _=>QC.zero _) (un N (some ⟨H,0,none⟩)) (a1m (c2.ext EG) M) vG.heap.size (c1B _) c rfl rfl rfl (by omega) (by omega) ?_;intro xo vA P eA)
    refine kcn J trivial (fun A=>?_);clear J K;have nA:∀q,ob xo q=true->vG.heap.size<=q:=fun q hq=>(P.block hq).1;have P:=P.base_le (b':=z.drew.heap.size) (EG).size;have bG:=bG.ext0 eA;have M:=c1C M eA.size;have EA:Ext z.drew vA:=EG.trans eA;refine a1d (i:=6) (o:=⟨_,_,_,_,_,_⟩) (by kernel_rfl) rfl (fun K J=>?_)
    (refine a0O (R:=QC) rfl rfl a0w QC.elem (0:Rat) (fun _=>QC.zero _) (un (un N (some ⟨H,0,none⟩)) xo) (a3f (a1m (c2.ext EA) M) fun q hq=>(P.block hq).2) vA.heap.size (c1B _) n rfl rfl rfl (by omega) (by omega) ?_;intro yo vB O eB)
    refine kcn J trivial (fun A=>?_);clear J K;have nB:∀q,ob yo q=true->vA.heap.size<=q:=fun q hq=>(O.block hq).1;have O:=O.base_le (b':=z.drew.heap.size) (EA).size;have bG:=bG.ext0 eB;have M:=c1C M eB.size;have P:=a0U QC.elem P eB nB;have EB:Ext z.drew vB:=EA.trans eB;refine kt 7 f ?_;refine kl 9 (fun K J=>?_)
    (refine a0q rfl rfl a2m rfl rfl bG rfl rfl (by intro v hv;simp at hv;rcases hv with rfl|rfl|rfl|rfl|rfl|rfl|rfl|rfl<;>rfl) ?_;intro w9 y1 y2)
    refine J.out _ _ ?_;clear J K
    (try simp only[Act.put])
    have b9:OL QC 3 (un (un N (some ⟨H,0,none⟩)) yo) z.drew.heap.size 41 w9 xo c (List.replicate c 0):=by
     have h:=P.ext QC.elem (Z:=un (un N (some ⟨H,0,none⟩)) yo) y2 (fun q _ hq=>by simp[un,hq]) (fun _ _ h=>h)
     first|exact h|(rw[a0R]at h;exact h)
    have c0:OL QC 3 (un (un N (some ⟨H,0,none⟩)) xo) z.drew.heap.size 41 w9 yo n (List.replicate n 0):=by
     have h:=O.ext QC.elem (Z:=un (un N (some ⟨H,0,none⟩)) xo) y2 (fun q _ hq=>by simp[un,hq]) (fun _ _ h=>h)
     first|exact h|(rw[a0R]at h;exact h)
    have a8:Ext z w9:=ExtX.box (d9.trans EB) y2 S;have a0:=c1C M y2.size;go_wp2_with fail
    go_meet
    case rel=>exact⟨H,xo,yo,rfl,y1,b9,c0,S,a0,a8⟩
   ·skip
    (refine a0O (R:=QC) rfl rfl a0w QC.elem (0:Rat) (fun _=>QC.zero _) (un N (some ⟨H,0,none⟩)) (a1m (c2.ext EG) M) vG.heap.size (c1B _) n rfl rfl rfl (by omega) (by omega) ?_;intro yo vB O eB)
    refine kcn J trivial (fun A=>?_);clear J K;have nB:∀q,ob yo q=true->vG.heap.size<=q:=fun q hq=>(O.block hq).1;have O:=O.base_le (b':=z.drew.heap.size) (EG).size;have bG:=bG.ext0 eB;have M:=c1C M eB.size;have EB:Ext z.drew vB:=EG.trans eB;refine a1d (i:=3) (o:=⟨_,_,_,_,_,_⟩) (by kernel_rfl) rfl (fun K J=>?_)
    (refine a0O (R:=QC) rfl rfl a0w QC.elem (0:Rat) (fun _=>QC.zero _) (un (un N (some ⟨H,0,none⟩)) yo) (a3f (a1m (c2.ext EB) M) fun q hq=>(O.block hq).2) vB.heap.size (c1B _) c rfl rfl rfl (by omega) (by omega) ?_;intro xo vA P eA)
    refine kcn J trivial (fun A=>?_);clear J K;have nA:∀q,ob xo q=true->vB.heap.size<=q:=fun q hq=>(P.block hq).1;have P:=P.base_le (b':=z.drew.heap.size) (EB).size;have bG:=bG.ext0 eA;have M:=c1C M eA.size;have O:=a0U QC.elem O eA nA;have EA:Ext z.drew vA:=EB.trans eA;refine kt 7 f ?_;refine kl 9 (fun K J=>?_)
    (refine a0q rfl rfl a2m rfl rfl bG rfl rfl (by intro v hv;simp at hv;rcases hv with rfl|rfl|rfl|rfl|rfl|rfl|rfl|rfl<;>rfl) ?_;intro w9 y1 y2)
    refine J.out _ _ ?_;clear J K
    (try simp only[Act.put])
    have b9:OL QC 3 (un (un N (some ⟨H,0,none⟩)) yo) z.drew.heap.size 41 w9 xo c (List.replicate c 0):=by
     have h:=P.ext QC.elem (Z:=un (un N (some ⟨H,0,none⟩)) yo) y2 (fun q _ hq=>by simp[un,hq]) (fun _ _ h=>h)
     first|exact h|(rw[a0R]at h;exact h)
    have c0:OL QC 3 (un (un N (some ⟨H,0,none⟩)) xo) z.drew.heap.size 41 w9 yo n (List.replicate n 0):=by
     have h:=O.ext QC.elem (Z:=un (un N (some ⟨H,0,none⟩)) xo) y2 (fun q _ hq=>by simp[un,hq]) (fun _ _ h=>h)
     first|exact h|(rw[a0R]at h;exact h)
    have a8:Ext z w9:=ExtX.box (d9.trans EA) y2 S;have a0:=c1C M y2.size;go_wp2_with fail
    go_meet
    case rel=>exact⟨H,xo,yo,rfl,y1,b9,c0,S,a0,a8⟩
 case rest=>
  obtain⟨g,co,lo,rfl,bg,i0,i3,S,C3,s8⟩:=hcut;obtain⟨Z1,g1⟩:=zA (un N (some ⟨g,0,none⟩));rw[g1]at i0 i3;have l2:∀k,ob (some ⟨g,0,none⟩) k=true->Z1 k=true:=fun k E=>by rw[<-g1];exact a0u E
  have u4:Z1 g=true:=l2 g (by simp[ob]);have A4:Hid (∀k,k<z.heap.size->Z1 k=true->N k=true):=hid fun k E h=>by
   rw[<-g1]at h;by_cases h0:N k=true
   ·exact h0
   ·have:g=k:=by simpa[un,h0,ob]using h
    omega
  have A0:Hid (∀k,X k=true->Z1 k=true):=hid fun k E=>by rw[<-g1];exact a0m (A1.out k E)
  have A7:Hid (∀k,ob (some ⟨b,0,none⟩) k=true->Z1 k=true):=hid fun k E=>by rw[<-g1];exact a0m (I0.out k E)
  have p8:HX Z1 wc:=fun k E=>by
   rw[<-g1]at E;by_cases h0:N k=true
   ·exact z7.ext s8 k h0
   ·have:g=k:=by simpa[un,h0,ob]using E
    omega
  have I6:ob co g=false:=by
   cases hq:ob co g
   ·rfl
   ·have:=(a0P (i0.1 g hq)).1;rw[u4]at this;cases this
  have J2:ob lo g=false:=by
   cases hq:ob lo g
   ·rfl
   ·have:=(a0P (i3.1 g hq)).1;rw[u4]at this;cases this
  have C5:Hd co c:=by have:=i0.hd;rwa[List.length_replicate]at this
  have C6:Hd lo n:=by have:=i3.hd;rwa[List.length_replicate]at this
  have k9:z.drew.heap.size=z.heap.size:=rfl;rw[k9]at i0 i3;have C7:Hd uo c:=by have:=Q.hd;rwa[p3.out]at this
  have d2:=hid fun j (hj:j<us.length) wr (h:Ext z wr)=>h.cell (a1V (Q.bl j hj));have iu:∀j,j<c->∀W,(Instr.indexAt 96 (.slice uo c uc) (.int .i64 (j:Int))).run Tryz.prog W=.ok (.pointer (some (adr uo j))) W:=fun j hj=>a0z a8T uo c uc .i64 j C7 hj rfl;have v9:=hid iu;have p7:FS Z1 z.heap.size g uo uc c n co lo (rkN us 0) (List.replicate c 0) (List.replicate n 0) wc:=⟨bg,i0,i3⟩;clear i0 i3 bg c2 d9 g1 k9 iu;go_wp2_with fail
  go_loopw [10] (fun kv wr=>∃j:Nat,kv=.int .i64 j/\j<=c/\FS Z1 z.heap.size g uo uc c n co lo (rkN us j) (List.replicate c 0) (List.replicate n 0) wr/\HX Z1 wr/\Ext z wr) (fun kv _=>c - (intOf kv).toNat)
  case atStart=>exact⟨0,rfl,Nat.zero_le _,p7,p8,s8⟩
  case round=>
   clear p7 p8 s8 C3;obtain⟨j,rfl,hj,⟨bx,d8,e0⟩,n3,g0⟩:=hrel;by_cases D2:j<c
   ·have D1:j<us.length:=by rw[p3.out];exact D2
    have kb:=d2.out j D1 wr g0;have a9:Hid (us.getD j false=us[j]):=hid (by simp[List.getD_eq_getElem?_getD,D1]);obtain⟨b1,k5⟩:=zA (us[j]);rw[k5]at kb a9;have iu:=v9.out j D2;have h7:=b6J us j;have p0:=bx.cell 0 rfl;clear k5;cases b1
    ·have l8:=hid (b6I a9.out)
     clear a9;rw[<-l8.out]at bx;clear l8;go_wp2_with fail
     go_roundw
     case rel=>exact⟨j+1,by go_num,by omega,⟨bx,d8,e0⟩,n3,g0⟩
     case measure=>simp[intOf];omega
    ·have f7:=hid (b4d a9.out)
     obtain⟨r,hr⟩:=zA (rkN us j);rw[hr]at f7 h7 bx p0;clear a9 hr;go_wp2_with ((show wpList _ _ _ (⟨_,.store _ _ _,_,_,_,_⟩::_) _ _);refine a1E (v:= .int .i64 _) b8S rfl rfl rfl rfl bx (by simp) ?_;intro w5 v5 x5)
     have j2:Ext z w5:=ExtX.box g0 x5 S;have j8:HX Z1 w5:=fun q hq=>c1C (n3 q hq) x5.size;have G8:=d8.ext QC.elem (Z:=un Z1 lo) x5 (fun q _ hq=>a0m (l2 q hq)) (fun _ _ h=>h);have H4:=e0.ext QC.elem (Z:=un Z1 co) x5 (fun q _ hq=>a0m (l2 q hq)) (fun _ _ h=>h);have v6:Bx w5 g #[.int .i64 ((rkN us (j+1):Nat):Int),.slice uo c uc,.slice co c c,.slice none 0 0,.bool false,.slice none 0 0,.slice none 0 0,.slice lo n n] 98:=by
      rw[f7.out];simpa using v5
     clear p0 v5;go_roundw
     case rel=>exact⟨j+1,by go_num,by omega,⟨v6,G8,H4⟩,j8,j2⟩
     case measure=>simp[intOf];omega
   ·have J0:j=c:=by omega
    subst J0;rw[g9.out]at bx;have A3:HX (un Z1 co) wr:=a3f n3 fun k E=>(d8.block E).2;have j7:HX (un (un Z1 co) lo) wr:=a3f A3 fun k E=>(e0.block E).2;have q9:∀k,k<z.heap.size->ob co k=false:=fun k E=>d8.ob_lt E;have r1:∀k,k<z.heap.size->ob lo k=false:=fun k E=>e0.ob_lt E;obtain⟨Z2,f0⟩:=zA (un (un Z1 co) lo);rw[f0]at j7;have a4:Z2 g=true:=by rw[<-f0];exact a0m (a0m u4)
    have I5:∀k,ob co k=true->Z2 k=true:=fun k E=>by rw[<-f0];exact a0m (a0u E)
    have J1:∀k,ob lo k=true->Z2 k=true:=fun k E=>by rw[<-f0];exact a0u E
    have A5:∀k,k<z.heap.size->Z2 k=true->N k=true:=fun k E h=>by
     rw[<-f0]at h;refine A4.out k E ?_;cases h0:Z1 k
     ·simp[un,h0,q9 k E,r1 k E]at h
     ·rfl
    have t6:=hid fun v (h:Ext z v)=>(b7Q h A5:Le (mk N z) (mk Z2 v));have F1:=hid fun v (h:Ext z v)=>MV.mono _ _ _ _ (t6.out v h) (v8.out z f9);have E6:=hid fun v (h:Ext z v)=>RV.mono _ _ _ _ (t6.out v h) (E5.out z f9);have s0:=hid fun v (h:Ext z v)=>Q.mono BlR.mono (t6.out v h);have m0:=hid fun v (h:Ext z v) (hZ:HX Z2 v)=>l9.out Z2 v uo uc hZ (F1.out v h) (s0.out v h);have K6:=g0;clear l9 g9;have p0:=bx.cell 0 rfl
    go_upto_if 62 with fail
    go_cut []from 60 to 138 (fun wx=>FS Z1 z.heap.size g uo uc j n co lo m Cf L wx/\HX Z2 wx/\Ext z wx)
    case first=>
     by_cases l7:m=0
     ·have B6:=l1.out l7
      have D3:=i8.out l7;rw[<-B6]at d8;rw[<-D3]at e0;subst l7;go_wp2_with fail
      go_meet
      case rel=>exact⟨⟨bx,d8,e0⟩,j7,g0⟩
     ·have d7:1<=m:=Nat.one_le_iff_ne_zero.2 l7
      clear l1 i8 l7;have K8:0<m:=d7;have L0:decide ((0:Int)<(m:Int))=true:=decide_eq_true (by omega);go_wp2_with fail
      refine(m0.out wr g0 j7).mono ?_;rintro ee w2 ⟨e2,u2,rfl,p2⟩;have i5:=j7.ext e2;have x8:=g0.trans e2;clear p0 m0;go_wp2_with fail
      refine(p1.out d7 Z2 w2 u2 i5 p2).mono ?_;rintro ee w3 ⟨e3,tv,rfl,v7⟩;have t2:=i5.ext e3;have x9:=x8.trans e3;have E9:=mkx MC.mono p2 e3;go_wp2_with fail
      refine(i9.out d7 Z2 w3 tv u2 t2 v7 E9).mono ?_;rintro ee w4 ⟨e4,gv,rfl,C4⟩;have j8:=t2.ext e4;have y0:=x9.trans e4;go_wp2_with fail
      refine(f2.out d7 Z2 w4 gv j8 C4).mono ?_;rintro ee w5 ⟨e5,J4⟩;rcases J4 with⟨A8,_⟩|⟨_,iv,rfl,D0⟩
      ·exact absurd A8 (o6.out d7)
      have t3:=j8.ext e5;have j2:=y0.trans e5;have E4:=mkx MC.mono v7 (e4.trans e5);go_wp2_with fail
      refine(c7.out d7 Z2 w5 tv t3 E4 (E6.out w5 j2)).mono ?_;rintro ee w6 ⟨e6,xy,rfl,G0⟩;have t4:=t3.ext e6;have y3:=j2.trans e6;have u5:=mkx MC.mono D0 e6;go_wp2_with fail
      refine(f1.out d7 Z2 w6 iv xy V t4 u5 G0 g6.out g5.out).mono ?_;rintro ee w7 ⟨e7,bv,rfl,B2⟩;rw[<-k8.out]at B2;have H7:=t4.ext e7;have H1:=y3.trans e7;have I9:=mkx MC.mono u5 e7;have m8:=e2.trans (e3.trans (e4.trans (e5.trans (e6.trans e7))));have F0:=mkx MC.mono p2 (e3.trans (e4.trans (e5.trans (e6.trans e7))));have w0:=bx.ext0 m8;have s4:=d8.ext0 QC.elem m8;have y8:=e0.ext0 QC.elem m8;obtain⟨bo,bc,rfl,I2,t7⟩:=B2;rw[c9.out]at I2 |-;have l5:Hd bo m:=by have:=t7.hd;rw[c9.out]at this;exact this
      have F5:=hid F0;obtain⟨po,pc,rfl,J5,D7⟩:=F0;rw[t1.out]at F5 J5 |-;have I8:Hd po n:=by have:=D7.hd;rw[t1.out]at this;exact this
      have C0:Hid (a2M Cf 0=List.replicate j 0):=hid (by rw[a5D,i6.out]);have B9:Hid (a2M L 0=List.replicate n 0):=hid (by rw[a5D,i4.out]);rw[<-C0.out]at s4;clear v7 C4 D0 G0 E4 u5 p2 E9 c7 i9 p1 f2 o6 bx d8 e0 A3 q9 r1 e2 e3 e4 e5 e6 e7 m8 j7 i5 t2 j8 t3 t4 n3 x8 x9 y0 j2 y3;go_wp2_with fail
      go_loopw [22,23] (fun av jv wz=>∃q:Nat,jv=.int .i64 q/\av=.int .i64 (rkN us q:Int)/\q<=j/\FS Z1 z.heap.size g uo uc j n co lo m (a2M Cf q) (List.replicate n 0) wz/\HX Z2 wz/\ExtX Z2 w7 wz/\Ext z wz) (fun _ jv _=>j - (intOf jv).toNat)
      case atStart=>exact⟨0,rfl,rfl,Nat.zero_le _,⟨w0,s4,y8⟩,H7,ExtX.refl _,H1⟩
      case round=>
       clear w0 s4 y8;obtain⟨q,rfl,rfl,hq,⟨bx,hC,hL⟩,c3,b7,a2⟩:=hrel;by_cases l6:q<j
       ·have D8:q<us.length:=by rw[p3.out];exact l6
        have o7:q<Cf.length:=by rw[i6.out];exact l6
        have kb:=d2.out q D8 wr a2;have a9:Hid (us.getD q false=us[q]):=hid (by simp[List.getD_eq_getElem?_getD,D8]);obtain⟨b1,k5⟩:=zA (us[q]);rw[k5]at kb a9;have iu:=v9.out q l6;have h7:=b6J us q;obtain⟨k3,k4⟩:=a3.out q l6 o7;clear k5;cases b1
        ·have l8:=hid (b6I a9.out)
         have J9:=hid (b1Y o7 (k4 a9.out));clear a9 k3 k4;obtain⟨r,hr⟩:=zA (rkN us q);rw[hr]at l8 h7 |-;rw[<-J9.out]at hC;clear hr;go_wp2_with fail
         go_roundw
         case rel=>exact⟨q+1,by go_num,by rw[l8.out],by omega,⟨bx,hC,hL⟩,c3,b7,a2⟩
         case measure=>simp[intOf];omega
        ·have f7:=hid (b4d a9.out)
         obtain⟨m3,B0⟩:=k3 a9.out;have f6:=hid (a6L o7);have u9:=hid B0;obtain⟨r,hr⟩:=zA (rkN us q);simp only[hr]at f7 h7 m3 u9 |-;have D9:r<m:=by rw[c9.out]at m3;exact m3
         obtain⟨ge,oe,s1,a1,n1,c1,d1,k1,e1,q8,H8,B3,o8⟩:=t7.rat QC.shaped r m3;rw[u9.out]at o8;obtain⟨v,hv⟩:=zA (Cf[q]);rw[hv]at o8 f6;obtain⟨gt,ot,l4⟩:∃gt ot,adr co (q*3)=⟨gt,ot,none⟩:=⟨_,_,rfl⟩;have c4:Ext wr wr.drew:=(ExtX.refl wr).drew;have G3:=bx.ext0 c4;obtain⟨z1,z2,z3⟩:=B3.out Z2 wr b7 H8;have hS:wr.drew.cell? ⟨g,2,none⟩=some (.slice co j j)/\wr.drew.cell? ⟨ge,oe,none⟩=some (.bool s1)/\wr.drew.cell? ⟨ge,oe+1,none⟩=some (.slice a1 n1 c1)/\wr.drew.cell? ⟨ge,oe+2,none⟩=some (.slice d1 k1 e1):=⟨G3.cell 2 rfl,c4.cell z1,c4.cell z2,c4.cell z3⟩;have i1:∀W,(Instr.indexAt 26 (.slice bo m bc) (.int .i64 (r:Int))).run Tryz.prog W=.ok (.pointer (some ⟨ge,oe,none⟩)) W:=by rw[<-q8];exact a0d a0w bo m bc .i64 r l5 D9
         have i2:∀W,(Instr.indexAt 26 (.slice co j j) (.int .i64 (q:Int))).run Tryz.prog W=.ok (.pointer (some ⟨gt,ot,none⟩)) W:=by rw[<-l4];exact a0d a0w co j j .i64 q C5 l6
         have F3:QC (mk (un (un Z1 lo) co) wr.drew) (.agg #[.bool s1,.slice a1 n1 c1,.slice d1 k1 e1]) v:=by
          have h9:=mkx QC.mono (QC.mono _ _ _ _ (a0t b7 fun _ h=>h) o8) c4;rw[<-f0,a0R]at h9;rw[a0R]
          first|exact h9|(rw[a0R];exact h9)|(refine QC.mono _ _ _ _ (a1h fun k _ E=>?_) h9;simpa[un,Bool.or_comm,Bool.or_assoc,Bool.or_left_comm]using E)
         have x1:=hC.ext0 QC.elem c4;have u3:q<(a2M Cf q).length:=by rw[a5o (by omega)];exact o7
         clear a9 k3 k4 B0 u9 hr B3 o8 q8 hv z1 z2 z3 m3;go_wp2_with fail
         (try simp only[Act.put])
         refine a0n 8 (fun D=>D.cell? ⟨g,2,none⟩=some (.slice co j j)/\D.cell? ⟨ge,oe,none⟩=some (.bool s1)/\D.cell? ⟨ge,oe+1,none⟩=some (.slice a1 n1 c1)/\D.cell? ⟨ge,oe+2,none⟩=some (.slice d1 k1 e1)) (by kernel_rfl) (by kernel_rfl) hS (fun A f=>?_);refine kt 0 f ?_;refine kt 1 f ?_;refine kt 2 f ?_;refine kt 3 f ?_;refine kt 4 f ?_;refine kt 5 f ?_;refine kt 6 f ?_;refine kt 7 f ?_;refine kl 8 (fun K J=>?_)
         (refine a4z rfl rfl a3A QC.elem q rfl l4 x1 u3 (.agg #[.bool s1,.slice a1 n1 c1,.slice d1 k1 e1]) v rfl F3 ?_;intro w9 n0 a8)
         refine J.out _ _ ?_;clear J K
         (try simp only[Act.put])
         rw[f6.out]at n0;have j5:=(ExtX.of c4).trans a8;have s3:=bx.ext j5 I6;have n2:=hL.ext QC.elem (Z:=un Z1 co) j5 (fun k _ E=>a0u E) (fun _ _ h=>h);have t5:HX Z2 w9:=fun k E=>c1C (c3 k E) j5.size;have j3:=b7.trans (j5.weaken fun k _ E=>by
          cases h0:ob co k
          ·rfl
          ·rw[I5 k h0]at E;cases E)
         have y5:Ext z w9:=a2.then_ j5 fun k E _=>hC.ob_lt E;clear A f hS i1 i2 F3 x1;go_wp2_with fail
         go_roundw
         case rel=>exact⟨q+1,by go_num,by rw[f7.out];go_num,by omega,⟨s3,n0,n2⟩,t5,j3,y5⟩
         case measure=>simp[intOf];omega
       ·have J6:q=j:=by omega
        subst J6;have o0:a2M Cf q=Cf:=by rw[<-i6.out];exact a5E Cf
        rw[o0]at hC;rw[<-B9.out]at hL;clear a3 t7 d2 o0;go_wp2_with fail
        go_loopw [24] (fun iv wz=>∃i:Nat,iv=.int .i64 i/\i<=n/\FS Z1 z.heap.size g uo uc q n co lo m Cf (a2M L i) wz/\HX Z2 wz/\ExtX Z2 w7 wz/\Ext z wz) (fun iv _=>n - (intOf iv).toNat)
        case atStart=>exact⟨0,rfl,Nat.zero_le _,⟨bx,hC,hL⟩,c3,b7,a2⟩
        case round=>
         clear bx hC hL c3 b7 a2;obtain⟨i,rfl,hi,⟨bx,hC,hL⟩,c3,b7,a2⟩:=hrel;by_cases o5:i<n
         ·have u7:i<U.length:=by rw[t1.out];exact o5
          have u6:i<L.length:=by rw[i4.out];exact o5
          obtain⟨ra,rc,A2,t8,B4,J7⟩:=D7.row i u7;have h8:RC (mk Z2 w7) (.slice ra U[i].length rc) U[i]:=⟨ra,rc,rfl,B4,J7⟩;have o9:=hid (c1E u7);have g3:=hid (H6.out U[i] o9.out);have s9:=j6.out i u7 u6;have f6:=hid (a6L u6);rw[g3.out]at t8 h8;obtain⟨row,E3⟩:=zA (U[i]);rw[E3]at h8 g3 s9 o9;rw[s9]at f6;have K5:=t8.out Z2 wr b7 A2;have K7:∀W,(Instr.indexAt 25 (.slice po n pc) (.int .i64 (i:Int))).run Tryz.prog W=.ok (.pointer (some (adr po i))) W:=a0z a0r po n pc .i64 i I8 o5 rfl;have g4:=RC.mono _ _ _ _ (a0t b7 fun _ h=>h) h8;have C9:=MC.mono _ _ _ _ (a0t b7 fun _ h=>h) I9;have A6:=f1.out d7 Z2 wr iv _ row c3 C9 g4 g3.out (m4.out row o9.out);clear E3 s9 C9;go_wp2_with fail
          refine A6.mono ?_;rintro ee w8 ⟨e8,vv,rfl,F6⟩;clear A6;have c4:Ext w8 w8.drew:=(ExtX.refl w8).drew;have f8:=e8.trans c4;have x0:=bx.ext0 f8;have G9:=hC.ext0 QC.elem f8;have H5:=hL.ext0 QC.elem f8;have p9:=c3.ext f8;have p6:ExtX Z2 w7 w8.drew:=b7.trans (ExtX.of f8);have x4:=a2.trans f8;have v4:=mkx RC.mono g4 f8;have F7:=mkx RC.mono F6 c4;have u3:i<(a2M L i).length:=by rw[a5o (by omega)];exact u6
          obtain⟨gt,ot,l4⟩:∃gt ot,adr lo (i*3)=⟨gt,ot,none⟩:=⟨_,_,rfl⟩;have i2:∀W,(Instr.indexAt 26 (.slice lo n n) (.int .i64 (i:Int))).run Tryz.prog W=.ok (.pointer (some ⟨gt,ot,none⟩)) W:=by rw[<-l4];exact a0d a0w lo n n .i64 i C6 o5
          have hS:Hid (∀D,Ext w8.drew D->D.cell? ⟨g,7,none⟩=some (.slice lo n n)/\D.cell? (adr po i)=some (.slice ra m rc)):=hid fun D h=>⟨(x0.ext0 h).cell 7 rfl,t8.out Z2 D (p6.trans (ExtX.of h)) A2⟩;have B8:=g7.out Z2 w8.drew _ vv row p9 o9.out v4 F7;clear K5 g4 h8 F6 bx hC hL c3 b7 a2;go_wp2_with fail
          (try simp only[Act.put])
          refine a0n 10 (fun D=>D.cell? ⟨g,7,none⟩=some (.slice lo n n)/\D.cell? (adr po i)=some (.slice ra m rc)) (by kernel_rfl) (by kernel_rfl) (hS.out _ (ExtX.refl _)) (fun A f=>?_);refine kt 0 f ?_;refine kt 1 f ?_;refine kt 2 f ?_;refine kt 3 f ?_;refine kt 4 f ?_;refine kt 5 f ?_;refine kt 6 f ?_;refine kt 7 f ?_;refine ks 8 (fun K J=>?_);go_simp
          ((with_reducible refine B8.mono ?_);rintro ee w9 ⟨e9,dv,rfl,g2⟩)
          refine kcn J (hS.out _ e9) (fun A=>?_);clear J K;obtain⟨s6,a6,n6,c6,d6,k6,e6,rfl⟩:=g2.shape;have n2:=H5.ext0 QC.elem e9;have n0:=G9.ext0 QC.elem e9;have s3:=x0.ext0 e9;have x7:=x4.trans e9;have j3:ExtX Z2 w7 w9:=p6.trans (ExtX.of e9);have t5:=p9.ext e9;have g8:QC (mk (un (un Z1 co) lo) w9) (.agg #[.bool s6,.slice a6 n6 c6,.slice d6 k6 e6]) (a2u row (a2v I row)):=by rw[f0];exact g2
          refine kt 9 f ?_;refine kl 10 (fun K J=>?_)
          (refine a4z rfl rfl a3A QC.elem i rfl l4 n2 u3 (.agg #[.bool s6,.slice a6 n6 c6,.slice d6 k6 e6]) _ rfl g8 ?_;intro wq y9 j4)
          refine J.out _ _ ?_;clear J K
          (try simp only[Act.put])
          rw[f6.out]at y9;have G4:=s3.ext j4 J2;have H0:=n0.ext QC.elem (Z:=un Z1 lo) j4 (fun k _ E=>a0u E) (fun _ _ h=>h);have H9:HX Z2 wq:=fun k E=>c1C (t5 k E) j4.size;have y4:=j3.trans (j4.weaken fun k _ E=>by
           cases h0:ob lo k
           ·rfl
           ·rw[J1 k h0]at E;cases E)
          have y6:Ext z wq:=x7.then_ j4 fun k E _=>n2.ob_lt E;clear A f hS i2 B8 g2 g8;go_wp2_with fail
          go_roundw
          case rel=>exact⟨i+1,by go_num,by omega,⟨G4,H0,y9⟩,H9,y4,y6⟩
          case measure=>simp[intOf];omega
         ·have f2:i=n:=by omega
          subst f2;have o0:a2M L i=L:=by rw[<-i4.out];exact a5E L
          rw[o0]at hL;go_wp2_with fail
          go_meet
          case rel=>exact⟨⟨bx,hC,hL⟩,c3,a2⟩
    case rest=>
     obtain⟨⟨bx,hC,hL⟩,c3,a2⟩:=hcut;clear m0 l1 i8 a3 c7 f1 i9 p1 f2 o6 g7 o4 m4 j6 d2 v9 p0;obtain⟨Z3,k0⟩:=zA (un Z1 lo);obtain⟨Z4,n5⟩:=zA (un Z1 co);have m9:∀k,Z3 k=true->Z2 k=true:=fun k E=>by
      rw[<-k0]at E;rw[<-f0];rcases(by simpa[un]using E:Z1 k=true\/ob lo k=true)with h|h
      ·exact a0m (a0m h)
      ·exact a0u h
     have o1:∀k,ob (some ⟨g,0,none⟩) k=true->Z3 k=true:=fun k E=>by rw[<-k0];exact a0m (l2 k E)
     have C1:∀k,ob (some ⟨g,0,none⟩) k=true->Z4 k=true:=fun k E=>by rw[<-n5];exact a0m (l2 k E)
     have i5:HX Z3 wc:=fun k E=>c3 k (m9 k E);have s5:=hC.sl QC.elem;have t0:=hL.sl QC.elem;rw[k0]at s5;rw[n5]at t0;have B5:RC (mk Z3 wc) (.slice co j j) Cf:=⟨co,j,by rw[i6.out],by rw[i6.out];exact c1B _,s5⟩;have J3:RC (mk Z4 wc) (.slice lo n n) L:=⟨lo,n,by rw[i4.out],by rw[i4.out];exact c1B _,t0⟩;have K4:=MV.mono _ _ _ _ (a1h fun k _ E=>m9 k E) (F1.out wc a2);have K1:=RV.mono _ _ _ _ (a1h fun k _ E=>m9 k E) (E6.out wc a2);have F4:=(s0.out wc a2).mono BlR.mono (a1h (X:=Z3) fun k _ E=>m9 k E);have A9:b≠g:=by have:=f9.size;omega
     have F9:w.heap.size<=g:=by have:=f9.size;omega
     have q2:=bx.cell 2 rfl;clear s5 t0 hC hL;go_wp2_with fail
     refine(j0.out Z3 wc _ i5 K4 K1 B5).mono ?_;rintro ee w2 ⟨e2,rv,rfl,E1⟩;have m5:=hid E1;obtain⟨ro,rc,rfl,J8,E0⟩:=E1;rw[g3.out]at m5 J8 |-;have G1:=bx.ext0 e2;have b2:=b0.ext0 (f9.trans (a2.trans e2));have z8:=i5.ext e2;clear q2 E0 bx j0;go_wp2_with ((show wpList _ _ _ (⟨_,.store _ _ _,_,_,_,_⟩::_) _ _);refine a1E (v:= .slice ro n rc) a8R rfl rfl rfl rfl G1 (by simp) ?_;intro w3 v3 x3;have q3:=v3.cell 3 rfl)
     have z9:HX Z3 w3:=fun k E=>c1C (z8 k E) x3.size;have b3:=b2.ext x3 (a0b A9);have E2:=RC.mono _ _ _ _ (a0t x3 o1) m5.out;have B7:=u1.out Z3 w3 _ z9 E2;refine B7.mono ?_;rintro ee w4 ⟨e4,dv,rfl,g2⟩;have g8:=hid g2;obtain⟨s',a',n',c',d',k',e',rfl⟩:=g2.shape;have G2:=v3.ext0 e4;have b4:=b3.ext0 e4;have K9:b<w4.heap.size:=a1N (b4.cell 0 rfl);clear q3 B7 v3 g2 b0 b2 b3;go_wp2_with ((show wpList _ _ _ (⟨_,.store _ _ _,_,_,_,_⟩::_) _ _);first|(refine a0a a2m rfl rfl bb rfl rfl (by intro v hv;simp at hv;rcases hv with rfl|rfl|rfl|rfl|rfl|rfl|rfl|rfl<;>rfl) ?_;intro w6 v6 x6)|(refine a6M a0p rfl rfl G2 (by simp) rfl (by intro v hv;simp at hv;rcases hv with rfl|rfl|rfl<;>rfl) ?_;intro w5 v5 x5;have bb:=b4.ext x5 (a0b A9);have q0:=v5.cell 0 rfl;have q1:=v5.cell 1 rfl;have q2:=v5.cell 2 rfl;have q3:=v5.cell 3 rfl;have q4:=v5.cell 4 rfl;have q5:=v5.cell 5 rfl;have q6:=v5.cell 6 rfl;have q7:=v5.cell 7 rfl))
     have H3:Ext w w5:=ExtX.box ((ExtX.box (hE.trans (f9.trans (a2.trans e2))) x3 F9).trans e4) x5 F9;have n9:Le (mk Z3 w5) (mk X w6):=a4e x6 (fun k E=>by rw[<-k0];exact a0m (A7.out k E)) (fun k E=>by rw[<-k0];exact a0m (A0.out k E));have I7:Le (mk Z4 w5) (mk X w6):=a4e x6 (fun k E=>by rw[<-n5];exact a0m (A7.out k E)) (fun k E=>by rw[<-n5];exact a0m (A0.out k E));have D4:Le (mk Z3 w3) (mk Z3 w5):=(a0l e4).trans (a0t x5 o1);have r2:Le (mk Z3 w2) (mk Z3 w5):=(a0t x3 o1).trans D4;have D5:Le (mk Z4 wc) (mk Z4 w5):=(a0l e2).trans ((a0t x3 C1).trans ((a0l e4).trans (a0t x5 C1)));have r3:Le (mk Z3 wc) (mk Z3 w5):=(a0l e2).trans r2;exact bodyPost_ret (a0J rfl rfl a2m v6 rfl) rfl (b6.out _ _ _ _ _ _ _ _ _ _ _ _ _ _ _ _ (ExtX.box H3 x6 I3) K3 (F4.mono BlR.mono (r3.trans n9)) (RC.mono _ _ _ _ (r3.trans n9) B5) (RC.mono _ _ _ _ (r2.trans n9) m5.out) (QC.mono _ _ _ _ ((a0t x5 o1).trans n9) g8.out) (RC.mono _ _ _ _ (D5.trans I7) J3))
theorem b1Z(X:Nat->Bool)(w:World)(u v:Value)(l m:List Rat)(hX:HX X w)(hu:RV (mk X w) u l)(hv:RV (mk X w) v m)(hn:l.length<=1000000)(q:m.length=l.length)(A:∀k,k<=l.length->hq (a2W l m k)<=68719476736)(B:∀k,k<l.length->hq (l.getD k 0*m.getD k 0)<=68719476736):Calls Tryz.prog 47 #[u,v] w (a1S X w QC (a2u l m)):=by
 obtain⟨ao,ca,rfl,c2,a4⟩:=hu;obtain⟨bo,cb,rfl,c3,a5⟩:=hv;have T:=a4.hd;have U:=a5.hd;obtain⟨W,hW,hE,G,t,hz⟩:=a1w w #[.bool false,.slice none 0 0,.slice none 0 0] #[.bool false,.slice none 0 0,.slice none 0 0] 41 41;have J:HX (a0f X w.heap.size 2) W:=hX.boxes hz;have h0:QC (mk (a0f X w.heap.size 2) W) (.agg #[.bool false,.slice none 0 0,.slice none 0 0]) (a2W l m 0):=QC.zero _;obtain⟨n,p⟩:=zA l.length;rw[p]at hn q A B c2 T |-;rw[q]at c3 U |-;have a0:=hid p;have a1:=hid q;have L:=hid A;have M:=hid B;have Q:Hid (a2W l m n=a2u l m):=hid (by unfold a2u;rw[p]);clear p q A B;go_enter Tryz.func47,Tryz.ntmps47
 go_wp2_with fail
 obtain⟨b,hb⟩:=zA w.heap.size;have Z:Hid (∀wr,Ext w wr->Le (mk X w) (mk (a0f X b 2) wr)):=hid fun wr h=>by rw[<-hb];exact a0j h
 have f3:w.heap.size<=b:=by omega
 rw[hb]at G t J h0 |-;clear hW;go_loopw [9] (fun k wr=>∃(i:Nat) (s:Bool) (a:Option Addr) (n' c':Nat) (d:Option Addr) (kk e:Nat),k=.int .i64 i/\i<=n/\Bx wr b #[.bool false,.slice none 0 0,.slice none 0 0] 41/\Bx wr (b+1) #[.bool s,.slice a n' c',.slice d kk e] 41/\QC (mk (a0f X b 2) wr) (.agg #[.bool s,.slice a n' c',.slice d kk e]) (a2W l m i)/\HX (a0f X b 2) wr/\Ext w wr) (fun k _=>n - (intOf k).toNat)
 case atStart=>exact⟨0,_,_,_,_,_,_,_,rfl,Nat.zero_le _,G,t,h0,J,hE⟩
 case round=>
  obtain⟨i,s,a,n',c',d,kk,e,rfl,hi,G,t,hq,c1,o⟩:=hrel;by_cases E:i<n
  ·have V:i<l.length:=by rw[a0.out];exact E
   have Y:i<m.length:=by rw[a1.out];exact E
   have d0:=a4.mono QV.mono (Z.out wr o);have a8:=a5.mono QV.mono (Z.out wr o);obtain⟨g1,o1,s1,p1,n1,q1,d1,k1,e1,R,e8,O,a2⟩:=d0.rat QV.shaped i V;obtain⟨g2,o2,s2,p2,n2,q2,d2,k2,e2,S,e9,P,a3⟩:=a8.rat QV.shaped i Y;have gl:Hid (l.getD i 0=l[i]):=hid (by simp[List.getD_eq_getElem?_getD,V]);have gm:Hid (m.getD i 0=m[i]):=hid (by simp[List.getD_eq_getElem?_getD,Y]);have r:Hid (a2W l m i+l[i]*m[i]=a2W l m (i+1)):=hid (by rw[<-gl.out,<-gm.out];rfl);have N:=hid (L.out i hi);have C:=hid (M.out i E);rw[gl.out,gm.out]at C;obtain⟨x,hx⟩:=zA (l[i]);obtain⟨y,hy⟩:=zA (m[i]);rw[hx,hy]at r C;rw[hx]at a2;rw[hy]at a3;have i1:∀W,(Instr.indexAt 26 (.slice ao n ca) (.int .i64 (i:Int))).run Tryz.prog W=.ok (.pointer (some ⟨g1,o1,none⟩)) W:=by rw[<-R];exact a0d a0w ao n ca .i64 i T (by omega)
   have i2:∀W,(Instr.indexAt 26 (.slice bo n cb) (.int .i64 (i:Int))).run Tryz.prog W=.ok (.pointer (some ⟨g2,o2,none⟩)) W:=by rw[<-S];exact a0d a0w bo n cb .i64 i U (by omega)
   obtain⟨D,hD⟩:=zA (a2W l m i);obtain⟨D2,z⟩:=zA (a2W l m (i+1));rw[hD]at hq r N;rw[z]at r;have H:=hid z;clear hx hy R S hD z;have c:Ext wr wr.drew:=(ExtX.refl wr).drew;have b5:=G.ext0 c;have g:=t.ext0 c;have b2:=g.cell 0 rfl;have b3:=g.cell 1 rfl;have b4:=g.cell 2 rfl;obtain⟨d5,d8,d9⟩:=O.out noY wr.drew c rfl;obtain⟨e0,e3,e4⟩:=P.out noY wr.drew c rfl;have K:=c1.ext c;have d3:QV (mk (a0f X b 2) wr.drew) (.agg #[.bool s1,.slice p1 n1 q1,.slice d1 k1 e1]) x:=mkx QV.mono a2 c;have d4:QV (mk (a0f X b 2) wr.drew) (.agg #[.bool s2,.slice p2 n2 q2,.slice d2 k2 e2]) y:=mkx QV.mono a3 c;have c8:QV (mk (a0f X b 2) wr.drew) (.agg #[.bool s,.slice a n' c',.slice d kk e]) D:=(mkx QC.mono hq c).qv N.out;clear O P;go_wp2_with fail
   go_region_with (first|(go_at_call 49;(with_reducible refine(a9x (a0f X b 2) wr.drew _ _ _ _ K d3 d4).mono ?_);rintro ee w6 ⟨t1,u6,rfl,a9⟩;obtain⟨s6,a6,n6,c6,d6,k6,e6,rfl⟩:=a9.shape;have I:=K.ext t1;have c9:=mkx QV.mono c8 t1;have c5:=a9.qv C.out;have j:=g.ext0 t1;have m0:=j.cell 0 rfl;have m1:=j.cell 1 rfl;have m2:=j.cell 2 rfl)|(go_at_call 48;(with_reducible refine(b2T (a0f X b 2) w6 _ _ _ _ I c9 c5).mono ?_);rintro ee w7 ⟨t7,u7,rfl,F⟩;obtain⟨s7,a7,n7,c7,d7,k7,e7,rfl⟩:=F.shape;rw[r.out]at F;have f:=j.ext0 t7;have g0:=f.cell 0 rfl;have b7:=f.cell 1 rfl;have b8:=f.cell 2 rfl;have f0:=f.frozen 0;have f1:=f.frozen 1;have f2:=f.frozen 2))
   all_goals
    obtain⟨z1,z2⟩:=f.set3 (.bool s7) (.slice a7 n7 c7) (.slice d7 k7 e7);have h8:=QC.mono _ _ _ _ (a0h (lo:=b) (nb:=2) z2 (by omega) (by omega)) F;have b6:=((b5.ext0 t1).ext0 t7).ext z2 (a0b (by omega));have b9:Ext w _:=ExtX.box (o.trans (c.trans (t1.trans t7))) z2 (by omega);have c0:=(I.ext t7).ext z2;rw[<-H.out]at h8;clear b2 b3 b4 d5 d8 d9 e0 e3 e4 m0 m1 m2 g0 b7 b8 f0 f1 f2 i1 i2;go_wp2_with fail
    go_roundw
    case rel=>exact⟨i+1,_,_,_,_,_,_,_,by go_num,by omega,b6,z1,h8,c0,b9⟩
    case measure=>simp[intOf];omega
  ·have c4:i=n:=by omega
   subst c4;rw[Q.out]at hq;have b2:=t.cell 0 rfl;have b3:=t.cell 1 rfl;have b4:=t.cell 2 rfl;go_wp2_with ((with_reducible show wpList _ _ _ (⟨_,.store _ _ _,_,_,_,_⟩::_) _ _);refine a0a a0p rfl rfl G rfl rfl (a1z _ _ _ _ _ _ _) ?_;intro w7 r1 r2)
   have h7:=QC.mono _ _ _ _ a0k (QC.mono _ _ _ _ (a0h r2 (by omega) (by omega)) hq);exact bodyPost_ret (a0e rfl rfl a0p r1 rfl) rfl ⟨ExtX.box o r2 (by omega),_,rfl,h7⟩
theorem b5Z(X:Nat->Bool)(w:World)(u v:Value)(l m:List Rat)(hX:HX X w)(hu:RV (mk X w) u l)(hv:RV (mk X w) v m)(hl:l.length<=1000000)(b7:m.length=l.length):Calls Tryz.prog 79 #[u,v] w (a1S X w RC (List.zipWith (· - ·) l m)):=by
 obtain⟨ao,ca,rfl,e0,M⟩:=hu;have b2:=M.hd;obtain⟨Z,cb,rfl,e3,N⟩:=hv;have b3:=N.hd;have d7:m.length<=l.length:=by omega
 have d8:l.length<=m.length:=by omega
 obtain⟨L,S⟩:=zA (List.zipWith (· - ·) l m);have t:L.length=l.length:=by rw[<-S];simp;omega
 have a4:=hid (show∀i (hi:i<l.length) (F:i<m.length) (b4:i<L.length),L[i]=l[i] - m[i]from fun i hi F b4=>by subst S;simp);rw[S];have d4:L.length<=l.length:=by omega
 have d5:l.length<=L.length:=by omega
 have x:=hid t;clear S b7 t;go_enter Tryz.func79,Tryz.ntmps79
 go_wp2_with fail
 go_loopw [5,9] (fun o cc wr=>∃(i:Nat) (b:Option Addr) (R:Nat),cc=.int .i64 i/\o=.slice b i R/\i<=l.length/\OL QC 3 X w.heap.size 41 wr b R (L.take i)/\Ext w wr) (fun _ cc _=>l.length - (intOf cc).toNat)
 case atStart=>exact⟨0,none,0,rfl,rfl,Nat.zero_le _,OL.nil _ _ _ _ _ _,ExtX.refl _⟩
 case round=>
  obtain⟨i,b,R,rfl,rfl,hi,g,q⟩:=hrel;have A:HX X wr:=hX.ext q;have b0:HX (un X b) wr:=g.unX A;have b1:=q.size;by_cases G:i<l.length
  ·have b8:Sl QV 3 (mk (un X b) wr) ao l:=M.old QV.mono q (fun j F=>g.ob_lt F)
   have e:i<L.length:=by omega
   have P:=hid (a0L L i e);have b6:=hid (a0Q (l:=L) (i:=i) (by omega));have f:i<m.length:=by omega
   have O:Sl QV 3 (mk (un X b) wr) Z m:=N.old QV.mono q (fun j F=>g.ob_lt F);obtain⟨d,n,s2,V,n2,c2,d2,k2,e2,E,a7,C,K⟩:=O.rat QV.shaped i f;obtain⟨c,k,s1,U,n1,c1,d1,k1,e1,D,a5,B,J⟩:=b8.rat QV.shaped i G;have H:=(a0P a5).2;have I:=(a0P a7).2;have i2:∀W,(Instr.indexAt 26 (.slice Z m.length cb) (.int .i64 (i:Int))).run Tryz.prog W=.ok (.pointer (some ⟨d,n,none⟩)) W:=by rw[<-E];exact a0d a0w Z m.length cb .i64 i b3 (by omega)
   have i1:∀W,(Instr.indexAt 26 (.slice ao l.length ca) (.int .i64 (i:Int))).run Tryz.prog W=.ok (.pointer (some ⟨c,k,none⟩)) W:=by rw[<-D];exact a0d a0w ao l.length ca .i64 i b2 (by omega)
   have a:Ext wr wr.drew:=(ExtX.refl wr).drew;have T:Hid (∀Y W',ExtX Y wr.drew W'->Y c=false->Y d=false->W'.cell? ⟨c,k,none⟩=some (.bool s1)/\W'.cell? ⟨c,k+1,none⟩=some (.slice U n1 c1)/\W'.cell? ⟨c,k+2,none⟩=some (.slice d1 k1 e1)/\W'.cell? ⟨d,n,none⟩=some (.bool s2)/\W'.cell? ⟨d,n+1,none⟩=some (.slice V n2 c2)/\W'.cell? ⟨d,n+2,none⟩=some (.slice d2 k2 e2)):=hid fun Y W' h hg hb=>by
    have p1:=B.out Y W' ((ExtX.of a).trans h) hg;have p2:=C.out Y W' ((ExtX.of a).trans h) hb;exact⟨p1.1,p1.2.1,p1.2.2,p2.1,p2.2.1,p2.2.2⟩
   obtain⟨c4,c5,c7,c8,c9,d0⟩:=T.out noY wr.drew (ExtX.refl _) rfl rfl;have c0:QV (mk (un X b) wr.drew) (.agg #[.bool s1,.slice U n1 c1,.slice d1 k1 e1]) l[i]:=J;have b9:QV (mk (un X b) wr.drew) (.agg #[.bool s2,.slice V n2 c2,.slice d2 k2 e2]) m[i]:=K;have a9:HX (un X b) wr.drew:=b0;have c3:=a4.out i G f e;rw[c3]at P;clear B D J C E K;go_wp2_with fail
   go_region_held3 (fun r=>r.cell? ⟨c,k,none⟩=some (.bool s1)/\r.cell? ⟨c,k+1,none⟩=some (.slice U n1 c1)/\r.cell? ⟨c,k+2,none⟩=some (.slice d1 k1 e1)/\r.cell? ⟨d,n,none⟩=some (.bool s2)/\r.cell? ⟨d,n+1,none⟩=some (.slice V n2 c2)/\r.cell? ⟨d,n+2,none⟩=some (.slice d2 k2 e2))
    (first|exact T.out noY _ p rfl rfl|exact T.out noY _ (ExtX.alloc p _) rfl rfl|exact T.out (ob b) _ ((ExtX.of p).trans s) H I|go_keep)
    (first|(go_at_call 116;(with_reducible refine(b7B (un X b) wr.drew _ _ _ _ a9 c0 b9).mono ?_);rintro ee w6 ⟨p,u6,rfl,Q⟩;obtain⟨s6,a6,n6,c6,d6,k6,e6,rfl⟩:=Q.shape;have y:=g.ext0 QC.elem (a.trans p);have d9:=(a.trans p).size;have a8:=A.ext (a.trans p))|(refine a1o (l:=L.take i) rfl (by rfl) a0w rfl QC.elem (by omega) a8 i b6.out rfl rfl y (.agg #[.bool s6,.slice a6 n6 c6,.slice d6 k6 e6]) (l[i] - m[i]) rfl Q (by omega) (by omega) ?_;intro d3 a0 w7 z s e4))
   have a3:=(q.trans (a.trans p)).own y (c1B _) s;rw[P.out]at z;clear c4 c5 c7 c8 c9 d0;go_wp2_with fail
   go_roundw
   case rel=>exact⟨i+1,d3,a0,by go_num,by go_num,by omega,z,a3⟩
   case measure=>simp[intOf];omega
  ·have b5:i=l.length:=by omega
   subst b5;rw[c1D (by omega)]at g;have hc:=g.lenCap;have hs:=g.sl QC.elem;go_wp2_with fail
   go_ret
   exact⟨q,_,rfl,b,R,by rw[x.out];rfl,hc,hs⟩
end Go.Proofs.YtnnpfhoigmegcaaGreat
namespace Go.Lin
open Go.Lim Go.Rep
end Go.Lin
namespace Go.Proofs.YtnnpfhoigmegcaaGreat
open Go.RowKit Go.Rep Go.Lim Go.Lin
end Go.Proofs.YtnnpfhoigmegcaaGreat
namespace Go.Lin
open Go.Lim
end Go.Lin
namespace Go.Proofs.YtnnpfhoigmegcaaGreat
open Go.RowKit Go.Rep Go.Lim Go.Lin
end Go.Proofs.YtnnpfhoigmegcaaGreat
namespace Go.Lin
open Go.Lim
end Go.Lin
namespace Go.Proofs.YtnnpfhoigmegcaaGreat
open Go.RowKit Go.Rep Go.Lim Go.Lin
end Go.Proofs.YtnnpfhoigmegcaaGreat
namespace Go.Lin
open Go.Lim Go.Rep
end Go.Lin
namespace Go.Lim
end Go.Lim
namespace Go.Proofs.YtnnpfhoigmegcaaGreat
open Go.RowKit Go.Rep Go.Lim Go.Lin
theorem rof(X:Nat->Bool)(w:World)(v:Int)(n:HX X w)(i: -9223372036854775808<=v)(j:v<=9223372036854775807):Calls Tryz.prog 43 #[.int .i64 v] w (a1S X w QC v):=by
 obtain⟨W,y,m,h,hz⟩:=a1e w #[.bool false,.slice none 0 0,.slice none 0 0] 41;have c:HX (a0f X w.heap.size 1) W:=n.boxes hz;obtain⟨b,o⟩:=zA w.heap.size;have p:w.heap.size<=b:=by omega
 rw[o]at h hz c;have f:=hid i;have g:=hid j;clear i j;go_enter Tryz.func43,Tryz.ntmps43
 go_wp2_with fail
 refine(a3m (a0f X b 1) W v c f.out g.out).mono ?_;rintro u D ⟨a,C,rfl,d⟩;obtain⟨B,r,A,s,t,z,x,rfl⟩:=d.shape;have e:=h.ext0 a;go_wp2_with ((with_reducible show wpList _ _ _ (⟨_,.store _ _ _,_,_,_,_⟩::_) _ _);refine a0a a0p rfl rfl e rfl rfl (a1z _ _ _ _ _ _ _) ?_;intro E q k)
 have l:=QC.mono _ _ _ _ a0k (QC.mono _ _ _ _ (a0h k (by omega) (by omega)) d);exact bodyPost_ret (a0e rfl rfl a0p q rfl) rfl ⟨ExtX.box (m.trans a) k (by omega),_,rfl,l⟩
end Go.Proofs.YtnnpfhoigmegcaaGreat
namespace Go.Lin
open Go.Lim Go.Rep
theorem b2a{d:Int}{F:Fit}{n c:Nat}(h:a5G d F n c=0):d=0/\¬n<=c/\F.rss≠0/\∀i,i<n->1 - fn F.lev i≠0:=by
 unfold a5G at h;by_cases a:d=0
 ·rw[if_neg (by simp[a])]at h
  by_cases b:n<=c\/F.rss=0
  ·rw[if_pos b]at h;exact absurd h (by decide)
  ·rw[if_neg b]at h
   by_cases e:∃i,i<n/\1 - fn F.lev i=0
   ·rw[if_pos e]at h;exact absurd h (by decide)
   ·exact⟨a,fun h=>b (.inl h),fun h=>b (.inr h),fun i g f=>e ⟨i,g,f⟩⟩
 ·rw[if_pos a]at h;exact absurd h a
theorem b0f{a:Int}{F:Fit}{n c:Nat}(h:a=0\/a=7):a5G a F n c=0\/a5G a F n c=7:=by
 unfold a5G;split
 ·exact h
 ·split
  ·exact .inr rfl
  ·split<;>simp
theorem b2c{x:Mat}{y:List Rat}(h:a2n x y=0\/a2n x y=7):b8A x y=0\/b8A x y=7:=by
 unfold b8A;split
 ·exact h
 ·split<;>simp
theorem b1g{x:Mat}{y:List Rat}(h:a4o x y=true):a2n x y=0\/a2n x y=7:=by
 unfold a2n;rw[h,if_neg (by decide)];split<;>simp
end Go.Lin
namespace Go.Proofs.YtnnpfhoigmegcaaGreat
open Go.RowKit Go.Rep Go.Lim Go.Lin
theorem b2d(lo:Option Addr)(l:List Int)(cl:Nat)(w:World)(hl:Sl (a2a .i64) 1 w.cell? lo l)(C9:l.length<=cl)(D2:l.length<=9223372036854775807):Calls Tryz.prog 13 #[.slice lo l.length cl] w (b0B w true):=by
 go_enter Tryz.func13,Tryz.ntmps13
 go_wp2_with fail
 refine(b5p lo l cl w hl C9 D2).mono ?_;rintro e w1 ⟨rfl,c1,q1,z2⟩;obtain⟨tb,z4⟩:=zA w.heap.size;have O:HX (tbm tb) w1:=fun k hk=>by
  have:k=tb:=by simpa[tbm]using hk
  omega
 have l8:=hid (fun w2 (h:ExtX (tbm tb) w1 w2)=>(c1.then_ h fun i hi _=>a5W (by omega):Ext w w2));rw[z4]at q1 |-;clear c1 z2 z4 hl;have p4:=b0a (tbm tb) tb 6 2 w1 q1 O (by decide) (by decide) (by decide) (by decide);rw[show((6:Nat):Int)=6 from rfl,show((2:Nat):Int)=2 from rfl]at p4;go_wp2_with fail
 refine p4.mono ?_;rintro e w2 ⟨b2,z3,vx,vy,x,y,c,rfl,hx,hy,y1,D5,C8,G8,b8,A5,A1,a9⟩;have E:=O.ext b2;obtain⟨n,hn⟩:=zA x.length;have b4:Shp n c x:=⟨hn,b8⟩;rw[hn]at y1 D5 A5;have f2:colsL x=c:=a9i b4 y1;have I:BM 4 x:=fun r hr q hq=>c1A (A1 r hr q hq) (by decide);have f9:a4o x y=true:=a1Q.2 ⟨b2f b4 (by omega) C8 (by omega),by omega,by omega,by omega,by omega⟩;have d7:(4:Nat)<=510/\n*(2*4+1)<=6540:=by omega
 obtain⟨X,C2⟩:=zA (tbm tb);have J:=hid b2;rw[C2]at E hx hy z3;have f4:=c0M X w2 vx vy x y n c 4 E hx hy hn f2 (by omega) (fun _=>⟨by omega,by omega⟩) I a9 (by decide) d7;have h6:=hid fun u (h:Ext w2 u)=>b1S X u vx vy x y n c 4 (E.ext h) (mkx MV.mono hx h) (mkx RV.mono hy h) hn f2 (by omega) (fun _=>⟨by omega,by omega⟩) I a9 (by decide) d7;have h8:=hid fun u (h:Ext w2 u)=>b8u X u vx vy x y n c 4 (E.ext h) (mkx MV.mono hx h) (mkx RV.mono hy h) f9 hn f2 (by omega) (by omega) I a9 (by decide) d7;have p5:=b6C b4 (by omega) (by omega) (by omega) I a9 (by decide) d7;have p1:=b0f (F:=a4q x y n c) (n:=n) (c:=c) (b1g f9);have p3:=b2c (b1g f9);have Z:=hid fun(h:a5G (a2n x y) (a4q x y n c) n c=0)=>(by
  obtain⟨a1,a2,a3,a4⟩:=b2a h;have hp:(a0H x c).2.length=c:=by
   unfold a2n at a1;rw[f9,if_neg (by decide),f2]at a1;by_cases a7:(a0H x c).2.length<c
   ·rw[if_pos a7]at a1;exact absurd a1 (by decide)
   ·have:=a9P b4;omega
  exact⟨by omega,fun i hi=>b5N b4 (by omega) (by omega) hp hi (a4 i hi)⟩:c<n/\∀i,i<n->a9V (a4q x y n c) n c i=sm n (fun r=>a9X x y n c i r*a9X x y n c i r)/a5F (a4q x y n c) n c)
 have E9:=hid fun i r (hi:i<n) (hr:r<n)=>b9L (c:=c) b4 (by omega) (by omega) I a9 hi hr;have h5:=hid fun i (hi:i<n)=>a9W p5 hi (by omega) (c:=c) (by omega);have k9:=hid (a4G (c:=c) (a5e I (by decide)) a9 (by omega) (by omega) d7);have l5:=hid fun i=>a4G (x:=a1c x i) (y:=a1c y i) (n:=n - 1) (c:=c) (a5e (b3P I) (by decide)) (b3O a9) (by omega) (by omega) (by omega);have E8:=hid fun i=>b8h (x:=x) (y:=y) (n:=n) (c:=c) (i:=i);have E5:=hid fun i (h:i<x.length)=>(by simp[List.getD_eq_getElem?_getD,h]:x.getD i []=x[i]);have v3:=hid fun i (h:i<(b1R x y n c).length)=>(by simp[b1R]:(b1R x y n c)[i]=a0D (a1c x i) (a1c y i) (n - 1) c);have P:=hid (show(b1R x y n c).length=n by simp[b1R]);have G:=hid (a8Y (a4q x y n c) n c);have f3:=hid fun i h=>a8Z (a4q x y n c) n c i h;obtain⟨ce,j9⟩:=zA (a5G (a2n x y) (a4q x y n c) n c);obtain⟨de,l4⟩:=zA (b8A x y);rw[j9]at f4 p1 Z;rw[l4]at h6 p3;obtain⟨xo,xc,A2,E4,i5⟩:=id hx;have q4:=hid b8;have D4:=hid hn;rw[hn]at A2 E4;subst A2;obtain⟨a0,c0,B8,o9,u7,D7⟩:=i5.row 0 (by omega);rw[b8 (x[0]'(by omega)) (c1E _)]at o9;have x0:=hid (fun u (h:Ext w2 u)=>o9.out noY u h rfl);have H0:Hd xo n:=by have:=i5.hd;rwa[hn]at this
 have r0:=hid fun(u:World)=>Bx.new u #[.int .i64 0,.slice none 0 0,.slice none 0 0,.slice none 0 0,.bool false,.slice none 0 0,.slice none 0 0,.slice none 0 0] 98;have G3:=hid fun(u:World)=>Bx.new u #[.bool false,.slice none 0 0,.slice none 0 0] 41;obtain⟨F,hF⟩:=zA (a4q x y n c);have c9:Hid (F.coef=a0D x y n c):=hid (by rw[<-hF];rfl);rw[hF]at f4 h8 p5 Z h5 G f3;obtain⟨CL,d9⟩:=zA (a8X F n c);rw[d9]at f4 G f3;obtain⟨DL,r8⟩:=zA (b1R x y n c);rw[r8]at h6 v3 P;clear p4 f9 j9 l4 o9 hF d9 r8 f2 b4 A1 a9 hx hy b2 q1 z3 O B8 u7 D7 b8 hn A5;go_wp2_with fail
 refine f4.mono ?_;rintro e w3 ⟨o0,u3,rfl,z6,m9⟩;have l6:=h6.out w3 o0;clear f4 h6;go_wp2_with fail
 refine l6.mono ?_;rintro e w4 ⟨o1,u4,rfl,z7,n0⟩;clear l6;have e2:=o0.trans o1;by_cases j6:ce=0/\de=0
 rotate_left 1
 ·have p0:(ce=7/\de=0)\/(ce=0/\de=7)\/(ce=7/\de=7):=by omega
  clear j6 p1 p3 h8 Z;rcases p0 with⟨rfl,rfl⟩|⟨rfl,rfl⟩|⟨rfl,rfl⟩
  all_goals
   go_wp2_with fail
   refine(a6P w4).mono ?_;rintro e w5 ⟨c2,rfl⟩;go_wp2_with fail
   go_ret
   exact⟨l8.out _ (J.out.trans (.of (e2.trans c2))),rfl⟩
 obtain⟨rfl,rfl⟩:=j6;obtain⟨G9,x9⟩:=Z.out rfl;have y0:=hid x9;obtain⟨ko,kc,rfl,D1,x3⟩:=m9 rfl;obtain⟨bo,bc,rfl,C6,u5⟩:=n0 rfl;rw[G.out]at D1 |-;rw[P.out]at C6 |-;have m0:=x3.mono QC.mono (a0l o1);have l9:=h8.out w4 e2;clear p1 p3 h8 Z z6 m9 z7 n0 x3 x9;go_wp2_with fail
 refine l9.mono ?_;rintro e w5 ⟨c2,z5,rfl,E7⟩;obtain⟨uo,H3,r2,G4,cc,ro,rl,rc,s3,a3,n3,c3,d3,k3,e3,fo,ll,lc,rfl,_,_,r6,_,t1,_⟩:=E7;have bN:=r0.out w5;clear l9;go_upto_region 8 with((with_reducible show wpList _ _ _ (⟨_,.store 98 _ _,_,_,_,_⟩::_) _ _);refine a0a a2m rfl rfl bN rfl rfl (a3a _ _ _ _ _ _ _ _ _ _ _ _ _ _ _ _ _ _ _ _) ?_;intro w6 x6 y6)
 have c7:Ext w5 w6:=ExtX.box ((ExtX.refl w5).alloc _) y6 (c1B _);obtain⟨gf,p6⟩:=zA w5.heap.size;rw[p6]at x6
 (try rw[p6])
 have T:=e2.trans (c2.trans c7);have F0:=x0.out w6 T;have i7:=mkx RC.mono r6 c7;have j1:=mkx QC.mono t1 c7;have m1:=m0.mono QC.mono (a0l (c2.trans c7));have j7:=u5.mono RC.mono (a0l (c2.trans c7));have n1:=i5.mono RV.mono (a0l T);have o6:=E.ext T;clear r6 t1 m0 u5 i5 bN y6 p6 x0 r0 o0 o1 c2 c7;go_upto_region 9 with(with_reducible refine a0v a0r (by omega) (by assumption) ?_)
 clear F0;have U:Ext w6 w6.drew:=(ExtX.refl w6).drew;have i6:=x6.ext0 U;have j3:=o6.ext U;have j2:=hid ((mkx QC.mono j1 U).qv (c1A p5.sb (by decide)));have x1:=hid (c1A (a7s (k:=n - c) (by omega)) (show 2<=68719476736 by decide));have ew:IntKind.i64.wrap ((n:Int) - (c:Int))=((n - c:Nat):Int):=by rw[IntWalk.i64_in _ (by omega)];omega
 have g6:w6.drew.cell? ⟨gf,4,none⟩=some (.bool s3)/\w6.drew.cell? ⟨gf,4+1,none⟩=some (.slice a3 n3 c3)/\w6.drew.cell? ⟨gf,4+2,none⟩=some (.slice d3 k3 e3):=⟨i6.cell 4 rfl,i6.cell 5 rfl,i6.cell 6 rfl⟩
 (try simp only[Act.put])
 refine a0n 9 (fun u=>u.cell? ⟨gf,4,none⟩=some (.bool s3)/\u.cell? ⟨gf,4+1,none⟩=some (.slice a3 n3 c3)/\u.cell? ⟨gf,4+2,none⟩=some (.slice d3 k3 e3)) (by kernel_rfl) (by kernel_rfl) g6 (fun p m=>?_);refine kt 0 m ?_;refine kt 1 m ?_;refine kt 2 m ?_;refine kt 3 m ?_;refine kt 4 m ?_;refine kt 5 m ?_;refine a1F [6,7] [⟨8,13,41,#[.bool false,.slice none 0 0,.slice none 0 0]⟩] X 1 j3 p (fun _ _ h N=>⟨N.cell h.1,N.cell h.2.1,N.cell h.2.2⟩) ?_;refine a0K (fun M1 w1 F5 O o7 c1 e9 o3 K z=>?_);simp only[a1C,Act.put,List.setIfInBounds_toArray,List.set_cons_zero,List.set_cons_succ];go_simp
 (with_reducible refine(rof M1 w1 ((n - c:Nat):Int) O (by omega) (by omega)).mono ?_);rintro ee u ⟨b1,u1,rfl,q2⟩
 refine z.out _ _ _ _ _ QC.mono b1 q2 (by simp only[a1C,Act.put,List.setIfInBounds_toArray,List.set_cons_zero,List.set_cons_succ]) ?_;clear z K O o7 c1 e9 o3;refine a0K (fun M2 w2 F6 E o8 b2 J o4 K z=>?_);simp only[a1C,Act.put,List.setIfInBounds_toArray,List.set_cons_zero,List.set_cons_succ];go_simp
 (with_reducible refine(b0T M2 w2 _ u1 F.rss _ E (upx QV.mono J.1 j2.out) (J.2.qv x1.out)).mono ?_);rintro ee u ⟨b1,u2,rfl,g4⟩;obtain⟨s4,a4,n4,c4,d4,k4,e4,rfl⟩:=g4.shape
 refine z.out _ _ _ _ _ QC.mono b1 g4 (by simp only[a1C,Act.put,List.setIfInBounds_toArray,List.set_cons_zero,List.set_cons_succ]) ?_;clear z K E o8 b2 J o4;refine a3h (fun M w7 gs B9 t8 s2 s7 B7 t9 D6=>?_);simp only[a1C,ptr,Act.put,List.setIfInBounds_toArray,List.set_cons_zero,List.set_cons_succ];obtain⟨Q,f7⟩:=zA (gs 0);obtain⟨x7,m7,l7⟩:=t9 0 _ rfl;rw[f7]at x7 m7 l7;simp only[f7];refine kl 9 (fun K z=>?_)
 (refine a0q rfl rfl a0p rfl rfl x7 rfl rfl (a1z _ _ _ _ _ _ _) ?_;intro w8 z8 y8)
 refine z.out _ _ ?_;clear z K
 (try simp only[Act.put])
 have x5:=a0t (X:=M) y8 (fun k hk=>by
  have:Q=k:=by simpa[ob]using hk
  rw[<-this];exact m7)
 have g3:Le (mk M w8) (mk X w8):=a1h fun k _ h=>t8 k h;have m8:=QC.mono _ _ _ _ (x5.trans g3) s7.2;have A:Ext w6 w8:=ExtX.box (U.trans s2) y8 l7;have x8:=x6.ext0 A;have r7:=mkx RC.mono i7 A;have m2:=m1.mono QC.mono (a0l A);have j8:=j7.mono RC.mono (a0l A);have A3:=n1.mono RV.mono (a0l A);have C0:=o6.ext A;have s1:=T.trans A;have i3:Hid (a5F F n c=((c:Int):Rat)*(F.rss/(((n - c:Nat):Int):Rat))):=hid rfl;have m5:=hid (h5.out 0 (by omega)).1;have u9:=hid (h5.out 0 (by omega)).2.1;obtain⟨sv,y9⟩:=zA (F.rss/(((n - c:Nat):Int):Rat));rw[y9]at m8 i3 m5;clear s7 B7 t9 D6 B9 t8 s2 l7 m7 x7 y8 x5 p m g6 g3 f7 x6 i6 j3 j2 x1 i7 j1 m1 j7 n1 o6 U A T h5 y9;have x2:=hid m2.hd;rw[G.out]at x2;have C7:Hd bo n:=by have:=j8.hd;rwa[P.out]at this
 go_wp2_with fail
 go_loopw [85] (fun o wr=>∃i:Nat,o=.int .i64 i/\i<=n/\Ext w8 wr) (fun o _=>n - (intOf o).toNat)
 case atStart=>exact⟨0,rfl,Nat.zero_le _,ExtX.refl _⟩
 case round=>
  obtain⟨i,rfl,hi,N⟩:=hrel;by_cases a7:i<n
  ·have v9:i<DL.length:=by rw[P.out];exact a7
   have C3:=C0.ext N;have f8:=hid (y0.out i a7);have n7:=hid fun r hr=>E9.out i r a7 hr;have n2:=E8.out i;obtain⟨ab,cb,C1,u6,k7,y3⟩:=(j8.mono RC.mono (a0l N)).row i v9;have kb:=u6.out noY wr (ExtX.refl _) rfl;have v4:=v3.out i v9;have e0:RC (mk X wr) (.slice ab DL[i].length cb) DL[i]:=⟨ab,cb,rfl,k7,y3⟩;rw[v4]at e0 kb;have G7:(adr bo i).block<wr.heap.size:=a1N kb;rw[a1Y]at e0 kb;obtain⟨Di,S⟩:=zA (a0D (a1c x i) (a1c y i) (n - 1) c);have G5:Di.length=c:=by rw[<-S,a1Y]
   have B3:BR 68719476736 Di:=fun q hq=>by rw[<-S]at hq;exact c1A (l5.out i q hq) (by decide)
   have B6:BR 68719476736 F.coef:=fun q hq=>by rw[c9.out]at hq;exact c1A (k9.out q hq) (by decide)
   have k0:Hid (∀r,a9X x y n c i r=a2u (x.getD r []) (List.zipWith (fun a b=>a - b) F.coef Di)):=hid fun r=>by unfold a9X;rw[c9.out,S]
   have n9:=hid fun r (hr:r<n)=>(by
    have:=n7.out r hr;rw[<-c9.out,S]at this;exact this:(∀k,k<=(x.getD r []).length->hq (a2W (x.getD r []) (List.zipWith (fun a b=>a - b) F.coef Di) k)<=80000000)/\(∀k,k<(x.getD r []).length->hq ((x.getD r []).getD k 0*(List.zipWith (fun a b=>a - b) F.coef Di).getD k 0)<=80000000))
   rw[<-c9.out,S]at n2;rw[S]at e0;have s9:=hid (show F.coef.length=c from by rw[c9.out,a1Y]);obtain⟨f,hf⟩:∃f:Nat->Rat,(fun r=>a9X x y n c i r*a9X x y n c i r)=f:=⟨_,rfl⟩;have v6:=hid fun r=>(by rw[<-hf]:f r=a9X x y n c i r*a9X x y n c i r);rw[hf]at f8;have v5:=hid fun r (hr:r<n)=>(by
    have h1:=(n9.out r hr).1 _ (c1B _);have h2:=hq_mul (a9X x y n c i r) (a9X x y n c i r);have h3:hq (a9X x y n c i r)<=80000000:=by rw[k0.out];exact h1
    rw[v6.out];exact⟨h3,by omega⟩:hq (a9X x y n c i r)<=80000000/\hq (f r)<=160000010)
   have m6:=hid fun k (hk:k<=n)=>(by
    have:=a8K (n:=k) (B:=160000010) (f:=f) fun r hr=>(v5.out r (by omega)).2;have h4:k*(160000010+1)<=6*160000011:=Nat.mul_le_mul (by omega) (by omega);omega:hq (sm k f)<=1000000000)
   have D3:=hid (show BR 68719476736 (List.zipWith (fun a b=>a - b) F.coef Di)from fun q hq=>by
    obtain⟨t,ht,rfl⟩:=List.getElem_of_mem hq;simp only[List.length_zipWith]at ht;rw[List.getElem_zipWith];have h1:=a2O F.coef[t] Di[t];have h2:=k9.out F.coef[t] (by rw[<-c9.out];exact c1E _);have h3:=l5.out i Di[t] (by rw[S];exact c1E _);omega)
   clear n7 v4 S u6 k7 y3 C1 hf;obtain⟨wo,E3⟩:∃wo,wo=wr:=⟨_,rfl⟩;subst E3;obtain⟨wa,A0,e7,bS,A6⟩:=a1e wo #[.bool false,.slice none 0 0,.slice none 0 0] 41;obtain⟨C,h9⟩:=zA wo.heap.size;obtain⟨Y,hY⟩:=zA (a0f X C 1);have C5:HX Y wa:=by rw[<-hY,<-h9];exact C3.boxes A6
   have d1:Le (mk X wo) (mk Y wa):=by rw[<-hY,<-h9];exact a0j (nb:=1) e7
   have v8:∀k,ob (some ⟨C,0,none⟩) k=true->Y k=true:=fun k h=>by
    have:C=k:=by simpa[ob]using h
    rw[<-hY,<-this];exact a3z (c1B _) (by omega)
   have G6:∀k,X k=true->Y k=true:=fun k h=>by rw[<-hY];exact a8u h
   rw[h9]at bS A6;have i8:=RC.mono _ _ _ _ d1 (mkx RC.mono r7 N);have r5:=RC.mono _ _ _ _ d1 e0;have A4:=(A3.mono RV.mono (a0l N)).mono RV.mono d1;have x4:=(m2.mono QC.mono (a0l N)).mono QC.mono d1;have z1:=QC.mono _ _ _ _ d1 (mkx QC.mono m8 N);have G0:=(z8.ext0 N).ext0 e7;have G2:Q<C:=by have:=(z8.ext0 N).lt;omega
   have w0:i<CL.length:=by rw[G.out];exact a7
   have d9:=hid (by rw[f3.out i w0,f8.out]:CL[i]=sm n f/a5F F n c);have F7:=(x8.ext0 N).ext0 e7;have F1:=e7.cell kb;have G1:gf<C:=by have:=(x8.ext0 N).lt;omega
   have E2:=hid A0;clear A0 d1 e0 kb;go_wp2_with fail
   rw[E2.out]
   (try rw[h9])
   go_loopw [90] (fun o wr=>∃(j:Nat) (s:Bool) (a:Option Addr) (n' c':Nat) (d:Option Addr) (kk e:Nat),o=.int .i64 j/\j<=n/\Bx wr C #[.bool s,.slice a n' c',.slice d kk e] 41/\QC (mk Y wr) (.agg #[.bool s,.slice a n' c',.slice d kk e]) (sm j f)/\ExtX (ob (some ⟨C,0,none⟩)) wa wr) (fun o _=>n - (intOf o).toNat)
   case atStart=>exact⟨0,_,_,_,_,_,_,_,rfl,Nat.zero_le _,bS,QC.zero _,ExtX.refl _⟩
   case round=>
    obtain⟨j,s,a,n',c',d,kk,e,rfl,hj,bg,hQ,b3⟩:=hrel;have f1:=C5.ext b3;have f0:Le (mk Y wa) (mk Y wr):=a0t b3 v8;have F4:ob (some ⟨C,0,none⟩) gf=false:=a0b (by omega);have F3:ob (some ⟨C,0,none⟩) (adr bo i).block=false:=by
     cases h:ob (some ⟨C,0,none⟩) (adr bo i).block
     ·rfl
     ·have:C=(adr bo i).block:=by simpa[ob]using h
      omega
    by_cases q0:j<n
    ·have w9:j<x.length:=by rw[D4.out];exact q0
     obtain⟨ax,cx,C4,l3,f5,y4⟩:=(A4.mono RV.mono f0).row j w9;have kx:=l3.out noY wr (ExtX.refl _) rfl;have d2:x[j].length=c:=q4.out _ (c1E _);have i1:RV (mk Y wr) (.slice ax c cx) x[j]:=⟨ax,cx,by rw[d2],by rw[d2]at f5;rw[d2];exact f5,y4⟩;rw[d2]at kx;have p7:=E5.out j w9;rw[<-p7]at i1;have y5:(x.getD j []).length=c:=by rw[p7];exact d2
     have q5:=hid (n9.out j q0);have p2:=hid (k0.out j);have h7:=hid (v5.out j q0);have f6:=hid (v6.out j);have y7:=hid (m6.out j (by omega));have i4:Hid (sm j f+f j=sm (j+1) f):=hid rfl;obtain⟨R,hR⟩:=zA (x.getD j []);rw[hR]at i1 y5 q5 p2;obtain⟨zv,A7⟩:=zA (a9X x y n c i j);rw[A7]at p2 h7 f6;rw[f6.out]at h7 i4;obtain⟨Sj,t3⟩:=zA (sm j f);obtain⟨Sk,o5⟩:=zA (sm (j+1) f);have t4:=hid o5;rw[t3]at hQ y7 i4;rw[o5]at i4;clear l3 f5 y4 C4 d2 p7 hR A7 t3 o5 f6;go_upto_region 19 with(with_reducible refine a0v a0r (by omega) (by assumption) ?_)
     have v:Ext wr wr.drew:=(ExtX.refl wr).drew;have V:=f1.ext v;have m4:=hid (mkx RV.mono i1 v);have l0:=hid (mkx RC.mono (RC.mono _ _ _ _ f0 i8) v);have k1:=hid (mkx RC.mono (RC.mono _ _ _ _ f0 r5) v);have i0:∀W,(Instr.indexAt 25 (.slice bo n bc) (.int .i64 (i:Int))).run Tryz.prog W=.ok (.pointer (some (adr bo i))) W:=a0z a0r bo n bc .i64 i C7 a7 rfl;have l2:=hid (l0.out.rv B6);have k2:=hid (k1.out.rv B3);obtain⟨H1,H2,l1,D8,D9⟩:=id i8;simp only[Value.slice.injEq]at l1;obtain⟨rfl,rfl,rfl⟩:=l1;have A9:=(F7.ext b3 F4).ext0 v;have g6:wr.drew.cell? ⟨gf,2,none⟩=some (.slice r2 F.coef.length cc)/\wr.drew.cell? (adr bo i)=some (.slice ab c cb):=⟨A9.cell 2 rfl,v.cell (b3.cellY F1 F3)⟩;clear D8 D9 kx i1
     (try simp only[Act.put])
     refine a0n 10 (fun u=>u.cell? ⟨gf,2,none⟩=some (.slice r2 F.coef.length cc)/\u.cell? (adr bo i)=some (.slice ab c cb)) (by kernel_rfl) (by kernel_rfl) g6 (fun p m=>?_);refine kt 0 m ?_;refine kt 1 m ?_;refine kt 2 m ?_;refine kt 3 m ?_;refine kt 4 m ?_;refine kt 5 m ?_;refine kt 6 m ?_;refine a1F [7,8] [⟨9,18,41,#[.bool false,.slice none 0 0,.slice none 0 0]⟩] Y 1 V p (fun _ _ h N=>⟨N.cell h.1,N.cell h.2⟩) ?_;refine a0K (fun M1 w1 F5 O o7 c1 e9 o3 K z=>?_);simp only[a1C,Act.put,List.setIfInBounds_toArray,List.set_cons_zero,List.set_cons_succ];go_simp
     (with_reducible refine(b5Z M1 w1 _ _ F.coef Di O (upx RV.mono e9 l2.out) (upx RV.mono e9 k2.out) (by have:=s9.out;omega) (by have:=s9.out;omega)).mono ?_);rintro ee u ⟨b1,u1,rfl,q2⟩
     refine z.out _ _ _ _ _ RC.mono b1 q2 (by simp only[a1C,Act.put,List.setIfInBounds_toArray,List.set_cons_zero,List.set_cons_succ]) ?_;clear z K O o7 c1 e9 o3;refine a0K (fun M2 w2 F6 E o8 b2 J o4 K z=>?_);simp only[a1C,Act.put,List.setIfInBounds_toArray,List.set_cons_zero,List.set_cons_succ];go_simp
     (with_reducible refine(b1Z M2 w2 _ u1 R _ E (upx RV.mono J.1 m4.out) (J.2.rv D3.out) (by omega) (by rw[n2];omega) (fun k hk=>c1A (q5.out.1 k hk) (by decide)) (fun k hk=>c1A (q5.out.2 k hk) (by decide))).mono ?_);rintro ee u ⟨b1,u2,rfl,g4⟩;obtain⟨s5,a5,n5,c5,d5,k5,e5,rfl⟩:=g4.shape
     refine z.out _ _ _ _ _ QC.mono b1 g4 (by simp only[a1C,Act.put,List.setIfInBounds_toArray,List.set_cons_zero,List.set_cons_succ]) ?_;clear z K E o8 b2 J o4;refine a3h (fun M H5 gs t6 j4 i9 j0 t2 j5 y2=>?_);simp only[a1C,ptr,Act.put,List.setIfInBounds_toArray,List.set_cons_zero,List.set_cons_succ];obtain⟨gz,p8⟩:=zA (gs 0);obtain⟨q7,q6,A8⟩:=j5 0 _ rfl;rw[p8]at q7 q6 A8;simp only[p8];refine kl 10 (fun K z=>?_)
     (refine a0q rfl rfl a0p rfl rfl q7 rfl rfl (a1z _ _ _ _ _ _ _) ?_;intro b0 F8 q8)
     refine z.out _ _ ?_;clear z K
     (try simp only[Act.put])
     have m3:=a0t (X:=M) q8 (fun k hk=>by
      have:gz=k:=by simpa[ob]using hk
      rw[<-this];exact q6)
     have b9:Le (mk M b0) (mk Y b0):=a1h fun k _ h=>j4 k h;have g7:=QC.mono _ _ _ _ (m3.trans b9) j0.2;rw[<-p2.out]at g7;have b5:Ext wr b0:=ExtX.box (v.trans i9) q8 A8;have r1:=bg.ext0 b5;have t0:=mkx QC.mono hQ b5;have t7:=f1.ext b5;clear j0 t2 j5 y2 t6 j4 i9 q6 q7 q8 m3 b9 p m g6 p8 i0 m4 l0 k1 l2 k2 A9 V v;go_upto_region 20 with fail
     have v:Ext b0 b0.drew:=(ExtX.refl b0).drew;have g8:=r1.ext0 v;have zd:=F8.ext0 v;have V:=t7.ext v;have qz:=hid ((mkx QC.mono g7 v).qv (c1A h7.out.1 (by decide)));have qS:=hid ((mkx QC.mono t0 v).qv (c1A y7.out (by decide)));have b6:=hid fun u (h:Ext b0.drew u)=>(⟨(g8.ext0 h).cell 0 rfl,(g8.ext0 h).cell 1 rfl,(g8.ext0 h).cell 2 rfl,(zd.ext0 h).cell 0 rfl,(zd.ext0 h).cell 1 rfl,(zd.ext0 h).cell 2 rfl⟩:u.cell? ⟨C,0,none⟩=some (.bool s)/\u.cell? ⟨C,1,none⟩=some (.slice a n' c')/\u.cell? ⟨C,2,none⟩=some (.slice d kk e)/\u.cell? ⟨gz,0,none⟩=some (.bool s5)/\u.cell? ⟨gz,1,none⟩=some (.slice a5 n5 c5)/\u.cell? ⟨gz,2,none⟩=some (.slice d5 k5 e5))
     (try simp only[Act.put])
     refine a0n 5 (fun u=>u.cell? ⟨C,0,none⟩=some (.bool s)/\u.cell? ⟨C,1,none⟩=some (.slice a n' c')/\u.cell? ⟨C,2,none⟩=some (.slice d kk e)/\u.cell? ⟨gz,0,none⟩=some (.bool s5)/\u.cell? ⟨gz,1,none⟩=some (.slice a5 n5 c5)/\u.cell? ⟨gz,2,none⟩=some (.slice d5 k5 e5)) (by kernel_rfl) (by kernel_rfl) (b6.out _ (ExtX.refl _)) (fun p m=>?_);refine kt 0 m ?_;refine kt 1 m ?_;refine kt 2 m ?_;refine ks 3 (fun K z=>?_);go_simp
     ((with_reducible refine(a9x Y b0.drew _ _ zv zv V qz.out qz.out).mono ?_);rintro ee wb ⟨gb,ub,rfl,q3⟩)
     refine kcn z (b6.out _ gb) (fun p=>?_);clear z K;refine ks 4 (fun K z=>?_);go_simp
     ((with_reducible refine(b2T Y wb _ ub Sj _ (V.ext gb) (mkx QV.mono qS.out gb) (q3.qv (c1A h7.out.2 (by decide)))).mono ?_);rintro ee wc ⟨gc,uc,rfl,g5⟩;obtain⟨s6,a6,n6,c6,d6,k6,e6,rfl⟩:=g5.shape)
     refine kcn z (b6.out _ (gb.trans gc)) (fun p=>?_);clear z K;have B1:=g8.ext0 (gb.trans gc);refine kl 5 (fun K z=>?_)
     (refine a0q rfl rfl a0p rfl rfl B1 rfl rfl (a1z _ _ _ _ _ _ _) ?_;intro H6 F9 B0)
     refine z.out _ _ ?_;clear z K
     (try simp only[Act.put])
     rw[i4.out]at g5;have r4:=QC.mono _ _ _ _ (a0t B0 v8) g5;have s0:=(b3.trans (.of (b5.trans (v.trans (gb.trans gc))))).trans B0;rw[<-t4.out]at r4;clear p m b6;go_wp2_with fail
     go_roundw
     case rel=>exact⟨j+1,_,_,_,_,_,_,_,by go_num,by omega,F9,r4,s0⟩
     case measure=>simp[intOf];omega
    ·obtain rfl:n=j:=by omega
     obtain⟨g2,o2,s8,a8,n8,c8,d8,k8,e8,v7,E6,b7,g0⟩:=(x4.mono QC.mono f0).rat QC.shaped i w0;rw[d9.out]at g0;have i2:∀W,(Instr.indexAt 26 (.slice ko n kc) (.int .i64 (i:Int))).run Tryz.prog W=.ok (.pointer (some ⟨g2,o2,none⟩)) W:=by
      rw[<-v7];exact a0d a0w ko n kc .i64 i x2.out a7
     go_upto_region 22 with fail
     have v:Ext wr wr.drew:=(ExtX.refl wr).drew;have V:=f1.ext v;have q9:=G0.ext b3 (a0b (by omega));have E1:=QC.mono _ _ _ _ f0 z1;have D0:Hid (hq (((c:Int):Rat))<=68719476736):=hid (c1A (a7s (by omega)) (by decide));have g1:=hid (m6.out n (c1B _));have d0:=hid fun u (h:Ext wr u)=>(⟨(b7.out _ _ h rfl).1,(b7.out _ _ h rfl).2.1,(b7.out _ _ h rfl).2.2,(bg.ext0 h).cell 0 rfl,(bg.ext0 h).cell 1 rfl,(bg.ext0 h).cell 2 rfl,(q9.ext0 h).cell 0 rfl,(q9.ext0 h).cell 1 rfl,(q9.ext0 h).cell 2 rfl⟩:u.cell? ⟨g2,o2,none⟩=some (.bool s8)/\u.cell? ⟨g2,o2+1,none⟩=some (.slice a8 n8 c8)/\u.cell? ⟨g2,o2+2,none⟩=some (.slice d8 k8 e8)/\u.cell? ⟨C,0,none⟩=some (.bool s)/\u.cell? ⟨C,1,none⟩=some (.slice a n' c')/\u.cell? ⟨C,2,none⟩=some (.slice d kk e)/\u.cell? ⟨Q,0,none⟩=some (.bool s4)/\u.cell? ⟨Q,1,none⟩=some (.slice a4 n4 c4)/\u.cell? ⟨Q,2,none⟩=some (.slice d4 k4 e4));obtain⟨Sn,t5⟩:=zA (sm n f);rw[t5]at hQ g1 g0;have e1:=hid (hq_div Sn (a5F F n c));have E0:=hid i3.out;rw[i3.out]at g0 e1;have H:=hid u9.out;rw[i3.out]at H;obtain⟨D,hD⟩:=zA (Sn/(((c:Int):Rat)*sv));have B2:=hid hD;rw[hD]at g0 e1;have B4:(D - D).num.sign=0:=by rw[show D - D=0 by grind];rfl
     clear v7 E6 b7 t5 hD f8 d9
     (try simp only[Act.put])
     refine a0n 11 (fun u=>u.cell? ⟨g2,o2,none⟩=some (.bool s8)/\u.cell? ⟨g2,o2+1,none⟩=some (.slice a8 n8 c8)/\u.cell? ⟨g2,o2+2,none⟩=some (.slice d8 k8 e8)/\u.cell? ⟨C,0,none⟩=some (.bool s)/\u.cell? ⟨C,1,none⟩=some (.slice a n' c')/\u.cell? ⟨C,2,none⟩=some (.slice d kk e)/\u.cell? ⟨Q,0,none⟩=some (.bool s4)/\u.cell? ⟨Q,1,none⟩=some (.slice a4 n4 c4)/\u.cell? ⟨Q,2,none⟩=some (.slice d4 k4 e4)) (by kernel_rfl) (by kernel_rfl) (d0.out _ v) (fun p m=>?_);refine kt 0 m ?_;refine kt 1 m ?_;refine kt 2 m ?_;refine kt 3 m ?_;refine kt 4 m ?_;refine kt 5 m ?_;refine kt 7 m ?_;refine ks 6 (fun K z=>?_);go_simp
     ((with_reducible refine(rof Y wr.drew (c:Int) V (by omega) (by omega)).mono ?_);rintro ee wb ⟨gb,ub,rfl,q3⟩)
     refine kcn z (d0.out _ (v.trans gb)) (fun p=>?_);clear z K;refine ks 8 (fun K z=>?_);go_simp
     ((with_reducible refine(a9x Y wb ub _ _ sv (V.ext gb) (q3.qv D0.out) ((mkx QC.mono E1 (v.trans gb)).qv (c1A m5.out (by decide)))).mono ?_);rintro ee wc ⟨gc,uc,rfl,g5⟩)
     refine kcn z (d0.out _ (v.trans (gb.trans gc))) (fun p=>?_);clear z K;have g9:=v.trans (gb.trans gc);refine ks 9 (fun K z=>?_);go_simp
     ((with_reducible refine(b0T Y wc _ uc Sn _ (f1.ext g9) ((mkx QC.mono hQ g9).qv (c1A g1.out (by decide))) (g5.qv (c1A H.out (by decide)))).mono ?_);rintro ee wd ⟨gd,ud,rfl,z9⟩)
     refine kcn z (d0.out _ (g9.trans gd)) (fun p=>?_);clear z K;have h0:=g9.trans gd;rw[B2.out]at z9;have u8:=b2U Y wd _ ud D D (f1.ext h0) ((mkx QC.mono g0 h0).qv (c1A e1.out (by have:=g1.out;have:=H.out;omega))) (z9.qv (c1A e1.out (by have:=g1.out;have:=H.out;omega))) (c1A (a2O _ _) (by have:=e1.out;have:=g1.out;have:=H.out;omega));rw[B4]at u8;refine ks 10 (fun K z=>?_);go_simp
     ((with_reducible refine u8.mono ?_);rintro ee wf ⟨r3,rfl⟩)
     refine kcn z (d0.out _ (h0.trans r3)) (fun p=>?_);clear z K;refine kl 11 (fun K z=>?_);go_simp
     refine z.out _ _ ?_;clear z K;have B5:Ext w8 wf:=(N.trans ((e7.then_ b3 fun k hk _=>a0b (by omega)))).trans (h0.trans r3);clear p m d0;go_wp2_with fail
     go_roundw
     case rel=>exact⟨i+1,by go_num,by omega,B5⟩
     case measure=>simp[intOf];omega
  ·have p9:=a6P wr
   go_wp2_with fail
   refine p9.mono ?_;rintro e H4 ⟨r9,rfl⟩;go_wp2_with fail
   go_ret
   exact⟨l8.out _ (J.out.trans (.of (s1.trans (N.trans r9)))),rfl⟩
open Go.ChangeShapes Go.WideShapes Go.ChangeAt Go.Deep
section
variable {H:Type} {enc:TypeId×Value->H} {w:World} {base:Nat} {spare:Nat->Bool} {held:Bool}
theorem a1J{x:Addr}{v:Value}(h:w.cell? (x.add 0)=some v):(∀j,x.add j=adr (some x) j)/\∃b c,x=⟨b,c,none⟩:=by
 have e:=World.cell?_spot h;obtain⟨b,c,d⟩:=x;have a:d=none:=by simpa[Addr.add]using e
 subst a;exact⟨fun j=>by rw[Addr.add_lit];simp[adr],b,c,rfl⟩
end
end Go.Proofs.YtnnpfhoigmegcaaGreat
namespace Go.Proofs.YtnnpfhoigmegcaaGreat
open Go.ChangeShapes Go.WideShapes Go.ChangeAt Go.RowKit Go.Rep Go.Deep
theorem b8v{n:Int}(h:(Lit.int .i64 n).wf=true): -9223372036854775808<=n/\n<=9223372036854775807:=by
 unfold Lit.wf at h;simpa[IntKind.min,IntKind.max,IntKind.signed,IntKind.bits]using h
section
variable {H:Type} {enc:TypeId×Value->H} {P:Program} {w:World} {base:Nat} {spare:Nat->Bool} {held:Bool}
theorem b8w{g:Nat}{v:Value}{x:DataW H×List MemPlace}(h:DataW.trod enc Tryz.prog w base spare held g 22 [v]=some x):∃(a:Option Addr) (l:List Int) (f:Nat),v=.slice a l.length f/\l.length<=f/\l.length<=9223372036854775807/\Sl (a2a .i64) 1 (mk noY w) a l/\∀x∈l,-9223372036854775808<=x/\x<=9223372036854775807:=by
 rw[a7f];rcases open_ints Tryz.underlying22 Tryz.underlying3 (by kernel_rfl) h with⟨e,_⟩|⟨x,len,c,n,e,_,F,z,hz,_,d,p⟩
 ·refine⟨none,[],0,by simpa using e,by simp,by simp,Sl.nil _ _ _ _,by simp⟩
 ·have C:len<=n.length:=by
   rw[hz];split<;>omega
  have m:(n.take len).length=len:=by simp;omega
  have t:c<=9223372036854775807:=by simpa[maxLen]using z
  refine⟨some x,n.take len,c,by rw[m];simpa using e,by omega,by omega,⟨fun D=>?_,fun i E=>?_⟩,fun y B=>b8v (p y (List.mem_of_mem_take B))⟩
  ·obtain⟨_,b,q,A⟩:=a1J (d 0 (by omega))
   exact⟨b,q,by rw[A]⟩
  ·have k:i<n.length:=by omega
   refine⟨.int .i64 (n.take len)[i],rfl,fun j s=>?_,rfl⟩;have o:j=0:=by simp[Value.cells]at s;exact s
   subst o;have r:=d i k;have u:=(a1J (d 0 (by omega))).1 i;rw[u]at r;simp only[Nat.mul_one,Nat.add_zero,List.getElem_take];rw[r];simp[List.getD_eq_getElem?_getD,k,Value.cells]
end
end Go.Proofs.YtnnpfhoigmegcaaGreat
namespace Go.Proofs.YtnnpfhoigmegcaaGreat.seat
open Go.RowKit
theorem and_t{a b:Bool}(c:a=true)(d:b=true):(a&&b)=true:=by rw[c,d];rfl
theorem laid:laidOutB Tryz.pinned.checked.prog=true:=by kernel_rfl
theorem maps:mapsRowed Tryz.pinned.checked.prog=true:=by kernel_rfl
theorem stops:(Program.stops Tryz.pinned.checked.prog==[])=true:=by kernel_rfl
theorem knobs:(Program.stopKnobs Tryz.pinned.checked.prog==[])=true:=by kernel_rfl
theorem heard:Program.stopsHeard Tryz.pinned.checked.prog=true:=by kernel_rfl
theorem enter:Program.mayEnter Tryz.pinned.checked.prog=true:=by kernel_rfl
theorem lifts:(Rows.certifyFitsRow.lifted==Program.liftsFinal Tryz.pinned.checked.prog)=true:=by kernel_rfl
theorem make:(Program.make Tryz.pinned.checked.prog==some Rows.certifyFitsRow.make)=true:=by kernel_rfl
theorem plain:(Rows.certifyFitsRow.plainKeys==Program.plainKeys Tryz.pinned.checked.prog)=true:=by kernel_rfl
end Go.Proofs.YtnnpfhoigmegcaaGreat.seat
