/- Parts of a proof: each theorem states what it proves, and its conditions. -/
import Derived.Test.YtgbbpgflopajaaaGreatSpP
set_option maxRecDepth 100000
set_option maxHeartbeats 12800000
namespace Go.Lin
open Go.Lim Go.Rep
def rkN(us:List Bool)(j:Nat):Nat:=((List.range j).filter fun i=>us.getD i false).length
theorem b4A{a:List Bool}{j:Nat}(h:a.getD j false=true):rkN a (j+1)=rkN a j+1:=by
 unfold rkN;rw[List.range_succ,List.filter_append,show List.filter (fun i=>a.getD i false) [j]= [j]from by simp only[List.filter,h],List.length_append];rfl
theorem b7w{a:List Bool}{j:Nat}(h:a.getD j false=false):rkN a (j+1)=rkN a j:=by
 unfold rkN;rw[List.range_succ,List.filter_append,show List.filter (fun i=>a.getD i false) [j]= []from by simp only[List.filter,h],List.append_nil]
theorem b7x(a:List Bool)(j:Nat):rkN a j<=j:=by
 unfold rkN;exact Nat.le_trans (List.length_filter_le _ _) (by rw[List.length_range];exact Nat.le_refl _)
theorem b1B{p:List Nat}{c:Nat}(d:p.Pairwise (· < ·))(b:∀j∈p,j<c):(List.range c).filter (fun i=>(Go.Rep.usedL p c).getD i false)=p:=by
 rw[<-a7f d b];refine List.filter_congr fun j a=>?_;have a:=List.mem_range.1 a;simp[Go.Rep.usedL,List.getD_eq_getElem?_getD,a]
theorem b9o{p:List Nat}{c:Nat}(b:p.Pairwise (· < ·))(a:∀j∈p,j<c):rkN (Go.Rep.usedL p c) c=p.length:=by unfold rkN;rw[b1B b a]
theorem c0P{p:List Nat}{c j:Nat}(m:p.Pairwise (· < ·))(k:∀j∈p,j<c)(o:j<c)(b:j∈p):∃h:rkN (Go.Rep.usedL p c) j<p.length,p[rkN (Go.Rep.usedL p c) j]=j:=by
 have e:=b1B m k;obtain⟨d,rfl⟩:∃d,c=j+(d+1):=⟨c - j - 1,by omega⟩;rw[List.range_add,List.range_succ_eq_map,List.map_cons,List.filter_append]at e;have n:(Go.Rep.usedL p (j+(d+1))).getD (j+0) false=true:=by
  simp[Go.Rep.usedL,List.getD_eq_getElem?_getD,b]
 rw[List.filter_cons_of_pos (p:=fun i=>(Go.Rep.usedL p (j+(d+1))).getD i false) n]at e;have a:=congrArg List.length e;simp only[List.length_append,List.length_cons]at a;refine⟨by unfold rkN;omega,?_⟩;have g:p[rkN (Go.Rep.usedL p (j+(d+1))) j]? =some j:=by
  have f:=congrArg (fun l=>l[((List.range j).filter fun i=>(Go.Rep.usedL p (j+(d+1))).getD i false).length]?) e;simp only[List.getElem?_append_right (Nat.le_refl _),Nat.sub_self]at f;unfold rkN;rw[<-f];rfl
 exact(List.getElem?_eq_some_iff.1 g).2
theorem b2o{L:List Rat}{i:Nat}(h:i<L.length)(a:L[i]=0):a2Q L (i+1)=a2Q L i:=by
 unfold a2Q;rw[List.take_succ_eq_append_getElem h,a,show L.length - i=(L.length - (i+1))+1 by omega,List.replicate_succ,List.append_assoc];rfl
theorem b6G{x:Mat}{y:List Rat}{n c j:Nat}(o:Shp n c x)(b:j<c)(h:j<(a7n x y n c).length):((usedL (a0J x c).2 c).getD j false=true->∃a:rkN (usedL (a0J x c).2 c) j<(bU (pkL x (a0J x c).2) y n (a0J x c).2.length).length,(bU (pkL x (a0J x c).2) y n (a0J x c).2.length)[rkN (usedL (a0J x c).2 c) j]=(a7n x y n c)[j])/\((usedL (a0J x c).2 c).getD j false=false->(a7n x y n c)[j]=0):=by
 obtain⟨_,f,_⟩:=a1d o;have e:(a7n x y n c)[j]=b4G (a0J x c).2 (fn (bU (pkL x (a0J x c).2) y n (a0J x c).2.length)) j:=by simp[a7n]
 have p:(usedL (a0J x c).2 c).getD j false=decide (j∈(a0J x c).2):=by simp[usedL,List.getD_eq_getElem?_getD,b]
 have g:∀j∈(a0J x c).2,j<c:=fun j b=>by obtain⟨k,m,rfl⟩:=List.getElem_of_mem b;exact f.lt k m
 rw[e,p];constructor
 ·intro d
  obtain⟨a,l⟩:=c0P f.pw g b (of_decide_eq_true d);have i:=a6S f (fn (bU (pkL x (a0J x c).2) y n (a0J x c).2.length)) _ a;rw[l]at i;refine⟨by rw[b3F];exact a,?_⟩;rw[i];unfold fn;rw[List.getD_eq_getElem?_getD,List.getElem?_eq_getElem (by rw[b3F];exact a)];rfl
 ·intro d
  exact a5q _ (of_decide_eq_false d)
end Go.Lin
namespace Go.Rep
open Go.RowKit Go.Lim
section
variable {P:Program} {ops:Array Oper} {Q:Exit->Act->World->Prop} {a:Act} {w:World}
theorem a4K{α:Type}{R:Mem->Value->α->Prop}{sz:Nat}{X:Nat->Bool}{base cap:Nat}{e:TypeId}{ao:Option Addr}{l:List α}{o:Oper}{K:Act->World->Prop}{E:Prop}{t:TypeId}{x y:Operand}(q:o.guard=none)(c:o.op= .store t x y)(p:TyI P t sz)(n:Elem R sz)(i:Nat){A:Addr}(hx:a.eval x= .pointer (some A))(k:adr ao (i*sz)=A)(h:OL R sz X base e w ao cap l)(hi:i<l.length)(u:Value)(v:α)(B:a.eval y=u)(s:R (mk (un X ao) w) u v)(m:∀b,OL R sz X base e b ao cap (l.set i v)->ExtX (ob ao) w b->K (a.put o.dst undef) b):if Region.wanted o (yielded ops a.tmps)=true then Oper.wp P o a w K Q else E:=by
 have z:Region.wanted o (yielded ops a.tmps)=true:=by simp[Region.wanted,q]
 rw[if_pos z];obtain⟨C,r,d⟩:=p;obtain⟨b,f,g,j⟩:=h.run_store (P:=P) r d n i hi u v s;rw[k]at f;unfold Oper.wp execOp;rw[c];simp[hx,B,Instr.storeAt,Instr.sureAddr,f,Result.andThen];exact m _ g j
end
end Go.Rep
namespace Go.Proofs.YtgbbpgflopajaaaGreat
open Go.RowKit Go.Rep Go.Lim Go.Lin
def FS(Z:Nat->Bool)(base g:Nat)(uo:Option Addr)(uc c n:Nat)(co lo:Option Addr)(rk:Nat)(C L:List Rat)(w:World):Prop:=
 Bx w g #[.int .i64 (rk:Int), .slice uo c uc, .slice co c c, .slice none 0 0, .bool false, .slice none 0 0, .slice none 0 0, .slice lo n n] 83/\OL QC 3 (un Z lo) base 38 w co c C/\OL QC 3 (un Z co) base 38 w lo n L
theorem b9p(X:Nat->Bool)(w:World)(u t:Value)(x:Mat)(y:List Rat)(n c B:Nat)(hX:HX X w)(hu:MV (mk X w) u x)(ht:RV (mk X w) t y)(u8:a6x x y=true)(f4:x.length=n)(n8:colsL x=c)(hn:n<=8)(hc:c<=4)(p4:BM B x)(p5:BR B y)(d0:1<=B)(O:B<=510/\n*(2*B+1)<=6540):Calls Tryz.prog 48 #[u,t] w (a7J X w (b0o x y n c)):=by
 obtain⟨W,hW,hE,b0,hz⟩:=a0R w #[.int .i64 0, .slice none 0 0, .slice none 0 0, .slice none 0 0, .bool false, .slice none 0 0, .slice none 0 0, .slice none 0 0] 83;have j9:HX (a0e X w.heap.size 1) W:=hX.boxes hz;have i7:Hid (∀D,Ext W D->Le (mk X w) (mk (a0e X w.heap.size 1) D)):=hid fun D h=>a0l (hE.trans h);obtain⟨b,hb⟩:∃b,w.heap.size=b:=⟨_,rfl⟩;rw[hb]at b0 hz j9 i7;have I3:w.heap.size<=b:=by omega
 obtain⟨N,n4⟩:∃N,a0e X b 1=N:=⟨_,rfl⟩;rw[n4]at j9 i7;obtain⟨hf,h1,G6,G5,j1⟩:=a2f.1 u8;obtain⟨b5,G7,_,r4,_⟩:=a0D hf;rw[f4]at h1;have I4:=r4 (by omega);rw[n8]at I4;rw[f4,n8]at b5;rw[f4]at j1;have l5:=a5v p4 d0;have hT:=(a7G b5 l5 hc (by omega)).2;obtain⟨_,hg,_,_⟩:=a1d b5;have f3:=Nat.le_trans (b1k b5) hc;have m1:∀j∈(a0J x c).2,j<c:=fun j hj=>by obtain⟨k,E,rfl⟩:=List.getElem_of_mem hj;exact hg.lt k E
 have m2:=b0i N W u t x y j9 (MV.mono _ _ _ _ (i7.out W (ExtX.refl _)) hu) (RV.mono _ _ _ _ (i7.out W (ExtX.refl _)) ht) (by omega);rw[u8]at m2;have k2:=hid fun D (hZ:HX N D) (h:MV (mk N D) u x)=>b1Z N D u x n c hZ h hf f4 n8 h1 hT;have l9:=hid fun Z D (uo:Option Addr) (uc:Nat) (hZ:HX Z D) (h:MV (mk Z D) u x) (h2:Sl BlR 1 (mk Z D) uo (usedL (a0J x c).2 c))=>b4x Z D u uo uc x (a0J x c).2 n c hZ h h2 b5 (by omega) (by omega) hg.pw m1;have Q:=b3D b5 (a0J x c).2;have c5:=b7g p4 d0 (p:=(a0J x c).2);have d4:=hid fun(h:1<=(a0J x c).2.length)=>(a8l b5 f3).1;have l0:=b5P (y:=y) b5 hc;have a3:=hid fun j (hj:j<c) (h:j<(a7n x y n c).length)=>b6G (y:=y) b5 hj h;have b8:=a2Z x y n c;rw[l0]at a3;have l1:=hid fun(h:(a0J x c).2.length=0)=>(by
  have D6:(a0J x c).2= []:=List.eq_nil_of_length_eq_zero h;refine a6U (n:=c) b8 List.length_replicate fun j hj=>?_;have h0:=(a4R (y:=y) b5).2.2.2 j hj (by rw[D6];simp)
  show fn (a0S x y n c) j=_
  rw[h0];simp[List.getD_eq_getElem?_getD,hj]:a0S x y n c=List.replicate c 0)
 have i8:=hid fun(h:(a0J x c).2.length=0)=>(by
  have h2:=Q;rw[h]at h2 |-;exact a9i h2:a3n (pkL x (a0J x c).2) n (a0J x c).2.length=List.replicate n 0)
 have g9:=hid (b9o hg.pw m1);have n7:=a5S (y:=y) (c:=c) l5 p5 hn hc O;have f5:=a7b b5 p4 p5 n7 d0 hc O;have d3:(a2q x y (a0S x y n c)).length=n:=by rw[a2P (by rw[j1,f4])];exact f4
 have j0:=hid fun Z D (v:Value) (hZ:HX Z D) (h:MV (mk Z D) u x) (h2:RV (mk Z D) t y) (h3:RC (mk Z D) v (a0S x y n c))=>b6o Z D u t v x y (a0S x y n c) n c 8500000 hZ h h2 (h3.rv fun q hq=>Nat.le_trans (n7 q hq) (by decide)) b5 j1 b8 (by omega) (by omega) (fun r hr q hq=>Nat.le_trans (p4 r hr q hq) (by omega)) n7 (by decide) (by decide);have t9:=a1A (l:=a2q x y (a0S x y n c)) (m:=a2q x y (a0S x y n c)) f5 f5 (by decide) (by rw[d3];omega) (by decide);have u1:=hid fun Z D (v:Value) (hZ:HX Z D) (h:RC (mk Z D) v (a2q x y (a0S x y n c)))=>a5z Z D v v _ _ hZ (h.rv fun q hq=>Nat.le_trans (f5 q hq) (by decide)) (h.rv fun q hq=>Nat.le_trans (f5 q hq) (by decide)) (by rw[d3];omega) rfl t9.1 t9.2;have g3:=hid d3;have i6:=hid b8;have p3:=hid (a2e (a0J x c).2 c);have c9:=hid (b3F (u:=pkL x (a0J x c).2) (y:=y) (n:=n) (m:=(a0J x c).2.length));have b6:Hid (∀D uo uc co cc ro rc (s:Bool) a n' c' d k e lo lc,Ext w D->c<=uc->Sl BlR 1 (mk X D) uo (usedL (a0J x c).2 c)->RC (mk X D) (.slice co c cc) (a0S x y n c)->RC (mk X D) (.slice ro n rc) (a2q x y (a0S x y n c))->QC (mk X D) (.agg #[.bool s, .slice a n' c', .slice d k e]) (a1Z (a2q x y (a0S x y n c)) (a2q x y (a0S x y n c)))->RC (mk X D) (.slice lo n lc) (a3n (pkL x (a0J x c).2) n (a0J x c).2.length)->a7J X w (b0o x y n c) (.returned (.tuple #[.agg #[.int .i64 ((a0J x c).2.length:Int), .slice uo c uc, .slice co c cc, .slice ro n rc, .bool s, .slice a n' c', .slice d k e, .slice lo n lc], .int .i64 0])) D):=hid fun D uo uc co cc ro rc s a n' c' d k e lo lc h0 h1 h2 h3 h4 h5 h6=>
  ⟨h0,_,rfl,uo,uc,co,c,cc,ro,n,rc,s,a,n',c',d,k,e,lo,n,lc,by rw[show(b0o x y n c).used=usedL (a0J x c).2 c from rfl,a2e];rfl,by rw[show(b0o x y n c).used=usedL (a0J x c).2 c from rfl,a2e];exact h1,h2,h3,h4,h5,h6⟩
 obtain⟨F,hF⟩:∃F,a7J X w (b0o x y n c)=F:=⟨_,rfl⟩;rw[hF]at b6 |-;obtain⟨m,hm⟩:∃m,(a0J x c).2.length=m:=⟨_,rfl⟩;rw[hm]at f3 Q d4 a3 l1 i8 g9 c9 b6;obtain⟨U,hU⟩:∃U,pkL x (a0J x c).2=U:=⟨_,rfl⟩;rw[hU]at Q c5 a3 i8 c9 b6 l9 d4;have a4:=hid fun(h1:1<=m)=>(⟨b1a Q (by omega) h1 (by omega),a8i Q (by omega),b1a (a1y U n m) (by omega) (by omega) (by omega),a8i (a1y U n m) h1,b1a (a0F U n m) (by omega) h1 (by omega),a8i (a0F U n m) h1,b1a (a1W (a0F U n m)) (by omega) h1 (by omega),a8i (a1W (a0F U n m)) h1⟩:a0y U=true/\colsL U=m/\a0y (trL U n m)=true/\colsL (trL U n m)=n/\a0y (a1K U n m)=true/\colsL (a1K U n m)=m/\a0y (a2y (a1K U n m) m)=true/\colsL (a2y (a1K U n m) m)=m);have o2:=a5v c5 d0;have m6:BM B (trL U n m):=a5w (b0Q o2);have l3:=a8o (m:=m) o2 hn O;have o3:=b0e (m:=m) o2 hn f3 O;have E8:=a3y (a1m (a0F U n m)) (a6w (a0F U n m) l3) f3 (by decide);have E7:=a3y (a0F U n m) l3 f3 (by decide);have F8:BM 68719476736 (a1k (a1K U n m) m):=fun r hr q hq=>Nat.le_trans (a5w (a6w (a0F U n m) l3) r hr q hq) (by decide);have r7:=hid (show BM 68719476736 U from fun r hr q hq=>Nat.le_trans (c5 r hr q hq) (by omega));have r5:=hid (show BM 68719476736 (trL U n m)from fun r hr q hq=>Nat.le_trans (m6 r hr q hq) (by omega));have C2:=hid (show BM 68719476736 (a1K U n m)from fun r hr q hq=>Nat.le_trans (a5w l3 r hr q hq) (by decide));have C8:=hid (show BM 68719476736 (a2y (a1K U n m) m)from fun r hr q hq=>Nat.le_trans (o3 r hr q hq) (by decide));have m7:BR 6541 (a2s (trL U n m) y):=fun q hq=>Nat.le_trans (b3R (a1y U n m) m6 p5 d0 d0 q hq) (by have h2:=O.2;rw[Nat.two_mul]at h2;omega);have s2:(a2s (trL U n m) y).length=m:=by rw[a3i];exact(a1y U n m).1
 have p1:=hid fun(h1:1<=m) Z D (v:Value) (hZ:HX Z D) (h:MC (mk Z D) v U)=>a5F Z D v U n m hZ (h.mv r7.out) (a4.out h1).1 Q.1 (a4.out h1).2.1;have i9:=hid fun(h1:1<=m) Z D (v u2:Value) (hZ:HX Z D) (ht:MC (mk Z D) v (trL U n m)) (h:MC (mk Z D) u2 U)=>b9m Z D v u2 (trL U n m) U m n m B hZ (ht.mv r5.out) (h.mv r7.out) (a4.out h1).2.2.1 (a4.out h1).1 (a1y U n m).1 Q.1 (a4.out h1).2.2.2.1 (a4.out h1).2.1 m6 c5 d0 (by omega);have f2:=hid fun(h1:1<=m) Z D (v:Value) (hZ:HX Z D) (ht:MC (mk Z D) v (a1K U n m))=>b0y Z D v (a1K U n m) m hZ (ht.mv C2.out) (a4.out h1).2.2.2.2.1 (a0F U n m).1 (a4.out h1).2.2.2.2.2.1 E7.2 E8.2 F8;have o6:=hid fun(h1:1<=m) (h0:a9x (a1K U n m) m=0)=>d4.out h1 ((c1D f3 (a0F U n m)).2 h0);have c7:=hid fun(h1:1<=m) Z D (v:Value) (hZ:HX Z D) (h:MC (mk Z D) v (trL U n m)) (h2:RV (mk Z D) t y)=>a9v Z D v t (trL U n m) y B hZ (h.mv r5.out) h2 (a4.out h1).2.2.1 (by rw[(a4.out h1).2.2.2.1];exact j1) m6 p5 d0 (by omega);have f1:=hid fun(h1:1<=m) Z D (v v2:Value) (r:List Rat) (hZ:HX Z D) (h:MC (mk Z D) v (a2y (a1K U n m) m)) (h2:RC (mk Z D) v2 r) (h3:r.length=m) (h4:BR 8500000 r)=>a9v Z D v v2 (a2y (a1K U n m) m) r 8500000 hZ (h.mv C8.out) (h2.rv fun q hq=>Nat.le_trans (h4 q hq) (by decide)) (a4.out h1).2.2.2.2.2.2.1 (by rw[(a4.out h1).2.2.2.2.2.2.2];exact h3) o3 h4 (by decide) (by decide);have o4:=hid fun r (hr:r∈U)=>b0f (m:=m) c5 hn f3 d0 O hr;have y7:(a2y (a1K U n m) m).length=m:=(a1W (a0F U n m)).1;have g7:=hid fun Z D (v v2:Value) (r:List Rat) (hZ:HX Z D) (hr:r∈U) (h:RC (mk Z D) v r) (h2:RC (mk Z D) v2 (a2s (a2y (a1K U n m) m) r))=>a5z Z D v v2 r (a2s (a2y (a1K U n m) m) r) hZ (h.rv fun q hq=>Nat.le_trans (c5 r hr q hq) (by omega)) (h2.rv fun q hq=>Nat.le_trans (o4.out r hr q hq) (by decide)) (by rw[Q.2 r hr];omega) (by rw[a3i,y7,Q.2 r hr]) (a1A (B:=34100000) (fun q hq=>Nat.le_trans (c5 r hr q hq) (by omega)) (o4.out r hr) (by decide) (by rw[Q.2 r hr];omega) (by decide)).1 (a1A (B:=34100000) (fun q hq=>Nat.le_trans (c5 r hr q hq) (by omega)) (o4.out r hr) (by decide) (by rw[Q.2 r hr];omega) (by decide)).2;have m4:=hid fun r (hr:r∈U)=>(fun q hq=>Nat.le_trans (c5 r hr q hq) (by omega):BR 8500000 r);have j6:=hid fun i (h1:i<U.length) (h:i<(a3n U n m).length)=>b1t h1 h;have i4:=hid (show(a3n U n m).length=n by rw[a4s];exact Q.1);have c8:bU U y n m=a2s (a2y (a1K U n m) m) (a2s (trL U n m) y):=rfl;have k7:BR 68719476736 (bU U y n m):=fun q hq=>Nat.le_trans (b3R (a1W (a0F U n m)) o3 (fun q hq=>Nat.le_trans (m7 q hq) (by decide)) (by decide) (C:=8500000) (by decide) q hq) (by have:=Nat.mul_le_mul f3 (show 8500000+8500000+1<=17000001 by omega);omega);have r0:a1K U n m=a6q (trL U n m) U n m:=rfl;rw[<-r0]at i9;have g5:=hid (show BR 8500000 (a2s (trL U n m) y)from fun q hq=>Nat.le_trans (m7 q hq) (by decide));have g6:=hid s2;unfold b4z at f2;obtain⟨us,r9⟩:∃us,usedL (a0J x c).2 c=us:=⟨_,rfl⟩;unfold b5Z at k2;rw[r9]at k2 l9 a3 g9 p3 b6;obtain⟨G,hG⟩:∃G,a1K U n m=G:=⟨_,rfl⟩;rw[hG]at i9 f2 o6 f1 g7 j6 c8;obtain⟨I,hI⟩:∃I,a2y G m=I:=⟨_,rfl⟩;rw[hI]at f2 f1 g7 j6 c8;obtain⟨T,z5⟩:∃T,trL U n m=T:=⟨_,rfl⟩;rw[z5]at p1 i9 c7 g5 g6 c8;obtain⟨V,z6⟩:∃V,a2s T y=V:=⟨_,rfl⟩;rw[z6]at c7 g5 g6 c8;have k8:=hid c8;obtain⟨bu,B1⟩:∃bu,bU U y n m=bu:=⟨_,rfl⟩;rw[B1]at a3 c9 k7 k8;have I1:=hid k7;obtain⟨L,hL⟩:∃L,a3n U n m=L:=⟨_,rfl⟩;rw[hL]at i8 j6 i4 b6;obtain⟨Cf,x2⟩:∃Cf,a0S x y n c=Cf:=⟨_,rfl⟩;rw[x2]at a3 l1 i6 j0 u1 g3 b6;obtain⟨Rs,z4⟩:∃Rs,a2q x y Cf=Rs:=⟨_,rfl⟩;rw[z4]at j0 u1 g3 b6;have t1:=hid Q.1;have H6:=hid Q.2;have v8:=hid fun D (h:Ext W D)=>MV.mono _ _ _ _ (i7.out D h) hu;have E5:=hid fun D (h:Ext W D)=>RV.mono _ _ _ _ (i7.out D h) ht;obtain⟨ua,L3,rfl,r8,K2⟩:=hu;obtain⟨ta,L2,rfl,r6,K0⟩:=ht;rw[f4]at m2 k2 l9 j0 v8 r8 |-;rw[j1]at m2 c7 j0 E5 r6 |-;have A1:Hid (∀k,X k=true->N k=true):=hid fun k E=>by rw[<-n4];simp[a0e,E]
 have I0:Hid (∀k,ob (some ⟨b,0,none⟩) k=true->N k=true):=hid fun k E=>by
  have L1:b=k:=by simpa[ob]using E
  rw[<-n4];exact a4N (by omega) (by omega)
 clear u8 hf G6 G5 r4 b5 l5 hT hg n7 f5 d3 t9 hF hm hU hG hI z5 z6 c8 B1 k7 hL x2 z4 r9 n4 f4 n8 j1 m7 s2 m6 l3 o3 E8 E7 F8 d4 m1 l0 b8 o2 c5 a4 r0 y7 G7 Q r6 r8 K2 K0;go_enter Tryz.func48,Tryz.ntmps48
 go_wp2_with fail
 refine m2.mono ?_;rintro ee wa ⟨s7,rfl⟩;clear m2;go_wp2_with fail
 refine(k2.out wa (j9.ext s7) (v8.out wa s7)).mono ?_;rintro ee z ⟨H2,uo,uc,uv,rfl,K3,Q⟩;have f9:=s7.trans H2;have z7:HX N z:=j9.ext f9;clear k2;go_upto_region 4 with fail
 have d9:Ext z z.drew:=(ExtX.refl z).drew;have c2:HX N z.drew:=z7.ext d9
 (try simp only[Act.put])
 go_cut [9]from 38 to 46 (fun bv wx=>∃(g:Nat) (co lo:Option Addr),bv= .pointer (some ⟨g,0,none⟩)/\Bx wx g #[.int .i64 0, .slice uo c uc, .slice co c c, .slice none 0 0, .bool false, .slice none 0 0, .slice none 0 0, .slice lo n n] 83/\OL QC 3 (un (un N (some ⟨g,0,none⟩)) lo) z.drew.heap.size 38 wx co c (List.replicate c 0)/\OL QC 3 (un (un N (some ⟨g,0,none⟩)) co) z.drew.heap.size 38 wx lo n (List.replicate n 0)/\z.heap.size<=g/\g<wx.heap.size/\Ext z wx)
 case first=>
  refine a0z 9 (fun _=>True) (by kernel_rfl) (by kernel_rfl) trivial (fun A f=>?_);refine kt 0 f ?_;refine kt 1 f ?_;refine kt 2 f ?_;refine kt 4 f ?_;refine kt 5 f ?_;refine a6k (i:=3) (j:=6) (l:=8) (oi:=⟨_,_,_,_,_,_⟩) (oj:=⟨_,_,_,_,_,_⟩) (ol:=⟨_,_,_,_,_,_⟩) (by kernel_rfl) rfl rfl rfl (fun K J=>?_) (fun K J=>?_) (fun K J=>?_)
  ·skip
   (refine a0T (R:=QC) rfl rfl a0w QC.elem (0:Rat) (fun _=>QC.zero _) N (c2.ext (ExtX.refl (Y:=noY) z.drew)) z.drew.heap.size (Nat.le_refl _) c rfl rfl rfl (by omega) (by omega) ?_;intro xo vA P eA)
   refine kcn J trivial (fun A=>?_);clear J K;have nA:∀q,ob xo q=true->z.drew.heap.size<=q:=fun q hq=>(P.block hq).1;have P:=P.base_le (b':=z.drew.heap.size) ((ExtX.refl (Y:=noY) z.drew)).size;have EA:Ext z.drew vA:=(ExtX.refl (Y:=noY) z.drew).trans eA;refine a0N (i:=6) (j:=8) (oi:=⟨_,_,_,_,_,_⟩) (oj:=⟨_,_,_,_,_,_⟩) (by kernel_rfl) rfl rfl (fun K J=>?_) (fun K J=>?_)
   ·skip
    (refine a0T (R:=QC) rfl rfl a0w QC.elem (0:Rat) (fun _=>QC.zero _) (un N xo) (a3g (c2.ext EA) fun q hq=>(P.block hq).2) vA.heap.size (Nat.le_refl _) n rfl rfl rfl (by omega) (by omega) ?_;intro yo vB O eB)
    refine kcn J trivial (fun A=>?_);clear J K;have nB:∀q,ob yo q=true->vA.heap.size<=q:=fun q hq=>(O.block hq).1;have O:=O.base_le (b':=z.drew.heap.size) (EA).size;have P:=a0W QC.elem P eB nB;have EB:Ext z.drew vB:=EA.trans eB;refine kt 7 f ?_;refine a1g (i:=8) (o:=⟨_,_,_,_,_,_⟩) (by kernel_rfl) rfl (fun K J=>?_);go_simp
    skip
    refine kcn J trivial (fun A=>?_);clear J K;have eG:Ext vB (vB.alloc (.cells #[.int .i64 0, .slice none 0 0, .slice none 0 0, .slice none 0 0, .bool false, .slice none 0 0, .slice none 0 0, .slice none 0 0] 83)):=(ExtX.refl _).alloc _;have bG:Bx (vB.alloc (.cells #[.int .i64 0, .slice none 0 0, .slice none 0 0, .slice none 0 0, .bool false, .slice none 0 0, .slice none 0 0, .slice none 0 0] 83)) vB.heap.size #[.int .i64 0, .slice none 0 0, .slice none 0 0, .slice none 0 0, .bool false, .slice none 0 0, .slice none 0 0, .slice none 0 0] 83:=Bx.new vB _ _;have zG:(vB.alloc (.cells #[.int .i64 0, .slice none 0 0, .slice none 0 0, .slice none 0 0, .bool false, .slice none 0 0, .slice none 0 0, .slice none 0 0] 83)).heap.size=vB.heap.size+1:=by simp
    obtain⟨vG,d5⟩:∃vG,vB.alloc (.cells #[.int .i64 0, .slice none 0 0, .slice none 0 0, .slice none 0 0, .bool false, .slice none 0 0, .slice none 0 0, .slice none 0 0] 83)=vG:=⟨_,rfl⟩;rw[d5]at eG bG zG |-;obtain⟨H,a5⟩:∃H,vB.heap.size=H:=⟨_,rfl⟩;have a7:vB.heap.size<=H:=by rw[<-a5];exact Nat.le_refl _
    rw[a5]at bG zG |-;have M:H<vG.heap.size:=by omega
    have nG:∀q,ob (some ⟨H,0,none⟩) q=true->vB.heap.size<=q:=fun q hq=>(by simpa[ob]using hq:H=q)▸a7;have S:z.heap.size<=H:=Nat.le_trans (EB).size a7;have P:=a0W QC.elem P eG nG;have O:=a0W QC.elem O eG nG;have EG:Ext z.drew vG:=EB.trans eG;refine kl 9 (fun K J=>?_)
    (refine a0q rfl rfl a4n rfl rfl bG rfl rfl (by intro v hv;simp at hv;rcases hv with rfl|rfl|rfl|rfl|rfl|rfl|rfl|rfl<;>rfl) ?_;intro w9 y1 y2)
    refine J.out _ _ ?_;clear J K
    (try simp only[Act.put])
    have b9:OL QC 3 (un (un N (some ⟨H,0,none⟩)) yo) z.drew.heap.size 38 w9 xo c (List.replicate c 0):=by
     have h:=P.ext QC.elem (Z:=un (un N yo) (some ⟨H,0,none⟩)) y2 (fun q _ hq=>by simp[un,hq]) (fun _ _ h=>h)
     first|exact h|(rw[a0Y]at h;exact h)
    have c0:OL QC 3 (un (un N (some ⟨H,0,none⟩)) xo) z.drew.heap.size 38 w9 yo n (List.replicate n 0):=by
     have h:=O.ext QC.elem (Z:=un (un N xo) (some ⟨H,0,none⟩)) y2 (fun q _ hq=>by simp[un,hq]) (fun _ _ h=>h)
     first|exact h|(rw[a0Y]at h;exact h)
    have a8:Ext z w9:=ExtX.box (d9.trans EG) y2 S;have a0:=Nat.lt_of_lt_of_le M y2.size;go_wp2_with fail
    go_meet
    case rel=>exact⟨H,xo,yo,rfl,y1,b9,c0,S,a0,a8⟩
   ·skip
    go_simp
    skip
    refine kcn J trivial (fun A=>?_);clear J K;have eG:Ext vA (vA.alloc (.cells #[.int .i64 0, .slice none 0 0, .slice none 0 0, .slice none 0 0, .bool false, .slice none 0 0, .slice none 0 0, .slice none 0 0] 83)):=(ExtX.refl _).alloc _;have bG:Bx (vA.alloc (.cells #[.int .i64 0, .slice none 0 0, .slice none 0 0, .slice none 0 0, .bool false, .slice none 0 0, .slice none 0 0, .slice none 0 0] 83)) vA.heap.size #[.int .i64 0, .slice none 0 0, .slice none 0 0, .slice none 0 0, .bool false, .slice none 0 0, .slice none 0 0, .slice none 0 0] 83:=Bx.new vA _ _;have zG:(vA.alloc (.cells #[.int .i64 0, .slice none 0 0, .slice none 0 0, .slice none 0 0, .bool false, .slice none 0 0, .slice none 0 0, .slice none 0 0] 83)).heap.size=vA.heap.size+1:=by simp
    obtain⟨vG,d5⟩:∃vG,vA.alloc (.cells #[.int .i64 0, .slice none 0 0, .slice none 0 0, .slice none 0 0, .bool false, .slice none 0 0, .slice none 0 0, .slice none 0 0] 83)=vG:=⟨_,rfl⟩;rw[d5]at eG bG zG |-;obtain⟨H,a5⟩:∃H,vA.heap.size=H:=⟨_,rfl⟩;have a7:vA.heap.size<=H:=by rw[<-a5];exact Nat.le_refl _
    rw[a5]at bG zG |-;have M:H<vG.heap.size:=by omega
    have nG:∀q,ob (some ⟨H,0,none⟩) q=true->vA.heap.size<=q:=fun q hq=>(by simpa[ob]using hq:H=q)▸a7;have S:z.heap.size<=H:=Nat.le_trans (EA).size a7;have P:=a0W QC.elem P eG nG;have EG:Ext z.drew vG:=EA.trans eG;refine a1g (i:=6) (o:=⟨_,_,_,_,_,_⟩) (by kernel_rfl) rfl (fun K J=>?_)
    (refine a0T (R:=QC) rfl rfl a0w QC.elem (0:Rat) (fun _=>QC.zero _) (un (un N xo) (some ⟨H,0,none⟩)) (a1e (a3g (c2.ext EG) fun q hq=>(P.block hq).2) M) vG.heap.size (Nat.le_refl _) n rfl rfl rfl (by omega) (by omega) ?_;intro yo vB O eB)
    refine kcn J trivial (fun A=>?_);clear J K;have nB:∀q,ob yo q=true->vG.heap.size<=q:=fun q hq=>(O.block hq).1;have O:=O.base_le (b':=z.drew.heap.size) (EG).size;have P:=a0W QC.elem P eB nB;have bG:=bG.ext0 eB;have M:=Nat.lt_of_lt_of_le M eB.size;have EB:Ext z.drew vB:=EG.trans eB;refine kt 7 f ?_;refine kl 9 (fun K J=>?_)
    (refine a0q rfl rfl a4n rfl rfl bG rfl rfl (by intro v hv;simp at hv;rcases hv with rfl|rfl|rfl|rfl|rfl|rfl|rfl|rfl<;>rfl) ?_;intro w9 y1 y2)
    refine J.out _ _ ?_;clear J K
    (try simp only[Act.put])
    have b9:OL QC 3 (un (un N (some ⟨H,0,none⟩)) yo) z.drew.heap.size 38 w9 xo c (List.replicate c 0):=by
     have h:=P.ext QC.elem (Z:=un (un N (some ⟨H,0,none⟩)) yo) y2 (fun q _ hq=>by simp[un,hq]) (fun _ _ h=>h)
     first|exact h|(rw[a0Y]at h;exact h)
    have c0:OL QC 3 (un (un N (some ⟨H,0,none⟩)) xo) z.drew.heap.size 38 w9 yo n (List.replicate n 0):=by
     have h:=O.ext QC.elem (Z:=un (un N xo) (some ⟨H,0,none⟩)) y2 (fun q _ hq=>by simp[un,hq]) (fun _ _ h=>h)
     first|exact h|(rw[a0Y]at h;exact h)
    have a8:Ext z w9:=ExtX.box (d9.trans EB) y2 S;have a0:=Nat.lt_of_lt_of_le M y2.size;go_wp2_with fail
    go_meet
    case rel=>exact⟨H,xo,yo,rfl,y1,b9,c0,S,a0,a8⟩
  ·skip
   (refine a0T (R:=QC) rfl rfl a0w QC.elem (0:Rat) (fun _=>QC.zero _) N (c2.ext (ExtX.refl (Y:=noY) z.drew)) z.drew.heap.size (Nat.le_refl _) n rfl rfl rfl (by omega) (by omega) ?_;intro yo vB O eB)
   refine kcn J trivial (fun A=>?_);clear J K;have nB:∀q,ob yo q=true->z.drew.heap.size<=q:=fun q hq=>(O.block hq).1;have O:=O.base_le (b':=z.drew.heap.size) ((ExtX.refl (Y:=noY) z.drew)).size;have EB:Ext z.drew vB:=(ExtX.refl (Y:=noY) z.drew).trans eB;refine a0N (i:=3) (j:=8) (oi:=⟨_,_,_,_,_,_⟩) (oj:=⟨_,_,_,_,_,_⟩) (by kernel_rfl) rfl rfl (fun K J=>?_) (fun K J=>?_)
   ·skip
    (refine a0T (R:=QC) rfl rfl a0w QC.elem (0:Rat) (fun _=>QC.zero _) (un N yo) (a3g (c2.ext EB) fun q hq=>(O.block hq).2) vB.heap.size (Nat.le_refl _) c rfl rfl rfl (by omega) (by omega) ?_;intro xo vA P eA)
    refine kcn J trivial (fun A=>?_);clear J K;have nA:∀q,ob xo q=true->vB.heap.size<=q:=fun q hq=>(P.block hq).1;have P:=P.base_le (b':=z.drew.heap.size) (EB).size;have O:=a0W QC.elem O eA nA;have EA:Ext z.drew vA:=EB.trans eA;refine kt 7 f ?_;refine a1g (i:=8) (o:=⟨_,_,_,_,_,_⟩) (by kernel_rfl) rfl (fun K J=>?_);go_simp
    skip
    refine kcn J trivial (fun A=>?_);clear J K;have eG:Ext vA (vA.alloc (.cells #[.int .i64 0, .slice none 0 0, .slice none 0 0, .slice none 0 0, .bool false, .slice none 0 0, .slice none 0 0, .slice none 0 0] 83)):=(ExtX.refl _).alloc _;have bG:Bx (vA.alloc (.cells #[.int .i64 0, .slice none 0 0, .slice none 0 0, .slice none 0 0, .bool false, .slice none 0 0, .slice none 0 0, .slice none 0 0] 83)) vA.heap.size #[.int .i64 0, .slice none 0 0, .slice none 0 0, .slice none 0 0, .bool false, .slice none 0 0, .slice none 0 0, .slice none 0 0] 83:=Bx.new vA _ _;have zG:(vA.alloc (.cells #[.int .i64 0, .slice none 0 0, .slice none 0 0, .slice none 0 0, .bool false, .slice none 0 0, .slice none 0 0, .slice none 0 0] 83)).heap.size=vA.heap.size+1:=by simp
    obtain⟨vG,d5⟩:∃vG,vA.alloc (.cells #[.int .i64 0, .slice none 0 0, .slice none 0 0, .slice none 0 0, .bool false, .slice none 0 0, .slice none 0 0, .slice none 0 0] 83)=vG:=⟨_,rfl⟩;rw[d5]at eG bG zG |-;obtain⟨H,a5⟩:∃H,vA.heap.size=H:=⟨_,rfl⟩;have a7:vA.heap.size<=H:=by rw[<-a5];exact Nat.le_refl _
    rw[a5]at bG zG |-;have M:H<vG.heap.size:=by omega
    have nG:∀q,ob (some ⟨H,0,none⟩) q=true->vA.heap.size<=q:=fun q hq=>(by simpa[ob]using hq:H=q)▸a7;have S:z.heap.size<=H:=Nat.le_trans (EA).size a7;have O:=a0W QC.elem O eG nG;have P:=a0W QC.elem P eG nG;have EG:Ext z.drew vG:=EA.trans eG;refine kl 9 (fun K J=>?_)
    (refine a0q rfl rfl a4n rfl rfl bG rfl rfl (by intro v hv;simp at hv;rcases hv with rfl|rfl|rfl|rfl|rfl|rfl|rfl|rfl<;>rfl) ?_;intro w9 y1 y2)
    refine J.out _ _ ?_;clear J K
    (try simp only[Act.put])
    have b9:OL QC 3 (un (un N (some ⟨H,0,none⟩)) yo) z.drew.heap.size 38 w9 xo c (List.replicate c 0):=by
     have h:=P.ext QC.elem (Z:=un (un N yo) (some ⟨H,0,none⟩)) y2 (fun q _ hq=>by simp[un,hq]) (fun _ _ h=>h)
     first|exact h|(rw[a0Y]at h;exact h)
    have c0:OL QC 3 (un (un N (some ⟨H,0,none⟩)) xo) z.drew.heap.size 38 w9 yo n (List.replicate n 0):=by
     have h:=O.ext QC.elem (Z:=un (un N xo) (some ⟨H,0,none⟩)) y2 (fun q _ hq=>by simp[un,hq]) (fun _ _ h=>h)
     first|exact h|(rw[a0Y]at h;exact h)
    have a8:Ext z w9:=ExtX.box (d9.trans EG) y2 S;have a0:=Nat.lt_of_lt_of_le M y2.size;go_wp2_with fail
    go_meet
    case rel=>exact⟨H,xo,yo,rfl,y1,b9,c0,S,a0,a8⟩
   ·skip
    go_simp
    skip
    refine kcn J trivial (fun A=>?_);clear J K;have eG:Ext vB (vB.alloc (.cells #[.int .i64 0, .slice none 0 0, .slice none 0 0, .slice none 0 0, .bool false, .slice none 0 0, .slice none 0 0, .slice none 0 0] 83)):=(ExtX.refl _).alloc _;have bG:Bx (vB.alloc (.cells #[.int .i64 0, .slice none 0 0, .slice none 0 0, .slice none 0 0, .bool false, .slice none 0 0, .slice none 0 0, .slice none 0 0] 83)) vB.heap.size #[.int .i64 0, .slice none 0 0, .slice none 0 0, .slice none 0 0, .bool false, .slice none 0 0, .slice none 0 0, .slice none 0 0] 83:=Bx.new vB _ _;have zG:(vB.alloc (.cells #[.int .i64 0, .slice none 0 0, .slice none 0 0, .slice none 0 0, .bool false, .slice none 0 0, .slice none 0 0, .slice none 0 0] 83)).heap.size=vB.heap.size+1:=by simp
    obtain⟨vG,d5⟩:∃vG,vB.alloc (.cells #[.int .i64 0, .slice none 0 0, .slice none 0 0, .slice none 0 0, .bool false, .slice none 0 0, .slice none 0 0, .slice none 0 0] 83)=vG:=⟨_,rfl⟩;rw[d5]at eG bG zG |-;obtain⟨H,a5⟩:∃H,vB.heap.size=H:=⟨_,rfl⟩;have a7:vB.heap.size<=H:=by rw[<-a5];exact Nat.le_refl _
    rw[a5]at bG zG |-;have M:H<vG.heap.size:=by omega
    have nG:∀q,ob (some ⟨H,0,none⟩) q=true->vB.heap.size<=q:=fun q hq=>(by simpa[ob]using hq:H=q)▸a7;have S:z.heap.size<=H:=Nat.le_trans (EB).size a7;have O:=a0W QC.elem O eG nG;have EG:Ext z.drew vG:=EB.trans eG;refine a1g (i:=3) (o:=⟨_,_,_,_,_,_⟩) (by kernel_rfl) rfl (fun K J=>?_)
    (refine a0T (R:=QC) rfl rfl a0w QC.elem (0:Rat) (fun _=>QC.zero _) (un (un N yo) (some ⟨H,0,none⟩)) (a1e (a3g (c2.ext EG) fun q hq=>(O.block hq).2) M) vG.heap.size (Nat.le_refl _) c rfl rfl rfl (by omega) (by omega) ?_;intro xo vA P eA)
    refine kcn J trivial (fun A=>?_);clear J K;have nA:∀q,ob xo q=true->vG.heap.size<=q:=fun q hq=>(P.block hq).1;have P:=P.base_le (b':=z.drew.heap.size) (EG).size;have O:=a0W QC.elem O eA nA;have bG:=bG.ext0 eA;have M:=Nat.lt_of_lt_of_le M eA.size;have EA:Ext z.drew vA:=EG.trans eA;refine kt 7 f ?_;refine kl 9 (fun K J=>?_)
    (refine a0q rfl rfl a4n rfl rfl bG rfl rfl (by intro v hv;simp at hv;rcases hv with rfl|rfl|rfl|rfl|rfl|rfl|rfl|rfl<;>rfl) ?_;intro w9 y1 y2)
    refine J.out _ _ ?_;clear J K
    (try simp only[Act.put])
    have b9:OL QC 3 (un (un N (some ⟨H,0,none⟩)) yo) z.drew.heap.size 38 w9 xo c (List.replicate c 0):=by
     have h:=P.ext QC.elem (Z:=un (un N yo) (some ⟨H,0,none⟩)) y2 (fun q _ hq=>by simp[un,hq]) (fun _ _ h=>h)
     first|exact h|(rw[a0Y]at h;exact h)
    have c0:OL QC 3 (un (un N (some ⟨H,0,none⟩)) xo) z.drew.heap.size 38 w9 yo n (List.replicate n 0):=by
     have h:=O.ext QC.elem (Z:=un (un N (some ⟨H,0,none⟩)) xo) y2 (fun q _ hq=>by simp[un,hq]) (fun _ _ h=>h)
     first|exact h|(rw[a0Y]at h;exact h)
    have a8:Ext z w9:=ExtX.box (d9.trans EA) y2 S;have a0:=Nat.lt_of_lt_of_le M y2.size;go_wp2_with fail
    go_meet
    case rel=>exact⟨H,xo,yo,rfl,y1,b9,c0,S,a0,a8⟩
  ·skip
   go_simp
   skip
   refine kcn J trivial (fun A=>?_);clear J K;have eG:Ext z.drew (z.alloc (.cells #[.int .i64 0, .slice none 0 0, .slice none 0 0, .slice none 0 0, .bool false, .slice none 0 0, .slice none 0 0, .slice none 0 0] 83)).drew:=⟨rfl,rfl,rfl,((ExtX.refl (Y:=noY) z).alloc _).size,((ExtX.refl (Y:=noY) z).alloc _).block⟩;have bG:Bx (z.alloc (.cells #[.int .i64 0, .slice none 0 0, .slice none 0 0, .slice none 0 0, .bool false, .slice none 0 0, .slice none 0 0, .slice none 0 0] 83)).drew z.heap.size #[.int .i64 0, .slice none 0 0, .slice none 0 0, .slice none 0 0, .bool false, .slice none 0 0, .slice none 0 0, .slice none 0 0] 83:=Bx.new z _ _;have zG:(z.alloc (.cells #[.int .i64 0, .slice none 0 0, .slice none 0 0, .slice none 0 0, .bool false, .slice none 0 0, .slice none 0 0, .slice none 0 0] 83)).drew.heap.size=z.heap.size+1:=by show(z.alloc _).heap.size=_;simp
   obtain⟨vG,d5⟩:∃vG,(z.alloc (.cells #[.int .i64 0, .slice none 0 0, .slice none 0 0, .slice none 0 0, .bool false, .slice none 0 0, .slice none 0 0, .slice none 0 0] 83)).drew=vG:=⟨_,rfl⟩;rw[d5]at eG bG zG |-;obtain⟨H,a5⟩:∃H,z.heap.size=H:=⟨_,rfl⟩;have a7:z.drew.heap.size<=H:=by rw[<-a5];exact Nat.le_refl _
   rw[a5]at bG zG |-;have M:H<vG.heap.size:=by omega
   have nG:∀q,ob (some ⟨H,0,none⟩) q=true->z.drew.heap.size<=q:=fun q hq=>(by simpa[ob]using hq:H=q)▸a7;have S:z.heap.size<=H:=Nat.le_trans ((ExtX.refl (Y:=noY) z.drew)).size a7;have EG:Ext z.drew vG:=(ExtX.refl (Y:=noY) z.drew).trans eG;refine a0N (i:=3) (j:=6) (oi:=⟨_,_,_,_,_,_⟩) (oj:=⟨_,_,_,_,_,_⟩) (by kernel_rfl) rfl rfl (fun K J=>?_) (fun K J=>?_)
   ·skip
    (refine a0T (R:=QC) rfl rfl a0w QC.elem (0:Rat) (fun _=>QC.zero _) (un N (some ⟨H,0,none⟩)) (a1e (c2.ext EG) M) vG.heap.size (Nat.le_refl _) c rfl rfl rfl (by omega) (by omega) ?_;intro xo vA P eA)
    refine kcn J trivial (fun A=>?_);clear J K;have nA:∀q,ob xo q=true->vG.heap.size<=q:=fun q hq=>(P.block hq).1;have P:=P.base_le (b':=z.drew.heap.size) (EG).size;have bG:=bG.ext0 eA;have M:=Nat.lt_of_lt_of_le M eA.size;have EA:Ext z.drew vA:=EG.trans eA;refine a1g (i:=6) (o:=⟨_,_,_,_,_,_⟩) (by kernel_rfl) rfl (fun K J=>?_)
    (refine a0T (R:=QC) rfl rfl a0w QC.elem (0:Rat) (fun _=>QC.zero _) (un (un N (some ⟨H,0,none⟩)) xo) (a3g (a1e (c2.ext EA) M) fun q hq=>(P.block hq).2) vA.heap.size (Nat.le_refl _) n rfl rfl rfl (by omega) (by omega) ?_;intro yo vB O eB)
    refine kcn J trivial (fun A=>?_);clear J K;have nB:∀q,ob yo q=true->vA.heap.size<=q:=fun q hq=>(O.block hq).1;have O:=O.base_le (b':=z.drew.heap.size) (EA).size;have bG:=bG.ext0 eB;have M:=Nat.lt_of_lt_of_le M eB.size;have P:=a0W QC.elem P eB nB;have EB:Ext z.drew vB:=EA.trans eB;refine kt 7 f ?_;refine kl 9 (fun K J=>?_)
    (refine a0q rfl rfl a4n rfl rfl bG rfl rfl (by intro v hv;simp at hv;rcases hv with rfl|rfl|rfl|rfl|rfl|rfl|rfl|rfl<;>rfl) ?_;intro w9 y1 y2)
    refine J.out _ _ ?_;clear J K
    (try simp only[Act.put])
    have b9:OL QC 3 (un (un N (some ⟨H,0,none⟩)) yo) z.drew.heap.size 38 w9 xo c (List.replicate c 0):=by
     have h:=P.ext QC.elem (Z:=un (un N (some ⟨H,0,none⟩)) yo) y2 (fun q _ hq=>by simp[un,hq]) (fun _ _ h=>h)
     first|exact h|(rw[a0Y]at h;exact h)
    have c0:OL QC 3 (un (un N (some ⟨H,0,none⟩)) xo) z.drew.heap.size 38 w9 yo n (List.replicate n 0):=by
     have h:=O.ext QC.elem (Z:=un (un N (some ⟨H,0,none⟩)) xo) y2 (fun q _ hq=>by simp[un,hq]) (fun _ _ h=>h)
     first|exact h|(rw[a0Y]at h;exact h)
    have a8:Ext z w9:=ExtX.box (d9.trans EB) y2 S;have a0:=Nat.lt_of_lt_of_le M y2.size;go_wp2_with fail
    go_meet
    case rel=>exact⟨H,xo,yo,rfl,y1,b9,c0,S,a0,a8⟩
   ·skip
    (refine a0T (R:=QC) rfl rfl a0w QC.elem (0:Rat) (fun _=>QC.zero _) (un N (some ⟨H,0,none⟩)) (a1e (c2.ext EG) M) vG.heap.size (Nat.le_refl _) n rfl rfl rfl (by omega) (by omega) ?_;intro yo vB O eB)
    refine kcn J trivial (fun A=>?_);clear J K;have nB:∀q,ob yo q=true->vG.heap.size<=q:=fun q hq=>(O.block hq).1;have O:=O.base_le (b':=z.drew.heap.size) (EG).size;have bG:=bG.ext0 eB;have M:=Nat.lt_of_lt_of_le M eB.size;have EB:Ext z.drew vB:=EG.trans eB;refine a1g (i:=3) (o:=⟨_,_,_,_,_,_⟩) (by kernel_rfl) rfl (fun K J=>?_)
    (refine a0T (R:=QC) rfl rfl a0w QC.elem (0:Rat) (fun _=>QC.zero _) (un (un N (some ⟨H,0,none⟩)) yo) (a3g (a1e (c2.ext EB) M) fun q hq=>(O.block hq).2) vB.heap.size (Nat.le_refl _) c rfl rfl rfl (by omega) (by omega) ?_;intro xo vA P eA)
    refine kcn J trivial (fun A=>?_);clear J K;have nA:∀q,ob xo q=true->vB.heap.size<=q:=fun q hq=>(P.block hq).1;have P:=P.base_le (b':=z.drew.heap.size) (EB).size;have bG:=bG.ext0 eA;have M:=Nat.lt_of_lt_of_le M eA.size;have O:=a0W QC.elem O eA nA;have EA:Ext z.drew vA:=EB.trans eA;refine kt 7 f ?_;refine kl 9 (fun K J=>?_)
    (refine a0q rfl rfl a4n rfl rfl bG rfl rfl (by intro v hv;simp at hv;rcases hv with rfl|rfl|rfl|rfl|rfl|rfl|rfl|rfl<;>rfl) ?_;intro w9 y1 y2)
    refine J.out _ _ ?_;clear J K
    (try simp only[Act.put])
    have b9:OL QC 3 (un (un N (some ⟨H,0,none⟩)) yo) z.drew.heap.size 38 w9 xo c (List.replicate c 0):=by
     have h:=P.ext QC.elem (Z:=un (un N (some ⟨H,0,none⟩)) yo) y2 (fun q _ hq=>by simp[un,hq]) (fun _ _ h=>h)
     first|exact h|(rw[a0Y]at h;exact h)
    have c0:OL QC 3 (un (un N (some ⟨H,0,none⟩)) xo) z.drew.heap.size 38 w9 yo n (List.replicate n 0):=by
     have h:=O.ext QC.elem (Z:=un (un N (some ⟨H,0,none⟩)) xo) y2 (fun q _ hq=>by simp[un,hq]) (fun _ _ h=>h)
     first|exact h|(rw[a0Y]at h;exact h)
    have a8:Ext z w9:=ExtX.box (d9.trans EA) y2 S;have a0:=Nat.lt_of_lt_of_le M y2.size;go_wp2_with fail
    go_meet
    case rel=>exact⟨H,xo,yo,rfl,y1,b9,c0,S,a0,a8⟩
 case rest=>
  obtain⟨g,co,lo,rfl,bg,i0,i3,S,C3,s8⟩:=hcut;obtain⟨Z1,g1⟩:∃Z1,un N (some ⟨g,0,none⟩)=Z1:=⟨_,rfl⟩;rw[g1]at i0 i3;have l2:∀k,ob (some ⟨g,0,none⟩) k=true->Z1 k=true:=fun k E=>by rw[<-g1];exact a0r E
  have u4:Z1 g=true:=l2 g (by simp[ob]);have A4:Hid (∀k,k<z.heap.size->Z1 k=true->N k=true):=hid fun k E h=>by
   rw[<-g1]at h;by_cases h0:N k=true
   ·exact h0
   ·have:g=k:=by simpa[un,h0,ob]using h
    omega
  have A0:Hid (∀k,X k=true->Z1 k=true):=hid fun k E=>by rw[<-g1];exact a0i (A1.out k E)
  have A7:Hid (∀k,ob (some ⟨b,0,none⟩) k=true->Z1 k=true):=hid fun k E=>by rw[<-g1];exact a0i (I0.out k E)
  have p8:HX Z1 wc:=fun k E=>by
   rw[<-g1]at E;by_cases h0:N k=true
   ·exact z7.ext s8 k h0
   ·have:g=k:=by simpa[un,h0,ob]using E
    omega
  have I6:ob co g=false:=by
   cases hq:ob co g
   ·rfl
   ·have:=(a1a (i0.1 g hq)).1;rw[u4]at this;cases this
  have J2:ob lo g=false:=by
   cases hq:ob lo g
   ·rfl
   ·have:=(a1a (i3.1 g hq)).1;rw[u4]at this;cases this
  have C5:Hd co c:=by have:=i0.hd;rwa[List.length_replicate]at this
  have C6:Hd lo n:=by have:=i3.hd;rwa[List.length_replicate]at this
  have k9:z.drew.heap.size=z.heap.size:=rfl;rw[k9]at i0 i3;have C7:Hd uo c:=by have:=Q.hd;rwa[p3.out]at this
  have d2:=hid fun j (hj:j<us.length) wr (h:Ext z wr)=>h.cell (a1h (Q.bl j hj));have iu:∀j,j<c->∀W,(Instr.indexAt 81 (.slice uo c uc) (.int .i64 (j:Int))).run Tryz.prog W= .ok (.pointer (some (adr uo j))) W:=fun j hj=>a0x a9n uo c uc .i64 j C7 hj rfl;have v9:=hid iu;have p7:FS Z1 z.heap.size g uo uc c n co lo (rkN us 0) (List.replicate c 0) (List.replicate n 0) wc:=⟨bg,i0,i3⟩;clear i0 i3 bg c2 d9 g1 k9 iu;go_wp2_with fail
  go_loopw [10] (fun kv wr=>∃j:Nat,kv= .int .i64 j/\j<=c/\FS Z1 z.heap.size g uo uc c n co lo (rkN us j) (List.replicate c 0) (List.replicate n 0) wr/\HX Z1 wr/\Ext z wr) (fun kv _=>c - (intOf kv).toNat)
  case atStart=>exact⟨0,rfl,Nat.zero_le _,p7,p8,s8⟩
  case round=>
   clear p7 p8 s8 C3;obtain⟨j,rfl,hj,⟨bx,d8,e0⟩,n3,g0⟩:=hrel;by_cases D2:j<c
   ·have D1:j<us.length:=by rw[p3.out];exact D2
    have kb:=d2.out j D1 wr g0;have a9:Hid (us.getD j false=us[j]):=hid (by simp[List.getD_eq_getElem?_getD,D1]);obtain⟨b1,k5⟩:∃b1,us[j]=b1:=⟨_,rfl⟩;rw[k5]at kb a9;have iu:=v9.out j D2;have h7:=b7x us j;have p0:=bx.cell 0 rfl;clear k5;cases b1
    ·have l8:=hid (b7w a9.out)
     clear a9;rw[<-l8.out]at bx;clear l8;go_wp2_with fail
     go_roundw
     case rel=>exact⟨j+1,by go_num,by omega,⟨bx,d8,e0⟩,n3,g0⟩
     case measure=>simp[intOf];omega
    ·have f7:=hid (b4A a9.out)
     obtain⟨r,hr⟩:∃r,rkN us j=r:=⟨_,rfl⟩;rw[hr]at f7 h7 bx p0;clear a9 hr;go_wp2_with ((show wpList _ _ _ (⟨_, .store _ _ _,_,_,_,_⟩::_) _ _);refine a1M (v:= .int .i64 _) a9B rfl rfl rfl rfl bx (by simp) ?_;intro w5 v5 x5)
     have j2:Ext z w5:=ExtX.box g0 x5 S;have j8:HX Z1 w5:=fun q hq=>Nat.lt_of_lt_of_le (n3 q hq) x5.size;have G8:=d8.ext QC.elem (Z:=un Z1 lo) x5 (fun q _ hq=>a0i (l2 q hq)) (fun _ _ h=>h);have H4:=e0.ext QC.elem (Z:=un Z1 co) x5 (fun q _ hq=>a0i (l2 q hq)) (fun _ _ h=>h);have v6:Bx w5 g #[.int .i64 ((rkN us (j+1):Nat):Int), .slice uo c uc, .slice co c c, .slice none 0 0, .bool false, .slice none 0 0, .slice none 0 0, .slice lo n n] 83:=by
      rw[f7.out];simpa using v5
     clear p0 v5;go_roundw
     case rel=>exact⟨j+1,by go_num,by omega,⟨v6,G8,H4⟩,j8,j2⟩
     case measure=>simp[intOf];omega
   ·have J0:j=c:=by omega
    subst J0;rw[g9.out]at bx;have A3:HX (un Z1 co) wr:=a3g n3 fun k E=>(d8.block E).2;have j7:HX (un (un Z1 co) lo) wr:=a3g A3 fun k E=>(e0.block E).2;have q9:∀k,k<z.heap.size->ob co k=false:=fun k E=>d8.ob_lt E;have r1:∀k,k<z.heap.size->ob lo k=false:=fun k E=>e0.ob_lt E;obtain⟨Z2,f0⟩:∃Z2,un (un Z1 co) lo=Z2:=⟨_,rfl⟩;rw[f0]at j7;have a4:Z2 g=true:=by rw[<-f0];exact a0i (a0i u4)
    have I5:∀k,ob co k=true->Z2 k=true:=fun k E=>by rw[<-f0];exact a0i (a0r E)
    have J1:∀k,ob lo k=true->Z2 k=true:=fun k E=>by rw[<-f0];exact a0r E
    have A5:∀k,k<z.heap.size->Z2 k=true->N k=true:=fun k E h=>by
     rw[<-f0]at h;refine A4.out k E ?_;cases h0:Z1 k
     ·simp[un,h0,q9 k E,r1 k E]at h
     ·rfl
    have t6:=hid fun v (h:Ext z v)=>(b5S h A5:Le (mk N z) (mk Z2 v));have F1:=hid fun v (h:Ext z v)=>MV.mono _ _ _ _ (t6.out v h) (v8.out z f9);have E6:=hid fun v (h:Ext z v)=>RV.mono _ _ _ _ (t6.out v h) (E5.out z f9);have s0:=hid fun v (h:Ext z v)=>Q.mono BlR.mono (t6.out v h);have m0:=hid fun v (h:Ext z v) (hZ:HX Z2 v)=>l9.out Z2 v uo uc hZ (F1.out v h) (s0.out v h);have K6:=g0;clear l9 g9;have p0:=bx.cell 0 rfl
    go_upto_if 62 with fail
    go_cut []from 60 to 138 (fun wx=>FS Z1 z.heap.size g uo uc j n co lo m Cf L wx/\HX Z2 wx/\Ext z wx)
    case first=>
     by_cases l7:m=0
     ·have B6:=l1.out l7
      have D3:=i8.out l7;rw[<-B6]at d8;rw[<-D3]at e0;subst l7;go_wp2_with fail
      go_meet
      case rel=>exact⟨⟨bx,d8,e0⟩,j7,g0⟩
     ·have d7:1<=m:=Nat.one_le_iff_ne_zero.2 l7
      clear l1 i8 l7;have K8:0<m:=d7;have L0:decide ((0:Int)<(m:Int))=true:=decide_eq_true (by omega);go_wp2_with fail
      refine(m0.out wr g0 j7).mono ?_;rintro ee w2 ⟨e2,u2,rfl,p2⟩;have i5:=j7.ext e2;have x8:=g0.trans e2;clear p0 m0;go_wp2_with fail
      refine(p1.out d7 Z2 w2 u2 i5 p2).mono ?_;rintro ee w3 ⟨e3,tv,rfl,v7⟩;have t2:=i5.ext e3;have x9:=x8.trans e3;have E9:=mkx MC.mono p2 e3;go_wp2_with fail
      refine(i9.out d7 Z2 w3 tv u2 t2 v7 E9).mono ?_;rintro ee w4 ⟨e4,gv,rfl,C4⟩;have j8:=t2.ext e4;have y0:=x9.trans e4;go_wp2_with fail
      refine(f2.out d7 Z2 w4 gv j8 C4).mono ?_;rintro ee w5 ⟨e5,J4⟩;rcases J4 with⟨A8,_⟩|⟨_,iv,rfl,D0⟩
      ·exact absurd A8 (o6.out d7)
      have t3:=j8.ext e5;have j2:=y0.trans e5;have E4:=mkx MC.mono v7 (e4.trans e5);go_wp2_with fail
      refine(c7.out d7 Z2 w5 tv t3 E4 (E6.out w5 j2)).mono ?_;rintro ee w6 ⟨e6,xy,rfl,G0⟩;have t4:=t3.ext e6;have y3:=j2.trans e6;have u5:=mkx MC.mono D0 e6;go_wp2_with fail
      refine(f1.out d7 Z2 w6 iv xy V t4 u5 G0 g6.out g5.out).mono ?_;rintro ee w7 ⟨e7,bv,rfl,B2⟩;rw[<-k8.out]at B2;have H7:=t4.ext e7;have H1:=y3.trans e7;have I9:=mkx MC.mono u5 e7;have m8:=e2.trans (e3.trans (e4.trans (e5.trans (e6.trans e7))));have F0:=mkx MC.mono p2 (e3.trans (e4.trans (e5.trans (e6.trans e7))));have w0:=bx.ext0 m8;have s4:=d8.ext0 QC.elem m8;have y8:=e0.ext0 QC.elem m8;obtain⟨bo,bc,rfl,I2,t7⟩:=B2;rw[c9.out]at I2 |-;have l5:Hd bo m:=by have:=t7.hd;rw[c9.out]at this;exact this
      have F5:=hid F0;obtain⟨po,pc,rfl,J5,D7⟩:=F0;rw[t1.out]at F5 J5 |-;have I8:Hd po n:=by have:=D7.hd;rw[t1.out]at this;exact this
      have C0:Hid (a2Q Cf 0=List.replicate j 0):=hid (by rw[a5U,i6.out]);have B9:Hid (a2Q L 0=List.replicate n 0):=hid (by rw[a5U,i4.out]);rw[<-C0.out]at s4;clear v7 C4 D0 G0 E4 u5 p2 E9 c7 i9 p1 f2 o6 bx d8 e0 A3 q9 r1 e2 e3 e4 e5 e6 e7 m8 j7 i5 t2 j8 t3 t4 n3 x8 x9 y0 j2 y3;go_wp2_with fail
      go_loopw [22,23] (fun av jv wz=>∃q:Nat,jv= .int .i64 q/\av= .int .i64 (rkN us q:Int)/\q<=j/\FS Z1 z.heap.size g uo uc j n co lo m (a2Q Cf q) (List.replicate n 0) wz/\HX Z2 wz/\ExtX Z2 w7 wz/\Ext z wz) (fun _ jv _=>j - (intOf jv).toNat)
      case atStart=>exact⟨0,rfl,rfl,Nat.zero_le _,⟨w0,s4,y8⟩,H7,ExtX.refl _,H1⟩
      case round=>
       clear w0 s4 y8;obtain⟨q,rfl,rfl,hq,⟨bx,hC,hL⟩,c3,b7,a2⟩:=hrel;by_cases l6:q<j
       ·have D8:q<us.length:=by rw[p3.out];exact l6
        have o7:q<Cf.length:=by rw[i6.out];exact l6
        have kb:=d2.out q D8 wr a2;have a9:Hid (us.getD q false=us[q]):=hid (by simp[List.getD_eq_getElem?_getD,D8]);obtain⟨b1,k5⟩:∃b1,us[q]=b1:=⟨_,rfl⟩;rw[k5]at kb a9;have iu:=v9.out q l6;have h7:=b7x us q;obtain⟨k3,k4⟩:=a3.out q l6 o7;clear k5;cases b1
        ·have l8:=hid (b7w a9.out)
         have J9:=hid (b2o o7 (k4 a9.out));clear a9 k3 k4;obtain⟨r,hr⟩:∃r,rkN us q=r:=⟨_,rfl⟩;rw[hr]at l8 h7 |-;rw[<-J9.out]at hC;clear hr;go_wp2_with fail
         go_roundw
         case rel=>exact⟨q+1,by go_num,by rw[l8.out],by omega,⟨bx,hC,hL⟩,c3,b7,a2⟩
         case measure=>simp[intOf];omega
        ·have f7:=hid (b4A a9.out)
         obtain⟨m3,B0⟩:=k3 a9.out;have f6:=hid (a7g o7);have u9:=hid B0;obtain⟨r,hr⟩:∃r,rkN us q=r:=⟨_,rfl⟩;simp only[hr]at f7 h7 m3 u9 |-;have D9:r<m:=by rw[c9.out]at m3;exact m3
         obtain⟨ge,oe,s1,a1,n1,c1,d1,k1,e1,q8,H8,B3,o8⟩:=t7.rat QC.shaped r m3;rw[u9.out]at o8;obtain⟨v,hv⟩:∃v,Cf[q]=v:=⟨_,rfl⟩;rw[hv]at o8 f6;obtain⟨gt,ot,l4⟩:∃gt ot,adr co (q*3)=⟨gt,ot,none⟩:=⟨_,_,rfl⟩;have c4:Ext wr wr.drew:=(ExtX.refl wr).drew;have G3:=bx.ext0 c4;obtain⟨z1,z2,z3⟩:=B3.out Z2 wr b7 H8;have hS:wr.drew.cell? ⟨g,2,none⟩=some (.slice co j j)/\wr.drew.cell? ⟨ge,oe,none⟩=some (.bool s1)/\wr.drew.cell? ⟨ge,oe+1,none⟩=some (.slice a1 n1 c1)/\wr.drew.cell? ⟨ge,oe+2,none⟩=some (.slice d1 k1 e1):=⟨G3.cell 2 rfl,c4.cell z1,c4.cell z2,c4.cell z3⟩;have i1:∀W,(Instr.indexAt 25 (.slice bo m bc) (.int .i64 (r:Int))).run Tryz.prog W= .ok (.pointer (some ⟨ge,oe,none⟩)) W:=by rw[<-q8];exact a0h a0w bo m bc .i64 r l5 D9
         have i2:∀W,(Instr.indexAt 25 (.slice co j j) (.int .i64 (q:Int))).run Tryz.prog W= .ok (.pointer (some ⟨gt,ot,none⟩)) W:=by rw[<-l4];exact a0h a0w co j j .i64 q C5 l6
         have F3:QC (mk (un (un Z1 lo) co) wr.drew) (.agg #[.bool s1, .slice a1 n1 c1, .slice d1 k1 e1]) v:=by
          have h9:=mkx QC.mono (QC.mono _ _ _ _ (a0v b7 fun _ h=>h) o8) c4;rw[<-f0,a0Y]at h9;rw[a0Y]
          first|exact h9|(rw[a0Y];exact h9)|(refine QC.mono _ _ _ _ (a1v fun k _ E=>?_) h9;simpa[un,Bool.or_comm,Bool.or_assoc,Bool.or_left_comm]using E)
         have x1:=hC.ext0 QC.elem c4;have u3:q<(a2Q Cf q).length:=by rw[a5B (by omega)];exact o7
         clear a9 k3 k4 B0 u9 hr B3 o8 q8 hv z1 z2 z3 m3;go_wp2_with fail
         (try simp only[Act.put])
         refine a0z 8 (fun D=>D.cell? ⟨g,2,none⟩=some (.slice co j j)/\D.cell? ⟨ge,oe,none⟩=some (.bool s1)/\D.cell? ⟨ge,oe+1,none⟩=some (.slice a1 n1 c1)/\D.cell? ⟨ge,oe+2,none⟩=some (.slice d1 k1 e1)) (by kernel_rfl) (by kernel_rfl) hS (fun A f=>?_);refine kt 0 f ?_;refine kt 1 f ?_;refine kt 2 f ?_;refine kt 3 f ?_;refine kt 4 f ?_;refine kt 5 f ?_;refine kt 6 f ?_;refine kt 7 f ?_;refine kl 8 (fun K J=>?_)
         (refine a4K rfl rfl a6n QC.elem q rfl l4 x1 u3 (.agg #[.bool s1, .slice a1 n1 c1, .slice d1 k1 e1]) v rfl F3 ?_;intro w9 n0 a8)
         refine J.out _ _ ?_;clear J K
         (try simp only[Act.put])
         rw[f6.out]at n0;have j5:=(ExtX.of c4).trans a8;have s3:=bx.ext j5 I6;have n2:=hL.ext QC.elem (Z:=un Z1 co) j5 (fun k _ E=>a0r E) (fun _ _ h=>h);have t5:HX Z2 w9:=fun k E=>Nat.lt_of_lt_of_le (c3 k E) j5.size;have j3:=b7.trans (j5.weaken fun k _ E=>by
          cases h0:ob co k
          ·rfl
          ·rw[I5 k h0]at E;cases E)
         have y5:Ext z w9:=a2.then_ j5 fun k E _=>hC.ob_lt E;clear A f hS i1 i2 F3 x1;go_wp2_with fail
         go_roundw
         case rel=>exact⟨q+1,by go_num,by rw[f7.out];go_num,by omega,⟨s3,n0,n2⟩,t5,j3,y5⟩
         case measure=>simp[intOf];omega
       ·have J6:q=j:=by omega
        subst J6;have o0:a2Q Cf q=Cf:=by rw[<-i6.out];exact a5V Cf
        rw[o0]at hC;rw[<-B9.out]at hL;clear a3 t7 d2 o0;go_wp2_with fail
        go_loopw [24] (fun iv wz=>∃i:Nat,iv= .int .i64 i/\i<=n/\FS Z1 z.heap.size g uo uc q n co lo m Cf (a2Q L i) wz/\HX Z2 wz/\ExtX Z2 w7 wz/\Ext z wz) (fun iv _=>n - (intOf iv).toNat)
        case atStart=>exact⟨0,rfl,Nat.zero_le _,⟨bx,hC,hL⟩,c3,b7,a2⟩
        case round=>
         clear bx hC hL c3 b7 a2;obtain⟨i,rfl,hi,⟨bx,hC,hL⟩,c3,b7,a2⟩:=hrel;by_cases o5:i<n
         ·have u7:i<U.length:=by rw[t1.out];exact o5
          have u6:i<L.length:=by rw[i4.out];exact o5
          obtain⟨ra,rc,A2,t8,B4,J7⟩:=D7.row i u7;have h8:RC (mk Z2 w7) (.slice ra U[i].length rc) U[i]:=⟨ra,rc,rfl,B4,J7⟩;have o9:=hid (List.getElem_mem u7);have g3:=hid (H6.out U[i] o9.out);have s9:=j6.out i u7 u6;have f6:=hid (a7g u6);rw[g3.out]at t8 h8;obtain⟨row,E3⟩:∃row,U[i]=row:=⟨_,rfl⟩;rw[E3]at h8 g3 s9 o9;rw[s9]at f6;have K5:=t8.out Z2 wr b7 A2;have K7:∀W,(Instr.indexAt 53 (.slice po n pc) (.int .i64 (i:Int))).run Tryz.prog W= .ok (.pointer (some (adr po i))) W:=a0x a0p po n pc .i64 i I8 o5 rfl;have g4:=RC.mono _ _ _ _ (a0v b7 fun _ h=>h) h8;have C9:=MC.mono _ _ _ _ (a0v b7 fun _ h=>h) I9;have A6:=f1.out d7 Z2 wr iv _ row c3 C9 g4 g3.out (m4.out row o9.out);clear E3 s9 C9;go_wp2_with fail
          refine A6.mono ?_;rintro ee w8 ⟨e8,vv,rfl,F6⟩;clear A6;have c4:Ext w8 w8.drew:=(ExtX.refl w8).drew;have f8:=e8.trans c4;have x0:=bx.ext0 f8;have G9:=hC.ext0 QC.elem f8;have H5:=hL.ext0 QC.elem f8;have p9:=c3.ext f8;have p6:ExtX Z2 w7 w8.drew:=b7.trans (ExtX.of f8);have x4:=a2.trans f8;have v4:=mkx RC.mono g4 f8;have F7:=mkx RC.mono F6 c4;have u3:i<(a2Q L i).length:=by rw[a5B (by omega)];exact u6
          obtain⟨gt,ot,l4⟩:∃gt ot,adr lo (i*3)=⟨gt,ot,none⟩:=⟨_,_,rfl⟩;have i2:∀W,(Instr.indexAt 25 (.slice lo n n) (.int .i64 (i:Int))).run Tryz.prog W= .ok (.pointer (some ⟨gt,ot,none⟩)) W:=by rw[<-l4];exact a0h a0w lo n n .i64 i C6 o5
          have hS:Hid (∀D,Ext w8.drew D->D.cell? ⟨g,7,none⟩=some (.slice lo n n)/\D.cell? (adr po i)=some (.slice ra m rc)):=hid fun D h=>⟨(x0.ext0 h).cell 7 rfl,t8.out Z2 D (p6.trans (ExtX.of h)) A2⟩;have B8:=g7.out Z2 w8.drew _ vv row p9 o9.out v4 F7;clear K5 g4 h8 F6 bx hC hL c3 b7 a2;go_wp2_with fail
          (try simp only[Act.put])
          refine a0z 10 (fun D=>D.cell? ⟨g,7,none⟩=some (.slice lo n n)/\D.cell? (adr po i)=some (.slice ra m rc)) (by kernel_rfl) (by kernel_rfl) (hS.out _ (ExtX.refl _)) (fun A f=>?_);refine kt 0 f ?_;refine kt 1 f ?_;refine kt 2 f ?_;refine kt 3 f ?_;refine kt 4 f ?_;refine kt 5 f ?_;refine kt 6 f ?_;refine kt 7 f ?_;refine ks 8 (fun K J=>?_);go_simp
          ((with_reducible refine B8.mono ?_);rintro ee w9 ⟨e9,dv,rfl,g2⟩)
          refine kcn J (hS.out _ e9) (fun A=>?_);clear J K;obtain⟨s6,a6,n6,c6,d6,k6,e6,rfl⟩:=g2.shape;have n2:=H5.ext0 QC.elem e9;have n0:=G9.ext0 QC.elem e9;have s3:=x0.ext0 e9;have x7:=x4.trans e9;have j3:ExtX Z2 w7 w9:=p6.trans (ExtX.of e9);have t5:=p9.ext e9;have g8:QC (mk (un (un Z1 co) lo) w9) (.agg #[.bool s6, .slice a6 n6 c6, .slice d6 k6 e6]) (a1Z row (a2s I row)):=by rw[f0];exact g2
          refine kt 9 f ?_;refine kl 10 (fun K J=>?_)
          (refine a4K rfl rfl a6n QC.elem i rfl l4 n2 u3 (.agg #[.bool s6, .slice a6 n6 c6, .slice d6 k6 e6]) _ rfl g8 ?_;intro wq y9 j4)
          refine J.out _ _ ?_;clear J K
          (try simp only[Act.put])
          rw[f6.out]at y9;have G4:=s3.ext j4 J2;have H0:=n0.ext QC.elem (Z:=un Z1 lo) j4 (fun k _ E=>a0r E) (fun _ _ h=>h);have H9:HX Z2 wq:=fun k E=>Nat.lt_of_lt_of_le (t5 k E) j4.size;have y4:=j3.trans (j4.weaken fun k _ E=>by
           cases h0:ob lo k
           ·rfl
           ·rw[J1 k h0]at E;cases E)
          have y6:Ext z wq:=x7.then_ j4 fun k E _=>n2.ob_lt E;clear A f hS i2 B8 g2 g8;go_wp2_with fail
          go_roundw
          case rel=>exact⟨i+1,by go_num,by omega,⟨G4,H0,y9⟩,H9,y4,y6⟩
          case measure=>simp[intOf];omega
         ·have f2:i=n:=by omega
          subst f2;have o0:a2Q L i=L:=by rw[<-i4.out];exact a5V L
          rw[o0]at hL;go_wp2_with fail
          go_meet
          case rel=>exact⟨⟨bx,hC,hL⟩,c3,a2⟩
    case rest=>
     obtain⟨⟨bx,hC,hL⟩,c3,a2⟩:=hcut;clear m0 l1 i8 a3 c7 f1 i9 p1 f2 o6 g7 o4 m4 j6 d2 v9 p0;obtain⟨Z3,k0⟩:∃Z3,un Z1 lo=Z3:=⟨_,rfl⟩;obtain⟨Z4,n5⟩:∃Z4,un Z1 co=Z4:=⟨_,rfl⟩;have m9:∀k,Z3 k=true->Z2 k=true:=fun k E=>by
      rw[<-k0]at E;rw[<-f0];rcases(by simpa[un]using E:Z1 k=true\/ob lo k=true)with h|h
      ·exact a0i (a0i h)
      ·exact a0r h
     have o1:∀k,ob (some ⟨g,0,none⟩) k=true->Z3 k=true:=fun k E=>by rw[<-k0];exact a0i (l2 k E)
     have C1:∀k,ob (some ⟨g,0,none⟩) k=true->Z4 k=true:=fun k E=>by rw[<-n5];exact a0i (l2 k E)
     have i5:HX Z3 wc:=fun k E=>c3 k (m9 k E);have s5:=hC.sl QC.elem;have t0:=hL.sl QC.elem;rw[k0]at s5;rw[n5]at t0;have B5:RC (mk Z3 wc) (.slice co j j) Cf:=⟨co,j,by rw[i6.out],by rw[i6.out];exact Nat.le_refl _,s5⟩;have J3:RC (mk Z4 wc) (.slice lo n n) L:=⟨lo,n,by rw[i4.out],by rw[i4.out];exact Nat.le_refl _,t0⟩;have K4:=MV.mono _ _ _ _ (a1v fun k _ E=>m9 k E) (F1.out wc a2);have K1:=RV.mono _ _ _ _ (a1v fun k _ E=>m9 k E) (E6.out wc a2);have F4:=(s0.out wc a2).mono BlR.mono (a1v (X:=Z3) fun k _ E=>m9 k E);have A9:b≠g:=by have:=f9.size;omega
     have F9:w.heap.size<=g:=by have:=f9.size;omega
     have q2:=bx.cell 2 rfl;clear s5 t0 hC hL;go_wp2_with fail
     refine(j0.out Z3 wc _ i5 K4 K1 B5).mono ?_;rintro ee w2 ⟨e2,rv,rfl,E1⟩;have m5:=hid E1;obtain⟨ro,rc,rfl,J8,E0⟩:=E1;rw[g3.out]at m5 J8 |-;have G1:=bx.ext0 e2;have b2:=b0.ext0 (f9.trans (a2.trans e2));have z8:=i5.ext e2;clear q2 E0 bx j0;go_wp2_with ((show wpList _ _ _ (⟨_, .store _ _ _,_,_,_,_⟩::_) _ _);refine a1M (v:= .slice ro n rc) a9k rfl rfl rfl rfl G1 (by simp) ?_;intro w3 v3 x3;have q3:=v3.cell 3 rfl)
     have z9:HX Z3 w3:=fun k E=>Nat.lt_of_lt_of_le (z8 k E) x3.size;have b3:=b2.ext x3 (a0b A9);have E2:=RC.mono _ _ _ _ (a0v x3 o1) m5.out;have B7:=u1.out Z3 w3 _ z9 E2;refine B7.mono ?_;rintro ee w4 ⟨e4,dv,rfl,g2⟩;have g8:=hid g2;obtain⟨s',a',n',c',d',k',e',rfl⟩:=g2.shape;have G2:=v3.ext0 e4;have b4:=b3.ext0 e4;have K9:b<w4.heap.size:=a2t (b4.cell 0 rfl);clear q3 B7 v3 g2 b0 b2 b3;go_wp2_with ((show wpList _ _ _ (⟨_, .store _ _ _,_,_,_,_⟩::_) _ _);first|(refine a0a a4n rfl rfl bb rfl rfl (by intro v hv;simp at hv;rcases hv with rfl|rfl|rfl|rfl|rfl|rfl|rfl|rfl<;>rfl) ?_;intro w6 v6 x6)|(refine a3O a0o rfl rfl G2 (by simp) rfl (by intro v hv;simp at hv;rcases hv with rfl|rfl|rfl<;>rfl) ?_;intro w5 v5 x5;have bb:=b4.ext x5 (a0b A9);have q0:=v5.cell 0 rfl;have q1:=v5.cell 1 rfl;have q2:=v5.cell 2 rfl;have q3:=v5.cell 3 rfl;have q4:=v5.cell 4 rfl;have q5:=v5.cell 5 rfl;have q6:=v5.cell 6 rfl;have q7:=v5.cell 7 rfl))
     have H3:Ext w w5:=ExtX.box ((ExtX.box (hE.trans (f9.trans (a2.trans e2))) x3 F9).trans e4) x5 F9;have n9:Le (mk Z3 w5) (mk X w6):=a2c x6 (fun k E=>by rw[<-k0];exact a0i (A7.out k E)) (fun k E=>by rw[<-k0];exact a0i (A0.out k E));have I7:Le (mk Z4 w5) (mk X w6):=a2c x6 (fun k E=>by rw[<-n5];exact a0i (A7.out k E)) (fun k E=>by rw[<-n5];exact a0i (A0.out k E));have D4:Le (mk Z3 w3) (mk Z3 w5):=(a0m e4).trans (a0v x5 o1);have r2:Le (mk Z3 w2) (mk Z3 w5):=(a0v x3 o1).trans D4;have D5:Le (mk Z4 wc) (mk Z4 w5):=(a0m e2).trans ((a0v x3 C1).trans ((a0m e4).trans (a0v x5 C1)));have r3:Le (mk Z3 wc) (mk Z3 w5):=(a0m e2).trans r2;exact bodyPost_ret (a0M rfl rfl a4n v6 rfl) rfl (b6.out _ _ _ _ _ _ _ _ _ _ _ _ _ _ _ _ (ExtX.box H3 x6 I3) K3 (F4.mono BlR.mono (r3.trans n9)) (RC.mono _ _ _ _ (r3.trans n9) B5) (RC.mono _ _ _ _ (r2.trans n9) m5.out) (QC.mono _ _ _ _ ((a0v x5 o1).trans n9) g8.out) (RC.mono _ _ _ _ (D5.trans I7) J3))
theorem a7K(X:Nat->Bool)(w:World)(u v:Value)(l m:List Rat)(hX:HX X w)(hu:RV (mk X w) u l)(hv:RV (mk X w) v m)(hn:l.length<=1000000)(q:m.length=l.length)(A:∀k,k<=l.length->hq (a2U l m k)<=68719476736)(B:∀k,k<l.length->hq (l.getD k 0*m.getD k 0)<=68719476736):Calls Tryz.prog 50 #[u,v] w (a1Y X w QC (a1Z l m)):=by
 obtain⟨ao,ca,rfl,c2,a4⟩:=hu;obtain⟨bo,cb,rfl,c3,a5⟩:=hv;have T:=a4.hd;have U:=a5.hd;obtain⟨W,hW,hE,G,t,hz⟩:=a1x w #[.bool false, .slice none 0 0, .slice none 0 0] #[.bool false, .slice none 0 0, .slice none 0 0] 38 38;have J:HX (a0e X w.heap.size 2) W:=hX.boxes hz;have h0:QC (mk (a0e X w.heap.size 2) W) (.agg #[.bool false, .slice none 0 0, .slice none 0 0]) (a2U l m 0):=QC.zero _;obtain⟨n,p⟩:∃n,l.length=n:=⟨_,rfl⟩;rw[p]at hn q A B c2 T |-;rw[q]at c3 U |-;have a0:=hid p;have a1:=hid q;have L:=hid A;have M:=hid B;have Q:Hid (a2U l m n=a1Z l m):=hid (by unfold a1Z;rw[p]);clear p q A B;go_enter Tryz.func50,Tryz.ntmps50
 go_wp2_with fail
 obtain⟨b,hb⟩:∃b,w.heap.size=b:=⟨_,rfl⟩;have Z:Hid (∀wr,Ext w wr->Le (mk X w) (mk (a0e X b 2) wr)):=hid fun wr h=>by rw[<-hb];exact a0l h
 have f3:w.heap.size<=b:=by omega
 rw[hb]at G t J h0 |-;clear hW;go_loopw [9] (fun k wr=>∃(i:Nat) (s:Bool) (a:Option Addr) (n' c':Nat) (d:Option Addr) (kk e:Nat),k= .int .i64 i/\i<=n/\Bx wr b #[.bool false, .slice none 0 0, .slice none 0 0] 38/\Bx wr (b+1) #[.bool s, .slice a n' c', .slice d kk e] 38/\QC (mk (a0e X b 2) wr) (.agg #[.bool s, .slice a n' c', .slice d kk e]) (a2U l m i)/\HX (a0e X b 2) wr/\Ext w wr) (fun k _=>n - (intOf k).toNat)
 case atStart=>exact⟨0,_,_,_,_,_,_,_,rfl,Nat.zero_le _,G,t,h0,J,hE⟩
 case round=>
  obtain⟨i,s,a,n',c',d,kk,e,rfl,hi,G,t,hq,c1,o⟩:=hrel;by_cases E:i<n
  ·have V:i<l.length:=by rw[a0.out];exact E
   have Y:i<m.length:=by rw[a1.out];exact E
   have d0:=a4.mono QV.mono (Z.out wr o);have a8:=a5.mono QV.mono (Z.out wr o);obtain⟨g1,o1,s1,p1,n1,q1,d1,k1,e1,R,e8,O,a2⟩:=d0.rat QV.shaped i V;obtain⟨g2,o2,s2,p2,n2,q2,d2,k2,e2,S,e9,P,a3⟩:=a8.rat QV.shaped i Y;have gl:Hid (l.getD i 0=l[i]):=hid (by simp[List.getD_eq_getElem?_getD,V]);have gm:Hid (m.getD i 0=m[i]):=hid (by simp[List.getD_eq_getElem?_getD,Y]);have r:Hid (a2U l m i+l[i]*m[i]=a2U l m (i+1)):=hid (by rw[<-gl.out,<-gm.out];rfl);have N:=hid (L.out i hi);have C:=hid (M.out i E);rw[gl.out,gm.out]at C;obtain⟨x,hx⟩:∃x,l[i]=x:=⟨_,rfl⟩;obtain⟨y,hy⟩:∃y,m[i]=y:=⟨_,rfl⟩;rw[hx,hy]at r C;rw[hx]at a2;rw[hy]at a3;have i1:∀W,(Instr.indexAt 25 (.slice ao n ca) (.int .i64 (i:Int))).run Tryz.prog W= .ok (.pointer (some ⟨g1,o1,none⟩)) W:=by rw[<-R];exact a0h a0w ao n ca .i64 i T (by omega)
   have i2:∀W,(Instr.indexAt 25 (.slice bo n cb) (.int .i64 (i:Int))).run Tryz.prog W= .ok (.pointer (some ⟨g2,o2,none⟩)) W:=by rw[<-S];exact a0h a0w bo n cb .i64 i U (by omega)
   obtain⟨D,hD⟩:∃D,a2U l m i=D:=⟨_,rfl⟩;obtain⟨D2,z⟩:∃D2,a2U l m (i+1)=D2:=⟨_,rfl⟩;rw[hD]at hq r N;rw[z]at r;have H:=hid z;clear hx hy R S hD z;have c:Ext wr wr.drew:=(ExtX.refl wr).drew;have b5:=G.ext0 c;have g:=t.ext0 c;have b2:=g.cell 0 rfl;have b3:=g.cell 1 rfl;have b4:=g.cell 2 rfl;obtain⟨d5,d8,d9⟩:=O.out noY wr.drew c rfl;obtain⟨e0,e3,e4⟩:=P.out noY wr.drew c rfl;have K:=c1.ext c;have d3:QV (mk (a0e X b 2) wr.drew) (.agg #[.bool s1, .slice p1 n1 q1, .slice d1 k1 e1]) x:=mkx QV.mono a2 c;have d4:QV (mk (a0e X b 2) wr.drew) (.agg #[.bool s2, .slice p2 n2 q2, .slice d2 k2 e2]) y:=mkx QV.mono a3 c;have c8:QV (mk (a0e X b 2) wr.drew) (.agg #[.bool s, .slice a n' c', .slice d kk e]) D:=(mkx QC.mono hq c).qv N.out;clear O P;go_wp2_with fail
   go_region_with (first|(go_at_call 52;(with_reducible refine(b1I (a0e X b 2) wr.drew _ _ _ _ K d3 d4).mono ?_);rintro ee w6 ⟨t1,u6,rfl,a9⟩;obtain⟨s6,a6,n6,c6,d6,k6,e6,rfl⟩:=a9.shape;have I:=K.ext t1;have c9:=mkx QV.mono c8 t1;have c5:=a9.qv C.out;have j:=g.ext0 t1;have m0:=j.cell 0 rfl;have m1:=j.cell 1 rfl;have m2:=j.cell 2 rfl)|(go_at_call 51;(with_reducible refine(b2R (a0e X b 2) w6 _ _ _ _ I c9 c5).mono ?_);rintro ee w7 ⟨t7,u7,rfl,F⟩;obtain⟨s7,a7,n7,c7,d7,k7,e7,rfl⟩:=F.shape;rw[r.out]at F;have f:=j.ext0 t7;have g0:=f.cell 0 rfl;have b7:=f.cell 1 rfl;have b8:=f.cell 2 rfl;have f0:=f.frozen 0;have f1:=f.frozen 1;have f2:=f.frozen 2))
   all_goals
    obtain⟨z1,z2⟩:=f.set3 (.bool s7) (.slice a7 n7 c7) (.slice d7 k7 e7);have h8:=QC.mono _ _ _ _ (a0g (lo:=b) (nb:=2) z2 (by omega) (by omega)) F;have b6:=((b5.ext0 t1).ext0 t7).ext z2 (a0b (by omega));have b9:Ext w _:=ExtX.box (o.trans (c.trans (t1.trans t7))) z2 (by omega);have c0:=(I.ext t7).ext z2;rw[<-H.out]at h8;clear b2 b3 b4 d5 d8 d9 e0 e3 e4 m0 m1 m2 g0 b7 b8 f0 f1 f2 i1 i2;go_wp2_with fail
    go_roundw
    case rel=>exact⟨i+1,_,_,_,_,_,_,_,by go_num,by omega,b6,z1,h8,c0,b9⟩
    case measure=>simp[intOf];omega
  ·have c4:i=n:=by omega
   subst c4;rw[Q.out]at hq;have b2:=t.cell 0 rfl;have b3:=t.cell 1 rfl;have b4:=t.cell 2 rfl;go_wp2_with ((with_reducible show wpList _ _ _ (⟨_, .store _ _ _,_,_,_,_⟩::_) _ _);refine a0a a0o rfl rfl G rfl rfl (a1z _ _ _ _ _ _ _) ?_;intro w7 r1 r2)
   have h7:=QC.mono _ _ _ _ a0k (QC.mono _ _ _ _ (a0g r2 (by omega) (by omega)) hq);exact bodyPost_ret (a0d rfl rfl a0o r1 rfl) rfl ⟨ExtX.box o r2 (by omega),_,rfl,h7⟩
theorem c0Q(X:Nat->Bool)(w:World)(u v:Value)(x y:Rat)(z:QC (mk X w) u x)(B:QC (mk X w) v y)(hx:hq x<=68719476736):Calls Tryz.prog 16 #[u,v] w (b2N w (decide (x=y))):=by
 replace hx:=hid hx
 obtain⟨V,G,T,I,K,R,M,rfl⟩:=z.shape;obtain⟨Y,H,U,J,L,S,N,rfl⟩:=B.shape;obtain⟨W,Z,r,d,f,hz⟩:=a1x w #[.bool V, .slice G T I, .slice K R M] #[.bool Y, .slice H U J, .slice L S N] 38 38;have A:=mkx QC.mono z r;have C:=mkx QC.mono B r;obtain⟨b,O⟩:∃b,w.heap.size=b:=⟨_,rfl⟩;rw[O]at d f hz;have k:=d.cell 0 rfl;have l:=d.cell 1 rfl;have n:=d.cell 2 rfl;have o:=f.cell 0 rfl;have p:=f.cell 1 rfl;have q:=f.cell 2 rfl;clear z B;obtain⟨i,_,D⟩:=A.num;obtain⟨j,_,E⟩:=C.num;have g:=hid (Nat.le_trans (a0B x) (Nat.le_trans hx.out (by decide:(68719476736:Nat)<=1099511627776)));have s:=hid (Nat.le_trans (b9H x) (Nat.le_trans hx.out (by decide:(68719476736:Nat)<=1099511627776)));by_cases c:x.num=y.num
 ·have t:Hid (decide (dn x=dn y)=decide (x=y)):=hid (by
   rw[Bool.eq_iff_iff,decide_eq_true_eq,decide_eq_true_eq];constructor
   ·intro h
    refine Rat.ext c ?_;have:=a4e x;have:=a4e y;unfold dn at h;have:=x.den_nz;have:=y.den_nz;split at h<;>split at h<;>omega
   ·rintro rfl;rfl)
  have hd:Hid (decide (x.num=y.num)=true):=hid (decide_eq_true c);clear c;go_enter Tryz.func16,Tryz.ntmps16
  go_wp2_with fail
  refine(b6U X W _ _ _ _ i j g.out).mono ?_;rintro e F ⟨a,rfl⟩;rw[hd.out];have P:=(d.ext0 a).cell 2 rfl;have Q:=(f.ext0 a).cell 2 rfl;clear k l n o p q;go_wp2_with fail
  refine(b6S X F _ _ _ _ (mkx NC.mono D a) (mkx NC.mono E a) s.out).mono ?_;rintro e w6 ⟨rfl,m,rfl⟩;go_wp2_with fail
  go_ret
  exact⟨(r.trans a).drewN m,a0n t.out⟩
 ·have t:Hid (false=decide (x=y)):=hid (decide_eq_false (by rintro rfl;exact c rfl)).symm
  have hd:Hid (decide (x.num=y.num)=false):=hid (decide_eq_false c);clear c;go_enter Tryz.func16,Tryz.ntmps16
  go_wp2_with fail
  refine(b6U X W _ _ _ _ i j g.out).mono ?_;rintro e F ⟨a,rfl⟩;rw[hd.out];clear k l n o p q;go_wp2_with fail
  go_ret
  exact⟨r.trans a,a0n t.out⟩
end Go.Proofs.YtgbbpgflopajaaaGreat
namespace Go.Rep
open Go.RowKit Go.Lim
section
variable {P:Program} {ops:Array Oper} {Q:Exit->Act->World->Prop} {a:Act} {w:World}
variable {α:Type} {R:Mem->Value->α->Prop} {sz:Nat} {X:Nat->Bool} {base:Nat} {e:TypeId} {ao:Option Addr} {cap:Nat} {l:List α}
theorem a2A{o:Oper}{K:Act->World->Prop}{E:Prop}{t j:Nat}{z:Value}{s x:Operand}{r:Option Addr}{B:Nat}(I:o.guard=none)(y:o.op=Op.call {callee:=Callee.builtin Builtin.append,args:=#[s,x],argTypes:=#[t,t]})(T:SliceT P t e sz j z)(A:z.cells.size=sz)(C:Elem R sz)(d:base<=w.heap.size)(H:∀k,X k=true->k<w.heap.size)(i:List α)(n m:Nat)(L:l.length=n)(J:i.length=m)(N:a.eval s= .slice ao n cap)(hx:a.eval x= .slice r m B)(h:OL R sz X base e w ao cap l)(hxs:Sl R sz (mk (un X ao) w) r i)(f:(n+m)*j<=140737488355328)(p:n+m<=9223372036854775807)(G:∀c b q,OL R sz X base e q c b (l++i)->ExtX (ob ao) w q->(c=ao\/∃g,c=some ⟨g,0,none⟩/\w.heap.size<=g)->K (a.put o.dst (.slice c (n+m) b)) q):if Region.wanted o (yielded ops a.tmps)=true then Oper.wp P o a w K Q else E:=by
 have O:Region.wanted o (yielded ops a.tmps)=true:=by simp[Region.wanted,I]
 rw[if_pos O];subst L J;obtain⟨S,D,u,v⟩:=hxs.at_ C;obtain⟨c,b,q,M,u,v,F⟩:=h.run_append (P:=P) T A C d H r B S i u D v f p o.type;unfold Oper.wp execOp;rw[y];simp only[resolve,invoke,builtin,Sem.run_bind,Sem.run_pure,Result.andThen_ok,List.map_toArray,List.map_cons,List.map_nil,N,hx];rw[M];have:=G c b q u v F;rw[show(l++i).length=l.length+i.length from by simp];exact this
end
end Go.Rep
