/- Parts of a proof: each theorem states what it proves, and its conditions. -/
import Derived.Test.YtidbbddagfnfbaaGreatSgM
import Derived.StillTailTactics
import Derived.Lib.SliceRun
namespace Go.Lin
open Go.Lim Go.Rep
def rkN (us:List Bool) (j:Nat):Nat:=((List.range j).filter fun i=>us.getD i false).length
theorem b4s {a:List Bool} {j:Nat} (h:a.getD j false=true):rkN a (j+1)=rkN a j+1:=by
 unfold rkN;rw[List.range_succ,List.filter_append,show List.filter (fun i=>a.getD i false) [j]= [j]from by simp only[List.filter,h],List.length_append];rfl
theorem b7D {a:List Bool} {j:Nat} (h:a.getD j false=false):rkN a (j+1)=rkN a j:=by
 unfold rkN;rw[List.range_succ,List.filter_append,show List.filter (fun i=>a.getD i false) [j]= []from by simp only[List.filter,h],List.append_nil]
theorem b7E (a:List Bool) (j:Nat):rkN a j<=j:=by
 unfold rkN;exact Nat.le_trans (List.length_filter_le _ _) (by rw[List.length_range];exact Nat.le_refl _)
theorem b1r {p:List Nat} {c:Nat} (b:p.Pairwise (· < ·)) (d:∀j∈p,j<c):(List.range c).filter (fun i=>(Go.Rep.usedL p c).getD i false)=p:=by
 rw[<-a6P b d];refine List.filter_congr fun j a=>?_;have a:=List.mem_range.1 a;simp[Go.Rep.usedL,List.getD_eq_getElem?_getD,a]
theorem b9z {p:List Nat} {c:Nat} (b:p.Pairwise (· < ·)) (a:∀j∈p,j<c):rkN (Go.Rep.usedL p c) c=p.length:=by unfold rkN;rw[b1r b a]
theorem c0W {p:List Nat} {c j:Nat} (m:p.Pairwise (· < ·)) (n:∀j∈p,j<c) (o:j<c) (b:j∈p):∃h:rkN (Go.Rep.usedL p c) j<p.length,p[rkN (Go.Rep.usedL p c) j]=j:=by
 have e:=b1r m n;obtain⟨d,rfl⟩:∃d,c=j+(d+1):=⟨c - j - 1,by omega⟩;rw[List.range_add,List.range_succ_eq_map,List.map_cons,List.filter_append]at e;have k:(Go.Rep.usedL p (j+(d+1))).getD (j+0) false=true:=by
  simp[Go.Rep.usedL,List.getD_eq_getElem?_getD,b]
 rw[List.filter_cons_of_pos (p:=fun i=>(Go.Rep.usedL p (j+(d+1))).getD i false) k]at e;have a:=congrArg List.length e;simp only[List.length_append,List.length_cons]at a;refine⟨by unfold rkN;omega,?_⟩;have g:p[rkN (Go.Rep.usedL p (j+(d+1))) j]? =some j:=by
  have f:=congrArg (fun l=>l[((List.range j).filter fun i=>(Go.Rep.usedL p (j+(d+1))).getD i false).length]?) e;simp only[List.getElem?_append_right (Nat.le_refl _),Nat.sub_self]at f;unfold rkN;rw[<-f];rfl
 exact(List.getElem?_eq_some_iff.1 g).2
theorem b2d {L:List Rat} {i:Nat} (h:i<L.length) (a:L[i]=0):a3p L (i+1)=a3p L i:=by
 unfold a3p;rw[List.take_succ_eq_append_getElem h,a,show L.length - i=(L.length - (i+1))+1 by omega,List.replicate_succ,List.append_assoc];rfl
theorem b6J {x:Mat} {y:List Rat} {n c j:Nat} (m:Shp n c x) (a:j<c) (h:j<(a7c x y n c).length):
  ((usedL (a1d x c).2 c).getD j false=true->∃b:rkN (usedL (a1d x c).2 c) j<(bU (pkL x (a1d x c).2) y n (a1d x c).2.length).length,(bU (pkL x (a1d x c).2) y n (a1d x c).2.length)[rkN (usedL (a1d x c).2 c) j]=(a7c x y n c)[j])/\((usedL (a1d x c).2 c).getD j false=false->(a7c x y n c)[j]=0):=by
 obtain⟨_,d,_⟩:=a1p m;have e:(a7c x y n c)[j]=b4K (a1d x c).2 (fn (bU (pkL x (a1d x c).2) y n (a1d x c).2.length)) j:=by simp[a7c]
 have l:(usedL (a1d x c).2 c).getD j false=decide (j∈(a1d x c).2):=by simp[usedL,List.getD_eq_getElem?_getD,a]
 have f:∀j∈(a1d x c).2,j<c:=fun j a=>by obtain⟨k,p,rfl⟩:=List.getElem_of_mem a;exact d.lt k p
 rw[e,l];constructor
 ·intro g
  obtain⟨b,o⟩:=c0W d.pw f a (of_decide_eq_true g);have i:=a6F d (fn (bU (pkL x (a1d x c).2) y n (a1d x c).2.length)) _ b;rw[o]at i;refine⟨by rw[b3C];exact b,?_⟩;rw[i];unfold fn;rw[List.getD_eq_getElem?_getD,List.getElem?_eq_getElem (by rw[b3C];exact b)];rfl
 ·intro g
  exact a5h _ (of_decide_eq_false g)
end Go.Lin
namespace Go.Rep
open Go.RowKit Go.Lim
section
variable {P:Program} {ops:Array Oper} {Q:Exit->Act->World->Prop} {a:Act} {w:World}
theorem a4z {α:Type} {R:Mem->Value->α->Prop} {sz:Nat} {X:Nat->Bool} {base b:Nat} {e:TypeId} {ao:Option Addr} {l:List α} {o:Oper} {K:Act->World->Prop} {E:Prop} {t:TypeId} {x y:Operand} (s:o.guard=none) (d:o.op= .store t x y) (n:TyI P t sz) (p:Elem R sz) (i:Nat) {A:Addr} (hx:a.eval x= .pointer (some A)) (C:adr ao (i*sz)=A)
  (h:OL R sz X base e w ao b l) (hi:i<l.length) (u:Value) (v:α) (B:a.eval y=u) (k:R (mk (un X ao) w) u v)
  (m:∀c,OL R sz X base e c ao b (l.set i v)->ExtX (ob ao) w c->K (a.put o.dst undef) c):
  if Region.wanted o (yielded ops a.tmps)=true then Oper.wp P o a w K Q else E:=by
 have j:Region.wanted o (yielded ops a.tmps)=true:=by simp[Region.wanted,s]
 rw[if_pos j];obtain⟨D,q,f⟩:=n;obtain⟨c,g,r,z⟩:=h.run_store (P:=P) q f p i hi u v k;rw[C]at g;unfold Oper.wp execOp;rw[d];simp[hx,B,Instr.storeAt,Instr.sureAddr,g,Result.andThen];exact m _ r z
end
end Go.Rep
namespace Go.Proofs.YtidbbddagfnfbaaGreat
open Go.RowKit Go.Rep Go.Lim Go.Lin
def FS (Z:Nat->Bool) (base g:Nat) (uo:Option Addr) (uc c n:Nat) (co lo:Option Addr) (rk:Nat) (C L:List Rat) (w:World):Prop:=
 Bx w g #[.int .i64 (rk:Int), .slice uo c uc, .slice co c c, .slice none 0 0, .bool false, .slice none 0 0, .slice none 0 0, .slice lo n n] 51/\OL QC 3 (un Z lo) base 45 w co c C/\OL QC 3 (un Z co) base 45 w lo n L
set_option maxRecDepth 100000 in
set_option maxHeartbeats 12800000 in
theorem b9A (X:Nat->Bool) (w:World) (u t:Value) (x:Mat) (y:List Rat) (n c B:Nat) (hX:HX X w) (hu:MV (mk X w) u x) (ht:RV (mk X w) t y) (t5:a7y x y=true) (d8:x.length=n) (p1:a0x x=c) (hn:n<=8) (hc:c<=4) (o4:BM B x) (m9:BR B y) (d3:1<=B) (O:B<=510/\n*(2*B+1)<=6540):
  Calls Tryz.prog 23 #[u,t] w (b4g X w (b9n x y n c)):=by
 obtain⟨W,hW,hE,b0,hz⟩:=a1g w #[.int .i64 0, .slice none 0 0, .slice none 0 0, .slice none 0 0, .bool false, .slice none 0 0, .slice none 0 0, .slice none 0 0] 51;have j3:HX (a0e X w.heap.size 1) W:=hX.boxes hz;have i6:Hid (∀D,Ext W D->Le (mk X w) (mk (a0e X w.heap.size 1) D)):=hid fun D h=>a0o (hE.trans h);obtain⟨b,hb⟩:∃b,w.heap.size=b:=⟨_,rfl⟩;rw[hb]at b0 hz j3 i6;have J4:w.heap.size<=b:=by omega
 obtain⟨N,n3⟩:∃N,a0e X b 1=N:=⟨_,rfl⟩;rw[n3]at j3 i6;obtain⟨hf,h1,G2,H7,i8⟩:=a2R.1 t5;obtain⟨b5,J9,_,r4,_⟩:=a0U hf;rw[d8]at h1;have I3:=r4 (by omega);rw[p1]at I3;rw[d8,p1]at b5;rw[d8]at i8;have k5:=a8S o4 d3;have hT:=(b1R b5 k5 hc (by omega)).2;obtain⟨_,hg,_,_⟩:=a1p b5;have f1:=Nat.le_trans (b7y b5) hc;have l1:∀j∈(a1d x c).2,j<c:=fun j hj=>by obtain⟨k,E,rfl⟩:=List.getElem_of_mem hj;exact hg.lt k E
 have j6:=b0j N W u t x y j3 (MV.mono _ _ _ _ (i6.out W (ExtX.refl _)) hu) (RV.mono _ _ _ _ (i6.out W (ExtX.refl _)) ht) (by omega);rw[t5]at j6;have l0:=hid fun D (hZ:HX N D) (h:MV (mk N D) u x)=>b1S N D u x n c hZ h hf d8 p1 h1 hT;have k2:=hid fun Z D (uo:Option Addr) (uc:Nat) (hZ:HX Z D) (h:MV (mk Z D) u x) (h2:Sl BlR 1 (mk Z D) uo (usedL (a1d x c).2 c))=>b4p Z D u uo uc x (a1d x c).2 n c hZ h h2 b5 (by omega) (by omega) hg.pw l1;have Q:=b8V b5 (a1d x c).2;have c4:=c0L o4 d3 (p:=(a1d x c).2);have d0:=hid fun(h:1<=(a1d x c).2.length)=>(b3B b5 f1).1;have l7:=b6h (y:=y) b5 hc;have a7:=hid fun j (hj:j<c) (h:j<(a7c x y n c).length)=>b6J (y:=y) b5 hj h;have b8:=a4e x y n c;rw[l7]at a7;have j2:=hid fun(h:(a1d x c).2.length=0)=>(by
  have F7:(a1d x c).2= []:=List.eq_nil_of_length_eq_zero h;refine a6G (n:=c) b8 List.length_replicate fun j hj=>?_;have h0:=(a6J (y:=y) b5).2.2.2 j hj (by rw[F7];simp)
  show fn (a1L x y n c) j=_
  rw[h0];simp[List.getD_eq_getElem?_getD,hj]:a1L x y n c=List.replicate c 0)
 have i0:=hid fun(h:(a1d x c).2.length=0)=>(by
  have h2:=Q;rw[h]at h2 |-;exact b3D h2:a8u (pkL x (a1d x c).2) n (a1d x c).2.length=List.replicate n 0)
 have g9:=hid (b9z hg.pw l1);have o9:=b3T (y:=y) (c:=c) k5 m9 hn hc O;have f4:=b3U b5 o4 m9 o9 d3 hc O;have d2:(a3G x y (a1L x y n c)).length=n:=by rw[a5i (by rw[i8,d8])];exact d8
 have j1:=hid fun Z D (v:Value) (hZ:HX Z D) (h:MV (mk Z D) u x) (h2:RV (mk Z D) t y) (h3:RC (mk Z D) v (a1L x y n c))=>b6w Z D u t v x y (a1L x y n c) n c 8500000 hZ h h2 (h3.rv fun q hq=>Nat.le_trans (o9 q hq) (by decide)) b5 i8 b8 (by omega) (by omega) (fun r hr q hq=>Nat.le_trans (o4 r hr q hq) (by omega)) o9 (by decide) (by decide);have t1:=a2g (l:=a3G x y (a1L x y n c)) (m:=a3G x y (a1L x y n c)) f4 f4 (by decide) (by rw[d2];omega) (by decide);have u5:=hid fun Z D (v:Value) (hZ:HX Z D) (h:RC (mk Z D) v (a3G x y (a1L x y n c)))=>a5l Z D v v _ _ hZ (h.rv fun q hq=>Nat.le_trans (f4 q hq) (by decide)) (h.rv fun q hq=>Nat.le_trans (f4 q hq) (by decide)) (by rw[d2];omega) rfl t1.1 t1.2;have g6:=hid d2;have i5:=hid b8;have o2:=hid (a3m (a1d x c).2 c);have c7:=hid (b3C (u:=pkL x (a1d x c).2) (y:=y) (n:=n) (m:=(a1d x c).2.length));have b6:Hid (∀D uo uc co cc ro rc (s:Bool) a n' c' d k e lo lc,Ext w D->c<=uc->Sl BlR 1 (mk X D) uo (usedL (a1d x c).2 c)->RC (mk X D) (.slice co c cc) (a1L x y n c)->RC (mk X D) (.slice ro n rc) (a3G x y (a1L x y n c))->QC (mk X D) (.agg #[.bool s, .slice a n' c', .slice d k e]) (a2l (a3G x y (a1L x y n c)) (a3G x y (a1L x y n c)))->RC (mk X D) (.slice lo n lc) (a8u (pkL x (a1d x c).2) n (a1d x c).2.length)->b4g X w (b9n x y n c) (.returned (.tuple #[.agg #[.int .i64 ((a1d x c).2.length:Int), .slice uo c uc, .slice co c cc, .slice ro n rc, .bool s, .slice a n' c', .slice d k e, .slice lo n lc], .int .i64 0])) D):=hid fun D uo uc co cc ro rc s a n' c' d k e lo lc h0 h1 h2 h3 h4 h5 h6=>
  ⟨h0,_,rfl,uo,uc,co,c,cc,ro,n,rc,s,a,n',c',d,k,e,lo,n,lc,by rw[show(b9n x y n c).used=usedL (a1d x c).2 c from rfl,a3m];rfl,by rw[show(b9n x y n c).used=usedL (a1d x c).2 c from rfl,a3m];exact h1,h2,h3,h4,h5,h6⟩
 obtain⟨F,hF⟩:∃F,b4g X w (b9n x y n c)=F:=⟨_,rfl⟩;rw[hF]at b6 |-;obtain⟨m,hm⟩:∃m,(a1d x c).2.length=m:=⟨_,rfl⟩;rw[hm]at f1 Q d0 a7 j2 i0 g9 c7 b6;obtain⟨U,hU⟩:∃U,pkL x (a1d x c).2=U:=⟨_,rfl⟩;rw[hU]at Q c4 a7 i0 c7 b6 k2 d0;have a5:=hid fun(h1:1<=m)=>(⟨b9H Q (by omega) h1 (by omega),b4I Q (by omega),b9H (a1Y U n m) (by omega) (by omega) (by omega),b4I (a1Y U n m) h1,b9H (a0V U n m) (by omega) h1 (by omega),b4I (a0V U n m) h1,b9H (a2H (a0V U n m)) (by omega) h1 (by omega),b4I (a2H (a0V U n m)) h1⟩:a0H U=true/\a0x U=m/\a0H (trL U n m)=true/\a0x (trL U n m)=n/\a0H (a2a U n m)=true/\a0x (a2a U n m)=m/\a0H (a2J (a2a U n m) m)=true/\a0x (a2J (a2a U n m) m)=m);have n8:=a8S c4 d3;have l4:BM B (trL U n m):=a8h (b7u n8);have m6:=b1l (m:=m) n8 hn O;have p5:=b3V (m:=m) n8 hn f1 O;have D9:=a4n (a1F (a0V U n m)) (a8p (a0V U n m) m6) f1 (by decide);have D4:=a4n (a0V U n m) m6 f1 (by decide);have D0:BM 68719476736 (a1E (a2a U n m) m):=fun r hr q hq=>Nat.le_trans (a8h (a8p (a0V U n m) m6) r hr q hq) (by decide);have r9:=hid (show BM 68719476736 U from fun r hr q hq=>Nat.le_trans (c4 r hr q hq) (by omega));have s2:=hid (show BM 68719476736 (trL U n m)from fun r hr q hq=>Nat.le_trans (l4 r hr q hq) (by omega));have E1:=hid (show BM 68719476736 (a2a U n m)from fun r hr q hq=>Nat.le_trans (a8h m6 r hr q hq) (by decide));have C7:=hid (show BM 68719476736 (a2J (a2a U n m) m)from fun r hr q hq=>Nat.le_trans (p5 r hr q hq) (by decide));have k9:BR 6541 (a3j (trL U n m) y):=fun q hq=>Nat.le_trans (b3W (a1Y U n m) l4 m9 d3 d3 q hq) (by have h2:=O.2;rw[Nat.two_mul]at h2;omega);have r6:(a3j (trL U n m) y).length=m:=by rw[a4X];exact(a1Y U n m).1
 have p4:=hid fun(h1:1<=m) Z D (v:Value) (hZ:HX Z D) (h:MC (mk Z D) v U)=>a5q Z D v U n m hZ (h.mv r9.out) (a5.out h1).1 Q.1 (a5.out h1).2.1;have i3:=hid fun(h1:1<=m) Z D (v u2:Value) (hZ:HX Z D) (ht:MC (mk Z D) v (trL U n m)) (h:MC (mk Z D) u2 U)=>b9x Z D v u2 (trL U n m) U m n m B hZ (ht.mv s2.out) (h.mv r9.out) (a5.out h1).2.2.1 (a5.out h1).1 (a1Y U n m).1 Q.1 (a5.out h1).2.2.2.1 (a5.out h1).2.1 l4 c4 d3 (by omega);have f0:=hid fun(h1:1<=m) Z D (v:Value) (hZ:HX Z D) (ht:MC (mk Z D) v (a2a U n m))=>b0r Z D v (a2a U n m) m hZ (ht.mv E1.out) (a5.out h1).2.2.2.2.1 (a0V U n m).1 (a5.out h1).2.2.2.2.2.1 D4.2 D9.2 D0;have o6:=hid fun(h1:1<=m) (h0:a9y (a2a U n m) m=0)=>d0.out h1 ((c1M f1 (a0V U n m)).2 h0);have c8:=hid fun(h1:1<=m) Z D (v:Value) (hZ:HX Z D) (h:MC (mk Z D) v (trL U n m)) (h2:RV (mk Z D) t y)=>a9o Z D v t (trL U n m) y B hZ (h.mv s2.out) h2 (a5.out h1).2.2.1 (by rw[(a5.out h1).2.2.2.1];exact i8) l4 m9 d3 (by omega);have d9:=hid fun(h1:1<=m) Z D (v v2:Value) (r:List Rat) (hZ:HX Z D) (h:MC (mk Z D) v (a2J (a2a U n m) m)) (h2:RC (mk Z D) v2 r) (h3:r.length=m) (h4:BR 8500000 r)=>a9o Z D v v2 (a2J (a2a U n m) m) r 8500000 hZ (h.mv C7.out) (h2.rv fun q hq=>Nat.le_trans (h4 q hq) (by decide)) (a5.out h1).2.2.2.2.2.2.1 (by rw[(a5.out h1).2.2.2.2.2.2.2];exact h3) p5 h4 (by decide) (by decide);have o3:=hid fun r (hr:r∈U)=>b9i (m:=m) c4 hn f1 d3 O hr;have A2:(a2J (a2a U n m) m).length=m:=(a2H (a0V U n m)).1;have h8:=hid fun Z D (v v2:Value) (r:List Rat) (hZ:HX Z D) (hr:r∈U) (h:RC (mk Z D) v r) (h2:RC (mk Z D) v2 (a3j (a2J (a2a U n m) m) r))=>a5l Z D v v2 r (a3j (a2J (a2a U n m) m) r) hZ (h.rv fun q hq=>Nat.le_trans (c4 r hr q hq) (by omega)) (h2.rv fun q hq=>Nat.le_trans (o3.out r hr q hq) (by decide)) (by rw[Q.2 r hr];omega) (by rw[a4X,A2,Q.2 r hr]) (a2g (B:=34100000) (fun q hq=>Nat.le_trans (c4 r hr q hq) (by omega)) (o3.out r hr) (by decide) (by rw[Q.2 r hr];omega) (by decide)).1 (a2g (B:=34100000) (fun q hq=>Nat.le_trans (c4 r hr q hq) (by omega)) (o3.out r hr) (by decide) (by rw[Q.2 r hr];omega) (by decide)).2;have k3:=hid fun r (hr:r∈U)=>(fun q hq=>Nat.le_trans (c4 r hr q hq) (by omega):BR 8500000 r);have l2:=hid fun i (h1:i<U.length) (h:i<(a8u U n m).length)=>b6x h1 h;have j0:=hid (show(a8u U n m).length=n by rw[a8n];exact Q.1);have c9:bU U y n m=a3j (a2J (a2a U n m) m) (a3j (trL U n m) y):=rfl;have j7:BR 68719476736 (bU U y n m):=fun q hq=>Nat.le_trans (b3W (a2H (a0V U n m)) p5 (fun q hq=>Nat.le_trans (k9 q hq) (by decide)) (by decide) (C:=8500000) (by decide) q hq) (by have:=Nat.mul_le_mul f1 (show 8500000+8500000+1<=17000001 by omega);omega);have p7:a2a U n m=b0S (trL U n m) U n m:=rfl;rw[<-p7]at i3;have f9:=hid (show BR 8500000 (a3j (trL U n m) y)from fun q hq=>Nat.le_trans (k9 q hq) (by decide));have g1:=hid r6;unfold b4r at f0;obtain⟨us,p9⟩:∃us,usedL (a1d x c).2 c=us:=⟨_,rfl⟩;unfold c0N at l0;rw[p9]at l0 k2 a7 g9 o2 b6;obtain⟨G,hG⟩:∃G,a2a U n m=G:=⟨_,rfl⟩;rw[hG]at i3 f0 o6 d9 h8 l2 c9;obtain⟨I,hI⟩:∃I,a2J G m=I:=⟨_,rfl⟩;rw[hI]at f0 d9 h8 l2 c9;obtain⟨T,F3⟩:∃T,trL U n m=T:=⟨_,rfl⟩;rw[F3]at p4 i3 c8 f9 g1 c9;obtain⟨V,y6⟩:∃V,a3j T y=V:=⟨_,rfl⟩;rw[y6]at c8 f9 g1 c9;have m0:=hid c9;obtain⟨bu,E9⟩:∃bu,bU U y n m=bu:=⟨_,rfl⟩;rw[E9]at a7 c7 j7 m0;have G6:=hid j7;obtain⟨L,hL⟩:∃L,a8u U n m=L:=⟨_,rfl⟩;rw[hL]at i0 l2 j0 b6;obtain⟨Cf,A3⟩:∃Cf,a1L x y n c=Cf:=⟨_,rfl⟩;rw[A3]at a7 j2 i5 j1 u5 g6 b6;obtain⟨Rs,B8⟩:∃Rs,a3G x y Cf=Rs:=⟨_,rfl⟩;rw[B8]at j1 u5 g6 b6;have u3:=hid Q.1;have G8:=hid Q.2;have u9:=hid fun D (h:Ext W D)=>MV.mono _ _ _ _ (i6.out D h) hu;have z8:=hid fun D (h:Ext W D)=>RV.mono _ _ _ _ (i6.out D h) ht;obtain⟨ua,L3,rfl,p8,I1⟩:=hu;obtain⟨ta,L2,rfl,r3,G4⟩:=ht;rw[d8]at j6 l0 k2 j1 u9 p8 |-;rw[i8]at j6 c8 j1 z8 r3 |-;have F6:Hid (∀k,X k=true->N k=true):=hid fun k E=>by rw[<-n3];simp[a0e,E]
 have H1:Hid (∀k,ob (some ⟨b,0,none⟩) k=true->N k=true):=hid fun k E=>by
  have L0:b=k:=by simpa[ob]using E
  rw[<-n3];exact a2L (by omega) (by omega)
 clear t5 hf G2 H7 r4 b5 k5 hT hg o9 f4 d2 t1 hF hm hU hG hI F3 y6 c9 E9 j7 hL A3 B8 p9 n3 d8 p1 i8 k9 r6 l4 m6 p5 D9 D4 D0 d0 l1 l7 b8 n8 c4 a5 p7 A2 J9 Q r3 p8 I1 G4;go_enter Tryz.func23,Tryz.ntmps23
 go_wp2_with fail
 refine j6.mono ?_;rintro ee wa ⟨s9,rfl⟩;clear j6;go_wp2_with fail
 refine(l0.out wa (j3.ext s9) (u9.out wa s9)).mono ?_;rintro ee z ⟨H2,uo,uc,uv,rfl,J8,Q⟩;have g2:=s9.trans H2;have B4:HX N z:=j3.ext g2;clear l0;go_upto_region 4 with fail
 have f6:Ext z z.drew:=(ExtX.refl z).drew;have b9:HX N z.drew:=B4.ext f6
 (try simp only[Act.put])
 go_cut [9]from 38 to 46 (fun bv wx=>∃(g:Nat) (co lo:Option Addr),bv= .pointer (some ⟨g,0,none⟩)/\Bx wx g #[.int .i64 0, .slice uo c uc, .slice co c c, .slice none 0 0, .bool false, .slice none 0 0, .slice none 0 0, .slice lo n n] 51/\OL QC 3 (un (un N (some ⟨g,0,none⟩)) lo) z.drew.heap.size 45 wx co c (List.replicate c 0)/\OL QC 3 (un (un N (some ⟨g,0,none⟩)) co) z.drew.heap.size 45 wx lo n (List.replicate n 0)/\z.heap.size<=g/\g<wx.heap.size/\Ext z wx)
 case first=>
  refine a0O 9 (fun _=>True) (by kernel_rfl) (by kernel_rfl) trivial (fun A f=>?_);refine kt 0 f ?_;refine kt 1 f ?_;refine kt 2 f ?_;refine kt 4 f ?_;refine kt 5 f ?_;refine a5X (i:=3) (j:=6) (l:=8) (oi:=⟨_,_,_,_,_,_⟩) (oj:=⟨_,_,_,_,_,_⟩) (ol:=⟨_,_,_,_,_,_⟩) (by kernel_rfl) rfl rfl rfl (fun K J=>?_) (fun K J=>?_) (fun K J=>?_)
  ·skip
   (refine a0N (R:=QC) rfl rfl a0B QC.elem (0:Rat) (fun _=>QC.zero _) N (b9.ext (ExtX.refl (Y:=noY) z.drew)) z.drew.heap.size (Nat.le_refl _) c rfl rfl rfl (by omega) (by omega) ?_;intro xo vA P eA)
   refine J.out _ _ trivial (fun A=>?_);clear J K
   (try simp only[Act.put,List.setIfInBounds_toArray,List.set_cons_zero,List.set_cons_succ])
   have nA:∀q,ob xo q=true->z.drew.heap.size<=q:=fun q hq=>(P.block hq).1;have P:=P.base_le (b':=z.drew.heap.size) ((ExtX.refl (Y:=noY) z.drew)).size;have EA:Ext z.drew vA:=(ExtX.refl (Y:=noY) z.drew).trans eA;refine a1m (i:=6) (j:=8) (oi:=⟨_,_,_,_,_,_⟩) (oj:=⟨_,_,_,_,_,_⟩) (by kernel_rfl) rfl rfl (fun K J=>?_) (fun K J=>?_)
   ·skip
    (refine a0N (R:=QC) rfl rfl a0B QC.elem (0:Rat) (fun _=>QC.zero _) (un N xo) (a2X (b9.ext EA) fun q hq=>(P.block hq).2) vA.heap.size (Nat.le_refl _) n rfl rfl rfl (by omega) (by omega) ?_;intro yo vB O eB)
    refine J.out _ _ trivial (fun A=>?_);clear J K
    (try simp only[Act.put,List.setIfInBounds_toArray,List.set_cons_zero,List.set_cons_succ])
    have nB:∀q,ob yo q=true->vA.heap.size<=q:=fun q hq=>(O.block hq).1;have O:=O.base_le (b':=z.drew.heap.size) (EA).size;have P:=a0X QC.elem P eB nB;have EB:Ext z.drew vB:=EA.trans eB;refine kt 7 f ?_;refine a0k (i:=8) (o:=⟨_,_,_,_,_,_⟩) (by kernel_rfl) rfl (fun K J=>?_);go_simp
    skip
    refine J.out _ _ trivial (fun A=>?_);clear J K
    (try simp only[Act.put,List.setIfInBounds_toArray,List.set_cons_zero,List.set_cons_succ])
    have eG:Ext vB (vB.alloc (.cells #[.int .i64 0, .slice none 0 0, .slice none 0 0, .slice none 0 0, .bool false, .slice none 0 0, .slice none 0 0, .slice none 0 0] 51)):=(ExtX.refl _).alloc _;have bG:Bx (vB.alloc (.cells #[.int .i64 0, .slice none 0 0, .slice none 0 0, .slice none 0 0, .bool false, .slice none 0 0, .slice none 0 0, .slice none 0 0] 51)) vB.heap.size #[.int .i64 0, .slice none 0 0, .slice none 0 0, .slice none 0 0, .bool false, .slice none 0 0, .slice none 0 0, .slice none 0 0] 51:=Bx.new vB _ _;have zG:(vB.alloc (.cells #[.int .i64 0, .slice none 0 0, .slice none 0 0, .slice none 0 0, .bool false, .slice none 0 0, .slice none 0 0, .slice none 0 0] 51)).heap.size=vB.heap.size+1:=by simp
    obtain⟨vG,d4⟩:∃vG,vB.alloc (.cells #[.int .i64 0, .slice none 0 0, .slice none 0 0, .slice none 0 0, .bool false, .slice none 0 0, .slice none 0 0, .slice none 0 0] 51)=vG:=⟨_,rfl⟩;rw[d4]at eG bG zG |-;obtain⟨H,a4⟩:∃H,vB.heap.size=H:=⟨_,rfl⟩;have a3:vB.heap.size<=H:=by rw[<-a4];exact Nat.le_refl _
    rw[a4]at bG zG |-;have M:H<vG.heap.size:=by omega
    have nG:∀q,ob (some ⟨H,0,none⟩) q=true->vB.heap.size<=q:=fun q hq=>(by simpa[ob]using hq:H=q)▸a3;have S:z.heap.size<=H:=Nat.le_trans (EB).size a3;have P:=a0X QC.elem P eG nG;have O:=a0X QC.elem O eG nG;have EG:Ext z.drew vG:=EB.trans eG;refine a0v (i:=9) (o:=⟨_,_,_,_,_,_⟩) (by kernel_rfl) rfl (by decide) (by kernel_rfl) (fun K J=>?_)
    (refine a0A rfl rfl a5j rfl rfl bG rfl rfl (by intro v hv;simp at hv;rcases hv with rfl|rfl|rfl|rfl|rfl|rfl|rfl|rfl<;>rfl) ?_;intro w9 y1 y2)
    refine J.out _ _ ?_;clear J K
    (try simp only[Act.put])
    have c3:OL QC 3 (un (un N (some ⟨H,0,none⟩)) yo) z.drew.heap.size 45 w9 xo c (List.replicate c 0):=by
     have h:=P.ext QC.elem (Z:=un (un N yo) (some ⟨H,0,none⟩)) y2 (fun q _ hq=>by simp[un,hq]) (fun _ _ h=>h)
     first|exact h|(rw[a0Y]at h;exact h)
    have c0:OL QC 3 (un (un N (some ⟨H,0,none⟩)) xo) z.drew.heap.size 45 w9 yo n (List.replicate n 0):=by
     have h:=O.ext QC.elem (Z:=un (un N xo) (some ⟨H,0,none⟩)) y2 (fun q _ hq=>by simp[un,hq]) (fun _ _ h=>h)
     first|exact h|(rw[a0Y]at h;exact h)
    have a9:Ext z w9:=ExtX.box (f6.trans EG) y2 S;have a0:=Nat.lt_of_lt_of_le M y2.size;go_wp2_with fail
    go_meet
    case rel=>exact⟨H,xo,yo,rfl,y1,c3,c0,S,a0,a9⟩
   ·skip
    go_simp
    skip
    refine J.out _ _ trivial (fun A=>?_);clear J K
    (try simp only[Act.put,List.setIfInBounds_toArray,List.set_cons_zero,List.set_cons_succ])
    have eG:Ext vA (vA.alloc (.cells #[.int .i64 0, .slice none 0 0, .slice none 0 0, .slice none 0 0, .bool false, .slice none 0 0, .slice none 0 0, .slice none 0 0] 51)):=(ExtX.refl _).alloc _;have bG:Bx (vA.alloc (.cells #[.int .i64 0, .slice none 0 0, .slice none 0 0, .slice none 0 0, .bool false, .slice none 0 0, .slice none 0 0, .slice none 0 0] 51)) vA.heap.size #[.int .i64 0, .slice none 0 0, .slice none 0 0, .slice none 0 0, .bool false, .slice none 0 0, .slice none 0 0, .slice none 0 0] 51:=Bx.new vA _ _;have zG:(vA.alloc (.cells #[.int .i64 0, .slice none 0 0, .slice none 0 0, .slice none 0 0, .bool false, .slice none 0 0, .slice none 0 0, .slice none 0 0] 51)).heap.size=vA.heap.size+1:=by simp
    obtain⟨vG,d4⟩:∃vG,vA.alloc (.cells #[.int .i64 0, .slice none 0 0, .slice none 0 0, .slice none 0 0, .bool false, .slice none 0 0, .slice none 0 0, .slice none 0 0] 51)=vG:=⟨_,rfl⟩;rw[d4]at eG bG zG |-;obtain⟨H,a4⟩:∃H,vA.heap.size=H:=⟨_,rfl⟩;have a3:vA.heap.size<=H:=by rw[<-a4];exact Nat.le_refl _
    rw[a4]at bG zG |-;have M:H<vG.heap.size:=by omega
    have nG:∀q,ob (some ⟨H,0,none⟩) q=true->vA.heap.size<=q:=fun q hq=>(by simpa[ob]using hq:H=q)▸a3;have S:z.heap.size<=H:=Nat.le_trans (EA).size a3;have P:=a0X QC.elem P eG nG;have EG:Ext z.drew vG:=EA.trans eG;refine a0k (i:=6) (o:=⟨_,_,_,_,_,_⟩) (by kernel_rfl) rfl (fun K J=>?_)
    (refine a0N (R:=QC) rfl rfl a0B QC.elem (0:Rat) (fun _=>QC.zero _) (un (un N xo) (some ⟨H,0,none⟩)) (a1e (a2X (b9.ext EG) fun q hq=>(P.block hq).2) M) vG.heap.size (Nat.le_refl _) n rfl rfl rfl (by omega) (by omega) ?_;intro yo vB O eB)
    refine J.out _ _ trivial (fun A=>?_);clear J K
    (try simp only[Act.put,List.setIfInBounds_toArray,List.set_cons_zero,List.set_cons_succ])
    have nB:∀q,ob yo q=true->vG.heap.size<=q:=fun q hq=>(O.block hq).1;have O:=O.base_le (b':=z.drew.heap.size) (EG).size;have P:=a0X QC.elem P eB nB;have bG:=bG.ext0 eB;have M:=Nat.lt_of_lt_of_le M eB.size;have EB:Ext z.drew vB:=EG.trans eB;refine kt 7 f ?_;refine a0v (i:=9) (o:=⟨_,_,_,_,_,_⟩) (by kernel_rfl) rfl (by decide) (by kernel_rfl) (fun K J=>?_)
    (refine a0A rfl rfl a5j rfl rfl bG rfl rfl (by intro v hv;simp at hv;rcases hv with rfl|rfl|rfl|rfl|rfl|rfl|rfl|rfl<;>rfl) ?_;intro w9 y1 y2)
    refine J.out _ _ ?_;clear J K
    (try simp only[Act.put])
    have c3:OL QC 3 (un (un N (some ⟨H,0,none⟩)) yo) z.drew.heap.size 45 w9 xo c (List.replicate c 0):=by
     have h:=P.ext QC.elem (Z:=un (un N (some ⟨H,0,none⟩)) yo) y2 (fun q _ hq=>by simp[un,hq]) (fun _ _ h=>h)
     first|exact h|(rw[a0Y]at h;exact h)
    have c0:OL QC 3 (un (un N (some ⟨H,0,none⟩)) xo) z.drew.heap.size 45 w9 yo n (List.replicate n 0):=by
     have h:=O.ext QC.elem (Z:=un (un N xo) (some ⟨H,0,none⟩)) y2 (fun q _ hq=>by simp[un,hq]) (fun _ _ h=>h)
     first|exact h|(rw[a0Y]at h;exact h)
    have a9:Ext z w9:=ExtX.box (f6.trans EB) y2 S;have a0:=Nat.lt_of_lt_of_le M y2.size;go_wp2_with fail
    go_meet
    case rel=>exact⟨H,xo,yo,rfl,y1,c3,c0,S,a0,a9⟩
  ·skip
   (refine a0N (R:=QC) rfl rfl a0B QC.elem (0:Rat) (fun _=>QC.zero _) N (b9.ext (ExtX.refl (Y:=noY) z.drew)) z.drew.heap.size (Nat.le_refl _) n rfl rfl rfl (by omega) (by omega) ?_;intro yo vB O eB)
   refine J.out _ _ trivial (fun A=>?_);clear J K
   (try simp only[Act.put,List.setIfInBounds_toArray,List.set_cons_zero,List.set_cons_succ])
   have nB:∀q,ob yo q=true->z.drew.heap.size<=q:=fun q hq=>(O.block hq).1;have O:=O.base_le (b':=z.drew.heap.size) ((ExtX.refl (Y:=noY) z.drew)).size;have EB:Ext z.drew vB:=(ExtX.refl (Y:=noY) z.drew).trans eB;refine a1m (i:=3) (j:=8) (oi:=⟨_,_,_,_,_,_⟩) (oj:=⟨_,_,_,_,_,_⟩) (by kernel_rfl) rfl rfl (fun K J=>?_) (fun K J=>?_)
   ·skip
    (refine a0N (R:=QC) rfl rfl a0B QC.elem (0:Rat) (fun _=>QC.zero _) (un N yo) (a2X (b9.ext EB) fun q hq=>(O.block hq).2) vB.heap.size (Nat.le_refl _) c rfl rfl rfl (by omega) (by omega) ?_;intro xo vA P eA)
    refine J.out _ _ trivial (fun A=>?_);clear J K
    (try simp only[Act.put,List.setIfInBounds_toArray,List.set_cons_zero,List.set_cons_succ])
    have nA:∀q,ob xo q=true->vB.heap.size<=q:=fun q hq=>(P.block hq).1;have P:=P.base_le (b':=z.drew.heap.size) (EB).size;have O:=a0X QC.elem O eA nA;have EA:Ext z.drew vA:=EB.trans eA;refine kt 7 f ?_;refine a0k (i:=8) (o:=⟨_,_,_,_,_,_⟩) (by kernel_rfl) rfl (fun K J=>?_);go_simp
    skip
    refine J.out _ _ trivial (fun A=>?_);clear J K
    (try simp only[Act.put,List.setIfInBounds_toArray,List.set_cons_zero,List.set_cons_succ])
    have eG:Ext vA (vA.alloc (.cells #[.int .i64 0, .slice none 0 0, .slice none 0 0, .slice none 0 0, .bool false, .slice none 0 0, .slice none 0 0, .slice none 0 0] 51)):=(ExtX.refl _).alloc _;have bG:Bx (vA.alloc (.cells #[.int .i64 0, .slice none 0 0, .slice none 0 0, .slice none 0 0, .bool false, .slice none 0 0, .slice none 0 0, .slice none 0 0] 51)) vA.heap.size #[.int .i64 0, .slice none 0 0, .slice none 0 0, .slice none 0 0, .bool false, .slice none 0 0, .slice none 0 0, .slice none 0 0] 51:=Bx.new vA _ _;have zG:(vA.alloc (.cells #[.int .i64 0, .slice none 0 0, .slice none 0 0, .slice none 0 0, .bool false, .slice none 0 0, .slice none 0 0, .slice none 0 0] 51)).heap.size=vA.heap.size+1:=by simp
    obtain⟨vG,d4⟩:∃vG,vA.alloc (.cells #[.int .i64 0, .slice none 0 0, .slice none 0 0, .slice none 0 0, .bool false, .slice none 0 0, .slice none 0 0, .slice none 0 0] 51)=vG:=⟨_,rfl⟩;rw[d4]at eG bG zG |-;obtain⟨H,a4⟩:∃H,vA.heap.size=H:=⟨_,rfl⟩;have a3:vA.heap.size<=H:=by rw[<-a4];exact Nat.le_refl _
    rw[a4]at bG zG |-;have M:H<vG.heap.size:=by omega
    have nG:∀q,ob (some ⟨H,0,none⟩) q=true->vA.heap.size<=q:=fun q hq=>(by simpa[ob]using hq:H=q)▸a3;have S:z.heap.size<=H:=Nat.le_trans (EA).size a3;have O:=a0X QC.elem O eG nG;have P:=a0X QC.elem P eG nG;have EG:Ext z.drew vG:=EA.trans eG;refine a0v (i:=9) (o:=⟨_,_,_,_,_,_⟩) (by kernel_rfl) rfl (by decide) (by kernel_rfl) (fun K J=>?_)
    (refine a0A rfl rfl a5j rfl rfl bG rfl rfl (by intro v hv;simp at hv;rcases hv with rfl|rfl|rfl|rfl|rfl|rfl|rfl|rfl<;>rfl) ?_;intro w9 y1 y2)
    refine J.out _ _ ?_;clear J K
    (try simp only[Act.put])
    have c3:OL QC 3 (un (un N (some ⟨H,0,none⟩)) yo) z.drew.heap.size 45 w9 xo c (List.replicate c 0):=by
     have h:=P.ext QC.elem (Z:=un (un N yo) (some ⟨H,0,none⟩)) y2 (fun q _ hq=>by simp[un,hq]) (fun _ _ h=>h)
     first|exact h|(rw[a0Y]at h;exact h)
    have c0:OL QC 3 (un (un N (some ⟨H,0,none⟩)) xo) z.drew.heap.size 45 w9 yo n (List.replicate n 0):=by
     have h:=O.ext QC.elem (Z:=un (un N xo) (some ⟨H,0,none⟩)) y2 (fun q _ hq=>by simp[un,hq]) (fun _ _ h=>h)
     first|exact h|(rw[a0Y]at h;exact h)
    have a9:Ext z w9:=ExtX.box (f6.trans EG) y2 S;have a0:=Nat.lt_of_lt_of_le M y2.size;go_wp2_with fail
    go_meet
    case rel=>exact⟨H,xo,yo,rfl,y1,c3,c0,S,a0,a9⟩
   ·skip
    go_simp
    skip
    refine J.out _ _ trivial (fun A=>?_);clear J K
    (try simp only[Act.put,List.setIfInBounds_toArray,List.set_cons_zero,List.set_cons_succ])
    have eG:Ext vB (vB.alloc (.cells #[.int .i64 0, .slice none 0 0, .slice none 0 0, .slice none 0 0, .bool false, .slice none 0 0, .slice none 0 0, .slice none 0 0] 51)):=(ExtX.refl _).alloc _;have bG:Bx (vB.alloc (.cells #[.int .i64 0, .slice none 0 0, .slice none 0 0, .slice none 0 0, .bool false, .slice none 0 0, .slice none 0 0, .slice none 0 0] 51)) vB.heap.size #[.int .i64 0, .slice none 0 0, .slice none 0 0, .slice none 0 0, .bool false, .slice none 0 0, .slice none 0 0, .slice none 0 0] 51:=Bx.new vB _ _;have zG:(vB.alloc (.cells #[.int .i64 0, .slice none 0 0, .slice none 0 0, .slice none 0 0, .bool false, .slice none 0 0, .slice none 0 0, .slice none 0 0] 51)).heap.size=vB.heap.size+1:=by simp
    obtain⟨vG,d4⟩:∃vG,vB.alloc (.cells #[.int .i64 0, .slice none 0 0, .slice none 0 0, .slice none 0 0, .bool false, .slice none 0 0, .slice none 0 0, .slice none 0 0] 51)=vG:=⟨_,rfl⟩;rw[d4]at eG bG zG |-;obtain⟨H,a4⟩:∃H,vB.heap.size=H:=⟨_,rfl⟩;have a3:vB.heap.size<=H:=by rw[<-a4];exact Nat.le_refl _
    rw[a4]at bG zG |-;have M:H<vG.heap.size:=by omega
    have nG:∀q,ob (some ⟨H,0,none⟩) q=true->vB.heap.size<=q:=fun q hq=>(by simpa[ob]using hq:H=q)▸a3;have S:z.heap.size<=H:=Nat.le_trans (EB).size a3;have O:=a0X QC.elem O eG nG;have EG:Ext z.drew vG:=EB.trans eG;refine a0k (i:=3) (o:=⟨_,_,_,_,_,_⟩) (by kernel_rfl) rfl (fun K J=>?_)
    (refine a0N (R:=QC) rfl rfl a0B QC.elem (0:Rat) (fun _=>QC.zero _) (un (un N yo) (some ⟨H,0,none⟩)) (a1e (a2X (b9.ext EG) fun q hq=>(O.block hq).2) M) vG.heap.size (Nat.le_refl _) c rfl rfl rfl (by omega) (by omega) ?_;intro xo vA P eA)
    refine J.out _ _ trivial (fun A=>?_);clear J K
    (try simp only[Act.put,List.setIfInBounds_toArray,List.set_cons_zero,List.set_cons_succ])
    have nA:∀q,ob xo q=true->vG.heap.size<=q:=fun q hq=>(P.block hq).1;have P:=P.base_le (b':=z.drew.heap.size) (EG).size;have O:=a0X QC.elem O eA nA;have bG:=bG.ext0 eA;have M:=Nat.lt_of_lt_of_le M eA.size;have EA:Ext z.drew vA:=EG.trans eA;refine kt 7 f ?_;refine a0v (i:=9) (o:=⟨_,_,_,_,_,_⟩) (by kernel_rfl) rfl (by decide) (by kernel_rfl) (fun K J=>?_)
    (refine a0A rfl rfl a5j rfl rfl bG rfl rfl (by intro v hv;simp at hv;rcases hv with rfl|rfl|rfl|rfl|rfl|rfl|rfl|rfl<;>rfl) ?_;intro w9 y1 y2)
    refine J.out _ _ ?_;clear J K
    (try simp only[Act.put])
    have c3:OL QC 3 (un (un N (some ⟨H,0,none⟩)) yo) z.drew.heap.size 45 w9 xo c (List.replicate c 0):=by
     have h:=P.ext QC.elem (Z:=un (un N yo) (some ⟨H,0,none⟩)) y2 (fun q _ hq=>by simp[un,hq]) (fun _ _ h=>h)
     first|exact h|(rw[a0Y]at h;exact h)
    have c0:OL QC 3 (un (un N (some ⟨H,0,none⟩)) xo) z.drew.heap.size 45 w9 yo n (List.replicate n 0):=by
     have h:=O.ext QC.elem (Z:=un (un N (some ⟨H,0,none⟩)) xo) y2 (fun q _ hq=>by simp[un,hq]) (fun _ _ h=>h)
     first|exact h|(rw[a0Y]at h;exact h)
    have a9:Ext z w9:=ExtX.box (f6.trans EA) y2 S;have a0:=Nat.lt_of_lt_of_le M y2.size;go_wp2_with fail
    go_meet
    case rel=>exact⟨H,xo,yo,rfl,y1,c3,c0,S,a0,a9⟩
  ·skip
   go_simp
   skip
   refine J.out _ _ trivial (fun A=>?_);clear J K
   (try simp only[Act.put,List.setIfInBounds_toArray,List.set_cons_zero,List.set_cons_succ])
   have eG:Ext z.drew (z.alloc (.cells #[.int .i64 0, .slice none 0 0, .slice none 0 0, .slice none 0 0, .bool false, .slice none 0 0, .slice none 0 0, .slice none 0 0] 51)).drew:=⟨rfl,rfl,rfl,((ExtX.refl (Y:=noY) z).alloc _).size,((ExtX.refl (Y:=noY) z).alloc _).block⟩;have bG:Bx (z.alloc (.cells #[.int .i64 0, .slice none 0 0, .slice none 0 0, .slice none 0 0, .bool false, .slice none 0 0, .slice none 0 0, .slice none 0 0] 51)).drew z.heap.size #[.int .i64 0, .slice none 0 0, .slice none 0 0, .slice none 0 0, .bool false, .slice none 0 0, .slice none 0 0, .slice none 0 0] 51:=Bx.new z _ _;have zG:(z.alloc (.cells #[.int .i64 0, .slice none 0 0, .slice none 0 0, .slice none 0 0, .bool false, .slice none 0 0, .slice none 0 0, .slice none 0 0] 51)).drew.heap.size=z.heap.size+1:=by show(z.alloc _).heap.size=_;simp
   obtain⟨vG,d4⟩:∃vG,(z.alloc (.cells #[.int .i64 0, .slice none 0 0, .slice none 0 0, .slice none 0 0, .bool false, .slice none 0 0, .slice none 0 0, .slice none 0 0] 51)).drew=vG:=⟨_,rfl⟩;rw[d4]at eG bG zG |-;obtain⟨H,a4⟩:∃H,z.heap.size=H:=⟨_,rfl⟩;have a3:z.drew.heap.size<=H:=by rw[<-a4];exact Nat.le_refl _
   rw[a4]at bG zG |-;have M:H<vG.heap.size:=by omega
   have nG:∀q,ob (some ⟨H,0,none⟩) q=true->z.drew.heap.size<=q:=fun q hq=>(by simpa[ob]using hq:H=q)▸a3;have S:z.heap.size<=H:=Nat.le_trans ((ExtX.refl (Y:=noY) z.drew)).size a3;have EG:Ext z.drew vG:=(ExtX.refl (Y:=noY) z.drew).trans eG;refine a1m (i:=3) (j:=6) (oi:=⟨_,_,_,_,_,_⟩) (oj:=⟨_,_,_,_,_,_⟩) (by kernel_rfl) rfl rfl (fun K J=>?_) (fun K J=>?_)
   ·skip
    (refine a0N (R:=QC) rfl rfl a0B QC.elem (0:Rat) (fun _=>QC.zero _) (un N (some ⟨H,0,none⟩)) (a1e (b9.ext EG) M) vG.heap.size (Nat.le_refl _) c rfl rfl rfl (by omega) (by omega) ?_;intro xo vA P eA)
    refine J.out _ _ trivial (fun A=>?_);clear J K
    (try simp only[Act.put,List.setIfInBounds_toArray,List.set_cons_zero,List.set_cons_succ])
    have nA:∀q,ob xo q=true->vG.heap.size<=q:=fun q hq=>(P.block hq).1;have P:=P.base_le (b':=z.drew.heap.size) (EG).size;have bG:=bG.ext0 eA;have M:=Nat.lt_of_lt_of_le M eA.size;have EA:Ext z.drew vA:=EG.trans eA;refine a0k (i:=6) (o:=⟨_,_,_,_,_,_⟩) (by kernel_rfl) rfl (fun K J=>?_)
    (refine a0N (R:=QC) rfl rfl a0B QC.elem (0:Rat) (fun _=>QC.zero _) (un (un N (some ⟨H,0,none⟩)) xo) (a2X (a1e (b9.ext EA) M) fun q hq=>(P.block hq).2) vA.heap.size (Nat.le_refl _) n rfl rfl rfl (by omega) (by omega) ?_;intro yo vB O eB)
    refine J.out _ _ trivial (fun A=>?_);clear J K
    (try simp only[Act.put,List.setIfInBounds_toArray,List.set_cons_zero,List.set_cons_succ])
    have nB:∀q,ob yo q=true->vA.heap.size<=q:=fun q hq=>(O.block hq).1;have O:=O.base_le (b':=z.drew.heap.size) (EA).size;have bG:=bG.ext0 eB;have M:=Nat.lt_of_lt_of_le M eB.size;have P:=a0X QC.elem P eB nB;have EB:Ext z.drew vB:=EA.trans eB;refine kt 7 f ?_;refine a0v (i:=9) (o:=⟨_,_,_,_,_,_⟩) (by kernel_rfl) rfl (by decide) (by kernel_rfl) (fun K J=>?_)
    (refine a0A rfl rfl a5j rfl rfl bG rfl rfl (by intro v hv;simp at hv;rcases hv with rfl|rfl|rfl|rfl|rfl|rfl|rfl|rfl<;>rfl) ?_;intro w9 y1 y2)
    refine J.out _ _ ?_;clear J K
    (try simp only[Act.put])
    have c3:OL QC 3 (un (un N (some ⟨H,0,none⟩)) yo) z.drew.heap.size 45 w9 xo c (List.replicate c 0):=by
     have h:=P.ext QC.elem (Z:=un (un N (some ⟨H,0,none⟩)) yo) y2 (fun q _ hq=>by simp[un,hq]) (fun _ _ h=>h)
     first|exact h|(rw[a0Y]at h;exact h)
    have c0:OL QC 3 (un (un N (some ⟨H,0,none⟩)) xo) z.drew.heap.size 45 w9 yo n (List.replicate n 0):=by
     have h:=O.ext QC.elem (Z:=un (un N (some ⟨H,0,none⟩)) xo) y2 (fun q _ hq=>by simp[un,hq]) (fun _ _ h=>h)
     first|exact h|(rw[a0Y]at h;exact h)
    have a9:Ext z w9:=ExtX.box (f6.trans EB) y2 S;have a0:=Nat.lt_of_lt_of_le M y2.size;go_wp2_with fail
    go_meet
    case rel=>exact⟨H,xo,yo,rfl,y1,c3,c0,S,a0,a9⟩
   ·skip
    (refine a0N (R:=QC) rfl rfl a0B QC.elem (0:Rat) (fun _=>QC.zero _) (un N (some ⟨H,0,none⟩)) (a1e (b9.ext EG) M) vG.heap.size (Nat.le_refl _) n rfl rfl rfl (by omega) (by omega) ?_;intro yo vB O eB)
    refine J.out _ _ trivial (fun A=>?_);clear J K
    (try simp only[Act.put,List.setIfInBounds_toArray,List.set_cons_zero,List.set_cons_succ])
    have nB:∀q,ob yo q=true->vG.heap.size<=q:=fun q hq=>(O.block hq).1;have O:=O.base_le (b':=z.drew.heap.size) (EG).size;have bG:=bG.ext0 eB;have M:=Nat.lt_of_lt_of_le M eB.size;have EB:Ext z.drew vB:=EG.trans eB;refine a0k (i:=3) (o:=⟨_,_,_,_,_,_⟩) (by kernel_rfl) rfl (fun K J=>?_)
    (refine a0N (R:=QC) rfl rfl a0B QC.elem (0:Rat) (fun _=>QC.zero _) (un (un N (some ⟨H,0,none⟩)) yo) (a2X (a1e (b9.ext EB) M) fun q hq=>(O.block hq).2) vB.heap.size (Nat.le_refl _) c rfl rfl rfl (by omega) (by omega) ?_;intro xo vA P eA)
    refine J.out _ _ trivial (fun A=>?_);clear J K
    (try simp only[Act.put,List.setIfInBounds_toArray,List.set_cons_zero,List.set_cons_succ])
    have nA:∀q,ob xo q=true->vB.heap.size<=q:=fun q hq=>(P.block hq).1;have P:=P.base_le (b':=z.drew.heap.size) (EB).size;have bG:=bG.ext0 eA;have M:=Nat.lt_of_lt_of_le M eA.size;have O:=a0X QC.elem O eA nA;have EA:Ext z.drew vA:=EB.trans eA;refine kt 7 f ?_;refine a0v (i:=9) (o:=⟨_,_,_,_,_,_⟩) (by kernel_rfl) rfl (by decide) (by kernel_rfl) (fun K J=>?_)
    (refine a0A rfl rfl a5j rfl rfl bG rfl rfl (by intro v hv;simp at hv;rcases hv with rfl|rfl|rfl|rfl|rfl|rfl|rfl|rfl<;>rfl) ?_;intro w9 y1 y2)
    refine J.out _ _ ?_;clear J K
    (try simp only[Act.put])
    have c3:OL QC 3 (un (un N (some ⟨H,0,none⟩)) yo) z.drew.heap.size 45 w9 xo c (List.replicate c 0):=by
     have h:=P.ext QC.elem (Z:=un (un N (some ⟨H,0,none⟩)) yo) y2 (fun q _ hq=>by simp[un,hq]) (fun _ _ h=>h)
     first|exact h|(rw[a0Y]at h;exact h)
    have c0:OL QC 3 (un (un N (some ⟨H,0,none⟩)) xo) z.drew.heap.size 45 w9 yo n (List.replicate n 0):=by
     have h:=O.ext QC.elem (Z:=un (un N (some ⟨H,0,none⟩)) xo) y2 (fun q _ hq=>by simp[un,hq]) (fun _ _ h=>h)
     first|exact h|(rw[a0Y]at h;exact h)
    have a9:Ext z w9:=ExtX.box (f6.trans EA) y2 S;have a0:=Nat.lt_of_lt_of_le M y2.size;go_wp2_with fail
    go_meet
    case rel=>exact⟨H,xo,yo,rfl,y1,c3,c0,S,a0,a9⟩
 case rest=>
  obtain⟨g,co,lo,rfl,bg,i7,i4,S,D2,s3⟩:=hcut;obtain⟨Z1,f8⟩:∃Z1,un N (some ⟨g,0,none⟩)=Z1:=⟨_,rfl⟩;rw[f8]at i7 i4;have j4:∀k,ob (some ⟨g,0,none⟩) k=true->Z1 k=true:=fun k E=>by rw[<-f8];exact a0r E
  have t4:Z1 g=true:=j4 g (by simp[ob]);have C9:Hid (∀k,k<z.heap.size->Z1 k=true->N k=true):=hid fun k E h=>by
   rw[<-f8]at h;by_cases h0:N k=true
   ·exact h0
   ·have:g=k:=by simpa[un,h0,ob]using h
    omega
  have C4:Hid (∀k,X k=true->Z1 k=true):=hid fun k E=>by rw[<-f8];exact a0f (F6.out k E)
  have F9:Hid (∀k,ob (some ⟨b,0,none⟩) k=true->Z1 k=true):=hid fun k E=>by rw[<-f8];exact a0f (H1.out k E)
  have s0:HX Z1 wc:=fun k E=>by
   rw[<-f8]at E;by_cases h0:N k=true
   ·exact B4.ext s3 k h0
   ·have:g=k:=by simpa[un,h0,ob]using E
    omega
  have J7:ob co g=false:=by
   cases hq:ob co g
   ·rfl
   ·have:=(a1j (i7.1 g hq)).1;rw[t4]at this;cases this
  have J6:ob lo g=false:=by
   cases hq:ob lo g
   ·rfl
   ·have:=(a1j (i4.1 g hq)).1;rw[t4]at this;cases this
  have F8:Hd co c:=by have:=i7.hd;rwa[List.length_replicate]at this
  have A5:Hd lo n:=by have:=i4.hd;rwa[List.length_replicate]at this
  have k7:z.drew.heap.size=z.heap.size:=rfl;rw[k7]at i7 i4;have z5:Hd uo c:=by have:=Q.hd;rwa[o2.out]at this
  have d5:=hid fun j (hj:j<us.length) wr (h:Ext z wr)=>h.cell (a0S (Q.bl j hj));have iu:∀j,j<c->∀W,(Instr.indexAt 49 (.slice uo c uc) (.int .i64 (j:Int))).run Tryz.prog W= .ok (.pointer (some (adr uo j))) W:=fun j hj=>a0z b3Z uo c uc .i64 j z5 hj rfl;have u6:=hid iu;have r8:FS Z1 z.heap.size g uo uc c n co lo (rkN us 0) (List.replicate c 0) (List.replicate n 0) wc:=⟨bg,i7,i4⟩;clear i7 i4 bg b9 f6 f8 k7 iu;go_wp2_with fail
  go_loopw [10] (fun kv wr=>∃j:Nat,kv= .int .i64 j/\j<=c/\FS Z1 z.heap.size g uo uc c n co lo (rkN us j) (List.replicate c 0) (List.replicate n 0) wr/\HX Z1 wr/\Ext z wr) (fun kv _=>c - (intOf kv).toNat)
  case atStart=>exact⟨0,rfl,Nat.zero_le _,r8,s0,s3⟩
  case round=>
   clear r8 s0 s3 D2;obtain⟨j,rfl,hj,⟨bx,f2,f3⟩,p3,g3⟩:=hrel;by_cases C2:j<c
   ·have F1:j<us.length:=by rw[o2.out];exact C2
    have kb:=d5.out j F1 wr g3;have a8:Hid (us.getD j false=us[j]):=hid (by simp[List.getD_eq_getElem?_getD,F1]);obtain⟨b1,k8⟩:∃b1,us[j]=b1:=⟨_,rfl⟩;rw[k8]at kb a8;have iu:=u6.out j C2;have g8:=b7E us j;have p0:=bx.cell 0 rfl;clear k8;cases b1
    ·have l8:=hid (b7D a8.out)
     clear a8;rw[<-l8.out]at bx;clear l8;go_wp2_with fail
     go_roundw
     case rel=>exact⟨j+1,by go_num,by omega,⟨bx,f2,f3⟩,p3,g3⟩
     case measure=>simp[intOf];omega
    ·have f5:=hid (b4s a8.out)
     obtain⟨r,hr⟩:∃r,rkN us j=r:=⟨_,rfl⟩;rw[hr]at f5 g8 bx p0;clear a8 hr;go_wp2_with ((show wpList _ _ _ (⟨_, .store _ _ _,_,_,_,_⟩::_) _ _);refine a4h (v:= .int .i64 _) a7N rfl rfl rfl rfl bx (by simp) ?_;intro w5 v5 x5)
     have j9:Ext z w5:=ExtX.box g3 x5 S;have l3:HX Z1 w5:=fun q hq=>Nat.lt_of_lt_of_le (p3 q hq) x5.size;have G7:=f2.ext QC.elem (Z:=un Z1 lo) x5 (fun q _ hq=>a0f (j4 q hq)) (fun _ _ h=>h);have K3:=f3.ext QC.elem (Z:=un Z1 co) x5 (fun q _ hq=>a0f (j4 q hq)) (fun _ _ h=>h);have v6:Bx w5 g #[.int .i64 ((rkN us (j+1):Nat):Int), .slice uo c uc, .slice co c c, .slice none 0 0, .bool false, .slice none 0 0, .slice none 0 0, .slice lo n n] 51:=by
      rw[f5.out];simpa using v5
     clear p0 v5;go_roundw
     case rel=>exact⟨j+1,by go_num,by omega,⟨v6,G7,K3⟩,l3,j9⟩
     case measure=>simp[intOf];omega
   ·have I8:j=c:=by omega
    subst I8;rw[g9.out]at bx;have B1:HX (un Z1 co) wr:=a2X p3 fun k E=>(f2.block E).2;have j8:HX (un (un Z1 co) lo) wr:=a2X B1 fun k E=>(f3.block E).2;have r2:∀k,k<z.heap.size->ob co k=false:=fun k E=>f2.ob_lt E;have r5:∀k,k<z.heap.size->ob lo k=false:=fun k E=>f3.ob_lt E;obtain⟨Z2,f7⟩:∃Z2,un (un Z1 co) lo=Z2:=⟨_,rfl⟩;rw[f7]at j8;have a5:Z2 g=true:=by rw[<-f7];exact a0f (a0f t4)
    have K5:∀k,ob co k=true->Z2 k=true:=fun k E=>by rw[<-f7];exact a0f (a0r E)
    have J3:∀k,ob lo k=true->Z2 k=true:=fun k E=>by rw[<-f7];exact a0r E
    have C0:∀k,k<z.heap.size->Z2 k=true->N k=true:=fun k E h=>by
     rw[<-f7]at h;refine C9.out k E ?_;cases h0:Z1 k
     ·simp[un,h0,r2 k E,r5 k E]at h
     ·rfl
    have v7:=hid fun v (h:Ext z v)=>(b6l h C0:Le (mk N z) (mk Z2 v));have C8:=hid fun v (h:Ext z v)=>MV.mono _ _ _ _ (v7.out v h) (u9.out z g2);have A4:=hid fun v (h:Ext z v)=>RV.mono _ _ _ _ (v7.out v h) (z8.out z g2);have r7:=hid fun v (h:Ext z v)=>Q.mono BlR.mono (v7.out v h);have l5:=hid fun v (h:Ext z v) (hZ:HX Z2 v)=>k2.out Z2 v uo uc hZ (C8.out v h) (r7.out v h);have K7:=g3;clear k2 g9;have p0:=bx.cell 0 rfl
    go_upto_if 62 with fail
    go_cut []from 60 to 138 (fun wx=>FS Z1 z.heap.size g uo uc j n co lo m Cf L wx/\HX Z2 wx/\Ext z wx)
    case first=>
     by_cases l6:m=0
     ·have D5:=j2.out l6
      have x7:=i0.out l6;rw[<-D5]at f2;rw[<-x7]at f3;subst l6;go_wp2_with fail
      go_meet
      case rel=>exact⟨⟨bx,f2,f3⟩,j8,g3⟩
     ·have d7:1<=m:=Nat.one_le_iff_ne_zero.2 l6
      clear j2 i0 l6;have K8:0<m:=d7;have K9:decide ((0:Int)<(m:Int))=true:=decide_eq_true (by omega);go_wp2_with fail
      refine(l5.out wr g3 j8).mono ?_;rintro ee w2 ⟨e2,u2,rfl,n0⟩;have i9:=j8.ext e2;have y5:=g3.trans e2;clear p0 l5;go_wp2_with fail
      refine(p4.out d7 Z2 w2 u2 i9 n0).mono ?_;rintro ee w3 ⟨e3,tv,rfl,u7⟩;have u1:=i9.ext e3;have D8:=y5.trans e3;have y7:=mkx MC.mono n0 e3;go_wp2_with fail
      refine(i3.out d7 Z2 w3 tv u2 u1 u7 y7).mono ?_;rintro ee w4 ⟨e4,gv,rfl,B3⟩;have l3:=u1.ext e4;have w0:=D8.trans e4;go_wp2_with fail
      refine(f0.out d7 Z2 w4 gv l3 B3).mono ?_;rintro ee w5 ⟨e5,K0⟩;rcases K0 with⟨z9,_⟩|⟨_,iv,rfl,x2⟩
      ·exact absurd z9 (o6.out d7)
      have t2:=l3.ext e5;have j9:=w0.trans e5;have E5:=mkx MC.mono u7 (e4.trans e5);go_wp2_with fail
      refine(c8.out d7 Z2 w5 tv t2 E5 (A4.out w5 j9)).mono ?_;rintro ee w6 ⟨e6,xy,rfl,y0⟩;have t7:=t2.ext e6;have F0:=j9.trans e6;have s7:=mkx MC.mono x2 e6;go_wp2_with fail
      refine(d9.out d7 Z2 w6 iv xy V t7 s7 y0 g1.out f9.out).mono ?_;rintro ee w7 ⟨e7,bv,rfl,E4⟩;rw[<-m0.out]at E4;have I7:=t7.ext e7;have H8:=F0.trans e7;have H3:=mkx MC.mono s7 e7;have n5:=e2.trans (e3.trans (e4.trans (e5.trans (e6.trans e7))));have D7:=mkx MC.mono n0 (e3.trans (e4.trans (e5.trans (e6.trans e7))));have C1:=bx.ext0 n5;have v8:=f2.ext0 QC.elem n5;have E2:=f3.ext0 QC.elem n5;obtain⟨bo,bc,rfl,H6,s4⟩:=E4;rw[c7.out]at H6 |-;have k5:Hd bo m:=by have:=s4.hd;rw[c7.out]at this;exact this
      have y9:=hid D7;obtain⟨po,pc,rfl,K4,F4⟩:=D7;rw[u3.out]at y9 K4 |-;have H0:Hd po n:=by have:=F4.hd;rw[u3.out]at this;exact this
      have C3:Hid (a3p Cf 0=List.replicate j 0):=hid (by rw[a7z,i5.out]);have x1:Hid (a3p L 0=List.replicate n 0):=hid (by rw[a7z,j0.out]);rw[<-C3.out]at v8;clear u7 B3 x2 y0 E5 s7 n0 y7 c8 i3 p4 f0 o6 bx f2 f3 B1 r2 r5 e2 e3 e4 e5 e6 e7 n5 j8 i9 u1 l3 t2 t7 p3 y5 D8 w0 j9 F0;go_wp2_with fail
      go_loopw [22,23] (fun av jv wz=>∃q:Nat,jv= .int .i64 q/\av= .int .i64 (rkN us q:Int)/\q<=j/\FS Z1 z.heap.size g uo uc j n co lo m (a3p Cf q) (List.replicate n 0) wz/\HX Z2 wz/\ExtX Z2 w7 wz/\Ext z wz) (fun _ jv _=>j - (intOf jv).toNat)
      case atStart=>exact⟨0,rfl,rfl,Nat.zero_le _,⟨C1,v8,E2⟩,I7,ExtX.refl _,H8⟩
      case round=>
       clear C1 v8 E2;obtain⟨q,rfl,rfl,hq,⟨bx,hC,hL⟩,c2,b7,a2⟩:=hrel;by_cases m7:q<j
       ·have z7:q<us.length:=by rw[o2.out];exact m7
        have o0:q<Cf.length:=by rw[i5.out];exact m7
        have kb:=d5.out q z7 wr a2;have a8:Hid (us.getD q false=us[q]):=hid (by simp[List.getD_eq_getElem?_getD,z7]);obtain⟨b1,k8⟩:∃b1,us[q]=b1:=⟨_,rfl⟩;rw[k8]at kb a8;have iu:=u6.out q m7;have g8:=b7E us q;obtain⟨m5,k4⟩:=a7.out q m7 o0;clear k8;cases b1
        ·have l8:=hid (b7D a8.out)
         have K2:=hid (b2d o0 (k4 a8.out));clear a8 m5 k4;obtain⟨r,hr⟩:∃r,rkN us q=r:=⟨_,rfl⟩;rw[hr]at l8 g8 |-;rw[<-K2.out]at hC;clear hr;go_wp2_with fail
         go_roundw
         case rel=>exact⟨q+1,by go_num,by rw[l8.out],by omega,⟨bx,hC,hL⟩,c2,b7,a2⟩
         case measure=>simp[intOf];omega
        ·have f5:=hid (b4s a8.out)
         obtain⟨m4,x8⟩:=m5 a8.out;have e0:=hid (a9j o0);have u4:=hid x8;obtain⟨r,hr⟩:∃r,rkN us q=r:=⟨_,rfl⟩;simp only[hr]at f5 g8 m4 u4 |-;have E6:r<m:=by rw[c7.out]at m4;exact m4
         obtain⟨ge,oe,s1,a1,n1,c1,d1,k1,e1,q9,H5,y8,n7⟩:=s4.rat QC.shaped r m4;rw[u4.out]at n7;obtain⟨v,hv⟩:∃v,Cf[q]=v:=⟨_,rfl⟩;rw[hv]at n7 e0;obtain⟨gt,ot,k0⟩:∃gt ot,adr co (q*3)=⟨gt,ot,none⟩:=⟨_,_,rfl⟩;have c5:Ext wr wr.drew:=(ExtX.refl wr).drew;have J0:=bx.ext0 c5;obtain⟨z1,z2,z3⟩:=y8.out Z2 wr b7 H5;have hS:wr.drew.cell? ⟨g,2,none⟩=some (.slice co j j)/\wr.drew.cell? ⟨ge,oe,none⟩=some (.bool s1)/\wr.drew.cell? ⟨ge,oe+1,none⟩=some (.slice a1 n1 c1)/\wr.drew.cell? ⟨ge,oe+2,none⟩=some (.slice d1 k1 e1):=⟨J0.cell 2 rfl,c5.cell z1,c5.cell z2,c5.cell z3⟩;have i1:∀W,(Instr.indexAt 24 (.slice bo m bc) (.int .i64 (r:Int))).run Tryz.prog W= .ok (.pointer (some ⟨ge,oe,none⟩)) W:=by rw[<-q9];exact a0m a0B bo m bc .i64 r k5 E6
         have i2:∀W,(Instr.indexAt 24 (.slice co j j) (.int .i64 (q:Int))).run Tryz.prog W= .ok (.pointer (some ⟨gt,ot,none⟩)) W:=by rw[<-k0];exact a0m a0B co j j .i64 q F8 m7
         have D3:QC (mk (un (un Z1 lo) co) wr.drew) (.agg #[.bool s1, .slice a1 n1 c1, .slice d1 k1 e1]) v:=by
          have h9:=mkx QC.mono (QC.mono _ _ _ _ (a0w b7 fun _ h=>h) n7) c5;rw[<-f7,a0Y]at h9;rw[a0Y]
          first|exact h9|(rw[a0Y];exact h9)|(refine QC.mono _ _ _ _ (a1u fun k _ E=>?_) h9;simpa[un,Bool.or_comm,Bool.or_assoc,Bool.or_left_comm]using E)
         have z4:=hC.ext0 QC.elem c5;have u8:q<(a3p Cf q).length:=by rw[a9i (by omega)];exact o0
         clear a8 m5 k4 x8 u4 hr y8 n7 q9 hv z1 z2 z3 m4;go_wp2_with fail
         (try simp only[Act.put])
         refine a0O 8 (fun D=>D.cell? ⟨g,2,none⟩=some (.slice co j j)/\D.cell? ⟨ge,oe,none⟩=some (.bool s1)/\D.cell? ⟨ge,oe+1,none⟩=some (.slice a1 n1 c1)/\D.cell? ⟨ge,oe+2,none⟩=some (.slice d1 k1 e1)) (by kernel_rfl) (by kernel_rfl) hS (fun A f=>?_);refine kt 0 f ?_;refine kt 1 f ?_;refine kt 2 f ?_;refine kt 3 f ?_;refine kt 4 f ?_;refine kt 5 f ?_;refine kt 6 f ?_;refine kt 7 f ?_;refine a0v (i:=8) (o:=⟨_,_,_,_,_,_⟩) (by kernel_rfl) rfl (by decide) (by kernel_rfl) (fun K J=>?_)
         (refine a4z rfl rfl a7a QC.elem q rfl k0 z4 u8 (.agg #[.bool s1, .slice a1 n1 c1, .slice d1 k1 e1]) v rfl D3 ?_;intro w9 o1 a9)
         refine J.out _ _ ?_;clear J K
         (try simp only[Act.put])
         rw[e0.out]at o1;have m1:=(ExtX.of c5).trans a9;have t9:=bx.ext m1 J7;have o8:=hL.ext QC.elem (Z:=un Z1 co) m1 (fun k _ E=>a0r E) (fun _ _ h=>h);have v4:HX Z2 w9:=fun k E=>Nat.lt_of_lt_of_le (c2 k E) m1.size;have m3:=b7.trans (m1.weaken fun k _ E=>by
          cases h0:ob co k
          ·rfl
          ·rw[K5 k h0]at E;cases E)
         have D6:Ext z w9:=a2.then_ m1 fun k E _=>hC.ob_lt E;clear A f hS i1 i2 D3 z4;go_wp2_with fail
         go_roundw
         case rel=>exact⟨q+1,by go_num,by rw[f5.out];go_num,by omega,⟨t9,o1,o8⟩,v4,m3,D6⟩
         case measure=>simp[intOf];omega
       ·have G3:q=j:=by omega
        subst G3;have n2:a3p Cf q=Cf:=by rw[<-i5.out];exact a7A Cf
        rw[n2]at hC;rw[<-x1.out]at hL;clear a7 s4 d5 n2;go_wp2_with fail
        go_loopw [24] (fun iv wz=>∃i:Nat,iv= .int .i64 i/\i<=n/\FS Z1 z.heap.size g uo uc q n co lo m Cf (a3p L i) wz/\HX Z2 wz/\ExtX Z2 w7 wz/\Ext z wz) (fun iv _=>n - (intOf iv).toNat)
        case atStart=>exact⟨0,rfl,Nat.zero_le _,⟨bx,hC,hL⟩,c2,b7,a2⟩
        case round=>
         clear bx hC hL c2 b7 a2;obtain⟨i,rfl,hi,⟨bx,hC,hL⟩,c2,b7,a2⟩:=hrel;by_cases p2:i<n
         ·have s8:i<U.length:=by rw[u3.out];exact p2
          have t3:i<L.length:=by rw[j0.out];exact p2
          obtain⟨ra,rc,E8,t0,B0,H9⟩:=F4.row i s8;have h7:RC (mk Z2 w7) (.slice ra U[i].length rc) U[i]:=⟨ra,rc,rfl,B0,H9⟩;have m8:=hid (List.getElem_mem s8);have g6:=hid (G8.out U[i] m8.out);have t6:=l2.out i s8 t3;have e0:=hid (a9j t3);rw[g6.out]at t0 h7;obtain⟨row,y3⟩:∃row,U[i]=row:=⟨_,rfl⟩;rw[y3]at h7 g6 t6 m8;rw[t6]at e0;have I6:=t0.out Z2 wr b7 E8;have K6:∀W,(Instr.indexAt 23 (.slice po n pc) (.int .i64 (i:Int))).run Tryz.prog W= .ok (.pointer (some (adr po i))) W:=a0z a0s po n pc .i64 i H0 p2 rfl;have g4:=RC.mono _ _ _ _ (a0w b7 fun _ h=>h) h7;have y4:=MC.mono _ _ _ _ (a0w b7 fun _ h=>h) H3;have D1:=d9.out d7 Z2 wr iv _ row c2 y4 g4 g6.out (k3.out row m8.out);clear y3 t6 y4;go_wp2_with fail
          refine D1.mono ?_;rintro ee w8 ⟨e8,vv,rfl,A8⟩;clear D1;have c5:Ext w8 w8.drew:=(ExtX.refl w8).drew;have g0:=e8.trans c5;have E3:=bx.ext0 g0;have G1:=hC.ext0 QC.elem g0;have J2:=hL.ext0 QC.elem g0;have q8:=c2.ext g0;have p6:ExtX Z2 w7 w8.drew:=b7.trans (ExtX.of g0);have B2:=a2.trans g0;have v9:=mkx RC.mono g4 g0;have x0:=mkx RC.mono A8 c5;have u8:i<(a3p L i).length:=by rw[a9i (by omega)];exact t3
          obtain⟨gt,ot,k0⟩:∃gt ot,adr lo (i*3)=⟨gt,ot,none⟩:=⟨_,_,rfl⟩;have i2:∀W,(Instr.indexAt 24 (.slice lo n n) (.int .i64 (i:Int))).run Tryz.prog W= .ok (.pointer (some ⟨gt,ot,none⟩)) W:=by rw[<-k0];exact a0m a0B lo n n .i64 i A5 p2
          have hS:Hid (∀D,Ext w8.drew D->D.cell? ⟨g,7,none⟩=some (.slice lo n n)/\D.cell? (adr po i)=some (.slice ra m rc)):=hid fun D h=>⟨(E3.ext0 h).cell 7 rfl,t0.out Z2 D (p6.trans (ExtX.of h)) E8⟩;have A6:=h8.out Z2 w8.drew _ vv row q8 m8.out v9 x0;clear I6 g4 h7 A8 bx hC hL c2 b7 a2;go_wp2_with fail
          (try simp only[Act.put])
          refine a0O 10 (fun D=>D.cell? ⟨g,7,none⟩=some (.slice lo n n)/\D.cell? (adr po i)=some (.slice ra m rc)) (by kernel_rfl) (by kernel_rfl) (hS.out _ (ExtX.refl _)) (fun A f=>?_);refine kt 0 f ?_;refine kt 1 f ?_;refine kt 2 f ?_;refine kt 3 f ?_;refine kt 4 f ?_;refine kt 5 f ?_;refine kt 6 f ?_;refine kt 7 f ?_;refine a0k (i:=8) (o:=⟨_,_,_,_,_,_⟩) (by kernel_rfl) rfl (fun K J=>?_);go_simp
          ((with_reducible refine A6.mono ?_);rintro ee w9 ⟨e9,dv,rfl,g5⟩)
          refine J.out _ _ (hS.out _ e9) (fun A=>?_);clear J K
          (try simp only[Act.put,List.setIfInBounds_toArray,List.set_cons_zero,List.set_cons_succ])
          obtain⟨s6,a6,n6,c6,d6,k6,e6,rfl⟩:=g5.shape;have o8:=J2.ext0 QC.elem e9;have o1:=G1.ext0 QC.elem e9;have t9:=E3.ext0 e9;have B5:=B2.trans e9;have m3:ExtX Z2 w7 w9:=p6.trans (ExtX.of e9);have v4:=q8.ext e9;have g7:QC (mk (un (un Z1 co) lo) w9) (.agg #[.bool s6, .slice a6 n6 c6, .slice d6 k6 e6]) (a2l row (a3j I row)):=by rw[f7];exact g5
          refine kt 9 f ?_;refine a0v (i:=10) (o:=⟨_,_,_,_,_,_⟩) (by kernel_rfl) rfl (by decide) (by kernel_rfl) (fun K J=>?_)
          (refine a4z rfl rfl a7a QC.elem i rfl k0 o8 u8 (.agg #[.bool s6, .slice a6 n6 c6, .slice d6 k6 e6]) _ rfl g7 ?_;intro wq B6 l9)
          refine J.out _ _ ?_;clear J K
          (try simp only[Act.put])
          rw[e0.out]at B6;have I9:=t9.ext l9 J6;have J5:=o1.ext QC.elem (Z:=un Z1 lo) l9 (fun k _ E=>a0r E) (fun _ _ h=>h);have I5:HX Z2 wq:=fun k E=>Nat.lt_of_lt_of_le (v4 k E) l9.size;have E0:=m3.trans (l9.weaken fun k _ E=>by
           cases h0:ob lo k
           ·rfl
           ·rw[J3 k h0]at E;cases E)
          have A1:Ext z wq:=B5.then_ l9 fun k E _=>o8.ob_lt E;clear A f hS i2 A6 g5 g7;go_wp2_with fail
          go_roundw
          case rel=>exact⟨i+1,by go_num,by omega,⟨I9,J5,B6⟩,I5,E0,A1⟩
          case measure=>simp[intOf];omega
         ·have f0:i=n:=by omega
          subst f0;have n2:a3p L i=L:=by rw[<-j0.out];exact a7A L
          rw[n2]at hL;go_wp2_with fail
          go_meet
          case rel=>exact⟨⟨bx,hC,hL⟩,c2,a2⟩
    case rest=>
     obtain⟨⟨bx,hC,hL⟩,c2,a2⟩:=hcut;clear l5 j2 i0 a7 c8 d9 i3 p4 f0 o6 h8 o3 k3 l2 d5 u6 p0;obtain⟨Z3,j5⟩:∃Z3,un Z1 lo=Z3:=⟨_,rfl⟩;obtain⟨Z4,n4⟩:∃Z4,un Z1 co=Z4:=⟨_,rfl⟩;have o7:∀k,Z3 k=true->Z2 k=true:=fun k E=>by
      rw[<-j5]at E;rw[<-f7];rcases(by simpa[un]using E:Z1 k=true\/ob lo k=true)with h|h
      ·exact a0f (a0f h)
      ·exact a0r h
     have o5:∀k,ob (some ⟨g,0,none⟩) k=true->Z3 k=true:=fun k E=>by rw[<-j5];exact a0f (j4 k E)
     have x4:∀k,ob (some ⟨g,0,none⟩) k=true->Z4 k=true:=fun k E=>by rw[<-n4];exact a0f (j4 k E)
     have i9:HX Z3 wc:=fun k E=>c2 k (o7 k E);have t8:=hC.sl QC.elem;have s5:=hL.sl QC.elem;rw[j5]at t8;rw[n4]at s5;have A0:RC (mk Z3 wc) (.slice co j j) Cf:=⟨co,j,by rw[i5.out],by rw[i5.out];exact Nat.le_refl _,t8⟩;have J1:RC (mk Z4 wc) (.slice lo n n) L:=⟨lo,n,by rw[j0.out],by rw[j0.out];exact Nat.le_refl _,s5⟩;have K1:=MV.mono _ _ _ _ (a1u fun k _ E=>o7 k E) (C8.out wc a2);have I2:=RV.mono _ _ _ _ (a1u fun k _ E=>o7 k E) (A4.out wc a2);have A9:=(r7.out wc a2).mono BlR.mono (a1u (X:=Z3) fun k _ E=>o7 k E);have B9:b≠g:=by have:=g2.size;omega
     have z6:w.heap.size<=g:=by have:=g2.size;omega
     have q2:=bx.cell 2 rfl;clear t8 s5 hC hL;go_wp2_with fail
     refine(j1.out Z3 wc _ i9 K1 I2 A0).mono ?_;rintro ee w2 ⟨e2,rv,rfl,E7⟩;have m2:=hid E7;obtain⟨ro,rc,rfl,I0,F5⟩:=E7;rw[g6.out]at m2 I0 |-;have G5:=bx.ext0 e2;have b2:=b0.ext0 (g2.trans (a2.trans e2));have B7:=i9.ext e2;clear q2 F5 bx j1;go_wp2_with ((show wpList _ _ _ (⟨_, .store _ _ _,_,_,_,_⟩::_) _ _);refine a4h (v:= .slice ro n rc) b7z rfl rfl rfl rfl G5 (by simp) ?_;intro w3 v3 x3;have q3:=v3.cell 3 rfl)
     have A7:HX Z3 w3:=fun k E=>Nat.lt_of_lt_of_le (B7 k E) x3.size;have b3:=b2.ext x3 (a0b B9);have G0:=RC.mono _ _ _ _ (a0w x3 o5) m2.out;have x9:=u5.out Z3 w3 _ A7 G0;refine x9.mono ?_;rintro ee w4 ⟨e4,dv,rfl,g5⟩;have g7:=hid g5;obtain⟨s',a',n',c',d',k',e',rfl⟩:=g5.shape;have I4:=v3.ext0 e4;have b4:=b3.ext0 e4;have L1:b<w4.heap.size:=a2p (b4.cell 0 rfl);clear q3 x9 v3 g5 b0 b2 b3;go_wp2_with ((show wpList _ _ _ (⟨_, .store _ _ _,_,_,_,_⟩::_) _ _);first|(refine a0a a5j rfl rfl bb rfl rfl (by intro v hv;simp at hv;rcases hv with rfl|rfl|rfl|rfl|rfl|rfl|rfl|rfl<;>rfl) ?_;intro w6 v6 x6)|(refine a6Q a0t rfl rfl I4 (by simp) rfl (by intro v hv;simp at hv;rcases hv with rfl|rfl|rfl<;>rfl) ?_;intro w5 v5 x5;have bb:=b4.ext x5 (a0b B9);have q0:=v5.cell 0 rfl;have q1:=v5.cell 1 rfl;have q2:=v5.cell 2 rfl;have q3:=v5.cell 3 rfl;have q4:=v5.cell 4 rfl;have q5:=v5.cell 5 rfl;have q6:=v5.cell 6 rfl;have q7:=v5.cell 7 rfl))
     have G9:Ext w w5:=ExtX.box ((ExtX.box (hE.trans (g2.trans (a2.trans e2))) x3 z6).trans e4) x5 z6;have n9:Le (mk Z3 w5) (mk X w6):=a4i x6 (fun k E=>by rw[<-j5];exact a0f (F9.out k E)) (fun k E=>by rw[<-j5];exact a0f (C4.out k E));have H4:Le (mk Z4 w5) (mk X w6):=a4i x6 (fun k E=>by rw[<-n4];exact a0f (F9.out k E)) (fun k E=>by rw[<-n4];exact a0f (C4.out k E));have C6:Le (mk Z3 w3) (mk Z3 w5):=(a0l e4).trans (a0w x5 o5);have r1:Le (mk Z3 w2) (mk Z3 w5):=(a0w x3 o5).trans C6;have C5:Le (mk Z4 wc) (mk Z4 w5):=(a0l e2).trans ((a0w x3 x4).trans ((a0l e4).trans (a0w x5 x4)));have r0:Le (mk Z3 wc) (mk Z3 w5):=(a0l e2).trans r1;exact bodyPost_ret (a1x rfl rfl a5j v6 rfl) rfl (b6.out _ _ _ _ _ _ _ _ _ _ _ _ _ _ _ _ (ExtX.box G9 x6 J4) J8 (A9.mono BlR.mono (r0.trans n9)) (RC.mono _ _ _ _ (r0.trans n9) A0) (RC.mono _ _ _ _ (r1.trans n9) m2.out) (QC.mono _ _ _ _ ((a0w x5 o5).trans n9) g7.out) (RC.mono _ _ _ _ (C5.trans H4) J1))
set_option maxRecDepth 100000 in
set_option maxHeartbeats 1600000 in
theorem b2e (X:Nat->Bool) (w:World) (u v:Value) (l m:List Rat) (hX:HX X w) (hu:RV (mk X w) u l) (hv:RV (mk X w) v m) (hn:l.length<=1000000) (p:m.length=l.length) (B:∀k,k<=l.length->hq (a3Z l m k)<=68719476736) (A:∀k,k<l.length->hq (l.getD k 0*m.getD k 0)<=68719476736):
  Calls Tryz.prog 25 #[u,v] w (a1Z X w QC (a2l l m)):=by
 obtain⟨ao,ca,rfl,d8,J⟩:=hu;obtain⟨bo,cb,rfl,c1,a2⟩:=hv;have a3:=J.hd;have a4:=a2.hd;obtain⟨W,hW,hE,O,E,hz⟩:=a1v w #[.bool false, .slice none 0 0, .slice none 0 0] #[.bool false, .slice none 0 0, .slice none 0 0] 45 45;have N:HX (a0e X w.heap.size 2) W:=hX.boxes hz;have h0:QC (mk (a0e X w.heap.size 2) W) (.agg #[.bool false, .slice none 0 0, .slice none 0 0]) (a3Z l m 0):=QC.zero _;obtain⟨n,g⟩:∃n,l.length=n:=⟨_,rfl⟩;rw[g]at hn p B A d8 a3 |-;rw[p]at c1 a4 |-;have a9:=hid g;have P:=hid p;have Q:=hid B;have a8:=hid A;have a5:Hid (a3Z l m n=a2l l m):=hid (by unfold a2l;rw[g]);clear g p B A;go_enter Tryz.func25,Tryz.ntmps25
 go_wp2_with fail
 obtain⟨b,hb⟩:∃b,w.heap.size=b:=⟨_,rfl⟩;have S:Hid (∀wr,Ext w wr->Le (mk X w) (mk (a0e X b 2) wr)):=hid fun wr h=>by rw[<-hb];exact a0o h
 have e9:w.heap.size<=b:=by omega
 rw[hb]at O E N h0 |-;clear hW;go_loopw [9] (fun k wr=>∃(i:Nat) (s:Bool) (a:Option Addr) (n' c':Nat) (d:Option Addr) (kk e:Nat),k= .int .i64 i/\i<=n/\Bx wr b #[.bool false, .slice none 0 0, .slice none 0 0] 45/\Bx wr (b+1) #[.bool s, .slice a n' c', .slice d kk e] 45/\QC (mk (a0e X b 2) wr) (.agg #[.bool s, .slice a n' c', .slice d kk e]) (a3Z l m i)/\HX (a0e X b 2) wr/\Ext w wr) (fun k _=>n - (intOf k).toNat)
 case atStart=>exact⟨0,_,_,_,_,_,_,_,rfl,Nat.zero_le _,O,E,h0,N,hE⟩
 case round=>
  obtain⟨i,s,a,n',c',d,kk,e,rfl,hi,O,E,hq,d4,o⟩:=hrel;by_cases F:i<n
  ·have a0:i<l.length:=by rw[a9.out];exact F
   have G:i<m.length:=by rw[P.out];exact F
   have c2:=J.mono QV.mono (S.out wr o);have L:=a2.mono QV.mono (S.out wr o);obtain⟨g1,o1,s1,p1,n1,q1,d1,k1,e1,H,f4,R,a1⟩:=c2.rat QV.shaped i a0;obtain⟨g2,o2,s2,p2,n2,q2,d2,k2,e2,b4,f3,b5,M⟩:=L.rat QV.shaped i G;have gl:Hid (l.getD i 0=l[i]):=hid (by simp[List.getD_eq_getElem?_getD,a0]);have gm:Hid (m.getD i 0=m[i]):=hid (by simp[List.getD_eq_getElem?_getD,G]);have j:Hid (a3Z l m i+l[i]*m[i]=a3Z l m (i+1)):=hid (by rw[<-gl.out,<-gm.out];rfl);have U:=hid (Q.out i hi);have t:=hid (a8.out i F);rw[gl.out,gm.out]at t;obtain⟨x,hx⟩:∃x,l[i]=x:=⟨_,rfl⟩;obtain⟨y,hy⟩:∃y,m[i]=y:=⟨_,rfl⟩;rw[hx,hy]at j t;rw[hx]at a1;rw[hy]at M;have i1:∀W,(Instr.indexAt 24 (.slice ao n ca) (.int .i64 (i:Int))).run Tryz.prog W= .ok (.pointer (some ⟨g1,o1,none⟩)) W:=by rw[<-H];exact a0m a0B ao n ca .i64 i a3 (by omega)
   have i2:∀W,(Instr.indexAt 24 (.slice bo n cb) (.int .i64 (i:Int))).run Tryz.prog W= .ok (.pointer (some ⟨g2,o2,none⟩)) W:=by rw[<-b4];exact a0m a0B bo n cb .i64 i a4 (by omega)
   obtain⟨D,hD⟩:∃D,a3Z l m i=D:=⟨_,rfl⟩;obtain⟨D2,z⟩:∃D2,a3Z l m (i+1)=D2:=⟨_,rfl⟩;rw[hD]at hq j U;rw[z]at j;have b2:=hid z;clear hx hy H b4 hD z;have c:Ext wr wr.drew:=(ExtX.refl wr).drew;have b8:=O.ext0 c;have q:=E.ext0 c;have Y:=q.cell 0 rfl;have b3:=q.cell 1 rfl;have K:=q.cell 2 rfl;obtain⟨d0,c5,e4⟩:=R.out noY wr.drew c rfl;obtain⟨b7,b9,c8⟩:=b5.out noY wr.drew c rfl;have Z:=d4.ext c;have c0:QV (mk (a0e X b 2) wr.drew) (.agg #[.bool s1, .slice p1 n1 q1, .slice d1 k1 e1]) x:=mkx QV.mono a1 c;have e0:QV (mk (a0e X b 2) wr.drew) (.agg #[.bool s2, .slice p2 n2 q2, .slice d2 k2 e2]) y:=mkx QV.mono M c;have c4:QV (mk (a0e X b 2) wr.drew) (.agg #[.bool s, .slice a n' c', .slice d kk e]) D:=(mkx QC.mono hq c).qv U.out;clear R b5;go_wp2_with fail
   go_region_with (first|(go_at_call 52;(with_reducible refine(b3a (a0e X b 2) wr.drew _ _ _ _ Z c0 e0).mono ?_);rintro ee w6 ⟨T,u6,rfl,I⟩;obtain⟨s6,a6,n6,c6,d6,k6,e6,rfl⟩:=I.shape;have V:=Z.ext T;have d5:=mkx QV.mono c4 T;have e3:=I.qv t.out;have r:=q.ext0 T;have m0:=r.cell 0 rfl;have m1:=r.cell 1 rfl;have m2:=r.cell 2 rfl)|(go_at_call 51;(with_reducible refine(b2Z (a0e X b 2) w6 _ _ _ _ V d5 e3).mono ?_);rintro ee w7 ⟨t7,u7,rfl,C⟩;obtain⟨s7,a7,n7,c7,d7,k7,e7,rfl⟩:=C.shape;rw[j.out]at C;have f:=r.ext0 t7;have g0:=f.cell 0 rfl;have d3:=f.cell 1 rfl;have b6:=f.cell 2 rfl;have f0:=f.frozen 0;have f1:=f.frozen 1;have f2:=f.frozen 2))
   all_goals
    obtain⟨z1,z2⟩:=f.set3 (.bool s7) (.slice a7 n7 c7) (.slice d7 k7 e7);have h8:=QC.mono _ _ _ _ (a0h (lo:=b) (nb:=2) z2 (by omega) (by omega)) C;have d9:=((b8.ext0 T).ext0 t7).ext z2 (a0b (by omega));have e8:Ext w _:=ExtX.box (o.trans (c.trans (T.trans t7))) z2 (by omega);have c3:=(V.ext t7).ext z2;rw[<-b2.out]at h8;clear Y b3 K d0 c5 e4 b7 b9 c8 m0 m1 m2 g0 d3 b6 f0 f1 f2 i1 i2;go_wp2_with fail
    go_roundw
    case rel=>exact⟨i+1,_,_,_,_,_,_,_,by go_num,by omega,d9,z1,h8,c3,e8⟩
    case measure=>simp[intOf];omega
  ·have c9:i=n:=by omega
   subst c9;rw[a5.out]at hq;have Y:=E.cell 0 rfl;have b3:=E.cell 1 rfl;have K:=E.cell 2 rfl;go_wp2_with ((with_reducible show wpList _ _ _ (⟨_, .store _ _ _,_,_,_,_⟩::_) _ _);refine a0a a0t rfl rfl O rfl rfl (a1Q _ _ _ _ _ _ _) ?_;intro w7 r1 r2)
   have h7:=QC.mono _ _ _ _ a0n (QC.mono _ _ _ _ (a0h r2 (by omega) (by omega)) hq);exact bodyPost_ret (a0d rfl rfl a0t r1 rfl) rfl ⟨ExtX.box o r2 (by omega),_,rfl,h7⟩
abbrev c1O:Array Value:=#[.int .i64 0, .slice none 0 0, .slice none 0 0, .slice none 0 0, .bool false, .slice none 0 0, .slice none 0 0, .slice none 0 0]
set_option maxRecDepth 100000 in
theorem b2f (X:Nat->Bool) (w:World) (v:Value) (y:List Rat) (r:HX X w) (n:RV (mk X w) v y) (p:y.length<=96) (d:BR 600 y):Calls Tryz.prog 223 #[v] w (a1Z X w QC (a2l y y)):=by
 obtain⟨W,B,j,o,hz⟩:=a1g w #[.bool false, .slice none 0 0, .slice none 0 0] 45;have h:HX (a0e X w.heap.size 1) W:=r.boxes hz;have a:=RV.mono _ _ _ _ (a0o (nb:=1) j) n;obtain⟨b,t⟩:∃b,w.heap.size=b:=⟨_,rfl⟩;have q:w.heap.size<=b:=by omega
 rw[t]at o hz h a;obtain⟨e,g⟩:=a2g (l:=y) (m:=y) d d (by decide) p (by decide);have hd:=hid (b2e (a0e X b 1) W v v y y h a a (by omega) rfl e g);clear n a e g;go_enter Tryz.func223,Tryz.ntmps223
 go_wp2_with fail
 refine hd.out.mono ?_;rintro C F ⟨f,A,rfl,c⟩;obtain⟨z,D,E,x,H,I,e5,rfl⟩:=c.shape;have i:=o.ext0 f;go_wp2_with ((with_reducible show wpList _ _ _ (⟨_, .store 45 _ _,_,_,_,_⟩::_) _ _);refine a0a a0t rfl rfl i rfl rfl (a1Q _ _ _ _ _ _ _) ?_;intro G u k)
 have s:=QC.mono _ _ _ _ a0n (QC.mono _ _ _ _ (a0h k (by omega) (by omega)) c);exact bodyPost_ret (a0d rfl rfl a0t u rfl) rfl ⟨ExtX.box (j.trans f) k (by omega),_,rfl,s⟩
def b4t (X:Nat->Bool) (w:World) (q:Rat) (e:Ending) (w':World):Prop:=Ext w w'/\∃r uo ul uc co cl cc ro rl rc s a n c d k f lo ll lc,e= .returned (.agg #[.int .i64 r, .slice uo ul uc, .slice co cl cc, .slice ro rl rc, .bool s, .slice a n c, .slice d k f, .slice lo ll lc])/\QC (mk X w') (.agg #[.bool s, .slice a n c, .slice d k f]) q
theorem b9B (r:Int) (p:Option Addr) (h j:Nat) (i:Option Addr) (o u:Nat) (k:Option Addr) (m f:Nat) (s:Bool) (t:Option Addr) (b q:Nat) (e:Option Addr) (g c:Nat) (l:Option Addr) (n d:Nat):∀v∈(#[Value.int .i64 r, .slice p h j, .slice i o u, .slice k m f, .bool s, .slice t b q, .slice e g c, .slice l n d]:Array Value).toList,v.oneCell'=true:=by
 intro v a;simp at a;rcases a with rfl|rfl|rfl|rfl|rfl|rfl|rfl|rfl<;>rfl
set_option maxRecDepth 100000 in
set_option maxHeartbeats 1600000 in
theorem b0s (X:Nat->Bool) (w:World) (u v:Value) (y:List Rat) (so:Option Addr) (sc:Nat) (hX:HX X w) (hv:RV (mk X w) v y) (hn:y.length<=96) (G:BR 600 y):Calls Tryz.prog 154 #[u,v, .slice so 0 sc] w (b4t X w (a2l y y)):=by
 obtain⟨W,hW,hE,V,hz⟩:=a1g w c1O 51;have C:HX (a0e X w.heap.size 1) W:=hX.boxes hz;have B:=RV.mono _ _ _ _ (a0o (nb:=1) hE) hv;obtain⟨b,hb⟩:∃b,w.heap.size=b:=⟨_,rfl⟩;have U:w.heap.size<=b:=by omega
 rw[hb]at V hz C B;have Y:Hid (∀k,ob (some ⟨b,0,none⟩) k=true->a0e X b 1 k=true):=hid fun k hk=>by
  have:b=k:=by simpa[ob]using hk
  rw[<-this];exact a2L (Nat.le_refl _) (by omega)
 have m:Ext W W.drew:=(ExtX.refl W).drew;have Q:BR 68719476736 y:=fun q hq=>Nat.le_trans (G q hq) (by decide);have x:=hid (fun E (h:Ext W.drew E)=>a9Y (a0e X b 1) E v y (C.ext (m.trans h)) (mkx RV.mono B (m.trans h)) (by omega));have n:=hid (fun E (h:Ext W.drew E)=>b2f (a0e X b 1) E v y (C.ext (m.trans h)) (mkx RV.mono B (m.trans h)) hn G);have H:=hid (fun E (h:Ext W.drew E)=>V.ext0 (m.trans h));have t:=hid (fun E (h:Ext W.drew E)=>C.ext (m.trans h));have p:Hid (∀h z,RC h z y->∃o c,z= .slice o y.length c):=hid fun h z ⟨o,c,h1,_⟩=>⟨o,c,h1⟩;obtain⟨va,vc,rfl,T,Z⟩:=hv;obtain⟨M,L⟩:∃M,y.length=M:=⟨_,rfl⟩;obtain⟨D,hD⟩:∃D,a2l y y=D:=⟨_,rfl⟩;rw[L]at x n p T hn |-;rw[hD]at n |-;clear L hD G Q Z B V;go_enter Tryz.func154,Tryz.ntmps154
 go_upto_region 2 with fail
 refine a0O 8 (fun _=>True) (by kernel_rfl) (by kernel_rfl) trivial (fun a e=>?_);obtain⟨O,a1⟩:∃O,W.drew=O:=⟨_,rfl⟩;rw[a1]at x n H t m |-;refine kt 0 e ?_;refine kt 2 e ?_;refine kt 4 e ?_;refine kt 5 e ?_;refine a1m (i:=1) (j:=6) (oi:=⟨_,_,_,_,_,_⟩) (oj:=⟨_,_,_,_,_,_⟩) (by kernel_rfl) rfl rfl (fun K d=>?pa) (fun K d=>?pb)
 case' pa=>
  go_simp
  ((with_reducible refine(x.out O (ExtX.refl _)).mono ?_);rintro S N ⟨l,z5,rfl,I⟩;obtain⟨ro,rc,rfl⟩:=p.out _ _ I)
  refine d.out _ _ trivial (fun a=>?_);clear d K
  (try simp only[Act.put,List.setIfInBounds_toArray,List.set_cons_zero,List.set_cons_succ])
  refine a1m (i:=3) (j:=6) (oi:=⟨_,_,_,_,_,_⟩) (oj:=⟨_,_,_,_,_,_⟩) (by kernel_rfl) rfl rfl (fun K d=>?pc) (fun K d=>?pd)
  case' pc=>
   go_simp
   ((with_reducible refine(n.out N l).mono ?_);rintro S J ⟨r,u6,rfl,f⟩;obtain⟨s6,a6,n6,c6,d6,k6,e6,rfl⟩:=f.shape)
   refine d.out _ _ trivial (fun a=>?_);clear d K
   (try simp only[Act.put,List.setIfInBounds_toArray,List.set_cons_zero,List.set_cons_succ])
   refine a0k (i:=6) (o:=⟨_,_,_,_,_,_⟩) (by kernel_rfl) rfl (fun K d=>?_)
   (refine a0N (R:=QC) rfl rfl a0B QC.elem (0:Rat) (fun _=>QC.zero _) (a0e X b 1) (t.out J (l.trans r)) J.heap.size (Nat.le_refl _) M rfl rfl rfl (by omega) (by omega) ?_;intro lo wz P s)
   refine d.out _ _ trivial (fun a=>?_);clear d K
   (try simp only[Act.put,List.setIfInBounds_toArray,List.set_cons_zero,List.set_cons_succ])
   have F:=l.trans (r.trans s);have A:=mkx QC.mono f s
  case' pd=>
   (refine a0N (R:=QC) rfl rfl a0B QC.elem (0:Rat) (fun _=>QC.zero _) (a0e X b 1) (t.out N l) N.heap.size (Nat.le_refl _) M rfl rfl rfl (by omega) (by omega) ?_;intro lo J P r)
   refine d.out _ _ trivial (fun a=>?_);clear d K
   (try simp only[Act.put,List.setIfInBounds_toArray,List.set_cons_zero,List.set_cons_succ])
   have g:=l.trans r;refine a0k (i:=3) (o:=⟨_,_,_,_,_,_⟩) (by kernel_rfl) rfl (fun K d=>?_);go_simp
   ((with_reducible refine(n.out J g).mono ?_);rintro S wz ⟨s,u6,rfl,f⟩;obtain⟨s6,a6,n6,c6,d6,k6,e6,rfl⟩:=f.shape)
   refine d.out _ _ trivial (fun a=>?_);clear d K
   (try simp only[Act.put,List.setIfInBounds_toArray,List.set_cons_zero,List.set_cons_succ])
   have F:=g.trans s;have A:=f
 case' pb=>
  (refine a0N (R:=QC) rfl rfl a0B QC.elem (0:Rat) (fun _=>QC.zero _) (a0e X b 1) (t.out O (ExtX.refl _)) O.heap.size (Nat.le_refl _) M rfl rfl rfl (by omega) (by omega) ?_;intro lo N P l)
  refine d.out _ _ trivial (fun a=>?_);clear d K
  (try simp only[Act.put,List.setIfInBounds_toArray,List.set_cons_zero,List.set_cons_succ])
  refine a0k (i:=1) (o:=⟨_,_,_,_,_,_⟩) (by kernel_rfl) rfl (fun K d=>?_);go_simp
  ((with_reducible refine(x.out N l).mono ?_);rintro S J ⟨r,z5,rfl,I⟩;obtain⟨ro,rc,rfl⟩:=p.out _ _ I)
  refine d.out _ _ trivial (fun a=>?_);clear d K
  (try simp only[Act.put,List.setIfInBounds_toArray,List.set_cons_zero,List.set_cons_succ])
  have g:=l.trans r;refine a0k (i:=3) (o:=⟨_,_,_,_,_,_⟩) (by kernel_rfl) rfl (fun K d=>?_);go_simp
  ((with_reducible refine(n.out J g).mono ?_);rintro S wz ⟨s,u6,rfl,f⟩;obtain⟨s6,a6,n6,c6,d6,k6,e6,rfl⟩:=f.shape)
  refine d.out _ _ trivial (fun a=>?_);clear d K
  (try simp only[Act.put,List.setIfInBounds_toArray,List.set_cons_zero,List.set_cons_succ])
  have F:=g.trans s;have A:=f
 all_goals
  refine kt 7 e ?_;have b9:=H.out wz F;refine a0v (i:=8) (o:=⟨_,_,_,_,_,_⟩) (by kernel_rfl) rfl (by decide) (by kernel_rfl) (fun K d=>?_)
  (refine a0A rfl rfl a5j rfl rfl b9 rfl rfl (b9B _ _ _ _ _ _ _ _ _ _ _ _ _ _ _ _ _ _ _ _) ?_;intro wf x1 x2)
  refine d.out _ _ ?_;clear d K
  (try simp only[Act.put])
  have hq:=QC.mono _ _ _ _ a0n (QC.mono _ _ _ _ (a0w x2 Y.out) A);have a0:Ext w wf:=ExtX.box (hE.trans (m.trans F)) x2 U;clear x n p H t A f;go_wp2_with fail
  exact bodyPost_ret (a0d rfl rfl a5j x1 rfl) rfl ⟨a0,_,_,_,_,_,_,_,_,_,_,_,_,_,_,_,_,_,_,_,_,rfl,hq⟩
set_option maxRecDepth 100000 in
set_option maxHeartbeats 3200000 in
theorem b0t (X:Nat->Bool) (w:World) (u v:Value) (x:Mat) (y:List Rat) (n c B:Nat) (so:Option Addr) (S:List Int) (sc:Nat) (hX:HX X w) (hu:MV (mk X w) u x) (hv:RV (mk X w) v y) (hs:Sl (a0p .i64) 1 w.cell? so S) (hsh:Shp n c x) (hy:y.length=n) (hn1:1<=n) (hn:n<=8) (hxB:BM B x) (hyB:BR B y) (hB1:1<=B) (hB:B<=510/\n*(2*B+1)<=6540) (hsb:∀v∈S,0<=v/\v<(c:Int)) (hs1:1<=S.length) (hs4:S.length<=4):
  Calls Tryz.prog 154 #[u,v, .slice so S.length sc] w (b4t X w (a6b x y n S)):=by
 obtain⟨W,hW,hE,b0,hz⟩:=a1g w c1O 51;have hXW:HX (a0e X w.heap.size 1) W:=hX.boxes hz;have hu1:=MV.mono _ _ _ _ (a0o (nb:=1) hE) hu;have hv1:=RV.mono _ _ _ _ (a0o (nb:=1) hE) hv;have hs1':=b1q hs hE;rw[<-a1U]at hs1';obtain⟨b,hb⟩:∃b,w.heap.size=b:=⟨_,rfl⟩;have hbw:w.heap.size<=b:=by omega
 rw[hb]at b0 hz hXW hu1 hv1;have hZb:Hid (∀k,ob (some ⟨b,0,none⟩) k=true->a0e X b 1 k=true):=hid fun k hk=>by
  have:b=k:=by simpa[ob]using hk
  rw[<-this];exact a2L (Nat.le_refl _) (by omega)
 have hps:=a4g hsh S;have hpB:=b0l hsh hxB hsb;have hfit:=hid (fun w' z (h:Ext W w') (hz:MV (mk (a0e X b 1) w') z (a1c x S))=>b9A (a0e X b 1) w' z v (a1c x S) y n S.length B (hXW.ext h) hz (mkx RV.mono hv1 h) (a2R.2 ⟨b9H hps (by omega) hs1 (by omega),by rw[hps.1];exact hn1,by rw[hps.1];omega,by rw[b4I hps hn1];omega,by rw[hps.1];exact hy⟩) hps.1 (b4I hps hn1) hn hs4 hpB hyB hB1 hB);have hq:Hid ((b9n (a1c x S) y n S.length).rss=a6b x y n S):=hid rfl;obtain⟨F,hF⟩:∃F,b9n (a1c x S) y n S.length=F:=⟨_,rfl⟩;rw[hF]at hfit hq;obtain⟨Z,hZ⟩:∃Z,a0e X b 1=Z:=⟨_,rfl⟩;have hZX:=hid (fun k (h:X k=true)=>(by rw[<-hZ];exact a7s h:Z k=true));rw[hZ]at hXW hu1 hv1 hfit hZb;have hpl:=a4d x S;have hpi:=hid (fun i (h:i<(a1c x S).length) (h2:i<x.length)=>a8Y x S i h h2);obtain⟨M,hM⟩:∃M,a1c x S=M:=⟨_,rfl⟩;rw[hM]at hpl hpi hfit;have hrow:=hid hsh.2;have hxl:=hsh.1;obtain⟨ua,uc,rfl,huc,hus⟩:=hu1;have hhu:=hus.hd;have hhs:=hs1'.hd;obtain⟨k,hk⟩:∃k,S.length=k:=⟨_,rfl⟩;have hk':=hid hk;have hxl':=hid hxl;have hpl':=hid hpl;rw[hxl]at huc hhu hpl |-;rw[hk]at hs1 hs4 hhs |-;have hsb':=hid hsb;have hMl1:M.length<=n:=by omega
 have hMl2:n<=M.length:=by omega
 have hpos:((k:Int)==0)=false:=a2w (by omega);clear hps hpB hxB hyB hF hM hk hu hv hs hy hsb hsh hpl hxl;go_enter Tryz.func154,Tryz.ntmps154
 go_wp2_with fail
 go_loopw [7,28] (fun o cc wr=>∃(i:Nat) (oo:Option Addr) (co:Nat),cc= .int .i64 i/\o= .slice oo i co/\i<=n/\OL RV 1 Z W.heap.size 24 wr oo co (M.take i)/\Ext W wr) (fun _ cc _=>n - (intOf cc).toNat)
 case atStart=>exact⟨0,none,0,rfl,rfl,Nat.zero_le _,OL.nil _ _ _ _ _ _,ExtX.refl _⟩
 case round=>
  obtain⟨i,oo,co,rfl,rfl,hi,hO,hEr⟩:=hrel;have hXr:HX Z wr:=hXW.ext hEr;by_cases hlt:i<n
  ·have hix:i<x.length:=by rw[hxl'.out];exact hlt
   have hiM:i<M.length:=by omega
   have htk:=hid (a0L M i hiM);have hln:=hid (a0W (l:=M) (i:=i) (by omega));have hMq:=hid (hpi.out i hiM hix);have hXu:=hO.unX hXr;have hsr:Sl RV 1 (mk (un Z oo) wr) ua x:=hus.old RV.mono hEr (fun j hj=>hO.ob_lt hj);obtain⟨a1,c1,hX1,hc1,hcl1,hq1⟩:=hsr.row i hix;have k00:=hc1.out noY wr (ExtX.refl _) rfl;have hrl:=hrow.out x[i] (List.getElem_mem _);have hss:=hs1'.mono (a0p.mono _) (a0l hEr);obtain⟨r,hr⟩:∃r,x[i]=r:=⟨_,rfl⟩;rw[hr]at k00 hMq hrl hcl1 hq1;rw[hrl]at k00 hcl1;have hrl':=hid hrl;have hh1:=hq1.hd;rw[hrl]at hh1;obtain⟨L,hL⟩:∃L,a2O r S=L:=⟨_,rfl⟩;have hLl:L.length=S.length:=by rw[<-hL];exact a4c r S
   have hLi:=hid (show∀j (h1:j<L.length) (h2:j<S.length) (i:Nat) (h3:i<r.length),S[j]=(i:Int)->L[j]=r[i]from fun j h1 h2 i h3 h=>by subst hL;exact a8X h1 h2 h3 h);rw[hL]at hMq;rw[hk'.out]at hLl;have hLl1:L.length<=k:=by omega
   have hLl2:k<=L.length:=by omega
   have hLk:=hid hLl;obtain⟨wo,hwo⟩:∃wo,wo=wr:=⟨_,rfl⟩;subst hwo;clear hr hL hLl hrl hc1;go_wp2_with (with_reducible refine a0q a0s (by omega) (by assumption) ?_)
   go_loopw [10,34] (fun o cc wr=>∃(j:Nat) (po:Option Addr) (pc:Nat),cc= .int .i64 j/\o= .slice po j pc/\j<=k/\OL QV 3 (un Z oo) wo.heap.size 45 wr po pc (L.take j)/\Ext wo wr) (fun _ cc _=>k - (intOf cc).toNat)
   case atStart=>exact⟨0,none,0,rfl,rfl,Nat.zero_le _,OL.nil _ _ _ _ _ _,ExtX.refl _⟩
   case round=>
    obtain⟨j,po,pc,rfl,rfl,hj,hP,hEi⟩:=hrel;have hXi:HX (un Z oo) wr:=HX.ext hXu hEi;have hbase:=hEi.size;by_cases hjk:j<k
    ·have hjs:j<S.length:=by rw[hk'.out];exact hjk
     have hjL:j<L.length:=by omega
     have htk2:=hid (a0L L j hjL);have hln2:=hid (a0W (l:=L) (i:=j) (by omega));have hc:=(hss.mono (a0p.mono _) (a0l hEi)).int j hjs;obtain⟨h1,h2⟩:=hsb'.out S[j] (List.getElem_mem _);obtain⟨q,hq⟩:=Int.eq_ofNat_of_zero_le h1;have hqn:q<c:=by omega
     have hqz:q<r.length:=by rw[hrl'.out];exact hqn
     have hMq2:=hid (hLi.out j hjL hjs q hqz hq);rw[hq]at hc;have hsr2:Sl QV 3 (mk (un (un Z oo) po) wr) a1 r:=hq1.old QV.mono hEi (fun j hj=>hP.ob_lt hj);clear h1 h2 hq k00;go_wp2_with (first
      |(with_reducible refine a0q a2h (by omega) (by assumption) ?_)
      |(with_reducible refine a1M a0B (by omega) (by assumption) ?_)
      |((with_reducible show wpList _ _ _ (⟨_, .load 45 _,_,_,_,_⟩::_) _ _);refine a0G a0t q hsr2 hqz rfl (by simp) QV.agg ?_;intro u5 hu5;rw[<-hMq2.out]at hu5;obtain⟨s5,a5,n5,c5,d5,m5,e5,rfl⟩:=hu5.shape)
      |(at_builtin;refine a0u (l:=L.take j) a0B rfl QV.elem hbase hXi j hln2.out rfl rfl hP (.agg #[.bool s5, .slice a5 n5 c5, .slice d5 m5 e5]) L[j] rfl hu5 (by omega) (by omega) ?_;intro oo2 co2 w7 hO7 hE7 hor))
     have hE8:=hEi.own hP (Nat.le_refl _) hE7;rw[htk2.out]at hO7;go_roundw
     case rel=>exact⟨j+1,oo2,co2,by go_num,by go_num,by omega,hO7,hE8⟩
     case measure=>simp[intOf];omega
    ·have hjl:j=k:=by omega
     subst hjl;rw[List.take_of_length_le (by omega)]at hP;have hpc:=hP.lenCap;rw[hLk.out]at hpc;have hRV:RV (mk (un Z oo) wr) (.slice po j pc) M[i]:=by
      rw[hMq.out];exact⟨po,pc,by rw[hLk.out],by rw[hLk.out];exact hpc,hP.sl QV.elem⟩
     have hO5:=hO.ext0 RV.elem hEi;have hE05:=hEr.trans hEi;have hX5:=hXW.ext hE05;have hb5:=hE05.size;clear hP k00;go_wp2_with (at_builtin;refine a0u (l:=M.take i) a0s rfl RV.elem hb5 hX5 i hln.out rfl rfl hO5 (.slice po j pc) M[i] rfl hRV (by omega) (by omega) ?_;intro oo2 co2 w7 hO7 hE7 hor)
     have hE8:=hE05.own hO5 (Nat.le_refl _) hE7;rw[htk.out]at hO7;go_roundw
     case rel=>exact⟨i+1,oo2,co2,by go_num,by go_num,by omega,hO7,hE8⟩
     case measure=>simp[intOf];omega
  ·have hil:i=n:=by omega
   subst hil;rw[List.take_of_length_le (by omega)]at hO;have hMn:M.length=i:=by omega
   have hMV:MV (mk Z wr) (.slice oo i co) M:=⟨oo,co,by rw[hMn],hO.lenCap,hO.sl RV.elem⟩;have hf:=hid (hfit.out wr _ hEr hMV);clear hO hMV hfit hMn;go_wp2_with fail
   refine hf.out.mono ?_;rintro e w5 ⟨hE5,fv,rfl,hfv⟩;obtain⟨uo,uc',co',cl',cc,ro,rl,rc,s3,a3,n3,c3,d3,k3,e3,fo,ll,lc,rfl,-,-,-,-,hrs4,-⟩:=hfv;rw[hq.out]at hrs4;obtain⟨ul,hul⟩:∃ul,F.used.length=ul:=⟨_,rfl⟩;obtain⟨rk,hrk⟩:∃rk,F.rank=rk:=⟨_,rfl⟩;rw[hul,hrk];have bN:=Bx.new w5 c1O 51;have hE05:=hEr.trans hE5;have b05:=b0.ext0 hE05;clear hul hrk hf;go_wp2_with (first
    |((with_reducible show wpList _ _ _ (⟨_, .load 51 _,_,_,_,_⟩::_) _ _);refine a3i a5j rfl x1 rfl ?_)
    |((with_reducible show wpList _ _ _ (⟨_, .store 51 _ _,_,_,_,_⟩::_) _ _);first|(refine a0a a5j rfl rfl bN rfl rfl (b9B _ _ _ _ _ _ _ _ _ _ _ _ _ _ _ _ _ _ _ _) ?_;intro w7 x1 y1;have hE7:Ext w5 w7:=ExtX.box ((ExtX.refl w5).alloc _) y1 (Nat.le_refl _);have b07:=b05.ext0 hE7)|(refine a0a a5j rfl rfl b07 rfl rfl (b9B _ _ _ _ _ _ _ _ _ _ _ _ _ _ _ _ _ _ _ _) ?_;intro w8 x2 y2)))
   have h8:=QC.mono _ _ _ _ (a4i y2 hZb.out hZX.out) (mkx QC.mono hrs4 hE7);exact bodyPost_ret (a0d rfl rfl a5j x2 rfl) rfl ⟨ExtX.box (hE.trans (hE05.trans hE7)) y2 hbw,_,_,_,_,_,_,_,_,_,_,_,_,_,_,_,_,_,_,_,_,rfl,h8⟩
theorem a9p (r:Int) (q:Option Addr) (i k:Nat) (j:Option Addr) (p t:Nat) (l:Option Addr) (n h:Nat) (s:Bool) (f:Option Addr) (a e:Nat) (c:Option Addr) (d b:Nat) (m:Option Addr) (o g:Nat) (W:World):(Instr.field 51 (.agg #[.int .i64 r, .slice q i k, .slice j p t, .slice l n h, .bool s, .slice f a e, .slice c d b, .slice m o g]) 4).run Tryz.prog W= .ok (.agg #[.bool s, .slice f a e, .slice c d b]) W:=by kernel_rfl
set_option maxRecDepth 100000 in
theorem b7F (X:Nat->Bool) (w:World) (u v:Value) (x:Mat) (y:List Rat) (n c B:Nat) (o:Option Addr) (S:List Int) (C:Nat) (U:HX X w) (I:MV (mk X w) u x) (L:RV (mk X w) v y) (J:Sl (a0p .i64) 1 w.cell? o S) (j:Shp n c x) (H:y.length=n) (E:1<=n) (P:n<=8) (p:BM B x) (i:BR B y) (D:1<=B) (N:B<=510/\n*(2*B+1)<=6540) (z:∀v∈S,0<=v/\v<(c:Int)) (F:S.length<=4):
  Calls Tryz.prog 74 #[u,v, .slice o S.length C] w (a1Z X w QC (a6b x y n S)):=by
 obtain⟨W,hW,A,M,hz⟩:=a1g w #[.bool false, .slice none 0 0, .slice none 0 0] 45;have m:HX (a0e X w.heap.size 1) W:=U.boxes hz;have l:=MV.mono _ _ _ _ (a0o (nb:=1) A) I;have g:=RV.mono _ _ _ _ (a0o (nb:=1) A) L;obtain⟨b,T⟩:∃b,w.heap.size=b:=⟨_,rfl⟩;have Q:w.heap.size<=b:=by omega
 rw[T]at M hz m l g;have h:Hid (Calls Tryz.prog 154 #[u,v, .slice o S.length C] W (b4t (a0e X b 1) W (a6b x y n S))):=hid (by
  by_cases V:S.length=0
  ·obtain rfl:S= []:=List.eq_nil_of_length_eq_zero V
   have e:a6b x y n []=a2l y y:=by
    have e:a2l (a1L (a1c x []) y n ([]:List Int).length) (gyL (a1c x []) y n ([]:List Int).length)=0:=by
     rw[a4f (a4e (a1c x []) y n ([]:List Int).length)];rfl
    rw[a8o j H,e];grind
   rw[e];exact b0s (a0e X b 1) W u v y o C m g (by omega) (fun q hq=>Nat.le_trans (i q hq) (by omega))
  ·exact b0t (a0e X b 1) W u v x y n c B o S C m l g (b1q J A) j H E P p i D N z (by omega) F)
 clear I L J j H p i z l g;go_enter Tryz.func74,Tryz.ntmps74
 go_wp2_with fail
 refine h.out.mono ?_;rintro e w5 ⟨t,r,uo,ul,Z,co,cl,cc,ro,rl,rc,s,a,n0,c0,d,k,f,lo,ll,lc,rfl,hq⟩;have G:=M.ext0 t;have O:=a9p;clear h;go_wp2_with ((with_reducible show wpList _ _ _ (⟨_, .store 45 _ _,_,_,_,_⟩::_) _ _);refine a0a a0t rfl rfl G rfl rfl (a1Q _ _ _ _ _ _ _) ?_;intro w7 Y K)
 have R:=QC.mono _ _ _ _ a0n (QC.mono _ _ _ _ (a0h K (by omega) (by omega)) hq);exact bodyPost_ret (a0d rfl rfl a0t Y rfl) rfl ⟨ExtX.box (A.trans t) K (by omega),_,rfl,R⟩
end Go.Proofs.YtidbbddagfnfbaaGreat
namespace Go.Lin
open Go.Lim
def b2g (f:List Int->Rat) (l:List (List Int)) (q:Rat) (t:List (List Int)):Prop:=
 (l= []/\t= [])\/(t≠[]/\(∃s∈l,q=f s)/\(∀s∈l,q<=f s)/\t=l.filter fun s=>decide (f s=q))
theorem b2g.new {f:List Int->Rat} {l:List (List Int)} {q:Rat} {t:List (List Int)} (h:b2g f l q t) (s:List Int) (e:t= []\/f s<q):b2g f (l++[s]) (f s) [s]:=by
 refine .inr ⟨by simp,⟨s,by simp,rfl⟩,?_⟩;rcases h with⟨rfl,_⟩|⟨i,_,c,_⟩
 ·refine⟨fun x hx=>?_,by simp⟩
  have:x=s:=by simpa using hx
  subst this;exact Rat.le_refl
 ·have a:f s<q:=e.resolve_left i
  have b:l.filter (fun x=>decide (f x=f s))= []:=List.filter_eq_nil_iff.2 fun x hx g=>by
   have d:=c x hx;have:f x=f s:=by simpa using g
   rw[this]at d;exact absurd (b1p a d) Rat.lt_irrefl
  refine⟨fun x hx=>?_,by simp[List.filter_append,b]⟩;rcases List.mem_append.1 hx with hx|hx
  ·exact Rat.le_of_lt (b1p a (c x hx))
  ·have:x=s:=by simpa using hx
   subst this;exact Rat.le_refl
theorem b2g.tie {f:List Int->Rat} {l:List (List Int)} {q:Rat} {t:List (List Int)} (h:b2g f l q t) (s:List Int) (g:t≠[]) (a:f s=q):b2g f (l++[s]) q (t++[s]):=by
 rcases h with⟨_,e⟩|⟨_,⟨r,d,hq⟩,b,c⟩
 ·exact absurd e g
 refine .inr ⟨by simp,⟨r,List.mem_append_left _ d,hq⟩,fun x hx=>?_,by rw[List.filter_append];simp[a,c]⟩;rcases List.mem_append.1 hx with hx|hx
 ·exact b x hx
 ·have:x=s:=by simpa using hx
  subst this;rw[a];exact Rat.le_refl
theorem b2g.more {f:List Int->Rat} {l:List (List Int)} {q:Rat} {t:List (List Int)} (h:b2g f l q t) (s:List Int) (b:t≠[]) (a:q<f s):b2g f (l++[s]) q t:=by
 rcases h with⟨_,i⟩|⟨_,⟨r,g,hq⟩,c,d⟩
 ·exact absurd i b
 have e: [s].filter (fun x=>decide (f x=q))= []:=by
  have:¬f s=q:=fun e=>by rw[e]at a;exact absurd a Rat.lt_irrefl
  simp[this]
 refine .inr ⟨b,⟨r,List.mem_append_left _ g,hq⟩,fun x hx=>?_,by rw[List.filter_append,e,List.append_nil];exact d⟩;rcases List.mem_append.1 hx with hx|hx
 ·exact c x hx
 ·have:x=s:=by simpa using hx
  subst this;exact Rat.le_of_lt a
theorem b4u:∀(n h:Nat) (lo:Int),n<h->a0C n h lo= []
 |n,h,lo,hn=>List.eq_nil_of_length_eq_zero (by rw[a1H,b5s n h hn])
theorem b0u (x y:Rat):((x - y).num.sign= -1/\x<y)\/((x - y).num.sign=0/\x=y)\/((x - y).num.sign=1/\y<x):=by
 rcases Int.lt_trichotomy (x - y).num 0 with h|h|h
 ·refine .inl ⟨Int.sign_eq_neg_one_of_neg h,?_⟩
  have b:¬0<=x - y:=fun a=>by have:=Rat.num_nonneg.2 a;omega
  rw[Rat.not_le]at b;grind
 ·refine .inr (.inl ⟨by rw[h];rfl,?_⟩)
  have:x - y=0:=Rat.num_eq_zero.1 h;grind
 ·refine .inr (.inr ⟨Int.sign_eq_one_of_pos h,?_⟩)
  have b:0<=x - y:=Rat.num_nonneg.1 (by omega);have a:x - y≠0:=fun e=>by rw[e]at h;exact absurd h (by decide)
  grind
end Go.Lin
namespace Go.Rep
theorem b9C {X Z:Nat->Bool} {w a:World} {oo:Option Addr} (b:ExtX Z w a) (e:∀k,Z k=true->X k=true) (c:∀j,j<w.heap.size->ob oo j=false):Le (mk X w) (mk (un X oo) a):=
 a0T b (fun k _ d=>e k d) fun j f hz=>by simpa[un,c j f]using hz
end Go.Rep
namespace Go.Proofs.YtidbbddagfnfbaaGreat
open Go.RowKit Go.Rep Go.Lim Go.Lin
theorem a9q (N H:Nat) (w:World) (h:N<H):Calls Tryz.prog 116 #[.int .i64 (N:Int), .int .i64 (H:Int)] w (fun e a=>a=w/\e= .returned (.slice none 0 0)):=by
 go_enter Tryz.func116,Tryz.ntmps116
 go_wp2_with fail
 go_ret
 exact⟨rfl,rfl⟩
theorem b0v (X:Nat->Bool) (N H:Nat) (w:World) (b:N<=64) (_:H<=64) (a:ch N H<=1000000) (c:HX X w):
  Calls Tryz.prog 116 #[.int .i64 (N:Int), .int .i64 (H:Int)] w (a6R X w N H):=by
 by_cases h:H<=N
 ·exact b2b X N H w b h a c
 ·refine(a9q N H w (by omega)).mono ?_
  rintro e d ⟨rfl,rfl⟩;refine⟨ExtX.refl _,none,0,?_⟩;rw[b4u N H 0 (by omega)];exact⟨rfl,Nat.le_refl _,OL.nil _ _ _ _ _ _⟩
def b4v (X:Nat->Bool) (w:World) (f:List Int->Rat) (c p:Nat) (e:Ending) (w':World):Prop:=Ext w w'/\∃s a n k d m g lo lc q t,e= .returned (.tuple #[.agg #[.bool s, .slice a n k, .slice d m g], .slice lo t.length lc])/\QC (mk X w') (.agg #[.bool s, .slice a n k, .slice d m g]) q/\hq q<=600000000/\t.length<=lc/\Sl (SlV (a0p .i64) 1) 1 (mk X w') lo t/\b2g f (a0C c p 0) q t
set_option maxRecDepth 100000 in
set_option maxHeartbeats 3200000 in
theorem b0w (X:Nat->Bool) (w:World) (u v:Value) (x:Mat) (y:List Rat) (n c p B:Nat) (hX:HX X w) (hu:MV (mk X w) u x) (hv:RV (mk X w) v y) (g1:Shp n c x) (hy:y.length=n) (k5:1<=n) (hn:n<=8) (hc:c<=4) (hp:p<=c) (e2:BM B x) (e0:BR B y) (h9:1<=B) (hB:B<=510/\n*(2*B+1)<=6540):
  Calls Tryz.prog 44 #[u,v, .int .i64 (c:Int), .int .i64 (p:Int)] w (b4v X w (a6b x y n) c p):=by
 obtain⟨W,hW,hE,b0,b1,hz⟩:=a1v w #[.bool false, .slice none 0 0, .slice none 0 0] #[.bool false, .slice none 0 0, .slice none 0 0] 45 45;have a6:HX (a0e X w.heap.size 2) W:=hX.boxes hz;have b2:Hid (∀z,Ext W z->Le (mk X w) (mk (a0e X w.heap.size 2) z)):=hid fun z h=>a0o (hE.trans h);obtain⟨b,hb⟩:∃b,w.heap.size=b:=⟨_,rfl⟩;have k1:w.heap.size<=b:=by omega
 rw[hb]at b0 b1 hz a6 b2;have g3:ch c p<=1000000:=Nat.le_trans (a9m _ _) (Nat.le_trans (Nat.pow_le_pow_left hc _) (Nat.le_trans (Nat.pow_le_pow_right (by decide) (show p<=4 by omega)) (by decide)));obtain⟨Y,hY⟩:∃Y,a0e X b 2=Y:=⟨_,rfl⟩;have i7:=hid (fun k (h:X k=true)=>(by rw[<-hY];exact a7s h:Y k=true));have j6:Y b=true:=by rw[<-hY];exact a2L (Nat.le_refl _) (by omega)
 have j9:Y (b+1)=true:=by rw[<-hY];exact a2L (by omega) (by omega)
 rw[hY]at a6 b2;have L:=hid (fun z (U:Ext W z)=>b0v Y c p z (by omega) (by omega) g3 (a6.ext U));have J:=hid (fun s (U:s∈a0C c p 0)=>(⟨(a1K c p 0 s U).1,fun v hv=>by have:=(a1K c p 0 s U).2.1 v hv;omega⟩:s.length=p/\∀v∈s,0<=v/\v<(c:Int)));have d4:=hid (fun(Z:Nat->Bool) z so (S:List Int) sc (U:HX Z z) (h2:MV (mk Z z) u x) (h3:RV (mk Z z) v y) (h4:Sl (a0p .i64) 1 z.cell? so S) (h5:S∈a0C c p 0)=>b7F Z z u v x y n c B so S sc U h2 h3 h4 g1 hy k5 hn e2 e0 h9 hB (J.out S h5).2 (by rw[(J.out S h5).1];omega));have f8:=hid (fun S (h5:S∈a0C c p 0)=>b4m g1 hy hn e2 e0 h9 hB (J.out S h5).2 (by rw[(J.out S h5).1];omega));have f5:=hid (fun z (U:Ext W z)=>MV.mono _ _ _ _ (b2.out z U) hu);have f4:=hid (fun z (U:Ext W z)=>RV.mono _ _ _ _ (b2.out z U) hv);have h0:(a0C c p 0).length<=1000000:=by rw[a1H];exact g3
 unfold a6R at L;obtain⟨f,hf⟩:∃f,a6b x y n=f:=⟨_,rfl⟩;rw[hf]at d4 f8 |-;have i1:=hid (fun(z:World) s a n k d m g lo lc q (t:List (List Int)) (U:Ext w z) (h2:QC (mk X z) (.agg #[.bool s, .slice a n k, .slice d m g]) q) (h3:hq q<=600000000) (h4:t.length<=lc) (h5:Sl (SlV (a0p .i64) 1) 1 (mk X z) lo t) (h6:b2g f (a0C c p 0) q t)=>(⟨U,s,a,n,k,d,m,g,lo,lc,q,t,rfl,h2,h3,h4,h5,h6⟩:b4v X w f c p (.returned (.tuple #[.agg #[.bool s, .slice a n k, .slice d m g], .slice lo t.length lc])) z));obtain⟨C,hC⟩:∃C,a0C c p 0=C:=⟨_,rfl⟩;have j4:=hid hC;rw[hC]at L h0 d4 f8;obtain⟨K,hK⟩:∃K,C.length=K:=⟨_,rfl⟩;have e6:=hid hK;rw[hK]at L h0;obtain⟨ua,uc,rfl,k6,j3⟩:=id hu;obtain⟨va,vc,rfl,j8,k8⟩:=id hv;obtain⟨xl,e7⟩:∃xl,x.length=xl:=⟨_,rfl⟩;obtain⟨yl,f7⟩:∃yl,y.length=yl:=⟨_,rfl⟩;rw[e7,f7]at d4;rw[e7]at f5 |-;rw[f7]at f4 |-;clear hu hv j3 k8 hX g3 hY hK b2 g1 hy e2 e0 hf J hC e7 f7 k6 j8;go_enter Tryz.func44,Tryz.ntmps44
 go_wp2_with fail
 refine(L.out W (ExtX.refl _)).mono ?_;rintro e w2 ⟨M,co,cc,rfl,l5,g9⟩;have g8:=g9.sl (SlV.elem (a0p.elem .i64));have k9:=g8.hd;rw[e6.out]at k9;have j5:=b0.ext0 M;have f0:=b1.ext0 M;have c9:HX Y w2:=a6.ext M;have j0:=f5.out w2 M;have j7:=f4.out w2 M;have i9:=hE.trans M;have h8:=hid f0.lt;clear g9 L M b0 b1 a6 f5 f4;go_wp2_with fail
 go_loopw [11,20] (fun o cx wr=>∃(k:Nat) (t:List (List Int)) (lo:Option Addr) (lc:Nat) (q:Rat) (s:Bool) (a:Option Addr) (n c:Nat) (d:Option Addr) (k2 g:Nat),cx= .int .i64 k/\o= .slice lo t.length lc/\k<=K/\t.length<=k/\(t= []->lo=none)/\b2g f (C.take k) q t/\OL (SlV (a0p .i64) 1) 1 Y w2.heap.size 22 wr lo lc t/\Bx wr (b+1) #[.bool s, .slice a n c, .slice d k2 g] 45/\QC (mk (un Y lo) wr) (.agg #[.bool s, .slice a n c, .slice d k2 g]) q/\hq q<=600000000/\ExtX (ob (some ⟨b+1,0,none⟩)) w2 wr) (fun _ cx _=>K - (intOf cx).toNat)
 case atStart=>exact⟨0,[],none,0,0,_,_,_,_,_,_,_,rfl,rfl,Nat.zero_le _,Nat.le_refl _,fun _=>rfl, .inl ⟨rfl,rfl⟩,OL.nil _ _ _ _ _ _,f0,QC.zero _,by rw[a0Z];decide,ExtX.refl _⟩
 case round=>
  clear f0;obtain⟨k,t,lo,lc,q,s,a,nn,c0,d,k2,g0,rfl,rfl,T,ht,d9,hA,hO,b1,hQ,d2,A⟩:=hrel;have i2:HX (un Y lo) wr:=hO.unX (c9.ext A);have i0:∀k,ob (some ⟨b+1,0,none⟩) k=true->Y k=true:=fun k T=>by
   have:b+1=k:=by simpa[ob]using T
   rw[<-this];exact j9
  obtain⟨tl,c2⟩:∃tl,t.length=tl:=⟨_,rfl⟩;have F:=hid c2;rw[c2]at ht |-;by_cases l3:k<K
  ·have d3:=b9C (oo:=lo) A i0 (fun j hj=>hO.ob_lt hj)
   have g5:k<C.length:=by rw[e6.out];exact l3
   obtain⟨so,sc,f3,h7,s3⟩:=(g8.mono (SlV.mono (a0p.mono _) _) d3).slice k g5;have g6:=a0L C k g5;have e1:C[k]∈C:=List.getElem_mem _;have s4:Sl (a0p .i64) 1 wr.cell? so C[k]:=⟨s3.1,fun i hi=>let ⟨u,U,h2,h3⟩:=s3.2 i hi;⟨u,U,fun j hj=>a0S (h2 j hj),h3⟩⟩;have b4:=d4.out (un Y lo) wr so C[k] sc i2 (MV.mono _ _ _ _ d3 j0) (RV.mono _ _ _ _ d3 j7) s4 e1;have b6:=f8.out _ e1;have c6:SlV (a0p .i64) 1 (mk (un Y lo) wr) (.slice so C[k].length sc) C[k]:=⟨so,sc,rfl,h7,s3⟩;obtain⟨I,hI⟩:∃I,C[k]=I:=⟨_,rfl⟩;rw[hI]at f3 b4 b6 g6 c6;obtain⟨V,e9⟩:∃V,f I=V:=⟨_,rfl⟩;obtain⟨il,i3⟩:∃il,I.length=il:=⟨_,rfl⟩;rw[e9]at b4 b6;rw[i3]at f3 b4 c6;have H:=hid e9;have Q:=hid g6;clear d3 g5 h7 s3 s4 e1 hI e9 i3 g6;go_wp2_with (with_reducible refine a0q a5m (by omega) (by assumption) ?_)
   refine b4.mono ?_;rintro e w5 ⟨f9,uS,rfl,c8⟩;obtain⟨s1,a3,n1,c3,d1,k3,f1,rfl⟩:=c8.shape;clear b4 f3;have bS:=Bx.new w5 #[.bool false, .slice none 0 0, .slice none 0 0] 45;have i5:=b1.ext0 f9;go_wp2_with ((with_reducible show wpList _ _ _ (⟨_, .store 45 _ _,_,_,_,_⟩::_) _ _);refine a0a a0t rfl rfl bS rfl rfl (a1Q _ _ _ _ _ _ _) ?_;intro w6 p1 p2;have b8:Ext w5 w6:=ExtX.box ((ExtX.refl w5).alloc _) p2 (Nat.le_refl _);have bd:=i5.ext0 b8;have q3:=p1.cell 0 rfl;have q4:=p1.cell 1 rfl;have q5:=p1.cell 2 rfl;have r3:=bd.cell 0 rfl;have r4:=bd.cell 1 rfl;have r5:=bd.cell 2 rfl)
   have R:=f9.trans b8;have f2:=hid (a8N (un Y lo) w6 _ _ V q (i2.ext R) ((mkx QC.mono c8 b8).qv (Nat.le_trans b6 (by decide))) ((mkx QC.mono hQ R).qv (Nat.le_trans d2 (by decide))) (Nat.le_trans (a8H V q) (by omega)));have e8:=b0u V q;obtain⟨sg,g7⟩:∃sg,(V - q).num.sign=sg:=⟨_,rfl⟩;rw[g7]at f2 e8;clear g7;refine f2.out.mono ?_;rintro e w7 ⟨a4,rfl⟩;have r:Ext wr w7:=R.trans a4;have c7:=bd.ext0 a4;have p7:=p1.ext0 a4;have i6:=mkx QC.mono c8 (b8.trans a4);have i8:=mkx QC.mono hQ r;have b9:SlV (a0p .i64) 1 (mk (un Y lo) w7) (.slice so il sc) I:=SlV.mono (a0p.mono _) _ _ _ _ _ (a0l r) c6;obtain⟨g4,e3⟩:∃g4,w5.heap.size=g4:=⟨_,rfl⟩;rw[e3]at p7;rw[e3];have z3:=p7.cell 0 rfl;have z4:=p7.cell 1 rfl;have z5:=p7.cell 2 rfl;have b5:b+1<w2.heap.size:=by have:=h8.out;omega
   have a7:w2.heap.size<=w7.heap.size:=Nat.le_trans A.size r.size;have a2:=hO.ext0 (SlV.elem (a0p.elem .i64)) r;clear f2 p1 p2 bd i5 bS c8 hQ c6 R f9 b8 a4 r3 r4 r5 q3 q4 q5 hO b1 e3 p7;have a0:∀N,ExtX (ob (some ⟨b+1,0,none⟩)) w7 N->Le (mk (un Y lo) w7) (mk (un Y none) N):=fun N P=>a0T P (fun k _ T=>a0f (i0 k T)) (fun k _ hz=>a0f (by simpa[un,ob]using hz));rcases a2.form with⟨rfl,rfl,k4⟩|⟨g,l4,rfl,hg,_,d0,_,_⟩
   ·subst k4
    obtain rfl:tl=0:=F.out.symm;have G:=hid (hA.new I (.inl rfl));rw[H.out,Q.out]at G;clear e8 hA;have n1:∀z,(binOp .eql 46 (.slice none 0 0) (.slice none 0 0)).run Tryz.prog z= .ok (.bool true) z:=fun z=>Go.Lib.run_eql_slice_nil z _ _ none 0 0 0 0 Tryz.underlying46;go_wp2_with (first|((with_reducible show wpList _ _ _ (⟨_, .store 45 _ _,_,_,_,_⟩::_) _ _);refine a0a a0t rfl rfl c7 rfl rfl (a1Q _ _ _ _ _ _ _) ?_;intro N r1 P;have f6:HX Y N:=c9.ext ((A.then_ r (fun _ _ _=>rfl)).trans P);have O:OL (SlV (a0p .i64) 1) 1 Y w2.heap.size 22 N none 0 []:=OL.nil _ _ _ _ _ _;have e4:w2.heap.size<=N.heap.size:=Nat.le_trans a7 P.size;have a5:=a0 N P;have a9:SlV (a0p .i64) 1 (mk (un Y none) N) (.slice so il sc) I:=SlV.mono (a0p.mono _) _ _ _ _ _ a5 b9)|(at_builtin;refine a0u (l:=([]:List (List Int))) a5m rfl (SlV.elem (a0p.elem _)) e4 f6 0 rfl rfl rfl O (.slice so il sc) I rfl a9 (by omega) (by omega) ?_;intro b3 c1 w9 a1 D c4))
    have c5:=QC.mono _ _ _ _ (a2j D c4) (QC.mono _ _ _ _ a5 i6);have a8:=r1.ext D (O.ob_lt b5);have E:=((A.then_ r (fun _ _ _=>rfl)).trans P).own O (Nat.le_refl _) D;go_roundw
    case rel=>exact⟨k+1,[I],b3,c1,V,_,_,_,_,_,_,_,by go_num,by go_num,by omega,by simp,fun h=>by simp at h,G.out,a1,a8,c5,b6,E⟩
    case measure=>simp[intOf];omega
   ·clear d0
    have g2:t≠[]:=fun h=>by have:=d9 h;cases this
    have n1:∀z,(binOp .eql 46 (.slice (some ⟨g,0,none⟩) tl lc) (.slice none 0 0)).run Tryz.prog z= .ok (.bool false) z:=fun z=>Go.Lib.run_eql_slice_nil z _ _ (some ⟨g,0,none⟩) tl lc 0 0 Tryz.underlying46;rcases e8 with⟨rfl,d7⟩|⟨rfl,he⟩|⟨rfl,i4⟩
    ·have G:=hid (hA.new I (.inr (by rw[H.out];exact d7)))
     rw[H.out,Q.out]at G;clear hA d7 g2;go_wp2_with (first|((with_reducible show wpList _ _ _ (⟨_, .store 45 _ _,_,_,_,_⟩::_) _ _);refine a0a a0t rfl rfl c7 rfl rfl (a1Q _ _ _ _ _ _ _) ?_;intro N r1 P;have f6:HX Y N:=c9.ext ((A.then_ r (fun _ _ _=>rfl)).trans P);have O:OL (SlV (a0p .i64) 1) 1 Y w2.heap.size 22 N none 0 []:=OL.nil _ _ _ _ _ _;have e4:w2.heap.size<=N.heap.size:=Nat.le_trans a7 P.size;have a5:=a0 N P;have a9:SlV (a0p .i64) 1 (mk (un Y none) N) (.slice so il sc) I:=SlV.mono (a0p.mono _) _ _ _ _ _ a5 b9)|(at_builtin;refine a0u (l:=([]:List (List Int))) a5m rfl (SlV.elem (a0p.elem _)) e4 f6 0 rfl rfl rfl O (.slice so il sc) I rfl a9 (by omega) (by omega) ?_;intro b3 c1 w9 a1 D c4))
     have c5:=QC.mono _ _ _ _ (a2j D c4) (QC.mono _ _ _ _ a5 i6);have a8:=r1.ext D (O.ob_lt b5);have E:=((A.then_ r (fun _ _ _=>rfl)).trans P).own O (Nat.le_refl _) D;go_roundw
     case rel=>exact⟨k+1,[I],b3,c1,V,_,_,_,_,_,_,_,by go_num,by go_num,by omega,by simp,fun h=>by simp at h,G.out,a1,a8,c5,b6,E⟩
     case measure=>simp[intOf];omega
    ·have d6:=hid (hA.tie I g2 (by rw[H.out];exact he))
     rw[Q.out]at d6;have l2:HX Y w7:=c9.ext (A.then_ r (fun _ _ _=>rfl));clear hA he a0 z3 z4 z5;go_wp2_with (at_builtin;refine a0u (l:=t) a5m rfl (SlV.elem (a0p.elem _)) a7 l2 tl F.out rfl rfl a2 (.slice so il sc) I rfl b9 (by omega) (by omega) ?_;intro b3 c1 w9 a1 D c4)
     have c5:=QC.mono _ _ _ _ (a2j D c4) i8;have a8:=c7.ext D (a2.ob_lt b5);have E:=(A.then_ r (fun _ _ _=>rfl)).own a2 (Nat.le_refl _) D;have d8:Hid ((t++[I]).length=tl+1):=hid (by rw[List.length_append,F.out];rfl);go_roundw
     case rel=>exact⟨k+1,t++[I],b3,c1,q,_,_,_,_,_,_,_,by go_num,by rw[d8.out],by omega,by rw[d8.out];omega,fun h=>by simp at h,d6.out,a1,a8,c5,d2,E⟩
     case measure=>simp[intOf];omega
    ·have b7:=hid (hA.more I g2 (by rw[H.out];exact i4))
     rw[Q.out]at b7;have E:=A.then_ r (fun _ _ _=>rfl);clear hA i4 a0 z3 z4 z5;go_wp2_with fail
     go_roundw
     case rel=>exact⟨k+1,t,some ⟨g,0,none⟩,lc,q,_,_,_,_,_,_,_,by go_num,by rw[F.out],by omega,by rw[F.out];omega,d9,b7.out,a2,c7,i8,d2,E⟩
     case measure=>simp[intOf];omega
  ·have j1:=j5.ext A (a0b (by omega))
   have r3:=b1.cell 0 rfl;have r4:=b1.cell 1 rfl;have r5:=b1.cell 2 rfl;have l1:k=K:=by omega
   rw[List.take_of_length_le (by rw[e6.out];omega)]at hA;have l0:=hid hA;have d0:=hO.lenCap;have j2:=hO.sl (SlV.elem (a0p.elem .i64));clear hA l1;rw[c2]at d0;go_wp2_with ((with_reducible show wpList _ _ _ (⟨_, .store 45 _ _,_,_,_,_⟩::_) _ _);refine a0a a0t rfl rfl j1 rfl rfl (a1Q _ _ _ _ _ _ _) ?_;intro w7 r1 P)
   have d5:∀k,ob (some ⟨b,0,none⟩) k=true->Y k=true:=fun k T=>by
    have:b=k:=by simpa[ob]using T
    rw[<-this];exact j6
   have k0:Le (mk (un Y lo) wr) (mk X w7):=a0T P (fun k _ T=>a0f (d5 k T)) (fun k _ T=>a0f (i7.out k T));have a0:Le (mk Y wr) (mk X w7):=a0T P (fun k _ T=>d5 k T) (fun k _ T=>i7.out k T);have k7:b4v X w f c p (.returned (.tuple #[.agg #[.bool s, .slice a nn c0, .slice d k2 g0], .slice lo tl lc])) w7:=by
    rw[<-c2];exact i1.out w7 _ _ _ _ _ _ _ lo lc q t (ExtX.box (ExtX.box i9 A (by omega)) P k1) (QC.mono _ _ _ _ k0 hQ) d2 (by rw[c2];exact d0) (j2.mono (SlV.mono (a0p.mono _) _) a0) (by rw[j4.out];exact l0.out)
   exact bodyPost_ret (a1x rfl rfl a0t r1 rfl) rfl k7
end Go.Proofs.YtidbbddagfnfbaaGreat
