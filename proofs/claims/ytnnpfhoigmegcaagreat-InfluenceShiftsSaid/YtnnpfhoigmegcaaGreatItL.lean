/- Parts of a proof: each theorem states what it proves, and its conditions. -/
import Derived.Test.YtnnpfhoigmegcaaGreatItK
set_option maxRecDepth 100000
set_option maxHeartbeats 3200000
namespace Go.Proofs.YtnnpfhoigmegcaaGreat
open Go.RowKit Go.Rep Go.Lim Go.Lin
theorem a6j(X:Nat->Bool)(w:World)(u v:Value)(l m:List Rat)(hX:HX X w)(hu:RV (mk X w) u l)(hv:RV (mk X w) v m)(hn:l.length<=1000000)(q:m.length=l.length)(B:∀k,k<=l.length->hq (a2W l m k)<=68719476736)(C:∀k,k<l.length->hq (l.getD k 0*m.getD k 0)<=68719476736):Calls Tryz.prog 177 #[u,v] w (a1S X w QC (a2u l m)):=by
 obtain⟨ao,ca,rfl,c3,a4⟩:=hu;obtain⟨bo,cb,rfl,c4,a8⟩:=hv;have c8:=a4.hd;have V:=a8.hd;obtain⟨W,hW,hE,J,z,hz⟩:=a1w w #[.bool false,.slice none 0 0,.slice none 0 0] #[.bool false,.slice none 0 0,.slice none 0 0] 41 41;have N:HX (a0f X w.heap.size 2) W:=hX.boxes hz;have h0:QC (mk (a0f X w.heap.size 2) W) (.agg #[.bool false,.slice none 0 0,.slice none 0 0]) (a2W l m 0):=QC.zero _;obtain⟨n,p⟩:∃n,l.length=n:=⟨_,rfl⟩;rw[p]at hn q B C c3 c8 |-;rw[q]at c4 V |-;have a1:=hid p;have a2:=hid q;have P:=hid B;have Q:=hid C;have T:Hid (a2W l m n=a2u l m):=hid (by unfold a2u;rw[p]);clear p q B C;go_enter Tryz.func177,Tryz.ntmps177
 go_wp2_with fail
 obtain⟨b,hb⟩:∃b,w.heap.size=b:=⟨_,rfl⟩;have a0:Hid (∀wr,Ext w wr->Le (mk X w) (mk (a0f X b 2) wr)):=hid fun wr h=>by rw[<-hb];exact a0j h
 have F:w.heap.size<=b:=by omega
 rw[hb]at J z N h0 |-;clear hW;go_loopw [10] (fun k wr=>∃(i:Nat) (s:Bool) (a:Option Addr) (n' c':Nat) (d:Option Addr) (kk e:Nat),k=.int .i64 i/\i<=n/\Bx wr b #[.bool false,.slice none 0 0,.slice none 0 0] 41/\Bx wr (b+1) #[.bool s,.slice a n' c',.slice d kk e] 41/\QC (mk (a0f X b 2) wr) (.agg #[.bool s,.slice a n' c',.slice d kk e]) (a2W l m i)/\HX (a0f X b 2) wr/\Ext w wr) (fun k _=>n - (intOf k).toNat)
 case atStart=>exact⟨0,_,_,_,_,_,_,_,rfl,Nat.zero_le _,J,z,h0,N,hE⟩
 case round=>
  obtain⟨i,s,a,n',c',d,kk,e,rfl,hi,J,z,hq,c2,o⟩:=hrel;by_cases G:i<n
  ·have Y:i<l.length:=by rw[a1.out];exact G
   have Z:i<m.length:=by rw[a2.out];exact G
   have d4:=a4.mono QV.mono (a0.out wr o);have a9:=a8.mono QV.mono (a0.out wr o);obtain⟨g2,o2,s2,p2,n2,q2,d2,k2,e2,U,f4,S,a3⟩:=a9.rat QV.shaped i Z;have gl:Hid (l.getD i 0=l[i]):=hid (by simp[List.getD_eq_getElem?_getD,Y]);have gm:Hid (m.getD i 0=m[i]):=hid (by simp[List.getD_eq_getElem?_getD,Z]);have r:Hid (a2W l m i+l[i]*m[i]=a2W l m (i+1)):=hid (by rw[<-gl.out,<-gm.out];rfl);have R:=hid (P.out i hi);have E:=hid (Q.out i G);rw[gl.out,gm.out]at E;obtain⟨x,hx⟩:∃x,l[i]=x:=⟨_,rfl⟩;obtain⟨y,hy⟩:∃y,m[i]=y:=⟨_,rfl⟩;rw[hx,hy]at r E;rw[hy]at a3;have d8:=hid hx;have i2:∀W,(Instr.indexAt 26 (.slice bo n cb) (.int .i64 (i:Int))).run Tryz.prog W=.ok (.pointer (some ⟨g2,o2,none⟩)) W:=by rw[<-U];exact a0d a0w bo n cb .i64 i V (by omega)
   have bx:=Bx.new wr #[.bool false,.slice none 0 0,.slice none 0 0] 41;obtain⟨D,hD⟩:∃D,a2W l m i=D:=⟨_,rfl⟩;obtain⟨D2,A⟩:∃D2,a2W l m (i+1)=D2:=⟨_,rfl⟩;rw[hD]at hq r R;rw[A]at r;have K:=hid A;clear hx hy U hD A;go_wp2_with (first|(with_reducible refine a1I a0w (by omega) (by assumption) ?_)|((with_reducible show wpList _ _ _ (⟨_,.load 41 _,_,_,_,_⟩::_) _ _);refine a0B a0p i d4 Y rfl (by simp) QV.agg ?_;intro u5 H;rw[d8.out]at H;obtain⟨s5,a5,n5,c5,d5,k5,e5,rfl⟩:=H.shape)|((with_reducible show wpList _ _ _ (⟨_,.store _ _ _,_,_,_,_⟩::_) _ _);refine a0a a0p rfl rfl bx rfl rfl (a1z _ _ _ _ _ _ _) ?_;intro t r1 r2))
   have b9:Ext wr t:=ExtX.box ((ExtX.refl wr).alloc _) r2 (c1B _);have L:Ext t t.drew:=(ExtX.refl t).drew;have c:=b9.trans L;have b6:=J.ext0 c;have g:=z.ext0 c;have r5:=r1.ext0 L;obtain⟨bw,F⟩:∃bw,wr.heap.size=bw:=⟨_,rfl⟩;rw[F]at r5;have b3:=g.cell 0 rfl;have b4:=g.cell 1 rfl;have b5:=g.cell 2 rfl;have e1:=r5.cell 0 rfl;have e3:=r5.cell 1 rfl;have e4:=r5.cell 2 rfl;obtain⟨e8,e9,f3⟩:=S.out noY t.drew c rfl;have O:=c2.ext c;have d9:QV (mk (a0f X b 2) t.drew) (.agg #[.bool s5,.slice a5 n5 c5,.slice d5 k5 e5]) x:=mkx QV.mono H c;have e0:QV (mk (a0f X b 2) t.drew) (.agg #[.bool s2,.slice p2 n2 q2,.slice d2 k2 e2]) y:=mkx QV.mono a3 c;have d1:QV (mk (a0f X b 2) t.drew) (.agg #[.bool s,.slice a n' c',.slice d kk e]) D:=(mkx QC.mono hq c).qv R.out;clear bx r1 S;rw[F];go_wp2_with fail
   go_region_with (first|(go_at_call 151;(with_reducible refine(a9w (a0f X b 2) t.drew _ _ _ _ O d9 e0).mono ?_);rintro ee w6 ⟨t1,u6,rfl,b2⟩;obtain⟨s6,a6,n6,c6,d6,k6,e6,rfl⟩:=b2.shape;have M:=O.ext t1;have d3:=mkx QV.mono d1 t1;have d0:=b2.qv E.out;have j:=g.ext0 t1;have m0:=j.cell 0 rfl;have m1:=j.cell 1 rfl;have m2:=j.cell 2 rfl)|(go_at_call 182;(with_reducible refine(b2R (a0f X b 2) w6 _ _ _ _ M d3 d0).mono ?_);rintro ee w7 ⟨t7,u7,rfl,I⟩;obtain⟨s7,a7,n7,c7,d7,k7,e7,rfl⟩:=I.shape;rw[r.out]at I;have f:=j.ext0 t7;have g0:=f.cell 0 rfl;have g1:=f.cell 1 rfl;have b8:=f.cell 2 rfl;have f0:=f.frozen 0;have f1:=f.frozen 1;have f2:=f.frozen 2))
   all_goals
    obtain⟨z1,z2⟩:=f.set3 (.bool s7) (.slice a7 n7 c7) (.slice d7 k7 e7);have h8:=QC.mono _ _ _ _ (a0h (lo:=b) (nb:=2) z2 (by omega) (by omega)) I;have b7:=((b6.ext0 t1).ext0 t7).ext z2 (a0b (by omega));have c0:Ext w _:=ExtX.box (o.trans (c.trans (t1.trans t7))) z2 (by omega);have c1:=(M.ext t7).ext z2;rw[<-K.out]at h8;clear b3 b4 b5 e1 e3 e4 e8 e9 f3 m0 m1 m2 g0 g1 b8 f0 f1 f2 i2;go_wp2_with fail
    go_roundw
    case rel=>exact⟨i+1,_,_,_,_,_,_,_,by go_num,by omega,b7,z1,h8,c1,c0⟩
    case measure=>simp[intOf];omega
  ·have c9:i=n:=by omega
   subst c9;rw[T.out]at hq;have b3:=z.cell 0 rfl;have b4:=z.cell 1 rfl;have b5:=z.cell 2 rfl;go_wp2_with ((with_reducible show wpList _ _ _ (⟨_,.store _ _ _,_,_,_,_⟩::_) _ _);refine a0a a0p rfl rfl J rfl rfl (a1z _ _ _ _ _ _ _) ?_;intro w7 r1 r2)
   have h7:=QC.mono _ _ _ _ a0k (QC.mono _ _ _ _ (a0h r2 (by omega) (by omega)) hq);exact bodyPost_ret (a0e rfl rfl a0p r1 rfl) rfl ⟨ExtX.box o r2 (by omega),_,rfl,h7⟩
end Go.Proofs.YtnnpfhoigmegcaaGreat
namespace Go.Rep
open Go.RowKit Go.Lim
section
variable {P:Program} {ops:Array Oper} {Q:Exit->Act->World->Prop} {rest:List Oper} {a:Act} {w:World}
variable {α:Type} {R:Mem->Value->α->Prop} {sz:Nat} {X:Nat->Bool} {base:Nat} {e:TypeId} {ao:Option Addr} {cap:Nat} {l:List α}
variable {d:Option Tmp} {ty:TypeId} {ps:String} {af:Array Edge}
theorem OL.run_copy{t Q:Nat}{z:Value}(T:SliceT P t e sz Q z)(N:Elem R sz)(h:OL R sz X base e w ao cap l)(sa:Option Addr)(ca:Nat)(a:List Value)(b:List α)(hat:At w sa a)(n:a.length=b.length)(C:∀i (D:i<a.length) (a5:i<b.length),R (mk (un X ao) w) a[i] b[i])(s:b.length<=l.length)(h0:0<b.length)(ty:TypeId):∃w',(Builtin.copy_ #[t,t] ty #[.slice ao l.length cap,.slice sa b.length ca]).run P w=.ok (goInt b.length) w'/\OL R sz X base e w' ao cap (b++l.drop b.length)/\ExtX (ob ao) w w':=by
 obtain⟨i,D,hz,a3,a4⟩:=info_parts T.info;have x:∀u∈a,u.cells.size=sz:=by
  intro v q;obtain⟨i,D,rfl⟩:=List.getElem_of_mem q;exact N.size _ _ _ (C i D (by omega))
 have p:∀u∈a,∀c∈a0i u,c.oneCell'=true:=by
  intro v q;obtain⟨i,D,rfl⟩:=List.getElem_of_mem q;exact N.one _ _ _ (C i D (by omega))
 have B:∀v∈a.flatMap a0i,v.oneCell'=true:=by
  intro c O;obtain⟨v,q,W⟩:=List.mem_flatMap.1 O;exact p v q c W
 obtain⟨sb,so,rfl⟩:=hat.1 (by omega);have A:∀j u,(a.flatMap a0i)[j]? =some u->w.cell? ((⟨sb,so,none⟩:Addr).add j)=some u:=by
  intro j u hj;rw[<-b0x rfl];exact hat.2 j u hj
 have f:(a.flatMap a0i).length=b.length*sz:=by rw[a1b a x,n]
 have y:=h.form;obtain⟨hx,r,h1,h2,U,h3,h5⟩:=h;rcases y with⟨rfl,rfl,rfl⟩|⟨g,d,rfl,h6,V,h8,h9,F⟩
 ·simp at s;subst s;simp at h0
 have I:0+(a.flatMap a0i).length<=d.size:=by
  rw[Nat.zero_add,f,F];exact Nat.mul_le_mul_right _ (by omega)
 have a1:=run_loadCells_list (P:=P) w ⟨sb,so,none⟩ (a.flatMap a0i) A;have a2:=run_storeCells_at P g 0 e (a.flatMap a0i) 0 d w V (by simpa using I) B;have hE:ExtX (ob (some ⟨g,0,none⟩)) w (w.setRow g (d.toList.take (0+0)++a.flatMap a0i++d.toList.drop (0+0+(a.flatMap a0i).length)).toArray):=
  ⟨rfl,rfl,rfl,by simp,fun k _ s=>setRow_other w g k _ (fun ek=>by subst ek;simp[ob]at s)⟩
 have M:Nat.min b.length l.length=b.length:=Nat.min_eq_left s;have H:∀u∈a++r.drop b.length,u.cells.size=sz:=by
  intro u m;rcases List.mem_append.1 m with m|m
  ·exact x u m
  ·exact h2 u (List.mem_of_mem_drop m)
 have o:(a++r.drop b.length).length=(b++l.drop b.length).length:=by simp[n,h1]
 refine⟨_,?_,⟨hx,a++r.drop b.length,o,H,?_,⟨?_,.inr ⟨g,cap,_,by simp,h6,setRow_heap w g d _ e _ V,by simp;omega,h9,?_,?_⟩⟩,?_⟩,hE⟩
 ·have J:(loadCells ⟨sb,so,none⟩ (b.length*i.size)).run P w=.ok (a.flatMap a0i).toArray w:=by rw[a3,<-f];exact a1
  simp[Builtin.copy_,run_underlying T.und,Builtin.lenOf,Builtin.firstCells,sizeOf,typeInfo,D,M,J,a2]
 ·intro u m c O
  rcases List.mem_append.1 m with m|m
  ·exact p u m c O
  ·exact U u (List.mem_of_mem_drop m) c O
 ·rw[a1b _ H,o]
 ·simp only[List.size_toArray,List.length_append,List.length_take,List.length_drop,Array.length_toList,F,Nat.add_zero,Nat.zero_add,f]
  have:=Nat.mul_le_mul_right sz (show b.length<=cap by omega);omega
 ·rcases h3.2 with⟨q,_⟩|⟨g',c',E,q,_,G,_,_,_,S⟩
  ·simp at q
  simp at q;obtain⟨rfl,rfl⟩:=q;rw[V]at G;obtain rfl:d=E:=by simpa using G
  have Z:r.flatMap a0i=(r.take b.length).flatMap a0i++(r.drop b.length).flatMap a0i:=by
   rw[<-List.flatMap_append,List.take_append_drop]
  have Y:((r.take b.length).flatMap a0i).length=b.length*sz:=by
   rw[a1b _ (fun u m=>h2 u (List.mem_of_mem_take m))];simp[h1,Nat.min_eq_left s]
  have hdr:(r.drop b.length).flatMap a0i=(d.toList.take (l.length*sz)).drop (b.length*sz):=by
   rw[S,Z,<-Y,List.drop_left]
  rw[List.flatMap_append,hdr];simp only[Nat.zero_add,List.take_zero,List.nil_append,f,List.length_append,List.length_drop,Nat.add_sub_cancel' s];rw[List.take_append,c1D (by rw[f];exact Nat.mul_le_mul_right _ s),f,List.drop_take]
 ·intro j hj a6
  have K:Le (mk (un X (some ⟨g,0,none⟩)) w) (mk (un X (some ⟨g,0,none⟩)) _):=a3O hE (.inl rfl);by_cases L:j<a.length
  ·simpa[List.getElem_append_left L,List.getElem_append_left (show j<b.length by omega)]using N.mono _ _ _ _ K (C j L (by omega))
  ·have a0:b.length+(j - b.length)<r.length:=by simp at hj;omega
   have:=N.mono _ _ _ _ K (h5 (b.length+(j - b.length)) a0 (by omega));have e1:b.length+(j - b.length)=j:=by omega
   simpa[List.getElem_append_right (show a.length<=j by omega),List.getElem_append_right (show b.length<=j by omega),n,e1]using this
theorem a8V{t c:Nat}{z:Value}{s x:Operand}{o:Option Addr}{p n k:Nat}(T:SliceT P t e sz c z)(q:Elem R sz)(b:List α)(hs:a.eval s=.slice ao n cap)(y:l.length=n)(B:a.eval x=.slice o k p)(j:b.length=k)(h:OL R sz X base e w ao cap l)(m:Sl R sz (mk (un X ao) w) o b)(v:k<=n)(r:0<k)(K:∀w',OL R sz X base e w' ao cap (b++l.drop k)->ExtX (ob ao) w w'->wpList P ops Q rest (a.put d (.int .i64 (k:Int))) w'):wpList P ops Q (⟨d,.call {callee:= .builtin .copy,args:=#[s,x],argTypes:=#[t,t]},ty,ps,af,none⟩::rest) a w:=by
 refine wpList_plain rfl fun D i=>?_;subst y;subst j;obtain⟨C,u,f,g⟩:=m.at_ q;obtain⟨w',A,f,g⟩:=h.run_copy (P:=P) T q o p C b f u g v r ty;unfold Oper.wp execOp;simp only[resolve,invoke,builtin,Sem.run_bind,Sem.run_pure,Result.andThen_ok,List.map_toArray,List.map_cons,List.map_nil,hs,B,A];exact i _ _ (K w' f g)
theorem a9U{o:Oper}{K:Act->World->Prop}{E:Prop}{t c:Nat}{z:Value}{s x:Operand}{m:Option Addr}{p n k:Nat}(y:o.guard=none)(i:o.op=Op.call {callee:=Callee.builtin Builtin.copy,args:=#[s,x],argTypes:=#[t,t]})(T:SliceT P t e sz c z)(q:Elem R sz)(b:List α)(hs:a.eval s=.slice ao n cap)(B:l.length=n)(F:a.eval x=.slice m k p)(g:b.length=k)(h:OL R sz X base e w ao cap l)(j:Sl R sz (mk (un X ao) w) m b)(A:k<=n)(r:0<k)(v:∀w',OL R sz X base e w' ao cap (b++l.drop k)->ExtX (ob ao) w w'->K (a.put o.dst (.int .i64 (k:Int))) w'):if Region.wanted o (yielded ops a.tmps)=true then Oper.wp P o a w K Q else E:=by
 have D:Region.wanted o (yielded ops a.tmps)=true:=by simp[Region.wanted,y]
 rw[if_pos D];subst B;subst g;obtain⟨G,u,d,f⟩:=j.at_ q;obtain⟨w',C,d,f⟩:=h.run_copy (P:=P) T q m p G b d u f A r o.type;unfold Oper.wp execOp;rw[i];simp only[resolve,invoke,builtin,Sem.run_bind,Sem.run_pure,Result.andThen_ok,List.map_toArray,List.map_cons,List.map_nil,hs,F,C];exact v _ d f
end
end Go.Rep
namespace Go.Lin
def b5B(r c:Nat):Mat:=List.replicate r (List.replicate c 0)
theorem a8b(r c:Nat):(b5B r c).length=r:=List.length_replicate
theorem a8c{r c i:Nat}(h:i<(b5B r c).length):(b5B r c)[i]=List.replicate c 0:=List.getElem_replicate h
theorem b1M{x:List Rat}{n:Nat}:x++(List.replicate (2*n) (0:Rat)).drop n=x++List.replicate n 0:=by
 rw[List.drop_replicate,show 2*n - n=n by omega]
theorem b3I{x:List Rat}{n i:Nat}(h:x.length=n):(x++List.replicate n (0:Rat)).set (n+i) 1=x++(List.replicate n 0).set i 1:=by
 rw[List.set_append_right _ _ (by omega),h,show n+i - n=i by omega]
theorem b3J{m:Mat}{n i:Nat}(h:i<(a1g m n).length)(a:i<m.length):(a1g m n)[i]=m[i]++(List.replicate n 0).set i 1:=by
 simp[a1g,a,List.getD_eq_getElem?_getD]
theorem b5C{m:Mat}{n c:Nat}(h:Shp n c m)(b:n=0->c=0):Go.Lin.colsL m=c:=by
 by_cases a:n=0
 ·have:m= []:=List.eq_nil_of_length_eq_zero (by rw[h.1];exact a)
  subst this;rw[b a];rfl
 ·exact a9i h (by omega)
end Go.Lin
namespace Go.Proofs.YtnnpfhoigmegcaaGreat
open Go.RowKit Go.Rep Go.Lim Go.Lin
def b6A(X:Nat->Bool)(w:World)(m:List (List Rat))(n:Nat)(e:Ending)(w':World):Prop:=Ext w w'/\((a4p m n/\e=.returned (.tuple #[.slice none 0 0,.int .i64 7]))\/(¬a4p m n/\∃u,e=.returned (.tuple #[u,.int .i64 0])/\MC (mk X w') u (a2y m n)))
theorem b1N(X:Nat->Bool)(w:World)(u:Value)(m:List (List Rat))(n:Nat)(hX:HX X w)(hu:MV (mk X w) u m)(hf:a0y m=true)(b7:m.length=n)(d1:colsL m=n)(hT:b2e (a1g m n) (2*n)):Calls Tryz.prog 257 #[u] w (b6A X w m n):=by
 obtain⟨N,n7,q3,_,_⟩:=a0x hf;rw[b7,d1]at N;rw[b7]at n7;have d2:=a2q X w u m hu (by omega);rw[hf]at d2;have a0:=a2k X w u m hu;rw[d1]at a0;have e4:=hid N;have b8:=hid b7;have k2:=hid d1;have b2:=hid (a1i N);have j7:=hid hT;have n9:=hid (a2c N);have c:=hid (a5z N);have n1:Hid (∀i (h:i<(a1g m n).length) (hi:i<m.length),(a1g m n)[i]=m[i]++(List.replicate n 0).set i 1):=hid fun i h hi=>b3J h hi;have j8:Hid (colsL (a1g m n)=2*n):=hid (b5C (a1i N) (by omega));have c3:Hid (a4p m n↔0<n/\n<=(a0H (a1g m n) (2*n)).2.getD (n - 1) 0):=hid Iff.rfl;have d3:Hid (a2y m n=(a0H (a1g m n) (2*n)).1.map (·.drop n)):=hid rfl;obtain⟨W,hW⟩:∃W,a1g m n=W:=⟨_,rfl⟩;rw[hW]at b2 j7 c n1 j8 c3 d3;obtain⟨ua,n5,rfl,e7,m7⟩:=hu;have hu:MV (mk X w) (.slice ua m.length n5) m:=⟨ua,n5,rfl,e7,m7⟩;rw[b7]at d2 a0 hu |-;have p7:wrap64 (2*(n:Int))=((2*n:Nat):Int):=by rw[IntWalk.wrap64_in _ (by omega)];omega
 clear hf b7 d1 N e7 m7 hW hT;go_enter Tryz.func257,Tryz.ntmps257
 go_wp2_with fail
 refine d2.mono ?_;rintro e w1 ⟨rfl,rfl⟩;go_wp2_with fail
 refine a0.mono ?_;rintro e w2 ⟨rfl,rfl⟩;go_wp2_with fail
 refine(a5c X w2 n (2*n) hX (by omega) (by omega)).mono ?_;rintro e w3 ⟨f3,ao,cap,hs,rfl,E⟩;rw[List.length_replicate];have e0:Hid (hs.length=n):=hid (by rw[E.len];simp);have k9:Hd ao n:=by have:=E.outer.hd;rw[e0.out]at this;exact this
 have o6:=hX.ext f3;have k1:=E.hz o6;have m5:=E.old MV.mono hu f3 (c1B _) (fun _ _ h=>h);obtain⟨V,hV⟩:∃V,b5B n (2*n)=V:=⟨_,rfl⟩;have f8:Hid (V.length=n):=hid (by rw[<-hV];exact a8b _ _);have o3:Hid (∀i (h:i<V.length),V[i]=List.replicate (2*n) 0):=hid fun i h=>by subst hV;exact a8c h
 have d0:Hid (W.length=V.length):=hid (by rw[f8.out];exact b2.out.1)
 change MO X w2.heap.size _ _ w3 ao cap hs (b5B n (2*n))at E
 rw[hV,<-a3B W V]at E;have k3:=a3n (mz X ao hs) w3 _ m n n k1 m5 e4.out k2.out (by omega) (by omega);clear d2 a0 hu m5 hV;go_wp2_with fail
 refine k3.mono ?_;rintro e w4 ⟨i7,bo,p9,r2,rfl,j1⟩;have e1:=j1.mc;rw[b8.out]at e1 |-;have d8:=E.ext0 i7;have i5:=f3.trans i7;obtain⟨ba,q6,b4,q0,H⟩:=e1;simp only[Value.slice.injEq]at b4;obtain⟨rfl,h5,rfl⟩:=b4;clear h5;have p0:=H.hd;rw[b8.out]at p0;obtain⟨Z,g4⟩:∃Z,mz X ao hs=Z:=⟨_,rfl⟩;have g3:=hid g4;rw[g4]at H k1;clear k3 E j1 g4;go_wp2_with fail
 go_loopw [31] (fun k wr=>∃(i:Nat),k=.int .i64 i/\i<=n/\MO X w2.heap.size 26 41 wr ao cap hs (mix W V i)/\Sl RC 1 (mk Z wr) bo m/\Ext w2 wr) (fun k _=>n - (intOf k).toNat)
 case atStart=>exact⟨0,rfl,Nat.zero_le _,d8,H,i5⟩
 case round=>
  obtain⟨i,rfl,hi,y,H,hE⟩:=hrel;by_cases g8:i<n
  ·have l2:i<m.length:=by rw[b8.out];exact g8
   obtain⟨a1,c1,o5,b3,s,G⟩:=H.row i l2;have I:=b3.out noY wr (ExtX.refl _) rfl;have r:Hid (m[i].length=n):=hid (e4.out.2 _ (c1E _));have l1:i<V.length:=by rw[f8.out];exact g8
   have g6:i<W.length:=by rw[d0.out];exact l1
   have j9:=hid (n1.out i g6 l2);have o4:=hid (o3.out i l1);obtain⟨x,hx⟩:∃x,m[i]=x:=⟨_,rfl⟩;rw[hx]at I s G r j9;rw[r.out]at I s;have q8:Hd a1 n:=by have:=G.hd;rw[r.out]at this;exact this
   have z:i<hs.length:=by rw[e0.out];exact g8
   have l8:i<(mix W V i).length:=by rw[a2l d0.out];exact g6
   have M:Hid ((mix W V i)[i]=List.replicate (2*n) 0):=hid (by rw[a1P d0.out,if_neg (by omega)];exact o4.out);have b6:Hid ((mix W V i).set i (x++(List.replicate n (0:Rat)).set i 1)=mix W V (i+1)):=hid (by rw[<-j9.out];exact a4C d0.out g6);obtain⟨a,B,cr,d⟩:∃a B cr,hs[i]=(a,B,cr):=⟨_,_,_,rfl⟩;have F:B=2*n:=by
    have:=y.rlen i z l8;rw[d,M.out,List.length_replicate]at this;exact this
   have hR:=y.row i z l8;rw[M.out]at hR;simp only[d]at hR;have c5:=fun k (hk:ob a k=true)=>y.mz_sub z k (by rw[d];exact hk);have h3:=fun k (hk:ob a k=true)=>y.sep i z k (by rw[d];exact hk);have d4:Hid (un (cut (mz X ao hs) a) a=Z):=hid (by rw[a4x c5];exact g3.out);have o9:Hd a B:=by have:=hR.hd;rw[List.length_replicate,<-F]at this;exact this
   have t:=hid F;have y1:wr.cell? (adr ao i)=some (.slice a B cr):=by
    have:=(y.hdr i z).1;rw[d]at this;exact this
   have T:Hid (ob a (adr ao i).block=false):=hid (by
    cases hb:ob a (adr ao i).block
    ·rfl
    ·have h1:=(h3 _ hb).2
     obtain⟨b0,o0,rfl⟩:=k9 (by omega);simp[ob,adr]at h1)
   have f:=hid d;have f5:Hid ((List.replicate (2*n) (0:Rat)).length=B):=hid (by rw[F];exact List.length_replicate);have c2:Sl QC 3 (mk (un (cut (mz X ao hs) a) a) wr) a1 x:=by rw[d4.out];exact G
   clear b3 hx d F;obtain⟨wo,h4⟩:∃wo,wo=wr:=⟨_,rfl⟩;subst h4;go_wp2_with (first|(with_reducible refine a0v a0r (by omega) (by assumption) ?_)|(refine a8V a0w QC.elem x rfl f5.out rfl r.out hR c2 (by rw[t.out];omega) (by omega) ?_;intro w5 J C;have y5:=C.cellY y1 T.out))
   have d5:x++List.drop n (List.replicate (2*n) (0:Rat))=x++List.replicate n 0:=b1M;rw[d5]at J;have d7:∀k,ob a k=true->Z k=true:=fun k hk=>by rw[<-g3.out];exact c5 k hk
   have h7:Hid ((x++List.replicate n (0:Rat)).length=B):=hid (by rw[List.length_append,List.length_replicate,r.out,t.out];omega);have a5:=y.upd z (l:=x++List.replicate n 0) (show ExtX (ob hs[i].1) wo w5 by rw[f.out];exact C) (fun l0=>by rw[M.out,List.length_replicate,h7.out,t.out]) (by rw[f.out];exact J);have m3:=H.mono RC.mono (a0t C d7);have P:=y.ext_from hE (c1B _) (ExtX.row z (show ExtX (ob hs[i].1) wo w5 by rw[f.out];exact C));have a3:Hid ((x++List.replicate n (0:Rat)).set (n+i) 1=x++(List.replicate n 0).set i 1):=hid (b3I r.out);have h2:n+i<(x++List.replicate n (0:Rat)).length:=by rw[h7.out,t.out];omega
   have o8:HX Z w5:=by
    have h1:=a5.hz (hX.ext P);rw[g3.out]at h1;exact h1
   have a4:Ext w5 w5.drew:=(ExtX.refl w5).drew;obtain⟨L,hL⟩:∃L,x++List.replicate n (0:Rat)=L:=⟨_,rfl⟩;rw[hL]at J a5 h7 a3 h2;obtain⟨L2,i9⟩:∃L2,x++(List.replicate n (0:Rat)).set i 1=L2:=⟨_,rfl⟩;rw[i9]at a3 b6;have j0:Hid (L2.length=L.length):=hid (by rw[<-a3.out,List.length_set]);obtain⟨g,o,hg⟩:∃g o,adr a ((n+i)*3)=⟨g,o,none⟩:=⟨_,_,rfl⟩;have ew:IntKind.i64.wrap ((n:Int)+(i:Int))=(n:Int)+(i:Int):=IntWalk.i64_in _ (by omega);have i2:∀W,(Instr.indexAt 26 (.slice a B cr) (.int .i64 ((n:Int)+(i:Int)))).run Tryz.prog W=.ok (.pointer (some ⟨g,o,none⟩)) W:=by
    rw[<-hg,show(n:Int)+(i:Int)=((n+i:Nat):Int)by omega];exact a0d a0w a B cr .i64 (n+i) o9 (by rw[t.out];omega)
   have i1:∀W,(Instr.indexAt 25 (.slice ao n cap) (.int .i64 (i:Int))).run Tryz.prog W=.ok (.pointer (some (adr ao i))) W:=a0z a0r ao n cap .i64 i k9 (by omega) rfl;have k5:=hid hg;have hS:Hid (∀Y W',ExtX Y w5.drew W'->Y (adr ao i).block=false->W'.cell? (adr ao i)=some (.slice a B cr)):=hid fun Y W' h h8=>h.cellY (a4.cell y5) h8;have h9:=hS.out noY w5.drew (ExtX.refl _) rfl;have j3:=J.ext0 QC.elem a4;have qf:=a8y Z w5.drew 1 (o8.ext a4) (by omega) (by omega);have i0:((1:Int):Rat)=1:=by decide+kernel
   rw[i0]at qf;have m8:Hid (un (cut (mz X ao hs) a) a=Z):=d4;clear i0 d5 hL i9 hg y1 y5 hR c2 G I y H;go_region_held3 (fun w'=>w'.cell? (adr ao i)=some (.slice a B cr))
    (first|exact hS.out noY _ t1 rfl|exact hS.out (ob a) _ ((ExtX.of t1).trans e3.2) T.out|go_keep)
    ((go_at_call 150;(with_reducible refine qf.mono ?_);rintro ee w6 ⟨t1,u6,rfl,m6⟩;obtain⟨s6,a6,n6,c6,d6,k6,e6,rfl⟩:=m6.shape;have j4:=j3.ext0 QC.elem t1;obtain⟨_,v0,v1,v2,_,⟨g0,f0⟩,⟨g1,f1⟩,⟨g2,f2⟩,_⟩:=j4.cell3 (n+i) h2 k5.out;have e3:=j4.set3 a3A QC.elem (n+i) h2 k5.out (v0:= .bool s6) (v1:= .slice a6 n6 c6) (v2:= .slice d6 k6 e6) (x:=1) (by rw[m8.out];exact m6)))
   obtain⟨q1,q2⟩:=e3;rw[a3.out]at q1;obtain⟨w8,n0⟩:∃w8,((w6.setCell ⟨g,o,none⟩ (.bool s6)).setCell ⟨g,o+1,none⟩ (.slice a6 n6 c6)).setCell ⟨g,o+2,none⟩ (.slice d6 k6 e6)=w8:=⟨_,rfl⟩;rw[n0]at q1 q2 |-;have n4:ExtX (ob hs[i].1) w6 w8:=by rw[f.out];exact q2
   have j2:=a5.ext0 (a4.trans t1);have a8:=j2.upd z (l:=L2) n4 (fun l0=>by rw[List.getElem_set_self];exact j0.out) (by rw[f.out];exact q1);rw[List.set_set,b6.out]at a8;have p6:=(m3.mono RC.mono (a0l (a4.trans t1))).mono RC.mono (a0t q2 d7);have c8:=j2.ext_from (P.trans (a4.trans t1)) (c1B _) (ExtX.row z n4);clear h9 g0 g1 g2 f0 f1 f2 i1 i2 n0 ew;go_wp2_with fail
   go_roundw
   case rel=>exact⟨i+1,by go_num,by omega,a8,p6,c8⟩
   case measure=>simp[intOf];omega
  ·have p1:i=n:=by omega
   subst p1;rw[a3C (by rw[b2.out.1];exact c1B _) (by rw[f8.out];exact c1B _)]at y;go_wp2_with fail
   refine(a4D X w2.heap.size wr ao cap i (2*i) hs W (hX.ext hE) y b2.out j8.out (by omega) (by omega) j7.out).mono ?_;rintro ee w7 ⟨f4,po,pc,r1,rfl,r0,a8,a9⟩;rw[c.out];have Q:=y.ext_from hE (c1B _) f4;have a2:=MC.mono _ _ _ _ (a1h (X:=X) fun k _ hk=>a0m hk) a8.mc;have b1:=hid (a1a b2.out).1;obtain⟨⟨R,p⟩,j6⟩:∃S,a0H W (2*i)=S:=⟨_,rfl⟩;rw[j6]at c d3 c3 b1 a2 a9
   dsimp only at c d3 c3 b1 a2 a9
   rw[b1.out.1]at a2;have o7:=hX.ext Q;have k4:Hd po i:=by have:=a9.hd;rw[c.out]at this;exact this
   have m0:Hid (∀h:i - 1<p.length,p.getD (i - 1) 0=p[i - 1]):=hid fun h=>by simp[List.getD_eq_getElem?_getD,h]
   have m1:∀h:i - 1<p.length,w7.cell? (adr po (i - 1))=some (.int .i64 (p[i - 1]:Int)):=fun h=>(a9.sl (a0c.elem _)).nat (i - 1) h;have e2:=hid m1;obtain⟨w2,m9⟩:∃x,x=w2:=⟨_,rfl⟩;subst m9;clear m1 d8 H y a8 p7 j6 a9;by_cases v:a4p m i
   ·obtain⟨h0,k7⟩:=c3.out.1 v
    have b9:i - 1<p.length:=by rw[c.out];omega
    rw[m0.out b9]at k7;have c9:=e2.out b9;have q7:(0:Int)<(i:Int):=by omega
    have k8:(i:Int)<=(p[i - 1]:Int):=by omega
    obtain⟨q,hq⟩:∃q,(p[i - 1]:Int)=q:=⟨_,rfl⟩;rw[hq]at c9 k8;have ew:wrap64 ((i:Int) - 1)=(i:Int) - 1:=IntWalk.wrap64_in _ (by omega);have i3:∀W,(Instr.indexAt 22 (.slice po i pc) (.int .i64 ((i:Int) - 1))).run Tryz.prog W=.ok (.pointer (some (adr po (i - 1)))) W:=a0z a6a po i pc .i64 (i - 1) k4 (by omega) (by omega);clear hq k7 h0 f4;go_wp2_with fail
    go_ret2
    exact⟨Q,.inl ⟨v,rfl⟩⟩
   ·have g5:(¬(0:Int)<(i:Int))\/((0:Int)<(i:Int)/\∃q:Int,w7.cell? (adr po (i - 1))=some (.int .i64 q)/\¬(i:Int)<=q):=by
     by_cases h0:i=0
     ·exact .inl (by omega)
     ·have b9:i - 1<p.length:=by rw[c.out];omega
      refine .inr ⟨by omega,_,e2.out b9,fun q9=>v (c3.out.2 ⟨by omega,?_⟩)⟩;rw[m0.out b9];omega
    have p4:=hid v;have n3:=a5c X w7 i i o7 (by omega) (by omega);have ew:wrap64 ((i:Int) - 1)=(i:Int) - 1\/i=0:=by
     by_cases h0:i=0
     ·exact .inr h0
     ·exact .inl (IntWalk.wrap64_in _ (by omega))
    have p8:Hid (0<i->∀W,(Instr.indexAt 22 (.slice po i pc) (.int .i64 ((i:Int) - 1))).run Tryz.prog W=.ok (.pointer (some (adr po (i - 1)))) W):=hid fun h=>a0z a6a po i pc .i64 (i - 1) k4 (by omega) (by omega);clear v f4;rcases g5 with h0|⟨h0,q,c9,k8⟩
    case' inl=>clear ew
    case' inr=>
     have ew:wrap64 ((i:Int) - 1)=(i:Int) - 1:=ew.resolve_right (by omega);have i3:=p8.out (by omega)
    all_goals
     go_wp2_with fail
     refine n3.mono ?_;rintro ee w8 ⟨c8,b,O,A,rfl,a7⟩;rw[List.length_replicate];have b5:Hid (A.length=i):=hid (by rw[a7.len];simp);have d9:Hd b i:=by have:=a7.outer.hd;rw[b5.out]at this;exact this
     have l7:=a7.old MC.mono a2 c8 (c1B _) (fun _ _ h=>h);obtain⟨ra,r3,b4,q5,c4⟩:=l7;simp only[Value.slice.injEq]at b4;obtain⟨rfl,h5,rfl⟩:=b4;clear h5;obtain⟨D,hD⟩:∃D,a2y m i=D:=⟨_,rfl⟩;have e9:=hid (hD▸n9.out);have l3:=hid (hD▸d3.out);have n8:=hid hD;obtain⟨U,hU⟩:∃U,b5B i i=U:=⟨_,rfl⟩;have f7:Hid (U.length=i):=hid (by rw[<-hU];exact a8b _ _);have o1:Hid (∀k (h:k<U.length),U[k]=List.replicate i 0):=hid fun k h=>by subst hU;exact a8c h
     have c7:Hid (D.length=U.length):=hid (by rw[f7.out];exact e9.out.1)
     change MO X w7.heap.size _ _ w8 b O A (b5B i i)at a7
     rw[hU,<-a3B D U]at a7;have i6:=Q.trans c8;obtain⟨Y,f9⟩:∃Y,mz X b A=Y:=⟨_,rfl⟩;have k0:=hid f9;rw[f9]at c4;clear hU f9 hD n3;go_wp2_with fail
     go_loopw [70] (fun k wr=>∃(j:Nat),k=.int .i64 j/\j<=i/\MO X w7.heap.size 26 41 wr b O A (mix D U j)/\Sl RC 1 (mk Y wr) ao R/\Ext w2 wr) (fun k _=>i - (intOf k).toNat)
     case atStart=>exact⟨0,rfl,Nat.zero_le _,a7,c4,i6⟩
     case round=>
      obtain⟨j,rfl,hj,y,c4,hE⟩:=hrel;by_cases g7:j<i
      ·have p2:j<R.length:=by rw[b1.out.1];exact g7
       obtain⟨a1,c1,o5,b3,s,G⟩:=c4.row j p2;have I:=b3.out noY wr (ExtX.refl _) rfl;have r:Hid (R[j].length=2*i):=hid (b1.out.2 _ (c1E _));have l5:j<U.length:=by rw[f7.out];exact g7
       have l4:j<D.length:=by rw[c7.out];exact l5
       have i4:Hid (D[j]=R[j].drop i):=hid (by simp[l3.out]);have o2:=hid (o1.out j l5);obtain⟨x,hx⟩:∃x,R[j]=x:=⟨_,rfl⟩;rw[hx]at I s G r i4;rw[r.out]at I s;obtain⟨n2,g9⟩:∃n2,2*i=n2:=⟨_,rfl⟩;have q4:=hid g9;rw[g9]at I s;have K:j<A.length:=by rw[b5.out];exact g7
       have l9:j<(mix D U j).length:=by rw[a2l c7.out];exact l4
       have M:Hid ((mix D U j)[j]=List.replicate i 0):=hid (by rw[a1P c7.out,if_neg (by omega)];exact o2.out);have b6:Hid ((mix D U j).set j (x.drop i)=mix D U (j+1)):=hid (by rw[<-i4.out];exact a4C c7.out l4);obtain⟨a,B,cr,d⟩:∃a B cr,A[j]=(a,B,cr):=⟨_,_,_,rfl⟩;have F:B=i:=by
        have:=y.rlen j K l9;rw[d,M.out,List.length_replicate]at this;exact this
       have hR:=y.row j K l9;rw[M.out]at hR;simp only[d]at hR;have c5:=fun k (hk:ob a k=true)=>y.mz_sub K k (by rw[d];exact hk);have h3:=fun k (hk:ob a k=true)=>y.sep j K k (by rw[d];exact hk);have d4:Hid (un (cut (mz X b A) a) a=Y):=hid (by rw[a4x c5];exact k0.out);have y1:wr.cell? (adr b j)=some (.slice a B cr):=by
        have:=(y.hdr j K).1;rw[d]at this;exact this
       have T:Hid (ob a (adr b j).block=false):=hid (by
        cases hb:ob a (adr b j).block
        ·rfl
        ·have h1:=(h3 _ hb).2
         obtain⟨b0,o0,rfl⟩:=d9 (by omega);simp[ob,adr]at h1)
       have f:=hid d;have t:=hid F;have f5:Hid ((List.replicate i (0:Rat)).length=B):=hid (by rw[F];exact List.length_replicate);have c0:=G.sub i n2 c1 (by omega) (by omega) (by rw[r.out];omega);rw[c1D (by rw[r.out];omega)]at c0;have f1:∀W,(Instr.sliceAt 26 (.slice a1 n2 c1) (some (.int .i64 (i:Int))) none none).run Tryz.prog W=.ok (.slice (a1x a1 i c1 3) (n2 - i) (c1 - i)) W:=a2P a0w n2 c1 .i64 i (by omega) s;rw[show n2 - i=i by omega]at f1;obtain⟨sa,m2⟩:∃sa,a1x a1 i c1 3=sa:=⟨_,rfl⟩;rw[m2]at f1 c0;obtain⟨sc,m4⟩:∃sc,c1 - i=sc:=⟨_,rfl⟩;rw[m4]at f1;obtain⟨xd,h6⟩:∃xd,x.drop i=xd:=⟨_,rfl⟩;rw[h6]at c0 b6;have e8:Hid (xd.length=i):=hid (by rw[<-h6,List.length_drop,r.out];omega);have c2:Sl QC 3 (mk (un (cut (mz X b A) a) a) wr.drew) sa xd:=by rw[d4.out];exact c0
       have i1:∀W,(Instr.indexAt 25 (.slice b i O) (.int .i64 (j:Int))).run Tryz.prog W=.ok (.pointer (some (adr b j))) W:=a0z a0r b i O .i64 j d9 (by omega) rfl;have j5:=hR.ext0 QC.elem (ExtX.refl (Y:=noY) wr).drew;have f6:Hid (∀Y2 W',ExtX Y2 wr.drew W'->Y2 (adr b j).block=false->W'.cell? (adr b j)=some (.slice a B cr)):=hid fun Y2 W' h h8=>(((ExtX.refl wr).drew).trans h).cellY y1 h8;have h9:=f6.out noY wr.drew (ExtX.refl _) rfl;clear hx b3 d F g9 m2 m4 h6 hR G c0;obtain⟨wo,h4⟩:∃wo,wo=wr:=⟨_,rfl⟩;subst h4;go_wp2_with (with_reducible refine a0v a0r (by omega) (by assumption) ?_)
       go_region_held3 (fun w'=>w'.cell? (adr b j)=some (.slice a B cr))
        (first|exact f6.out noY _ (ExtX.refl _) rfl|exact f6.out (ob a) _ C T.out|go_keep)
        (first|(refine a9U rfl (by rfl) a0w QC.elem xd rfl f5.out rfl e8.out j5 c2 (by rw[t.out];exact c1B _) (by omega) ?_;intro w5 J C))
       have d5:xd++List.drop i (List.replicate i (0:Rat))=xd:=by rw[List.drop_replicate,Nat.sub_self,List.replicate_zero,List.append_nil]
       rw[d5]at J;have d7:∀k,ob a k=true->Y k=true:=fun k hk=>by rw[<-k0.out];exact c5 k hk
       have i8:ExtX (ob A[j].1) wo w5:=by rw[f.out];exact(ExtX.of (ExtX.refl wo).drew).trans C
       have a5:=y.upd K (l:=xd) i8 (fun l0=>by rw[M.out,List.length_replicate,e8.out]) (by rw[f.out];exact J);rw[b6.out]at a5;have p5:=(c4.mono RC.mono (a0l (ExtX.refl wo).drew)).mono RC.mono (a0t C d7);have P:=y.ext_from hE (by have:=Q.size;omega) (ExtX.row K i8);clear I h9 y1 f1 i1 j5 c2;go_wp2_with fail
       go_roundw
       case rel=>exact⟨j+1,by go_num,by omega,a5,p5,P⟩
       case measure=>simp[intOf];omega
      ·have p3:j=i:=by omega
       subst p3;rw[a3C (by rw[e9.out.1];exact c1B _) (by rw[f7.out];exact c1B _)]at y;have l6:=y.mc;rw[e9.out.1,<-n8.out]at l6;go_wp2_with fail
       go_ret2
       exact⟨hE,.inr ⟨p4.out,_,rfl,l6⟩⟩
def b0W(X:Nat->Bool)(w:World)(S:Mat×List Nat)(c:Nat)(e:Ending)(w':World):Prop:=Ext w w'/\((c∈S.2/\e=.returned (.tuple #[.slice none 0 0,.int .i64 11]))\/(c∉S.2/\∃u,e=.returned (.tuple #[u,.int .i64 0])/\RC (mk X w') u (b6g S.1 S.2 c)))
theorem b5D(X:Nat->Bool)(w:World)(u v:Value)(m:List (List Rat))(b:List Rat)(n c:Nat)(hX:HX X w)(hu:MV (mk X w) u m)(hv:RV (mk X w) v b)(hf:a0y m=true)(b2:m.length=n)(b1:colsL m=c)(g5:b.length=n)(hT:b2e (a2U m b n) (c+1)):Calls Tryz.prog 255 #[u,v] w (b0W X w (a0H (a2U m b n) (c+1)) c):=by
 obtain⟨b7,p2,k8,b6,_⟩:=a0x hf;rw[b2,b1]at b7;rw[b2]at p2 b6;rw[b1]at k8 b6;have c3:=a2q X w u m hu (by omega);rw[hf]at c3;have T:=a2k X w u m hu;rw[b1]at T;have f3:=hid b7;have b3:=hid b2;have l0:=hid b1;have k3:=hid g5;have t:=hid (a2s (b:=b) b7);have o6:Hid (∀i (h:i<(a2U m b n).length) (hi:i<m.length) (F:i<b.length),(a2U m b n)[i]=m[i]++[b[i]]):=hid fun i h hi F=>b2w h hi F;have a0:0<n->colsL (a2U m b n)=c+1:=fun h=>a9i (a2s (b:=b) b7) h;obtain⟨W,hW⟩:∃W,a2U m b n=W:=⟨_,rfl⟩;rw[hW]at t hT o6 a0 |-;have q0:=hid (b2y t.out (colsL W) a0 hT);have p7:=hid (b2x t.out (colsL W) a0);have j9:Hid (Shp n (colsL W) W):=hid ⟨t.out.1,fun r hr=>by
  have:=List.length_pos_of_mem hr;rw[a0 (by rw[<-t.out.1];exact this)];exact t.out.2 r hr⟩
 have j8:Hid (colsL W<=900):=hid (by
  by_cases h0:0<n
  ·rw[a0 h0];omega
  ·have:W= []:=List.eq_nil_of_length_eq_zero (by rw[t.out.1];omega)
   subst this;exact Nat.zero_le _)
 obtain⟨ua,o9,rfl,f4,n9⟩:=hu;have hu:MV (mk X w) (.slice ua m.length o9) m:=⟨ua,o9,rfl,f4,n9⟩;obtain⟨va,p0,rfl,o3,O⟩:=hv;have l9:=O.hd;rw[b2]at c3 T hu |-;rw[g5]at o3 l9 |-;have v4:wrap64 ((c:Int)+1)=((c+1:Nat):Int):=by rw[IntWalk.wrap64_in _ (by omega)];omega
 have t9:((n:Int) !=(n:Int))=false:=b0v rfl;clear hf b2 b1 b7 f4 n9 hW hT a0 g5;go_enter Tryz.func255,Tryz.ntmps255
 go_wp2_with fail
 refine c3.mono ?_;rintro e w1 ⟨rfl,rfl⟩;go_wp2_with fail
 refine T.mono ?_;rintro e w2 ⟨rfl,rfl⟩;go_wp2_with fail
 refine(a5c X w2 n (c+1) hX (by omega) (by omega)).mono ?_;rintro e w3 ⟨b8,ao,cap,hs,rfl,A⟩;rw[List.length_replicate];have e1:Hid (hs.length=n):=hid (by rw[A.len];simp);have l8:Hd ao n:=by have:=A.outer.hd;rw[e1.out]at this;exact this
 have q5:=hX.ext b8;have k2:=A.hz q5;have n8:=A.old MV.mono hu b8 (c1B _) (fun _ _ h=>h);have h9:=O.mono QV.mono (fun a v h=>((a1k (X:=X) (Z:=mz X ao hs) b8 (fun k _ d=>by simp[noY]at d) fun k d hz=>by
  rcases a2e.1 hz with a|a
  ·exact a
  ·have:=(A.mb_block (a2C.2 a)).1;omega) a v h))
 obtain⟨V,hV⟩:∃V,b5B n (c+1)=V:=⟨_,rfl⟩;have f8:Hid (V.length=n):=hid (by rw[<-hV];exact a8b _ _);have q3:Hid (∀i (h:i<V.length),V[i]=List.replicate (c+1) 0):=hid fun i h=>by subst hV;exact a8c h
 have c2:Hid (W.length=V.length):=hid (by rw[f8.out];exact t.out.1)
 change MO X w2.heap.size _ _ w3 ao cap hs (b5B n (c+1))at A
 rw[hV,<-a3B W V]at A;have l2:=a3n (mz X ao hs) w3 _ m n c k2 n8 f3.out l0.out (by omega) (by omega);clear c3 T hu n8 hV;go_wp2_with fail
 refine l2.mono ?_;rintro e w4 ⟨f5,bo,t5,v3,rfl,j3⟩;have e2:=j3.mc;rw[b3.out]at e2 |-;have d5:=A.ext0 f5;have i7:=b8.trans f5;obtain⟨ba,u2,l4,t7,J⟩:=e2;simp only[Value.slice.injEq]at l4;obtain⟨rfl,s8,rfl⟩:=l4;clear s8;have r0:=J.hd;rw[b3.out]at r0;obtain⟨Z,g3⟩:∃Z,mz X ao hs=Z:=⟨_,rfl⟩;have f9:=hid g3;rw[g3]at J k2 h9;have s3:=h9.mono QV.mono (a0l f5);clear h9;clear l2 A j3 g3;go_wp2_with fail
 go_loopw [33] (fun k wr=>∃(i:Nat),k=.int .i64 i/\i<=n/\MO X w2.heap.size 26 41 wr ao cap hs (mix W V i)/\Sl RC 1 (mk Z wr) bo m/\Sl QV 3 (mk Z wr) va b/\Ext w2 wr) (fun k _=>n - (intOf k).toNat)
 case atStart=>exact⟨0,rfl,Nat.zero_le _,d5,J,s3,i7⟩
 case round=>
  obtain⟨i,rfl,hi,D,J,O,hE⟩:=hrel;by_cases c7:i<n
  ·have m2:i<m.length:=by rw[b3.out];exact c7
   obtain⟨a1,c1,u3,k5,e0,d0⟩:=J.row i m2;have i6:=k5.out noY wr (ExtX.refl _) rfl;have P:Hid (m[i].length=c):=hid (f3.out.2 _ (c1E _));have m0:i<V.length:=by rw[f8.out];exact c7
   have g6:i<W.length:=by rw[c2.out];exact m0
   have m1:i<b.length:=by rw[k3.out];exact c7
   have k0:=hid (o6.out i g6 m2 m1);have q4:=hid (q3.out i m0);obtain⟨x,hx⟩:∃x,m[i]=x:=⟨_,rfl⟩;rw[hx]at i6 e0 d0 P k0;rw[P.out]at i6 e0;have u7:Hd a1 c:=by have:=d0.hd;rw[P.out]at this;exact this
   have C:i<hs.length:=by rw[e1.out];exact c7
   have m5:i<(mix W V i).length:=by rw[a2l c2.out];exact g6
   have h5:Hid ((mix W V i)[i]=List.replicate (c+1) 0):=hid (by rw[a1P c2.out,if_neg (by omega)];exact q4.out);have h6:Hid ((mix W V i).set i (x++[b[i]])=mix W V (i+1)):=hid (by rw[<-k0.out];exact a4C c2.out g6);obtain⟨a,E,cr,f⟩:∃a E cr,hs[i]=(a,E,cr):=⟨_,_,_,rfl⟩;have H:E=c+1:=by
    have:=D.rlen i C m5;rw[f,h5.out,List.length_replicate]at this;exact this
   have hR:=D.row i C m5;rw[h5.out]at hR;simp only[f]at hR;have d3:=fun k (d:ob a k=true)=>D.mz_sub C k (by rw[f];exact d);have s2:=fun k (d:ob a k=true)=>D.sep i C k (by rw[f];exact d);have d2:Hid (un (cut (mz X ao hs) a) a=Z):=hid (by rw[a4x d3];exact f9.out);have l3:Hd a E:=by have:=hR.hd;rw[List.length_replicate,<-H]at this;exact this
   have y:=hid H;have y1:wr.cell? (adr ao i)=some (.slice a E cr):=by
    have:=(D.hdr i C).1;rw[f]at this;exact this
   have d9:Hid (ob a (adr ao i).block=false):=hid (by
    cases F:ob a (adr ao i).block
    ·rfl
    ·have h1:=(s2 _ F).2
     obtain⟨b0,o0,rfl⟩:=l8 (by omega);simp[ob,adr]at h1)
   have G:=hid f;have p8:Hid ((List.replicate (c+1) (0:Rat)).length=E):=hid (by rw[H];exact List.length_replicate);have n5:Sl QC 3 (mk (un (cut (mz X ao hs) a) a) wr) a1 x:=by rw[d2.out];exact d0
   clear k5 hx f H;obtain⟨wo,i0⟩:∃wo,wo=wr:=⟨_,rfl⟩;subst i0;go_wp2_with (first|(with_reducible refine a0v a0r (by omega) (by assumption) ?_)|(refine a8V a0w QC.elem x rfl p8.out rfl P.out hR n5 (by rw[y.out];omega) (by have:=b6 (by omega);omega) ?_;intro K B s;have y5:=s.cellY y1 d9.out))
   have o7:x++List.drop c (List.replicate (c+1) (0:Rat))=x++[0]:=by rw[List.drop_replicate,show c+1 - c=1 by omega];rfl
   rw[o7]at B;have a7:∀k,ob a k=true->Z k=true:=fun k d=>by rw[<-f9.out];exact d3 k d
   have i4:Hid ((x++[(0:Rat)]).length=E):=hid (by rw[List.length_append,P.out,y.out];rfl);have N:=D.upd C (l:=x++[(0:Rat)]) (show ExtX (ob hs[i].1) wo K by rw[G.out];exact s) (fun r1=>by rw[h5.out,List.length_replicate,i4.out,y.out]) (by rw[G.out];exact B);have n7:=J.mono RC.mono (a0t s a7);have Q:=D.ext_from hE (c1B _) (ExtX.row C (show ExtX (ob hs[i].1) wo K by rw[G.out];exact s));have I:Hid ((x++[(0:Rat)]).set c b[i]=x++[b[i]]):=hid (by rw[List.set_append_right _ _ (by rw[P.out];exact c1B _),P.out,Nat.sub_self];rfl);have h7:c<(x++[(0:Rat)]).length:=by rw[i4.out,y.out];omega
   have q7:HX Z K:=by
    have h1:=N.hz (hX.ext Q);rw[f9.out]at h1;exact h1
   have z:Ext K K.drew:=(ExtX.refl K).drew;obtain⟨g4,o4,s4,a4,n4,c4,d4,k4,e4,l6,q6,k7,n1⟩:=O.rat QV.shaped i m1;have d8:Hid (ob a g4=false):=hid (by
    cases F:ob a g4
    ·rfl
    ·have:=a7 g4 F;rw[q6]at this;simp at this)
   have s5:=O.mono QV.mono (a0t s a7);have n2:QV (mk Z K.drew) (.agg #[.bool s4,.slice a4 n4 c4,.slice d4 k4 e4]) b[i]:=mkx QV.mono (QV.mono _ _ _ _ (a0t s a7) n1) z;obtain⟨v,hv⟩:∃v,b[i]=v:=⟨_,rfl⟩;rw[hv]at I n2 h6;obtain⟨L,hL⟩:∃L,x++[(0:Rat)]=L:=⟨_,rfl⟩;rw[hL]at B N i4 I h7;obtain⟨L2,j0⟩:∃L2,x++[v]=L2:=⟨_,rfl⟩;rw[j0]at I h6;have j1:Hid (L2.length=L.length):=hid (by rw[<-I.out,List.length_set]);obtain⟨g,o,hg⟩:∃g o,adr a (c*3)=⟨g,o,none⟩:=⟨_,_,rfl⟩;have i2:∀W,(Instr.indexAt 26 (.slice a E cr) (.int .i64 (c:Int))).run Tryz.prog W=.ok (.pointer (some ⟨g,o,none⟩)) W:=by
    rw[<-hg];exact a0d a0w a E cr .i64 c l3 (by rw[y.out];omega)
   have i3:∀W,(Instr.indexAt 26 (.slice va n p0) (.int .i64 (i:Int))).run Tryz.prog W=.ok (.pointer (some ⟨g4,o4,none⟩)) W:=by
    rw[<-l6];exact a0d a0w va n p0 .i64 i l9 (by omega)
   have i1:∀W,(Instr.indexAt 25 (.slice ao n cap) (.int .i64 (i:Int))).run Tryz.prog W=.ok (.pointer (some (adr ao i))) W:=a0z a0r ao n cap .i64 i l8 (by omega) rfl;have l5:=hid hg;have hS:Hid (∀Y W',ExtX Y K.drew W'->Y (adr ao i).block=false->Y g4=false->W'.cell? (adr ao i)=some (.slice a E cr)/\W'.cell? ⟨g4,o4,none⟩=some (.bool s4)/\W'.cell? ⟨g4,o4+1,none⟩=some (.slice a4 n4 c4)/\W'.cell? ⟨g4,o4+2,none⟩=some (.slice d4 k4 e4)):=hid fun Y W' h s9 i5=>by
    have p:=k7.out (ob a) K.drew (s.trans (ExtX.of z)) d8.out;exact⟨h.cellY (z.cell y5) s9,h.cellY p.1 i5,h.cellY p.2.1 i5,h.cellY p.2.2 i5⟩
   obtain⟨t0,t2,t3,t4⟩:=hS.out noY K.drew (ExtX.refl _) rfl rfl;have j5:=B.ext0 QC.elem z;have p1:QV (mk Z K.drew) (.agg #[.bool false,.slice none 0 0,.slice none 0 0]) 0:=(QC.zero _).qv (by rw[a0X];decide);have qf:=b2R Z K.drew _ _ _ 0 (q7.ext z) n2 p1;rw[Rat.add_zero]at qf;have o1:Hid (un (cut (mz X ao hs) a) a=Z):=d2;clear o7 hL j0 hg l6 k7 n1 hv y1 y5 hR n5 d0 i6 D J O;go_region_held3 (fun w'=>w'.cell? (adr ao i)=some (.slice a E cr)/\w'.cell? ⟨g4,o4,none⟩=some (.bool s4)/\w'.cell? ⟨g4,o4+1,none⟩=some (.slice a4 n4 c4)/\w'.cell? ⟨g4,o4+2,none⟩=some (.slice d4 k4 e4))
    (first|exact hS.out noY _ t1 rfl rfl|exact hS.out (ob a) _ ((ExtX.of t1).trans e9.2) d9.out d8.out|go_keep)
    ((go_at_call 182;(with_reducible refine qf.mono ?_);rintro ee w6 ⟨t1,u6,rfl,a5⟩;obtain⟨s6,a6,n6,c6,d6,k6,e6,rfl⟩:=a5.shape;have j6:=j5.ext0 QC.elem t1;obtain⟨_,v0,v1,v2,_,⟨g0,f0⟩,⟨g1,f1⟩,⟨g2,f2⟩,_⟩:=j6.cell3 c h7 l5.out;have e9:=j6.set3 a3A QC.elem c h7 l5.out (v0:= .bool s6) (v1:= .slice a6 n6 c6) (v2:= .slice d6 k6 e6) (x:=v) (by rw[o1.out];exact a5)))
   obtain⟨q1,q2⟩:=e9;rw[I.out]at q1;obtain⟨w8,o5⟩:∃w8,((w6.setCell ⟨g,o,none⟩ (.bool s6)).setCell ⟨g,o+1,none⟩ (.slice a6 n6 c6)).setCell ⟨g,o+2,none⟩ (.slice d6 k6 e6)=w8:=⟨_,rfl⟩;rw[o5]at q1 q2 |-;have o8:ExtX (ob hs[i].1) w6 w8:=by rw[G.out];exact q2
   have j4:=N.ext0 (z.trans t1);have U:=j4.upd C (l:=L2) o8 (fun r1=>by rw[List.getElem_set_self];exact j1.out) (by rw[G.out];exact q1);rw[List.set_set,h6.out]at U;have s0:=(n7.mono RC.mono (a0l (z.trans t1))).mono RC.mono (a0t q2 a7);have s7:=(s5.mono QV.mono (a0l (z.trans t1))).mono QV.mono (a0t q2 a7);have a8:=j4.ext_from (Q.trans (z.trans t1)) (c1B _) (ExtX.row C o8);clear t0 t2 t3 t4 g0 g1 g2 f0 f1 f2 i1 i2 i3 o5;go_wp2_with fail
   go_roundw
   case rel=>exact⟨i+1,by go_num,by omega,U,s0,s7,a8⟩
   case measure=>simp[intOf];omega
  ·have r2:i=n:=by omega
   subst r2;rw[a3C (by rw[t.out.1];exact c1B _) (by rw[f8.out];exact c1B _)]at D;have a9:=hX.ext hE;have q8:=D.hz a9;obtain⟨wo,i0⟩:∃wo,wo=wr:=⟨_,rfl⟩;subst i0;go_wp2_with ((with_reducible show wpList _ _ _ (⟨_,.makeSlice _ _ _,_,_,_,_⟩::_) _ _);refine a2w (R:=QC) a0w QC.elem (0:Rat) (fun _=>QC.zero _) (mz X ao hs) q8 wo.heap.size (c1B _) c rfl rfl rfl (by omega) (by omega) ?_;intro oo K B s)
   have u1:=hE.size;have b4:=fun k (d:ob oo k=true)=>B.block d;have m8:∀k,ob oo k=true->X k=false:=fun k d=>by
    cases hx:X k
    ·rfl
    ·have:=(b4 k d).1;have:=a9 k hx;omega
   have N:MO (un X oo) w2.heap.size 26 41 K ao cap hs W:=D.ext s (fun k _ d=>by simp[noY]at d) (fun k d hx=>by
    cases F:ob oo k
    ·simpa[un,F]using hx
    ·have:=(b4 k F).1;omega)
   have k1:HX (un X oo) K:=fun k d=>by
    by_cases hx:X k=true
    ·exact a9.ext s k hx
    ·exact(b4 k (by simpa[un,hx]using d)).2
   have Q:=hE.trans s;have c8:=a4D (un X oo) w2.heap.size K ao cap i (colsL W) hs W k1 N j9.out rfl (by omega) j8.out q0.out;rw[p7.out]at c8;have a2:=a1a t.out;obtain⟨⟨R,p⟩,f6⟩:∃S,a0H W (c+1)=S:=⟨_,rfl⟩;rw[f6]at c8 a2;have d7:=hid f6
   dsimp only at a2
   have f7:=hid a2.1;have p9:=hid a2.2.1;have e7:=hid b4;have m9:=hid m8;have t6:=hid a9;obtain⟨pl,c9⟩:∃pl,p.length=pl:=⟨_,rfl⟩;have b5:=hid c9;have u9:pl<=i:=by have:=a2.2.1.le;omega
   clear a2 D d5 J O f6 b4 m8 a9 k1;refine c8.mono ?_;rintro ee w7 ⟨i9,po,pc,a3,rfl,m4,U,c0⟩
   dsimp only at U c0 |-
   rw[c9];have i8:=N.ext_from Q (c1B _) i9;have g9:=hid (U.len.trans f7.out.1);have u5:Hd po pl:=by have:=c0.hd;rw[c9]at this;exact this
   have n0:=hid (fun k (d:ob po k=true)=>c0.block d);have u4:Hd oo c:=by have:=B.hd;rw[List.length_replicate]at this;exact this
   obtain⟨M,b9⟩:∃M,mz (un (un X oo) po) ao a3=M:=⟨_,rfl⟩;have j2:=hid b9;have p5:OL QC 3 (cut M oo) wo.heap.size 41 w7 oo c (sN R p c 0):=B.ext QC.elem i9 (fun k _ d=>a2e.2 (.inr (a2C.1 d))) (fun k d hz=>by
    obtain⟨h1,h2⟩:=b0H hz;rw[<-b9]at h1;rcases a2e.1 h1 with h|h
    ·by_cases hx:X k=true
     ·exact a2e.2 (.inl hx)
     ·have:ob po k=true:=by simpa[un,hx,h2]using h
      have:=(n0.out k this).1;omega
    ·have h3:mb ao a3 k=true:=a2C.2 h
     rw[m4]at h3;exact a2e.2 (.inr (a2C.1 h3)))
   have r7:Hid (∀k,ob oo k=true->M k=true):=hid fun k d=>by rw[<-b9];exact a2e.2 (.inl (a0m (a0u d)))
   clear c8 N B m4 b9 c9;go_wp2_with fail
   go_loopw [62] (fun k wr=>∃(j:Nat),k=.int .i64 j/\j<=pl/\MO (un (un X oo) po) w2.heap.size 26 41 wr ao cap a3 R/\OL QC 3 (cut M oo) wo.heap.size 41 wr oo c (sN R p c j)/\OL (a0c .i64) 1 (mz (un X oo) ao hs) K.heap.size 3 wr po pc p/\Hid (∀k (d:k<p.length),k<j->p[k]≠c)/\Ext w2 wr) (fun k _=>pl - (intOf k).toNat)
   case atStart=>exact⟨0,rfl,Nat.zero_le _,U,p5,c0,hid (fun k _ h=>by omega),i8⟩
   case round=>
    obtain⟨j,rfl,hj,D,hO,hP,m6,hE⟩:=hrel;by_cases r5:j<pl
    ·have g8:j<p.length:=by rw[b5.out];exact r5
     have l1:=(hP.sl (a0c.elem _)).nat j g8;have e8:Hid (p[j]<c+1):=hid (p9.out.lt j g8);have l7:Hid (p.getD j 0=p[j]):=hid (by simp[List.getD_eq_getElem?_getD,g8]);have e3:Hid (p[j]∈p):=hid (c1E _);obtain⟨q,hq⟩:∃q,p[j]=q:=⟨_,rfl⟩;rw[hq]at l1 e8 l7 e3;have r8:=hid hq;clear hq;by_cases d1:q=c
     ·have F:((q:Int)==(c:Int))=true:=a6R (by omega)
      have h4:Hid (c∈p):=hid (d1▸e3.out);clear d1;go_wp2_with (with_reducible refine a0v a6a (by omega) (by assumption) ?_)
      go_ret2
      unfold b0W;rw[d7.out];exact⟨hE,.inl ⟨h4.out,rfl⟩⟩
     ·have F:((q:Int)==(c:Int))=false:=a2J (by omega)
      have n3:q<c:=by have:=e8.out;omega
      have m7:Hid (∀k (d:k<p.length),k<j+1->p[k]≠c):=hid fun k d u8=>by
       by_cases h:k=j
       ·subst h;rw[r8.out];exact d1
       ·exact m6.out k d (by omega)
      have c5:j<a3.length:=by rw[g9.out];omega
      have g7:j<R.length:=by rw[f7.out.1];omega
      have h8:=hid (f7.out.2 R[j] (c1E _));obtain⟨a,E,cr,f⟩:∃a E cr,a3[j]=(a,E,cr):=⟨_,_,_,rfl⟩;have H:E=c+1:=by
       have:=D.rlen j c5 g7;rw[f,h8.out]at this;exact this
      have hR:=D.row j c5 g7;simp only[f]at hR;have d3:=fun k (d:ob a k=true)=>D.mz_sub c5 k (by rw[f];exact d);have d2:Hid (un (cut (mz (un (un X oo) po) ao a3) a) a=M):=hid (by rw[a4x d3];exact j2.out);have l3:Hd a E:=by have:=hR.hd;rw[h8.out,<-H]at this;exact this
      have y1:wr.cell? (adr ao j)=some (.slice a E cr):=by
       have:=(D.hdr j c5).1;rw[f]at this;exact this
      have k9:c<R[j].length:=by rw[h8.out];omega
      have q9:Hid (R[j][c]=ent R j c):=hid (by unfold ent;rw[a2L g7];simp[List.getD_eq_getElem?_getD,k9]);have o2:Hid (un (cut M oo) oo=M):=hid (a4x r7.out);have r9:q<(sN R p c j).length:=by rw[b0t];exact n3
      have s1:Hid ((sN R p c j).set q (ent R j c)=sN R p c (j+1)):=hid (by rw[<-l7.out];rfl);have y:=hid H;have t8:c<E:=by omega
      clear f H d1;go_wp2_with (first|(with_reducible refine a0v a6a (by omega) (by assumption) ?_)|(with_reducible refine a0v a0r (by omega) (by assumption) ?_)|(with_reducible refine a1I a0w (by omega) (by assumption) ?_)|((with_reducible show wpList _ _ _ (⟨_,.load 41 _,_,_,_,_⟩::_) _ _);refine a5d a0p c hR k9 rfl (by simp) QC.agg ?_;intro u6 a5;rw[q9.out,d2.out]at a5;obtain⟨s6,a6,n6,c6,d6,k6,e6,rfl⟩:=a5.shape)|((with_reducible show wpList _ _ _ (⟨_,.store 41 _ _,_,_,_,_⟩::_) _ _);refine a3w a3A QC.elem q rfl (by simp) hO r9 _ (ent R j c) rfl (by rw[o2.out];exact a5) ?_;intro w8 j7 a8))
      rw[s1.out]at j7;have p4:=D.ext (X':=un (un X oo) po) a8 (fun k _ d=>a0m (a0u d)) (fun _ _ h=>h);have p6:=hP.frame (a0c.pure _) a8 (fun k d=>by
       cases F:ob oo k
       ·rfl
       ·have:=(n0.out k d).1;have:=(e7.out k F).2;omega) hP.1
      have p3:=hE.then_ a8 fun k d _=>by
       cases F:ob oo k
       ·rfl
       ·have:=(e7.out k F).1;omega
      clear y1 l1;go_roundw
      case rel=>exact⟨j+1,by go_num,by omega,p4,j7,p6,m7,p3⟩
      case measure=>simp[intOf];omega
    ·have r3:j=pl:=by omega
     subst r3;have r6:c∉p:=fun hm=>by
      obtain⟨k,d,r4⟩:=List.getElem_of_mem hm;exact m6.out k d (by rw[<-b5.out];exact d) r4
     have hs:=(hO.sl QC.elem).mono QC.mono (a1h (X:=X) fun k _ d=>a5a (by rw[<-j2.out];exact a2e.2 (.inl (a0m (a0m d)))) (by
      cases F:ob oo k
      ·rfl
      ·have:=m9.out k F;rw[d]at this;simp at this))
     have m3:=hO.lenCap;go_wp2_with fail
     go_ret2
     rw[<-b5.out]at hs m3;unfold b0W;rw[d7.out];exact⟨hE,.inr ⟨r6,.slice oo c c,rfl,oo,c,by show Value.slice oo c c=Value.slice oo (sN R p c p.length).length c;rw[b0t],m3,hs⟩⟩
end Go.Proofs.YtnnpfhoigmegcaaGreat
namespace Go.Lin
noncomputable def fmS(m:Mom):Mat×List Nat:=a0H (a2U m.xx m.xy m.xx.length) (m.xx.length+1)
noncomputable def fmC(m:Mom):List Rat:=b6g (fmS m).1 (fmS m).2 m.xx.length
theorem b7Z(m:Mom):(fmC m).length=m.xx.length:=a9A _ _ _
theorem b1O{m:Mom}(h:a6J m=true):(0<=m.n/\m.n<=1099511627776)/\a0y m.xx=true/\m.xx.length=colsL m.xx/\m.xx.length=m.xy.length/\m.xy.length<=12:=by
 unfold a6J at h;rw[Bool.and_eq_true,Bool.and_eq_true,decide_eq_true_eq,decide_eq_true_eq]at h;exact⟨h.1,h.2.1,h.2.2.1,h.2.2.2.1,h.2.2.2.2⟩
end Go.Lin
namespace Go.Proofs.YtnnpfhoigmegcaaGreat
open Go.RowKit Go.Rep Go.Lim Go.Lin
theorem a5C{P:Program}{w:World}{fn:Func}{a:Array Value}{f c g i:Tmp}{t:TypeId}{n b:Nat}{d:Array Value}{T:TypeId}(h:fn.results=#[.tmp f,.cell c t,.tmp g,.tmp i])(j:a.getD c undef=.pointer (some ⟨b,0,none⟩))(k:a1K P t n)(l:Bx w b d T)(e:d.size=n):(results fn a).run P w=.ok (.tuple #[a.getD f undef,.agg d,a.getD g undef,a.getD i undef]) w:=by
 have m:=a2i (P:=P) k l e;rw[Array.getD_eq_getD_getElem?]at j;simp[results,h,j,asAddr,m]
def b3K(X:Nat->Bool)(w:World)(m:Mom)(e:Ending)(w':World):Prop:=Ext w w'/\∃z u k c,e=.returned (.tuple #[z,u,.int .i64 k,.int .i64 c])/\
 ((a6J m=false/\c=4/\k=0/\RC (mk X w') z []/\QC (mk X w') u 0)\/(a6J m=true/\m.xx.length∈(fmS m).2/\c=11/\k=0/\RC (mk X w') z []/\QC (mk X w') u 0)\/(a6J m=true/\m.xx.length∉(fmS m).2/\c=0/\k=(a8w m.xx m.xx.length:Int)/\RC (mk X w') z (fmC m)/\QC (mk X w') u (m.yy - a2u (fmC m) m.xy)))
theorem b3L(X:Nat->Bool)(w:World)(u:Value)(m:Mom)(hX:HX X w)(hu:b7O (mk X w) u m)(hl:m.xx.length<=4)(hB:BMo 6541 m):Calls Tryz.prog 175 #[u] w (b3K X w m):=by
 have I:=hid fun w' (h:Ext w w')=>a9T X w' u m (hX.ext h) (mkx b7O.mono hu h) (by omega);obtain⟨xo,xl,xc,yo,yl,yc,s,a,n,c,d,k,e,rfl,hx,hy,c1⟩:=hu;obtain⟨W,hW,K,y,b1,hz⟩:=a1w w #[.int .i64 m.n,.slice xo xl xc,.slice yo yl yc,.bool s,.slice a n c,.slice d k e] #[.bool false,.slice none 0 0,.slice none 0 0] 181 41;have M:HX (a0f X w.heap.size 2) W:=hX.boxes hz;have U:Hid (∀w',Ext W w'->Le (mk X w) (mk (a0f X w.heap.size 2) w')):=hid fun w' h=>a0j (K.trans h);obtain⟨b,hb⟩:∃b,w.heap.size=b:=⟨_,rfl⟩;have e8:w.heap.size<=b:=by omega
 rw[hb]at y b1 hz M U;obtain⟨N,hN⟩:∃N,m.n=N:=⟨_,rfl⟩;rw[hN]at y hW I |-;have k0:=y.cell 0 rfl;have k1:=y.cell 1 rfl;have k2:=y.cell 2 rfl;have k3:=y.cell 3 rfl;have k4:=y.cell 4 rfl;have k5:=y.cell 5 rfl;have h0:QC (mk X W) (.agg #[.bool false,.slice none 0 0,.slice none 0 0]) 0:=QC.zero _;cases t:a6J m
 ·have A:=I.out W K
  rw[t]at A;have b8:=hid t;clear I t hN;go_enter Tryz.func175,Tryz.ntmps175
  go_wp2_with fail
  refine A.mono ?_;rintro ee w1 ⟨p,rfl⟩;have a5:=b1.ext0 p;clear A k0 k1 k2 k3 k4 k5;go_wp2_with ((with_reducible show wpList _ _ _ (⟨_,.store 41 _ _,_,_,_,_⟩::_) _ _);refine a0a a0p rfl rfl a5 rfl rfl (a1z _ _ _ _ _ _ _) ?_;intro w7 r1 r2)
  have a1:Ext w w7:=ExtX.box (K.trans p) r2 (by omega);exact bodyPost_ret (a5C rfl rfl a0p r1 rfl) rfl ⟨a1,_,_,_,_,rfl,.inl ⟨b8.out,rfl,rfl,SlV.zero _ _ _,QC.zero _⟩⟩
 ·obtain⟨_,hf,J,c7,_⟩:=b1O t
  obtain⟨B1,B2,B3⟩:=hB;obtain⟨E,_,_,_,_⟩:=a0x hf;rw[<-J]at E;have T:=a5e B1 (by decide);have b4:=(a3q (a2s (b:=m.xy) E) (b0L E T B2) hl (by decide)).1;have b3:=(a3q E T hl (by decide)).1.e;have O:BR 8500000 (fmC m):=fun q hq=>c1A (b3n E T B2 hl q hq) (by decide);have P:=b7Z m;have Q:=a1A (l:=fmC m) (m:=m.xy) O (fun q hq=>c1A (B2 q hq) (by decide)) (by decide) (by omega) (by decide);have b7:Hid (hq (a2u (fmC m) m.xy)<=68719476736):=hid (Q.1 _ (c1B _));have i:=hid fun w' (h:Ext W w') (u v:Value) (L:MV (mk (a0f X b 2) w') u m.xx) (h2:RV (mk (a0f X b 2) w') v m.xy)=>b5D (a0f X b 2) w' u v m.xx m.xy m.xx.length m.xx.length (M.ext h) L h2 hf rfl J.symm c7.symm b4;have V:=hid fun w' (h:Ext W w') (u:Value) (L:MV (mk (a0f X b 2) w') u m.xx)=>b7N (a0f X b 2) w' u m.xx (M.ext h) L hf (by rw[<-J];exact b3);have R:=hid fun w' (u v:Value) (d7:HX (a0f X b 2) w') (L:RV (mk (a0f X b 2) w') u (fmC m)) (h2:RV (mk (a0f X b 2) w') v m.xy)=>a6j (a0f X b 2) w' u v (fmC m) m.xy d7 L h2 (by omega) (by omega) Q.1 Q.2;have c5:=hid fun w' (h:Ext W w')=>MV.mono _ _ _ _ (U.out w' h) hx;have c8:=hid fun w' (h:Ext W w')=>RV.mono _ _ _ _ (U.out w' h) hy;have e4:=hid fun w' (h:Ext W w')=>QV.mono _ _ _ _ (U.out w' h) c1;have B:Hid (m.xx.length∈(fmS m).2->∀(w':World) z u,Ext w w'->RC (mk X w') z []->QC (mk X w') u 0->b3K X w m (.returned (.tuple #[z,u,.int .i64 0,.int .i64 11])) w'):=hid fun L w' z u K hz hu=>⟨K,z,u,_,_,rfl,.inr (.inl ⟨t,L,rfl,rfl,hz,hu⟩)⟩;have g:Hid (m.xx.length∉(fmS m).2->∀(w':World) z u,Ext w w'->RC (mk X w') z (fmC m)->QC (mk X w') u (m.yy - a2u (fmC m) m.xy)->b3K X w m (.returned (.tuple #[z,u,.int .i64 (a8w m.xx m.xx.length:Int),.int .i64 0])) w'):=hid fun L w' z u K hz hu=>⟨K,z,u,_,_,rfl,.inr (.inr ⟨t,L,rfl,rfl,hz,hu⟩)⟩;have A:=I.out W K;rw[t]at A;rw[<-J]at V;unfold b0W at i;obtain⟨D,hD⟩:∃D,a2u (fmC m) m.xy=D:=⟨_,rfl⟩;rw[hD]at b7 R g;obtain⟨F,hF⟩:∃F,b3K X w m=F:=⟨_,rfl⟩;rw[hF]at B g |-;obtain⟨rk,Y⟩:∃rk,a8w m.xx m.xx.length=rk:=⟨_,rfl⟩;rw[Y]at V g;have b2:a0H (a2U m.xx m.xy m.xx.length) (m.xx.length+1)=fmS m:=rfl;rw[b2]at i;have a7:b6g (fmS m).1 (fmS m).2 m.xx.length=fmC m:=rfl;rw[a7]at i;obtain⟨C,hC⟩:∃C,fmC m=C:=⟨_,rfl⟩;rw[hC]at i R g P O;obtain⟨S,a9⟩:∃S,fmS m=S:=⟨_,rfl⟩;rw[a9]at i B g;obtain⟨q,c0⟩:∃q,m.xx.length=q:=⟨_,rfl⟩;rw[c0]at i B g P;have d1:Hid (BR 68719476736 C):=hid fun x hx=>c1A (O x hx) (by decide);have d2:=hid P;clear I t hN hf J c7 E T b4 b3 O Q hx hy c1 hD hF Y b2 a7 hC a9 c0 B1 B2 B3 hl P;go_enter Tryz.func175,Tryz.ntmps175
  go_wp2_with fail
  refine A.mono ?_;rintro ee w1 ⟨p,rfl⟩;have a4:=y.ext0 p;have a5:=b1.ext0 p;have j1:=a4.cell 1 rfl;have j2:=a4.cell 2 rfl;have a3:=i.out w1 p _ _ (c5.out w1 p) (c8.out w1 p);clear A k0 k1 k2 k3 k4 k5 i;go_wp2_with fail
  refine a3.mono ?_;rintro ee w2 ⟨d3,e1⟩;have o:=p.trans d3;rcases e1 with⟨r,rfl⟩|⟨r,cv,rfl,b6⟩
  ·have d0:=b1.ext0 o
   have H:=hid (B.out r);clear a3 r j1 j2 B g;go_wp2_with ((with_reducible show wpList _ _ _ (⟨_,.store 41 _ _,_,_,_,_⟩::_) _ _);refine a0a a0p rfl rfl d0 rfl rfl (a1z _ _ _ _ _ _ _) ?_;intro w7 r1 r2)
   have a1:Ext w w7:=ExtX.box (K.trans o) r2 (by omega);exact bodyPost_ret (a5C rfl rfl a0p r1 rfl) rfl (H.out w7 _ _ a1 (SlV.zero _ _ _) (QC.zero _))
  ·have H:=hid (g.out r)
   have c9:=y.ext0 o;have i1:=c9.cell 1 rfl;have c2:=V.out w2 o _ (c5.out w2 o);have G:=hid b6;obtain⟨co,cc,rfl,_,_⟩:=b6;rw[d2.out]at G |-;clear a3 r j1 j2 B g V;go_wp2_with fail
   refine c2.mono ?_;rintro ee w3 ⟨a0,rfl⟩;have a8:=o.trans a0;have a2:Ext w3 w3.drew:=(ExtX.refl _).drew;have f:=a8.trans a2;have hS:Hid (∀w',Ext w3.drew w'->w'.cell? ⟨b,3,none⟩=some (.bool s)/\w'.cell? ⟨b,3+1,none⟩=some (.slice a n c)/\w'.cell? ⟨b,3+2,none⟩=some (.slice d k e)/\w'.cell? ⟨b,2,none⟩=some (.slice yo yl yc)):=hid fun w' h=>by
    have b9:=y.ext0 (f.trans h);exact⟨b9.cell 3 rfl,b9.cell 4 rfl,b9.cell 5 rfl,b9.cell 2 rfl⟩
   obtain⟨g0,g1,g2,g3⟩:=hS.out _ (ExtX.refl _);have b5:HX (a0f X b 2) w3.drew:=M.ext f;have e0:=R.out w3.drew _ _ b5 ((mkx RC.mono G.out (a0.trans a2)).rv d1.out) (c8.out _ f);have e3:=e4.out w3.drew f;clear c2 i1 R;go_wp2_with fail
   go_region_held3 (fun w'=>w'.cell? ⟨b,3,none⟩=some (.bool s)/\w'.cell? ⟨b,3+1,none⟩=some (.slice a n c)/\w'.cell? ⟨b,3+2,none⟩=some (.slice d k e)/\w'.cell? ⟨b,2,none⟩=some (.slice yo yl yc))
    (first|exact hS.out _ t1|exact hS.out _ Z|exact⟨((y.ext0 (f.trans Z)).ext (j.set3 _ _ _).2 (a0b (by omega))).cell 3 rfl,((y.ext0 (f.trans Z)).ext (j.set3 _ _ _).2 (a0b (by omega))).cell 4 rfl,((y.ext0 (f.trans Z)).ext (j.set3 _ _ _).2 (a0b (by omega))).cell 5 rfl,((y.ext0 (f.trans Z)).ext (j.set3 _ _ _).2 (a0b (by omega))).cell 2 rfl⟩|go_keep)
    (first|(go_at_call 177;(with_reducible refine e0.mono ?_);rintro ee w5 ⟨t1,u5,rfl,e7⟩;have d8:=HX.ext b5 t1;have e2:=mkx QV.mono e3 t1;have c3:=e7.qv b7.out)|(go_at_call 153;(with_reducible refine(b4Q (a0f X b 2) w5 _ _ _ _ d8 e2 c3).mono ?_);rintro ee w6 ⟨d4,u6,rfl,c4⟩;have Z:=t1.trans d4;obtain⟨s6,a6,n6,c6,d6,k6,e6,rfl⟩:=c4.shape;have j:=b1.ext0 (f.trans Z);have f0:=j.cell 0 rfl;have f1:=j.cell 1 rfl;have f2:=j.cell 2 rfl;have f3:=j.frozen 0;have f4:=j.frozen 1;have f5:=j.frozen 2))
   all_goals
    obtain⟨r1,r2⟩:=j.set3 (.bool s6) (.slice a6 n6 c6) (.slice d6 k6 e6);have h7:=QC.mono _ _ _ _ a0k (QC.mono _ _ _ _ (a0h r2 (by omega) (by omega)) c4);have d9:=RC.mono _ _ _ _ a0k (RC.mono _ _ _ _ (a0h r2 (by omega) (by omega)) (mkx RC.mono G.out (a0.trans (a2.trans Z))));have d5:Ext w _:=ExtX.box (K.trans (f.trans Z)) r2 (by omega);clear g0 g1 g2 g3 f0 f1 f2 f3 f4 f5 hS;go_wp2_with fail
    exact bodyPost_ret (a5C rfl rfl a0p r1 rfl) rfl (H.out _ _ _ d5 d9 h7)
theorem a5m(X:Nat->Bool)(w:World)(u v:Value)(l m:List Rat)(hX:HX X w)(hu:RV (mk X w) u l)(hv:RV (mk X w) v m)(hn:l.length<=1000000)(r:m.length=l.length)(C:∀k,k<=l.length->hq (a2W l m k)<=68719476736)(E:∀k,k<l.length->hq (l.getD k 0*m.getD k 0)<=68719476736):Calls Tryz.prog 161 #[u,v] w (a1S X w QC (a2u l m)):=by
 obtain⟨ao,ca,rfl,c9,b2⟩:=hu;obtain⟨bo,cb,rfl,d0,b3⟩:=hv;have Z:=b2.hd;have a0:=b3.hd;obtain⟨W,hW,hE,I,g,hz⟩:=a1w w #[.bool false,.slice none 0 0,.slice none 0 0] #[.bool false,.slice none 0 0,.slice none 0 0] 41 41;have B:HX (a0f X w.heap.size 2) W:=hX.boxes hz;have h0:QC (mk (a0f X w.heap.size 2) W) (.agg #[.bool false,.slice none 0 0,.slice none 0 0]) (a2W l m 0):=QC.zero _;obtain⟨n,q⟩:∃n,l.length=n:=⟨_,rfl⟩;rw[q]at hn r C E c9 Z |-;rw[r]at d0 a0 |-;have a4:=hid q;have a5:=hid r;have P:=hid C;have Q:=hid E;have U:Hid (a2W l m n=a2u l m):=hid (by unfold a2u;rw[q]);clear q r C E;go_enter Tryz.func161,Tryz.ntmps161
 go_wp2_with ((with_reducible show wpList _ _ _ (⟨_,.store _ _ _,_,_,_,_⟩::_) _ _);refine a0a a0p rfl rfl g rfl rfl (a1z _ _ _ _ _ _ _) ?_;intro W2 g J)
 obtain⟨b,hb⟩:∃b,w.heap.size=b:=⟨_,rfl⟩;have a3:Hid (∀wr,Ext w wr->Le (mk X w) (mk (a0f X b 2) wr)):=hid fun wr h=>by rw[<-hb];exact a0j h
 have f8:w.heap.size<=b:=by omega
 have c3:Ext w W2:=ExtX.box hE J (by omega);have K:=I.ext J (a0b (by omega));have z:=B.ext J;have L:QC (mk (a0f X w.heap.size 2) W2) (.agg #[.bool false,.slice none 0 0,.slice none 0 0]) (a2W l m 0):=QC.zero _;rw[hb]at K g z L;rw[hb]at I B h0 |-;clear hW I B h0 hE;go_loopw [6] (fun k wr=>∃(i:Nat) (s:Bool) (a:Option Addr) (n' c':Nat) (d:Option Addr) (kk e:Nat),k=.int .i64 i/\i<=n/\Bx wr b #[.bool false,.slice none 0 0,.slice none 0 0] 41/\Bx wr (b+1) #[.bool s,.slice a n' c',.slice d kk e] 41/\QC (mk (a0f X b 2) wr) (.agg #[.bool s,.slice a n' c',.slice d kk e]) (a2W l m i)/\HX (a0f X b 2) wr/\Ext w wr) (fun k _=>n - (intOf k).toNat)
 case atStart=>exact⟨0,_,_,_,_,_,_,_,rfl,Nat.zero_le _,K,g,L,z,c3⟩
 case round=>
  obtain⟨i,s,a,n',c',d,kk,e,rfl,hi,I,g,hq,c8,p⟩:=hrel;by_cases G:i<n
  ·have a1:i<l.length:=by rw[a4.out];exact G
   have a2:i<m.length:=by rw[a5.out];exact G
   have d9:=b2.mono QV.mono (a3.out wr p);have b4:=b3.mono QV.mono (a3.out wr p);obtain⟨g1,o1,s1,p1,n1,q1,d1,k1,e1,V,f6,S,a8⟩:=d9.rat QV.shaped i a1;obtain⟨g2,o2,s2,p2,n2,q2,d2,k2,e2,Y,f7,T,a9⟩:=b4.rat QV.shaped i a2;have gl:Hid (l.getD i 0=l[i]):=hid (by simp[List.getD_eq_getElem?_getD,a1]);have gm:Hid (m.getD i 0=m[i]):=hid (by simp[List.getD_eq_getElem?_getD,a2]);have t:Hid (a2W l m i+l[i]*m[i]=a2W l m (i+1)):=hid (by rw[<-gl.out,<-gm.out];rfl);have R:=hid (P.out i hi);have F:=hid (Q.out i G);rw[gl.out,gm.out]at F;obtain⟨x,hx⟩:∃x,l[i]=x:=⟨_,rfl⟩;obtain⟨y,hy⟩:∃y,m[i]=y:=⟨_,rfl⟩;rw[hx,hy]at t F;rw[hx]at a8;rw[hy]at a9;have i1:∀W,(Instr.indexAt 26 (.slice ao n ca) (.int .i64 (i:Int))).run Tryz.prog W=.ok (.pointer (some ⟨g1,o1,none⟩)) W:=by rw[<-V];exact a0d a0w ao n ca .i64 i Z (by omega)
   have i2:∀W,(Instr.indexAt 26 (.slice bo n cb) (.int .i64 (i:Int))).run Tryz.prog W=.ok (.pointer (some ⟨g2,o2,none⟩)) W:=by rw[<-Y];exact a0d a0w bo n cb .i64 i a0 (by omega)
   obtain⟨D,hD⟩:∃D,a2W l m i=D:=⟨_,rfl⟩;obtain⟨D2,A⟩:∃D2,a2W l m (i+1)=D2:=⟨_,rfl⟩;rw[hD]at hq t R;rw[A]at t;have M:=hid A;clear hx hy V Y hD A;have c:Ext wr wr.drew:=(ExtX.refl wr).drew;have b9:=I.ext0 c;have j:=g.ext0 c;have b6:=j.cell 0 rfl;have b7:=j.cell 1 rfl;have b8:=j.cell 2 rfl;obtain⟨e4,e8,e9⟩:=S.out noY wr.drew c rfl;obtain⟨f3,f4,f5⟩:=T.out noY wr.drew c rfl;have O:=c8.ext c;have e0:QV (mk (a0f X b 2) wr.drew) (.agg #[.bool s1,.slice p1 n1 q1,.slice d1 k1 e1]) x:=mkx QV.mono a8 c;have e3:QV (mk (a0f X b 2) wr.drew) (.agg #[.bool s2,.slice p2 n2 q2,.slice d2 k2 e2]) y:=mkx QV.mono a9 c;have d5:QV (mk (a0f X b 2) wr.drew) (.agg #[.bool s,.slice a n' c',.slice d kk e]) D:=(mkx QC.mono hq c).qv R.out;clear S T;go_wp2_with fail
   go_region_with (first|(go_at_call 49;(with_reducible refine(a9x (a0f X b 2) wr.drew _ _ _ _ O e0 e3).mono ?_);rintro ee w6 ⟨t1,u6,rfl,b5⟩;obtain⟨s6,a6,n6,c6,d6,k6,e6,rfl⟩:=b5.shape;have N:=O.ext t1;have d8:=mkx QV.mono d5 t1;have d4:=b5.qv F.out;have o:=j.ext0 t1;have m0:=o.cell 0 rfl;have m1:=o.cell 1 rfl;have m2:=o.cell 2 rfl)|(go_at_call 48;(with_reducible refine(b2T (a0f X b 2) w6 _ _ _ _ N d8 d4).mono ?_);rintro ee w7 ⟨t7,u7,rfl,H⟩;obtain⟨s7,a7,n7,c7,d7,k7,e7,rfl⟩:=H.shape;rw[t.out]at H;have f:=o.ext0 t7;have g0:=f.cell 0 rfl;have c1:=f.cell 1 rfl;have c2:=f.cell 2 rfl;have f0:=f.frozen 0;have f1:=f.frozen 1;have f2:=f.frozen 2))
   all_goals
    obtain⟨z1,z2⟩:=f.set3 (.bool s7) (.slice a7 n7 c7) (.slice d7 k7 e7);have h8:=QC.mono _ _ _ _ (a0h (lo:=b) (nb:=2) z2 (by omega) (by omega)) H;have c0:=((b9.ext0 t1).ext0 t7).ext z2 (a0b (by omega));have c4:Ext w _:=ExtX.box (p.trans (c.trans (t1.trans t7))) z2 (by omega);have c5:=(N.ext t7).ext z2;rw[<-M.out]at h8;clear b6 b7 b8 e4 e8 e9 f3 f4 f5 m0 m1 m2 g0 c1 c2 f0 f1 f2 i1 i2;go_wp2_with fail
    go_roundw
    case rel=>exact⟨i+1,_,_,_,_,_,_,_,by go_num,by omega,c0,z1,h8,c5,c4⟩
    case measure=>simp[intOf];omega
  ·have d3:i=n:=by omega
   subst d3;rw[U.out]at hq;have b6:=g.cell 0 rfl;have b7:=g.cell 1 rfl;have b8:=g.cell 2 rfl;go_wp2_with ((with_reducible show wpList _ _ _ (⟨_,.store _ _ _,_,_,_,_⟩::_) _ _);refine a0a a0p rfl rfl I rfl rfl (a1z _ _ _ _ _ _ _) ?_;intro w7 r1 J)
   have h7:=QC.mono _ _ _ _ a0k (QC.mono _ _ _ _ (a0h J (by omega) (by omega)) hq);exact bodyPost_ret (a0e rfl rfl a0p r1 rfl) rfl ⟨ExtX.box p J (by omega),_,rfl,h7⟩
theorem b5E(X:Nat->Bool)(w:World)(u v t:Value)(x:Mat)(y b:List Rat)(n c B:Nat)(hX:HX X w)(hu:MV (mk X w) u x)(hv:RV (mk X w) v y)(ht:RV (mk X w) t b)(d:Shp n c x)(hy:y.length=n)(hb:b.length=c)(hn:n<=96)(hc:c<=96)(b6:BM B x)(hbB:BR B b)(c5:1<=B)(c7:200*B<=68000000000):Calls Tryz.prog 176 #[u,v,t] w (a1S X w RC (a3i x y b)):=by
 obtain⟨L,hL⟩:∃L,a3i x y b=L:=⟨_,rfl⟩;have F:Hid (L.length=n):=hid (by rw[<-hL,a4l (by rw[hy,d.1]),d.1]);have c9:Hid (∀i (h1:i<x.length) (h2:i<y.length) (h:i<L.length),L[i]=y[i] - a2u x[i] b):=hid fun i h1 h2 h=>by subst hL;exact a5g h h1 h2
 have f9:L.length<=n:=by rw[F.out];exact c1B _
 have g1:n<=L.length:=by rw[F.out];exact c1B _
 obtain⟨J,uc,rfl,e9,b4⟩:=hu;obtain⟨va,vc,rfl,f0,b5⟩:=hv;have Z:=b4.hd;have a0:=b5.hd;have f1:=hid d.1;have f2:=hid hy;have d8:=hid hb;have e4:=hid d.2;have b7:=hid b6;have R:=hid hbB;rw[d.1]at Z e9 |-;rw[hy]at a0 f0 |-;rw[hL];clear hL d hy hb b6 hbB;go_enter Tryz.func176,Tryz.ntmps176
 go_wp2_with fail
 go_loopw [7,12] (fun o k wr=>∃(i:Nat) (oo:Option Addr) (co:Nat),k=.int .i64 i/\o=.slice oo i co/\i<=n/\OL QC 3 X w.heap.size 41 wr oo co (L.take i)/\Ext w wr) (fun _ k _=>n - (intOf k).toNat)
 case atStart=>exact⟨0,none,0,rfl,rfl,Nat.zero_le _,OL.nil _ _ _ _ _ _,ExtX.refl _⟩
 case round=>
  obtain⟨i,oo,co,rfl,rfl,hi,A,E⟩:=hrel;have P:HX X wr:=hX.ext E;have Q:HX (un X oo) wr:=A.unX P;have d7:=E.size;by_cases a7:i<n
  ·have a4:i<x.length:=by rw[f1.out];exact a7
   have a5:i<y.length:=by rw[f2.out];exact a7
   have a3:i<L.length:=by omega
   have a:Ext wr wr.drew:=(ExtX.refl wr).drew;have e7:Sl RV 1 (mk (un X oo) wr) J x:=b4.old RV.mono E (fun j hj=>A.ob_lt hj);have f3:Sl QV 3 (mk (un X oo) wr) va y:=b5.old QV.mono E (fun j hj=>A.ob_lt hj);have d9:RV (mk (un X oo) wr) t b:=a2B RV.mono ht E (fun j hj=>A.ob_lt hj);have b2:=hid (a0L L i a3);have e3:=hid (a0Q (l:=L) (i:=i) (by omega));obtain⟨a1,c1,d0,q,C,b0⟩:=e7.row i a4;obtain⟨s,H,s2,a2,n2,c2,d2,k2,e2,V,d1,S,b1⟩:=f3.rat QV.shaped i a5;have a8:=(a0P d0).2;have a9:=(a0P d1).2;have g:=e4.out x[i] (c1E _);have r:=a1A (b7.out x[i] (c1E _)) R.out c5 (by rw[g];exact hc) c7;have T:Hid (hq (a2u x[i] b)<=68719476736):=hid (r.1 _ (c1B _));have e:=a6j (un X oo) wr.drew (.slice a1 x[i].length c1) t x[i] b (Q.ext a) (mkx RV.mono ⟨a1,c1,rfl,C,b0⟩ a) (mkx RV.mono d9 a) (by rw[g];omega) (by rw[g,d8.out]) r.1 r.2;have f:=c9.out i a4 a5 a3;have b8:=mkx QV.mono b1 a;obtain⟨D,hD⟩:∃D,a2u x[i] b=D:=⟨_,rfl⟩;obtain⟨yi,c0⟩:∃yi,y[i]=yi:=⟨_,rfl⟩;obtain⟨z,hz⟩:∃z,L[i]=z:=⟨_,rfl⟩;rw[hD]at T e f;rw[c0]at b8 f;rw[hz]at f b2;rw[g]at q e;have U:=hid f;have d5:HX (un X oo) wr.drew:=Q;have i2:∀W,(Instr.indexAt 26 (.slice va n vc) (.int .i64 (i:Int))).run Tryz.prog W=.ok (.pointer (some ⟨s,H,none⟩)) W:=by rw[<-V];exact a0d a0w va n vc .i64 i a0 (by omega)
   have i1:∀W,(Instr.indexAt 25 (.slice J n uc) (.int .i64 (i:Int))).run Tryz.prog W=.ok (.pointer (some (adr J i))) W:=a0z a0r J n uc .i64 i Z (by omega) rfl;have O:Hid (∀Y W',ExtX Y wr.drew W'->Y s=false->Y (adr J i).block=false->W'.cell? ⟨s,H,none⟩=some (.bool s2)/\W'.cell? ⟨s,H+1,none⟩=some (.slice a2 n2 c2)/\W'.cell? ⟨s,H+2,none⟩=some (.slice d2 k2 e2)/\W'.cell? (adr J i)=some (.slice a1 c c1)):=hid fun Y W' h hg e0=>by
    have p2:=S.out Y W' ((ExtX.of a).trans h) hg;exact⟨p2.1,p2.2.1,p2.2.2,q.out Y W' ((ExtX.of a).trans h) e0⟩
   obtain⟨f4,f5,f6,f7⟩:=O.out noY wr.drew (ExtX.refl _) rfl rfl;have c3:=q.out noY wr (ExtX.refl _) rfl;clear q S V b0 b1 g C r f hD c0 hz;go_wp2_with fail
   go_region_held3 (fun w'=>w'.cell? ⟨s,H,none⟩=some (.bool s2)/\w'.cell? ⟨s,H+1,none⟩=some (.slice a2 n2 c2)/\w'.cell? ⟨s,H+2,none⟩=some (.slice d2 k2 e2))
    (first|exact(let p:=O.out noY _ m rfl rfl;⟨p.1,p.2.1,p.2.2.1⟩)|exact(let p:=O.out noY _ (m.trans I) rfl rfl;⟨p.1,p.2.1,p.2.2.1⟩)|exact(let p:=O.out noY _ (ExtX.alloc (m.trans I) _) rfl rfl;⟨p.1,p.2.1,p.2.2.1⟩)|exact(let p:=O.out (ob oo) _ ((ExtX.of (m.trans I)).trans K) a9 a8;⟨p.1,p.2.1,p.2.2.1⟩)|go_keep)
    (first|(go_at_call 177;(with_reducible refine e.mono ?_);rintro ee w6 ⟨m,u6,rfl,e8⟩;have b3:=e8.qv T.out;have b9:=mkx QV.mono b8 m;have d3:=d5.ext m)|(go_at_call 153;(with_reducible refine(b4Q (un X oo) w6 _ _ _ _ d3 b9 b3).mono ?_);rintro ee w8 ⟨I,u7,rfl,G⟩;obtain⟨s6,a6,n6,c6,d6,k6,e6,rfl⟩:=G.shape;rw[<-U.out]at G;have M:=A.ext0 QC.elem (a.trans (m.trans I));have g0:=(a.trans (m.trans I)).size;have d4:=P.ext (a.trans (m.trans I)))|(refine a1o (l:=L.take i) rfl (by rfl) a0w rfl QC.elem (by omega) d4 i e3.out rfl rfl M (.agg #[.bool s6,.slice a6 n6 c6,.slice d6 k6 e6]) z rfl G (by omega) (by omega) ?_;intro f8 c4 w7 N K g3))
   have c8:=(E.trans (a.trans (m.trans I))).own M (c1B _) K;rw[b2.out]at N;clear f4 f5 f6 f7 c3 i1 i2;go_wp2_with fail
   go_roundw
   case rel=>exact⟨i+1,f8,c4,by go_num,by go_num,by omega,N,c8⟩
   case measure=>simp[intOf];omega
  ·have e1:i=n:=by omega
   subst e1;rw[c1D (by omega)]at A;have hc:=A.lenCap;have hs:=A.sl QC.elem;go_wp2_with fail
   go_ret
   exact⟨E,_,rfl,oo,co,by rw[F.out];rfl,hc,hs⟩
theorem b5F(X:Nat->Bool)(w:World)(u v t:Value)(x:Mat)(y b:List Rat)(n c B:Nat)(hX:HX X w)(hu:MV (mk X w) u x)(hv:RV (mk X w) v y)(ht:RV (mk X w) t b)(d:Shp n c x)(hy:y.length=n)(hb:b.length=c)(hn:n<=96)(hc:c<=96)(b5:BM B x)(hbB:BR B b)(c4:1<=B)(c5:200*B<=68000000000):Calls Tryz.prog 162 #[u,v,t] w (a1S X w RC (a3i x y b)):=by
 obtain⟨L,hL⟩:∃L,a3i x y b=L:=⟨_,rfl⟩;have E:Hid (L.length=n):=hid (by rw[<-hL,a4l (by rw[hy,d.1]),d.1]);have c8:Hid (∀i (h1:i<x.length) (h2:i<y.length) (h:i<L.length),L[i]=y[i] - a2u x[i] b):=hid fun i h1 h2 h=>by subst hL;exact a5g h h1 h2
 have f8:L.length<=n:=by rw[E.out];exact c1B _
 have g0:n<=L.length:=by rw[E.out];exact c1B _
 obtain⟨I,uc,rfl,e8,b3⟩:=hu;obtain⟨va,vc,rfl,e9,b4⟩:=hv;have V:=b3.hd;have Z:=b4.hd;have f0:=hid d.1;have f1:=hid hy;have d7:=hid hb;have e3:=hid d.2;have b6:=hid b5;have Q:=hid hbB;rw[d.1]at V e8 |-;rw[hy]at Z e9 |-;rw[hL];clear hL d hy hb b5 hbB;go_enter Tryz.func162,Tryz.ntmps162
 go_wp2_with fail
 go_loopw [7,8] (fun o k wr=>∃(i:Nat) (oo:Option Addr) (co:Nat),k=.int .i64 i/\o=.slice oo i co/\i<=n/\OL QC 3 X w.heap.size 41 wr oo co (L.take i)/\Ext w wr) (fun _ k _=>n - (intOf k).toNat)
 case atStart=>exact⟨0,none,0,rfl,rfl,Nat.zero_le _,OL.nil _ _ _ _ _ _,ExtX.refl _⟩
 case round=>
  obtain⟨i,oo,co,rfl,rfl,hi,s,C⟩:=hrel;have O:HX X wr:=hX.ext C;have P:HX (un X oo) wr:=s.unX O;have d5:=C.size;by_cases a5:i<n
  ·have a3:i<x.length:=by rw[f0.out];exact a5
   have a4:i<y.length:=by rw[f1.out];exact a5
   have a0:i<L.length:=by omega
   have a:Ext wr wr.drew:=(ExtX.refl wr).drew;have e4:Sl RV 1 (mk (un X oo) wr) I x:=b3.old RV.mono C (fun j hj=>s.ob_lt hj);have f2:Sl QV 3 (mk (un X oo) wr) va y:=b4.old QV.mono C (fun j hj=>s.ob_lt hj);have d8:RV (mk (un X oo) wr) t b:=a2B RV.mono ht C (fun j hj=>s.ob_lt hj);have b1:=hid (a0L L i a0);have e1:=hid (a0Q (l:=L) (i:=i) (by omega));obtain⟨a1,c1,c9,p,A,a9⟩:=e4.row i a3;obtain⟨r,G,s2,a2,n2,c2,d2,k2,e2,U,d0,R,b0⟩:=f2.rat QV.shaped i a4;have a7:=(a0P c9).2;have a8:=(a0P d0).2;have g:=e3.out x[i] (c1E _);have q:=a1A (b6.out x[i] (c1E _)) Q.out c4 (by rw[g];exact hc) c5;have S:Hid (hq (a2u x[i] b)<=68719476736):=hid (q.1 _ (c1B _));have e:=a5m (un X oo) wr.drew (.slice a1 x[i].length c1) t x[i] b (P.ext a) (mkx RV.mono ⟨a1,c1,rfl,A,a9⟩ a) (mkx RV.mono d8 a) (by rw[g];omega) (by rw[g,d7.out]) q.1 q.2;have f:=c8.out i a3 a4 a0;have b7:=mkx QV.mono b0 a;obtain⟨D,hD⟩:∃D,a2u x[i] b=D:=⟨_,rfl⟩;obtain⟨yi,b9⟩:∃yi,y[i]=yi:=⟨_,rfl⟩;obtain⟨z,hz⟩:∃z,L[i]=z:=⟨_,rfl⟩;rw[hD]at S e f;rw[b9]at b7 f;rw[hz]at f b1;rw[g]at p e;have T:=hid f;have d4:HX (un X oo) wr.drew:=P;have i2:∀W,(Instr.indexAt 26 (.slice va n vc) (.int .i64 (i:Int))).run Tryz.prog W=.ok (.pointer (some ⟨r,G,none⟩)) W:=by rw[<-U];exact a0d a0w va n vc .i64 i Z (by omega)
   have i1:∀W,(Instr.indexAt 25 (.slice I n uc) (.int .i64 (i:Int))).run Tryz.prog W=.ok (.pointer (some (adr I i))) W:=a0z a0r I n uc .i64 i V (by omega) rfl;have N:Hid (∀Y W',ExtX Y wr.drew W'->Y r=false->Y (adr I i).block=false->W'.cell? ⟨r,G,none⟩=some (.bool s2)/\W'.cell? ⟨r,G+1,none⟩=some (.slice a2 n2 c2)/\W'.cell? ⟨r,G+2,none⟩=some (.slice d2 k2 e2)/\W'.cell? (adr I i)=some (.slice a1 c c1)):=hid fun Y W' h hg d9=>by
    have p2:=R.out Y W' ((ExtX.of a).trans h) hg;exact⟨p2.1,p2.2.1,p2.2.2,p.out Y W' ((ExtX.of a).trans h) d9⟩
   obtain⟨f3,f4,f5,f6⟩:=N.out noY wr.drew (ExtX.refl _) rfl rfl;have c0:=p.out noY wr (ExtX.refl _) rfl;clear p R U a9 b0 g A q f hD b9 hz;go_wp2_with fail
   go_region_held3 (fun w'=>w'.cell? ⟨r,G,none⟩=some (.bool s2)/\w'.cell? ⟨r,G+1,none⟩=some (.slice a2 n2 c2)/\w'.cell? ⟨r,G+2,none⟩=some (.slice d2 k2 e2)/\w'.cell? (adr I i)=some (.slice a1 c c1))
    (first|exact N.out noY _ m rfl rfl|exact N.out noY _ (m.trans H) rfl rfl|exact N.out noY _ (ExtX.alloc (m.trans H) _) rfl rfl|exact N.out (ob oo) _ ((ExtX.of (m.trans H)).trans J) a8 a7|go_keep)
    (first|(go_at_call 161;(with_reducible refine e.mono ?_);rintro ee w6 ⟨m,u6,rfl,e7⟩;have b2:=e7.qv S.out;have b8:=mkx QV.mono b7 m;have d1:=d4.ext m)|(go_at_call 116;(with_reducible refine(b7B (un X oo) w6 _ _ _ _ d1 b8 b2).mono ?_);rintro ee w8 ⟨H,u7,rfl,F⟩;obtain⟨s6,a6,n6,c6,d6,k6,e6,rfl⟩:=F.shape;rw[<-T.out]at F;have K:=s.ext0 QC.elem (a.trans (m.trans H));have f9:=(a.trans (m.trans H)).size;have d3:=O.ext (a.trans (m.trans H)))|(refine a1o (l:=L.take i) rfl (by rfl) a0w rfl QC.elem (by omega) d3 i e1.out rfl rfl K (.agg #[.bool s6,.slice a6 n6 c6,.slice d6 k6 e6]) z rfl F (by omega) (by omega) ?_;intro f7 c3 w7 M J g1))
   have c7:=(C.trans (a.trans (m.trans H))).own K (c1B _) J;rw[b1.out]at M;clear f3 f4 f5 f6 c0 i1 i2;go_wp2_with fail
   go_roundw
   case rel=>exact⟨i+1,f7,c3,by go_num,by go_num,by omega,M,c7⟩
   case measure=>simp[intOf];omega
  ·have e0:i=n:=by omega
   subst e0;rw[c1D (by omega)]at s;have hc:=s.lenCap;have hs:=s.sl QC.elem;go_wp2_with fail
   go_ret
   exact⟨C,_,rfl,oo,co,by rw[E.out];rfl,hc,hs⟩
end Go.Proofs.YtnnpfhoigmegcaaGreat
namespace Go.Rep
open Go.RowKit Go.Lim Go.Lin
theorem b9F{X:Nat->Bool}{oo a:Option Addr}{w:World}(b:a=oo\/∃g,a=some ⟨g,0,none⟩/\w.heap.size<=g):∀k,k<w.heap.size->un X a k=true->un X oo k=true:=fun k e h=>by
 rcases b with rfl|⟨g,rfl,d⟩
 ·exact h
 ·by_cases c:X k=true
  ·exact a0m c
  ·exfalso
   have:g=k:=by simpa[un,c,ob]using h
   omega
def b2g(hs:List Hdr)(i:Nat):Option Addr:=(hs.getD i (none,0,0)).1
theorem a5n{hs:List Hdr}{i:Nat}(h:i<hs.length):b2g hs i=hs[i].1:=by simp[b2g,List.getD_eq_getElem?_getD,h]
structure CS (R:Mem->Value->Rat->Prop) (X:Nat->Bool) (base:Nat) (e1 e2:TypeId) (w:World) (oo:Option Addr) (co:Nat) (hs:List Hdr) (M:Mat) (i:Nat) (L:List Rat):Prop where
 outer:OL HdR 1 X base e1 w oo co hs
 len:hs.length=M.length
 done:∀k (_:k<i) (h1:k<hs.length) (h2:k<M.length),hs[k].2.1=M[k].length/\hs[k].2.1<=hs[k].2.2/\Sl R 3 (mk (un (un X oo) (b2g hs i)) w) hs[k].1 M[k]
 row:∀h1:i<hs.length,hs[i].2.1=L.length/\OL R 3 (un X oo) base e2 w (b2g hs i) hs[i].2.2 L
 rest:∀k,i<k->(h:k<hs.length)->hs[k]=(none,0,0)
section
variable {R:Mem->Value->Rat->Prop} {X:Nat->Bool} {base:Nat} {e1 e2:TypeId} {w w':World} {oo:Option Addr} {co:Nat} {hs:List Hdr} {M:Mat} {i:Nat} {L:List Rat}
theorem CS.start{n:Nat}(d:OL HdR 1 X base e1 w oo co (List.replicate n (none,0,0)))(b:M.length=n)(e2:TypeId):CS R X base e1 e2 w oo co (List.replicate n (none,0,0)) M 0 []:=by
 refine⟨d,by rw[List.length_replicate,b],fun k e=>by omega,fun a=>?_,fun k _ h=>by simp⟩;have c:b2g (List.replicate n (none,0,0)) 0=none:=by rw[a5n a];simp
 rw[c];refine⟨by simp,?_⟩;have:((List.replicate n ((none,0,0):Hdr))[0]).2.2=0:=by simp
 rw[this];exact OL.nil _ _ _ _ _ _
theorem CS.ext0(f:Elem R 3)(h:CS R X base e1 e2 w oo co hs M i L)(e:Ext w w'):CS R X base e1 e2 w' oo co hs M i L:=
 ⟨h.outer.ext0 HdR.elem e,h.len,fun k j d g=>let ⟨a,b,c⟩:=h.done k j d g;⟨a,b,c.mono f.mono (a0l e)⟩,fun d=>let ⟨a,b⟩:=h.row d;⟨a,b.ext0 f e⟩,h.rest⟩
theorem CS.next(o:Elem R 3)(h:CS R X base e1 e2 w oo co hs M i L)(s:i<M.length)(n:L=M[i]):CS R X base e1 e2 w oo co hs M (i+1) []:=by
 have g:i<hs.length:=by rw[h.len];exact s
 obtain⟨q,m⟩:=h.row g;have d:∀f:i+1<hs.length,hs[i+1]=(none,0,0):=fun f=>h.rest (i+1) (by omega) f;have p:b2g hs (i+1)=none:=by
  by_cases f:i+1<hs.length
  ·rw[a5n f,d f]
  ·simp[b2g,List.getD_eq_getElem?_getD,f]
 have l:un (un X oo) none=un X oo:=by funext k;simp[un,ob]
 refine⟨h.outer,h.len,fun k j f r=>?_,fun f=>?_,fun k j f=>h.rest k (by omega) f⟩
 ·rw[p,l]
  by_cases e:k=i
  ·subst e
   have e2:=a5n f;rw[e2]at m;refine⟨by rw[q,n],by rw[q];exact m.lenCap,?_⟩;rw[<-n];exact m.sl o
  ·obtain⟨a,b,c⟩:=h.done k (by omega) f r
   exact⟨a,b,c.mono o.mono (a1h fun k _ j=>a0m j)⟩
 ·rw[p]
  refine⟨by rw[d f];rfl,?_⟩;have:hs[i+1].2.2=0:=by rw[d f]
  rw[this];exact OL.nil _ _ _ _ _ _
theorem CS.mc(l:Elem R 3)(h:CS R X base e1 e2 w oo co hs M M.length []):SlV (SlV R 3) 1 (_root_.Go.Rep.mk X w) (.slice oo M.length co) M:=by
 have g:=h.len;refine⟨oo,co,rfl,by rw[<-g];exact h.outer.lenCap,fun o=>?_,fun k e=>?_⟩
 ·have:=h.outer.hd;rw[g]at this;exact this o
 ·have d:k<hs.length:=by omega
  obtain⟨u,i,q,rfl⟩:=h.outer.cell HdR.one k d;obtain⟨a,b,c⟩:=h.done k e d e;refine⟨.slice hs[k].1 hs[k].2.1 hs[k].2.2,rfl,fun j n=>?_,?_⟩
  ·have f:j=0:=by simp[Value.cells]at n;omega
   subst f;unfold _root_.Go.Rep.mk;have m:X (adr oo (k*1+0)).block=false:=by
    obtain⟨b,p,rfl⟩:=h.outer.hd (by omega);exact h.outer.1 _ (by simp[ob,adr])
   rw[m];simpa[Value.cells]using i
  ·rw[a]
   exact⟨_,_,rfl,by rw[<-a];exact b,c.mono l.mono (a1h fun k _ e=>a0m (a0m e))⟩
theorem CS.outer7(h:CS R X base e1 e2 w oo co hs M i L)(c:i<hs.length)(a:ExtX (ob (b2g hs i)) w w'):OL HdR 1 X base e1 w' oo co hs:=
 h.outer.frame HdR.pure a (fun k d=>by
  cases b:ob (b2g hs i) k
  ·rfl
  ·have:=(a0P ((h.row c).2.1 k b)).2;rw[d]at this;cases this) h.outer.1
theorem CS.push(p:Elem R 3)(h:CS R X base e1 e2 w oo co hs M i L)(B:i<hs.length){v:Rat}{d:Option Addr}{e n:Nat}{u x:World}(C:n=L.length+1)(r:OL R 3 (un X oo) base e2 u d e (L++[v]))(m:ExtX (ob (b2g hs i)) w u)(t:d=b2g hs i\/∃g,d=some ⟨g,0,none⟩/\w.heap.size<=g)(f:ExtX (ob oo) u x)(o:OL HdR 1 X base e1 x oo co (hs.set i (d,n,e))):CS R X base e1 e2 x oo co (hs.set i (d,n,e)) M i (L++[v]):=by
 subst C;have y:b2g (hs.set i (d,L.length+1,e)) i=d:=by rw[a5n (by rw[List.length_set];exact B)];simp
 refine⟨o,by rw[List.length_set];exact h.len,fun k j l A=>?_,fun l=>?_,fun k j l=>?_⟩
 ·have s:k<hs.length:=by simpa using l
  obtain⟨a,b,c⟩:=h.done k j s A;rw[y,List.getElem_set_ne (by omega)];refine⟨a,b,?_⟩;have z:=c.mono p.mono (a1k (Z:=un (un X oo) d) m (fun q _ hq=>a0u hq) (fun q hq hz=>b9F (X:=un X oo) t q hq hz));exact z.mono p.mono (a1k f (fun q _ hq=>a0m (a0u hq)) (fun _ _ h=>h))
 ·rw[y]
  refine⟨by simp,?_⟩;have:(hs.set i (d,L.length+1,e))[i].2.2=e:=by simp
  rw[this];exact r.ext p f (fun k _ j=>a0u j) (fun _ _ h=>h)
 ·rw[List.getElem_set_ne (by omega)]
  exact h.rest k j (by simpa using l)
end
end Go.Rep
namespace Go.Lin
theorem a6K{p:List Nat}{c:Nat}(b:p.Pairwise (· < ·))(a:∀j∈p,j<c):(List.range c).filter (fun j=>decide (j∈p))=p:=by
 refine b0g _ _ ?_ b fun x=>?_
 ·exact(List.pairwise_lt_range (n:=c)).filter _
 ·simp only[List.mem_filter,List.mem_range,decide_eq_true_eq]
  exact⟨fun h=>h.2,fun h=>⟨a x h,h⟩⟩
def pkR(r:List Rat)(us:List Bool)(j:Nat):List Rat:=((List.range j).filter fun i=>us.getD i false).map fun i=>r.getD i 0
theorem b3M{r:List Rat}{a:List Bool}{j:Nat}(h:a.getD j false=true):pkR r a (j+1)=pkR r a j++[r.getD j 0]:=by
 unfold pkR;rw[List.range_succ,List.filter_append,show List.filter (fun i=>a.getD i false) [j]= [j]from by simp only[List.filter,h],List.map_append];rfl
theorem b6B{r:List Rat}{a:List Bool}{j:Nat}(h:a.getD j false=false):pkR r a (j+1)=pkR r a j:=by
 unfold pkR;rw[List.range_succ,List.filter_append,show List.filter (fun i=>a.getD i false) [j]= []from by simp only[List.filter,h],List.append_nil]
theorem b3N{r:List Rat}{p:List Nat}{c:Nat}(d:p.Pairwise (· < ·))(b:∀j∈p,j<c):pkR r (Go.Rep.usedL p c) c=p.map fun j=>r.getD j 0:=by
 have e:(List.range c).filter (fun i=>(Go.Rep.usedL p c).getD i false)=p:=by
  rw[<-a6K d b];refine List.filter_congr fun j a=>?_;have a:=List.mem_range.1 a;simp[Go.Rep.usedL,List.getD_eq_getElem?_getD,a]
 unfold pkR;rw[e]
theorem b8a(r:List Rat)(a:List Bool)(j:Nat):(pkR r a j).length<=j:=by
 unfold pkR;rw[List.length_map];exact c1A (List.length_filter_le _ _) (by rw[List.length_range];exact c1B _)
end Go.Lin
namespace Go.Proofs.YtnnpfhoigmegcaaGreat
open Go.RowKit Go.Rep Go.Lim Go.Lin
theorem b1P(X:Nat->Bool)(w:World)(u:Value)(uo:Option Addr)(uc:Nat)(x:Mat)(p:List Nat)(n c:Nat)(hX:HX X w)(hu:MV (mk X w) u x)(b5:Sl BlR 1 (mk X w) uo (usedL p c))(G:Shp n c x)(hn:n<=96)(hc:c<=96)(hp:p.Pairwise (· < ·))(d4:∀j∈p,j<c)(_hxB:BM 68719476736 x):Calls Tryz.prog 179 #[u,.slice uo c uc] w (a1S X w MV (pkL x p)):=by
 obtain⟨M,hM⟩:∃M,pkL x p=M:=⟨_,rfl⟩;have a6:Hid (M.length=n):=hid (by rw[<-hM,a7R];exact G.1);have c2:Hid (∀i (h1:i<x.length) (h:i<M.length),pkR x[i] (usedL p c) c=M[i]):=hid fun i h1 h=>by subst hM;rw[b3N hp d4];simp[pkL]
 obtain⟨o,I⟩:∃o,usedL p c=o:=⟨_,rfl⟩;have Z:Hid (o.length=c):=hid (by rw[<-I];exact a2h p c);obtain⟨ua,h9,rfl,e3,e0⟩:=hu;have f5:=e0.hd;have g5:=hid G.1;have g1:=hid G.2;rw[I]at c2 b5;have c8:=b5.hd;rw[Z.out]at c8;rw[G.1]at f5 e3 |-;rw[hM];clear hM I G hp d4 _hxB;go_enter Tryz.func179,Tryz.ntmps179
 go_wp2_with ((with_reducible show wpList _ _ _ (⟨_,.makeSlice _ _ _,_,_,_,_⟩::_) _ _);refine a2w (R:=HdR) a0r HdR.elem (none,0,0) (fun _=>rfl) X hX w.heap.size (c1B _) n rfl rfl rfl (by omega) (by omega) ?_;intro oo w1 c3 a4)
 have b7:=CS.start (R:=QV) c3 a6.out 41;have e9:=hX.ext a4;clear c3;go_loopw [15] (fun k wr=>∃(i:Nat) (hs:List Hdr),k=.int .i64 i/\i<=n/\hs.length=n/\CS QV X w.heap.size 26 41 wr oo n hs M i []/\Ext w wr) (fun k _=>n - (intOf k).toNat)
 case atStart=>exact⟨0,_,rfl,Nat.zero_le _,List.length_replicate,b7,a4⟩
 case round=>
  obtain⟨i,hs,rfl,hi,d,s,e⟩:=hrel;have f1:HX X wr:=hX.ext e;clear b7 a4 e9;by_cases b2:i<n
  ·have d0:i<x.length:=by rw[g5.out];exact b2
   have f2:HX (un X oo) wr:=s.outer.unX f1;have g9:=e;obtain⟨a1,c1,g8,a8,U,P⟩:=e0.row i d0;have F:=g1.out x[i] (c1E _);have T:=hid fun h=>c2.out i d0 h;obtain⟨r,hr⟩:∃r,x[i]=r:=⟨_,rfl⟩;rw[hr]at a8 U P F T;have d7:=hid F;rw[F]at a8 U;have h5:Hd a1 c:=by have:=P.hd;rw[F]at this;exact this
   have g6:=a8.out noY wr e rfl;clear F hr;obtain⟨wo,g4⟩:∃wo,wo=wr:=⟨_,rfl⟩;subst g4;go_wp2_with (with_reducible refine a0v a0r (by omega) (by assumption) ?_)
   go_loopw [22] (fun k wx=>∃(j:Nat) (hs:List Hdr),k=.int .i64 j/\j<=c/\hs.length=n/\CS QV X w.heap.size 26 41 wx oo n hs M i (pkR r o j)/\Ext w wx) (fun k _=>c - (intOf k).toNat)
   case atStart=>exact⟨0,hs,rfl,Nat.zero_le _,d,s,e⟩
   case round=>
    clear s d g6 f2;obtain⟨j,hs,rfl,hj,d,s,e⟩:=hrel;have h4:HX X wr:=hX.ext e;by_cases d2:j<c
    ·have b1:j<r.length:=by rw[d7.out];exact d2
     have d1:j<o.length:=by rw[Z.out];exact d2
     have g:i<hs.length:=by rw[d];exact b2
     have Q:=P.mono QV.mono (a0l e);have kb:=a1V ((b5.mono BlR.mono (a0l e)).bl j d1);have bx:=Bx.new wr #[.bool false,.slice none 0 0,.slice none 0 0] 41;have a9:Hid (o.getD j false=o[j]):=hid (by simp[List.getD_eq_getElem?_getD,d1]);have f4:Hid (r.getD j 0=r[j]):=hid (by simp[List.getD_eq_getElem?_getD,b1]);obtain⟨b,hb⟩:∃b,o[j]=b:=⟨_,rfl⟩;rw[hb]at kb a9;have iu:∀W,(Instr.indexAt 96 (.slice uo c uc) (.int .i64 (j:Int))).run Tryz.prog W=.ok (.pointer (some (adr uo j))) W:=a0z a8T uo c uc .i64 j c8 (by omega) rfl;clear hb;cases b
     ·have f9:Hid (pkR r o (j+1)=pkR r o j):=hid (b6B a9.out)
      go_wp2_with (first|(with_reducible refine a1I a0w (by omega) (by assumption) ?_)|((with_reducible show wpList _ _ _ (⟨_,.load 41 _,_,_,_,_⟩::_) _ _);refine a0B a0p j Q b1 rfl (by simp) QV.agg ?_;intro u5 H;obtain⟨s5,a5,n5,c5,d5,m5,e5,rfl⟩:=H.shape)|((with_reducible show wpList _ _ _ (⟨_,.store 41 _ _,_,_,_,_⟩::_) _ _);refine a0a a0p rfl rfl bx rfl rfl (a1z _ _ _ _ _ _ _) ?_;intro w5 y1 y2;have t:Ext wr w5:=ExtX.box ((ExtX.refl wr).alloc _) y2 (c1B _);have g7:=t.cell kb))
      have b8:=s.ext0 QV.elem t;rw[<-f9.out]at b8;go_roundw
      case rel=>exact⟨j+1,hs,by go_num,by omega,d,b8,e.trans t⟩
      case measure=>simp[intOf];omega
     ·have J:Hid (pkR r o (j+1)=pkR r o j++[r[j]]):=hid (by rw[<-f4.out];exact b3M a9.out)
      have m:=s.row g;have E:=hid (b8a r o j);obtain⟨L,hL⟩:∃L,pkR r o j=L:=⟨_,rfl⟩;rw[hL]at s J m E;obtain⟨q,hq⟩:∃q,L.length=q:=⟨_,rfl⟩;have d6:=hid hq;have C:=a5n g;obtain⟨h0,b0⟩:∃h0,hs[i]=h0:=⟨_,rfl⟩;rw[b0]at m C;obtain⟨z,N,ci⟩:=h0;obtain⟨b3,y⟩:=m
      dsimp only at b3 y C
      rw[C]at y;obtain rfl:N=q:=b3.trans hq;have h6:N<=j:=by rw[<-hq];exact E.out
      have D:=hid C;have c6:=hid b0;obtain⟨v,hv⟩:∃v,r[j]=v:=⟨_,rfl⟩;have g3:=hid hv;rw[hv]at J;have c7:Hd oo n:=by have:=s.outer.hd;rw[d]at this;exact this
      have d3:∀k,ob z k=true->k<wr.heap.size:=fun k V=>(y.block V).2;have d8:∀k,ob oo k=true->ob z k=false:=fun k V=>by
       cases hc:ob z k
       ·rfl
       ·have:=(a0P (y.1 k hc)).2;rw[V]at this;cases this
      have Q:Sl QV 3 (mk (un (un X oo) z) wr) a1 r:=P.mono QV.mono (a1k e (fun k _ V=>by simp[noY]at V) fun k V hz=>by
       by_cases hx:X k=true
       ·exact hx
       ·exfalso
        have e1:ob oo k=false:=s.outer.ob_lt V;have e2:ob z k=false:=y.ob_lt V;simp[un,hx,e1,e2]at hz)
      clear hq C b0 hv hL b3;go_wp2_with (first|(with_reducible refine a1I a0w (by omega) (by assumption) ?_)|((with_reducible show wpList _ _ _ (⟨_,.load 41 _,_,_,_,_⟩::_) _ _);refine a0B a0p j Q b1 rfl (by simp) QV.agg ?_;intro u5 H;rw[g3.out]at H;obtain⟨s5,a5,n5,c5,d5,m5,e5,rfl⟩:=H.shape)|((with_reducible show wpList _ _ _ (⟨_,.store 41 _ _,_,_,_,_⟩::_) _ _);refine a0a a0p rfl rfl bx rfl rfl (a1z _ _ _ _ _ _ _) ?_;intro w5 y1 y2;have t:Ext wr w5:=ExtX.box ((ExtX.refl wr).alloc _) y2 (c1B _);have g7:=t.cell kb))
      have f:Ext wr w5.drew:=t.drew;have a3:=s.ext0 QV.elem f;have b4:=y.ext0 QV.elem f;obtain⟨A,f3⟩:∃A,wr.heap.size=A:=⟨_,rfl⟩;rw[f3]at y1;obtain⟨u0,q0,h8,d9⟩:=s.outer.cell HdR.one i g;rw[c6.out]at d9;obtain rfl:u0=.slice z N ci:=d9;have hS:Hid (∀Y w',ExtX Y w5.drew w'->(∀k,ob oo k=true->Y k=false)->Y A=false->w'.cell? (adr oo i)=some (.slice z N ci)/\w'.cell? ⟨A,0,none⟩=some (.bool s5)/\w'.cell? ⟨A,0+1,none⟩=some (.slice a5 n5 c5)/\w'.cell? ⟨A,0+2,none⟩=some (.slice d5 m5 e5)):=hid fun Y w' h h1 h2=>by
       have b6:=(y1.ext0 (ExtX.refl w5).drew).ext h h2;refine⟨((ExtX.of f).trans h).cellY q0 (h1 _ ?_),b6.cell 0 rfl,b6.cell 1 rfl,b6.cell 2 rfl⟩;obtain⟨b,h7,rfl⟩:=c7 (by omega);simp[ob,adr]
      have i9:∀W,(Instr.indexAt 25 (.slice oo n n) (.int .i64 (i:Int))).run Tryz.prog W=.ok (.pointer (some (adr oo i))) W:=a0z a0r oo n n .i64 i c7 (by omega) rfl;have c4:HX (un X oo) w5.drew:=a3.outer.unX (hX.ext (e.trans f));have h3:HX (un (un X oo) z) w5.drew:=b4.unX c4;have g2:=mkx QV.mono H f;clear kb bx Q;refine a0n 10 (fun w'=>w'.cell? (adr oo i)=some (.slice z N ci)/\w'.cell? ⟨A,0,none⟩=some (.bool s5)/\w'.cell? ⟨A,0+1,none⟩=some (.slice a5 n5 c5)/\w'.cell? ⟨A,0+2,none⟩=some (.slice d5 m5 e5)) (by kernel_rfl) (by kernel_rfl) (hS.out noY _ (ExtX.refl _) (fun _ _=>rfl) rfl) (fun B a=>?_);refine kt 0 a ?_;refine kt 1 a ?_;refine kt 2 a ?_;refine kt 3 a ?_;refine kt 4 a ?_;refine kt 5 a ?_;refine kt 6 a ?_;refine ks 7 (fun K S=>?_);go_simp
      skip
      refine kcn S (hS.out noY _ ((ExtX.refl _).alloc _) (fun _ _=>rfl) rfl) (fun B=>?_);clear S K;refine ks 8 (fun K S=>?_)
      (refine a1o (l:=L) rfl (by rfl) a0w rfl QV.elem (c1A (e.trans f).size (c1B _)) c4 N d6.out rfl rfl b4 (.agg #[.bool s5,.slice a5 n5 c5,.slice d5 m5 e5]) v rfl g2 (by omega) (by omega) ?_;intro a0 a2 w7 e8 O g0)
      refine kcn S (hS.out (ob z) w7 O d8 (by cases hc:ob z A;rfl;exact absurd (d3 A hc) (by omega))) (fun B=>?_);clear S K;have a7:=a3.outer7 g (by rw[D.out];exact O);obtain⟨_,p0,f0,_⟩:=a7.cell HdR.one i g;refine kt 9 a ?_;refine kl 10 (fun K S=>?_);go_simp
      refine S.out _ _ ?_;clear S K;obtain⟨e7,c0⟩:=a7.set1 a4Y HdR.elem HdR.one i g (.slice a0 (N+1) a2) (a0,N+1,a2) rfl;have b9:=a3.push QV.elem (n:=N+1) g (by rw[d6.out]) e8 (by rw[D.out];exact O) (by rw[D.out];exact g0) c0 e7;have e6:=((e.trans f).own b4 (c1B _) O).own a7 (c1B _) c0;rw[<-J.out]at b9;have f8:(hs.set i (a0,N+1,a2)).length=n:=by rw[List.length_set];exact d
      clear p0 f0;go_wp2_with fail
      go_roundw
      case rel=>exact⟨j+1,_,by go_num,by omega,f8,b9,e6⟩
      case measure=>simp[intOf];omega
    ·have f7:j=c:=by omega
     subst f7;have c9:i<M.length:=by rw[a6.out];exact b2
     have e4:=s.next QV.elem c9 (T.out c9);go_wp2_with fail
     go_roundw
     case rel=>exact⟨i+1,hs,by go_num,by omega,d,e4,e⟩
     case measure=>simp[intOf];omega
  ·have f6:i=n:=by omega
   subst f6;have hl:=a6.out;subst hl;have hm:=s.mc QV.elem;go_wp2_with fail
   go_ret
   exact⟨e,_,rfl,hm⟩
end Go.Proofs.YtnnpfhoigmegcaaGreat
