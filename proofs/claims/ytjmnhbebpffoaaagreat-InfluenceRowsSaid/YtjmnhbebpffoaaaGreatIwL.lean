/- Parts of a proof: each theorem states what it proves, and its conditions. -/
import Derived.Test.YtjmnhbebpffoaaaGreatIwK
set_option maxRecDepth 100000
set_option maxHeartbeats 3200000
namespace Go.Proofs.YtjmnhbebpffoaaaGreat
open Go.RowKit
theorem a6l(X:Nat->Bool)(w:World)(u v:Value)(l m:List Rat)(hX:HX X w)(hu:RV (mk X w) u l)(hv:RV (mk X w) v m)(hn:l.length<=1000000)(q:m.length=l.length)(B:∀k,k<=l.length->hq (a4q l m k)<=68719476736)(C:∀k,k<l.length->hq (l.getD k 0*m.getD k 0)<=68719476736):Calls Tryz.prog 112 #[u,v] w (a2b X w QC (a2S l m)):=by
 obtain⟨ao,ca,rfl,c3,a4⟩:=hu;obtain⟨bo,cb,rfl,c4,a8⟩:=hv;have c8:=a4.hd;have V:=a8.hd;obtain⟨W,hW,hE,J,z,hz⟩:=a1K w #[.bool false,.slice none 0 0,.slice none 0 0] #[.bool false,.slice none 0 0,.slice none 0 0] 47 47;have N:HX (a0f X w.heap.size 2) W:=hX.boxes hz;have h0:QC (mk (a0f X w.heap.size 2) W) (.agg #[.bool false,.slice none 0 0,.slice none 0 0]) (a4q l m 0):=QC.zero _;obtain⟨n,p⟩:=c1F l.length;rw[p]at hn q B C c3 c8 |-;rw[q]at c4 V |-;have a1:=hid p;have a2:=hid q;have P:=hid B;have Q:=hid C;have T:Hid (a4q l m n=a2S l m):=hid (by unfold a2S;rw[p]);clear p q B C;go_enter Tryz.func112,Tryz.ntmps112
 go_wp2_with fail
 obtain⟨b,hb⟩:=c1F w.heap.size;have a0:Hid (∀wr,Ext w wr->Le (mk X w) (mk (a0f X b 2) wr)):=hid fun wr h=>by rw[<-hb];exact a0i h
 have F:w.heap.size<=b:=by omega
 rw[hb]at J z N h0 |-;clear hW;go_loopw [10] (fun k wr=>∃(i:Nat) (s:Bool) (a:Option Addr) (n' c':Nat) (d:Option Addr) (kk e:Nat),k=.int .i64 i/\i<=n/\Bx wr b #[.bool false,.slice none 0 0,.slice none 0 0] 47/\Bx wr (b+1) #[.bool s,.slice a n' c',.slice d kk e] 47/\QC (mk (a0f X b 2) wr) (.agg #[.bool s,.slice a n' c',.slice d kk e]) (a4q l m i)/\HX (a0f X b 2) wr/\Ext w wr) (fun k _=>n - (intOf k).toNat)
 case atStart=>exact⟨0,_,_,_,_,_,_,_,rfl,Nat.zero_le _,J,z,h0,N,hE⟩
 case round=>
  obtain⟨i,s,a,n',c',d,kk,e,rfl,hi,J,z,hq,c2,o⟩:=hrel;by_cases G:i<n
  ·have Y:i<l.length:=by rw[a1.out];exact G
   have Z:i<m.length:=by rw[a2.out];exact G
   have d4:=a4.mono QV.mono (a0.out wr o);have a9:=a8.mono QV.mono (a0.out wr o);obtain⟨g2,o2,s2,p2,n2,q2,d2,k2,e2,U,f4,S,a3⟩:=a9.rat QV.shaped i Z;have gl:Hid (l.getD i 0=l[i]):=hid (by simp[List.getD_eq_getElem?_getD,Y]);have gm:Hid (m.getD i 0=m[i]):=hid (by simp[List.getD_eq_getElem?_getD,Z]);have r:Hid (a4q l m i+l[i]*m[i]=a4q l m (i+1)):=hid (by rw[<-gl.out,<-gm.out];rfl);have R:=hid (P.out i hi);have E:=hid (Q.out i G);rw[gl.out,gm.out]at E;obtain⟨x,hx⟩:=c1F (l[i]);obtain⟨y,hy⟩:=c1F (m[i]);rw[hx,hy]at r E;rw[hy]at a3;have d8:=hid hx;have i2:∀W,(Instr.indexAt 24 (.slice bo n cb) (.int .i64 (i:Int))).run Tryz.prog W=.ok (.pointer (some ⟨g2,o2,none⟩)) W:=by rw[<-U];exact a0e a0x bo n cb .i64 i V (by omega)
   have bx:=Bx.new wr #[.bool false,.slice none 0 0,.slice none 0 0] 47;obtain⟨D,hD⟩:=c1F (a4q l m i);obtain⟨D2,A⟩:=c1F (a4q l m (i+1));rw[hD]at hq r R;rw[A]at r;have K:=hid A;clear hx hy U hD A;go_wp2_with (first|(with_reducible refine a1w a0x ?_)|((with_reducible refine c1K (t:=47) ?_);refine a0z a0p i d4 Y rfl (by simp) QV.agg ?_;intro u5 H;rw[d8.out]at H;obtain⟨s5,a5,n5,c5,d5,k5,e5,rfl⟩:=H.shape)|((with_reducible refine c1J ?_);refine a0a a0p rfl rfl bx rfl rfl a1s ?_;intro t r1 r2))
   have b9:=c1M r2;have L:=c1L t;have c:=b9.trans L;have b6:=J.ext0 c;have g:=z.ext0 c;have r5:=r1.ext0 L;obtain⟨bw,F⟩:=c1F wr.heap.size;rw[F]at r5;have b3:=g.cell 0 rfl;have b4:=g.cell 1 rfl;have b5:=g.cell 2 rfl;have e1:=r5.cell 0 rfl;have e3:=r5.cell 1 rfl;have e4:=r5.cell 2 rfl;obtain⟨e8,e9,f3⟩:=S.out noY t.drew c rfl;have O:=c2.ext c;have d9:QV (mk (a0f X b 2) t.drew) (.agg #[.bool s5,.slice a5 n5 c5,.slice d5 k5 e5]) x:=mkx QV.mono H c;have e0:QV (mk (a0f X b 2) t.drew) (.agg #[.bool s2,.slice p2 n2 q2,.slice d2 k2 e2]) y:=mkx QV.mono a3 c;have d1:QV (mk (a0f X b 2) t.drew) (.agg #[.bool s,.slice a n' c',.slice d kk e]) D:=(mkx QC.mono hq c).qv R.out;clear bx r1 S;rw[F];go_wp2_with fail
   go_region_with (first|(go_at_call 35;(with_reducible refine(a9E (a0f X b 2) t.drew _ _ _ _ O d9 e0).mono ?_);rintro ee w6 ⟨t1,u6,rfl,b2⟩;obtain⟨s6,a6,n6,c6,d6,k6,e6,rfl⟩:=b2.shape;have M:=O.ext t1;have d3:=mkx QV.mono d1 t1;have d0:=b2.qv E.out;have j:=g.ext0 t1;have m0:=j.cell 0 rfl;have m1:=j.cell 1 rfl;have m2:=j.cell 2 rfl)|(go_at_call 46;(with_reducible refine(b2U (a0f X b 2) w6 _ _ _ _ M d3 d0).mono ?_);rintro ee w7 ⟨t7,u7,rfl,I⟩;obtain⟨s7,a7,n7,c7,d7,k7,e7,rfl⟩:=I.shape;rw[r.out]at I;have f:=j.ext0 t7;have g0:=f.cell 0 rfl;have g1:=f.cell 1 rfl;have b8:=f.cell 2 rfl;have f0:=f.frozen 0;have f1:=f.frozen 1;have f2:=f.frozen 2))
   all_goals
    obtain⟨z1,z2⟩:=f.set3 (.bool s7) (.slice a7 n7 c7) (.slice d7 k7 e7);have h8:=QC.mono _ _ _ _ (a0h (lo:=b) (nb:=2) z2 (by omega) (by omega)) I;have b7:=((b6.ext0 t1).ext0 t7).ext z2 (a0b (by omega));have c0:Ext w _:=ExtX.box (o.trans (c.trans (t1.trans t7))) z2 (by omega);have c1:=(M.ext t7).ext z2;rw[<-K.out]at h8;clear b3 b4 b5 e1 e3 e4 e8 e9 f3 m0 m1 m2 g0 g1 b8 f0 f1 f2 i2;go_wp2_with fail
    go_roundw
    case rel=>exact⟨i+1,_,_,_,_,_,_,_,by go_num,by omega,b7,z1,h8,c1,c0⟩
    case measure=>simp[intOf];omega
  ·have c9:i=n:=by omega
   subst c9;rw[T.out]at hq;have b3:=z.cell 0 rfl;have b4:=z.cell 1 rfl;have b5:=z.cell 2 rfl;go_wp2_with ((with_reducible refine c1J ?_);refine a0a a0p rfl rfl J rfl rfl a1s ?_;intro w7 r1 r2)
   have h7:=QC.mono _ _ _ _ a0l (QC.mono _ _ _ _ (a0h r2 (by omega) (by omega)) hq);exact bodyPost_ret (a0d rfl rfl a0p r1 rfl) rfl ⟨ExtX.box o r2 (by omega),_,rfl,h7⟩
section
variable {P:Program} {ops:Array Oper} {Q:Exit->Act->World->Prop} {rest:List Oper} {a:Act} {w:World}
variable {α:Type} {R:Mem->Value->α->Prop} {sz:Nat} {X:Nat->Bool} {base:Nat} {e:TypeId} {ao:Option Addr} {cap:Nat} {l:List α}
variable {d:Option Tmp} {ty:TypeId} {ps:String} {af:Array Edge}
theorem OL.run_copy{t Q:Nat}{z:Value}(T:SliceT P t e sz Q z)(N:Elem R sz)(h:OL R sz X base e w ao cap l)(sa:Option Addr)(ca:Nat)(a:List Value)(b:List α)(hat:At w sa a)(n:a.length=b.length)(C:∀i (D:i<a.length) (a5:i<b.length),R (mk (un X ao) w) a[i] b[i])(s:b.length<=l.length)(h0:0<b.length)(ty:TypeId):∃w',(Builtin.copy_ #[t,t] ty #[.slice ao l.length cap,.slice sa b.length ca]).run P w=.ok (goInt b.length) w'/\OL R sz X base e w' ao cap (b++l.drop b.length)/\ExtX (ob ao) w w':=by
 obtain⟨i,D,hz,a3,a4⟩:=info_parts T.info;have x:∀u∈a,u.cells.size=sz:=by
  intro v q;obtain⟨i,D,rfl⟩:=List.getElem_of_mem q;exact N.size _ _ _ (C i D (by omega))
 have p:∀u∈a,∀c∈a0g u,c.oneCell'=true:=by
  intro v q;obtain⟨i,D,rfl⟩:=List.getElem_of_mem q;exact N.one _ _ _ (C i D (by omega))
 have B:∀v∈a.flatMap a0g,v.oneCell'=true:=by
  intro c O;obtain⟨v,q,W⟩:=List.mem_flatMap.1 O;exact p v q c W
 obtain⟨sb,so,rfl⟩:=hat.1 (by omega);have A:∀j u,(a.flatMap a0g)[j]? =some u->w.cell? ((⟨sb,so,none⟩:Addr).add j)=some u:=by
  intro j u hj;rw[<-b0D rfl];exact hat.2 j u hj
 have f:(a.flatMap a0g).length=b.length*sz:=by rw[a1c a x,n]
 have y:=h.form;obtain⟨hx,r,h1,h2,U,h3,h5⟩:=h;rcases y with⟨rfl,rfl,rfl⟩|⟨g,d,rfl,h6,V,h8,h9,F⟩
 ·simp at s;subst s;simp at h0
 have I:0+(a.flatMap a0g).length<=d.size:=by
  rw[Nat.zero_add,f,F];exact Nat.mul_le_mul_right _ (by omega)
 have a1:=run_loadCells_list (P:=P) w ⟨sb,so,none⟩ (a.flatMap a0g) A;have a2:=run_storeCells_at P g 0 e (a.flatMap a0g) 0 d w V (by simpa using I) B;have hE:ExtX (ob (some ⟨g,0,none⟩)) w (w.setRow g (d.toList.take (0+0)++a.flatMap a0g++d.toList.drop (0+0+(a.flatMap a0g).length)).toArray):=
  ⟨rfl,rfl,rfl,by simp,fun k _ s=>setRow_other w g k _ (fun ek=>by subst ek;simp[ob]at s)⟩
 have M:Nat.min b.length l.length=b.length:=Nat.min_eq_left s;have H:∀u∈a++r.drop b.length,u.cells.size=sz:=by
  intro u m;rcases List.mem_append.1 m with m|m
  ·exact x u m
  ·exact h2 u (List.mem_of_mem_drop m)
 have o:(a++r.drop b.length).length=(b++l.drop b.length).length:=by simp[n,h1]
 refine⟨_,?_,⟨hx,a++r.drop b.length,o,H,?_,⟨?_,.inr ⟨g,cap,_,by simp,h6,setRow_heap w g d _ e _ V,by simp;omega,h9,?_,?_⟩⟩,?_⟩,hE⟩
 ·have J:(loadCells ⟨sb,so,none⟩ (b.length*i.size)).run P w=.ok (a.flatMap a0g).toArray w:=by rw[a3,<-f];exact a1
  simp[Builtin.copy_,run_underlying T.und,Builtin.lenOf,Builtin.firstCells,sizeOf,typeInfo,D,M,J,a2]
 ·intro u m c O
  rcases List.mem_append.1 m with m|m
  ·exact p u m c O
  ·exact U u (List.mem_of_mem_drop m) c O
 ·rw[a1c _ H,o]
 ·simp only[List.size_toArray,List.length_append,List.length_take,List.length_drop,Array.length_toList,F,Nat.add_zero,Nat.zero_add,f]
  have:=Nat.mul_le_mul_right sz (show b.length<=cap by omega);omega
 ·rcases h3.2 with⟨q,_⟩|⟨g',c',E,q,_,G,_,_,_,S⟩
  ·simp at q
  simp at q;obtain⟨rfl,rfl⟩:=q;rw[V]at G;obtain rfl:d=E:=by simpa using G
  have Z:r.flatMap a0g=(r.take b.length).flatMap a0g++(r.drop b.length).flatMap a0g:=by
   rw[<-List.flatMap_append,List.take_append_drop]
  have Y:((r.take b.length).flatMap a0g).length=b.length*sz:=by
   rw[a1c _ (fun u m=>h2 u (List.mem_of_mem_take m))];simp[h1,Nat.min_eq_left s]
  have hdr:(r.drop b.length).flatMap a0g=(d.toList.take (l.length*sz)).drop (b.length*sz):=by
   rw[S,Z,<-Y,List.drop_left]
  rw[List.flatMap_append,hdr];simp only[Nat.zero_add,List.take_zero,List.nil_append,f,List.length_append,List.length_drop,Nat.add_sub_cancel' s];rw[List.take_append,c1D (by rw[f];exact Nat.mul_le_mul_right _ s),f,List.drop_take]
 ·intro j hj a6
  have K:Le (mk (un X (some ⟨g,0,none⟩)) w) (mk (un X (some ⟨g,0,none⟩)) _):=a3U hE (.inl rfl);by_cases L:j<a.length
  ·simpa[List.getElem_append_left L,List.getElem_append_left (show j<b.length by omega)]using N.mono _ _ _ _ K (C j L (by omega))
  ·have a0:b.length+(j - b.length)<r.length:=by simp at hj;omega
   have:=N.mono _ _ _ _ K (h5 (b.length+(j - b.length)) a0 (by omega));have e1:b.length+(j - b.length)=j:=by omega
   simpa[List.getElem_append_right (show a.length<=j by omega),List.getElem_append_right (show b.length<=j by omega),n,e1]using this
theorem a9a{t c:Nat}{z:Value}{s x:Operand}{o:Option Addr}{p n k:Nat}(T:SliceT P t e sz c z)(q:Elem R sz)(b:List α)(hs:a.eval s=.slice ao n cap)(y:l.length=n)(B:a.eval x=.slice o k p)(j:b.length=k)(h:OL R sz X base e w ao cap l)(m:Sl R sz (mk (un X ao) w) o b)(v:k<=n)(r:0<k)(K:∀w',OL R sz X base e w' ao cap (b++l.drop k)->ExtX (ob ao) w w'->wpList P ops Q rest (a.put d (.int .i64 (k:Int))) w'):wpList P ops Q (⟨d,.call {callee:= .builtin .copy,args:=#[s,x],argTypes:=#[t,t]},ty,ps,af,none⟩::rest) a w:=by
 refine wpList_plain rfl fun D i=>?_;subst y;subst j;obtain⟨C,u,f,g⟩:=m.at_ q;obtain⟨w',A,f,g⟩:=h.run_copy (P:=P) T q o p C b f u g v r ty;unfold Oper.wp execOp;simp only[resolve,invoke,builtin,Sem.run_bind,Sem.run_pure,Result.andThen_ok,List.map_toArray,List.map_cons,List.map_nil,hs,B,A];exact i _ _ (K w' f g)
theorem b0a{o:Oper}{K:Act->World->Prop}{E:Prop}{t c:Nat}{z:Value}{s x:Operand}{m:Option Addr}{p n k:Nat}(y:o.guard=none)(i:o.op=Op.call {callee:=Callee.builtin Builtin.copy,args:=#[s,x],argTypes:=#[t,t]})(T:SliceT P t e sz c z)(q:Elem R sz)(b:List α)(hs:a.eval s=.slice ao n cap)(B:l.length=n)(F:a.eval x=.slice m k p)(g:b.length=k)(h:OL R sz X base e w ao cap l)(j:Sl R sz (mk (un X ao) w) m b)(A:k<=n)(r:0<k)(v:∀w',OL R sz X base e w' ao cap (b++l.drop k)->ExtX (ob ao) w w'->K (a.put o.dst (.int .i64 (k:Int))) w'):if Region.wanted o (yielded ops a.tmps)=true then Oper.wp P o a w K Q else E:=by
 have D:Region.wanted o (yielded ops a.tmps)=true:=by simp[Region.wanted,y]
 rw[if_pos D];subst B;subst g;obtain⟨G,u,d,f⟩:=j.at_ q;obtain⟨w',C,d,f⟩:=h.run_copy (P:=P) T q m p G b d u f A r o.type;unfold Oper.wp execOp;rw[i];simp only[resolve,invoke,builtin,Sem.run_bind,Sem.run_pure,Result.andThen_ok,List.map_toArray,List.map_cons,List.map_nil,hs,F,C];exact v _ d f
end
def b5F(r c:Nat):Mat:=List.replicate r (List.replicate c 0)
theorem a8k(r c:Nat):(b5F r c).length=r:=List.length_replicate
theorem a8l{r c i:Nat}(h:i<(b5F r c).length):(b5F r c)[i]=List.replicate c 0:=List.getElem_replicate h
theorem b1S{x:List Rat}{n:Nat}:x++(List.replicate (2*n) (0:Rat)).drop n=x++List.replicate n 0:=by
 rw[List.drop_replicate,show 2*n - n=n by omega]
theorem b3J{x:List Rat}{n i:Nat}(h:x.length=n):(x++List.replicate n (0:Rat)).set (n+i) 1=x++(List.replicate n 0).set i 1:=by
 rw[List.set_append_right _ _ (by omega),h,show n+i - n=i by omega]
theorem b3K{m:Mat}{n i:Nat}(h:i<(a1h m n).length)(a:i<m.length):(a1h m n)[i]=m[i]++(List.replicate n 0).set i 1:=by
 simp[a1h,a,List.getD_eq_getElem?_getD]
theorem b5G{m:Mat}{n c:Nat}(h:Shp n c m)(b:n=0->c=0):YtjmnhbebpffoaaaGreat.colsL m=c:=by
 by_cases a:n=0
 ·have:m= []:=List.eq_nil_of_length_eq_zero (by rw[h.1];exact a)
  subst this;rw[b a];rfl
 ·exact a9F h (by omega)
def b6D(X:Nat->Bool)(w:World)(m:List (List Rat))(n:Nat)(e:Ending)(w':World):Prop:=Ext w w'/\((a4u m n/\e=.returned (.tuple #[.slice none 0 0,.int .i64 7]))\/(¬a4u m n/\∃u,e=.returned (.tuple #[u,.int .i64 0])/\MC (mk X w') u (a2z m n)))
theorem b1T(X:Nat->Bool)(w:World)(u:Value)(m:List (List Rat))(n:Nat)(hX:HX X w)(hu:MV (mk X w) u m)(hf:a0A m=true)(b7:m.length=n)(d1:colsL m=n)(hT:b2h (a1h m n) (2*n)):Calls Tryz.prog 159 #[u] w (b6D X w m n):=by
 obtain⟨N,n7,q3,_,_⟩:=a0w hf;rw[b7,d1]at N;rw[b7]at n7;have d2:=a2s X w u m hu (by omega);rw[hf]at d2;have a0:=a2o X w u m hu;rw[d1]at a0;have e4:=hid N;have b8:=hid b7;have k1:=hid d1;have b2:=hid (a1j N);have j6:=hid hT;have n9:=hid (a2f N);have c:=hid (a5I N);have n1:Hid (∀i (h:i<(a1h m n).length) (hi:i<m.length),(a1h m n)[i]=m[i]++(List.replicate n 0).set i 1):=hid fun i h hi=>b3K h hi;have j7:Hid (colsL (a1h m n)=2*n):=hid (b5G (a1j N) (by omega));have c3:Hid (a4u m n↔0<n/\n<=(a0J (a1h m n) (2*n)).2.getD (n - 1) 0):=hid Iff.rfl;have d3:Hid (a2z m n=(a0J (a1h m n) (2*n)).1.map (·.drop n)):=hid rfl;obtain⟨W,hW⟩:=c1F (a1h m n);rw[hW]at b2 j6 c n1 j7 c3 d3;obtain⟨ua,n5,rfl,e7,m7⟩:=hu;have hu:MV (mk X w) (.slice ua m.length n5) m:=⟨ua,n5,rfl,e7,m7⟩;rw[b7]at d2 a0 hu |-;have p7:wrap64 (2*(n:Int))=((2*n:Nat):Int):=by rw[IntWalk.wrap64_in _ (by omega)];omega
 clear hf b7 d1 N e7 m7 hW hT;go_enter Tryz.func159,Tryz.ntmps159
 go_wp2_with fail
 refine d2.mono ?_;rintro e w1 ⟨rfl,rfl⟩;go_wp2_with fail
 refine a0.mono ?_;rintro e w2 ⟨rfl,rfl⟩;go_wp2_with fail
 refine(a5h X w2 n (2*n) hX (by omega) (by omega)).mono ?_;rintro e w3 ⟨f3,ao,cap,hs,rfl,E⟩;rw[List.length_replicate];have e0:Hid (hs.length=n):=hid (by rw[E.len];simp);have k8:Hd ao n:=by have:=E.outer.hd;rw[e0.out]at this;exact this
 have o6:=hX.ext f3;have k0:=E.hz o6;have m5:=E.old MV.mono hu f3 (c1B _) (fun _ _ h=>h);obtain⟨V,hV⟩:=c1F (b5F n (2*n));have f8:Hid (V.length=n):=hid (by rw[<-hV];exact a8k _ _);have o3:Hid (∀i (h:i<V.length),V[i]=List.replicate (2*n) 0):=hid fun i h=>by subst hV;exact a8l h
 have d0:Hid (W.length=V.length):=hid (by rw[f8.out];exact b2.out.1)
 change MO X w2.heap.size _ _ w3 ao cap hs (b5F n (2*n))at E
 rw[hV,<-a3D W V]at E;have k2:=a3o (mz X ao hs) w3 _ m n n k0 m5 e4.out k1.out (by omega) (by omega);clear d2 a0 hu m5 hV;go_wp2_with fail
 refine k2.mono ?_;rintro e w4 ⟨i6,bo,p9,r1,rfl,j0⟩;have e1:=j0.mc;rw[b8.out]at e1 |-;have d8:=E.ext0 i6;have i4:=f3.trans i6;obtain⟨ba,q5,b4,q0,H⟩:=e1;simp only[Value.slice.injEq]at b4;obtain⟨rfl,h4,rfl⟩:=b4;clear h4;have p0:=H.hd;rw[b8.out]at p0;obtain⟨Z,g4⟩:=c1F (mz X ao hs);have g3:=hid g4;rw[g4]at H k0;clear k2 E j0 g4;go_wp2_with fail
 go_loopw [31] (fun k wr=>∃(i:Nat),k=.int .i64 i/\i<=n/\MO X w2.heap.size 24 47 wr ao cap hs (mix W V i)/\Sl RC 1 (mk Z wr) bo m/\Ext w2 wr) (fun k _=>n - (intOf k).toNat)
 case atStart=>exact⟨0,rfl,Nat.zero_le _,d8,H,i4⟩
 case round=>
  obtain⟨i,rfl,hi,y,H,hE⟩:=hrel;by_cases g8:i<n
  ·have l1:i<m.length:=by rw[b8.out];exact g8
   obtain⟨a1,c1,o5,b3,s,G⟩:=H.row i l1;have I:=b3.out noY wr (ExtX.refl _) rfl;have r:Hid (m[i].length=n):=hid (e4.out.2 _ (c1E _));have l0:i<V.length:=by rw[f8.out];exact g8
   have g6:i<W.length:=by rw[d0.out];exact l0
   have j8:=hid (n1.out i g6 l1);have o4:=hid (o3.out i l0);obtain⟨x,hx⟩:=c1F (m[i]);rw[hx]at I s G r j8;rw[r.out]at I s;have q7:Hd a1 n:=by have:=G.hd;rw[r.out]at this;exact this
   have z:i<hs.length:=by rw[e0.out];exact g8
   have l7:i<(mix W V i).length:=by rw[a2p d0.out];exact g6
   have M:Hid ((mix W V i)[i]=List.replicate (2*n) 0):=hid (by rw[a1S d0.out,if_neg (by omega)];exact o4.out);have b6:Hid ((mix W V i).set i (x++(List.replicate n (0:Rat)).set i 1)=mix W V (i+1)):=hid (by rw[<-j8.out];exact a4I d0.out g6);obtain⟨a,B,cr,d⟩:∃a B cr,hs[i]=(a,B,cr):=⟨_,_,_,rfl⟩;have F:B=2*n:=by
    have:=y.rlen i z l7;rw[d,M.out,List.length_replicate]at this;exact this
   have hR:=y.row i z l7;rw[M.out]at hR;simp only[d]at hR;have c5:=fun k (hk:ob a k=true)=>y.mz_sub z k (by rw[d];exact hk);have h2:=fun k (hk:ob a k=true)=>y.sep i z k (by rw[d];exact hk);have d4:Hid (un (cut (mz X ao hs) a) a=Z):=hid (by rw[a4D c5];exact g3.out);have o9:Hd a B:=by have:=hR.hd;rw[List.length_replicate,<-F]at this;exact this
   have t:=hid F;have y1:wr.cell? (adr ao i)=some (.slice a B cr):=by
    have:=(y.hdr i z).1;rw[d]at this;exact this
   have T:Hid (ob a (adr ao i).block=false):=hid (by
    cases hb:ob a (adr ao i).block
    ·rfl
    ·have h1:=(h2 _ hb).2
     obtain⟨b0,o0,rfl⟩:=k8 (by omega);simp[ob,adr]at h1)
   have f:=hid d;have f5:Hid ((List.replicate (2*n) (0:Rat)).length=B):=hid (by rw[F];exact List.length_replicate);have c2:Sl QC 3 (mk (un (cut (mz X ao hs) a) a) wr) a1 x:=by rw[d4.out];exact G
   clear b3 hx d F;obtain⟨wo,h3⟩:∃wo,wo=wr:=⟨_,rfl⟩;subst h3;go_wp2_with (first|(with_reducible refine a0v a0o ?_)|(refine a9a a0x QC.elem x rfl f5.out rfl r.out hR c2 (by rw[t.out];omega) (by omega) ?_;intro w5 J C;have y5:=C.cellY y1 T.out))
   have d5:x++List.drop n (List.replicate (2*n) (0:Rat))=x++List.replicate n 0:=b1S;rw[d5]at J;have d7:∀k,ob a k=true->Z k=true:=fun k hk=>by rw[<-g3.out];exact c5 k hk
   have h6:Hid ((x++List.replicate n (0:Rat)).length=B):=hid (by rw[List.length_append,List.length_replicate,r.out,t.out];omega);have a5:=y.upd z (l:=x++List.replicate n 0) (show ExtX (ob hs[i].1) wo w5 by rw[f.out];exact C) (fun k9=>by rw[M.out,List.length_replicate,h6.out,t.out]) (by rw[f.out];exact J);have m3:=H.mono RC.mono (a0s C d7);have P:=y.ext_from hE (c1B _) (ExtX.row z (show ExtX (ob hs[i].1) wo w5 by rw[f.out];exact C));have a3:Hid ((x++List.replicate n (0:Rat)).set (n+i) 1=x++(List.replicate n 0).set i 1):=hid (b3J r.out);have g9:n+i<(x++List.replicate n (0:Rat)).length:=by rw[h6.out,t.out];omega
   have o8:HX Z w5:=by
    have h1:=a5.hz (hX.ext P);rw[g3.out]at h1;exact h1
   have a4:=c1L w5;obtain⟨L,hL⟩:=c1F (x++List.replicate n (0:Rat));rw[hL]at J a5 h6 a3 g9;obtain⟨L2,i8⟩:=c1F (x++(List.replicate n (0:Rat)).set i 1);rw[i8]at a3 b6;have i9:Hid (L2.length=L.length):=hid (by rw[<-a3.out,List.length_set]);obtain⟨g,o,hg⟩:∃g o,adr a ((n+i)*3)=⟨g,o,none⟩:=⟨_,_,rfl⟩;have ew:IntKind.i64.wrap ((n:Int)+(i:Int))=(n:Int)+(i:Int):=IntWalk.i64_in _ (by omega);have i2:∀W,(Instr.indexAt 24 (.slice a B cr) (.int .i64 ((n:Int)+(i:Int)))).run Tryz.prog W=.ok (.pointer (some ⟨g,o,none⟩)) W:=by
    rw[<-hg,show(n:Int)+(i:Int)=((n+i:Nat):Int)by omega];exact a0e a0x a B cr .i64 (n+i) o9 (by rw[t.out];omega)
   have i1:∀W,(Instr.indexAt 23 (.slice ao n cap) (.int .i64 (i:Int))).run Tryz.prog W=.ok (.pointer (some (adr ao i))) W:=a0y a0o ao n cap .i64 i k8 (by omega) rfl;have k4:=hid hg;have hS:Hid (∀Y W',ExtX Y w5.drew W'->Y (adr ao i).block=false->W'.cell? (adr ao i)=some (.slice a B cr)):=hid fun Y W' h h7=>h.cellY (a4.cell y5) h7;have h8:=hS.out noY w5.drew (ExtX.refl _) rfl;have j2:=J.ext0 QC.elem a4;have qf:=a8G Z w5.drew 1 (o8.ext a4) (by omega) (by omega);have h9:((1:Int):Rat)=1:=by decide+kernel
   rw[h9]at qf;have m8:Hid (un (cut (mz X ao hs) a) a=Z):=d4;clear h9 d5 hL i8 hg y1 y5 hR c2 G I y H;go_region_held3 (fun w'=>w'.cell? (adr ao i)=some (.slice a B cr))
    (first|exact hS.out noY _ t1 rfl|exact hS.out (ob a) _ ((ExtX.of t1).trans e3.2) T.out|go_keep)
    ((go_at_call 34;(with_reducible refine qf.mono ?_);rintro ee w6 ⟨t1,u6,rfl,m6⟩;obtain⟨s6,a6,n6,c6,d6,k6,e6,rfl⟩:=m6.shape;have j3:=j2.ext0 QC.elem t1;obtain⟨_,v0,v1,v2,_,⟨g0,f0⟩,⟨g1,f1⟩,⟨g2,f2⟩,_⟩:=j3.cell3 (n+i) g9 k4.out;have e3:=j3.set3 a3C QC.elem (n+i) g9 k4.out (v0:= .bool s6) (v1:= .slice a6 n6 c6) (v2:= .slice d6 k6 e6) (x:=1) (by rw[m8.out];exact m6)))
   obtain⟨q1,q2⟩:=e3;rw[a3.out]at q1;obtain⟨w8,n0⟩:=c1F (((w6.setCell ⟨g,o,none⟩ (.bool s6)).setCell ⟨g,o+1,none⟩ (.slice a6 n6 c6)).setCell ⟨g,o+2,none⟩ (.slice d6 k6 e6));rw[n0]at q1 q2 |-;have n4:ExtX (ob hs[i].1) w6 w8:=by rw[f.out];exact q2
   have j1:=a5.ext0 (a4.trans t1);have a8:=j1.upd z (l:=L2) n4 (fun k9=>by rw[List.getElem_set_self];exact i9.out) (by rw[f.out];exact q1);rw[List.set_set,b6.out]at a8;have p6:=(m3.mono RC.mono (a0k (a4.trans t1))).mono RC.mono (a0s q2 d7);have c8:=j1.ext_from (P.trans (a4.trans t1)) (c1B _) (ExtX.row z n4);clear h8 g0 g1 g2 f0 f1 f2 i1 i2 n0 ew;go_wp2_with fail
   go_roundw
   case rel=>exact⟨i+1,by go_num,by omega,a8,p6,c8⟩
   case measure=>simp[intOf];omega
  ·have p1:i=n:=by omega
   subst p1;rw[a3E (by rw[b2.out.1];exact c1B _) (by rw[f8.out];exact c1B _)]at y;go_wp2_with fail
   refine(a4J X w2.heap.size wr ao cap i (2*i) hs W (hX.ext hE) y b2.out j7.out (by omega) (by omega) j6.out).mono ?_;rintro ee w7 ⟨f4,po,pc,r0,rfl,q9,a8,a9⟩;rw[c.out];have Q:=y.ext_from hE (c1B _) f4;have a2:=MC.mono _ _ _ _ (a1a (X:=X) fun k _ hk=>a0j hk) a8.mc;have b1:=hid (a1f b2.out).1;obtain⟨⟨R,p⟩,j5⟩:∃S,a0J W (2*i)=S:=⟨_,rfl⟩;rw[j5]at c d3 c3 b1 a2 a9
   dsimp only at c d3 c3 b1 a2 a9
   rw[b1.out.1]at a2;have o7:=hX.ext Q;have k3:Hd po i:=by have:=a9.hd;rw[c.out]at this;exact this
   have m0:Hid (∀h:i - 1<p.length,p.getD (i - 1) 0=p[i - 1]):=hid fun h=>by simp[List.getD_eq_getElem?_getD,h]
   have m1:∀h:i - 1<p.length,w7.cell? (adr po (i - 1))=some (.int .i64 (p[i - 1]:Int)):=fun h=>(a9.sl (a0c.elem _)).nat (i - 1) h;have e2:=hid m1;obtain⟨w2,m9⟩:∃x,x=w2:=⟨_,rfl⟩;subst m9;clear m1 d8 H y a8 p7 j5 a9;by_cases v:a4u m i
   ·obtain⟨h0,k5⟩:=c3.out.1 v
    have b9:i - 1<p.length:=by rw[c.out];omega
    rw[m0.out b9]at k5;have c9:=e2.out b9;have q6:(0:Int)<(i:Int):=by omega
    have k7:(i:Int)<=(p[i - 1]:Int):=by omega
    obtain⟨q,hq⟩:=c1F ((p[i - 1]:Int));rw[hq]at c9 k7;have ew:wrap64 ((i:Int) - 1)=(i:Int) - 1:=IntWalk.wrap64_in _ (by omega);have i3:∀W,(Instr.indexAt 22 (.slice po i pc) (.int .i64 ((i:Int) - 1))).run Tryz.prog W=.ok (.pointer (some (adr po (i - 1)))) W:=a0y a6e po i pc .i64 (i - 1) k3 (by omega) (by omega);clear hq k5 h0 f4;go_wp2_with fail
    go_ret2
    exact⟨Q,.inl ⟨v,rfl⟩⟩
   ·have g5:(¬(0:Int)<(i:Int))\/((0:Int)<(i:Int)/\∃q:Int,w7.cell? (adr po (i - 1))=some (.int .i64 q)/\¬(i:Int)<=q):=by
     by_cases h0:i=0
     ·exact .inl (by omega)
     ·have b9:i - 1<p.length:=by rw[c.out];omega
      refine .inr ⟨by omega,_,e2.out b9,fun q8=>v (c3.out.2 ⟨by omega,?_⟩)⟩;rw[m0.out b9];omega
    have p4:=hid v;have n3:=a5h X w7 i i o7 (by omega) (by omega);have ew:wrap64 ((i:Int) - 1)=(i:Int) - 1\/i=0:=by
     by_cases h0:i=0
     ·exact .inr h0
     ·exact .inl (IntWalk.wrap64_in _ (by omega))
    have p8:Hid (0<i->∀W,(Instr.indexAt 22 (.slice po i pc) (.int .i64 ((i:Int) - 1))).run Tryz.prog W=.ok (.pointer (some (adr po (i - 1)))) W):=hid fun h=>a0y a6e po i pc .i64 (i - 1) k3 (by omega) (by omega);clear v f4;rcases g5 with h0|⟨h0,q,c9,k7⟩
    case' inl=>clear ew
    case' inr=>
     have ew:wrap64 ((i:Int) - 1)=(i:Int) - 1:=ew.resolve_right (by omega);have i3:=p8.out (by omega)
    all_goals
     go_wp2_with fail
     refine n3.mono ?_;rintro ee w8 ⟨c8,b,O,A,rfl,a7⟩;rw[List.length_replicate];have b5:Hid (A.length=i):=hid (by rw[a7.len];simp);have d9:Hd b i:=by have:=a7.outer.hd;rw[b5.out]at this;exact this
     have l6:=a7.old MC.mono a2 c8 (c1B _) (fun _ _ h=>h);obtain⟨ra,r2,b4,q4,c4⟩:=l6;simp only[Value.slice.injEq]at b4;obtain⟨rfl,h4,rfl⟩:=b4;clear h4;obtain⟨D,hD⟩:=c1F (a2z m i);have e9:=hid (hD▸n9.out);have l2:=hid (hD▸d3.out);have n8:=hid hD;obtain⟨U,hU⟩:=c1F (b5F i i);have f7:Hid (U.length=i):=hid (by rw[<-hU];exact a8k _ _);have o1:Hid (∀k (h:k<U.length),U[k]=List.replicate i 0):=hid fun k h=>by subst hU;exact a8l h
     have c7:Hid (D.length=U.length):=hid (by rw[f7.out];exact e9.out.1)
     change MO X w7.heap.size _ _ w8 b O A (b5F i i)at a7
     rw[hU,<-a3D D U]at a7;have i5:=Q.trans c8;obtain⟨Y,f9⟩:=c1F (mz X b A);have j9:=hid f9;rw[f9]at c4;clear hU f9 hD n3;go_wp2_with fail
     go_loopw [70] (fun k wr=>∃(j:Nat),k=.int .i64 j/\j<=i/\MO X w7.heap.size 24 47 wr b O A (mix D U j)/\Sl RC 1 (mk Y wr) ao R/\Ext w2 wr) (fun k _=>i - (intOf k).toNat)
     case atStart=>exact⟨0,rfl,Nat.zero_le _,a7,c4,i5⟩
     case round=>
      obtain⟨j,rfl,hj,y,c4,hE⟩:=hrel;by_cases g7:j<i
      ·have p2:j<R.length:=by rw[b1.out.1];exact g7
       obtain⟨a1,c1,o5,b3,s,G⟩:=c4.row j p2;have I:=b3.out noY wr (ExtX.refl _) rfl;have r:Hid (R[j].length=2*i):=hid (b1.out.2 _ (c1E _));have l4:j<U.length:=by rw[f7.out];exact g7
       have l3:j<D.length:=by rw[c7.out];exact l4
       have i0:Hid (D[j]=R[j].drop i):=hid (by simp[l2.out]);have o2:=hid (o1.out j l4);obtain⟨x,hx⟩:=c1F (R[j]);rw[hx]at I s G r i0;rw[r.out]at I s;obtain⟨n2,l9⟩:=c1F (2*i);rw[l9]at I s;have K:j<A.length:=by rw[b5.out];exact g7
       have l8:j<(mix D U j).length:=by rw[a2p c7.out];exact l3
       have M:Hid ((mix D U j)[j]=List.replicate i 0):=hid (by rw[a1S c7.out,if_neg (by omega)];exact o2.out);have b6:Hid ((mix D U j).set j (x.drop i)=mix D U (j+1)):=hid (by rw[<-i0.out];exact a4I c7.out l3);obtain⟨a,B,cr,d⟩:∃a B cr,A[j]=(a,B,cr):=⟨_,_,_,rfl⟩;have F:B=i:=by
        have:=y.rlen j K l8;rw[d,M.out,List.length_replicate]at this;exact this
       have hR:=y.row j K l8;rw[M.out]at hR;simp only[d]at hR;have c5:=fun k (hk:ob a k=true)=>y.mz_sub K k (by rw[d];exact hk);have h2:=fun k (hk:ob a k=true)=>y.sep j K k (by rw[d];exact hk);have d4:Hid (un (cut (mz X b A) a) a=Y):=hid (by rw[a4D c5];exact j9.out);have y1:wr.cell? (adr b j)=some (.slice a B cr):=by
        have:=(y.hdr j K).1;rw[d]at this;exact this
       have T:Hid (ob a (adr b j).block=false):=hid (by
        cases hb:ob a (adr b j).block
        ·rfl
        ·have h1:=(h2 _ hb).2
         obtain⟨b0,o0,rfl⟩:=d9 (by omega);simp[ob,adr]at h1)
       have f:=hid d;have t:=hid F;have f5:Hid ((List.replicate i (0:Rat)).length=B):=hid (by rw[F];exact List.length_replicate);have c0:=G.sub i n2 c1 (by omega) (by omega) (by rw[r.out];omega);rw[c1D (by rw[r.out];omega)]at c0;have f1:∀W,(Instr.sliceAt 24 (.slice a1 n2 c1) (some (.int .i64 (i:Int))) none none).run Tryz.prog W=.ok (.slice (a1b a1 i c1 3) (n2 - i) (c1 - i)) W:=a2l a0x n2 c1 .i64 i (by omega) s;rw[show n2 - i=i by omega]at f1;obtain⟨sa,m2⟩:=c1F (a1b a1 i c1 3);rw[m2]at f1 c0;obtain⟨sc,m4⟩:=c1F (c1 - i);rw[m4]at f1;obtain⟨xd,h5⟩:=c1F (x.drop i);rw[h5]at c0 b6;have e8:Hid (xd.length=i):=hid (by rw[<-h5,List.length_drop,r.out];omega);have c2:Sl QC 3 (mk (un (cut (mz X b A) a) a) wr.drew) sa xd:=by rw[d4.out];exact c0
       have i1:∀W,(Instr.indexAt 23 (.slice b i O) (.int .i64 (j:Int))).run Tryz.prog W=.ok (.pointer (some (adr b j))) W:=a0y a0o b i O .i64 j d9 (by omega) rfl;have j4:=hR.ext0 QC.elem (ExtX.refl (Y:=noY) wr).drew;have f6:Hid (∀Y2 W',ExtX Y2 wr.drew W'->Y2 (adr b j).block=false->W'.cell? (adr b j)=some (.slice a B cr)):=hid fun Y2 W' h h7=>(((ExtX.refl wr).drew).trans h).cellY y1 h7;have h8:=f6.out noY wr.drew (ExtX.refl _) rfl;clear hx b3 d F l9 m2 m4 h5 hR G c0;obtain⟨wo,h3⟩:∃wo,wo=wr:=⟨_,rfl⟩;subst h3;go_wp2_with (with_reducible refine a0v a0o ?_)
       go_region_held3 (fun w'=>w'.cell? (adr b j)=some (.slice a B cr))
        (first|exact f6.out noY _ (ExtX.refl _) rfl|exact f6.out (ob a) _ C T.out|go_keep)
        (first|(refine b0a rfl (by rfl) a0x QC.elem xd rfl f5.out rfl e8.out j4 c2 (by rw[t.out];exact c1B _) (by omega) ?_;intro w5 J C))
       have d5:xd++List.drop i (List.replicate i (0:Rat))=xd:=by rw[List.drop_replicate,Nat.sub_self,List.replicate_zero,List.append_nil]
       rw[d5]at J;have d7:∀k,ob a k=true->Y k=true:=fun k hk=>by rw[<-j9.out];exact c5 k hk
       have i7:ExtX (ob A[j].1) wo w5:=by rw[f.out];exact(ExtX.of (ExtX.refl wo).drew).trans C
       have a5:=y.upd K (l:=xd) i7 (fun k9=>by rw[M.out,List.length_replicate,e8.out]) (by rw[f.out];exact J);rw[b6.out]at a5;have p5:=(c4.mono RC.mono (a0k (ExtX.refl wo).drew)).mono RC.mono (a0s C d7);have P:=y.ext_from hE (by have:=Q.size;omega) (ExtX.row K i7);clear I h8 y1 f1 i1 j4 c2;go_wp2_with fail
       go_roundw
       case rel=>exact⟨j+1,by go_num,by omega,a5,p5,P⟩
       case measure=>simp[intOf];omega
      ·have p3:j=i:=by omega
       subst p3;rw[a3E (by rw[e9.out.1];exact c1B _) (by rw[f7.out];exact c1B _)]at y;have l5:=y.mc;rw[e9.out.1,<-n8.out]at l5;go_wp2_with fail
       go_ret2
       exact⟨hE,.inr ⟨p4.out,_,rfl,l5⟩⟩
def b1a(X:Nat->Bool)(w:World)(S:Mat×List Nat)(c:Nat)(e:Ending)(w':World):Prop:=Ext w w'/\((c∈S.2/\e=.returned (.tuple #[.slice none 0 0,.int .i64 11]))\/(c∉S.2/\∃u,e=.returned (.tuple #[u,.int .i64 0])/\RC (mk X w') u (b6j S.1 S.2 c)))
theorem b5H(X:Nat->Bool)(w:World)(u v:Value)(m:List (List Rat))(b:List Rat)(n c:Nat)(hX:HX X w)(hu:MV (mk X w) u m)(hv:RV (mk X w) v b)(hf:a0A m=true)(b1:m.length=n)(a9:colsL m=c)(g5:b.length=n)(hT:b2h (a2Z m b n) (c+1)):Calls Tryz.prog 156 #[u,v] w (b1a X w (a0J (a2Z m b n) (c+1)) c):=by
 obtain⟨b6,p2,k8,b5,_⟩:=a0w hf;rw[b1,a9]at b6;rw[b1]at p2 b5;rw[a9]at k8 b5;have c3:=a2s X w u m hu (by omega);rw[hf]at c3;have T:=a2o X w u m hu;rw[a9]at T;have f3:=hid b6;have b2:=hid b1;have l0:=hid a9;have k3:=hid g5;have t:=hid (a2u (b:=b) b6);have o6:Hid (∀i (h:i<(a2Z m b n).length) (hi:i<m.length) (F:i<b.length),(a2Z m b n)[i]=m[i]++[b[i]]):=hid fun i h hi F=>b2z h hi F;have a0:0<n->colsL (a2Z m b n)=c+1:=fun h=>a9F (a2u (b:=b) b6) h;obtain⟨W,hW⟩:=c1F (a2Z m b n);rw[hW]at t hT o6 a0 |-;have q0:=hid (b2B t.out (colsL W) a0 hT);have p7:=hid (b2A t.out (colsL W) a0);have j9:Hid (Shp n (colsL W) W):=hid ⟨t.out.1,fun r hr=>by
  have:=List.length_pos_of_mem hr;rw[a0 (by rw[<-t.out.1];exact this)];exact t.out.2 r hr⟩
 have j8:Hid (colsL W<=900):=hid (by
  by_cases h0:0<n
  ·rw[a0 h0];omega
  ·have:W= []:=List.eq_nil_of_length_eq_zero (by rw[t.out.1];omega)
   subst this;exact Nat.zero_le _)
 obtain⟨ua,o9,rfl,f4,n9⟩:=hu;have hu:MV (mk X w) (.slice ua m.length o9) m:=⟨ua,o9,rfl,f4,n9⟩;obtain⟨va,p0,rfl,o3,O⟩:=hv;have l9:=O.hd;rw[b1]at c3 T hu |-;rw[g5]at o3 l9 |-;have v3:wrap64 ((c:Int)+1)=((c+1:Nat):Int):=by rw[IntWalk.wrap64_in _ (by omega)];omega
 have t8:((n:Int) !=(n:Int))=false:=b0B rfl;clear hf b1 a9 b6 f4 n9 hW hT a0 g5;go_enter Tryz.func156,Tryz.ntmps156
 go_wp2_with fail
 refine c3.mono ?_;rintro e w1 ⟨rfl,rfl⟩;go_wp2_with fail
 refine T.mono ?_;rintro e w2 ⟨rfl,rfl⟩;go_wp2_with fail
 refine(a5h X w2 n (c+1) hX (by omega) (by omega)).mono ?_;rintro e w3 ⟨b7,ao,cap,hs,rfl,A⟩;rw[List.length_replicate];have e1:Hid (hs.length=n):=hid (by rw[A.len];simp);have l8:Hd ao n:=by have:=A.outer.hd;rw[e1.out]at this;exact this
 have q5:=hX.ext b7;have k2:=A.hz q5;have n8:=A.old MV.mono hu b7 (c1B _) (fun _ _ h=>h);have h9:=O.mono QV.mono (fun a v h=>((a1g (X:=X) (Z:=mz X ao hs) b7 (fun k _ d=>by simp[noY]at d) fun k d hz=>by
  rcases a2h.1 hz with a|a
  ·exact a
  ·have:=(A.mb_block (a2D.2 a)).1;omega) a v h))
 obtain⟨V,hV⟩:=c1F (b5F n (c+1));have f8:Hid (V.length=n):=hid (by rw[<-hV];exact a8k _ _);have q3:Hid (∀i (h:i<V.length),V[i]=List.replicate (c+1) 0):=hid fun i h=>by subst hV;exact a8l h
 have c0:Hid (W.length=V.length):=hid (by rw[f8.out];exact t.out.1)
 change MO X w2.heap.size _ _ w3 ao cap hs (b5F n (c+1))at A
 rw[hV,<-a3D W V]at A;have l2:=a3o (mz X ao hs) w3 _ m n c k2 n8 f3.out l0.out (by omega) (by omega);clear c3 T hu n8 hV;go_wp2_with fail
 refine l2.mono ?_;rintro e w4 ⟨f5,bo,t5,u9,rfl,j3⟩;have e2:=j3.mc;rw[b2.out]at e2 |-;have d5:=A.ext0 f5;have i7:=b7.trans f5;obtain⟨ba,u1,l4,t6,J⟩:=e2;simp only[Value.slice.injEq]at l4;obtain⟨rfl,s8,rfl⟩:=l4;clear s8;have r0:=J.hd;rw[b2.out]at r0;obtain⟨Z,g3⟩:=c1F (mz X ao hs);have f9:=hid g3;rw[g3]at J k2 h9;have s3:=h9.mono QV.mono (a0k f5);clear h9;clear l2 A j3 g3;go_wp2_with fail
 go_loopw [33] (fun k wr=>∃(i:Nat),k=.int .i64 i/\i<=n/\MO X w2.heap.size 24 47 wr ao cap hs (mix W V i)/\Sl RC 1 (mk Z wr) bo m/\Sl QV 3 (mk Z wr) va b/\Ext w2 wr) (fun k _=>n - (intOf k).toNat)
 case atStart=>exact⟨0,rfl,Nat.zero_le _,d5,J,s3,i7⟩
 case round=>
  obtain⟨i,rfl,hi,D,J,O,hE⟩:=hrel;by_cases c7:i<n
  ·have m2:i<m.length:=by rw[b2.out];exact c7
   obtain⟨a1,c1,u2,k5,e0,d0⟩:=J.row i m2;have i6:=k5.out noY wr (ExtX.refl _) rfl;have P:Hid (m[i].length=c):=hid (f3.out.2 _ (c1E _));have m0:i<V.length:=by rw[f8.out];exact c7
   have g6:i<W.length:=by rw[c0.out];exact m0
   have m1:i<b.length:=by rw[k3.out];exact c7
   have k0:=hid (o6.out i g6 m2 m1);have q4:=hid (q3.out i m0);obtain⟨x,hx⟩:=c1F (m[i]);rw[hx]at i6 e0 d0 P k0;rw[P.out]at i6 e0;have u5:Hd a1 c:=by have:=d0.hd;rw[P.out]at this;exact this
   have C:i<hs.length:=by rw[e1.out];exact c7
   have m5:i<(mix W V i).length:=by rw[a2p c0.out];exact g6
   have h5:Hid ((mix W V i)[i]=List.replicate (c+1) 0):=hid (by rw[a1S c0.out,if_neg (by omega)];exact q4.out);have h6:Hid ((mix W V i).set i (x++[b[i]])=mix W V (i+1)):=hid (by rw[<-k0.out];exact a4I c0.out g6);obtain⟨a,E,cr,f⟩:∃a E cr,hs[i]=(a,E,cr):=⟨_,_,_,rfl⟩;have H:E=c+1:=by
    have:=D.rlen i C m5;rw[f,h5.out,List.length_replicate]at this;exact this
   have hR:=D.row i C m5;rw[h5.out]at hR;simp only[f]at hR;have d3:=fun k (d:ob a k=true)=>D.mz_sub C k (by rw[f];exact d);have s2:=fun k (d:ob a k=true)=>D.sep i C k (by rw[f];exact d);have d2:Hid (un (cut (mz X ao hs) a) a=Z):=hid (by rw[a4D d3];exact f9.out);have l3:Hd a E:=by have:=hR.hd;rw[List.length_replicate,<-H]at this;exact this
   have y:=hid H;have y1:wr.cell? (adr ao i)=some (.slice a E cr):=by
    have:=(D.hdr i C).1;rw[f]at this;exact this
   have d9:Hid (ob a (adr ao i).block=false):=hid (by
    cases F:ob a (adr ao i).block
    ·rfl
    ·have h1:=(s2 _ F).2
     obtain⟨b0,o0,rfl⟩:=l8 (by omega);simp[ob,adr]at h1)
   have G:=hid f;have p8:Hid ((List.replicate (c+1) (0:Rat)).length=E):=hid (by rw[H];exact List.length_replicate);have n5:Sl QC 3 (mk (un (cut (mz X ao hs) a) a) wr) a1 x:=by rw[d2.out];exact d0
   clear k5 hx f H;obtain⟨wo,i0⟩:∃wo,wo=wr:=⟨_,rfl⟩;subst i0;go_wp2_with (first|(with_reducible refine a0v a0o ?_)|(refine a9a a0x QC.elem x rfl p8.out rfl P.out hR n5 (by rw[y.out];omega) (by have:=b5 (by omega);omega) ?_;intro K B s;have y5:=s.cellY y1 d9.out))
   have o7:x++List.drop c (List.replicate (c+1) (0:Rat))=x++[0]:=by rw[List.drop_replicate,show c+1 - c=1 by omega];rfl
   rw[o7]at B;have a7:∀k,ob a k=true->Z k=true:=fun k d=>by rw[<-f9.out];exact d3 k d
   have i4:Hid ((x++[(0:Rat)]).length=E):=hid (by rw[List.length_append,P.out,y.out];rfl);have N:=D.upd C (l:=x++[(0:Rat)]) (show ExtX (ob hs[i].1) wo K by rw[G.out];exact s) (fun r1=>by rw[h5.out,List.length_replicate,i4.out,y.out]) (by rw[G.out];exact B);have n7:=J.mono RC.mono (a0s s a7);have Q:=D.ext_from hE (c1B _) (ExtX.row C (show ExtX (ob hs[i].1) wo K by rw[G.out];exact s));have I:Hid ((x++[(0:Rat)]).set c b[i]=x++[b[i]]):=hid (by rw[List.set_append_right _ _ (by rw[P.out];exact c1B _),P.out,Nat.sub_self];rfl);have h7:c<(x++[(0:Rat)]).length:=by rw[i4.out,y.out];omega
   have q7:HX Z K:=by
    have h1:=N.hz (hX.ext Q);rw[f9.out]at h1;exact h1
   have z:=c1L K;obtain⟨g4,o4,s4,a4,n4,c4,d4,k4,e4,l6,q6,k7,n1⟩:=O.rat QV.shaped i m1;have d8:Hid (ob a g4=false):=hid (by
    cases F:ob a g4
    ·rfl
    ·have:=a7 g4 F;rw[q6]at this;simp at this)
   have s5:=O.mono QV.mono (a0s s a7);have n2:QV (mk Z K.drew) (.agg #[.bool s4,.slice a4 n4 c4,.slice d4 k4 e4]) b[i]:=mkx QV.mono (QV.mono _ _ _ _ (a0s s a7) n1) z;obtain⟨v,hv⟩:=c1F (b[i]);rw[hv]at I n2 h6;obtain⟨L,hL⟩:=c1F (x++[(0:Rat)]);rw[hL]at B N i4 I h7;obtain⟨L2,j0⟩:=c1F (x++[v]);rw[j0]at I h6;have j1:Hid (L2.length=L.length):=hid (by rw[<-I.out,List.length_set]);obtain⟨g,o,hg⟩:∃g o,adr a (c*3)=⟨g,o,none⟩:=⟨_,_,rfl⟩;have i2:∀W,(Instr.indexAt 24 (.slice a E cr) (.int .i64 (c:Int))).run Tryz.prog W=.ok (.pointer (some ⟨g,o,none⟩)) W:=by
    rw[<-hg];exact a0e a0x a E cr .i64 c l3 (by rw[y.out];omega)
   have i3:∀W,(Instr.indexAt 24 (.slice va n p0) (.int .i64 (i:Int))).run Tryz.prog W=.ok (.pointer (some ⟨g4,o4,none⟩)) W:=by
    rw[<-l6];exact a0e a0x va n p0 .i64 i l9 (by omega)
   have i1:∀W,(Instr.indexAt 23 (.slice ao n cap) (.int .i64 (i:Int))).run Tryz.prog W=.ok (.pointer (some (adr ao i))) W:=a0y a0o ao n cap .i64 i l8 (by omega) rfl;have l5:=hid hg;have hS:Hid (∀Y W',ExtX Y K.drew W'->Y (adr ao i).block=false->Y g4=false->W'.cell? (adr ao i)=some (.slice a E cr)/\W'.cell? ⟨g4,o4,none⟩=some (.bool s4)/\W'.cell? ⟨g4,o4+1,none⟩=some (.slice a4 n4 c4)/\W'.cell? ⟨g4,o4+2,none⟩=some (.slice d4 k4 e4)):=hid fun Y W' h s9 i5=>by
    have p:=k7.out (ob a) K.drew (s.trans (ExtX.of z)) d8.out;exact⟨h.cellY (z.cell y5) s9,h.cellY p.1 i5,h.cellY p.2.1 i5,h.cellY p.2.2 i5⟩
   obtain⟨t0,t2,t3,t4⟩:=hS.out noY K.drew (ExtX.refl _) rfl rfl;have j5:=B.ext0 QC.elem z;have p1:QV (mk Z K.drew) (.agg #[.bool false,.slice none 0 0,.slice none 0 0]) 0:=(QC.zero _).qv (by rw[a0U];decide);have qf:=b2U Z K.drew _ _ _ 0 (q7.ext z) n2 p1;rw[Rat.add_zero]at qf;have o1:Hid (un (cut (mz X ao hs) a) a=Z):=d2;clear o7 hL j0 hg l6 k7 n1 hv y1 y5 hR n5 d0 i6 D J O;go_region_held3 (fun w'=>w'.cell? (adr ao i)=some (.slice a E cr)/\w'.cell? ⟨g4,o4,none⟩=some (.bool s4)/\w'.cell? ⟨g4,o4+1,none⟩=some (.slice a4 n4 c4)/\w'.cell? ⟨g4,o4+2,none⟩=some (.slice d4 k4 e4))
    (first|exact hS.out noY _ t1 rfl rfl|exact hS.out (ob a) _ ((ExtX.of t1).trans e9.2) d9.out d8.out|go_keep)
    ((go_at_call 46;(with_reducible refine qf.mono ?_);rintro ee w6 ⟨t1,u6,rfl,a5⟩;obtain⟨s6,a6,n6,c6,d6,k6,e6,rfl⟩:=a5.shape;have j6:=j5.ext0 QC.elem t1;obtain⟨_,v0,v1,v2,_,⟨g0,f0⟩,⟨g1,f1⟩,⟨g2,f2⟩,_⟩:=j6.cell3 c h7 l5.out;have e9:=j6.set3 a3C QC.elem c h7 l5.out (v0:= .bool s6) (v1:= .slice a6 n6 c6) (v2:= .slice d6 k6 e6) (x:=v) (by rw[o1.out];exact a5)))
   obtain⟨q1,q2⟩:=e9;rw[I.out]at q1;obtain⟨w8,o5⟩:=c1F (((w6.setCell ⟨g,o,none⟩ (.bool s6)).setCell ⟨g,o+1,none⟩ (.slice a6 n6 c6)).setCell ⟨g,o+2,none⟩ (.slice d6 k6 e6));rw[o5]at q1 q2 |-;have o8:ExtX (ob hs[i].1) w6 w8:=by rw[G.out];exact q2
   have j4:=N.ext0 (z.trans t1);have U:=j4.upd C (l:=L2) o8 (fun r1=>by rw[List.getElem_set_self];exact j1.out) (by rw[G.out];exact q1);rw[List.set_set,h6.out]at U;have s0:=(n7.mono RC.mono (a0k (z.trans t1))).mono RC.mono (a0s q2 a7);have s7:=(s5.mono QV.mono (a0k (z.trans t1))).mono QV.mono (a0s q2 a7);have a8:=j4.ext_from (Q.trans (z.trans t1)) (c1B _) (ExtX.row C o8);clear t0 t2 t3 t4 g0 g1 g2 f0 f1 f2 i1 i2 i3 o5;go_wp2_with fail
   go_roundw
   case rel=>exact⟨i+1,by go_num,by omega,U,s0,s7,a8⟩
   case measure=>simp[intOf];omega
  ·have r2:i=n:=by omega
   subst r2;rw[a3E (by rw[t.out.1];exact c1B _) (by rw[f8.out];exact c1B _)]at D;have c2:=hX.ext hE;have q8:=D.hz c2;obtain⟨wo,i0⟩:∃wo,wo=wr:=⟨_,rfl⟩;subst i0;go_wp2_with ((with_reducible show wpList _ _ _ (⟨_,.makeSlice _ _ _,_,_,_,_⟩::_) _ _);refine a2x (R:=QC) a0x QC.elem (0:Rat) (fun _=>QC.zero _) (mz X ao hs) q8 wo.heap.size (c1B _) c rfl rfl rfl (by omega) (by omega) ?_;intro oo K B s)
   have t9:=hE.size;have b3:=fun k (d:ob oo k=true)=>B.block d;have m8:∀k,ob oo k=true->X k=false:=fun k d=>by
    cases hx:X k
    ·rfl
    ·have:=(b3 k d).1;have:=c2 k hx;omega
   have N:MO (un X oo) w2.heap.size 24 47 K ao cap hs W:=D.ext s (fun k _ d=>by simp[noY]at d) (fun k d hx=>by
    cases F:ob oo k
    ·simpa[un,F]using hx
    ·have:=(b3 k F).1;omega)
   have k1:HX (un X oo) K:=fun k d=>by
    by_cases hx:X k=true
    ·exact c2.ext s k hx
    ·exact(b3 k (by simpa[un,hx]using d)).2
   have Q:=hE.trans s;have c8:=a4J (un X oo) w2.heap.size K ao cap i (colsL W) hs W k1 N j9.out rfl (by omega) j8.out q0.out;rw[p7.out]at c8;have a2:=a1f t.out;obtain⟨⟨R,p⟩,f6⟩:∃S,a0J W (c+1)=S:=⟨_,rfl⟩;rw[f6]at c8 a2;have d7:=hid f6
   dsimp only at a2
   have f7:=hid a2.1;have p9:=hid a2.2.1;have e7:=hid b3;have m9:=hid m8;obtain⟨pl,c9⟩:=c1F p.length;have b4:=hid c9;have u8:pl<=i:=by have:=a2.2.1.le;omega
   clear a2 D d5 J O f6 b3 m8 c2 k1;refine c8.mono ?_;rintro ee w7 ⟨i9,po,pc,a3,rfl,m4,U,b9⟩
   dsimp only at U b9 |-
   rw[c9];have i8:=N.ext_from Q (c1B _) i9;have g9:=hid (U.len.trans f7.out.1);have u4:Hd po pl:=by have:=b9.hd;rw[c9]at this;exact this
   have n0:=hid (fun k (d:ob po k=true)=>b9.block d);have u3:Hd oo c:=by have:=B.hd;rw[List.length_replicate]at this;exact this
   obtain⟨M,b8⟩:=c1F (mz (un (un X oo) po) ao a3);have j2:=hid b8;have p5:OL QC 3 (cut M oo) wo.heap.size 47 w7 oo c (sN R p c 0):=B.ext QC.elem i9 (fun k _ d=>a2h.2 (.inr (a2D.1 d))) (fun k d hz=>by
    obtain⟨h1,h2⟩:=b0L hz;rw[<-b8]at h1;rcases a2h.1 h1 with h|h
    ·by_cases hx:X k=true
     ·exact a2h.2 (.inl hx)
     ·have:ob po k=true:=by simpa[un,hx,h2]using h
      have:=(n0.out k this).1;omega
    ·have h3:mb ao a3 k=true:=a2D.2 h
     rw[m4]at h3;exact a2h.2 (.inr (a2D.1 h3)))
   have r7:Hid (∀k,ob oo k=true->M k=true):=hid fun k d=>by rw[<-b8];exact a2h.2 (.inl (a0j (a0u d)))
   clear c8 N B m4 b8 c9;go_wp2_with fail
   go_loopw [62] (fun k wr=>∃(j:Nat),k=.int .i64 j/\j<=pl/\MO (un (un X oo) po) w2.heap.size 24 47 wr ao cap a3 R/\OL QC 3 (cut M oo) wo.heap.size 47 wr oo c (sN R p c j)/\OL (a0c .i64) 1 (mz (un X oo) ao hs) K.heap.size 3 wr po pc p/\Hid (∀k (d:k<p.length),k<j->p[k]≠c)/\Ext w2 wr) (fun k _=>pl - (intOf k).toNat)
   case atStart=>exact⟨0,rfl,Nat.zero_le _,U,p5,b9,hid (fun k _ h=>by omega),i8⟩
   case round=>
    obtain⟨j,rfl,hj,D,hO,hP,m6,hE⟩:=hrel;by_cases r5:j<pl
    ·have g8:j<p.length:=by rw[b4.out];exact r5
     have l1:=(hP.sl (a0c.elem _)).nat j g8;have e8:Hid (p[j]<c+1):=hid (p9.out.lt j g8);have l7:Hid (p.getD j 0=p[j]):=hid (by simp[List.getD_eq_getElem?_getD,g8]);have e3:Hid (p[j]∈p):=hid (c1E _);obtain⟨q,hq⟩:=c1F (p[j]);rw[hq]at l1 e8 l7 e3;have r8:=hid hq;clear hq;by_cases d1:q=c
     ·have F:((q:Int)==(c:Int))=true:=a6u (by omega)
      have h4:Hid (c∈p):=hid (d1▸e3.out);clear d1;go_wp2_with (with_reducible refine a0v a6e ?_)
      go_ret2
      unfold b1a;rw[d7.out];exact⟨hE,.inl ⟨h4.out,rfl⟩⟩
     ·have F:((q:Int)==(c:Int))=false:=a2C (by omega)
      have n3:q<c:=by have:=e8.out;omega
      have m7:Hid (∀k (d:k<p.length),k<j+1->p[k]≠c):=hid fun k d u7=>by
       by_cases h:k=j
       ·subst h;rw[r8.out];exact d1
       ·exact m6.out k d (by omega)
      have c5:j<a3.length:=by rw[g9.out];omega
      have g7:j<R.length:=by rw[f7.out.1];omega
      have h8:=hid (f7.out.2 R[j] (c1E _));obtain⟨a,E,cr,f⟩:∃a E cr,a3[j]=(a,E,cr):=⟨_,_,_,rfl⟩;have H:E=c+1:=by
       have:=D.rlen j c5 g7;rw[f,h8.out]at this;exact this
      have hR:=D.row j c5 g7;simp only[f]at hR;have d3:=fun k (d:ob a k=true)=>D.mz_sub c5 k (by rw[f];exact d);have d2:Hid (un (cut (mz (un (un X oo) po) ao a3) a) a=M):=hid (by rw[a4D d3];exact j2.out);have l3:Hd a E:=by have:=hR.hd;rw[h8.out,<-H]at this;exact this
      have y1:wr.cell? (adr ao j)=some (.slice a E cr):=by
       have:=(D.hdr j c5).1;rw[f]at this;exact this
      have k9:c<R[j].length:=by rw[h8.out];omega
      have q9:Hid (R[j][c]=ent R j c):=hid (by unfold ent;rw[a2M g7];simp[List.getD_eq_getElem?_getD,k9]);have o2:Hid (un (cut M oo) oo=M):=hid (a4D r7.out);have r9:q<(sN R p c j).length:=by rw[b0z];exact n3
      have s1:Hid ((sN R p c j).set q (ent R j c)=sN R p c (j+1)):=hid (by rw[<-l7.out];rfl);have y:=hid H;have t7:c<E:=by omega
      clear f H d1;go_wp2_with (first|(with_reducible refine a0v a6e ?_)|(with_reducible refine a0v a0o ?_)|(with_reducible refine a1w a0x ?_)|((with_reducible refine c1K (t:=47) ?_);refine a5i a0p c hR k9 rfl (by simp) QC.agg ?_;intro u6 a5;rw[q9.out,d2.out]at a5;obtain⟨s6,a6,n6,c6,d6,k6,e6,rfl⟩:=a5.shape)|((with_reducible refine c1J (t:=47) ?_);refine a2L a3C QC.elem q rfl (by simp) hO r9 _ (ent R j c) rfl (by rw[o2.out];exact a5) ?_;intro w8 j7 a8))
      rw[s1.out]at j7;have p4:=D.ext (X':=un (un X oo) po) a8 (fun k _ d=>a0j (a0u d)) (fun _ _ h=>h);have p6:=hP.frame (a0c.pure _) a8 (fun k d=>by
       cases F:ob oo k
       ·rfl
       ·have:=(n0.out k d).1;have:=(e7.out k F).2;omega) hP.1
      have p3:=hE.then_ a8 fun k d _=>by
       cases F:ob oo k
       ·rfl
       ·have:=(e7.out k F).1;omega
      clear y1 l1;go_roundw
      case rel=>exact⟨j+1,by go_num,by omega,p4,j7,p6,m7,p3⟩
      case measure=>simp[intOf];omega
    ·have r3:j=pl:=by omega
     subst r3;have r6:c∉p:=fun hm=>by
      obtain⟨k,d,r4⟩:=List.getElem_of_mem hm;exact m6.out k d (by rw[<-b4.out];exact d) r4
     have hs:=(hO.sl QC.elem).mono QC.mono (a1a (X:=X) fun k _ d=>a5f (by rw[<-j2.out];exact a2h.2 (.inl (a0j (a0j d)))) (by
      cases F:ob oo k
      ·rfl
      ·have:=m9.out k F;rw[d]at this;simp at this))
     have m3:=hO.lenCap;go_wp2_with fail
     go_ret2
     rw[<-b4.out]at hs m3;unfold b1a;rw[d7.out];exact⟨hE,.inr ⟨r6,.slice oo c c,rfl,oo,c,by show Value.slice oo c c=Value.slice oo (sN R p c p.length).length c;rw[b0z],m3,hs⟩⟩
noncomputable def fmS(m:Mom):Mat×List Nat:=a0J (a2Z m.xx m.xy m.xx.length) (m.xx.length+1)
noncomputable def fmC(m:Mom):List Rat:=b6j (fmS m).1 (fmS m).2 m.xx.length
theorem b8c(m:Mom):(fmC m).length=m.xx.length:=a9I _ _ _
theorem b1U{m:Mom}(h:a6N m=true):(0<=m.n/\m.n<=1099511627776)/\a0A m.xx=true/\m.xx.length=colsL m.xx/\m.xx.length=m.xy.length/\m.xy.length<=12:=by
 unfold a6N at h;rw[Bool.and_eq_true,Bool.and_eq_true,decide_eq_true_eq,decide_eq_true_eq]at h;exact⟨h.1,h.2.1,h.2.2.1,h.2.2.2.1,h.2.2.2.2⟩
theorem a5K{P:Program}{w:World}{fn:Func}{a:Array Value}{f c g i:Tmp}{t:TypeId}{n b:Nat}{d:Array Value}{T:TypeId}(h:fn.results=#[.tmp f,.cell c t,.tmp g,.tmp i])(j:a.getD c undef=.pointer (some ⟨b,0,none⟩))(k:a1M P t n)(l:Bx w b d T)(e:d.size=n):(results fn a).run P w=.ok (.tuple #[a.getD f undef,.agg d,a.getD g undef,a.getD i undef]) w:=by
 have m:=a2m (P:=P) k l e;rw[Array.getD_eq_getD_getElem?]at j;simp[results,h,j,asAddr,m]
def b3L(X:Nat->Bool)(w:World)(m:Mom)(e:Ending)(w':World):Prop:=Ext w w'/\∃z u k c,e=.returned (.tuple #[z,u,.int .i64 k,.int .i64 c])/\
 ((a6N m=false/\c=4/\k=0/\RC (mk X w') z []/\QC (mk X w') u 0)\/(a6N m=true/\m.xx.length∈(fmS m).2/\c=11/\k=0/\RC (mk X w') z []/\QC (mk X w') u 0)\/(a6N m=true/\m.xx.length∉(fmS m).2/\c=0/\k=(a8E m.xx m.xx.length:Int)/\RC (mk X w') z (fmC m)/\QC (mk X w') u (m.yy - a2S (fmC m) m.xy)))
theorem b3M(X:Nat->Bool)(w:World)(u:Value)(m:Mom)(hX:HX X w)(hu:b7S (mk X w) u m)(hl:m.xx.length<=4)(hB:BMo 6541 m):Calls Tryz.prog 110 #[u] w (b3L X w m):=by
 have I:=hid fun w' (h:Ext w w')=>a9Z X w' u m (hX.ext h) (mkx b7S.mono hu h) (by omega);obtain⟨xo,xl,xc,yo,yl,yc,s,a,n,c,d,k,e,rfl,hx,hy,c1⟩:=hu;obtain⟨W,hW,K,y,b1,hz⟩:=a1K w #[.int .i64 m.n,.slice xo xl xc,.slice yo yl yc,.bool s,.slice a n c,.slice d k e] #[.bool false,.slice none 0 0,.slice none 0 0] 124 47;have M:HX (a0f X w.heap.size 2) W:=hX.boxes hz;have U:Hid (∀w',Ext W w'->Le (mk X w) (mk (a0f X w.heap.size 2) w')):=hid fun w' h=>a0i (K.trans h);obtain⟨b,hb⟩:=c1F w.heap.size;rw[hb]at y b1 hz M U;obtain⟨N,hN⟩:=c1F m.n;rw[hN]at y hW I |-;have k0:=y.cell 0 rfl;have k1:=y.cell 1 rfl;have k2:=y.cell 2 rfl;have k3:=y.cell 3 rfl;have k4:=y.cell 4 rfl;have k5:=y.cell 5 rfl;have h0:QC (mk X W) (.agg #[.bool false,.slice none 0 0,.slice none 0 0]) 0:=QC.zero _;cases t:a6N m
 ·have A:=I.out W K
  rw[t]at A;have b8:=hid t;clear I t hN;go_enter Tryz.func110,Tryz.ntmps110
  go_wp2_with fail
  refine A.mono ?_;rintro ee w1 ⟨p,rfl⟩;have a5:=b1.ext0 p;clear A k0 k1 k2 k3 k4 k5;go_wp2_with ((with_reducible refine c1J (t:=47) ?_);refine a0a a0p rfl rfl a5 rfl rfl a1s ?_;intro w7 r1 r2)
  have a1:Ext w w7:=ExtX.box (K.trans p) r2 (by omega);exact bodyPost_ret (a5K rfl rfl a0p r1 rfl) rfl ⟨a1,_,_,_,_,rfl,.inl ⟨b8.out,rfl,rfl,SlV.zero _ _ _,QC.zero _⟩⟩
 ·obtain⟨_,hf,J,c7,_⟩:=b1U t
  obtain⟨B1,B2,B3⟩:=hB;obtain⟨E,_,_,_,_⟩:=a0w hf;rw[<-J]at E;have T:=a6C B1 (by decide);have b4:=(a3r (a2u (b:=m.xy) E) (b0P E T B2) hl (by decide)).1;have b3:=(a3r E T hl (by decide)).1.e;have O:BR 8500000 (fmC m):=fun q hq=>c1A (b3s E T B2 hl q hq) (by decide);have P:=b8c m;have Q:=a1D (l:=fmC m) (m:=m.xy) O (fun q hq=>c1A (B2 q hq) (by decide)) (by decide) (by omega) (by decide);have b7:Hid (hq (a2S (fmC m) m.xy)<=68719476736):=hid (Q.1 _ (c1B _));have i:=hid fun w' (h:Ext W w') (u v:Value) (L:MV (mk (a0f X b 2) w') u m.xx) (h2:RV (mk (a0f X b 2) w') v m.xy)=>b5H (a0f X b 2) w' u v m.xx m.xy m.xx.length m.xx.length (M.ext h) L h2 hf rfl J.symm c7.symm b4;have V:=hid fun w' (h:Ext W w') (u:Value) (L:MV (mk (a0f X b 2) w') u m.xx)=>b7R (a0f X b 2) w' u m.xx (M.ext h) L hf (by rw[<-J];exact b3);have R:=hid fun w' (u v:Value) (d7:HX (a0f X b 2) w') (L:RV (mk (a0f X b 2) w') u (fmC m)) (h2:RV (mk (a0f X b 2) w') v m.xy)=>a6l (a0f X b 2) w' u v (fmC m) m.xy d7 L h2 (by omega) (by omega) Q.1 Q.2;have c5:=hid fun w' (h:Ext W w')=>MV.mono _ _ _ _ (U.out w' h) hx;have c8:=hid fun w' (h:Ext W w')=>RV.mono _ _ _ _ (U.out w' h) hy;have e4:=hid fun w' (h:Ext W w')=>QV.mono _ _ _ _ (U.out w' h) c1;have B:Hid (m.xx.length∈(fmS m).2->∀(w':World) z u,Ext w w'->RC (mk X w') z []->QC (mk X w') u 0->b3L X w m (.returned (.tuple #[z,u,.int .i64 0,.int .i64 11])) w'):=hid fun L w' z u K hz hu=>⟨K,z,u,_,_,rfl,.inr (.inl ⟨t,L,rfl,rfl,hz,hu⟩)⟩;have g:Hid (m.xx.length∉(fmS m).2->∀(w':World) z u,Ext w w'->RC (mk X w') z (fmC m)->QC (mk X w') u (m.yy - a2S (fmC m) m.xy)->b3L X w m (.returned (.tuple #[z,u,.int .i64 (a8E m.xx m.xx.length:Int),.int .i64 0])) w'):=hid fun L w' z u K hz hu=>⟨K,z,u,_,_,rfl,.inr (.inr ⟨t,L,rfl,rfl,hz,hu⟩)⟩;have A:=I.out W K;rw[t]at A;rw[<-J]at V;unfold b1a at i;obtain⟨D,hD⟩:=c1F (a2S (fmC m) m.xy);rw[hD]at b7 R g;obtain⟨F,hF⟩:=c1F (b3L X w m);rw[hF]at B g |-;obtain⟨rk,Y⟩:=c1F (a8E m.xx m.xx.length);rw[Y]at V g;have b2:a0J (a2Z m.xx m.xy m.xx.length) (m.xx.length+1)=fmS m:=rfl;rw[b2]at i;have a7:b6j (fmS m).1 (fmS m).2 m.xx.length=fmC m:=rfl;rw[a7]at i;obtain⟨C,hC⟩:=c1F (fmC m);rw[hC]at i R g P O;obtain⟨S,a9⟩:=c1F (fmS m);rw[a9]at i B g;obtain⟨q,c0⟩:=c1F m.xx.length;rw[c0]at i B g P;have d1:Hid (BR 68719476736 C):=hid fun x hx=>c1A (O x hx) (by decide);have d2:=hid P;clear I t hN hf J c7 E T b4 b3 O Q hx hy c1 hD hF Y b2 a7 hC a9 c0 B1 B2 B3 hl P;go_enter Tryz.func110,Tryz.ntmps110
  go_wp2_with fail
  refine A.mono ?_;rintro ee w1 ⟨p,rfl⟩;have a4:=y.ext0 p;have a5:=b1.ext0 p;have j1:=a4.cell 1 rfl;have j2:=a4.cell 2 rfl;have a3:=i.out w1 p _ _ (c5.out w1 p) (c8.out w1 p);clear A k0 k1 k2 k3 k4 k5 i;go_wp2_with fail
  refine a3.mono ?_;rintro ee w2 ⟨d3,e1⟩;have o:=p.trans d3;rcases e1 with⟨r,rfl⟩|⟨r,cv,rfl,b6⟩
  ·have d0:=b1.ext0 o
   have H:=hid (B.out r);clear a3 r j1 j2 B g;go_wp2_with ((with_reducible refine c1J (t:=47) ?_);refine a0a a0p rfl rfl d0 rfl rfl a1s ?_;intro w7 r1 r2)
   have a1:Ext w w7:=ExtX.box (K.trans o) r2 (by omega);exact bodyPost_ret (a5K rfl rfl a0p r1 rfl) rfl (H.out w7 _ _ a1 (SlV.zero _ _ _) (QC.zero _))
  ·have H:=hid (g.out r)
   have c9:=y.ext0 o;have i1:=c9.cell 1 rfl;have c2:=V.out w2 o _ (c5.out w2 o);have G:=hid b6;obtain⟨co,cc,rfl,_,_⟩:=b6;rw[d2.out]at G |-;clear a3 r j1 j2 B g V;go_wp2_with fail
   refine c2.mono ?_;rintro ee w3 ⟨a0,rfl⟩;have a8:=o.trans a0;have a2:Ext w3 w3.drew:=(ExtX.refl _).drew;have f:=a8.trans a2;have hS:Hid (∀w',Ext w3.drew w'->w'.cell? ⟨b,3,none⟩=some (.bool s)/\w'.cell? ⟨b,3+1,none⟩=some (.slice a n c)/\w'.cell? ⟨b,3+2,none⟩=some (.slice d k e)/\w'.cell? ⟨b,2,none⟩=some (.slice yo yl yc)):=hid fun w' h=>by
    have b9:=y.ext0 (f.trans h);exact⟨b9.cell 3 rfl,b9.cell 4 rfl,b9.cell 5 rfl,b9.cell 2 rfl⟩
   obtain⟨g0,g1,g2,g3⟩:=hS.out _ (ExtX.refl _);have b5:HX (a0f X b 2) w3.drew:=M.ext f;have e0:=R.out w3.drew _ _ b5 ((mkx RC.mono G.out (a0.trans a2)).rv d1.out) (c8.out _ f);have e3:=e4.out w3.drew f;clear c2 i1 R;go_wp2_with fail
   go_region_held3 (fun w'=>w'.cell? ⟨b,3,none⟩=some (.bool s)/\w'.cell? ⟨b,3+1,none⟩=some (.slice a n c)/\w'.cell? ⟨b,3+2,none⟩=some (.slice d k e)/\w'.cell? ⟨b,2,none⟩=some (.slice yo yl yc))
    (first|exact hS.out _ t1|exact hS.out _ Z|exact⟨((y.ext0 (f.trans Z)).ext (j.set3 _ _ _).2 (a0b (by omega))).cell 3 rfl,((y.ext0 (f.trans Z)).ext (j.set3 _ _ _).2 (a0b (by omega))).cell 4 rfl,((y.ext0 (f.trans Z)).ext (j.set3 _ _ _).2 (a0b (by omega))).cell 5 rfl,((y.ext0 (f.trans Z)).ext (j.set3 _ _ _).2 (a0b (by omega))).cell 2 rfl⟩|go_keep)
    (first|(go_at_call 112;(with_reducible refine e0.mono ?_);rintro ee w5 ⟨t1,u5,rfl,e7⟩;have d8:=HX.ext b5 t1;have e2:=mkx QV.mono e3 t1;have c3:=e7.qv b7.out)|(go_at_call 37;(with_reducible refine(b4X (a0f X b 2) w5 _ _ _ _ d8 e2 c3).mono ?_);rintro ee w6 ⟨d4,u6,rfl,c4⟩;have Z:=t1.trans d4;obtain⟨s6,a6,n6,c6,d6,k6,e6,rfl⟩:=c4.shape;have j:=b1.ext0 (f.trans Z);have f0:=j.cell 0 rfl;have f1:=j.cell 1 rfl;have f2:=j.cell 2 rfl;have f3:=j.frozen 0;have f4:=j.frozen 1;have f5:=j.frozen 2))
   all_goals
    obtain⟨r1,r2⟩:=j.set3 (.bool s6) (.slice a6 n6 c6) (.slice d6 k6 e6);have h7:=QC.mono _ _ _ _ a0l (QC.mono _ _ _ _ (a0h r2 (by omega) (by omega)) c4);have d9:=RC.mono _ _ _ _ a0l (RC.mono _ _ _ _ (a0h r2 (by omega) (by omega)) (mkx RC.mono G.out (a0.trans (a2.trans Z))));have d5:Ext w _:=ExtX.box (K.trans (f.trans Z)) r2 (by omega);clear g0 g1 g2 g3 f0 f1 f2 f3 f4 f5 hS;go_wp2_with fail
    exact bodyPost_ret (a5K rfl rfl a0p r1 rfl) rfl (H.out _ _ _ d5 d9 h7)
theorem a5r(X:Nat->Bool)(w:World)(u v:Value)(l m:List Rat)(hX:HX X w)(hu:RV (mk X w) u l)(hv:RV (mk X w) v m)(hn:l.length<=1000000)(r:m.length=l.length)(C:∀k,k<=l.length->hq (a4q l m k)<=68719476736)(E:∀k,k<l.length->hq (l.getD k 0*m.getD k 0)<=68719476736):Calls Tryz.prog 70 #[u,v] w (a2b X w QC (a2S l m)):=by
 obtain⟨ao,ca,rfl,c9,b2⟩:=hu;obtain⟨bo,cb,rfl,d0,b3⟩:=hv;have Z:=b2.hd;have a0:=b3.hd;obtain⟨W,hW,hE,I,g,hz⟩:=a1K w #[.bool false,.slice none 0 0,.slice none 0 0] #[.bool false,.slice none 0 0,.slice none 0 0] 47 47;have B:HX (a0f X w.heap.size 2) W:=hX.boxes hz;obtain⟨n,q⟩:=c1F l.length;rw[q]at hn r C E c9 Z |-;rw[r]at d0 a0 |-;have a4:=hid q;have a5:=hid r;have P:=hid C;have Q:=hid E;have U:Hid (a4q l m n=a2S l m):=hid (by unfold a2S;rw[q]);clear q r C E;go_enter Tryz.func70,Tryz.ntmps70
 go_wp2_with ((with_reducible refine c1J ?_);refine a0a a0p rfl rfl g rfl rfl a1s ?_;intro W2 g J)
 obtain⟨b,hb⟩:=c1F w.heap.size;have a3:Hid (∀wr,Ext w wr->Le (mk X w) (mk (a0f X b 2) wr)):=hid fun wr h=>by rw[<-hb];exact a0i h
 have f8:w.heap.size<=b:=by omega
 have c3:Ext w W2:=ExtX.box hE J (by omega);have K:=I.ext J (a0b (by omega));have z:=B.ext J;have L:QC (mk (a0f X w.heap.size 2) W2) (.agg #[.bool false,.slice none 0 0,.slice none 0 0]) (a4q l m 0):=QC.zero _;rw[hb]at K g z L;rw[hb]at I B |-;clear hW I B hE;go_loopw [6] (fun k wr=>∃(i:Nat) (s:Bool) (a:Option Addr) (n' c':Nat) (d:Option Addr) (kk e:Nat),k=.int .i64 i/\i<=n/\Bx wr b #[.bool false,.slice none 0 0,.slice none 0 0] 47/\Bx wr (b+1) #[.bool s,.slice a n' c',.slice d kk e] 47/\QC (mk (a0f X b 2) wr) (.agg #[.bool s,.slice a n' c',.slice d kk e]) (a4q l m i)/\HX (a0f X b 2) wr/\Ext w wr) (fun k _=>n - (intOf k).toNat)
 case atStart=>exact⟨0,_,_,_,_,_,_,_,rfl,Nat.zero_le _,K,g,L,z,c3⟩
 case round=>
  obtain⟨i,s,a,n',c',d,kk,e,rfl,hi,I,g,hq,c8,p⟩:=hrel;by_cases G:i<n
  ·have a1:i<l.length:=by rw[a4.out];exact G
   have a2:i<m.length:=by rw[a5.out];exact G
   have d9:=b2.mono QV.mono (a3.out wr p);have b4:=b3.mono QV.mono (a3.out wr p);obtain⟨g1,o1,s1,p1,n1,q1,d1,k1,e1,V,f6,S,a8⟩:=d9.rat QV.shaped i a1;obtain⟨g2,o2,s2,p2,n2,q2,d2,k2,e2,Y,f7,T,a9⟩:=b4.rat QV.shaped i a2;have gl:Hid (l.getD i 0=l[i]):=hid (by simp[List.getD_eq_getElem?_getD,a1]);have gm:Hid (m.getD i 0=m[i]):=hid (by simp[List.getD_eq_getElem?_getD,a2]);have t:Hid (a4q l m i+l[i]*m[i]=a4q l m (i+1)):=hid (by rw[<-gl.out,<-gm.out];rfl);have R:=hid (P.out i hi);have F:=hid (Q.out i G);rw[gl.out,gm.out]at F;obtain⟨x,hx⟩:=c1F (l[i]);obtain⟨y,hy⟩:=c1F (m[i]);rw[hx,hy]at t F;rw[hx]at a8;rw[hy]at a9;have i1:∀W,(Instr.indexAt 24 (.slice ao n ca) (.int .i64 (i:Int))).run Tryz.prog W=.ok (.pointer (some ⟨g1,o1,none⟩)) W:=by rw[<-V];exact a0e a0x ao n ca .i64 i Z (by omega)
   have i2:∀W,(Instr.indexAt 24 (.slice bo n cb) (.int .i64 (i:Int))).run Tryz.prog W=.ok (.pointer (some ⟨g2,o2,none⟩)) W:=by rw[<-Y];exact a0e a0x bo n cb .i64 i a0 (by omega)
   obtain⟨D,hD⟩:=c1F (a4q l m i);obtain⟨D2,A⟩:=c1F (a4q l m (i+1));rw[hD]at hq t R;rw[A]at t;have M:=hid A;clear hx hy V Y hD A;have c:=c1L wr;have b9:=I.ext0 c;have j:=g.ext0 c;have b6:=j.cell 0 rfl;have b7:=j.cell 1 rfl;have b8:=j.cell 2 rfl;obtain⟨e4,e8,e9⟩:=S.out noY wr.drew c rfl;obtain⟨f3,f4,f5⟩:=T.out noY wr.drew c rfl;have O:=c8.ext c;have e0:QV (mk (a0f X b 2) wr.drew) (.agg #[.bool s1,.slice p1 n1 q1,.slice d1 k1 e1]) x:=mkx QV.mono a8 c;have e3:QV (mk (a0f X b 2) wr.drew) (.agg #[.bool s2,.slice p2 n2 q2,.slice d2 k2 e2]) y:=mkx QV.mono a9 c;have d5:QV (mk (a0f X b 2) wr.drew) (.agg #[.bool s,.slice a n' c',.slice d kk e]) D:=(mkx QC.mono hq c).qv R.out;clear S T;go_wp2_with fail
   go_region_with (first|(go_at_call 25;(with_reducible refine(a7Z (a0f X b 2) wr.drew _ _ _ _ O e0 e3).mono ?_);rintro ee w6 ⟨t1,u6,rfl,b5⟩;obtain⟨s6,a6,n6,c6,d6,k6,e6,rfl⟩:=b5.shape;have N:=O.ext t1;have d8:=mkx QV.mono d5 t1;have d4:=b5.qv F.out;have o:=j.ext0 t1;have m0:=o.cell 0 rfl;have m1:=o.cell 1 rfl;have m2:=o.cell 2 rfl)|(go_at_call 83;(with_reducible refine(b7E (a0f X b 2) w6 _ _ _ _ N d8 d4).mono ?_);rintro ee w7 ⟨t7,u7,rfl,H⟩;obtain⟨s7,a7,n7,c7,d7,k7,e7,rfl⟩:=H.shape;rw[t.out]at H;have f:=o.ext0 t7;have g0:=f.cell 0 rfl;have c1:=f.cell 1 rfl;have c2:=f.cell 2 rfl;have f0:=f.frozen 0;have f1:=f.frozen 1;have f2:=f.frozen 2))
   all_goals
    obtain⟨z1,z2⟩:=f.set3 (.bool s7) (.slice a7 n7 c7) (.slice d7 k7 e7);have h8:=QC.mono _ _ _ _ (a0h (lo:=b) (nb:=2) z2 (by omega) (by omega)) H;have c0:=((b9.ext0 t1).ext0 t7).ext z2 (a0b (by omega));have c4:Ext w _:=ExtX.box (p.trans (c.trans (t1.trans t7))) z2 (by omega);have c5:=(N.ext t7).ext z2;rw[<-M.out]at h8;clear b6 b7 b8 e4 e8 e9 f3 f4 f5 m0 m1 m2 g0 c1 c2 f0 f1 f2 i1 i2;go_wp2_with fail
    go_roundw
    case rel=>exact⟨i+1,_,_,_,_,_,_,_,by go_num,by omega,c0,z1,h8,c5,c4⟩
    case measure=>simp[intOf];omega
  ·have d3:i=n:=by omega
   subst d3;rw[U.out]at hq;have b6:=g.cell 0 rfl;have b7:=g.cell 1 rfl;have b8:=g.cell 2 rfl;go_wp2_with ((with_reducible refine c1J ?_);refine a0a a0p rfl rfl I rfl rfl a1s ?_;intro w7 r1 J)
   have h7:=QC.mono _ _ _ _ a0l (QC.mono _ _ _ _ (a0h J (by omega) (by omega)) hq);exact bodyPost_ret (a0d rfl rfl a0p r1 rfl) rfl ⟨ExtX.box p J (by omega),_,rfl,h7⟩
theorem b5I(X:Nat->Bool)(w:World)(u v t:Value)(x:Mat)(y b:List Rat)(n c B:Nat)(hX:HX X w)(hu:MV (mk X w) u x)(hv:RV (mk X w) v y)(ht:RV (mk X w) t b)(d:Shp n c x)(hy:y.length=n)(hb:b.length=c)(hn:n<=96)(hc:c<=96)(b7:BM B x)(R:BR B b)(c7:1<=B)(c8:200*B<=68000000000):Calls Tryz.prog 111 #[u,v,t] w (a2b X w RC (a4r x y b)):=by
 obtain⟨L,hL⟩:=c1F (a4r x y b);have F:Hid (L.length=n):=hid (by rw[<-hL,a5k (by rw[hy,d.1]),d.1]);have d0:Hid (∀i (h1:i<x.length) (h2:i<y.length) (h:i<L.length),L[i]=y[i] - a2S x[i] b):=hid fun i h1 h2 h=>by subst hL;exact a6F h h1 h2
 have g0:L.length<=n:=by rw[F.out];exact c1B _
 have g3:n<=L.length:=by rw[F.out];exact c1B _
 obtain⟨J,uc,rfl,f0,b5⟩:=hu;obtain⟨va,vc,rfl,f1,b6⟩:=hv;have a0:=b5.hd;have a3:=b6.hd;have f2:=hid d.1;have f3:=hid hy;have d9:=hid hb;have e7:=hid d.2;have b8:=hid b7;have S:=hid R;rw[d.1]at a0 f0 |-;rw[hy]at a3 f1 |-;rw[hL];clear hL d hy hb b7 R;go_enter Tryz.func111,Tryz.ntmps111
 go_wp2_with fail
 go_loopw [7,12] (fun o k wr=>∃(i:Nat) (oo:Option Addr) (co:Nat),k=.int .i64 i/\o=.slice oo i co/\i<=n/\OL QC 3 X w.heap.size 47 wr oo co (L.take i)/\Ext w wr) (fun _ k _=>n - (intOf k).toNat)
 case atStart=>exact⟨0,none,0,rfl,rfl,Nat.zero_le _,OL.nil _ _ _ _ _ _,ExtX.refl _⟩
 case round=>
  obtain⟨i,oo,co,rfl,rfl,hi,A,E⟩:=hrel;have P:HX X wr:=hX.ext E;have Q:HX (un X oo) wr:=A.unX P;have d8:=E.size;by_cases a8:i<n
  ·have a5:i<x.length:=by rw[f2.out];exact a8
   have a7:i<y.length:=by rw[f3.out];exact a8
   have a4:i<L.length:=by omega
   have a:=c1L wr;have e8:Sl RV 1 (mk (un X oo) wr) J x:=b5.old RV.mono E (fun j hj=>A.ob_lt hj);have f4:Sl QV 3 (mk (un X oo) wr) va y:=b6.old QV.mono E (fun j hj=>A.ob_lt hj);have e0:RV (mk (un X oo) wr) t b:=a2j RV.mono ht E (fun j hj=>A.ob_lt hj);have b3:=hid (a0I L i a4);have e4:=hid (a0O (l:=L) (i:=i) (by omega));obtain⟨a1,c1,d1,q,C,b1⟩:=e8.row i a5;obtain⟨s,H,s2,a2,n2,c2,d2,k2,e2,Z,d3,T,b2⟩:=f4.rat QV.shaped i a7;have a9:=(a0V d1).2;have b0:=(a0V d3).2;have g:=e7.out x[i] (c1E _);have r:=a1D (b8.out x[i] (c1E _)) S.out c7 (by rw[g];exact hc) c8;have U:Hid (hq (a2S x[i] b)<=68719476736):=hid (r.1 _ (c1B _));have e:=a6l (un X oo) wr.drew (.slice a1 x[i].length c1) t x[i] b (Q.ext a) (mkx RV.mono ⟨a1,c1,rfl,C,b1⟩ a) (mkx RV.mono e0 a) (by rw[g];omega) (by rw[g,d9.out]) r.1 r.2;have f:=d0.out i a5 a7 a4;have b9:=mkx QV.mono b2 a;obtain⟨D,hD⟩:=c1F (a2S x[i] b);obtain⟨yi,c3⟩:=c1F (y[i]);obtain⟨z,hz⟩:=c1F (L[i]);rw[hD]at U e f;rw[c3]at b9 f;rw[hz]at f b3;rw[g]at q e;have V:=hid f;have d7:HX (un X oo) wr.drew:=Q;have i2:∀W,(Instr.indexAt 24 (.slice va n vc) (.int .i64 (i:Int))).run Tryz.prog W=.ok (.pointer (some ⟨s,H,none⟩)) W:=by rw[<-Z];exact a0e a0x va n vc .i64 i a3 (by omega)
   have i1:∀W,(Instr.indexAt 23 (.slice J n uc) (.int .i64 (i:Int))).run Tryz.prog W=.ok (.pointer (some (adr J i))) W:=a0y a0o J n uc .i64 i a0 (by omega) rfl;have O:Hid (∀Y W',ExtX Y wr.drew W'->Y s=false->Y (adr J i).block=false->W'.cell? ⟨s,H,none⟩=some (.bool s2)/\W'.cell? ⟨s,H+1,none⟩=some (.slice a2 n2 c2)/\W'.cell? ⟨s,H+2,none⟩=some (.slice d2 k2 e2)/\W'.cell? (adr J i)=some (.slice a1 c c1)):=hid fun Y W' h hg e1=>by
    have p2:=T.out Y W' ((ExtX.of a).trans h) hg;exact⟨p2.1,p2.2.1,p2.2.2,q.out Y W' ((ExtX.of a).trans h) e1⟩
   obtain⟨f5,f6,f7,f8⟩:=O.out noY wr.drew (ExtX.refl _) rfl rfl;have c4:=q.out noY wr (ExtX.refl _) rfl;clear q T Z b1 b2 g C r f hD c3 hz;go_wp2_with fail
   go_region_held3 (fun w'=>w'.cell? ⟨s,H,none⟩=some (.bool s2)/\w'.cell? ⟨s,H+1,none⟩=some (.slice a2 n2 c2)/\w'.cell? ⟨s,H+2,none⟩=some (.slice d2 k2 e2))
    (first|exact(let p:=O.out noY _ m rfl rfl;⟨p.1,p.2.1,p.2.2.1⟩)|exact(let p:=O.out noY _ (m.trans I) rfl rfl;⟨p.1,p.2.1,p.2.2.1⟩)|exact(let p:=O.out noY _ (ExtX.alloc (m.trans I) _) rfl rfl;⟨p.1,p.2.1,p.2.2.1⟩)|exact(let p:=O.out (ob oo) _ ((ExtX.of (m.trans I)).trans K) b0 a9;⟨p.1,p.2.1,p.2.2.1⟩)|go_keep)
    (first|(go_at_call 112;(with_reducible refine e.mono ?_);rintro ee w6 ⟨m,u6,rfl,e9⟩;have b4:=e9.qv U.out;have c0:=mkx QV.mono b9 m;have d4:=d7.ext m)|(go_at_call 37;(with_reducible refine(b4X (un X oo) w6 _ _ _ _ d4 c0 b4).mono ?_);rintro ee w8 ⟨I,u7,rfl,G⟩;obtain⟨s6,a6,n6,c6,d6,k6,e6,rfl⟩:=G.shape;rw[<-V.out]at G;have M:=A.ext0 QC.elem (a.trans (m.trans I));have g1:=(a.trans (m.trans I)).size;have d5:=P.ext (a.trans (m.trans I)))|(refine a1p (l:=L.take i) rfl (by rfl) a0x rfl QC.elem (by omega) d5 i e4.out rfl rfl M (.agg #[.bool s6,.slice a6 n6 c6,.slice d6 k6 e6]) z rfl G (by omega) (by omega) ?_;intro f9 c5 w7 N K g4))
   have c9:=(E.trans (a.trans (m.trans I))).own M (c1B _) K;rw[b3.out]at N;clear f5 f6 f7 f8 c4 i1 i2;go_wp2_with fail
   go_roundw
   case rel=>exact⟨i+1,f9,c5,by go_num,by go_num,by omega,N,c9⟩
   case measure=>simp[intOf];omega
  ·have e3:i=n:=by omega
   subst e3;rw[c1D (by omega)]at A;have hc:=A.lenCap;have hs:=A.sl QC.elem;go_wp2_with fail
   go_ret
   exact⟨E,_,rfl,oo,co,by rw[F.out];rfl,hc,hs⟩
theorem b5J(X:Nat->Bool)(w:World)(u v t:Value)(x:Mat)(y b:List Rat)(n c B:Nat)(hX:HX X w)(hu:MV (mk X w) u x)(hv:RV (mk X w) v y)(ht:RV (mk X w) t b)(d:Shp n c x)(hy:y.length=n)(hb:b.length=c)(hn:n<=96)(hc:c<=96)(b6:BM B x)(Q:BR B b)(c4:1<=B)(c5:200*B<=68000000000):Calls Tryz.prog 71 #[u,v,t] w (a2b X w RC (a4r x y b)):=by
 obtain⟨L,hL⟩:=c1F (a4r x y b);have C:Hid (L.length=n):=hid (by rw[<-hL,a5k (by rw[hy,d.1]),d.1]);have c8:Hid (∀i (h1:i<x.length) (h2:i<y.length) (h:i<L.length),L[i]=y[i] - a2S x[i] b):=hid fun i h1 h2 h=>by subst hL;exact a6F h h1 h2
 have f8:L.length<=n:=by rw[C.out];exact c1B _
 have g0:n<=L.length:=by rw[C.out];exact c1B _
 obtain⟨I,uc,rfl,e8,b4⟩:=hu;obtain⟨va,vc,rfl,e9,b5⟩:=hv;have Z:=b4.hd;have a0:=b5.hd;have f0:=hid d.1;have f1:=hid hy;have d7:=hid hb;have e3:=hid d.2;have b7:=hid b6;have R:=hid Q;rw[d.1]at Z e8 |-;rw[hy]at a0 e9 |-;rw[hL];clear hL d hy hb b6 Q;go_enter Tryz.func71,Tryz.ntmps71
 go_wp2_with fail
 go_loopw [7,8] (fun o k wr=>∃(i:Nat) (oo:Option Addr) (co:Nat),k=.int .i64 i/\o=.slice oo i co/\i<=n/\OL QC 3 X w.heap.size 47 wr oo co (L.take i)/\Ext w wr) (fun _ k _=>n - (intOf k).toNat)
 case atStart=>exact⟨0,none,0,rfl,rfl,Nat.zero_le _,OL.nil _ _ _ _ _ _,ExtX.refl _⟩
 case round=>
  obtain⟨i,oo,co,rfl,rfl,hi,r,A⟩:=hrel;have O:HX X wr:=hX.ext A;have P:HX (un X oo) wr:=r.unX O;have d5:=A.size;by_cases a7:i<n
  ·have a4:i<x.length:=by rw[f0.out];exact a7
   have a5:i<y.length:=by rw[f1.out];exact a7
   have a3:i<L.length:=by omega
   have a:=c1L wr;have e4:Sl RV 1 (mk (un X oo) wr) I x:=b4.old RV.mono A (fun j hj=>r.ob_lt hj);have f2:Sl QV 3 (mk (un X oo) wr) va y:=b5.old QV.mono A (fun j hj=>r.ob_lt hj);have d8:RV (mk (un X oo) wr) t b:=a2j RV.mono ht A (fun j hj=>r.ob_lt hj);have b2:=hid (a0I L i a3);have e1:=hid (a0O (l:=L) (i:=i) (by omega));obtain⟨a1,c1,c9,E,s,b0⟩:=e4.row i a4;obtain⟨q,G,s2,a2,n2,c2,d2,k2,e2,V,d0,S,b1⟩:=f2.rat QV.shaped i a5;have a8:=(a0V c9).2;have a9:=(a0V d0).2;have g:=e3.out x[i] (c1E _);have p:=a1D (b7.out x[i] (c1E _)) R.out c4 (by rw[g];exact hc) c5;have T:Hid (hq (a2S x[i] b)<=68719476736):=hid (p.1 _ (c1B _));have e:=a5r (un X oo) wr.drew (.slice a1 x[i].length c1) t x[i] b (P.ext a) (mkx RV.mono ⟨a1,c1,rfl,s,b0⟩ a) (mkx RV.mono d8 a) (by rw[g];omega) (by rw[g,d7.out]) p.1 p.2;have f:=c8.out i a4 a5 a3;have b8:=mkx QV.mono b1 a;obtain⟨D,hD⟩:=c1F (a2S x[i] b);obtain⟨yi,c0⟩:=c1F (y[i]);obtain⟨z,hz⟩:=c1F (L[i]);rw[hD]at T e f;rw[c0]at b8 f;rw[hz]at f b2;rw[g]at E e;have U:=hid f;have d4:HX (un X oo) wr.drew:=P;have i2:∀W,(Instr.indexAt 24 (.slice va n vc) (.int .i64 (i:Int))).run Tryz.prog W=.ok (.pointer (some ⟨q,G,none⟩)) W:=by rw[<-V];exact a0e a0x va n vc .i64 i a0 (by omega)
   have i1:∀W,(Instr.indexAt 23 (.slice I n uc) (.int .i64 (i:Int))).run Tryz.prog W=.ok (.pointer (some (adr I i))) W:=a0y a0o I n uc .i64 i Z (by omega) rfl;have N:Hid (∀Y W',ExtX Y wr.drew W'->Y q=false->Y (adr I i).block=false->W'.cell? ⟨q,G,none⟩=some (.bool s2)/\W'.cell? ⟨q,G+1,none⟩=some (.slice a2 n2 c2)/\W'.cell? ⟨q,G+2,none⟩=some (.slice d2 k2 e2)/\W'.cell? (adr I i)=some (.slice a1 c c1)):=hid fun Y W' h hg d9=>by
    have p2:=S.out Y W' ((ExtX.of a).trans h) hg;exact⟨p2.1,p2.2.1,p2.2.2,E.out Y W' ((ExtX.of a).trans h) d9⟩
   obtain⟨f3,f4,f5,f6⟩:=N.out noY wr.drew (ExtX.refl _) rfl rfl;clear E S V b0 b1 g s p f hD c0 hz;go_wp2_with fail
   go_region_held3 (fun w'=>w'.cell? ⟨q,G,none⟩=some (.bool s2)/\w'.cell? ⟨q,G+1,none⟩=some (.slice a2 n2 c2)/\w'.cell? ⟨q,G+2,none⟩=some (.slice d2 k2 e2)/\w'.cell? (adr I i)=some (.slice a1 c c1))
    (first|exact N.out noY _ m rfl rfl|exact N.out noY _ (m.trans H) rfl rfl|exact N.out noY _ (ExtX.alloc (m.trans H) _) rfl rfl|exact N.out (ob oo) _ ((ExtX.of (m.trans H)).trans J) a9 a8|go_keep)
    (first|(go_at_call 70;(with_reducible refine e.mono ?_);rintro ee w6 ⟨m,u6,rfl,e7⟩;have b3:=e7.qv T.out;have b9:=mkx QV.mono b8 m;have d1:=d4.ext m)|(go_at_call 41;(with_reducible refine(b9l (un X oo) w6 _ _ _ _ d1 b9 b3).mono ?_);rintro ee w8 ⟨H,u7,rfl,F⟩;obtain⟨s6,a6,n6,c6,d6,k6,e6,rfl⟩:=F.shape;rw[<-U.out]at F;have K:=r.ext0 QC.elem (a.trans (m.trans H));have f9:=(a.trans (m.trans H)).size;have d3:=O.ext (a.trans (m.trans H)))|(refine a1p (l:=L.take i) rfl (by rfl) a0x rfl QC.elem (by omega) d3 i e1.out rfl rfl K (.agg #[.bool s6,.slice a6 n6 c6,.slice d6 k6 e6]) z rfl F (by omega) (by omega) ?_;intro f7 c3 w7 M J g1))
   have c7:=(A.trans (a.trans (m.trans H))).own K (c1B _) J;rw[b2.out]at M;clear f3 f4 f5 f6 i1 i2;go_wp2_with fail
   go_roundw
   case rel=>exact⟨i+1,f7,c3,by go_num,by go_num,by omega,M,c7⟩
   case measure=>simp[intOf];omega
  ·have e0:i=n:=by omega
   subst e0;rw[c1D (by omega)]at r;have hc:=r.lenCap;have hs:=r.sl QC.elem;go_wp2_with fail
   go_ret
   exact⟨A,_,rfl,oo,co,by rw[C.out];rfl,hc,hs⟩
theorem b9I{X:Nat->Bool}{oo a:Option Addr}{w:World}(b:a=oo\/∃g,a=some ⟨g,0,none⟩/\w.heap.size<=g):∀k,k<w.heap.size->un X a k=true->un X oo k=true:=fun k e h=>by
 rcases b with rfl|⟨g,rfl,d⟩
 ·exact h
 ·by_cases c:X k=true
  ·exact a0j c
  ·exfalso
   have:g=k:=by simpa[un,c,ob]using h
   omega
def b2i(hs:List Hdr)(i:Nat):Option Addr:=(hs.getD i (none,0,0)).1
theorem a5s{hs:List Hdr}{i:Nat}(h:i<hs.length):b2i hs i=hs[i].1:=by simp[b2i,List.getD_eq_getElem?_getD,h]
structure CS (R:Mem->Value->Rat->Prop) (X:Nat->Bool) (base:Nat) (e1 e2:TypeId) (w:World) (oo:Option Addr) (co:Nat) (hs:List Hdr) (M:Mat) (i:Nat) (L:List Rat):Prop where
 outer:OL HdR 1 X base e1 w oo co hs
 len:hs.length=M.length
 done:∀k (_:k<i) (h1:k<hs.length) (h2:k<M.length),hs[k].2.1=M[k].length/\hs[k].2.1<=hs[k].2.2/\Sl R 3 (mk (un (un X oo) (b2i hs i)) w) hs[k].1 M[k]
 row:∀h1:i<hs.length,hs[i].2.1=L.length/\OL R 3 (un X oo) base e2 w (b2i hs i) hs[i].2.2 L
 rest:∀k,i<k->(h:k<hs.length)->hs[k]=(none,0,0)
section
variable {R:Mem->Value->Rat->Prop} {X:Nat->Bool} {base:Nat} {e1 e2:TypeId} {w w':World} {oo:Option Addr} {co:Nat} {hs:List Hdr} {M:Mat} {i:Nat} {L:List Rat}
theorem CS.start{n:Nat}(d:OL HdR 1 X base e1 w oo co (List.replicate n (none,0,0)))(b:M.length=n)(e2:TypeId):CS R X base e1 e2 w oo co (List.replicate n (none,0,0)) M 0 []:=by
 refine⟨d,by rw[List.length_replicate,b],fun k e=>by omega,fun a=>?_,fun k _ h=>by simp⟩;have c:b2i (List.replicate n (none,0,0)) 0=none:=by rw[a5s a];simp
 rw[c];refine⟨by simp,?_⟩;have:((List.replicate n ((none,0,0):Hdr))[0]).2.2=0:=by simp
 rw[this];exact OL.nil _ _ _ _ _ _
theorem CS.ext0(f:Elem R 3)(h:CS R X base e1 e2 w oo co hs M i L)(e:Ext w w'):CS R X base e1 e2 w' oo co hs M i L:=
 ⟨h.outer.ext0 HdR.elem e,h.len,fun k j d g=>let ⟨a,b,c⟩:=h.done k j d g;⟨a,b,c.mono f.mono (a0k e)⟩,fun d=>let ⟨a,b⟩:=h.row d;⟨a,b.ext0 f e⟩,h.rest⟩
theorem CS.next(o:Elem R 3)(h:CS R X base e1 e2 w oo co hs M i L)(s:i<M.length)(n:L=M[i]):CS R X base e1 e2 w oo co hs M (i+1) []:=by
 have g:i<hs.length:=by rw[h.len];exact s
 obtain⟨q,m⟩:=h.row g;have d:∀f:i+1<hs.length,hs[i+1]=(none,0,0):=fun f=>h.rest (i+1) (by omega) f;have p:b2i hs (i+1)=none:=by
  by_cases f:i+1<hs.length
  ·rw[a5s f,d f]
  ·simp[b2i,List.getD_eq_getElem?_getD,f]
 have l:un (un X oo) none=un X oo:=by funext k;simp[un,ob]
 refine⟨h.outer,h.len,fun k j f r=>?_,fun f=>?_,fun k j f=>h.rest k (by omega) f⟩
 ·rw[p,l]
  by_cases e:k=i
  ·subst e
   have e2:=a5s f;rw[e2]at m;refine⟨by rw[q,n],by rw[q];exact m.lenCap,?_⟩;rw[<-n];exact m.sl o
  ·obtain⟨a,b,c⟩:=h.done k (by omega) f r
   exact⟨a,b,c.mono o.mono (a1a fun k _ j=>a0j j)⟩
 ·rw[p]
  refine⟨by rw[d f];rfl,?_⟩;have:hs[i+1].2.2=0:=by rw[d f]
  rw[this];exact OL.nil _ _ _ _ _ _
theorem CS.mc(l:Elem R 3)(h:CS R X base e1 e2 w oo co hs M M.length []):SlV (SlV R 3) 1 (YtjmnhbebpffoaaaGreat.mk X w) (.slice oo M.length co) M:=by
 have g:=h.len;refine⟨oo,co,rfl,by rw[<-g];exact h.outer.lenCap,fun o=>?_,fun k e=>?_⟩
 ·have:=h.outer.hd;rw[g]at this;exact this o
 ·have d:k<hs.length:=by omega
  obtain⟨u,i,q,rfl⟩:=h.outer.cell HdR.one k d;obtain⟨a,b,c⟩:=h.done k e d e;refine⟨.slice hs[k].1 hs[k].2.1 hs[k].2.2,rfl,fun j n=>?_,?_⟩
  ·have f:j=0:=by simp[Value.cells]at n;omega
   subst f;unfold YtjmnhbebpffoaaaGreat.mk;have m:X (adr oo (k*1+0)).block=false:=by
    obtain⟨b,p,rfl⟩:=h.outer.hd (by omega);exact h.outer.1 _ (by simp[ob,adr])
   rw[m];simpa[Value.cells]using i
  ·rw[a]
   exact⟨_,_,rfl,by rw[<-a];exact b,c.mono l.mono (a1a fun k _ e=>a0j (a0j e))⟩
theorem CS.outer7(h:CS R X base e1 e2 w oo co hs M i L)(c:i<hs.length)(a:ExtX (ob (b2i hs i)) w w'):OL HdR 1 X base e1 w' oo co hs:=
 h.outer.frame HdR.pure a (fun k d=>by
  cases b:ob (b2i hs i) k
  ·rfl
  ·have:=(a0V ((h.row c).2.1 k b)).2;rw[d]at this;cases this) h.outer.1
theorem CS.push(p:Elem R 3)(h:CS R X base e1 e2 w oo co hs M i L)(B:i<hs.length){v:Rat}{d:Option Addr}{e n:Nat}{u x:World}(C:n=L.length+1)(r:OL R 3 (un X oo) base e2 u d e (L++[v]))(m:ExtX (ob (b2i hs i)) w u)(t:d=b2i hs i\/∃g,d=some ⟨g,0,none⟩/\w.heap.size<=g)(f:ExtX (ob oo) u x)(o:OL HdR 1 X base e1 x oo co (hs.set i (d,n,e))):CS R X base e1 e2 x oo co (hs.set i (d,n,e)) M i (L++[v]):=by
 subst C;have y:b2i (hs.set i (d,L.length+1,e)) i=d:=by rw[a5s (by rw[List.length_set];exact B)];simp
 refine⟨o,by rw[List.length_set];exact h.len,fun k j l A=>?_,fun l=>?_,fun k j l=>?_⟩
 ·have s:k<hs.length:=by simpa using l
  obtain⟨a,b,c⟩:=h.done k j s A;rw[y,List.getElem_set_ne (by omega)];refine⟨a,b,?_⟩;have z:=c.mono p.mono (a1g (Z:=un (un X oo) d) m (fun q _ hq=>a0u hq) (fun q hq hz=>b9I (X:=un X oo) t q hq hz));exact z.mono p.mono (a1g f (fun q _ hq=>a0j (a0u hq)) (fun _ _ h=>h))
 ·rw[y]
  refine⟨by simp,?_⟩;have:(hs.set i (d,L.length+1,e))[i].2.2=e:=by simp
  rw[this];exact r.ext p f (fun k _ j=>a0u j) (fun _ _ h=>h)
 ·rw[List.getElem_set_ne (by omega)]
  exact h.rest k j (by simpa using l)
end
theorem a6O{p:List Nat}{c:Nat}(b:p.Pairwise (· < ·))(a:∀j∈p,j<c):(List.range c).filter (fun j=>decide (j∈p))=p:=by
 refine b0m _ _ ?_ b fun x=>?_
 ·exact(List.pairwise_lt_range (n:=c)).filter _
 ·simp only[List.mem_filter,List.mem_range,decide_eq_true_eq]
  exact⟨fun h=>h.2,fun h=>⟨a x h,h⟩⟩
def pkR(r:List Rat)(us:List Bool)(j:Nat):List Rat:=((List.range j).filter fun i=>us.getD i false).map fun i=>r.getD i 0
theorem b3N{r:List Rat}{a:List Bool}{j:Nat}(h:a.getD j false=true):pkR r a (j+1)=pkR r a j++[r.getD j 0]:=by
 unfold pkR;rw[List.range_succ,List.filter_append,show List.filter (fun i=>a.getD i false) [j]= [j]from by simp only[List.filter,h],List.map_append];rfl
theorem b6E{r:List Rat}{a:List Bool}{j:Nat}(h:a.getD j false=false):pkR r a (j+1)=pkR r a j:=by
 unfold pkR;rw[List.range_succ,List.filter_append,show List.filter (fun i=>a.getD i false) [j]= []from by simp only[List.filter,h],List.append_nil]
theorem b3O{r:List Rat}{p:List Nat}{c:Nat}(d:p.Pairwise (· < ·))(b:∀j∈p,j<c):pkR r (YtjmnhbebpffoaaaGreat.usedL p c) c=p.map fun j=>r.getD j 0:=by
 have e:(List.range c).filter (fun i=>(YtjmnhbebpffoaaaGreat.usedL p c).getD i false)=p:=by
  rw[<-a6O d b];refine List.filter_congr fun j a=>?_;have a:=List.mem_range.1 a;simp[YtjmnhbebpffoaaaGreat.usedL,List.getD_eq_getElem?_getD,a]
 unfold pkR;rw[e]
theorem b8d(r:List Rat)(a:List Bool)(j:Nat):(pkR r a j).length<=j:=by
 unfold pkR;rw[List.length_map];exact c1A (List.length_filter_le _ _) (by rw[List.length_range];exact c1B _)
theorem b1V(X:Nat->Bool)(w:World)(u:Value)(uo:Option Addr)(uc:Nat)(x:Mat)(p:List Nat)(n c:Nat)(hX:HX X w)(hu:MV (mk X w) u x)(b3:Sl BlR 1 (mk X w) uo (usedL p c))(F:Shp n c x)(hn:n<=96)(hc:c<=96)(hp:p.Pairwise (· < ·))(d2:∀j∈p,j<c)(_hxB:BM 68719476736 x):Calls Tryz.prog 114 #[u,.slice uo c uc] w (a2b X w MV (pkL x p)):=by
 obtain⟨M,hM⟩:=c1F (pkL x p);have a4:Hid (M.length=n):=hid (by rw[<-hM,a8c];exact F.1);have c0:Hid (∀i (h1:i<x.length) (h:i<M.length),pkR x[i] (usedL p c) c=M[i]):=hid fun i h1 h=>by subst hM;rw[b3O hp d2];simp[pkL]
 obtain⟨o,H⟩:=c1F (usedL p c);have Z:Hid (o.length=c):=hid (by rw[<-H];exact a2k p c);obtain⟨ua,h6,rfl,e0,d9⟩:=hu;have f4:=d9.hd;have g4:=hid F.1;have g0:=hid F.2;rw[H]at c0 b3;have c6:=b3.hd;rw[Z.out]at c6;rw[F.1]at f4 e0 |-;rw[hM];clear hM H F hp d2 _hxB;go_enter Tryz.func114,Tryz.ntmps114
 go_wp2_with ((with_reducible show wpList _ _ _ (⟨_,.makeSlice _ _ _,_,_,_,_⟩::_) _ _);refine a2x (R:=HdR) a0o HdR.elem (none,0,0) (fun _=>rfl) X hX w.heap.size (c1B _) n rfl rfl rfl (by omega) (by omega) ?_;intro oo w1 c2 b8)
 have b5:=CS.start (R:=QV) c2 a4.out 47;clear c2;go_loopw [15] (fun k wr=>∃(i:Nat) (hs:List Hdr),k=.int .i64 i/\i<=n/\hs.length=n/\CS QV X w.heap.size 24 47 wr oo n hs M i []/\Ext w wr) (fun k _=>n - (intOf k).toNat)
 case atStart=>exact⟨0,_,rfl,Nat.zero_le _,List.length_replicate,b5,b8⟩
 case round=>
  obtain⟨i,hs,rfl,hi,d,s,m⟩:=hrel;have e9:HX X wr:=hX.ext m;clear b5 b8;by_cases b1:i<n
  ·have c8:i<x.length:=by rw[g4.out];exact b1
   have f1:HX (un X oo) wr:=s.outer.unX e9;have g8:=m;obtain⟨a1,c1,g7,a7,U,P⟩:=d9.row i c8;have E:=g0.out x[i] (c1E _);have T:=hid fun h=>c0.out i c8 h;obtain⟨r,hr⟩:=c1F (x[i]);rw[hr]at a7 U P E T;have d6:=hid E;rw[E]at a7 U;have g9:Hd a1 c:=by have:=P.hd;rw[E]at this;exact this
   have g5:=a7.out noY wr m rfl;clear E hr;obtain⟨wo,g3⟩:∃wo,wo=wr:=⟨_,rfl⟩;subst g3;go_wp2_with (with_reducible refine a0v a0o ?_)
   go_loopw [22] (fun k wx=>∃(j:Nat) (hs:List Hdr),k=.int .i64 j/\j<=c/\hs.length=n/\CS QV X w.heap.size 24 47 wx oo n hs M i (pkR r o j)/\Ext w wx) (fun k _=>c - (intOf k).toNat)
   case atStart=>exact⟨0,hs,rfl,Nat.zero_le _,d,s,m⟩
   case round=>
    clear s d g5 f1;obtain⟨j,hs,rfl,hj,d,s,m⟩:=hrel;by_cases d0:j<c
    ·have b0:j<r.length:=by rw[d6.out];exact d0
     have c9:j<o.length:=by rw[Z.out];exact d0
     have f:i<hs.length:=by rw[d];exact b1
     have Q:=P.mono QV.mono (a0k m);have kb:=a1H ((b3.mono BlR.mono (a0k m)).bl j c9);have bx:=Bx.new wr #[.bool false,.slice none 0 0,.slice none 0 0] 47;have a8:Hid (o.getD j false=o[j]):=hid (by simp[List.getD_eq_getElem?_getD,c9]);have f3:Hid (r.getD j 0=r[j]):=hid (by simp[List.getD_eq_getElem?_getD,b0]);obtain⟨b,hb⟩:=c1F (o[j]);rw[hb]at kb a8;have iu:∀W,(Instr.indexAt 65 (.slice uo c uc) (.int .i64 (j:Int))).run Tryz.prog W=.ok (.pointer (some (adr uo j))) W:=a0y a8Y uo c uc .i64 j c6 (by omega) rfl;clear hb;cases b
     ·have f8:Hid (pkR r o (j+1)=pkR r o j):=hid (b6E a8.out)
      go_wp2_with (first|(with_reducible refine a1w a0x ?_)|((with_reducible refine c1K (t:=47) ?_);refine a0z a0p j Q b0 rfl (by simp) QV.agg ?_;intro u5 G;obtain⟨s5,a5,n5,c5,d5,m5,e5,rfl⟩:=G.shape)|((with_reducible refine c1J (t:=47) ?_);refine a0a a0p rfl rfl bx rfl rfl a1s ?_;intro w5 y1 y2;have t:=c1M y2;have g6:=t.cell kb))
      have b6:=s.ext0 QV.elem t;rw[<-f8.out]at b6;go_roundw
      case rel=>exact⟨j+1,hs,by go_num,by omega,d,b6,m.trans t⟩
      case measure=>simp[intOf];omega
     ·have I:Hid (pkR r o (j+1)=pkR r o j++[r[j]]):=hid (by rw[<-f3.out];exact b3N a8.out)
      have g:=s.row f;have D:=hid (b8d r o j);obtain⟨L,hL⟩:=c1F (pkR r o j);rw[hL]at s I g D;obtain⟨q,hq⟩:=c1F L.length;have d3:=hid hq;have B:=a5s f;obtain⟨h0,a9⟩:=c1F (hs[i]);rw[a9]at g B;obtain⟨J,N,ci⟩:=h0;obtain⟨b2,y⟩:=g
      dsimp only at b2 y B
      rw[B]at y;obtain rfl:N=q:=b2.trans hq;have h3:N<=j:=by rw[<-hq];exact D.out
      have C:=hid B;have c3:=hid a9;obtain⟨v,hv⟩:=c1F (r[j]);have g2:=hid hv;rw[hv]at I;have c4:Hd oo n:=by have:=s.outer.hd;rw[d]at this;exact this
      have d1:∀k,ob J k=true->k<wr.heap.size:=fun k V=>(y.block V).2;have d7:∀k,ob oo k=true->ob J k=false:=fun k V=>by
       cases hc:ob J k
       ·rfl
       ·have:=(a0V (y.1 k hc)).2;rw[V]at this;cases this
      have Q:Sl QV 3 (mk (un (un X oo) J) wr) a1 r:=P.mono QV.mono (a1g m (fun k _ V=>by simp[noY]at V) fun k V hz=>by
       by_cases hx:X k=true
       ·exact hx
       ·exfalso
        have e1:ob oo k=false:=s.outer.ob_lt V;have e2:ob J k=false:=y.ob_lt V;simp[un,hx,e1,e2]at hz)
      clear hq B a9 hv hL b2;go_wp2_with (first|(with_reducible refine a1w a0x ?_)|((with_reducible refine c1K (t:=47) ?_);refine a0z a0p j Q b0 rfl (by simp) QV.agg ?_;intro u5 G;rw[g2.out]at G;obtain⟨s5,a5,n5,c5,d5,m5,e5,rfl⟩:=G.shape)|((with_reducible refine c1J (t:=47) ?_);refine a0a a0p rfl rfl bx rfl rfl a1s ?_;intro w5 y1 y2;have t:=c1M y2;have g6:=t.cell kb))
      have e:Ext wr w5.drew:=t.drew;have a3:=s.ext0 QV.elem e;have d4:=y.ext0 QV.elem e;obtain⟨z,f2⟩:=c1F wr.heap.size;rw[f2]at y1;obtain⟨u0,q0,h5,d8⟩:=s.outer.cell HdR.one i f;rw[c3.out]at d8;obtain rfl:u0=.slice J N ci:=d8;have hS:Hid (∀Y w',ExtX Y w5.drew w'->(∀k,ob oo k=true->Y k=false)->Y z=false->w'.cell? (adr oo i)=some (.slice J N ci)/\w'.cell? ⟨z,0,none⟩=some (.bool s5)/\w'.cell? ⟨z,0+1,none⟩=some (.slice a5 n5 c5)/\w'.cell? ⟨z,0+2,none⟩=some (.slice d5 m5 e5)):=hid fun Y w' h h1 h2=>by
       have b4:=(y1.ext0 (ExtX.refl w5).drew).ext h h2;refine⟨((ExtX.of e).trans h).cellY q0 (h1 _ ?_),b4.cell 0 rfl,b4.cell 1 rfl,b4.cell 2 rfl⟩;obtain⟨b,h4,rfl⟩:=c4 (by omega);simp[ob,adr]
      have i9:∀W,(Instr.indexAt 23 (.slice oo n n) (.int .i64 (i:Int))).run Tryz.prog W=.ok (.pointer (some (adr oo i))) W:=a0y a0o oo n n .i64 i c4 (by omega) rfl;have e8:HX (un X oo) w5.drew:=a3.outer.unX (hX.ext (m.trans e));have g1:=mkx QV.mono G e;clear kb bx Q;refine a0n 10 (fun w'=>w'.cell? (adr oo i)=some (.slice J N ci)/\w'.cell? ⟨z,0,none⟩=some (.bool s5)/\w'.cell? ⟨z,0+1,none⟩=some (.slice a5 n5 c5)/\w'.cell? ⟨z,0+2,none⟩=some (.slice d5 m5 e5)) (by kernel_rfl) (by kernel_rfl) (hS.out noY _ (ExtX.refl _) (fun _ _=>rfl) rfl) (fun A a=>?_);refine kt 0 a ?_;refine kt 1 a ?_;refine kt 2 a ?_;refine kt 3 a ?_;refine kt 4 a ?_;refine kt 5 a ?_;refine kt 6 a ?_;refine ks 7 (fun K S=>?_);go_simp
      skip
      refine kcn S (hS.out noY _ ((ExtX.refl _).alloc _) (fun _ _=>rfl) rfl) (fun A=>?_);clear S K;refine ks 8 (fun K S=>?_)
      (refine a1p (l:=L) rfl (by rfl) a0x rfl QV.elem (c1A (m.trans e).size (c1B _)) e8 N d3.out rfl rfl d4 (.agg #[.bool s5,.slice a5 n5 c5,.slice d5 m5 e5]) v rfl g1 (by omega) (by omega) ?_;intro a0 a2 w7 e7 O f9)
      refine kcn S (hS.out (ob J) w7 O d7 (by cases hc:ob J z;rfl;exact absurd (d1 z hc) (by omega))) (fun A=>?_);clear S K;have a6:=a3.outer7 f (by rw[C.out];exact O);obtain⟨_,p0,f0,_⟩:=a6.cell HdR.one i f;refine kt 9 a ?_;refine kl 10 (fun K S=>?_);go_simp
      refine S.out _ _ ?_;clear S K;obtain⟨e6,b9⟩:=a6.set1 a3L HdR.elem HdR.one i f (.slice a0 (N+1) a2) (a0,N+1,a2) rfl;have b7:=a3.push QV.elem (n:=N+1) f (by rw[d3.out]) e7 (by rw[C.out];exact O) (by rw[C.out];exact f9) b9 e6;have e4:=((m.trans e).own d4 (c1B _) O).own a6 (c1B _) b9;rw[<-I.out]at b7;have f7:(hs.set i (a0,N+1,a2)).length=n:=by rw[List.length_set];exact d
      clear p0 f0;go_wp2_with fail
      go_roundw
      case rel=>exact⟨j+1,_,by go_num,by omega,f7,b7,e4⟩
      case measure=>simp[intOf];omega
    ·have f6:j=c:=by omega
     subst f6;have c7:i<M.length:=by rw[a4.out];exact b1
     have e3:=s.next QV.elem c7 (T.out c7);go_wp2_with fail
     go_roundw
     case rel=>exact⟨i+1,hs,by go_num,by omega,d,e3,m⟩
     case measure=>simp[intOf];omega
  ·have f5:i=n:=by omega
   subst f5;have hl:=a4.out;subst hl;have hm:=s.mc QV.elem;go_wp2_with fail
   go_ret
   exact⟨m,_,rfl,hm⟩
end Go.Proofs.YtjmnhbebpffoaaaGreat
