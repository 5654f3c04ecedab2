/- Parts of a proof: each theorem states what it proves, and its conditions. -/
import Derived.Test.YtgbbpgflopajaaaGreatSpK
import Derived.WalkMore
import Derived.ArgAppend
import Derived.WalkKit
import Derived.Deep.RegionHeld3
import Derived.Deep.RegionLaw
import Derived.Deep.AppendLies
set_option maxRecDepth 100000
set_option maxHeartbeats 3200000
namespace Go.Proofs.YtgbbpgflopajaaaGreat
open Go.RowKit Go.Rep Go.Lim Go.Lin
theorem a6y(X:Nat->Bool)(w:World)(u v:Value)(l m:List Rat)(hX:HX X w)(hu:RV (mk X w) u l)(hv:RV (mk X w) v m)(hn:l.length<=1000000)(q:m.length=l.length)(B:∀k,k<=l.length->hq (a2U l m k)<=68719476736)(C:∀k,k<l.length->hq (l.getD k 0*m.getD k 0)<=68719476736):Calls Tryz.prog 199 #[u,v] w (a1Y X w QC (a1Z l m)):=by
 obtain⟨ao,ca,rfl,c3,a4⟩:=hu;obtain⟨bo,cb,rfl,c4,a8⟩:=hv;have c8:=a4.hd;have V:=a8.hd;obtain⟨W,hW,hE,J,z,hz⟩:=a1x w #[.bool false, .slice none 0 0, .slice none 0 0] #[.bool false, .slice none 0 0, .slice none 0 0] 38 38;have N:HX (a0e X w.heap.size 2) W:=hX.boxes hz;have h0:QC (mk (a0e X w.heap.size 2) W) (.agg #[.bool false, .slice none 0 0, .slice none 0 0]) (a2U l m 0):=QC.zero _;obtain⟨n,p⟩:∃n,l.length=n:=⟨_,rfl⟩;rw[p]at hn q B C c3 c8 |-;rw[q]at c4 V |-;have a1:=hid p;have a2:=hid q;have P:=hid B;have Q:=hid C;have T:Hid (a2U l m n=a1Z l m):=hid (by unfold a1Z;rw[p]);clear p q B C;go_enter Tryz.func199,Tryz.ntmps199
 go_wp2_with fail
 obtain⟨b,hb⟩:∃b,w.heap.size=b:=⟨_,rfl⟩;have a0:Hid (∀wr,Ext w wr->Le (mk X w) (mk (a0e X b 2) wr)):=hid fun wr h=>by rw[<-hb];exact a0l h
 have F:w.heap.size<=b:=by omega
 rw[hb]at J z N h0 |-;clear hW;go_loopw [10] (fun k wr=>∃(i:Nat) (s:Bool) (a:Option Addr) (n' c':Nat) (d:Option Addr) (kk e:Nat),k= .int .i64 i/\i<=n/\Bx wr b #[.bool false, .slice none 0 0, .slice none 0 0] 38/\Bx wr (b+1) #[.bool s, .slice a n' c', .slice d kk e] 38/\QC (mk (a0e X b 2) wr) (.agg #[.bool s, .slice a n' c', .slice d kk e]) (a2U l m i)/\HX (a0e X b 2) wr/\Ext w wr) (fun k _=>n - (intOf k).toNat)
 case atStart=>exact⟨0,_,_,_,_,_,_,_,rfl,Nat.zero_le _,J,z,h0,N,hE⟩
 case round=>
  obtain⟨i,s,a,n',c',d,kk,e,rfl,hi,J,z,hq,c2,o⟩:=hrel;by_cases G:i<n
  ·have Y:i<l.length:=by rw[a1.out];exact G
   have Z:i<m.length:=by rw[a2.out];exact G
   have d4:=a4.mono QV.mono (a0.out wr o);have a9:=a8.mono QV.mono (a0.out wr o);obtain⟨g2,o2,s2,p2,n2,q2,d2,k2,e2,U,f4,S,a3⟩:=a9.rat QV.shaped i Z;have gl:Hid (l.getD i 0=l[i]):=hid (by simp[List.getD_eq_getElem?_getD,Y]);have gm:Hid (m.getD i 0=m[i]):=hid (by simp[List.getD_eq_getElem?_getD,Z]);have r:Hid (a2U l m i+l[i]*m[i]=a2U l m (i+1)):=hid (by rw[<-gl.out,<-gm.out];rfl);have R:=hid (P.out i hi);have E:=hid (Q.out i G);rw[gl.out,gm.out]at E;obtain⟨x,hx⟩:∃x,l[i]=x:=⟨_,rfl⟩;obtain⟨y,hy⟩:∃y,m[i]=y:=⟨_,rfl⟩;rw[hx,hy]at r E;rw[hy]at a3;have d8:=hid hx;have i2:∀W,(Instr.indexAt 25 (.slice bo n cb) (.int .i64 (i:Int))).run Tryz.prog W= .ok (.pointer (some ⟨g2,o2,none⟩)) W:=by rw[<-U];exact a0h a0w bo n cb .i64 i V (by omega)
   have bx:=Bx.new wr #[.bool false, .slice none 0 0, .slice none 0 0] 38;obtain⟨D,hD⟩:∃D,a2U l m i=D:=⟨_,rfl⟩;obtain⟨D2,A⟩:∃D2,a2U l m (i+1)=D2:=⟨_,rfl⟩;rw[hD]at hq r R;rw[A]at r;have K:=hid A;clear hx hy U hD A;go_wp2_with (first|(with_reducible refine a1I a0w (by omega) (by assumption) ?_)|((with_reducible show wpList _ _ _ (⟨_, .load 38 _,_,_,_,_⟩::_) _ _);refine a0C a0o i d4 Y rfl (by simp) QV.agg ?_;intro u5 H;rw[d8.out]at H;obtain⟨s5,a5,n5,c5,d5,k5,e5,rfl⟩:=H.shape)|((with_reducible show wpList _ _ _ (⟨_, .store _ _ _,_,_,_,_⟩::_) _ _);refine a0a a0o rfl rfl bx rfl rfl (a1z _ _ _ _ _ _ _) ?_;intro t r1 r2))
   have b9:Ext wr t:=ExtX.box ((ExtX.refl wr).alloc _) r2 (Nat.le_refl _);have L:Ext t t.drew:=(ExtX.refl t).drew;have c:=b9.trans L;have b6:=J.ext0 c;have g:=z.ext0 c;have r5:=r1.ext0 L;obtain⟨bw,F⟩:∃bw,wr.heap.size=bw:=⟨_,rfl⟩;rw[F]at r5;have b3:=g.cell 0 rfl;have b4:=g.cell 1 rfl;have b5:=g.cell 2 rfl;have e1:=r5.cell 0 rfl;have e3:=r5.cell 1 rfl;have e4:=r5.cell 2 rfl;obtain⟨e8,e9,f3⟩:=S.out noY t.drew c rfl;have O:=c2.ext c;have d9:QV (mk (a0e X b 2) t.drew) (.agg #[.bool s5, .slice a5 n5 c5, .slice d5 k5 e5]) x:=mkx QV.mono H c;have e0:QV (mk (a0e X b 2) t.drew) (.agg #[.bool s2, .slice p2 n2 q2, .slice d2 k2 e2]) y:=mkx QV.mono a3 c;have d1:QV (mk (a0e X b 2) t.drew) (.agg #[.bool s, .slice a n' c', .slice d kk e]) D:=(mkx QC.mono hq c).qv R.out;clear bx r1 S;rw[F];go_wp2_with fail
   go_region_with (first|(go_at_call 124;(with_reducible refine(b4F (a0e X b 2) t.drew _ _ _ _ O d9 e0).mono ?_);rintro ee w6 ⟨t1,u6,rfl,b2⟩;obtain⟨s6,a6,n6,c6,d6,k6,e6,rfl⟩:=b2.shape;have M:=O.ext t1;have d3:=mkx QV.mono d1 t1;have d0:=b2.qv E.out;have j:=g.ext0 t1;have m0:=j.cell 0 rfl;have m1:=j.cell 1 rfl;have m2:=j.cell 2 rfl)|(go_at_call 77;(with_reducible refine(b1G (a0e X b 2) w6 _ _ _ _ M d3 d0).mono ?_);rintro ee w7 ⟨t7,u7,rfl,I⟩;obtain⟨s7,a7,n7,c7,d7,k7,e7,rfl⟩:=I.shape;rw[r.out]at I;have f:=j.ext0 t7;have g0:=f.cell 0 rfl;have g1:=f.cell 1 rfl;have b8:=f.cell 2 rfl;have f0:=f.frozen 0;have f1:=f.frozen 1;have f2:=f.frozen 2))
   all_goals
    obtain⟨z1,z2⟩:=f.set3 (.bool s7) (.slice a7 n7 c7) (.slice d7 k7 e7);have h8:=QC.mono _ _ _ _ (a0g (lo:=b) (nb:=2) z2 (by omega) (by omega)) I;have b7:=((b6.ext0 t1).ext0 t7).ext z2 (a0b (by omega));have c0:Ext w _:=ExtX.box (o.trans (c.trans (t1.trans t7))) z2 (by omega);have c1:=(M.ext t7).ext z2;rw[<-K.out]at h8;clear b3 b4 b5 e1 e3 e4 e8 e9 f3 m0 m1 m2 g0 g1 b8 f0 f1 f2 i2;go_wp2_with fail
    go_roundw
    case rel=>exact⟨i+1,_,_,_,_,_,_,_,by go_num,by omega,b7,z1,h8,c1,c0⟩
    case measure=>simp[intOf];omega
  ·have c9:i=n:=by omega
   subst c9;rw[T.out]at hq;have b3:=z.cell 0 rfl;have b4:=z.cell 1 rfl;have b5:=z.cell 2 rfl;go_wp2_with ((with_reducible show wpList _ _ _ (⟨_, .store _ _ _,_,_,_,_⟩::_) _ _);refine a0a a0o rfl rfl J rfl rfl (a1z _ _ _ _ _ _ _) ?_;intro w7 r1 r2)
   have h7:=QC.mono _ _ _ _ a0k (QC.mono _ _ _ _ (a0g r2 (by omega) (by omega)) hq);exact bodyPost_ret (a0d rfl rfl a0o r1 rfl) rfl ⟨ExtX.box o r2 (by omega),_,rfl,h7⟩
theorem b8Q(X:Nat->Bool)(w:World)(u:Value)(m:List (List Rat))(k:HX X w)(n:MV (mk X w) u m)(i:a0y m=true)(r:b8v m (colsL m)):Calls Tryz.prog 263 #[u] w (fun e x=>Ext w x/\e= .returned (.tuple #[.int .i64 (a8Y m (colsL m):Int), .int .i64 0])):=by
 obtain⟨d,o,l,_,_⟩:=a0D i;have c:=a2l X w u m n (by omega);rw[i]at c;have h:=a3u X w u m m.length (colsL m) k n d rfl (by omega) (by omega);have j:Hid ((eN m (colsL m)).2.1.length=a8Y m (colsL m)):=hid rfl;clear i;go_enter Tryz.func263,Tryz.ntmps263
 go_wp2_with fail
 refine c.mono ?_;rintro e B ⟨rfl,rfl⟩;go_wp2_with fail
 refine h.mono ?_;rintro e y ⟨a,ao,cap,t,rfl,b⟩;go_wp2_with fail
 refine(a6T X _ y ao cap m.length (colsL m) t m (k.ext a) b d rfl (by omega) (by omega) r).mono ?_;rintro e C ⟨f,A,z,v,rfl,s,p,q⟩;have g:=b.ext_from a (Nat.le_refl _) f;rw[j.out];go_wp2_with fail
 go_ret2
 exact⟨g,rfl⟩
end Go.Proofs.YtgbbpgflopajaaaGreat
namespace Go.Rep
open Go.RowKit Go.Lim
section
variable {P:Program} {ops:Array Oper} {Q:Exit->Act->World->Prop} {rest:List Oper} {a:Act} {w:World}
variable {α:Type} {R:Mem->Value->α->Prop} {sz:Nat} {X:Nat->Bool} {base:Nat} {e:TypeId} {ao:Option Addr} {cap:Nat} {l:List α}
variable {d:Option Tmp} {ty:TypeId} {ps:String} {af:Array Edge}
theorem OL.run_copy{t M:Nat}{z:Value}(T:SliceT P t e sz M z)(K:Elem R sz)(h:OL R sz X base e w ao cap l)(sa:Option Addr)(ca:Nat)(a:List Value)(b:List α)(hat:At w sa a)(n:a.length=b.length)(hxs:∀i (hi:i<a.length) (a3:i<b.length),R (mk (un X ao) w) a[i] b[i])(r:b.length<=l.length)(h0:0<b.length)(ty:TypeId):∃w',(Builtin.copy_ #[t,t] ty #[.slice ao l.length cap, .slice sa b.length ca]).run P w= .ok (goInt b.length) w'/\OL R sz X base e w' ao cap (b++l.drop b.length)/\ExtX (ob ao) w w':=by
 obtain⟨i,hi,hz,a1,a2⟩:=info_parts T.info;have s:∀u∈a,u.cells.size=sz:=by
  intro v q;obtain⟨i,hi,rfl⟩:=List.getElem_of_mem q;exact K.size _ _ _ (hxs i hi (by omega))
 have p:∀u∈a,∀c∈a0j u,c.oneCell'=true:=by
  intro v q;obtain⟨i,hi,rfl⟩:=List.getElem_of_mem q;exact K.one _ _ _ (hxs i hi (by omega))
 have A:∀v∈a.flatMap a0j,v.oneCell'=true:=by
  intro c L;obtain⟨v,q,S⟩:=List.mem_flatMap.1 L;exact p v q c S
 obtain⟨sb,so,rfl⟩:=hat.1 (by omega);have y:∀j u,(a.flatMap a0j)[j]? =some u->w.cell? ((⟨sb,so,none⟩:Addr).add j)=some u:=by
  intro j u W;rw[<-a7L rfl];exact hat.2 j u W
 have f:(a.flatMap a0j).length=b.length*sz:=by rw[a0Q a s,n]
 have x:=h.form;obtain⟨hx,us,h1,h2,O,h3,h5⟩:=h;rcases x with⟨rfl,rfl,rfl⟩|⟨g,d,rfl,h6,Q,h8,h9,C⟩
 ·simp at r;subst r;simp at h0
 have F:0+(a.flatMap a0j).length<=d.size:=by
  rw[Nat.zero_add,f,C];exact Nat.mul_le_mul_right _ (by omega)
 have Z:=run_loadCells_list (P:=P) w ⟨sb,so,none⟩ (a.flatMap a0j) y;have a0:=run_storeCells_at P g 0 e (a.flatMap a0j) 0 d w Q (by simpa using F) A;have hE:ExtX (ob (some ⟨g,0,none⟩)) w (w.setRow g (d.toList.take (0+0)++a.flatMap a0j++d.toList.drop (0+0+(a.flatMap a0j).length)).toArray):=
  ⟨rfl,rfl,rfl,by simp,fun k _ r=>setRow_other w g k _ (fun ek=>by subst ek;simp[ob]at r)⟩
 have J:Nat.min b.length l.length=b.length:=Nat.min_eq_left r;have E:∀u∈a++us.drop b.length,u.cells.size=sz:=by
  intro u m;rcases List.mem_append.1 m with m|m
  ·exact s u m
  ·exact h2 u (List.mem_of_mem_drop m)
 have o:(a++us.drop b.length).length=(b++l.drop b.length).length:=by simp[n,h1]
 refine⟨_,?_,⟨hx,a++us.drop b.length,o,E,?_,⟨?_, .inr ⟨g,cap,_,by simp,h6,setRow_heap w g d _ e _ Q,by simp;omega,h9,?_,?_⟩⟩,?_⟩,hE⟩
 ·have G:(loadCells ⟨sb,so,none⟩ (b.length*i.size)).run P w= .ok (a.flatMap a0j).toArray w:=by rw[a1,<-f];exact Z
  simp[Builtin.copy_,run_underlying T.und,Builtin.lenOf,Builtin.firstCells,sizeOf,typeInfo,hi,J,G,a0]
 ·intro u m c L
  rcases List.mem_append.1 m with m|m
  ·exact p u m c L
  ·exact O u (List.mem_of_mem_drop m) c L
 ·rw[a0Q _ E,o]
 ·simp only[List.size_toArray,List.length_append,List.length_take,List.length_drop,Array.length_toList,C,Nat.add_zero,Nat.zero_add,f]
  have:=Nat.mul_le_mul_right sz (show b.length<=cap by omega);omega
 ·rcases h3.2 with⟨q,_⟩|⟨g',c',B,q,_,D,_,_,_,N⟩
  ·simp at q
  simp at q;obtain⟨rfl,rfl⟩:=q;rw[Q]at D;obtain rfl:d=B:=by simpa using D
  have V:us.flatMap a0j=(us.take b.length).flatMap a0j++(us.drop b.length).flatMap a0j:=by
   rw[<-List.flatMap_append,List.take_append_drop]
  have U:((us.take b.length).flatMap a0j).length=b.length*sz:=by
   rw[a0Q _ (fun u m=>h2 u (List.mem_of_mem_take m))];simp[h1,Nat.min_eq_left r]
  have hdr:(us.drop b.length).flatMap a0j=(d.toList.take (l.length*sz)).drop (b.length*sz):=by
   rw[N,V,<-U,List.drop_left]
  rw[List.flatMap_append,hdr];simp only[Nat.zero_add,List.take_zero,List.nil_append,f,List.length_append,List.length_drop,Nat.add_sub_cancel' r];rw[List.take_append,List.take_of_length_le (by rw[f];exact Nat.mul_le_mul_right _ r),f,List.drop_take]
 ·intro j W a4
  have H:Le (mk (un X (some ⟨g,0,none⟩)) w) (mk (un X (some ⟨g,0,none⟩)) _):=a3o hE (.inl rfl);by_cases I:j<a.length
  ·simpa[List.getElem_append_left I,List.getElem_append_left (show j<b.length by omega)]using K.mono _ _ _ _ H (hxs j I (by omega))
  ·have Y:b.length+(j - b.length)<us.length:=by simp at W;omega
   have:=K.mono _ _ _ _ H (h5 (b.length+(j - b.length)) Y (by omega));have e1:b.length+(j - b.length)=j:=by omega
   simpa[List.getElem_append_right (show a.length<=j by omega),List.getElem_append_right (show b.length<=j by omega),n,e1]using this
theorem a9p{t f:Nat}{z:Value}{s x:Operand}{o:Option Addr}{p n k:Nat}(T:SliceT P t e sz f z)(q:Elem R sz)(c:List α)(B:a.eval s= .slice ao n cap)(y:l.length=n)(hx:a.eval x= .slice o k p)(m:c.length=k)(h:OL R sz X base e w ao cap l)(hxs:Sl R sz (mk (un X ao) w) o c)(v:k<=n)(r:0<k)(K:∀b,OL R sz X base e b ao cap (c++l.drop k)->ExtX (ob ao) w b->wpList P ops Q rest (a.put d (.int .i64 (k:Int))) b):wpList P ops Q (⟨d, .call {callee:= .builtin .copy,args:=#[s,x],argTypes:=#[t,t]},ty,ps,af,none⟩::rest) a w:=by
 refine wpList_plain rfl fun C j=>?_;subst y;subst m;obtain⟨us,u,g,i⟩:=hxs.at_ q;obtain⟨b,A,g,i⟩:=h.run_copy (P:=P) T q o p us c g u i v r ty;unfold Oper.wp execOp;simp only[resolve,invoke,builtin,Sem.run_bind,Sem.run_pure,Result.andThen_ok,List.map_toArray,List.map_cons,List.map_nil,B,hx,A];exact j _ _ (K b g i)
theorem b0k{o:Oper}{K:Act->World->Prop}{E:Prop}{t d:Nat}{z:Value}{s x:Operand}{m:Option Addr}{p n k:Nat}(y:o.guard=none)(j:o.op=Op.call {callee:=Callee.builtin Builtin.copy,args:=#[s,x],argTypes:=#[t,t]})(T:SliceT P t e sz d z)(q:Elem R sz)(c:List α)(D:a.eval s= .slice ao n cap)(B:l.length=n)(hx:a.eval x= .slice m k p)(i:c.length=k)(h:OL R sz X base e w ao cap l)(hxs:Sl R sz (mk (un X ao) w) m c)(A:k<=n)(r:0<k)(v:∀b,OL R sz X base e b ao cap (c++l.drop k)->ExtX (ob ao) w b->K (a.put o.dst (.int .i64 (k:Int))) b):if Region.wanted o (yielded ops a.tmps)=true then Oper.wp P o a w K Q else E:=by
 have F:Region.wanted o (yielded ops a.tmps)=true:=by simp[Region.wanted,y]
 rw[if_pos F];subst B;subst i;obtain⟨us,u,f,g⟩:=hxs.at_ q;obtain⟨b,C,f,g⟩:=h.run_copy (P:=P) T q m p us c f u g A r o.type;unfold Oper.wp execOp;rw[j];simp only[resolve,invoke,builtin,Sem.run_bind,Sem.run_pure,Result.andThen_ok,List.map_toArray,List.map_cons,List.map_nil,D,hx,C];exact v _ f g
end
end Go.Rep
namespace Go.Lin
def b6b(r c:Nat):Mat:=List.replicate r (List.replicate c 0)
theorem a8r(r c:Nat):(b6b r c).length=r:=List.length_replicate
theorem a8s{r c i:Nat}(h:i<(b6b r c).length):(b6b r c)[i]=List.replicate c 0:=List.getElem_replicate h
theorem b2d{x:List Rat}{n:Nat}:x++(List.replicate (2*n) (0:Rat)).drop n=x++List.replicate n 0:=by
 rw[List.drop_replicate,show 2*n - n=n by omega]
theorem b3V{x:List Rat}{n i:Nat}(h:x.length=n):(x++List.replicate n (0:Rat)).set (n+i) 1=x++(List.replicate n 0).set i 1:=by
 rw[List.set_append_right _ _ (by omega),h,show n+i - n=i by omega]
theorem b3W{m:Mat}{n i:Nat}(h:i<(a1k m n).length)(hi:i<m.length):(a1k m n)[i]=m[i]++(List.replicate n 0).set i 1:=by
 simp[a1k,hi,List.getD_eq_getElem?_getD]
theorem b6c{m:Mat}{n c:Nat}(h:Shp n c m)(b:n=0->c=0):Go.Lin.colsL m=c:=by
 by_cases a:n=0
 ·have:m= []:=List.eq_nil_of_length_eq_zero (by rw[h.1];exact a)
  subst this;rw[b a];rfl
 ·exact a8i h (by omega)
end Go.Lin
namespace Go.Proofs.YtgbbpgflopajaaaGreat
open Go.RowKit Go.Rep Go.Lim Go.Lin
def b7j(X:Nat->Bool)(w:World)(m:List (List Rat))(n:Nat)(e:Ending)(w':World):Prop:=Ext w w'/\((a4x m n/\e= .returned (.tuple #[.slice none 0 0, .int .i64 7]))\/(¬a4x m n/\∃u,e= .returned (.tuple #[u, .int .i64 0])/\MC (mk X w') u (a2y m n)))
theorem b2e(X:Nat->Bool)(w:World)(u:Value)(m:List (List Rat))(n:Nat)(hX:HX X w)(hu:MV (mk X w) u m)(hf:a0y m=true)(b7:m.length=n)(d1:colsL m=n)(hT:b2p (a1k m n) (2*n)):Calls Tryz.prog 265 #[u] w (b7j X w m n):=by
 obtain⟨N,n7,q3,_,_⟩:=a0D hf;rw[b7,d1]at N;rw[b7]at n7;have d2:=a2l X w u m hu (by omega);rw[hf]at d2;have a0:=a2i X w u m hu;rw[d1]at a0;have e4:=hid N;have b8:=hid b7;have k2:=hid d1;have b2:=hid (a1m N);have j7:=hid hT;have n9:=hid (a1W N);have c:=hid (a5P N);have n1:Hid (∀i (h:i<(a1k m n).length) (hi:i<m.length),(a1k m n)[i]=m[i]++(List.replicate n 0).set i 1):=hid fun i h hi=>b3W h hi;have j8:Hid (colsL (a1k m n)=2*n):=hid (b6c (a1m N) (by omega));have c3:Hid (a4x m n↔0<n/\n<=(a0J (a1k m n) (2*n)).2.getD (n - 1) 0):=hid Iff.rfl;have d3:Hid (a2y m n=(a0J (a1k m n) (2*n)).1.map (·.drop n)):=hid rfl;obtain⟨W,hW⟩:∃W,a1k m n=W:=⟨_,rfl⟩;rw[hW]at b2 j7 c n1 j8 c3 d3;obtain⟨ua,n5,rfl,e7,m7⟩:=hu;have hu:MV (mk X w) (.slice ua m.length n5) m:=⟨ua,n5,rfl,e7,m7⟩;rw[b7]at d2 a0 hu |-;have p7:wrap64 (2*(n:Int))=((2*n:Nat):Int):=by rw[IntWalk.wrap64_in _ (by omega)];omega
 clear hf b7 d1 N e7 m7 hW hT;go_enter Tryz.func265,Tryz.ntmps265
 go_wp2_with fail
 refine d2.mono ?_;rintro e w1 ⟨rfl,rfl⟩;go_wp2_with fail
 refine a0.mono ?_;rintro e w2 ⟨rfl,rfl⟩;go_wp2_with fail
 refine(a5t X w2 n (2*n) hX (by omega) (by omega)).mono ?_;rintro e w3 ⟨f3,ao,cap,hs,rfl,E⟩;rw[List.length_replicate];have e0:Hid (hs.length=n):=hid (by rw[E.len];simp);have k9:Hd ao n:=by have:=E.outer.hd;rw[e0.out]at this;exact this
 have o6:=hX.ext f3;have k1:=E.hz o6;have m5:=E.old MV.mono hu f3 (Nat.le_refl _) (fun _ _ h=>h);obtain⟨V,hV⟩:∃V,b6b n (2*n)=V:=⟨_,rfl⟩;have f8:Hid (V.length=n):=hid (by rw[<-hV];exact a8r _ _);have o3:Hid (∀i (h:i<V.length),V[i]=List.replicate (2*n) 0):=hid fun i h=>by subst hV;exact a8s h
 have d0:Hid (W.length=V.length):=hid (by rw[f8.out];exact b2.out.1)
 change MO X w2.heap.size _ _ w3 ao cap hs (b6b n (2*n))at E
 rw[hV,<-a3K W V]at E;have k3:=a3u (mz X ao hs) w3 _ m n n k1 m5 e4.out k2.out (by omega) (by omega);clear d2 a0 hu m5 hV;go_wp2_with fail
 refine k3.mono ?_;rintro e w4 ⟨i7,bo,p9,r2,rfl,j1⟩;have e1:=j1.mc;rw[b8.out]at e1 |-;have d8:=E.ext0 i7;have i5:=f3.trans i7;obtain⟨ba,q6,b4,q0,H⟩:=e1;simp only[Value.slice.injEq]at b4;obtain⟨rfl,h5,rfl⟩:=b4;clear h5;have p0:=H.hd;rw[b8.out]at p0;obtain⟨Z,g4⟩:∃Z,mz X ao hs=Z:=⟨_,rfl⟩;have g3:=hid g4;rw[g4]at H k1;clear k3 E j1 g4;go_wp2_with fail
 go_loopw [31] (fun k wr=>∃(i:Nat),k= .int .i64 i/\i<=n/\MO X w2.heap.size 25 38 wr ao cap hs (mix W V i)/\Sl RC 1 (mk Z wr) bo m/\Ext w2 wr) (fun k _=>n - (intOf k).toNat)
 case atStart=>exact⟨0,rfl,Nat.zero_le _,d8,H,i5⟩
 case round=>
  obtain⟨i,rfl,hi,y,H,hE⟩:=hrel;by_cases g8:i<n
  ·have l2:i<m.length:=by rw[b8.out];exact g8
   obtain⟨a1,c1,o5,b3,s,G⟩:=H.row i l2;have I:=b3.out noY wr (ExtX.refl _) rfl;have r:Hid (m[i].length=n):=hid (e4.out.2 _ (List.getElem_mem _));have l1:i<V.length:=by rw[f8.out];exact g8
   have g6:i<W.length:=by rw[d0.out];exact l1
   have j9:=hid (n1.out i g6 l2);have o4:=hid (o3.out i l1);obtain⟨x,hx⟩:∃x,m[i]=x:=⟨_,rfl⟩;rw[hx]at I s G r j9;rw[r.out]at I s;have q8:Hd a1 n:=by have:=G.hd;rw[r.out]at this;exact this
   have z:i<hs.length:=by rw[e0.out];exact g8
   have l8:i<(mix W V i).length:=by rw[a2j d0.out];exact g6
   have M:Hid ((mix W V i)[i]=List.replicate (2*n) 0):=hid (by rw[a1O d0.out,if_neg (by omega)];exact o4.out);have b6:Hid ((mix W V i).set i (x++(List.replicate n (0:Rat)).set i 1)=mix W V (i+1)):=hid (by rw[<-j9.out];exact a4P d0.out g6);obtain⟨a,B,cr,d⟩:∃a B cr,hs[i]=(a,B,cr):=⟨_,_,_,rfl⟩;have F:B=2*n:=by
    have:=y.rlen i z l8;rw[d,M.out,List.length_replicate]at this;exact this
   have hR:=y.row i z l8;rw[M.out]at hR;simp only[d]at hR;have c5:=fun k (hk:ob a k=true)=>y.mz_sub z k (by rw[d];exact hk);have h3:=fun k (hk:ob a k=true)=>y.sep i z k (by rw[d];exact hk);have d4:Hid (un (cut (mz X ao hs) a) a=Z):=hid (by rw[a4I c5];exact g3.out);have o9:Hd a B:=by have:=hR.hd;rw[List.length_replicate,<-F]at this;exact this
   have t:=hid F;have y1:wr.cell? (adr ao i)=some (.slice a B cr):=by
    have:=(y.hdr i z).1;rw[d]at this;exact this
   have T:Hid (ob a (adr ao i).block=false):=hid (by
    cases hb:ob a (adr ao i).block
    ·rfl
    ·have h1:=(h3 _ hb).2
     obtain⟨b0,o0,rfl⟩:=k9 (by omega);simp[ob,adr]at h1)
   have f:=hid d;have f5:Hid ((List.replicate (2*n) (0:Rat)).length=B):=hid (by rw[F];exact List.length_replicate);have c2:Sl QC 3 (mk (un (cut (mz X ao hs) a) a) wr) a1 x:=by rw[d4.out];exact G
   clear b3 hx d F;obtain⟨wo,h4⟩:∃wo,wo=wr:=⟨_,rfl⟩;subst h4;go_wp2_with (first|(with_reducible refine a0s a0p (by omega) (by assumption) ?_)|(refine a9p a0w QC.elem x rfl f5.out rfl r.out hR c2 (by rw[t.out];omega) (by omega) ?_;intro w5 J C;have y5:=C.cellY y1 T.out))
   have d5:x++List.drop n (List.replicate (2*n) (0:Rat))=x++List.replicate n 0:=b2d;rw[d5]at J;have d7:∀k,ob a k=true->Z k=true:=fun k hk=>by rw[<-g3.out];exact c5 k hk
   have h7:Hid ((x++List.replicate n (0:Rat)).length=B):=hid (by rw[List.length_append,List.length_replicate,r.out,t.out];omega);have a5:=y.upd z (l:=x++List.replicate n 0) (show ExtX (ob hs[i].1) wo w5 by rw[f.out];exact C) (fun l0=>by rw[M.out,List.length_replicate,h7.out,t.out]) (by rw[f.out];exact J);have m3:=H.mono RC.mono (a0v C d7);have P:=y.ext_from hE (Nat.le_refl _) (ExtX.row z (show ExtX (ob hs[i].1) wo w5 by rw[f.out];exact C));have a3:Hid ((x++List.replicate n (0:Rat)).set (n+i) 1=x++(List.replicate n 0).set i 1):=hid (b3V r.out);have h2:n+i<(x++List.replicate n (0:Rat)).length:=by rw[h7.out,t.out];omega
   have o8:HX Z w5:=by
    have h1:=a5.hz (hX.ext P);rw[g3.out]at h1;exact h1
   have a4:Ext w5 w5.drew:=(ExtX.refl w5).drew;obtain⟨L,hL⟩:∃L,x++List.replicate n (0:Rat)=L:=⟨_,rfl⟩;rw[hL]at J a5 h7 a3 h2;obtain⟨L2,i9⟩:∃L2,x++(List.replicate n (0:Rat)).set i 1=L2:=⟨_,rfl⟩;rw[i9]at a3 b6;have j0:Hid (L2.length=L.length):=hid (by rw[<-a3.out,List.length_set]);obtain⟨g,o,hg⟩:∃g o,adr a ((n+i)*3)=⟨g,o,none⟩:=⟨_,_,rfl⟩;have ew:IntKind.i64.wrap ((n:Int)+(i:Int))=(n:Int)+(i:Int):=IntWalk.i64_in _ (by omega);have i2:∀W,(Instr.indexAt 25 (.slice a B cr) (.int .i64 ((n:Int)+(i:Int)))).run Tryz.prog W= .ok (.pointer (some ⟨g,o,none⟩)) W:=by
    rw[<-hg,show(n:Int)+(i:Int)=((n+i:Nat):Int)by omega];exact a0h a0w a B cr .i64 (n+i) o9 (by rw[t.out];omega)
   have i1:∀W,(Instr.indexAt 53 (.slice ao n cap) (.int .i64 (i:Int))).run Tryz.prog W= .ok (.pointer (some (adr ao i))) W:=a0x a0p ao n cap .i64 i k9 (by omega) rfl;have k5:=hid hg;have hS:Hid (∀Y W',ExtX Y w5.drew W'->Y (adr ao i).block=false->W'.cell? (adr ao i)=some (.slice a B cr)):=hid fun Y W' h h8=>h.cellY (a4.cell y5) h8;have h9:=hS.out noY w5.drew (ExtX.refl _) rfl;have j3:=J.ext0 QC.elem a4;have qf:=a6H Z w5.drew 1 (o8.ext a4) (by omega) (by omega);have i0:((1:Int):Rat)=1:=by decide+kernel
   rw[i0]at qf;have m8:Hid (un (cut (mz X ao hs) a) a=Z):=d4;clear i0 d5 hL i9 hg y1 y5 hR c2 G I y H;go_region_held3 (fun w'=>w'.cell? (adr ao i)=some (.slice a B cr))
    (first|exact hS.out noY _ t1 rfl|exact hS.out (ob a) _ ((ExtX.of t1).trans e3.2) T.out|go_keep)
    ((go_at_call 74;(with_reducible refine qf.mono ?_);rintro ee w6 ⟨t1,u6,rfl,m6⟩;obtain⟨s6,a6,n6,c6,d6,k6,e6,rfl⟩:=m6.shape;have j4:=j3.ext0 QC.elem t1;obtain⟨_,v0,v1,v2,_,⟨g0,f0⟩,⟨g1,f1⟩,⟨g2,f2⟩,_⟩:=j4.cell3 (n+i) h2 k5.out;have e3:=j4.set3 a6n QC.elem (n+i) h2 k5.out (v0:= .bool s6) (v1:= .slice a6 n6 c6) (v2:= .slice d6 k6 e6) (x:=1) (by rw[m8.out];exact m6)))
   obtain⟨q1,q2⟩:=e3;rw[a3.out]at q1;obtain⟨w8,n0⟩:∃w8,((w6.setCell ⟨g,o,none⟩ (.bool s6)).setCell ⟨g,o+1,none⟩ (.slice a6 n6 c6)).setCell ⟨g,o+2,none⟩ (.slice d6 k6 e6)=w8:=⟨_,rfl⟩;rw[n0]at q1 q2 |-;have n4:ExtX (ob hs[i].1) w6 w8:=by rw[f.out];exact q2
   have j2:=a5.ext0 (a4.trans t1);have a8:=j2.upd z (l:=L2) n4 (fun l0=>by rw[List.getElem_set_self];exact j0.out) (by rw[f.out];exact q1);rw[List.set_set,b6.out]at a8;have p6:=(m3.mono RC.mono (a0m (a4.trans t1))).mono RC.mono (a0v q2 d7);have c8:=j2.ext_from (P.trans (a4.trans t1)) (Nat.le_refl _) (ExtX.row z n4);clear h9 g0 g1 g2 f0 f1 f2 i1 i2 n0 ew;go_wp2_with fail
   go_roundw
   case rel=>exact⟨i+1,by go_num,by omega,a8,p6,c8⟩
   case measure=>simp[intOf];omega
  ·have p1:i=n:=by omega
   subst p1;rw[a3L (by rw[b2.out.1];exact Nat.le_refl _) (by rw[f8.out];exact Nat.le_refl _)]at y;go_wp2_with fail
   refine(a4Q X w2.heap.size wr ao cap i (2*i) hs W (hX.ext hE) y b2.out j8.out (by omega) (by omega) j7.out).mono ?_;rintro ee w7 ⟨f4,po,pc,r1,rfl,r0,a8,a9⟩;rw[c.out];have Q:=y.ext_from hE (Nat.le_refl _) f4;have a2:=MC.mono _ _ _ _ (a1v (X:=X) fun k _ hk=>a0i hk) a8.mc;have b1:=hid (a1d b2.out).1;obtain⟨⟨R,p⟩,j6⟩:∃S,a0J W (2*i)=S:=⟨_,rfl⟩;rw[j6]at c d3 c3 b1 a2 a9
   dsimp only at c d3 c3 b1 a2 a9
   rw[b1.out.1]at a2;have o7:=hX.ext Q;have k4:Hd po i:=by have:=a9.hd;rw[c.out]at this;exact this
   have m0:Hid (∀h:i - 1<p.length,p.getD (i - 1) 0=p[i - 1]):=hid fun h=>by simp[List.getD_eq_getElem?_getD,h]
   have m1:∀h:i - 1<p.length,w7.cell? (adr po (i - 1))=some (.int .i64 (p[i - 1]:Int)):=fun h=>(a9.sl (a0c.elem _)).nat (i - 1) h;have e2:=hid m1;obtain⟨w2,m9⟩:∃x,x=w2:=⟨_,rfl⟩;subst m9;clear m1 d8 H y a8 p7 j6 a9;by_cases v:a4x m i
   ·obtain⟨h0,k7⟩:=c3.out.1 v
    have b9:i - 1<p.length:=by rw[c.out];omega
    rw[m0.out b9]at k7;have c9:=e2.out b9;have q7:(0:Int)<(i:Int):=by omega
    have k8:(i:Int)<=(p[i - 1]:Int):=by omega
    obtain⟨q,hq⟩:∃q,(p[i - 1]:Int)=q:=⟨_,rfl⟩;rw[hq]at c9 k8;have ew:wrap64 ((i:Int) - 1)=(i:Int) - 1:=IntWalk.wrap64_in _ (by omega);have i3:∀W,(Instr.indexAt 22 (.slice po i pc) (.int .i64 ((i:Int) - 1))).run Tryz.prog W= .ok (.pointer (some (adr po (i - 1)))) W:=a0x a2J po i pc .i64 (i - 1) k4 (by omega) (by omega);clear hq k7 h0 f4;go_wp2_with fail
    go_ret2
    exact⟨Q, .inl ⟨v,rfl⟩⟩
   ·have g5:(¬(0:Int)<(i:Int))\/((0:Int)<(i:Int)/\∃q:Int,w7.cell? (adr po (i - 1))=some (.int .i64 q)/\¬(i:Int)<=q):=by
     by_cases h0:i=0
     ·exact .inl (by omega)
     ·have b9:i - 1<p.length:=by rw[c.out];omega
      refine .inr ⟨by omega,_,e2.out b9,fun q9=>v (c3.out.2 ⟨by omega,?_⟩)⟩;rw[m0.out b9];omega
    have p4:=hid v;have n3:=a5t X w7 i i o7 (by omega) (by omega);have ew:wrap64 ((i:Int) - 1)=(i:Int) - 1\/i=0:=by
     by_cases h0:i=0
     ·exact .inr h0
     ·exact .inl (IntWalk.wrap64_in _ (by omega))
    have p8:Hid (0<i->∀W,(Instr.indexAt 22 (.slice po i pc) (.int .i64 ((i:Int) - 1))).run Tryz.prog W= .ok (.pointer (some (adr po (i - 1)))) W):=hid fun h=>a0x a2J po i pc .i64 (i - 1) k4 (by omega) (by omega);clear v f4;rcases g5 with h0|⟨h0,q,c9,k8⟩
    case' inl=>clear ew
    case' inr=>
     have ew:wrap64 ((i:Int) - 1)=(i:Int) - 1:=ew.resolve_right (by omega);have i3:=p8.out (by omega)
    all_goals
     go_wp2_with fail
     refine n3.mono ?_;rintro ee w8 ⟨c8,b,O,A,rfl,a7⟩;rw[List.length_replicate];have b5:Hid (A.length=i):=hid (by rw[a7.len];simp);have d9:Hd b i:=by have:=a7.outer.hd;rw[b5.out]at this;exact this
     have l7:=a7.old MC.mono a2 c8 (Nat.le_refl _) (fun _ _ h=>h);obtain⟨ra,r3,b4,q5,c4⟩:=l7;simp only[Value.slice.injEq]at b4;obtain⟨rfl,h5,rfl⟩:=b4;clear h5;obtain⟨D,hD⟩:∃D,a2y m i=D:=⟨_,rfl⟩;have e9:=hid (hD▸n9.out);have l3:=hid (hD▸d3.out);have n8:=hid hD;obtain⟨U,hU⟩:∃U,b6b i i=U:=⟨_,rfl⟩;have f7:Hid (U.length=i):=hid (by rw[<-hU];exact a8r _ _);have o1:Hid (∀k (h:k<U.length),U[k]=List.replicate i 0):=hid fun k h=>by subst hU;exact a8s h
     have c7:Hid (D.length=U.length):=hid (by rw[f7.out];exact e9.out.1)
     change MO X w7.heap.size _ _ w8 b O A (b6b i i)at a7
     rw[hU,<-a3K D U]at a7;have i6:=Q.trans c8;obtain⟨Y,f9⟩:∃Y,mz X b A=Y:=⟨_,rfl⟩;have k0:=hid f9;rw[f9]at c4;clear hU f9 hD n3;go_wp2_with fail
     go_loopw [70] (fun k wr=>∃(j:Nat),k= .int .i64 j/\j<=i/\MO X w7.heap.size 25 38 wr b O A (mix D U j)/\Sl RC 1 (mk Y wr) ao R/\Ext w2 wr) (fun k _=>i - (intOf k).toNat)
     case atStart=>exact⟨0,rfl,Nat.zero_le _,a7,c4,i6⟩
     case round=>
      obtain⟨j,rfl,hj,y,c4,hE⟩:=hrel;by_cases g7:j<i
      ·have p2:j<R.length:=by rw[b1.out.1];exact g7
       obtain⟨a1,c1,o5,b3,s,G⟩:=c4.row j p2;have I:=b3.out noY wr (ExtX.refl _) rfl;have r:Hid (R[j].length=2*i):=hid (b1.out.2 _ (List.getElem_mem _));have l5:j<U.length:=by rw[f7.out];exact g7
       have l4:j<D.length:=by rw[c7.out];exact l5
       have i4:Hid (D[j]=R[j].drop i):=hid (by simp[l3.out]);have o2:=hid (o1.out j l5);obtain⟨x,hx⟩:∃x,R[j]=x:=⟨_,rfl⟩;rw[hx]at I s G r i4;rw[r.out]at I s;obtain⟨n2,g9⟩:∃n2,2*i=n2:=⟨_,rfl⟩;have q4:=hid g9;rw[g9]at I s;have K:j<A.length:=by rw[b5.out];exact g7
       have l9:j<(mix D U j).length:=by rw[a2j c7.out];exact l4
       have M:Hid ((mix D U j)[j]=List.replicate i 0):=hid (by rw[a1O c7.out,if_neg (by omega)];exact o2.out);have b6:Hid ((mix D U j).set j (x.drop i)=mix D U (j+1)):=hid (by rw[<-i4.out];exact a4P c7.out l4);obtain⟨a,B,cr,d⟩:∃a B cr,A[j]=(a,B,cr):=⟨_,_,_,rfl⟩;have F:B=i:=by
        have:=y.rlen j K l9;rw[d,M.out,List.length_replicate]at this;exact this
       have hR:=y.row j K l9;rw[M.out]at hR;simp only[d]at hR;have c5:=fun k (hk:ob a k=true)=>y.mz_sub K k (by rw[d];exact hk);have h3:=fun k (hk:ob a k=true)=>y.sep j K k (by rw[d];exact hk);have d4:Hid (un (cut (mz X b A) a) a=Y):=hid (by rw[a4I c5];exact k0.out);have y1:wr.cell? (adr b j)=some (.slice a B cr):=by
        have:=(y.hdr j K).1;rw[d]at this;exact this
       have T:Hid (ob a (adr b j).block=false):=hid (by
        cases hb:ob a (adr b j).block
        ·rfl
        ·have h1:=(h3 _ hb).2
         obtain⟨b0,o0,rfl⟩:=d9 (by omega);simp[ob,adr]at h1)
       have f:=hid d;have t:=hid F;have f5:Hid ((List.replicate i (0:Rat)).length=B):=hid (by rw[F];exact List.length_replicate);have c0:=G.sub i n2 c1 (by omega) (by omega) (by rw[r.out];omega);rw[List.take_of_length_le (by rw[r.out];omega)]at c0;have f1:∀W,(Instr.sliceAt 25 (.slice a1 n2 c1) (some (.int .i64 (i:Int))) none none).run Tryz.prog W= .ok (.slice (a1J a1 i c1 3) (n2 - i) (c1 - i)) W:=a2V a0w n2 c1 .i64 i (by omega) s;rw[show n2 - i=i by omega]at f1;obtain⟨sa,m2⟩:∃sa,a1J a1 i c1 3=sa:=⟨_,rfl⟩;rw[m2]at f1 c0;obtain⟨sc,m4⟩:∃sc,c1 - i=sc:=⟨_,rfl⟩;rw[m4]at f1;obtain⟨xd,h6⟩:∃xd,x.drop i=xd:=⟨_,rfl⟩;rw[h6]at c0 b6;have e8:Hid (xd.length=i):=hid (by rw[<-h6,List.length_drop,r.out];omega);have c2:Sl QC 3 (mk (un (cut (mz X b A) a) a) wr.drew) sa xd:=by rw[d4.out];exact c0
       have i1:∀W,(Instr.indexAt 53 (.slice b i O) (.int .i64 (j:Int))).run Tryz.prog W= .ok (.pointer (some (adr b j))) W:=a0x a0p b i O .i64 j d9 (by omega) rfl;have j5:=hR.ext0 QC.elem (ExtX.refl (Y:=noY) wr).drew;have f6:Hid (∀Y2 W',ExtX Y2 wr.drew W'->Y2 (adr b j).block=false->W'.cell? (adr b j)=some (.slice a B cr)):=hid fun Y2 W' h h8=>(((ExtX.refl wr).drew).trans h).cellY y1 h8;have h9:=f6.out noY wr.drew (ExtX.refl _) rfl;clear hx b3 d F g9 m2 m4 h6 hR G c0;obtain⟨wo,h4⟩:∃wo,wo=wr:=⟨_,rfl⟩;subst h4;go_wp2_with (with_reducible refine a0s a0p (by omega) (by assumption) ?_)
       go_region_held3 (fun w'=>w'.cell? (adr b j)=some (.slice a B cr))
        (first|exact f6.out noY _ (ExtX.refl _) rfl|exact f6.out (ob a) _ C T.out|go_keep)
        (first|(refine b0k rfl (by rfl) a0w QC.elem xd rfl f5.out rfl e8.out j5 c2 (by rw[t.out];exact Nat.le_refl _) (by omega) ?_;intro w5 J C))
       have d5:xd++List.drop i (List.replicate i (0:Rat))=xd:=by rw[List.drop_replicate,Nat.sub_self,List.replicate_zero,List.append_nil]
       rw[d5]at J;have d7:∀k,ob a k=true->Y k=true:=fun k hk=>by rw[<-k0.out];exact c5 k hk
       have i8:ExtX (ob A[j].1) wo w5:=by rw[f.out];exact(ExtX.of (ExtX.refl wo).drew).trans C
       have a5:=y.upd K (l:=xd) i8 (fun l0=>by rw[M.out,List.length_replicate,e8.out]) (by rw[f.out];exact J);rw[b6.out]at a5;have p5:=(c4.mono RC.mono (a0m (ExtX.refl wo).drew)).mono RC.mono (a0v C d7);have P:=y.ext_from hE (by have:=Q.size;omega) (ExtX.row K i8);clear I h9 y1 f1 i1 j5 c2;go_wp2_with fail
       go_roundw
       case rel=>exact⟨j+1,by go_num,by omega,a5,p5,P⟩
       case measure=>simp[intOf];omega
      ·have p3:j=i:=by omega
       subst p3;rw[a3L (by rw[e9.out.1];exact Nat.le_refl _) (by rw[f7.out];exact Nat.le_refl _)]at y;have l6:=y.mc;rw[e9.out.1,<-n8.out]at l6;go_wp2_with fail
       go_ret2
       exact⟨hE, .inr ⟨p4.out,_,rfl,l6⟩⟩
def b1q(X:Nat->Bool)(w:World)(S:Mat×List Nat)(c:Nat)(e:Ending)(w':World):Prop:=Ext w w'/\((c∈S.2/\e= .returned (.tuple #[.slice none 0 0, .int .i64 11]))\/(c∉S.2/\∃u,e= .returned (.tuple #[u, .int .i64 0])/\RC (mk X w') u (b7e S.1 S.2 c)))
theorem b6d(X:Nat->Bool)(w:World)(u v:Value)(m:List (List Rat))(b:List Rat)(n c:Nat)(hX:HX X w)(hu:MV (mk X w) u m)(hv:RV (mk X w) v b)(hf:a0y m=true)(b3:m.length=n)(b2:colsL m=c)(g6:b.length=n)(hT:b2p (a3f m b n) (c+1)):Calls Tryz.prog 262 #[u,v] w (b1q X w (a0J (a3f m b n) (c+1)) c):=by
 obtain⟨b8,p3,k9,b7,_⟩:=a0D hf;rw[b3,b2]at b8;rw[b3]at p3 b7;rw[b2]at k9 b7;have c5:=a2l X w u m hu (by omega);rw[hf]at c5;have U:=a2i X w u m hu;rw[b2]at U;have f4:=hid b8;have b4:=hid b3;have l1:=hid b2;have k5:=hid g6;have t:=hid (a2p (b:=b) b8);have o7:Hid (∀i (h:i<(a3f m b n).length) (hi:i<m.length) (G:i<b.length),(a3f m b n)[i]=m[i]++[b[i]]):=hid fun i h hi G=>b3t h hi G;have a2:0<n->colsL (a3f m b n)=c+1:=fun h=>a8i (a2p (b:=b) b8) h;obtain⟨W,hW⟩:∃W,a3f m b n=W:=⟨_,rfl⟩;rw[hW]at t hT o7 a2 |-;have q3:=hid (b3v t.out (colsL W) a2 hT);have p8:=hid (b3u t.out (colsL W) a2);have k0:Hid (Shp n (colsL W) W):=hid ⟨t.out.1,fun r hr=>by
  have:=List.length_pos_of_mem hr;rw[a2 (by rw[<-t.out.1];exact this)];exact t.out.2 r hr⟩
 have j9:Hid (colsL W<=900):=hid (by
  by_cases h0:0<n
  ·rw[a2 h0];omega
  ·have:W= []:=List.eq_nil_of_length_eq_zero (by rw[t.out.1];omega)
   subst this;exact Nat.zero_le _)
 obtain⟨ua,p0,rfl,f5,o1⟩:=hu;have hu:MV (mk X w) (.slice ua m.length p0) m:=⟨ua,p0,rfl,f5,o1⟩;obtain⟨va,p1,rfl,o5,P⟩:=hv;have m0:=P.hd;rw[b3]at c5 U hu |-;rw[g6]at o5 m0 |-;have v5:wrap64 ((c:Int)+1)=((c+1:Nat):Int):=by rw[IntWalk.wrap64_in _ (by omega)];omega
 have u1:((n:Int) !=(n:Int))=false:=a8D rfl;clear hf b3 b2 b8 f5 o1 hW hT a2 g6;go_enter Tryz.func262,Tryz.ntmps262
 go_wp2_with fail
 refine c5.mono ?_;rintro e w1 ⟨rfl,rfl⟩;go_wp2_with fail
 refine U.mono ?_;rintro e w2 ⟨rfl,rfl⟩;go_wp2_with fail
 refine(a5t X w2 n (c+1) hX (by omega) (by omega)).mono ?_;rintro e w3 ⟨b9,ao,cap,y,rfl,B⟩;rw[List.length_replicate];have e2:Hid (y.length=n):=hid (by rw[B.len];simp);have l9:Hd ao n:=by have:=B.outer.hd;rw[e2.out]at this;exact this
 have q6:=hX.ext b9;have k3:=B.hz q6;have n9:=B.old MV.mono hu b9 (Nat.le_refl _) (fun _ _ h=>h);have i0:=P.mono QV.mono (fun a v h=>((a1i (X:=X) (Z:=mz X ao y) b9 (fun k _ d=>by simp[noY]at d) fun k d hz=>by
  rcases a1T.1 hz with a|a
  ·exact a
  ·have:=(B.mb_block (a2D.2 a)).1;omega) a v h))
 obtain⟨V,hV⟩:∃V,b6b n (c+1)=V:=⟨_,rfl⟩;have f9:Hid (V.length=n):=hid (by rw[<-hV];exact a8r _ _);have q4:Hid (∀i (h:i<V.length),V[i]=List.replicate (c+1) 0):=hid fun i h=>by subst hV;exact a8s h
 have c3:Hid (W.length=V.length):=hid (by rw[f9.out];exact t.out.1)
 change MO X w2.heap.size _ _ w3 ao cap y (b6b n (c+1))at B
 rw[hV,<-a3K W V]at B;have l3:=a3u (mz X ao y) w3 _ m n c k3 n9 f4.out l1.out (by omega) (by omega);clear c5 U hu n9 hV;go_wp2_with fail
 refine l3.mono ?_;rintro e w4 ⟨f6,bo,t6,v4,rfl,j4⟩;have e3:=j4.mc;rw[b4.out]at e3 |-;have d7:=B.ext0 f6;have i8:=b9.trans f6;obtain⟨ba,u3,l5,t8,K⟩:=e3;simp only[Value.slice.injEq]at l5;obtain⟨rfl,s9,rfl⟩:=l5;clear s9;have r1:=K.hd;rw[b4.out]at r1;obtain⟨Z,g5⟩:∃Z,mz X ao y=Z:=⟨_,rfl⟩;have g3:=hid g5;rw[g5]at K k3 i0;have s5:=i0.mono QV.mono (a0m f6);clear i0;clear l3 B j4 g5;go_wp2_with fail
 go_loopw [33] (fun k wr=>∃(i:Nat),k= .int .i64 i/\i<=n/\MO X w2.heap.size 25 38 wr ao cap y (mix W V i)/\Sl RC 1 (mk Z wr) bo m/\Sl QV 3 (mk Z wr) va b/\Ext w2 wr) (fun k _=>n - (intOf k).toNat)
 case atStart=>exact⟨0,rfl,Nat.zero_le _,d7,K,s5,i8⟩
 case round=>
  obtain⟨i,rfl,hi,E,K,P,hE⟩:=hrel;by_cases c8:i<n
  ·have m3:i<m.length:=by rw[b4.out];exact c8
   obtain⟨a1,c1,u4,k7,e1,d1⟩:=K.row i m3;have i7:=k7.out noY wr (ExtX.refl _) rfl;have Q:Hid (m[i].length=c):=hid (f4.out.2 _ (List.getElem_mem _));have m1:i<V.length:=by rw[f9.out];exact c8
   have g7:i<W.length:=by rw[c3.out];exact m1
   have m2:i<b.length:=by rw[k5.out];exact c8
   have k1:=hid (o7.out i g7 m3 m2);have q5:=hid (q4.out i m1);obtain⟨x,hx⟩:∃x,m[i]=x:=⟨_,rfl⟩;rw[hx]at i7 e1 d1 Q k1;rw[Q.out]at i7 e1;have u8:Hd a1 c:=by have:=d1.hd;rw[Q.out]at this;exact this
   have D:i<y.length:=by rw[e2.out];exact c8
   have m6:i<(mix W V i).length:=by rw[a2j c3.out];exact g7
   have h6:Hid ((mix W V i)[i]=List.replicate (c+1) 0):=hid (by rw[a1O c3.out,if_neg (by omega)];exact q5.out);have h7:Hid ((mix W V i).set i (x++[b[i]])=mix W V (i+1)):=hid (by rw[<-k1.out];exact a4P c3.out g7);obtain⟨a,F,cr,f⟩:∃a F cr,y[i]=(a,F,cr):=⟨_,_,_,rfl⟩;have I:F=c+1:=by
    have:=E.rlen i D m6;rw[f,h6.out,List.length_replicate]at this;exact this
   have hR:=E.row i D m6;rw[h6.out]at hR;simp only[f]at hR;have d5:=fun k (d:ob a k=true)=>E.mz_sub D k (by rw[f];exact d);have s3:=fun k (d:ob a k=true)=>E.sep i D k (by rw[f];exact d);have d3:Hid (un (cut (mz X ao y) a) a=Z):=hid (by rw[a4I d5];exact g3.out);have l4:Hd a F:=by have:=hR.hd;rw[List.length_replicate,<-I]at this;exact this
   have z:=hid I;have y1:wr.cell? (adr ao i)=some (.slice a F cr):=by
    have:=(E.hdr i D).1;rw[f]at this;exact this
   have e0:Hid (ob a (adr ao i).block=false):=hid (by
    cases G:ob a (adr ao i).block
    ·rfl
    ·have h1:=(s3 _ G).2
     obtain⟨b0,o0,rfl⟩:=l9 (by omega);simp[ob,adr]at h1)
   have H:=hid f;have p9:Hid ((List.replicate (c+1) (0:Rat)).length=F):=hid (by rw[I];exact List.length_replicate);have n7:Sl QC 3 (mk (un (cut (mz X ao y) a) a) wr) a1 x:=by rw[d3.out];exact d1
   clear k7 hx f I;obtain⟨wo,i4⟩:∃wo,wo=wr:=⟨_,rfl⟩;subst i4;go_wp2_with (first|(with_reducible refine a0s a0p (by omega) (by assumption) ?_)|(refine a9p a0w QC.elem x rfl p9.out rfl Q.out hR n7 (by rw[z.out];omega) (by have:=b7 (by omega);omega) ?_;intro N C s;have y5:=s.cellY y1 e0.out))
   have o8:x++List.drop c (List.replicate (c+1) (0:Rat))=x++[0]:=by rw[List.drop_replicate,show c+1 - c=1 by omega];rfl
   rw[o8]at C;have a8:∀k,ob a k=true->Z k=true:=fun k d=>by rw[<-g3.out];exact d5 k d
   have i5:Hid ((x++[(0:Rat)]).length=F):=hid (by rw[List.length_append,Q.out,z.out];rfl);have O:=E.upd D (l:=x++[(0:Rat)]) (show ExtX (ob y[i].1) wo N by rw[H.out];exact s) (fun r2=>by rw[h6.out,List.length_replicate,i5.out,z.out]) (by rw[H.out];exact C);have n8:=K.mono RC.mono (a0v s a8);have T:=E.ext_from hE (Nat.le_refl _) (ExtX.row D (show ExtX (ob y[i].1) wo N by rw[H.out];exact s));have J:Hid ((x++[(0:Rat)]).set c b[i]=x++[b[i]]):=hid (by rw[List.set_append_right _ _ (by rw[Q.out];exact Nat.le_refl _),Q.out,Nat.sub_self];rfl);have h8:c<(x++[(0:Rat)]).length:=by rw[i5.out,z.out];omega
   have q8:HX Z N:=by
    have h1:=O.hz (hX.ext T);rw[g3.out]at h1;exact h1
   have A:Ext N N.drew:=(ExtX.refl N).drew;obtain⟨g4,o4,s4,a4,n4,c4,d4,k4,e4,l7,q7,k8,n2⟩:=P.rat QV.shaped i m2;have d9:Hid (ob a g4=false):=hid (by
    cases G:ob a g4
    ·rfl
    ·have:=a8 g4 G;rw[q7]at this;simp at this)
   have s7:=P.mono QV.mono (a0v s a8);have n3:QV (mk Z N.drew) (.agg #[.bool s4, .slice a4 n4 c4, .slice d4 k4 e4]) b[i]:=mkx QV.mono (QV.mono _ _ _ _ (a0v s a8) n2) A;obtain⟨v,hv⟩:∃v,b[i]=v:=⟨_,rfl⟩;rw[hv]at J n3 h7;obtain⟨L,hL⟩:∃L,x++[(0:Rat)]=L:=⟨_,rfl⟩;rw[hL]at C O i5 J h8;obtain⟨L2,j1⟩:∃L2,x++[v]=L2:=⟨_,rfl⟩;rw[j1]at J h7;have j2:Hid (L2.length=L.length):=hid (by rw[<-J.out,List.length_set]);obtain⟨g,o,hg⟩:∃g o,adr a (c*3)=⟨g,o,none⟩:=⟨_,_,rfl⟩;have i2:∀W,(Instr.indexAt 25 (.slice a F cr) (.int .i64 (c:Int))).run Tryz.prog W= .ok (.pointer (some ⟨g,o,none⟩)) W:=by
    rw[<-hg];exact a0h a0w a F cr .i64 c l4 (by rw[z.out];omega)
   have i3:∀W,(Instr.indexAt 25 (.slice va n p1) (.int .i64 (i:Int))).run Tryz.prog W= .ok (.pointer (some ⟨g4,o4,none⟩)) W:=by
    rw[<-l7];exact a0h a0w va n p1 .i64 i m0 (by omega)
   have i1:∀W,(Instr.indexAt 53 (.slice ao n cap) (.int .i64 (i:Int))).run Tryz.prog W= .ok (.pointer (some (adr ao i))) W:=a0x a0p ao n cap .i64 i l9 (by omega) rfl;have l6:=hid hg;have hS:Hid (∀Y W',ExtX Y N.drew W'->Y (adr ao i).block=false->Y g4=false->W'.cell? (adr ao i)=some (.slice a F cr)/\W'.cell? ⟨g4,o4,none⟩=some (.bool s4)/\W'.cell? ⟨g4,o4+1,none⟩=some (.slice a4 n4 c4)/\W'.cell? ⟨g4,o4+2,none⟩=some (.slice d4 k4 e4)):=hid fun Y W' h t0 i6=>by
    have p:=k8.out (ob a) N.drew (s.trans (ExtX.of A)) d9.out;exact⟨h.cellY (A.cell y5) t0,h.cellY p.1 i6,h.cellY p.2.1 i6,h.cellY p.2.2 i6⟩
   obtain⟨t2,t3,t4,t5⟩:=hS.out noY N.drew (ExtX.refl _) rfl rfl;have j6:=C.ext0 QC.elem A;have p2:QV (mk Z N.drew) (.agg #[.bool false, .slice none 0 0, .slice none 0 0]) 0:=(QC.zero _).qv (by rw[a0X];decide);have qf:=b1G Z N.drew _ _ _ 0 (q8.ext A) n3 p2;rw[Rat.add_zero]at qf;have o2:Hid (un (cut (mz X ao y) a) a=Z):=d3;clear o8 hL j1 hg l7 k8 n2 hv y1 y5 hR n7 d1 i7 E K P;go_region_held3 (fun w'=>w'.cell? (adr ao i)=some (.slice a F cr)/\w'.cell? ⟨g4,o4,none⟩=some (.bool s4)/\w'.cell? ⟨g4,o4+1,none⟩=some (.slice a4 n4 c4)/\w'.cell? ⟨g4,o4+2,none⟩=some (.slice d4 k4 e4))
    (first|exact hS.out noY _ t1 rfl rfl|exact hS.out (ob a) _ ((ExtX.of t1).trans f3.2) e0.out d9.out|go_keep)
    ((go_at_call 77;(with_reducible refine qf.mono ?_);rintro ee w6 ⟨t1,u6,rfl,a7⟩;obtain⟨s6,a6,n6,c6,d6,k6,e6,rfl⟩:=a7.shape;have j7:=j6.ext0 QC.elem t1;obtain⟨_,v0,v1,v2,_,⟨g0,f0⟩,⟨g1,f1⟩,⟨g2,f2⟩,_⟩:=j7.cell3 c h8 l6.out;have f3:=j7.set3 a6n QC.elem c h8 l6.out (v0:= .bool s6) (v1:= .slice a6 n6 c6) (v2:= .slice d6 k6 e6) (x:=v) (by rw[o2.out];exact a7)))
   obtain⟨q1,q2⟩:=f3;rw[J.out]at q1;obtain⟨w8,o6⟩:∃w8,((w6.setCell ⟨g,o,none⟩ (.bool s6)).setCell ⟨g,o+1,none⟩ (.slice a6 n6 c6)).setCell ⟨g,o+2,none⟩ (.slice d6 k6 e6)=w8:=⟨_,rfl⟩;rw[o6]at q1 q2 |-;have o9:ExtX (ob y[i].1) w6 w8:=by rw[H.out];exact q2
   have j5:=O.ext0 (A.trans t1);have a0:=j5.upd D (l:=L2) o9 (fun r2=>by rw[List.getElem_set_self];exact j2.out) (by rw[H.out];exact q1);rw[List.set_set,h7.out]at a0;have s1:=(n8.mono RC.mono (a0m (A.trans t1))).mono RC.mono (a0v q2 a8);have s8:=(s7.mono QV.mono (a0m (A.trans t1))).mono QV.mono (a0v q2 a8);have a9:=j5.ext_from (T.trans (A.trans t1)) (Nat.le_refl _) (ExtX.row D o9);clear t2 t3 t4 t5 g0 g1 g2 f0 f1 f2 i1 i2 i3 o6;go_wp2_with fail
   go_roundw
   case rel=>exact⟨i+1,by go_num,by omega,a0,s1,s8,a9⟩
   case measure=>simp[intOf];omega
  ·have r3:i=n:=by omega
   subst r3;rw[a3L (by rw[t.out.1];exact Nat.le_refl _) (by rw[f9.out];exact Nat.le_refl _)]at E;have b1:=hX.ext hE;have q9:=E.hz b1;obtain⟨wo,i4⟩:∃wo,wo=wr:=⟨_,rfl⟩;subst i4;go_wp2_with ((with_reducible show wpList _ _ _ (⟨_, .makeSlice _ _ _,_,_,_,_⟩::_) _ _);refine a2u (R:=QC) a0w QC.elem (0:Rat) (fun _=>QC.zero _) (mz X ao y) q9 wo.heap.size (Nat.le_refl _) c rfl rfl rfl (by omega) (by omega) ?_;intro oo N C s)
   have u2:=hE.size;have b5:=fun k (d:ob oo k=true)=>C.block d;have m9:∀k,ob oo k=true->X k=false:=fun k d=>by
    cases hx:X k
    ·rfl
    ·have:=(b5 k d).1;have:=b1 k hx;omega
   have O:MO (un X oo) w2.heap.size 25 38 N ao cap y W:=E.ext s (fun k _ d=>by simp[noY]at d) (fun k d hx=>by
    cases G:ob oo k
    ·simpa[un,G]using hx
    ·have:=(b5 k G).1;omega)
   have k2:HX (un X oo) N:=fun k d=>by
    by_cases hx:X k=true
    ·exact b1.ext s k hx
    ·exact(b5 k (by simpa[un,hx]using d)).2
   have T:=hE.trans s;have c9:=a4Q (un X oo) w2.heap.size N ao cap i (colsL W) y W k2 O k0.out rfl (by omega) j9.out q3.out;rw[p8.out]at c9;have a3:=a1d t.out;obtain⟨⟨R,p⟩,f7⟩:∃S,a0J W (c+1)=S:=⟨_,rfl⟩;rw[f7]at c9 a3;have d8:=hid f7
   dsimp only at a3
   have f8:=hid a3.1;have q0:=hid a3.2.1;have e8:=hid b5;have n0:=hid m9;have t7:=hid b1;obtain⟨pl,d0⟩:∃pl,p.length=pl:=⟨_,rfl⟩;have b6:=hid d0;have v3:pl<=i:=by have:=a3.2.1.le;omega
   clear a3 E d7 K P f7 b5 m9 b1 k2;refine c9.mono ?_;rintro ee w7 ⟨j0,po,pc,a5,rfl,m5,a0,c2⟩
   dsimp only at a0 c2 |-
   rw[d0];have i9:=O.ext_from T (Nat.le_refl _) j0;have h4:=hid (a0.len.trans f8.out.1);have u7:Hd po pl:=by have:=c2.hd;rw[d0]at this;exact this
   have n1:=hid (fun k (d:ob po k=true)=>c2.block d);have u5:Hd oo c:=by have:=C.hd;rw[List.length_replicate]at this;exact this
   obtain⟨M,c0⟩:∃M,mz (un (un X oo) po) ao a5=M:=⟨_,rfl⟩;have j3:=hid c0;have p6:OL QC 3 (cut M oo) wo.heap.size 38 w7 oo c (sN R p c 0):=C.ext QC.elem j0 (fun k _ d=>a1T.2 (.inr (a2D.1 d))) (fun k d hz=>by
    obtain⟨h1,h2⟩:=b0Y hz;rw[<-c0]at h1;rcases a1T.1 h1 with h|h
    ·by_cases hx:X k=true
     ·exact a1T.2 (.inl hx)
     ·have:ob po k=true:=by simpa[un,hx,h2]using h
      have:=(n1.out k this).1;omega
    ·have h3:mb ao a5 k=true:=a2D.2 h
     rw[m5]at h3;exact a1T.2 (.inr (a2D.1 h3)))
   have r8:Hid (∀k,ob oo k=true->M k=true):=hid fun k d=>by rw[<-c0];exact a1T.2 (.inl (a0i (a0r d)))
   clear c9 O C m5 c0 d0;go_wp2_with fail
   go_loopw [62] (fun k wr=>∃(j:Nat),k= .int .i64 j/\j<=pl/\MO (un (un X oo) po) w2.heap.size 25 38 wr ao cap a5 R/\OL QC 3 (cut M oo) wo.heap.size 38 wr oo c (sN R p c j)/\OL (a0c .i64) 1 (mz (un X oo) ao y) N.heap.size 3 wr po pc p/\Hid (∀k (d:k<p.length),k<j->p[k]≠c)/\Ext w2 wr) (fun k _=>pl - (intOf k).toNat)
   case atStart=>exact⟨0,rfl,Nat.zero_le _,a0,p6,c2,hid (fun k _ h=>by omega),i9⟩
   case round=>
    obtain⟨j,rfl,hj,E,hO,hP,m7,hE⟩:=hrel;by_cases r6:j<pl
    ·have g9:j<p.length:=by rw[b6.out];exact r6
     have l2:=(hP.sl (a0c.elem _)).nat j g9;have e9:Hid (p[j]<c+1):=hid (q0.out.lt j g9);have l8:Hid (p.getD j 0=p[j]):=hid (by simp[List.getD_eq_getElem?_getD,g9]);have e7:Hid (p[j]∈p):=hid (List.getElem_mem _);obtain⟨q,hq⟩:∃q,p[j]=q:=⟨_,rfl⟩;rw[hq]at l2 e9 l8 e7;have r9:=hid hq;clear hq;by_cases d2:q=c
     ·have G:((q:Int)==(c:Int))=true:=a7k (by omega)
      have h5:Hid (c∈p):=hid (d2▸e7.out);clear d2;go_wp2_with (with_reducible refine a0s a2J (by omega) (by assumption) ?_)
      go_ret2
      unfold b1q;rw[d8.out];exact⟨hE, .inl ⟨h5.out,rfl⟩⟩
     ·have G:((q:Int)==(c:Int))=false:=a2H (by omega)
      have n5:q<c:=by have:=e9.out;omega
      have m8:Hid (∀k (d:k<p.length),k<j+1->p[k]≠c):=hid fun k d u9=>by
       by_cases h:k=j
       ·subst h;rw[r9.out];exact d2
       ·exact m7.out k d (by omega)
      have c7:j<a5.length:=by rw[h4.out];omega
      have g8:j<R.length:=by rw[f8.out.1];omega
      have h9:=hid (f8.out.2 R[j] (List.getElem_mem _));obtain⟨a,F,cr,f⟩:∃a F cr,a5[j]=(a,F,cr):=⟨_,_,_,rfl⟩;have I:F=c+1:=by
       have:=E.rlen j c7 g8;rw[f,h9.out]at this;exact this
      have hR:=E.row j c7 g8;simp only[f]at hR;have d5:=fun k (d:ob a k=true)=>E.mz_sub c7 k (by rw[f];exact d);have d3:Hid (un (cut (mz (un (un X oo) po) ao a5) a) a=M):=hid (by rw[a4I d5];exact j3.out);have l4:Hd a F:=by have:=hR.hd;rw[h9.out,<-I]at this;exact this
      have y1:wr.cell? (adr ao j)=some (.slice a F cr):=by
       have:=(E.hdr j c7).1;rw[f]at this;exact this
      have l0:c<R[j].length:=by rw[h9.out];omega
      have r0:Hid (R[j][c]=ent R j c):=hid (by unfold ent;rw[a2O g8];simp[List.getD_eq_getElem?_getD,l0]);have o3:Hid (un (cut M oo) oo=M):=hid (a4I r8.out);have s0:q<(sN R p c j).length:=by rw[b0W];exact n5
      have s2:Hid ((sN R p c j).set q (ent R j c)=sN R p c (j+1)):=hid (by rw[<-l8.out];rfl);have z:=hid I;have t9:c<F:=by omega
      clear f I d2;go_wp2_with (first|(with_reducible refine a0s a2J (by omega) (by assumption) ?_)|(with_reducible refine a0s a0p (by omega) (by assumption) ?_)|(with_reducible refine a1I a0w (by omega) (by assumption) ?_)|((with_reducible show wpList _ _ _ (⟨_, .load 38 _,_,_,_,_⟩::_) _ _);refine a5u a0o c hR l0 rfl (by simp) QC.agg ?_;intro u6 a7;rw[r0.out,d3.out]at a7;obtain⟨s6,a6,n6,c6,d6,k6,e6,rfl⟩:=a7.shape)|((with_reducible show wpList _ _ _ (⟨_, .store 38 _ _,_,_,_,_⟩::_) _ _);refine a3D a6n QC.elem q rfl (by simp) hO s0 _ (ent R j c) rfl (by rw[o3.out];exact a7) ?_;intro w8 j8 a9))
      rw[s2.out]at j8;have p5:=E.ext (X':=un (un X oo) po) a9 (fun k _ d=>a0i (a0r d)) (fun _ _ h=>h);have p7:=hP.frame (a0c.pure _) a9 (fun k d=>by
       cases G:ob oo k
       ·rfl
       ·have:=(n1.out k d).1;have:=(e8.out k G).2;omega) hP.1
      have p4:=hE.then_ a9 fun k d _=>by
       cases G:ob oo k
       ·rfl
       ·have:=(e8.out k G).1;omega
      clear y1 l2;go_roundw
      case rel=>exact⟨j+1,by go_num,by omega,p5,j8,p7,m8,p4⟩
      case measure=>simp[intOf];omega
    ·have r4:j=pl:=by omega
     subst r4;have r7:c∉p:=fun hm=>by
      obtain⟨k,d,r5⟩:=List.getElem_of_mem hm;exact m7.out k d (by rw[<-b6.out];exact d) r5
     have y:=(hO.sl QC.elem).mono QC.mono (a1v (X:=X) fun k _ d=>a5r (by rw[<-j3.out];exact a1T.2 (.inl (a0i (a0i d)))) (by
      cases G:ob oo k
      ·rfl
      ·have:=n0.out k G;rw[d]at this;simp at this))
     have m4:=hO.lenCap;go_wp2_with fail
     go_ret2
     rw[<-b6.out]at y m4;unfold b1q;rw[d8.out];exact⟨hE, .inr ⟨r7, .slice oo c c,rfl,oo,c,by show Value.slice oo c c=Value.slice oo (sN R p c p.length).length c;rw[b0W],m4,y⟩⟩
end Go.Proofs.YtgbbpgflopajaaaGreat
namespace Go.Lin
noncomputable def fmS(m:Mom):Mat×List Nat:=a0J (a3f m.xx m.xy m.xx.length) (m.xx.length+1)
noncomputable def fmC(m:Mom):List Rat:=b7e (fmS m).1 (fmS m).2 m.xx.length
theorem b8R(m:Mom):(fmC m).length=m.xx.length:=a9W _ _ _
theorem b2f{m:Mom}(h:a6r m=true):(0<=m.n/\m.n<=1099511627776)/\a0y m.xx=true/\m.xx.length=colsL m.xx/\m.xx.length=m.xy.length/\m.xy.length<=12:=by
 unfold a6r at h;rw[Bool.and_eq_true,Bool.and_eq_true,decide_eq_true_eq,decide_eq_true_eq]at h;exact⟨h.1,h.2.1,h.2.2.1,h.2.2.2.1,h.2.2.2.2⟩
end Go.Lin
namespace Go.Proofs.YtgbbpgflopajaaaGreat
open Go.RowKit Go.Rep Go.Lim Go.Lin
theorem a5T{P:Program}{w:World}{fn:Func}{a:Array Value}{f c g i:Tmp}{t:TypeId}{n b:Nat}{d:Array Value}{T:TypeId}(h:fn.results=#[.tmp f, .cell c t, .tmp g, .tmp i])(j:a.getD c undef= .pointer (some ⟨b,0,none⟩))(k:a1F P t n)(l:Bx w b d T)(e:d.size=n):(results fn a).run P w= .ok (.tuple #[a.getD f undef, .agg d,a.getD g undef,a.getD i undef]) w:=by
 have m:=a2g (P:=P) k l e;rw[Array.getD_eq_getD_getElem?]at j;simp[results,h,j,asAddr,m]
def b2g(X:Nat->Bool)(w:World)(m:Mom)(e:Ending)(w':World):Prop:=Ext w w'/\∃z u k c,e= .returned (.tuple #[z,u, .int .i64 k, .int .i64 c])/\
 ((a6r m=false/\c=4/\k=0/\RC (mk X w') z []/\QC (mk X w') u 0)\/(a6r m=true/\m.xx.length∈(fmS m).2/\c=11/\k=0/\RC (mk X w') z []/\QC (mk X w') u 0)\/(a6r m=true/\m.xx.length∉(fmS m).2/\c=0/\k=(a8Y m.xx m.xx.length:Int)/\RC (mk X w') z (fmC m)/\QC (mk X w') u (m.yy - a1Z (fmC m) m.xy)))
theorem a9q(X:Nat->Bool)(w:World)(u:Value)(m:Mom)(hX:HX X w)(hu:b3J (mk X w) u m)(hl:m.xx.length<=4)(hB:BMo 6541 m):Calls Tryz.prog 197 #[u] w (b2g X w m):=by
 have J:=hid fun f (h:Ext w f)=>b0j X f u m (hX.ext h) (mkx b3J.mono hu h) (by omega);obtain⟨xo,xl,xc,yo,yl,yc,s,a,n,c,d,k,e,rfl,hx,hy,c1⟩:=hu;obtain⟨W,hW,L,A,b1,hz⟩:=a1x w #[.int .i64 m.n, .slice xo xl xc, .slice yo yl yc, .bool s, .slice a n c, .slice d k e] #[.bool false, .slice none 0 0, .slice none 0 0] 202 38;have O:HX (a0e X w.heap.size 2) W:=hX.boxes hz;have V:Hid (∀f,Ext W f->Le (mk X w) (mk (a0e X w.heap.size 2) f)):=hid fun f h=>a0l (L.trans h);obtain⟨b,hb⟩:∃b,w.heap.size=b:=⟨_,rfl⟩;have e8:w.heap.size<=b:=by omega
 rw[hb]at A b1 hz O V;obtain⟨N,hN⟩:∃N,m.n=N:=⟨_,rfl⟩;rw[hN]at A hW J |-;have k0:=A.cell 0 rfl;have k1:=A.cell 1 rfl;have k2:=A.cell 2 rfl;have k3:=A.cell 3 rfl;have k4:=A.cell 4 rfl;have k5:=A.cell 5 rfl;have h0:QC (mk X W) (.agg #[.bool false, .slice none 0 0, .slice none 0 0]) 0:=QC.zero _;cases y:a6r m
 ·have B:=J.out W L
  rw[y]at B;have b8:=hid y;clear J y hN;go_enter Tryz.func197,Tryz.ntmps197
  go_wp2_with fail
  refine B.mono ?_;rintro ee w1 ⟨r,rfl⟩;have a5:=b1.ext0 r;clear B k0 k1 k2 k3 k4 k5;go_wp2_with ((with_reducible show wpList _ _ _ (⟨_, .store 38 _ _,_,_,_,_⟩::_) _ _);refine a0a a0o rfl rfl a5 rfl rfl (a1z _ _ _ _ _ _ _) ?_;intro w7 r1 r2)
  have a1:Ext w w7:=ExtX.box (L.trans r) r2 (by omega);exact bodyPost_ret (a5T rfl rfl a0o r1 rfl) rfl ⟨a1,_,_,_,_,rfl, .inl ⟨b8.out,rfl,rfl,SlV.zero _ _ _,QC.zero _⟩⟩
 ·obtain⟨_,hf,K,c7,_⟩:=b2f y
  obtain⟨B1,B2,B3⟩:=hB;obtain⟨G,_,_,_,_⟩:=a0D hf;rw[<-K]at G;have U:=a5v B1 (by decide);have b4:=(a3y (a2p (b:=m.xy) G) (b1d G U B2) hl (by decide)).1;have b3:=(a3y G U hl (by decide)).1.e;have P:BR 8500000 (fmC m):=fun q hq=>Nat.le_trans (b3Q G U B2 hl q hq) (by decide);have Q:=b8R m;have R:=a1A (l:=fmC m) (m:=m.xy) P (fun q hq=>Nat.le_trans (B2 q hq) (by decide)) (by decide) (by omega) (by decide);have b7:Hid (hq (a1Z (fmC m) m.xy)<=68719476736):=hid (R.1 _ (Nat.le_refl _));have j:=hid fun f (h:Ext W f) (u v:Value) (M:MV (mk (a0e X b 2) f) u m.xx) (h2:RV (mk (a0e X b 2) f) v m.xy)=>b6d (a0e X b 2) f u v m.xx m.xy m.xx.length m.xx.length (O.ext h) M h2 hf rfl K.symm c7.symm b4;have Y:=hid fun f (h:Ext W f) (u:Value) (M:MV (mk (a0e X b 2) f) u m.xx)=>b8Q (a0e X b 2) f u m.xx (O.ext h) M hf (by rw[<-K];exact b3);have T:=hid fun f (u v:Value) (d7:HX (a0e X b 2) f) (M:RV (mk (a0e X b 2) f) u (fmC m)) (h2:RV (mk (a0e X b 2) f) v m.xy)=>a6y (a0e X b 2) f u v (fmC m) m.xy d7 M h2 (by omega) (by omega) R.1 R.2;have c5:=hid fun f (h:Ext W f)=>MV.mono _ _ _ _ (V.out f h) hx;have c8:=hid fun f (h:Ext W f)=>RV.mono _ _ _ _ (V.out f h) hy;have e4:=hid fun f (h:Ext W f)=>QV.mono _ _ _ _ (V.out f h) c1;have E:Hid (m.xx.length∈(fmS m).2->∀(f:World) z u,Ext w f->RC (mk X f) z []->QC (mk X f) u 0->b2g X w m (.returned (.tuple #[z,u, .int .i64 0, .int .i64 11])) f):=hid fun M f z u L hz hu=>⟨L,z,u,_,_,rfl, .inr (.inl ⟨y,M,rfl,rfl,hz,hu⟩)⟩;have i:Hid (m.xx.length∉(fmS m).2->∀(f:World) z u,Ext w f->RC (mk X f) z (fmC m)->QC (mk X f) u (m.yy - a1Z (fmC m) m.xy)->b2g X w m (.returned (.tuple #[z,u, .int .i64 (a8Y m.xx m.xx.length:Int), .int .i64 0])) f):=hid fun M f z u L hz hu=>⟨L,z,u,_,_,rfl, .inr (.inr ⟨y,M,rfl,rfl,hz,hu⟩)⟩;have B:=J.out W L;rw[y]at B;rw[<-K]at Y;unfold b1q at j;obtain⟨D,hD⟩:∃D,a1Z (fmC m) m.xy=D:=⟨_,rfl⟩;rw[hD]at b7 T i;obtain⟨F,hF⟩:∃F,b2g X w m=F:=⟨_,rfl⟩;rw[hF]at E i |-;obtain⟨rk,Z⟩:∃rk,a8Y m.xx m.xx.length=rk:=⟨_,rfl⟩;rw[Z]at Y i;have b2:a0J (a3f m.xx m.xy m.xx.length) (m.xx.length+1)=fmS m:=rfl;rw[b2]at j;have a7:b7e (fmS m).1 (fmS m).2 m.xx.length=fmC m:=rfl;rw[a7]at j;obtain⟨C,hC⟩:∃C,fmC m=C:=⟨_,rfl⟩;rw[hC]at j T i Q P;obtain⟨S,a9⟩:∃S,fmS m=S:=⟨_,rfl⟩;rw[a9]at j E i;obtain⟨q,c0⟩:∃q,m.xx.length=q:=⟨_,rfl⟩;rw[c0]at j E i Q;have d1:Hid (BR 68719476736 C):=hid fun x hx=>Nat.le_trans (P x hx) (by decide);have d2:=hid Q;clear J y hN hf K c7 G U b4 b3 P R hx hy c1 hD hF Z b2 a7 hC a9 c0 B1 B2 B3 hl Q;go_enter Tryz.func197,Tryz.ntmps197
  go_wp2_with fail
  refine B.mono ?_;rintro ee w1 ⟨r,rfl⟩;have a4:=A.ext0 r;have a5:=b1.ext0 r;have j1:=a4.cell 1 rfl;have j2:=a4.cell 2 rfl;have a3:=j.out w1 r _ _ (c5.out w1 r) (c8.out w1 r);clear B k0 k1 k2 k3 k4 k5 j;go_wp2_with fail
  refine a3.mono ?_;rintro ee w2 ⟨d3,e1⟩;have p:=r.trans d3;rcases e1 with⟨t,rfl⟩|⟨t,cv,rfl,b6⟩
  ·have d0:=b1.ext0 p
   have I:=hid (E.out t);clear a3 t j1 j2 E i;go_wp2_with ((with_reducible show wpList _ _ _ (⟨_, .store 38 _ _,_,_,_,_⟩::_) _ _);refine a0a a0o rfl rfl d0 rfl rfl (a1z _ _ _ _ _ _ _) ?_;intro w7 r1 r2)
   have a1:Ext w w7:=ExtX.box (L.trans p) r2 (by omega);exact bodyPost_ret (a5T rfl rfl a0o r1 rfl) rfl (I.out w7 _ _ a1 (SlV.zero _ _ _) (QC.zero _))
  ·have I:=hid (i.out t)
   have c9:=A.ext0 p;have i1:=c9.cell 1 rfl;have c2:=Y.out w2 p _ (c5.out w2 p);have H:=hid b6;obtain⟨co,cc,rfl,_,_⟩:=b6;rw[d2.out]at H |-;clear a3 t j1 j2 E i Y;go_wp2_with fail
   refine c2.mono ?_;rintro ee w3 ⟨a0,rfl⟩;have a8:=p.trans a0;have a2:Ext w3 w3.drew:=(ExtX.refl _).drew;have g:=a8.trans a2;have hS:Hid (∀f,Ext w3.drew f->f.cell? ⟨b,3,none⟩=some (.bool s)/\f.cell? ⟨b,3+1,none⟩=some (.slice a n c)/\f.cell? ⟨b,3+2,none⟩=some (.slice d k e)/\f.cell? ⟨b,2,none⟩=some (.slice yo yl yc)):=hid fun f h=>by
    have b9:=A.ext0 (g.trans h);exact⟨b9.cell 3 rfl,b9.cell 4 rfl,b9.cell 5 rfl,b9.cell 2 rfl⟩
   obtain⟨g0,g1,g2,g3⟩:=hS.out _ (ExtX.refl _);have b5:HX (a0e X b 2) w3.drew:=O.ext g;have e0:=T.out w3.drew _ _ b5 ((mkx RC.mono H.out (a0.trans a2)).rv d1.out) (c8.out _ g);have e3:=e4.out w3.drew g;clear c2 i1 T;go_wp2_with fail
   go_region_held3 (fun f=>f.cell? ⟨b,3,none⟩=some (.bool s)/\f.cell? ⟨b,3+1,none⟩=some (.slice a n c)/\f.cell? ⟨b,3+2,none⟩=some (.slice d k e)/\f.cell? ⟨b,2,none⟩=some (.slice yo yl yc))
    (first|exact hS.out _ t1|exact hS.out _ t2|exact⟨((A.ext0 (g.trans t2)).ext (o.set3 _ _ _).2 (a0b (by omega))).cell 3 rfl,((A.ext0 (g.trans t2)).ext (o.set3 _ _ _).2 (a0b (by omega))).cell 4 rfl,((A.ext0 (g.trans t2)).ext (o.set3 _ _ _).2 (a0b (by omega))).cell 5 rfl,((A.ext0 (g.trans t2)).ext (o.set3 _ _ _).2 (a0b (by omega))).cell 2 rfl⟩|go_keep)
    (first|(go_at_call 199;(with_reducible refine e0.mono ?_);rintro ee w5 ⟨t1,u5,rfl,e7⟩;have d8:=HX.ext b5 t1;have e2:=mkx QV.mono e3 t1;have c3:=e7.qv b7.out)|(go_at_call 76;(with_reducible refine(b8d (a0e X b 2) w5 _ _ _ _ d8 e2 c3).mono ?_);rintro ee w6 ⟨d4,u6,rfl,c4⟩;have t2:=t1.trans d4;obtain⟨s6,a6,n6,c6,d6,k6,e6,rfl⟩:=c4.shape;have o:=b1.ext0 (g.trans t2);have f0:=o.cell 0 rfl;have f1:=o.cell 1 rfl;have f2:=o.cell 2 rfl;have f3:=o.frozen 0;have f4:=o.frozen 1;have f5:=o.frozen 2))
   all_goals
    obtain⟨r1,r2⟩:=o.set3 (.bool s6) (.slice a6 n6 c6) (.slice d6 k6 e6);have h7:=QC.mono _ _ _ _ a0k (QC.mono _ _ _ _ (a0g r2 (by omega) (by omega)) c4);have d9:=RC.mono _ _ _ _ a0k (RC.mono _ _ _ _ (a0g r2 (by omega) (by omega)) (mkx RC.mono H.out (a0.trans (a2.trans t2))));have d5:Ext w _:=ExtX.box (L.trans (g.trans t2)) r2 (by omega);clear g0 g1 g2 g3 f0 f1 f2 f3 f4 f5 hS;go_wp2_with fail
    exact bodyPost_ret (a5T rfl rfl a0o r1 rfl) rfl (I.out _ _ _ d5 d9 h7)
theorem b1r:a1F Tryz.prog 144 6:=by
 have h:(Tryz.prog.info? 144).map (fun i=>(i.zero,i.size,i.bytes))=some (some (.agg #[.int .i64 0, .slice none 0 0, .slice none 0 0, .bool false, .slice none 0 0, .slice none 0 0]),6,112):=by kernel_rfl
 obtain⟨c,a,_,b,_⟩:=info_parts h;exact⟨_,c,Tryz.underlying144,a,b⟩
theorem a7I(X:Nat->Bool)(w:World)(u t:Value)(x:Mat)(y:List Rat)(n c B:Nat)(hX:HX X w)(R:MV (mk X w) u x)(Q:RV (mk X w) t y)(p:a6x x y=true)(o:x.length=n)(m:colsL x=c)(hn:n<=8)(hc:c<=4)(q:BM B x)(r:BR B y)(A:1<=B)(hB:B<=510/\n*(2*B+1)<=6540):Calls Tryz.prog 117 #[u,t] w (fun e i=>Ext w i/\∃H,e= .returned H/\a5G (mk X i) H (gmM x y c n)):=by
 obtain⟨W,hW,L,I,hz⟩:=a0R w #[.int .i64 0, .slice none 0 0, .slice none 0 0, .bool false, .slice none 0 0, .slice none 0 0] 144;have l:HX (a0e X w.heap.size 1) W:=hX.boxes hz;have f:Hid (∀i,Ext W i->Le (mk X w) (mk (a0e X w.heap.size 1) i)):=hid fun i h=>a0l (L.trans h);obtain⟨b,hb⟩:∃b,w.heap.size=b:=⟨_,rfl⟩;have a0:w.heap.size<=b:=by omega
 rw[hb]at I hz l f;have C:=a7H (a0e X b 1) W u t x y n c B l (MV.mono _ _ _ _ (f.out W (ExtX.refl _)) R) (RV.mono _ _ _ _ (f.out W (ExtX.refl _)) Q) p o m hn hc q r A hB;obtain⟨M,O⟩:∃M,gmM x y c n=M:=⟨_,rfl⟩;rw[O]at C |-;obtain⟨ua,uc,rfl,a2,G⟩:=R;obtain⟨ta,tc,rfl,a1,F⟩:=Q;clear O f p o m q r G F;go_enter Tryz.func117,Tryz.ntmps117
 go_wp2_with fail
 refine C.mono ?_;rintro e v ⟨j,H,rfl,D⟩;obtain⟨Y,V,U,yo,yl,Z,s,a,S,J,d,k,K,rfl,h1,h2,h3⟩:=id D;obtain⟨N,P⟩:∃N,M.n=N:=⟨_,rfl⟩;rw[P]at D;have b1:=I.ext0 j;clear C;have g:Ext v (v.alloc (.cells #[.int .i64 N, .slice Y V U, .slice yo yl Z, .bool s, .slice a S J, .slice d k K] 202)):=(ExtX.refl v).alloc _;have bM:=Bx.new v #[.int .i64 N, .slice Y V U, .slice yo yl Z, .bool s, .slice a S J, .slice d k K] 202;have z:=b1.ext0 g;have E:=a5G.mono _ _ _ _ (a0m g) D;rw[P];go_wp2_with (first|((with_reducible show wpList _ _ _ (⟨_, .load 202 _,_,_,_,_⟩::_) _ _);refine a2T a3N rfl bM rfl ?_)|((with_reducible show wpList _ _ _ (⟨_, .store 144 _ _,_,_,_,_⟩::_) _ _);refine a0a b1r rfl rfl z rfl rfl (c1s _ _ _ _ _ _ _ _ _ _ _ _ _ _) ?_;intro w7 r1 T))
 have h7:=a5G.mono _ _ _ _ a0k (a5G.mono _ _ _ _ (a0g T (by omega) (by omega)) E);exact bodyPost_ret (a0d rfl rfl b1r r1 rfl) rfl ⟨ExtX.box (L.trans (j.trans g)) T (by omega),_,rfl,h7⟩
end Go.Proofs.YtgbbpgflopajaaaGreat
namespace Go.Lin
open Go.Lim Go.Rep
end Go.Lin
namespace Go.Proofs.YtgbbpgflopajaaaGreat
open Go.RowKit Go.Rep Go.Lim
open Go.Lin
end Go.Proofs.YtgbbpgflopajaaaGreat
namespace Go.Rep
open Go.RowKit
section
variable {P:Program} {ops:Array Oper} {Q:Exit->Act->World->Prop} {rest:List Oper} {a:Act} {w:World}
variable {α:Type} {R:Mem->Value->α->Prop} {sz:Nat} {X:Nat->Bool} {base:Nat} {e:TypeId} {ao:Option Addr} {cap:Nat} {l:List α}
variable {d:Option Tmp} {ty:TypeId} {ps:String} {af:Array Edge}
theorem OL.field(C:Elem R sz)(h:OL R sz X base e w ao cap l)(i j:Nat)(hi:i<l.length)(A:j<sz)(v:Value)(y:α)(O:∀u,R (mk (un X ao) w) u l[i]->∃u',a0j u'=(a0j u).set j v/\R (mk (un X ao) w) u' y):(∃v0,w.cell? (adr ao (i*sz+j))=some v0)/\w.frozen? (adr ao (i*sz+j))=false/\Sl R sz (mk X (w.setCell (adr ao (i*sz+j)) v)) ao (l.set i y)/\ExtX (ob ao) w (w.setCell (adr ao (i*sz+j)) v):=by
 obtain⟨us,K,m,L,M,G⟩:=h.cells;have t:(i+1)*sz<=us.length*sz:=Nat.mul_le_mul_right _ (by omega);rw[Nat.succ_mul]at t;have a:∀k (d:k<us.length) q (hq:q<sz),w.cell? (adr ao (k*sz+q))=some (us[k].cells[q]'(by rw[m _ (List.getElem_mem _)];exact hq))/\w.frozen? (adr ao (k*sz+q))=false:=by
  intro k d q hq;have hz:us[k].cells.size=sz:=m _ (List.getElem_mem _);have J:=a3C us k q d m hq;have n:(a0j us[k])[q]? =some (us[k].cells[q]'(by rw[hz];exact hq)):=by simp[a0j,hz,hq]
  rw[n]at J;exact M _ _ J
 have H:ExtX (ob ao) w (w.setCell (adr ao (i*sz+j)) v):=
  ⟨rfl,rfl,rfl,by simp[World.setCell],fun k d P=>Below.heap_setCell _ _ _ _ (fun e=>by
   have D:=h.form;rcases D with⟨_,_,rfl⟩|⟨g,B,rfl,_⟩
   ·simp at hi
   ·subst e;simp[ob]at P)⟩
 have I:∀q,X (adr ao q).block=false:=by
  intro q;have D:=h.form;have hx:=h.1;rcases D with⟨_,_,rfl⟩|⟨g,B,rfl,_⟩
  ·simp at hi
  ·exact hx _ (by simp[ob,adr])
 have o:i<us.length:=by omega
 refine⟨⟨_,(a i o j A).1⟩,(a i o j A).2,⟨by simpa using h.hd,fun k d=>?_⟩,H⟩;have c:k<us.length:=by simpa[K]using d
 have p:Le (mk (un X ao) w) (mk X (w.setCell (adr ao (i*sz+j)) v)):=a1i H (fun k _ d=>a0r d) fun k _ d=>a0i d;by_cases f:k=i
 ·subst f
  obtain⟨u',F,z⟩:=O us[k] (G k c (by omega));have x:=C.size _ _ _ z;refine⟨u',x,fun q hq=>?_,by simpa using C.mono _ _ _ _ p z⟩;have r:q<sz:=by omega
  have b:(a0j u')[q]? =some u'.cells[q]:=by simp[a0j,hq]
  rw[F,List.getElem?_set]at b;unfold mk;rw[I];by_cases s:j=q
  ·subst s
   rw[if_pos rfl,if_pos (by simp[a0j,m _ (List.getElem_mem c),A])]at b;have:u'.cells[j]=v:=by simpa using b.symm
   rw[this];exact World.cell?_setCell_same' w _ v (by rw[(a k c j A).1];rfl)
  ·rw[if_neg s]at b
   have n:=(a k c q r).1;have:us[k].cells[q]'(by rw[m _ (List.getElem_mem _)];exact r)=u'.cells[q]:=by
    simpa[a0j]using(List.getElem?_eq_some_iff.1 b).2
   rw[this]at n;rw[<-n];exact World.cell?_setCell_other w _ _ v (by simp[adr])
 ·have hz:us[k].cells.size=sz:=m _ (List.getElem_mem _)
  refine⟨us[k],hz,fun q hq=>?_,by simpa[List.getElem_set,Ne.symm f]using C.mono _ _ _ _ p (G k c (by simpa using d))⟩;have n:=(a k c q (by omega)).1;unfold mk;rw[I,<-n];refine World.cell?_setCell_other w _ _ v ?_;have N:k*sz+q≠i*sz+j:=by
   intro Q;rcases Nat.lt_or_gt_of_ne f with E|E
   ·have:=Nat.mul_le_mul_right sz (show k+1<=i by omega)
    rw[Nat.succ_mul]at this;omega
   ·have:=Nat.mul_le_mul_right sz (show i+1<=k by omega)
    rw[Nat.succ_mul]at this;omega
  simp[adr]
theorem b0l{t:TypeId}{x y:Operand}{A:Addr}{v v0:Value}(g:TyI P t 1)(hx:a.eval x= .pointer (some A))(l:a.eval y=v)(k:v.cells=#[v])(b:v.oneCell'=true)(h:w.cell? A=some v0)(i:w.frozen? A=false)(K:wpList P ops Q rest (a.put d undef) (w.setCell A v)):wpList P ops Q (⟨d, .store t x y,ty,ps,af,none⟩::rest) a w:=by
 refine wpList_plain rfl fun m c=>?_;obtain⟨n,j,f⟩:=g;unfold Oper.wp;subst l;have e:=run_store P w A (a.eval y) .plain b;rw[h,i]at e;simp only[Bool.false_eq_true,if_false]at e;simp[execOp,hx,Instr.storeAt,Instr.sureAddr,storeVar,sizeOf,typeInfo,j,f,k,Result.andThen,storeCells,Addr.add_zero',e];exact c _ _ K
end
end Go.Rep
namespace Go.Rep
open Go.RowKit
section
variable {P:Program} {ops:Array Oper} {Q:Exit->Act->World->Prop} {rest:List Oper} {a:Act} {w:World}
variable {α:Type} {R:Mem->Value->α->Prop} {sz:Nat} {X:Nat->Bool} {e:TypeId}
variable {d:Option Tmp} {ty:TypeId} {ps:String} {af:Array Edge}
theorem b8S{t i:Nat}{z:Value}{s x:Operand}{h:Option Addr}{q m:Nat}(T:SliceT P t e sz i z)(p:z.cells.size=sz)(A:Elem R sz)(B:∀k,X k=true->k<w.heap.size)(n:List α)(D:a.eval s= .slice none 0 0)(hx:a.eval x= .slice h m q)(C:m=n.length)(hxs:Sl R sz (mk X w) h n)(f:m*i<=140737488355328)(j:m<=9223372036854775807)(K:∀c b g,OL R sz X w.heap.size e g c b n->Ext w g->wpList P ops Q rest (a.put d (.slice c m b)) g):wpList P ops Q (⟨d, .call {callee:= .builtin .append,args:=#[s,x],argTypes:=#[t,t]},ty,ps,af,none⟩::rest) a w:=by
 subst C;have r:OL R sz X w.heap.size e w none 0 []:=OL.nil _ _ _ _ _ _;have o:un X none=X:=by funext k;simp[un,ob]
 refine a4p (l:=[]) T p A (Nat.le_refl _) B n D hx r (by rw[o];exact hxs) (by simpa using f) (by simpa using j) ?_;intro c b g u v E;have y:Ext w g:=v.weaken fun k _ _=>by simp[ob]
 exact K c b g u y
theorem OL.rehide{base cap:Nat}{ao:Option Addr}{l:List α}(o:Elem R sz)(a:∀h d u x,R h u x->R d u x)(h:OL R sz X base e w ao cap l){Z:Nat->Bool}(hz:∀k,ob ao k=true->Z k=false):Sl R sz (mk Z w) ao l:=by
 have p:=h.form;have b:=h.sl o;rcases p with⟨rfl,_,rfl⟩|⟨g,c,rfl,_⟩
 ·exact Sl.nil _ _ _ _
 ·refine⟨b.1,fun i hi=>?_⟩
  obtain⟨u,f,m,n⟩:=b.2 i hi;refine⟨u,f,fun j q=>?_,a _ _ _ _ n⟩;have:=a1h (m j q);unfold mk;rw[hz _ (by simp[ob,adr])];simpa using this
theorem OL.beside{base cap:Nat}{ao oo a:Option Addr}{l:List α}{c:World}(f:Elem R sz)(h:OL R sz (un X oo) base e w ao cap l)(d:ExtX (ob oo) w c)(i:a=oo\/∃g,a=some ⟨g,0,none⟩/\w.heap.size<=g):OL R sz (un X a) base e c ao cap l:=
 h.ext f d (fun k _ b=>a0r b) fun k b hz=>by
  rcases i with rfl|⟨g,rfl,j⟩
  ·exact hz
  ·by_cases hx:X k=true
   ·exact a0i hx
   ·have:g=k:=by simpa[un,hx,ob]using hz
    omega
end
end Go.Rep
namespace Go.Rep
open Go.RowKit
section
variable {P:Program} {ops:Array Oper} {Q:Exit->Act->World->Prop} {rest:List Oper} {a:Act} {w:World}
variable {α:Type} {R:Mem->Value->α->Prop} {sz:Nat} {X:Nat->Bool} {base:Nat} {e:TypeId} {ao:Option Addr} {cap:Nat} {l:List α}
variable {d:Option Tmp} {ty:TypeId} {ps:String} {af:Array Edge}
theorem OL.take(h:OL R sz X base e w ao cap l)(_:∀m u x,R m u x->u.cells.size=sz)(n:Nat):OL R sz X base e w ao cap (l.take n):=by
 have F:=h.form;obtain⟨hx,us,f,t,j,⟨E,v⟩,y⟩:=h;have a:∀u∈us.take n,u.cells.size=sz:=fun u o=>t u (List.mem_of_mem_take o);refine⟨hx,us.take n,by simp[f],a,fun u o=>j u (List.mem_of_mem_take o),⟨by rw[a0Q _ a];simp[f],?_⟩,fun i hi k=>?_⟩
 ·rcases v with⟨b,G⟩|⟨g,c,d,b,z,A,H,B,C,D⟩
  ·simp at b
   obtain⟨rfl,p,rfl⟩:=b;refine .inl ⟨by simp[p],by simp[p]⟩
  ·simp at b
   obtain⟨rfl,rfl⟩:=b;refine .inr ⟨g,cap,d,by simp,z,A,by simp;omega,B,C,?_⟩;have q:(us.take n).flatMap a0j=(us.flatMap a0j).take ((l.take n).length*sz):=by
    have r:us.flatMap a0j=(us.take n).flatMap a0j++(us.drop n).flatMap a0j:=by
     rw[<-List.flatMap_append,List.take_append_drop]
    rw[r];have s:(l.take n).length*sz=((us.take n).flatMap a0j).length:=by rw[a0Q _ a];simp[f]
    rw[s,List.take_left]
   rw[q,<-D,List.take_take]
   congr 1
   have:(l.take n).length<=l.length:=by simp;omega
   exact(Nat.min_eq_left (Nat.mul_le_mul_right _ this)).symm
 ·simp only[List.getElem_take]
  exact y i (by simp at hi;omega) (by simp at k;omega)
theorem a7p{t Z:Nat}{z:Value}{arr:Array Value}{s x:Operand}{g n:Nat}(T:SliceT P t e sz Z z)(D:Elem R sz)(hs:a.eval s= .slice (some ⟨g,0,none⟩) n cap)(hn:l.length=n)(hx:a.eval x= .slice (some ⟨w.heap.size,0,none⟩) 1 1)(h:OL R sz X base e w (some ⟨g,0,none⟩) cap l)(u:Value)(y:α)(H:arr=u.cells)(hu:R (mk (un X (some ⟨g,0,none⟩)) w) u y)(m:n+1<=cap)(K:∀w',OL R sz X base e w' (some ⟨g,0,none⟩) cap (l++[y])->ExtX (ob (some ⟨g,0,none⟩)) w w'->wpList P ops Q rest (a.put d (.slice (some ⟨g,0,none⟩) (n+1) cap)) w'):wpList P ops Q (⟨d, .call {callee:= .builtin .append,args:=#[s,x],argTypes:=#[t,t]},ty,ps,af,none⟩::rest) a (w.alloc (.cells arr e)):=by
 subst hn;refine wpList_plain rfl fun K' a3=>?_;have Y:Ext w (w.alloc (.cells arr e)):=(ExtX.refl w).alloc _;have h':=h.ext0 D Y;obtain⟨i,hi,hz,o,a7⟩:=info_parts T.info;have hat:=b2u w arr e u H;have A:=D.size _ _ _ hu;have S:=D.one _ _ _ hu;have U:R (mk (un X (some ⟨g,0,none⟩)) (w.alloc (.cells arr e))) u y:=D.mono _ _ _ _ (a0m Y) hu;have r:(a0j u).length=1*i.size:=by simp[a0j,A,o]
 have q:∀j v,(a0j u)[j]? =some v->(w.alloc (.cells arr e)).cell? ((⟨w.heap.size,0,none⟩:Addr).add j)=some v:=by
  intro j v hj;rw[<-a7L rfl];exact hat.2 j v (by simpa using hj)
 have p:=h'.form;generalize hW:w.alloc (.cells arr e)=W at Y h' U q p;obtain⟨a6,us,h1,h2,a2,h3,h5⟩:=h';rcases p with⟨b,_⟩|⟨g',f,b,h6,h7,h8,h9,a0⟩
 ·simp at b
 simp at b;subst b;have V:(us.flatMap a0j).length=l.length*i.size:=by rw[a0Q us h2,h1,o]
 have J:(us++[u]).flatMap a0j=us.flatMap a0j++a0j u:=by simp
 have O:∀v∈us++[u],v.cells.size=sz:=by
  intro v b;rcases List.mem_append.1 b with b|b
  ·exact h2 v b
  ·rw[List.mem_singleton.1 b];exact A
 have C:∀v∈us++[u],∀c∈a0j v,c.oneCell'=true:=by
  intro v b c hc;rcases List.mem_append.1 b with b|b
  ·exact a2 v b c hc
  ·rw[List.mem_singleton.1 b]at hc;exact S c hc
 have I:l.length*i.size+(a0j u).length<=f.size:=by rw[r,a0,<-o,<-Nat.add_mul];exact Nat.mul_le_mul_right _ m
 have hr:=run_append_room (P:=P) W t ty e i T.und hi g l.length cap f h7 ⟨w.heap.size,0,none⟩ 1 1 (a0j u) r q S m I;have G:ExtX (ob (some ⟨g,0,none⟩)) W (W.setRow g (f.toList.take (l.length*i.size)++a0j u++f.toList.drop (l.length*i.size+(a0j u).length)).toArray):=
  ⟨rfl,rfl,rfl,by simp,fun k _ hk=>setRow_other W g k _ (fun ek=>by subst ek;simp[ob]at hk)⟩
 have B:(l++[y]).length=l.length+1:=by simp
 have a4:OL R sz X base e (W.setRow g (f.toList.take (l.length*i.size)++a0j u++f.toList.drop (l.length*i.size+(a0j u).length)).toArray) (some ⟨g,0,none⟩) cap (l++[y]):=by
  refine⟨a6,us++[u],by simp[h1],O,C,⟨by rw[J];simp[V,r,o,Nat.add_mul], .inr ⟨g,cap,_,by rw[B],h6,setRow_heap W g f _ e _ h7,by rw[B];exact m,h9,?_,?_⟩⟩,?_⟩
  ·simp only[List.size_toArray,List.length_append,List.length_take,List.length_drop,Array.length_toList];omega
  ·rw[J,B]
   rcases h3.2 with⟨b,_⟩|⟨g',c',E,b,_,F,_,_,_,a1⟩
   ·simp at b
   simp at b;obtain⟨rfl,rfl⟩:=b;rw[h7]at F;obtain rfl:f=E:=by simpa using F
   have e1:f.toList.take (l.length*i.size)=us.flatMap a0j:=by rw[o];exact a1
   rw[e1];have M:(l.length+1)*sz=(us.flatMap a0j++a0j u).length:=by simp only[List.length_append,V,r,o,Nat.add_mul]
   rw[M];exact List.take_left
  ·intro k hk a8
   have L:Le (mk (un X (some ⟨g,0,none⟩)) W) (mk (un X (some ⟨g,0,none⟩)) _):=a3o G (.inl rfl);by_cases N:k<us.length
   ·simpa[List.getElem_append_left N,List.getElem_append_left (show k<l.length by omega)]using D.mono _ _ _ _ L (h5 k N (by omega))
   ·have a5:k=us.length:=by simp at hk;omega
    subst a5;have:=D.mono _ _ _ _ L U;simpa[List.getElem_append_right,h1]using this
 unfold Oper.wp execOp;simp only[resolve,invoke,builtin,Sem.run_bind,Sem.run_pure,Result.andThen_ok,List.map_toArray,List.map_cons,List.map_nil,hs,hx];rw[hr];exact a3 _ _ (K _ a4 ((ExtX.of Y).trans G))
theorem b6e{t c:Nat}{z:Value}{x y:Operand}{kl s:IntKind}{m u:Int}(T:SliceT P t e sz c z)(_:z.cells.size=sz)(X:Nat->Bool)(v:∀k,X k=true->k<w.heap.size)(base:Nat)(b:base<=w.heap.size)(n:Nat)(D:a.eval x= .int kl u)(o:u=0)(A:a.eval y= .int s m)(E:m=(n:Int))(p:c*n<=281474976710656)(f:n<=9223372036854775807)(K:∀g,OL R sz X base e g (some ⟨w.heap.size,0,none⟩) n []->Ext w g->g.heap.size=w.heap.size+1->wpList P ops Q rest (a.put d (.slice (some ⟨w.heap.size,0,none⟩) 0 n)) g):wpList P ops Q (⟨d, .makeSlice t x y,ty,ps,af,none⟩::rest) a w:=by
 refine wpList_plain rfl fun F h=>?_;subst E;subst o;obtain⟨i,hi,l,q,j⟩:=info_parts T.info;have r:=Go.run_make (P:=P) w t e i z T.und hi l kl s 0 n (by omega) (by omega) (by rw[j,<-Int.natCast_mul];omega) (by omega);simp only[Int.toNat_natCast,Int.toNat_zero]at r;unfold Oper.wp;simp[execOp,D,A,r,Result.andThen];refine h _ _ (K _ ⟨fun k C=>?_,[],rfl,by simp,by simp,⟨by simp, .inr ⟨w.heap.size,n,_,by simp,b,heap_alloc_new w _,by simp,by simpa[maxLen]using f,by rw[size_madeCells,q],by simp⟩⟩,fun i hi=>by simp at hi⟩ ((ExtX.refl w).alloc _) (by simp));have:w.heap.size=k:=by simpa[ob]using C
 cases B:X k
 ·rfl
 ·have:=v k B;omega
end
end Go.Rep
namespace Go.Rep
open Go.RowKit
theorem OL.hide0{α:Type}{R:Mem->Value->α->Prop}{sz base cap:Nat}{X Z:Nat->Bool}{e:TypeId}{w:World}{ao:Option Addr}{l:List α}(h:OL R sz X base e w ao cap l)(b:∀h d u x,R h u x->R d u x)(hz:∀k,ob ao k=true->Z k=false):OL R sz Z base e w ao cap l:=by
 obtain⟨hx,us,f,g,a,j,m⟩:=h;exact⟨hz,us,f,g,a,j,fun i hi c=>b _ _ _ _ (m i hi c)⟩
end Go.Rep
namespace Go.Lim
theorem b3X{m h:Nat}{lo:Int}(a:m<h):a1P m h lo= []:=List.eq_nil_of_length_eq_zero (by rw[a3j,b7M m h a])
end Go.Lim
namespace Go.Proofs.YtgbbpgflopajaaaGreat
open Go.RowKit Go.Rep Go.Lim
def a4y(base:Nat):Nat->Bool:=fun k=>decide (base<=k)&&decide (k<base+6)
def hbB(W:World)(g:Nat):Nat->Bool:=fun k=>decide (k<W.heap.size)&& !(k==g)
structure FromSt (base n k:Nat) (fv:Value) (W:World) (Q:List Int):Prop where
 bn:W.heap[base]? =some (.cells #[.int .i64 (n:Int)] 3 (0,0))
 bk:W.heap[base+1]? =some (.cells #[.int .i64 (k:Int)] 3 (0,0))
 bf:W.heap[base+2]? =some (.cells #[fv] 174 (0,0))
 bl:W.heap[base+4]? =some (.cells #[.slice (some ⟨base+3,0,none⟩) Q.length k] 22 (0,0))
 br:W.heap[base+5]? =some (.cells #[.func (.func 225) #[] #[.pointer (some ⟨base+4,0,none⟩), .pointer (some ⟨base+1,0,none⟩), .pointer (some ⟨base+2,0,none⟩), .pointer (some ⟨base,0,none⟩), .pointer (some ⟨base+5,0,none⟩)]] 217 (0,0))
 ol:OL (a0u .i64) 1 (hbB W (base+3)) base 3 W (some ⟨base+3,0,none⟩) k Q
 sz:base+6<=W.heap.size
def b1s(base:Nat)(W W':World):Prop:=W.heap.size<=W'.heap.size/\∀k,a4y base k=true->W'.heap[k]? =W.heap[k]?
theorem ob3{base k:Nat}(h:ob (some ⟨base,0,none⟩) k=true):base=k:=by simpa[ob]using h
theorem b8T{W:World}{base k:Nat}(h:ob (some ⟨base,0,none⟩) k=true):hbB W base k=false:=by
 have:=ob3 h;subst this;simp[hbB]
theorem b3Y:∀(h a:Mem) (u:Value) (x:Int),a0u .i64 h u x->a0u .i64 a u x:=fun _ _ _ _ h=>h
theorem FromSt.keep{base n k:Nat}{fv:Value}{W W':World}{Q:List Int}(h:FromSt base n k fv W Q)(b:b1s base W W'):FromSt base n k fv W' Q:=by
 have a:∀d,d<6->W'.heap[base+d]? =W.heap[base+d]?:=fun d hd=>b.2 _ (by simp[a4y];omega);refine⟨by have:=a 0 (by omega);simp only[Nat.add_zero]at this;rw[this];exact h.bn,by rw[a 1 (by omega)];exact h.bk,by rw[a 2 (by omega)];exact h.bf,by rw[a 4 (by omega)];exact h.bl,by rw[a 5 (by omega)];exact h.br,?_,Nat.le_trans h.sz b.1⟩;have o:=h.ol;obtain⟨hx,us,p,q,f,⟨r,j⟩,s⟩:=o;refine⟨fun k b=>b8T b,us,p,q,f,⟨r,?_⟩,fun i hi l=>b3Y _ _ _ _ (s i hi l)⟩;rcases j with j|⟨g,c,e,m,t,u,v⟩
 ·exact .inl j
 ·simp at m
  obtain⟨rfl,rfl⟩:=m;exact .inr ⟨base+3,k,e,by simp,t,by rw[a 3 (by omega)];exact u,v⟩
theorem FromSt.set{base n k:Nat}{fv:Value}{W b:World}{Q l:List Int}(h:FromSt base n k fv W Q)(f:ExtX (ob (some ⟨base+3,0,none⟩)) W b){X:Nat->Bool}(F:OL (a0u .i64) 1 X base 3 b (some ⟨base+3,0,none⟩) k l)(m:Nat)(I:m=l.length):FromSt base n k fv (b.setCell ⟨base+4,0,none⟩ (.slice (some ⟨base+3,0,none⟩) m k)) l/\ExtX (a4y base) W (b.setCell ⟨base+4,0,none⟩ (.slice (some ⟨base+3,0,none⟩) m k))/\ b.cell? ⟨base+4,0,none⟩=some (.slice (some ⟨base+3,0,none⟩) Q.length k)/\b.frozen? ⟨base+4,0,none⟩=false:=by
 subst I;have J:=h.sz;have a:ExtX (fun j=>j==base+4) b (b.setCell ⟨base+4,0,none⟩ (.slice (some ⟨base+3,0,none⟩) l.length k)):=
  ⟨rfl,rfl,rfl,by simp[World.setCell],fun j o r=>Below.heap_setCell _ _ _ _ (fun e=>by subst e;simp at r)⟩
 have z:∀j,j<W.heap.size->j≠base+3->b.heap[j]? =W.heap[j]?:=fun j o x=>f.block j o (by
  cases G:ob (some ⟨base+3,0,none⟩) j
  ·rfl
  ·exact absurd (ob3 G).symm x)
 have p:∀j,j<W.heap.size->j≠base+3->j≠base+4->(b.setCell ⟨base+4,0,none⟩ (.slice (some ⟨base+3,0,none⟩) l.length k)).heap[j]? =W.heap[j]?:=fun j o x y=>by
  rw[a.block j (Nat.lt_of_lt_of_le o f.size) (by simpa using y),z j o x]
 have d:=z (base+4) (by omega) (by omega);rw[h.bl]at d;have q:(b.setCell ⟨base+4,0,none⟩ (.slice (some ⟨base+3,0,none⟩) l.length k)).heap[base+4]? =some (.cells #[.slice (some ⟨base+3,0,none⟩) l.length k] 22 (0,0)):=by
  simp only[World.setCell,Array.getElem?_modify,d];simp
 refine⟨⟨by rw[p base (by omega) (by omega) (by omega)];exact h.bn,by rw[p _ (by omega) (by omega) (by omega)];exact h.bk,by rw[p _ (by omega) (by omega) (by omega)];exact h.bf,q,by rw[p _ (by omega) (by omega) (by omega)];exact h.br,?_,by simp[World.setCell];have:=f.size;omega⟩,?_,by simp[World.cell?,d],by simp[World.frozen?,d]⟩
 ·obtain⟨hx,us,B,C,t,⟨D,u⟩,E⟩:=F
  refine⟨fun k H=>b8T H,us,B,C,t,⟨D,?_⟩,fun i hi v=>b3Y _ _ _ _ (E i hi v)⟩;rcases u with u|⟨g,c,s,A,K,L,M⟩
  ·exact .inl u
  ·simp at A
   obtain⟨rfl,rfl⟩:=A;have w:base+3<b.heap.size:=by have:=f.size;omega
   exact .inr ⟨base+3,k,s,by simp,K,by rw[a.block _ w (by simp)];exact L,M⟩
 ·refine⟨a.os.trans f.os,a.tape.trans f.tape,a.output.trans f.output,Nat.le_trans f.size a.size,fun j o r=>p j o ?_ ?_⟩
  ·intro e;subst e;simp[a4y]at r
  ·intro e;subst e;simp[a4y]at r
section
variable (cb base n k:Nat) (caps:Array Value) (Inv:List (List Int)->World->Prop)
theorem b6f(hcf:∀(args:Array Value) (W:World),Sem.run Tryz.prog (callFunc cb args) W= .ok (.enter cb args) W)(hn:n<=64)(hk:k<=64)(hInv:∀done W W',Inv done W->ExtX (a4y base) W W'->Inv done W')(hCB:∀(done:List (List Int)) (s:List Int) (W:World),Inv done W->(∃rest,done++[s]++rest=a1P n k 0)->Sl (a0u .i64) 1 W.cell? (some ⟨base+3,0,none⟩) s->base+6<=W.heap.size->
   Calls Tryz.prog cb (#[.slice (some ⟨base+3,0,none⟩) s.length k]++caps) W (fun e W'=>e= .returned (.tuple #[])/\Inv (done++[s]) W'/\b1s base W W')) (g:Nat):
  ∀(i:Nat) (Q:List Int) (done:List (List Int)) (W:World),Q.length+g=k->i<=n+1->FromSt base n k (.func (.func cb) #[] caps) W Q->Inv done W->Hid (∃rest,done++(a1P (n - i) g i).map (Q++ ·)++rest=a1P n k 0)->
  Calls Tryz.prog 225 #[.int .i64 (i:Int), .pointer (some ⟨base+4,0,none⟩), .pointer (some ⟨base+1,0,none⟩), .pointer (some ⟨base+2,0,none⟩), .pointer (some ⟨base,0,none⟩), .pointer (some ⟨base+5,0,none⟩)] W
   (fun e W'=>e= .returned (.tuple #[])/\FromSt base n k (.func (.func cb) #[] caps) W' Q/\Inv (done++(a1P (n - i) g i).map (Q++ ·)) W'):=by
 induction g with
 |zero=>
  intro i Q done W hQ hi hst hiv hpre;have cl:W.cell? ⟨base+4,0,none⟩=some (.slice (some ⟨base+3,0,none⟩) Q.length k):=by simp[World.cell?,hst.bl]
  have ck:W.cell? ⟨base+1,0,none⟩=some (.int .i64 (k:Int)):=by simp[World.cell?,hst.bk]
  have cf:W.cell? ⟨base+2,0,none⟩=some (.func (.func cb) #[] caps):=by simp[World.cell?,hst.bf]
  have hs:Sl (a0u .i64) 1 W.cell? (some ⟨base+3,0,none⟩) Q:=by
   have:=(hst.ol.hide0 b3Y (Z:=noY) (fun k hk=>rfl)).sl (a0u.elem _);rw[a2m]at this;exact this
  have hQk:Q.length=k:=by omega
  go_enter Tryz.func225,Tryz.ntmps225
  go_wp2_with fail
  have hcb:=hCB done Q W hiv (by obtain⟨rest,hr⟩:=hpre.out;rw[a5Q]at hr;exact⟨rest,by simpa using hr⟩) hs hst.sz;rw[hQk]at hcb;refine hcb.mono ?_;rintro e w1 ⟨rfl,hiv1,hkp⟩;have hst1:=hst.keep hkp;have hfin:Hid (done++(a1P (n - i) 0 i).map (Q++ ·)=done++[Q]):=hid (by rw[a5Q];simp);clear hst hs cl ck cf hcb;go_wp2_with fail
  refine bodyPost_ret (results_none rfl _ _ _) rfl ?_;rw[hfin.out];exact⟨rfl,hst1,hiv1⟩
 |succ g ih=>
  intro i Q done W hQ hi hst hiv hpre;have cl:W.cell? ⟨base+4,0,none⟩=some (.slice (some ⟨base+3,0,none⟩) Q.length k):=by simp[World.cell?,hst.bl]
  have ck:W.cell? ⟨base+1,0,none⟩=some (.int .i64 (k:Int)):=by simp[World.cell?,hst.bk]
  have hQk:((Q.length:Int)==(k:Int))=false:=a2H (by omega);go_enter Tryz.func225,Tryz.ntmps225
  go_wp2_with fail
  go_loopw [0] (fun c wr=>∃(j:Nat) (D:List (List Int)),c= .int .i64 j/\j<=n+1/\FromSt base n k (.func (.func cb) #[] caps) wr Q/\Inv D wr/\Hid (D++(a1P (n - j) (g+1) j).map (Q++ ·)=done++(a1P (n - i) (g+1) i).map (Q++ ·))) (fun c _=>n+1 - (intOf c).toNat)
  case atStart=>exact⟨i,done,rfl,hi,hst,hiv,hid rfl⟩
  case round=>
   obtain⟨j,D,rfl,hj,hst1,hiv1,hDe⟩:=hrel;clear cl ck hst hiv;have cl:wr.cell? ⟨base+4,0,none⟩=some (.slice (some ⟨base+3,0,none⟩) Q.length k):=by simp[World.cell?,hst1.bl]
   have ck:wr.cell? ⟨base+1,0,none⟩=some (.int .i64 (k:Int)):=by simp[World.cell?,hst1.bk]
   have cn:wr.cell? ⟨base,0,none⟩=some (.int .i64 (n:Int)):=by simp[World.cell?,hst1.bn]
   by_cases hlt:j+g+1<=n
   ·obtain⟨m,hm⟩:∃m,n - j=m+1:=⟨n - j - 1,by omega⟩
    have hmn:n - (j+1)=m:=by omega
    go_wp2_with (at_builtin;refine a7p a2J (a0u.elem .i64) rfl rfl rfl hst1.ol (.int .i64 j) (j:Int) rfl rfl (by omega) ?_;intro w2 hO2 hE2;obtain⟨hst2,hE3,cl2,fl2⟩:=hst1.set hE2 hO2 (Q.length+1) (by simp);have cr:=cell_of_one hst2.br)
    have hiv2:=hInv _ _ _ hiv1 hE3;have hih:=ih (j+1) (Q++[(j:Int)]) D _ (by simp;omega) (by omega) hst2 hiv2 (hid (by
     obtain⟨rest,hr⟩:=hpre.out;refine⟨(a1P (n - (j+1)) (g+1) ((j+1:Nat):Int)).map (Q++ ·)++rest,?_⟩;rw[<-hr,<-hDe.out,hm,hmn,a1P,show((j+1:Nat):Int)=(j:Int)+1 by omega];have hmm:(a1P m g ((j:Int)+1)).map ((Q++[(j:Int)])++ ·)=((a1P m g ((j:Int)+1)).map ((j:Int):: ·)).map (Q++ ·):=by
      rw[List.map_map];apply List.map_congr_left;intro r _;simp
     rw[hmm,List.map_append];simp only[List.append_assoc]))
    rw[show((j+1:Nat):Int)=(j:Int)+1 by omega]at hih;refine hih.mono ?_;rintro e w4 ⟨rfl,hst4,hiv4⟩;clear hih;have cl4:=cell_of_one hst4.bl;rw[show(Q++[(j:Int)]).length=Q.length+1 by simp]at cl4;have htk:=hst4.ol.take (a0u.elem .i64).size Q.length;rw[List.take_left]at htk;obtain⟨hst5,hE5,_,fl4⟩:=hst4.set (ExtX.refl _) htk Q.length rfl;have hiv5:=hInv _ _ _ hiv4 hE5;have hDe2:Hid ((D++(a1P (n - (j+1)) g ((j:Int)+1)).map ((Q++[(j:Int)])++ ·))++(a1P (n - (j+1)) (g+1) ((j+1:Nat):Int)).map (Q++ ·)=done++(a1P (n - i) (g+1) i).map (Q++ ·)):=hid (by
     rw[<-hDe.out,hm,hmn,a1P,show((j+1:Nat):Int)=(j:Int)+1 by omega];have hmm:(a1P m g ((j:Int)+1)).map ((Q++[(j:Int)])++ ·)=((a1P m g ((j:Int)+1)).map ((j:Int):: ·)).map (Q++ ·):=by
      rw[List.map_map];apply List.map_congr_left;intro r _;simp
     rw[hmm,List.map_append,List.append_assoc])
    clear cl ck cn hst1 hiv1 hO2 hE2 hst2 hE3 cl2 fl2 cr hiv2 hm hmn;go_wp2_with fail
    go_roundw
    case rel=>exact⟨j+1,_,by go_num,by omega,hst5,hiv5,hDe2⟩
    case measure=>simp[intOf];omega
   ·have hnil:Hid (D=done++(a1P (n - i) (g+1) i).map (Q++ ·)):=hid (by
     have:=hDe.out;rw[b3X (by omega)]at this;simpa using this)
    go_wp2_with fail
    go_end0
    rw[<-hnil.out];exact⟨rfl,hst1,hiv1⟩
end
theorem b8U(w:World)(u v:Value)(b c:TypeId)(a:World)(h:(w.alloc (.cells #[u] b)).alloc (.cells #[v] c)=a):Ext w a/\a.heap[w.heap.size]? =some (.cells #[u] b (0,0))/\a.heap[w.heap.size+1]? =some (.cells #[v] c (0,0))/\a.heap.size=w.heap.size+2:=by
 subst h;refine⟨((ExtX.refl w).alloc _).alloc _,?_,?_,by simp⟩
 ·rw[Below.heap_alloc _ _ _ (by simp)];exact heap_alloc_new w _
 ·have:=heap_alloc_new (w.alloc (.cells #[u] b)) (.cells #[v] c (0,0))
  simpa using this
theorem c1u:(Tryz.prog.info? 217).map (fun i=>(i.zero,i.size,i.bytes))=some (some .nilFunc,1,8):=by kernel_rfl
theorem c2f:TyI Tryz.prog 217 1:=let ⟨i,h,_,a,_⟩:=info_parts c1u;⟨i,h,a⟩
theorem c0z(W:World)(g:Nat):∀j,hbB W g j=true->j<W.heap.size:=fun j a=>by
 have h:j<W.heap.size/\¬j=g:=by simpa[hbB]using a
 exact h.1
theorem b2h{w d wc a:World}{l u v:Value}{q j k:TypeId}(n:d.heap.size=w.heap.size+3)(e:Ext d wc)(o:wc.heap.size=d.heap.size+1)(f:(wc.alloc (.cells #[u] j)).alloc (.cells #[v] k)=a)(m:d.heap[w.heap.size+1]? =some (.cells #[l] q (0,0))):Ext wc a/\a.cell? ⟨w.heap.size+3+1+1,0,none⟩=some v/\a.frozen? ⟨w.heap.size+3+1+1,0,none⟩=false/\a.cell? ⟨w.heap.size+1,0,none⟩=some l/\ a.heap[w.heap.size+3+1]? =some (.cells #[u] j (0,0))/\a.heap[w.heap.size+3+1+1]? =some (.cells #[v] k (0,0))/\a.heap.size=w.heap.size+6:=by
 obtain⟨b,h,c,p⟩:=b8U wc _ _ _ _ a f;have g:wc.heap.size=w.heap.size+3+1:=by omega
 rw[g]at h c;have i:=(e.trans b).block (w.heap.size+1) (by omega) rfl;rw[m]at i;exact⟨b,cell_of_one c,free_of_one c,cell_of_one i,h,c,by omega⟩
theorem FromSt.start{w m wc d:World}{n k:Nat}{fv:Value}{X:Nat->Bool}(h:Ext w m)(y:m.heap.size=w.heap.size+3)(B:m.heap[w.heap.size]? =some (.cells #[.int .i64 (n:Int)] 3 (0,0)))(C:m.heap[w.heap.size+1]? =some (.cells #[.int .i64 (k:Int)] 3 (0,0)))(D:m.heap[w.heap.size+2]? =some (.cells #[fv] 174 (0,0)))(l:Ext m wc)(L:wc.heap.size=m.heap.size+1)(o:OL (a0u .i64) 1 X w.heap.size 3 wc (some ⟨m.heap.size,0,none⟩) k [])(b:Ext wc d)(E:d.heap[w.heap.size+3+1]? =some (.cells #[.slice (some ⟨w.heap.size+3,0,none⟩) 0 k] 22 (0,0)))(F:d.heap[w.heap.size+3+1+1]? =some (.cells #[.nilFunc] 217 (0,0)))(q:d.heap.size=w.heap.size+6):FromSt w.heap.size n k fv (d.setCell ⟨w.heap.size+3+1+1,0,none⟩ (.func (.func 225) #[] #[.pointer (some ⟨w.heap.size+3+1,0,none⟩), .pointer (some ⟨w.heap.size+1,0,none⟩), .pointer (some ⟨w.heap.size+1+1,0,none⟩), .pointer (some ⟨w.heap.size,0,none⟩), .pointer (some ⟨w.heap.size+3+1+1,0,none⟩)])) []/\ ExtX (a4y w.heap.size) w (d.setCell ⟨w.heap.size+3+1+1,0,none⟩ (.func (.func 225) #[] #[.pointer (some ⟨w.heap.size+3+1,0,none⟩), .pointer (some ⟨w.heap.size+1,0,none⟩), .pointer (some ⟨w.heap.size+1+1,0,none⟩), .pointer (some ⟨w.heap.size,0,none⟩), .pointer (some ⟨w.heap.size+3+1+1,0,none⟩)])):=by
 obtain⟨f,z⟩:∃f,Value.func (.func 225) #[] #[.pointer (some ⟨w.heap.size+3+1,0,none⟩), .pointer (some ⟨w.heap.size+1,0,none⟩), .pointer (some ⟨w.heap.size+1+1,0,none⟩), .pointer (some ⟨w.heap.size,0,none⟩), .pointer (some ⟨w.heap.size+3+1+1,0,none⟩)]=f:=⟨_,rfl⟩;rw[z];have a:∀j,j≠w.heap.size+5->(d.setCell ⟨w.heap.size+3+1+1,0,none⟩ f).heap[j]? =d.heap[j]?:=fun j x=>Below.heap_setCell _ _ _ _ (fun e=>x e);have r:Ext m d:=l.trans b;have p:(d.setCell ⟨w.heap.size+3+1+1,0,none⟩ f).heap[w.heap.size+3+1+1]? =some (.cells #[f] 217 (0,0)):=by
  simp only[World.setCell,Array.getElem?_modify,F];simp
 refine⟨⟨?_,?_,?_,?_,?_,?_,by simp[World.setCell,q]⟩,?_⟩
 ·rw[a _ (by omega),r.block _ (by omega) rfl];exact B
 ·rw[a _ (by omega),r.block _ (by omega) rfl];exact C
 ·rw[a _ (by omega),r.block _ (by omega) rfl];exact D
 ·rw[a _ (by omega)];exact E
 ·rw[<-z]at p |-;exact p
 ·rw[y]at o
  obtain⟨hx,us,G,H,t,⟨I,u⟩,J⟩:=o;refine⟨fun k K=>b8T K,us,G,H,t,⟨I,?_⟩,fun i hi v=>b3Y _ _ _ _ (J i hi v)⟩;rcases u with u|⟨g,c,s,A,M,N,O⟩
  ·exact .inl u
  ·simp at A
   obtain⟨rfl,rfl⟩:=A;exact .inr ⟨w.heap.size+3,k,s,by simp,M,by rw[a _ (by omega),b.block _ (by omega) rfl];exact N,O⟩
 ·refine⟨b.os.trans (l.os.trans h.os),b.tape.trans (l.tape.trans h.tape),b.output.trans (l.output.trans h.output),by simp[World.setCell,q],fun j x _=>?_⟩
  rw[a _ (by omega),(h.trans r).block j x rfl]
theorem b0m(cb n k:Nat)(caps:Array Value)(Inv:List (List Int)->World->Prop)(w:World)(x:∀(args:Array Value) (W:World),Sem.run Tryz.prog (callFunc cb args) W= .ok (.enter cb args) W)(K:n<=64)(I:k<=64)(c:∀done W W',Inv done W->ExtX (a4y w.heap.size) W W'->Inv done W')(v:∀(done:List (List Int)) (s:List Int) (W:World),Inv done W->(∃rest,done++[s]++rest=a1P n k 0)->Sl (a0u .i64) 1 W.cell? (some ⟨w.heap.size+3,0,none⟩) s->w.heap.size+6<=W.heap.size->
   Calls Tryz.prog cb (#[.slice (some ⟨w.heap.size+3,0,none⟩) s.length k]++caps) W (fun e W'=>e= .returned (.tuple #[])/\Inv (done++[s]) W'/\b1s w.heap.size W W'))
  (H:Inv [] w):
  Calls Tryz.prog 148 #[.int .i64 (n:Int), .int .i64 (k:Int), .func (.func cb) #[] caps] w (fun e W'=>e= .returned (.tuple #[])/\Inv (a1P n k 0) W'):=by
 have J:∀(fn:Fn) (first cap:Array Value) (w:World),(Instr.makeFunc fn first cap).run Tryz.prog w= .ok (.func fn first cap) w:=fun _ _ _ _=>rfl;obtain⟨b,a⟩:∃b,(((w.alloc (.cells #[.int .i64 (n:Int)] 3)).alloc (.cells #[.int .i64 (k:Int)] 3)).alloc (.cells #[.func (.func cb) #[] caps] 174))=b:=⟨_,rfl⟩;have f:Ext w b:=by rw[<-a];exact(((ExtX.refl w).alloc _).alloc _).alloc _
 have q:b.heap.size=w.heap.size+3:=by rw[<-a];simp
 have z:b.heap[w.heap.size]? =some (.cells #[.int .i64 (n:Int)] 3 (0,0)):=by
  rw[<-a,Below.heap_alloc _ _ _ (by simp;omega),Below.heap_alloc _ _ _ (by simp)];exact heap_alloc_new w _
 have t:b.heap[w.heap.size+1]? =some (.cells #[.int .i64 (k:Int)] 3 (0,0)):=by
  rw[<-a,Below.heap_alloc _ _ _ (by simp)];have:=heap_alloc_new (w.alloc (.cells #[.int .i64 (n:Int)] 3)) (.cells #[.int .i64 (k:Int)] 3 (0,0));simpa using this
 have A:b.heap[w.heap.size+2]? =some (.cells #[.func (.func cb) #[] caps] 174 (0,0)):=by
  rw[<-a];have:=heap_alloc_new ((w.alloc (.cells #[.int .i64 (n:Int)] 3)).alloc (.cells #[.int .i64 (k:Int)] 3)) (.cells #[.func (.func cb) #[] caps] 174 (0,0));simpa using this
 have G:=cell_of_one t;go_enter Tryz.func148,Tryz.ntmps148
 go_wp2_with (first|((with_reducible show wpList _ _ _ (⟨_, .store _ _ _,_,_,_,_⟩::_) _ _);refine b0l c2f rfl rfl rfl rfl B E ?_)|(at_make;refine b6e (R:=a0u .i64) a2J rfl (hbB b (w.heap.size+3)) (c0z b _) w.heap.size f.size k rfl rfl rfl rfl (by omega) (by omega) ?_;intro wc j g r;obtain⟨F,p⟩:∃F,(wc.alloc (.cells #[.slice (some ⟨w.heap.size+3,0,none⟩) 0 k] 22)).alloc (.cells #[.nilFunc] 217)=F:=⟨_,rfl⟩;obtain⟨h,B,E,u,C,D,y⟩:=b2h q g r p t))
 obtain⟨d,i⟩:=FromSt.start (fv:= .func (.func cb) #[] caps) f q z t A g r j h C D y;have o:Hid (∃rest,([]:List (List Int))++(a1P (n - 0) k ((0:Nat):Int)).map (([]:List Int)++ ·)++rest=a1P n k 0):=hid ⟨[],by simp⟩;refine(b6f cb w.heap.size n k caps Inv x K I c v k 0 [] [] _ (by simp) (by omega) d (c _ _ _ H i) o).mono ?_;rintro e L ⟨rfl,_,m⟩;have l:Hid (([]:List (List Int))++(a1P (n - 0) k ((0:Nat):Int)).map (([]:List Int)++ ·)=a1P n k 0):=hid (by simp);rw[l.out]at m;clear d i B E u C D h j g z t A f G p a;go_wp2_with fail
 go_end0
 exact⟨rfl,m⟩
end Go.Proofs.YtgbbpgflopajaaaGreat
namespace Go.Rep
open Go.RowKit Go.Lim
section
variable {P:Program} {ops:Array Oper} {Q:Exit->Act->World->Prop} {a:Act} {w:World}
variable {α:Type} {R:Mem->Value->α->Prop} {sz:Nat} {X:Nat->Bool} {base:Nat} {e:TypeId} {ao:Option Addr} {cap:Nat} {l:List α}
end
end Go.Rep
namespace Go.Proofs.YtgbbpgflopajaaaGreat
open Go.RowKit Go.Rep Go.Lim Go.Lin
def uB:Nat:=10000000000
def b0n(bc bs:Nat):Nat->Bool:=fun k=>(k==bc)||(k==bs)
def b4H(X:Nat->Bool)(bc bs B0:Nat):Nat->Bool:=fun k=>X k||b0n bc bs k||a4y B0 k
structure Lay (lo bo bu bc bd bs B0:Nat):Prop where
 lo1:lo<=bo
 lo2:lo<=bu
 lo3:lo<=bc
 lo4:lo<=bd
 lo5:lo<=bs
 hi1:bo<B0
 hi2:bu<B0
 hi3:bc<B0
 hi4:bd<B0
 hi5:bs<B0
 ne1:bo≠bc
 ne2:bo≠bs
 ne3:bu≠bc
 ne4:bu≠bs
 ne5:bd≠bc
 ne6:bd≠bs
 ne7:bc≠bs
structure BSt (X:Nat->Bool) (w0:World) (bo bu bc bd bs B0 c:Nat) (oo:Option Addr) (n oc:Nat) (ov:Value) (z N:Mat) (cnt:Nat) (dv:Value) (us:Mat) (W:World):Prop where
 ext:Ext w0 W
 b1:Bx W bo #[.slice oo n oc] 53
 b2:Bx W bu #[ov] 53
 b3:Bx W bc #[.int .i64 (cnt:Int)] 3
 b4:Bx W bd #[.int .i64 (c:Int)] 3
 b5:Bx W bs #[dv] 53
 r1:MV (mk (b4H X bc bs B0) W) (.slice oo n oc) z
 r2:MV (mk (b4H X bc bs B0) W) ov N
 r3:MV (mk (b4H X bc bs B0) W) dv us
section
variable {X:Nat->Bool} {w0 W W':World} {bo bu bc bd bs B0 c:Nat} {oo:Option Addr} {n oc:Nat} {ov:Value} {z N:Mat} {cnt:Nat} {dv:Value} {us:Mat}
theorem BSt.hx(_:BSt X w0 bo bu bc bd bs B0 c oo n oc ov z N cnt dv us W)(e:HX X w0)(a:Lay w0.heap.size bo bu bc bd bs B0)(j:B0+6<=W.heap.size):HX (b4H X bc bs B0) W:=fun k b=>by
 have g:=a.hi3;have i:=a.hi5;have f:=a.lo1;have d:=a.hi1;simp only[b4H,b0n,a4y,Bool.or_eq_true,Bool.and_eq_true,beq_iff_eq,decide_eq_true_eq]at b;rcases b with(h|h|h)|h
 ·have:=e k h;omega
 ·omega
 ·omega
 ·omega
theorem BSt.hxs(h:BSt X w0 bo bu bc bd bs B0 c oo n oc ov z N cnt dv us W)(b:HX X w0):HX (fun k=>X k||b0n bc bs k) W:=fun k a=>by
 have e:=h.b3.lt;have f:=h.b5.lt;have d:=h.ext.size;simp only[b0n,Bool.or_eq_true,beq_iff_eq]at a;rcases a with h|h|h
 ·have:=b k h;omega
 ·omega
 ·omega
theorem BSt.step(h:BSt X w0 bo bu bc bd bs B0 c oo n oc ov z N cnt dv us W)(a:Ext W W'):BSt X w0 bo bu bc bd bs B0 c oo n oc ov z N cnt dv us W':=
 ⟨h.ext.trans a,h.b1.ext0 a,h.b2.ext0 a,h.b3.ext0 a,h.b4.ext0 a,h.b5.ext0 a,mkx MV.mono h.r1 a,mkx MV.mono h.r2 a,mkx MV.mono h.r3 a⟩
theorem BSt.own(h:BSt X w0 bo bu bc bd bs B0 c oo n oc ov z N cnt dv us W)(b:Lay w0.heap.size bo bu bc bd bs B0)(a:ExtX (a4y B0) W W'):BSt X w0 bo bu bc bd bs B0 c oo n oc ov z N cnt dv us W':=by
 have d:∀j,j<B0->a4y B0 j=false:=fun j g=>by simp[a4y];omega
 have e:=a0v (X:=b4H X bc bs B0) a fun k f=>by simp[b4H,f]
 have:=b.lo1;have:=b.hi1;exact⟨h.ext.then_ a fun i hi _=>d i (by omega),h.b1.ext a (d _ b.hi1),h.b2.ext a (d _ b.hi2),h.b3.ext a (d _ b.hi3),h.b4.ext a (d _ b.hi4),h.b5.ext a (d _ b.hi5),MV.mono _ _ _ _ e h.r1,MV.mono _ _ _ _ e h.r2,MV.mono _ _ _ _ e h.r3⟩
theorem BSt.put(h:BSt X w0 bo bu bc bd bs B0 c oo n oc ov z N cnt dv us W)(d:Lay w0.heap.size bo bu bc bd bs B0)(a:Nat)(b:Value)(j:Mat)(s:MV (_root_.Go.Rep.mk (b4H X bc bs B0) W) b j):(W.setCell ⟨bc,0,none⟩ (.int .i64 (a:Int))).cell? ⟨bs,0,none⟩=some dv/\(W.setCell ⟨bc,0,none⟩ (.int .i64 (a:Int))).frozen? ⟨bs,0,none⟩=false/\ BSt X w0 bo bu bc bd bs B0 c oo n oc ov z N a b j ((W.setCell ⟨bc,0,none⟩ (.int .i64 (a:Int))).setCell ⟨bs,0,none⟩ b)/\ExtX (b0n bc bs) W ((W.setCell ⟨bc,0,none⟩ (.int .i64 (a:Int))).setCell ⟨bs,0,none⟩ b):=by
 obtain⟨w,q⟩:=a0P h.b3 (.int .i64 (a:Int)) (i:=0) (by simp);have m:=h.b5.ext q (a0b d.ne7.symm);obtain⟨x,r⟩:=a0P m b (i:=0) (by simp);have f:ExtX (b0n bc bs) W ((W.setCell ⟨bc,0,none⟩ (.int .i64 (a:Int))).setCell ⟨bs,0,none⟩ b):=by
  refine(q.weaken fun k _ g=>?_).trans (r.weaken fun k _ g=>?_)
  ·refine a0b fun e=>?_
   subst e;simp[b0n]at g
  ·refine a0b fun e=>?_
   subst e;simp[b0n]at g
 have l:=a0v (X:=b4H X bc bs B0) f fun k g=>by simp[b4H,g]
 have t:b0n bc bs bo=false:=by simp[b0n,d.ne1,d.ne2]
 have u:b0n bc bs bu=false:=by simp[b0n,d.ne3,d.ne4]
 have v:b0n bc bs bd=false:=by simp[b0n,d.ne5,d.ne6]
 have o:=d.lo3;have p:=d.lo5;refine⟨m.cell 0 rfl,m.frozen 0,⟨h.ext.then_ f fun i hi _=>?_,h.b1.ext f t,h.b2.ext f u,?_,h.b4.ext f v,by simpa using x,MV.mono _ _ _ _ l h.r1,MV.mono _ _ _ _ l h.r2,MV.mono _ _ _ _ l s⟩,f⟩
 ·simp[b0n];omega
 ·have:=w.ext r (a0b d.ne7)
  simpa using this
end
def c1v(X:Nat->Bool)(w0:World)(bo bu bc bd bs B0 c:Nat)(oo:Option Addr)(n oc:Nat)(ov:Value)(z N:Mat)(done:List (List Int))(W:World):Prop:=
 ∃(cnt:Nat) (dv:Value) (us:Mat),BSt X w0 bo bu bc bd bs B0 c oo n oc ov z N cnt dv us W/\b8t c z cnt us/\BM uB us/\(∀r∈us,r.length=c)/\∀s∈done,b5y c (a5o z) (a5o N) cnt (s.map Int.toNat)
theorem c1v.own{X:Nat->Bool}{w0 W W':World}{bo bu bc bd bs B0 c:Nat}{oo:Option Addr}{n oc:Nat}{ov:Value}{z N:Mat}{done:List (List Int)}(h:c1v X w0 bo bu bc bd bs B0 c oo n oc ov z N done W)(e:Lay w0.heap.size bo bu bc bd bs B0)(d:ExtX (a4y B0) W W'):c1v X w0 bo bu bc bd bs B0 c oo n oc ov z N done W':=by
 obtain⟨cnt,dv,us,a,b⟩:=h;exact⟨cnt,dv,us,a.own e d,b⟩
theorem a3k{B0:Nat}{Y:Nat->Bool}{W W':World}(b:ExtX Y W W')(c:∀k,Y k=true->a4y B0 k=false)(d:B0+6<=W.heap.size):b1s B0 W W':=⟨b.size,fun k a=>b.block k (by simp[a4y]at a;omega) (by
 cases h:Y k
 ·rfl
 ·rw[c k h]at a;simp at a)⟩
theorem b1s.trans{B0:Nat}{A B C:World}(h:b1s B0 A B)(k:b1s B0 B C):b1s B0 A C:=⟨Nat.le_trans h.1 k.1,fun i hi=>(k.2 i hi).trans (h.2 i hi)⟩
end Go.Proofs.YtgbbpgflopajaaaGreat
namespace Go.Lin
open Go.Lim Go.Rep Go.Proofs.YtgbbpgflopajaaaGreat
end Go.Lin
namespace Go.Proofs.YtgbbpgflopajaaaGreat
open Go.RowKit Go.Rep Go.Lim Go.Lin
theorem BM.sub{B:Nat}{m l:List (List Rat)}(h:BM B m)(b:∀r∈l,r∈m):BM B l:=fun r a=>h r (b r a)
def b6g:Mem->Value->Nat->Prop:=fun h u n=>∃ao cap l,u= .slice ao l.length cap/\l.length<=cap/\a0K l n/\Sl (a0c .u32) 1 h ao l
theorem b6g.mono:a3R b6g:=by
 rintro h e u x d ⟨ao,cap,l,rfl,a,b,c⟩;exact⟨ao,cap,l,rfl,a,b,c.mono (a0c.mono _) d⟩
theorem b6g.one:a3B b6g:=by rintro h u x ⟨ao,cap,l,rfl,_⟩;rfl
theorem b6g.elem:Elem b6g 1:=⟨b6g.mono,by rintro h u x ⟨ao,cap,l,rfl,_⟩;rfl,by rintro h u x ⟨ao,cap,l,rfl,_⟩ c a;simp[a0j,Value.cells]at a;subst a;rfl,Nat.one_pos⟩
theorem b6g.zero(h:Mem):b6g h (.slice none 0 0) 0:=⟨none,0,[],rfl,by simp,a0K.nil,Sl.nil _ _ _ _⟩
end Go.Proofs.YtgbbpgflopajaaaGreat
