/- Parts of a proof: each theorem states what it proves, and its conditions. -/
import Derived.Test.YtnnpfhoigmegcaaGreatItI
import Derived.Sort.LotA
import Derived.Deep.DrawnRows
import Derived.Deep.LoopGhost
import Derived.BigQuiet
set_option maxRecDepth 100000
set_option maxHeartbeats 1600000
namespace Go.Proofs.YtnnpfhoigmegcaaGreat
open Go.RowKit Go.Rep Go.Lim Go.Lin Go.Sort Go.Lib Go.Extern
def ltQ(x y:Rat):Bool:=decide (b1s x y<0)
theorem a7Y{x y:Rat}:ltQ x y=true↔x<y:=by
 unfold ltQ b1s;simp only[decide_eq_true_eq];split
 ·rename_i h;simp[h]
 ·rename_i h
  constructor
  ·intro a;split at a<;>omega
  ·intro a;exact absurd a h
theorem a6F{x y:Rat}:ltQ x y=false↔y<=x:=by
 rw[<-Rat.not_lt,<-a7Y];simp
theorem b7T:SWO ltQ:=
 ⟨fun x=>a6F.2 Rat.le_refl,fun x y z a b=>a7Y.2 (by have:=a7Y.1 a;have:=a7Y.1 b;grind),fun x y z a b=>a6F.2 (Rat.le_trans (a6F.1 b) (a6F.1 a))⟩
theorem b7U(d:Array Rat):(Go.Sort.insertionSort ltQ d 0 d.size).toList=srt d.toList:=by
 obtain⟨⟨b,_,a⟩,h⟩:=Go.Sort.insertionSort_holds b7T d 0 d.size (Nat.zero_le _) (c1B _);obtain⟨D,k⟩:∃D,Go.Sort.insertionSort ltQ d 0 d.size=D:=⟨_,rfl⟩;rw[k]at b a h |-;refine b0R ?_ (List.pairwise_iff_getElem.2 fun i j l m f=>?_)
 ·rw[<-b]at a
  have e:D.size=d.size:=b;rw[show D.extract 0 D.size=D by simp,show d.extract 0 D.size=d by rw[e];simp]at a;exact a
 ·have c:i<D.size:=by simpa using l
  have g:j<D.size:=by simpa using m
  have:=a6F.1 (h i j (Nat.zero_le _) f (by omega));simpa[getElem!_pos,c,g]using this
structure Sorting (X:Nat->Bool) (base:Nat) (ao:Option Addr) (cap n b:Nat) (d:Array Rat) (w:World):Prop where
 own:OL QC 3 X base 41 w ao cap d.toList
 size:d.size=n
 var:w.cell? ⟨b,0,none⟩=some (.slice ao n cap)
 off:ob ao b=false
 hid:HX X w
 br:BR 68719476736 d.toList
theorem Sorting.ext{X:Nat->Bool}{base:Nat}{ao:Option Addr}{cap n b:Nat}{d:Array Rat}{w c:World}(h:Sorting X base ao cap n b d w)(a:Ext w c):Sorting X base ao cap n b d c:=
 ⟨h.own.ext0 QC.elem a,h.size,a.cell h.var,h.off,h.hid.ext a,h.br⟩
theorem a6G{X:Nat->Bool}{base:Nat}{ao:Option Addr}{cap n b:Nat}{d:Array Rat}{w:World}(h:Sorting X base ao cap n b d w)(i j:Nat)(Y:i<n)(Z:j<n):Calls Tryz.prog 291 #[.int .i64 i,.int .i64 j,.pointer (some ⟨b,0,none⟩)] w (b0B w (ltQ d[i]! d[j]!)):=by
 have hl:d.toList.length=n:=by simpa using h.size
 have t:i<d.toList.length:=by omega
 have u:j<d.toList.length:=by omega
 obtain⟨p,v,s1,N,n1,P,R,k1,T,D,L,k,m⟩:=h.own.rat QC.shaped i t;obtain⟨q,z,s2,O,n2,Q,S,k2,U,E,M,l,o⟩:=h.own.rat QC.shaped j u;have A:d.toList[i]=d[i]! :=by simp[getElem!_pos,show i<d.size by rw[h.size];exact Y]
 have B:d.toList[j]=d[j]! :=by simp[getElem!_pos,show j<d.size by rw[h.size];exact Z]
 have F:=h.br _ (c1E t);have G:=h.br _ (c1E u);rw[A]at m F;rw[B]at o G;have s:=h.own.hd;rw[hl]at s;have J:=h.own.unX h.hid;have hv:=h.var;obtain⟨x,hx⟩:∃x,d[i]! =x:=⟨_,rfl⟩;obtain⟨y,hy⟩:∃y,d[j]! =y:=⟨_,rfl⟩;rw[hx]at m F |-;rw[hy]at o G |-;have e:Ext w w.drew:=(ExtX.refl w).drew;have I:Hid (∀c,Ext w c->c.cell? ⟨b,0,none⟩=some (.slice ao n cap)/\c.cell? ⟨p,v,none⟩=some (.bool s1)/\c.cell? ⟨p,v+1,none⟩=some (.slice N n1 P)/\c.cell? ⟨p,v+2,none⟩=some (.slice R k1 T)/\c.cell? ⟨q,z,none⟩=some (.bool s2)/\c.cell? ⟨q,z+1,none⟩=some (.slice O n2 Q)/\c.cell? ⟨q,z+2,none⟩=some (.slice S k2 U)):=
  Go.Rep.hid fun c h=>⟨h.cell hv,(k.out _ _ h rfl).1,(k.out _ _ h rfl).2.1,(k.out _ _ h rfl).2.2,(l.out _ _ h rfl).1,(l.out _ _ h rfl).2.1,(l.out _ _ h rfl).2.2⟩
 have g:=Go.Rep.hid (c0J (un X ao) w.drew _ _ x y (HX.ext (w:=w) J e) ((mkx QC.mono m e).qv F) ((mkx QC.mono o e).qv G));have i1:∀W,(Instr.indexAt 26 (.slice ao n cap) (.int .i64 (i:Int))).run Tryz.prog W=.ok (.pointer (some ⟨p,v,none⟩)) W:=by rw[<-D];exact a0d a0w ao n cap .i64 i s Y
 have i2:∀W,(Instr.indexAt 26 (.slice ao n cap) (.int .i64 (j:Int))).run Tryz.prog W=.ok (.pointer (some ⟨q,z,none⟩)) W:=by rw[<-E];exact a0d a0w ao n cap .i64 j s Z
 unfold ltQ;obtain⟨r,hr⟩:∃r,decide (b1s x y<0)=r:=⟨_,rfl⟩;rw[hr]at g |-;clear m o k l D E L M h hx hy hr A B F G t u hl hv;go_enter Tryz.func291,Tryz.ntmps291
 go_upto_region 1 with fail
 refine a0n 9 (fun c=>c.cell? ⟨b,0,none⟩=some (.slice ao n cap)/\c.cell? ⟨p,v,none⟩=some (.bool s1)/\c.cell? ⟨p,v+1,none⟩=some (.slice N n1 P)/\c.cell? ⟨p,v+2,none⟩=some (.slice R k1 T)/\c.cell? ⟨q,z,none⟩=some (.bool s2)/\c.cell? ⟨q,z+1,none⟩=some (.slice O n2 Q)/\c.cell? ⟨q,z+2,none⟩=some (.slice S k2 U)) (by kernel_rfl) (by kernel_rfl) (I.out _ e) (fun f a=>?_);refine kt 0 a ?_;refine kt 1 a ?_;refine kt 2 a ?_;refine kt 3 a ?_;refine kt 4 a ?_;refine kt 5 a ?_;refine kt 6 a ?_;refine kt 7 a ?_;refine ks 8 (fun K C=>?_);go_simp
 ((with_reducible refine g.out.mono ?_);rintro ee wa ⟨V,rfl⟩)
 refine kcn C (I.out _ (e.trans V)) (fun f=>?_);clear C K;refine kl 9 (fun K C=>?_);go_simp
 refine C.out _ _ ?_;clear C K;have H:=e.trans V;clear f I g;go_wp2_with fail
 go_ret
 exact⟨H,rfl⟩
noncomputable def b3A:TypeInfo:=(Tryz.prog.info? 26).get (by kernel_rfl)
noncomputable def a6W:TypeInfo:=(Tryz.prog.info? 41).get (by kernel_rfl)
theorem swK(n:Nat):swapperK n a6W 25=if n=0 then 1 else if n=1 then 2 else 9:=by
 have a:a6W.hasPointers=true:=by kernel_rfl
 have b:(a6W.bytes==8)=false:=by kernel_rfl
 unfold swapperK;by_cases c:n=0
 ·simp[c]
 ·by_cases d:n=1
  ·simp[d]
  ·simp[c,d,a,b]
theorem b1E(X:Nat->Bool)(base:Nat)(ao:Option Addr)(cap n b:Nat):SortBy ltQ 291 #[.pointer (some ⟨b,0,none⟩)] 316 #[.slice ao n cap,typeHandle Tryz.prog 41] (ob ao) n (Sorting X base ao cap n b) where
 enter:=Go.Proofs.enters_of Tryz.func291 (by kernel_rfl) rfl
 ext _ _ _ h hE:=h.ext hE
 low d w h k hk:=(h.own.block hk).2
 less d w h _ i j hi hj:=(a6G h i j hi hj).mono fun _ _ ⟨hE,he⟩=>⟨he,hE⟩
 swap d w h hn i j hi hj _:=by
  have hl:d.toList.length=n:=by simpa using h.size
  obtain⟨w',h1,h3,h4⟩:=h.own.run_swap (P:=Tryz.prog) (t:=41) (ti:=a6W) false (by kernel_rfl) (by kernel_rfl) (fun _=>by kernel_rfl) QC.elem (fun _ _ _ h=>by obtain⟨_,_,_,_,_,_,_,rfl⟩:=h.shape;exact⟨_,rfl⟩) i j (by omega) (by omega) cap;rw[hl]at h1;refine⟨w',?_,⟨?_,by rw[size_swp];exact h.size,h4.cellY h.var h.off,h.off,fun k hk=>c1C (h.hid k hk) h4.size,?_⟩,h4⟩
  ·rw[run_callFunc_extern Tryz.func316 (by kernel_rfl) (by kernel_rfl) (by kernel_rfl) (e:=Extern.ReflectliteSwapper.swap false) (by kernel_rfl)]
   rw[show(#[Value.int .i64 (i:Int),Value.int .i64 (j:Int)]++#[Value.slice ao n cap,typeHandle Tryz.prog 41])=#[.int .i64 i,.int .i64 j,.slice ao n cap,typeHandle Tryz.prog 41]from rfl,h1];rfl
  ·rw[a7n d i j (by omega) (by omega)];exact h3
  ·rw[a7n d i j (by omega) (by omega)]
   intro x hx;rcases List.mem_or_eq_of_mem_set hx with hx|rfl
   ·rcases List.mem_or_eq_of_mem_set hx with hx|rfl
    ·exact h.br x hx
    ·exact h.br _ (c1E _)
   ·exact h.br _ (c1E _)
theorem b5u(X:Nat->Bool)(base:Nat)(ao:Option Addr)(cap b:Nat)(l:List Rat)(w:World)(h:Sorting X base ao cap l.length b l.toArray w)(B:l.length<=20):Calls Tryz.prog 186 #[.iface 26 (.slice ao l.length cap),.func (.func 291) #[] #[.pointer (some ⟨b,0,none⟩)]] w fun e c=> e=.returned (.tuple #[])/\(Sorting X base ao cap l.length b (srt l).toArray c/\ExtX (ob ao) w c):=by
 obtain⟨n,r⟩:∃n,l.length=n:=⟨_,rfl⟩;rw[r]at h B |-;have s:l.toArray.size=n:=by simpa using r
 have q:∀c,Sorting X base ao cap n b (Go.Sort.insertionSort ltQ l.toArray 0 n) c->Sorting X base ao cap n b (srt l).toArray c:=fun c C=>by
  have:=b7U l.toArray;rw[s]at this;rw[show(srt l).toArray=Go.Sort.insertionSort ltQ l.toArray 0 n by rw[<-this]];exact C
 have m:∀(f:Nat) (p:Array Value),SortBy ltQ 291 #[.pointer (some ⟨b,0,none⟩)] f p (ob ao) n (Sorting X base ao cap n b)->∀u,Ext w u->
   Calls Tryz.prog 267 #[.agg #[.func (.func 291) #[] #[.pointer (some ⟨b,0,none⟩)],.func (.func f) #[] p],.int .i64 n] u fun e c=>e=.returned (.tuple #[])/\(Sorting X base ao cap n b (srt l).toArray c/\ExtX (ob ao) w c):=fun f p S u o=>
  (b1B S l.toArray u (h.ext o) s B).mono fun _ _ ⟨x,D,_,v⟩=>⟨x,q _ D,(ExtX.of o).trans v⟩
 have a:n<2->∀f p,SortBy ltQ 291 #[.pointer (some ⟨b,0,none⟩)] f p (ob ao) n (Sorting X base ao cap n b):=fun t f p=>
  ⟨Go.Proofs.enters_of Tryz.func291 (by kernel_rfl) rfl,fun _ _ _ h o=>h.ext o,fun d w h k F=>(h.own.block F).2,fun d w h _ i j z A=>(a6G h i j z A).mono fun _ _ ⟨o,x⟩=>⟨x,o⟩,fun d w h _ i j z A E=>by omega⟩
 rcases Nat.lt_or_ge n 2 with t|t
 ·rcases Nat.eq_zero_or_pos n with y|y
  ·have g:swapperK n a6W 25=1:=by rw[swK,if_pos y]
   refine a2S 26 41 b3A a6W (by kernel_rfl) (by kernel_rfl) (by kernel_rfl) (by kernel_rfl) 25 (fun _=>by kernel_rfl) ao n cap (by omega) 308 (by rw[g];kernel_rfl) _ _ w _ ?_;rw[g];exact m _ _ (a t _ _)
  ·have g:swapperK n a6W 25=2:=by rw[swK,if_neg (by omega),if_pos (by omega)]
   refine a2S 26 41 b3A a6W (by kernel_rfl) (by kernel_rfl) (by kernel_rfl) (by kernel_rfl) 25 (fun _=>by kernel_rfl) ao n cap (by omega) 309 (by rw[g];kernel_rfl) _ _ w _ ?_;rw[g];exact m _ _ (a t _ _)
 ·have g:swapperK n a6W 25=9:=by rw[swK,if_neg (by omega),if_neg (by omega)]
  refine a2S 26 41 b3A a6W (by kernel_rfl) (by kernel_rfl) (by kernel_rfl) (by kernel_rfl) 25 (fun _=>by kernel_rfl) ao n cap (by omega) 316 (by rw[g];kernel_rfl) _ _ w _ ?_;rw[g];exact m _ _ (b1E X base ao cap n b)
theorem b3B(X:Nat->Bool)(w:World)(u:Value)(l:List Rat)(hX:HX X w)(hu:RV (mk X w) u l)(hl:l.length<=20)(hB:BR 68719476736 l):Calls Tryz.prog 224 #[u] w (fun e w'=>Ext w w'/\∃oo co,e=.returned (.slice oo l.length co)/\OL QC 3 X w.heap.size 41 w' oo co (srt l)):=by
 have hsc:=fun base ao cap b w h=>b5u X base ao cap b l w h hl;obtain⟨n,hn⟩:∃n,l.length=n:=⟨_,rfl⟩;have hel:=b9z X w u l hX hu (by omega);rw[hn]at hel hsc hl |-;have hn':=hid hn;clear hn;go_enter Tryz.func224,Tryz.ntmps224
 go_wp2_with fail
 refine hel.mono ?_;rintro e w1 ⟨hE1,ao,cap,rfl,hO⟩;have hX1:=hX.ext hE1;have hEA:Ext w1 (w1.alloc (.cells #[.slice ao n cap] 26)):=(ExtX.refl w1).alloc _;have hso:Sorting X w.heap.size ao cap n w1.heap.size l.toArray (w1.alloc (.cells #[.slice ao n cap] 26)):=
  ⟨by rw[List.toList_toArray];exact hO.ext0 QC.elem hEA,by simpa using hn'.out,a4h 0 rfl,by
   cases h:ob ao w1.heap.size with
   |false=>rfl
   |true=>have:=(hO.block h).2;omega,hX1.ext hEA,by rw[List.toList_toArray];exact hB⟩
 have hcall:=hsc w.heap.size ao cap w1.heap.size _ hso;clear hsc hso hu hB;go_wp2_with (go_at_call 186;refine hcall.mono ?_;rintro e w2 ⟨rfl,hS,hE2⟩;have hv:=hS.var)
 go_ret
 have hOs:=hS.own;rw[List.toList_toArray]at hOs;exact⟨(hE1.trans hEA).own (hO.ext0 QC.elem hEA) (c1B _) hE2,ao,cap,rfl,hOs⟩
theorem b5v(X:Nat->Bool)(w:World)(u:Value)(l:List Rat)(hX:HX X w)(hu:RV (mk X w) u l)(hn:l.length<=1000000)(r:∀k,k<=l.length->hq (sm k (fn l))<=68719476736):Calls Tryz.prog 188 #[u] w (a1S X w QC (sm l.length (fn l))):=by
 obtain⟨ao,ca,rfl,Z,J⟩:=hu;have a0:=J.hd;obtain⟨W,hW,hE,A,o,hz⟩:=a1w w #[.bool false,.slice none 0 0,.slice none 0 0] #[.bool false,.slice none 0 0,.slice none 0 0] 41 41;have E:HX (a0f X w.heap.size 2) W:=hX.boxes hz;have h0:QC (mk (a0f X w.heap.size 2) W) (.agg #[.bool false,.slice none 0 0,.slice none 0 0]) (sm 0 (fn l)):=QC.zero _;obtain⟨n,t⟩:∃n,l.length=n:=⟨_,rfl⟩;rw[t]at hn r Z a0 |-;have f:=hid t;have G:=hid r;clear t r;go_enter Tryz.func188,Tryz.ntmps188
 go_wp2_with fail
 obtain⟨b,hb⟩:∃b,w.heap.size=b:=⟨_,rfl⟩;have a2:Hid (∀wr,Ext w wr->Le (mk X w) (mk (a0f X b 2) wr)):=hid fun wr h=>by rw[<-hb];exact a0j h
 have b5:w.heap.size<=b:=by omega
 rw[hb]at A o E h0 |-;clear hW;go_loopw [8] (fun k wr=>∃(i:Nat) (s:Bool) (a:Option Addr) (O B:Nat) (d:Option Addr) (N e:Nat),k=.int .i64 i/\i<=n/\Bx wr b #[.bool false,.slice none 0 0,.slice none 0 0] 41/\Bx wr (b+1) #[.bool s,.slice a O B,.slice d N e] 41/\QC (mk (a0f X b 2) wr) (.agg #[.bool s,.slice a O B,.slice d N e]) (sm i (fn l))/\HX (a0f X b 2) wr/\Ext w wr) (fun k _=>n - (intOf k).toNat)
 case atStart=>exact⟨0,_,_,_,_,_,_,_,rfl,Nat.zero_le _,A,o,h0,E,hE⟩
 case round=>
  obtain⟨i,s,a,O,B,d,N,e,rfl,hi,A,o,hq,Y,q⟩:=hrel;by_cases a3:i<n
  ·have I:i<l.length:=by rw[f.out];exact a3
   have a6:=J.mono QV.mono (a2.out wr q);have gl:Hid (fn l i=l[i]):=hid (by simp[fn,List.getD_eq_getElem?_getD,I]);have m:Hid (sm i (fn l)+l[i]=sm (i+1) (fn l)):=hid (by rw[<-gl.out];rfl);have H:=hid (G.out i hi);obtain⟨x,hx⟩:∃x,l[i]=x:=⟨_,rfl⟩;rw[hx]at m;have a8:=hid hx;have bx:=Bx.new wr #[.bool false,.slice none 0 0,.slice none 0 0] 41;obtain⟨D,hD⟩:∃D,sm i (fn l)=D:=⟨_,rfl⟩;obtain⟨D2,p⟩:∃D2,sm (i+1) (fn l)=D2:=⟨_,rfl⟩;rw[hD]at hq m H;rw[p]at m;have C:=hid p;clear hx hD p;go_wp2_with (first|(with_reducible refine a1I a0w (by omega) (by assumption) ?_)|((with_reducible show wpList _ _ _ (⟨_,.load 41 _,_,_,_,_⟩::_) _ _);refine a0B a0p i a6 I rfl (by simp) QV.agg ?_;intro u5 v;rw[a8.out]at v;obtain⟨s5,a5,n5,c5,d5,k5,e5,rfl⟩:=v.shape)|((with_reducible show wpList _ _ _ (⟨_,.store _ _ _,_,_,_,_⟩::_) _ _);refine a0a a0p rfl rfl bx rfl rfl (a1z _ _ _ _ _ _ _) ?_;intro g z P;have c:Ext wr g:=ExtX.box ((ExtX.refl wr).alloc _) P (c1B _);have j:=o.ext0 c;have K:g.cell? ⟨b+1,0,none⟩=some (.bool s):=j.cell 0 rfl;have L:g.cell? ⟨b+1,1,none⟩=some (.slice a O B):=j.cell 1 rfl;have M:g.cell? ⟨b+1,2,none⟩=some (.slice d N e):=j.cell 2 rfl;have b2:g.cell? ⟨wr.heap.size,0,none⟩=some (.bool s5):=z.cell 0 rfl;have b3:g.cell? ⟨wr.heap.size,1,none⟩=some (.slice a5 n5 c5):=z.cell 1 rfl;have b4:g.cell? ⟨wr.heap.size,2,none⟩=some (.slice d5 k5 e5):=z.cell 2 rfl;have F:=Y.ext c;have a9:QV (mk (a0f X b 2) g) (.agg #[.bool s5,.slice a5 n5 c5,.slice d5 k5 e5]) x:=mkx QV.mono v c;have a4:QV (mk (a0f X b 2) g) (.agg #[.bool s,.slice a O B,.slice d N e]) D:=(mkx QC.mono hq c).qv H.out;clear bx z)|(go_at_call 182;(with_reducible refine(b2R (a0f X b 2) g _ _ _ _ F a4 a9).mono ?_);rintro ee w7 ⟨Q,u7,rfl,y⟩;obtain⟨s7,a7,n7,c7,d7,k7,e7,rfl⟩:=y.shape;rw[m.out]at y;have T:=j.ext0 Q;clear K L M b2 b3 b4)|((with_reducible show wpList _ _ _ (⟨_,.store _ _ _,_,_,_,_⟩::_) _ _);refine a0a a0p rfl rfl T rfl rfl (a1z _ _ _ _ _ _ _) ?_;intro w8 z1 R))
   have h8:=QC.mono _ _ _ _ (a0h (lo:=b) (nb:=2) R (by omega) (by omega)) y;have S:=((A.ext0 c).ext0 Q).ext R (a0b (by omega));have U:Ext w _:=ExtX.box (q.trans (c.trans Q)) R (by omega);have V:=(F.ext Q).ext R;rw[<-C.out]at h8;go_roundw
   case rel=>exact⟨i+1,_,_,_,_,_,_,_,by go_num,by omega,S,z1,h8,V,U⟩
   case measure=>simp[intOf];omega
  ·have a1:i=n:=by omega
   subst a1;rw[<-f.out]at hq;have K:=o.cell 0 rfl;have L:=o.cell 1 rfl;have M:=o.cell 2 rfl;go_wp2_with ((with_reducible show wpList _ _ _ (⟨_,.store _ _ _,_,_,_,_⟩::_) _ _);refine a0a a0p rfl rfl A rfl rfl (a1z _ _ _ _ _ _ _) ?_;intro w7 z P)
   have h7:=QC.mono _ _ _ _ a0k (QC.mono _ _ _ _ (a0h P (by omega) (by omega)) hq);rw[f.out]at h7;exact bodyPost_ret (a0e rfl rfl a0p z rfl) rfl ⟨ExtX.box q P (by omega),_,rfl,h7⟩
end Go.Proofs.YtnnpfhoigmegcaaGreat
namespace Go.Rep
open Go.RowKit Go.Lim
section
variable {P:Program} {ops:Array Oper} {Q:Exit->Act->World->Prop} {a:Act} {w:World}
variable {α:Type} {R:Mem->Value->α->Prop} {sz:Nat} {X:Nat->Bool} {base:Nat} {e:TypeId} {ao:Option Addr} {cap:Nat} {l:List α}
theorem a3g{o:Oper}{K:Act->World->Prop}{E:Prop}{t j:Nat}{z:Value}{s x:Operand}{r:Option Addr}{C:Nat}(J:o.guard=none)(y:o.op=Op.call {callee:=Callee.builtin Builtin.append,args:=#[s,x],argTypes:=#[t,t]})(T:SliceT P t e sz j z)(B:z.cells.size=sz)(D:Elem R sz)(d:base<=w.heap.size)(I:∀k,X k=true->k<w.heap.size)(i:List α)(n m:Nat)(M:l.length=n)(L:i.length=m)(O:a.eval s=.slice ao n cap)(U:a.eval x=.slice r m C)(h:OL R sz X base e w ao cap l)(A:Sl R sz (mk (un X ao) w) r i)(f:(n+m)*j<=140737488355328)(p:n+m<=9223372036854775807)(H:∀c b q,OL R sz X base e q c b (l++i)->ExtX (ob ao) w q->(c=ao\/∃g,c=some ⟨g,0,none⟩/\w.heap.size<=g)->K (a.put o.dst (.slice c (n+m) b)) q):if Region.wanted o (yielded ops a.tmps)=true then Oper.wp P o a w K Q else E:=by
 have S:Region.wanted o (yielded ops a.tmps)=true:=by simp[Region.wanted,J]
 rw[if_pos S];subst M L;obtain⟨V,F,u,v⟩:=A.at_ D;obtain⟨c,b,q,N,u,v,G⟩:=h.run_append (P:=P) T B D d I r C V i u F v f p o.type;unfold Oper.wp execOp;rw[y];simp only[resolve,invoke,builtin,Sem.run_bind,Sem.run_pure,Result.andThen_ok,List.map_toArray,List.map_cons,List.map_nil,O,U];rw[N];have:=H c b q u v G;rw[show(l++i).length=l.length+i.length from by simp];exact this
end
end Go.Rep
namespace Go.Rep
open Go.RowKit Go.Lim
theorem b9B{α:Type}{R:Mem->Value->α->Prop}{sz:Nat}{Y:Nat->Bool}{w:World}{g:Nat}{u:Value}{T:TypeId}{y:α}(b:Bx w g u.cells T)(a:Y g=false)(h:R (mk Y w) u y)(f:u.cells.size=sz):Sl R sz (mk Y w) (some ⟨g,0,none⟩) [y]:=
 ⟨fun _=>⟨g,0,rfl⟩,fun i d=>by
  have:i=0:=by simpa using d
  subst this;refine⟨u,f,fun j e=>?_,h⟩;have c:=b.cell j (Array.getElem?_eq_getElem e);simp only[adr,Option.getD_some,Nat.zero_mul,Nat.zero_add];simp[mk,a,c]⟩
end Go.Rep
namespace Go.Lin
open Go.Lim Go.Rep
theorem b5w(s:List Rat)(a b:Nat):a8h s a b=(s.take b).drop a:=by unfold a8h;rw[List.drop_take]
theorem b7V{l:List Rat}{x:Rat}:x∈srt l↔x∈l:=(a7V l).mem_iff
theorem b3C{B:Nat}{l:List Rat}(h:BR B l):BR B (srt l):=fun x a=>h x (b7V.1 a)
theorem b3D{B:Nat}{s:List Rat}(h:BR B s)(a b:Nat):BR B (a8h s a b):=fun x c=>h x (List.mem_of_mem_drop (List.mem_of_mem_take c))
theorem b3E{B n:Nat}{l:List Rat}(h:BR B l)(e:l.length<=n):∀k,k<=l.length->hq (sm k (fn l))<=1+n*(B+1):=fun k d=>by
 have:=a8K (n:=k) (B:=B) (f:=fn l) fun i c=>by
  have a:i<l.length:=by omega
  rw[show fn l i=l[i]by simp[fn,List.getD_eq_getElem?_getD,a]];exact h _ (c1E a)
 have b:k*(B+1)<=n*(B+1):=Nat.mul_le_mul_right _ (by omega);omega
end Go.Lin
namespace Go.Proofs.YtnnpfhoigmegcaaGreat
open Go.RowKit Go.Rep Go.Lim Go.Lin
theorem a4H(X:Nat->Bool)(ao:Option Addr)(l:List Rat)(n cap:Nat)(w:World)(j:l.length=n)(k:Sl QV 3 (mk X w) ao l)(m:n<=1000000)(i:HX X w):Calls Tryz.prog 230 #[.slice ao n cap] w (fun e d=>Ext w d/\∃b c,e=.returned (.slice b n c)/\OL QV 3 X w.heap.size 41 d b c l):=by
 subst j;go_enter Tryz.func230,Tryz.ntmps230
 go_wp2_with (at_builtin;refine b3v a0w rfl QV.elem i l rfl rfl rfl k (by omega) (by omega) ?_;intro f g o h a)
 go_ret
 exact⟨a,f,g,rfl,h⟩
theorem b7W(X:Nat->Bool)(w:World)(u v:Value)(l:List Rat)(z:Rat)(hX:HX X w)(hu:RV (mk X w) u l)(hv:QV (mk X w) v z)(hl:l.length<=1000):Calls Tryz.prog 228 #[u,v] w (a1S X w RV (l++[z])):=by
 obtain⟨ao,ca,rfl,hca,hsa⟩:=hu;obtain⟨n,hn⟩:∃n,l.length=n:=⟨_,rfl⟩;rw[hn]at hca hl |-;have hn':=hid hn;obtain⟨s1,a1,n1,c1,d1,k1,e1,rfl⟩:=hv.shape;obtain⟨W,hW,hE,b0,hz⟩:=a1e w #[.bool s1,.slice a1 n1 c1,.slice d1 k1 e1] 41;obtain⟨b,hb⟩:∃b,w.heap.size=b:=⟨_,rfl⟩;rw[hb]at b0 hz;have hEd:Ext W W.drew:=(ExtX.refl W).drew;have hEw:=hE.trans hEd;have hsd:=hid (hsa.mono QV.mono (a0l hEw));have hvd:=hid (mkx QV.mono hv hEw);have hXd:HX X W.drew:=hX.ext hEw;have bd:=b0.ext0 hEd;have hwS:W.drew.cell? ⟨b,0,none⟩=some (.bool s1)/\W.drew.cell? ⟨b,1,none⟩=some (.slice a1 n1 c1)/\W.drew.cell? ⟨b,2,none⟩=some (.slice d1 k1 e1):=⟨bd.cell 0 rfl,bd.cell 1 rfl,bd.cell 2 rfl⟩;clear hn hsa hv b0 bd;go_enter Tryz.func228,Tryz.ntmps228
 go_upto_region 1 with fail
 refine a0n 5 (fun w'=>w'.cell? ⟨b,0,none⟩=some (.bool s1)/\w'.cell? ⟨b,1,none⟩=some (.slice a1 n1 c1)/\w'.cell? ⟨b,2,none⟩=some (.slice d1 k1 e1)) (by kernel_rfl) (by kernel_rfl) hwS (fun hHeld hOnce=>?_);clear hwS;obtain⟨W3,hW3⟩:∃W3,W.drew=W3:=⟨_,rfl⟩;rw[hW3]at hHeld hEw hsd hvd hXd |-;have hblt:b<W3.heap.size:=a1N hHeld.1;clear hW3 hW hEd;refine kt 0 hOnce ?_;refine kt 2 hOnce ?_;refine a1B (i:=1) (j:=3) (oi:=⟨_,_,_,_,_,_⟩) (oj:=⟨_,_,_,_,_,_⟩) (by kernel_rfl) rfl rfl (fun K hK=>?pa) (fun K hK=>?pb)
 case' pa=>
  go_simp
  (refine(a4H X ao l n ca W3 hn'.out hsd.out (by omega) hXd).mono ?_;rintro e w4 ⟨hE4,bo,bc,rfl,hO4⟩)
  refine kcn hK ⟨hE4.cell hHeld.1,hE4.cell hHeld.2.1,hE4.cell hHeld.2.2⟩ (fun hHeld=>?_);clear hK K;obtain⟨w5,hw5,hE5,bz,hz5⟩:=a1e w4 #[.bool s1,.slice a1 n1 c1,.slice d1 k1 e1] 41;refine ks 3 (fun K hK=>?_);go_simp
  skip
  refine kcn hK ⟨hE5.cell hHeld.1,hE5.cell hHeld.2.1,hE5.cell hHeld.2.2⟩ (fun hHeld=>?_);clear hK K;have hO5:=hO4.ext0 QV.elem hE5;have hE35:=hE4.trans hE5;have hg:∀k,ob bo k=true->k≠w4.heap.size:=fun k hk=>Nat.ne_of_lt (hO4.block hk).2;have hgx:X w4.heap.size=false:=by
   cases h:X w4.heap.size with
   |false=>rfl
   |true=>exact absurd ((hXd.ext hE4) _ h) (Nat.lt_irrefl _)
  obtain⟨g,hgg⟩:∃g,w4.heap.size=g:=⟨_,rfl⟩;rw[hgg]at bz hg hgx
  (try rw[hgg])
  clear hw5 hgg hz5
 case' pb=>
  obtain⟨w4,hw4,hE4,bz0,hz4⟩:=a1e W3 #[.bool s1,.slice a1 n1 c1,.slice d1 k1 e1] 41;go_simp
  skip
  refine kcn hK ⟨hE4.cell hHeld.1,hE4.cell hHeld.2.1,hE4.cell hHeld.2.2⟩ (fun hHeld=>?_);clear hK K;clear hw4;refine ks 1 (fun K hK=>?_);go_simp
  (refine(a4H X ao l n ca w4 hn'.out (hsd.out.mono QV.mono (a0l hE4)) (by omega) (hXd.ext hE4)).mono ?_;rintro e w5 ⟨hE5,bo,bc,rfl,hO5'⟩)
  refine kcn hK ⟨hE5.cell hHeld.1,hE5.cell hHeld.2.1,hE5.cell hHeld.2.2⟩ (fun hHeld=>?_);clear hK K;have bz:=bz0.ext0 hE5;have hO5:=hO5'.base_le (b':=W3.heap.size) hE4.size;have hE35:=hE4.trans hE5;have hg:∀k,ob bo k=true->k≠W3.heap.size:=fun k hk=>by have:=(hO5'.block hk).1;omega
  have hgx:X W3.heap.size=false:=by
   cases h:X W3.heap.size with
   |false=>rfl
   |true=>exact absurd (hXd _ h) (Nat.lt_irrefl _)
  obtain⟨g,hgg⟩:∃g,W3.heap.size=g:=⟨_,rfl⟩;rw[hgg]at bz hg hgx
  (try rw[hgg])
  clear hgg hz4 hO5' bz0
 all_goals
  have hbf:ob bo b=false:=hO5.ob_lt hblt;have hgu:un X bo g=false:=by
   simp only[un,hgx,Bool.false_or];cases h:ob bo g with
   |false=>rfl
   |true=>exact absurd rfl (hg g h)
  have hv5:=a2B QV.mono hvd.out hE35 (fun k hk=>hO5.ob_lt (base:=W3.heap.size) hk);have hsz:=b9B (Y:=un X bo) (u:= .agg #[.bool s1,.slice a1 n1 c1,.slice d1 k1 e1]) bz hgu hv5 rfl;refine ks 4 (fun K hK=>?_)
  (refine a3g (l:=l) rfl rfl a0w rfl QV.elem hE35.size (hXd.ext hE35) [z] n 1 hn'.out rfl rfl rfl hO5 hsz (by omega) (by omega) ?_;intro bo2 bc2 w6 hO6 hE6 hor)
  refine kcn hK ⟨hE6.cellY hHeld.1 hbf,hE6.cellY hHeld.2.1 hbf,hE6.cellY hHeld.2.2 hbf⟩ (fun hHeld=>?_);clear hK K;refine kl 5 (fun K hK=>?_);go_simp
  refine hK.out _ _ ?_;clear hK K;have hE36:=hE35.own hO5 (c1B _) hE6;have hln:(l++[z]).length=n+1:=by simp[hn'.out]
  have hcc:=hO6.lenCap;rw[hln]at hcc;have hsl:=hO6.sl QV.elem;go_wp2_with fail
  go_ret
  exact⟨hEw.trans hE36,_,rfl,bo2,bc2,by rw[hln];rfl,by rw[hln];exact hcc,hsl⟩
theorem b0U(X:Nat->Bool)(w:World)(u:Value)(k t:Int)(l:List Rat)(B:Nat)(hX:HX X w)(hu:RV (mk X w) u l)(hk:a5j k t)(hf:a6B k t l.length)(hl:l.length<=20)(hB:BR B l)(hBB:B<=1000000000):Calls Tryz.prog 227 #[.agg #[.int .i64 k,.int .i64 t],u] w (a1S X w QC (a5k k t l)):=by
 have hr:=c0E hk hf;obtain⟨W,hW,hE,b0,b1,hz⟩:=a1w w #[.int .i64 k,.int .i64 t] #[.bool false,.slice none 0 0,.slice none 0 0] 53 41;have hXW:HX (a0f X w.heap.size 2) W:=hX.boxes hz;have hu1:=RV.mono _ _ _ _ (a0j (nb:=2) hE) hu;obtain⟨b,hb⟩:∃b,w.heap.size=b:=⟨_,rfl⟩;have hbw:w.heap.size<=b:=by omega
 rw[hb]at b0 b1 hz hXW hu1;obtain⟨Z,hZ⟩:∃Z,a0f X b 2=Z:=⟨_,rfl⟩;rw[hZ]at hXW hu1;have hso:=hid fun w' (h:Ext W w')=>b3B Z w' u l (hXW.ext h) (mkx RV.mono hu1 h) hl (fun q hq=>c1A (hB q hq) (by omega));have hra:=b9w W k t l.length (by omega) hk hf;have hwb:=b3D (b3C hB) (rkA k t l.length) (rkB k t l.length);have hwl:=b5h (s:=srt l) (a:=rkA k t l.length) (b:=rkB k t l.length) (by rw[a7W];exact hr.2);have hws:=hid (b5w (srt l) (rkA k t l.length) (rkB k t l.length));have hsb:=hid (b3E (n:=20) hwb (by omega));have hes:Hid (b0y (a8h (srt l) (rkA k t l.length) (rkB k t l.length))/(((rkB k t l.length - rkA k t l.length:Nat):Int):Rat)=a5k k t l):=hid rfl;obtain⟨q,hq⟩:∃q,a5k k t l=q:=⟨_,rfl⟩;rw[hq]at hes |-;have hsl:=hid (a7W l);obtain⟨wl,hwl'⟩:∃wl,a8h (srt l) (rkA k t l.length) (rkB k t l.length)=wl:=⟨_,rfl⟩;rw[hwl']at hwl hws hsb hes hwb;obtain⟨S,hS⟩:∃S,srt l=S:=⟨_,rfl⟩;rw[hS]at hsl hws hso;obtain⟨A,hA⟩:∃A,rkA k t l.length=A:=⟨_,rfl⟩;obtain⟨C,hC⟩:∃C,rkB k t l.length=C:=⟨_,rfl⟩;rw[hA,hC]at hr hra hwl hws hes;obtain⟨ao,ca,rfl,hca,hsa⟩:=hu;obtain⟨n,hn⟩:∃n,l.length=n:=⟨_,rfl⟩;rw[hn]at hr hra hso hsl hca hl |-;have hwl2:=hid hwl;have e1:IntKind.i64.wrap ((A:Int)+1 - 1)=(A:Int):=by rw[IntWalk.i64_in _ (by omega)];omega
 have e2:IntKind.i64.wrap ((C:Int) - ((A:Int)+1))=(C:Int) - ((A:Int)+1):=IntWalk.i64_in _ (by omega);have e3:IntKind.i64.wrap ((C:Int) - ((A:Int)+1)+1)=((C - A:Nat):Int):=by rw[IntWalk.i64_in _ (by omega)];omega
 have k0:W.cell? ⟨b,0,none⟩=some (.int .i64 k):=b0.cell 0 rfl;have k1:W.cell? ⟨b,1,none⟩=some (.int .i64 t):=b0.cell 1 rfl;have hwb':=hid hwb;clear hn hS hA hC hwl' hwl hq hu1 hsa hwb hB hf hk;go_enter Tryz.func227,Tryz.ntmps227
 go_upto_region 2 with(first|(go_at_call 101;refine hra.mono ?_;rintro ee w1 ⟨hE1,rfl⟩))
 have hso1:=hso.out w1 hE1;clear hso hra k0 k1;go_wp2_with (first|(go_at_call 224;refine hso1.mono ?_;rintro ee w2 ⟨hE2,oo,co,rfl,hO⟩;have hcc:=hO.lenCap;rw[hsl.out]at hcc;have f1:∀W,(Instr.sliceAt 26 (.slice oo n co) (some (.int .i64 (A:Int))) (some (.int .i64 (C:Int))) none).run Tryz.prog W=.ok (.slice (a1x oo A co 3) (C - A) (co - A)) W:=a5N a0w n co .i64 .i64 A C (by omega) (by omega)))
 have hXW2:=(hXW.ext hE1).ext hE2;have hsl3:=(hO.sl QC.elem).sub A C co (by omega) (by omega) (by rw[hsl.out];omega);rw[<-hws.out]at hsl3;have hrv:RV (mk Z w2) (.slice (a1x oo A co 3) (C - A) (co - A)) wl:=⟨_,_,by rw[hwl2.out],by rw[hwl2.out];omega,hsl3.qv (fun q hq=>c1A (hwb'.out q hq) (by omega))⟩;have hsm:=b5v Z w2 _ wl hXW2 hrv (by rw[hwl2.out];omega) (fun j hj=>c1A (hsb.out j hj) (by omega));rw[show sm wl.length (fn wl)=b0y wl from rfl]at hsm;have hsq:Hid (hq (b0y wl)<=68719476736):=hid (c1A (hsb.out wl.length (c1B _)) (by omega));have hkq:Hid (hq ((((C - A:Nat):Int)):Rat)<=68719476736):=hid (c1A (a4t _ 1 (by
  rw[Int.natAbs_natCast,a1Z (by omega) (by omega)];exact c1B _) (c1B _)) (by decide))
 obtain⟨D,hD⟩:∃D,b0y wl=D:=⟨_,rfl⟩;rw[hD]at hsm hsq hes;clear hrv hsl3 hO f1 hD hwb' hsb hws;go_wp2_with (first
  |(go_at_call 188;refine hsm.mono ?_;rintro ee w3 ⟨hE3,u3,rfl,hu3⟩;obtain⟨s3,a3,n3,c3,d3,k3,e3',rfl⟩:=hu3.shape)
  |(go_at_call 150;(with_reducible refine(a8y Z w3 ((C - A:Nat):Int) (hXW2.ext hE3) (by omega) (by omega)).mono ?_);rintro ee w4 ⟨hE4,u4,rfl,hu4⟩;obtain⟨s4,a4,n4,c4,d4,k4,e4,rfl⟩:=hu4.shape)
  |(go_at_call 152;(with_reducible refine(b5t Z w4 _ _ _ _ ((hXW2.ext hE3).ext hE4) ((mkx QC.mono hu3 hE4).qv hsq.out) (hu4.qv hkq.out)).mono ?_);rintro ee w5 ⟨hE5,u5,rfl,hu5⟩;rw[hes.out]at hu5;obtain⟨s5,a5,n5,c5,d5,k5,e5,rfl⟩:=hu5.shape;have b15:=b1.ext0 (hE1.trans (hE2.trans (hE3.trans (hE4.trans hE5)))))
  |((with_reducible show wpList _ _ _ (⟨_,.store _ _ _,_,_,_,_⟩::_) _ _);refine a0a a0p rfl rfl b15 rfl rfl (a1z _ _ _ _ _ _ _) ?_;intro w6 r1 r2))
 rw[<-hZ]at hu5;have h6:=QC.mono _ _ _ _ a0k (QC.mono _ _ _ _ (a0h r2 (by omega) (by omega)) hu5);exact bodyPost_ret (a0e rfl rfl a0p r1 rfl) rfl ⟨ExtX.box (hE.trans (hE1.trans (hE2.trans (hE3.trans (hE4.trans hE5))))) r2 (by omega),_,rfl,h6⟩
theorem a9Q(X:Nat->Bool)(ao:Option Addr)(l:List (List Rat))(n cap:Nat)(w:World)(j:l.length=n)(k:Sl RV 1 (mk X w) ao l)(m:n<=1000000)(i:HX X w):Calls Tryz.prog 229 #[.slice ao n cap] w (fun e d=>Ext w d/\∃b c,e=.returned (.slice b n c)/\OL RV 1 X w.heap.size 26 d b c l):=by
 subst j;go_enter Tryz.func229,Tryz.ntmps229
 go_wp2_with (at_builtin;refine b3v a0r rfl RV.elem i l rfl rfl rfl k (by omega) (by omega) ?_;intro f g o h a)
 go_ret
 exact⟨a,f,g,rfl,h⟩
theorem b7X(X:Nat->Bool)(w:World)(u:Value)(l:List (List Rat))(n i:Nat)(U:HX X w)(hu:MV (mk X w) u l)(y:l.length=n)(F:n<=64)(V:i<n):Calls Tryz.prog 146 #[u,.int .i64 (i:Int)] w (a1S X w MV (a1c l i)):=by
 obtain⟨ao,c,rfl,s,p⟩:=hu;have a0:=hid y;rw[y]at s |-;have M:Hid ((l.take i).length=i):=hid (by rw[List.length_take];omega);have hd:Hid ((l.drop (i+1)).length=n - (i+1)):=hid (by rw[List.length_drop,y]);have N:=hid (p.take i);have B:Hid (Sl RV 1 (mk X w) (a1x ao (i+1) c 1) (l.drop (i+1))):=hid (by
  have:=p.sub (i+1) l.length c (by omega) (by omega) (c1B _);rwa[List.take_length]at this)
 have ew:IntKind.i64.wrap ((i:Int)+1)=(i:Int)+1:=IntWalk.i64_in _ (by omega);have f1:∀W,(Instr.sliceAt 25 (.slice ao n c) none (some (.int .i64 (i:Int))) none).run Tryz.prog W=.ok (.slice ao i c) W:=a4c a0r n c .i64 i (by omega);have Q:∀W,(Instr.sliceAt 25 (.slice ao n c) (some (.int .i64 ((i:Int)+1))) none none).run Tryz.prog W=.ok (.slice (a1x ao (i+1) c 1) (n - (i+1)) (c - (i+1))) W:=a2P a0r n c .i64 (i+1) (by omega) s;have h:Hid (i+(n - (i+1))=n - 1):=hid (by omega);have o:Hid (l.take i++l.drop (i+1)=a1c l i):=hid rfl;obtain⟨C,r⟩:∃C,a1x ao (i+1) c 1=C:=⟨_,rfl⟩;rw[r]at B Q;obtain⟨R,v⟩:∃t,l.take i=t:=⟨_,rfl⟩;obtain⟨S,x⟩:∃t,l.drop (i+1)=t:=⟨_,rfl⟩;obtain⟨A,z⟩:∃A,n - (i+1)=A:=⟨_,rfl⟩;rw[z]at hd h Q;rw[v]at M N o;rw[x]at hd B o;have L:Hid ((a1c l i).length=n - 1):=hid (by rw[a6h (by omega),y]);have Z:A<=64/\i<=64:=by omega
 have d:Ext w w.drew:=(ExtX.refl w).drew;have q:=U.ext d;have J:=a9Q X ao R i c w.drew M.out (N.out.mono RV.mono (a0l d)) (by omega) q;have P:=hid (B.out.mono RV.mono (a0l d));clear r v x z p N B y V F;go_enter Tryz.func146,Tryz.ntmps146
 go_upto_region 1 with fail
 refine a0n 9 (fun _=>True) (by kernel_rfl) (by kernel_rfl) trivial (fun b a=>?_);refine kt 0 a ?_;refine kt 1 a ?_;refine kt 2 a ?_;refine kt 4 a ?_;refine kt 5 a ?_;refine kt 6 a ?_;refine kt 7 a ?_;refine ks 3 (fun K g=>?_);go_simp
 (refine J.mono ?_;rintro e w4 ⟨f,T,bc,rfl,k⟩)
 refine kcn g trivial (fun b=>?_);clear g K;have I:=q.ext f;have O:Sl RV 1 (mk (un X T) w4) C S:=P.out.old RV.mono f (fun j Y=>k.ob_lt Y);refine ks 8 (fun K g=>?_)
 (refine a3g (l:=R) rfl rfl a0r rfl RV.elem f.size I S i A M.out hd.out rfl rfl k O (by omega) (by omega) ?_;intro E D w6 m G a1)
 refine kcn g trivial (fun b=>?_);clear g K;refine kl 9 (fun K g=>?_);go_simp
 refine g.out _ _ ?_;clear g K;have H:Ext w w6:=(d.trans f).own k (by have:=d.size;exact c1B _) G;rw[o.out]at m;clear b a;go_wp2_with fail
 go_ret
 exact⟨H,_,rfl,E,D,by rw[L.out,h.out];rfl,m.lenCap,m.sl RV.elem⟩
theorem b9C(X:Nat->Bool)(w:World)(u:Value)(l:List Rat)(n i:Nat)(U:HX X w)(hu:RV (mk X w) u l)(y:l.length=n)(F:n<=64)(V:i<n):Calls Tryz.prog 147 #[u,.int .i64 (i:Int)] w (a1S X w RV (a1c l i)):=by
 obtain⟨ao,c,rfl,s,p⟩:=hu;have a0:=hid y;rw[y]at s |-;have M:Hid ((l.take i).length=i):=hid (by rw[List.length_take];omega);have hd:Hid ((l.drop (i+1)).length=n - (i+1)):=hid (by rw[List.length_drop,y]);have N:=hid (p.take i);have B:Hid (Sl QV 3 (mk X w) (a1x ao (i+1) c 3) (l.drop (i+1))):=hid (by
  have:=p.sub (i+1) l.length c (by omega) (by omega) (c1B _);rwa[List.take_length]at this)
 have ew:IntKind.i64.wrap ((i:Int)+1)=(i:Int)+1:=IntWalk.i64_in _ (by omega);have f1:∀W,(Instr.sliceAt 26 (.slice ao n c) none (some (.int .i64 (i:Int))) none).run Tryz.prog W=.ok (.slice ao i c) W:=a4c a0w n c .i64 i (by omega);have Q:∀W,(Instr.sliceAt 26 (.slice ao n c) (some (.int .i64 ((i:Int)+1))) none none).run Tryz.prog W=.ok (.slice (a1x ao (i+1) c 3) (n - (i+1)) (c - (i+1))) W:=a2P a0w n c .i64 (i+1) (by omega) s;have h:Hid (i+(n - (i+1))=n - 1):=hid (by omega);have o:Hid (l.take i++l.drop (i+1)=a1c l i):=hid rfl;obtain⟨C,r⟩:∃C,a1x ao (i+1) c 3=C:=⟨_,rfl⟩;rw[r]at B Q;obtain⟨R,v⟩:∃t,l.take i=t:=⟨_,rfl⟩;obtain⟨S,x⟩:∃t,l.drop (i+1)=t:=⟨_,rfl⟩;obtain⟨A,z⟩:∃A,n - (i+1)=A:=⟨_,rfl⟩;rw[z]at hd h Q;rw[v]at M N o;rw[x]at hd B o;have L:Hid ((a1c l i).length=n - 1):=hid (by rw[a6h (by omega),y]);have Z:A<=64/\i<=64:=by omega
 have d:Ext w w.drew:=(ExtX.refl w).drew;have q:=U.ext d;have J:=a4H X ao R i c w.drew M.out (N.out.mono QV.mono (a0l d)) (by omega) q;have P:=hid (B.out.mono QV.mono (a0l d));clear r v x z p N B y V F;go_enter Tryz.func147,Tryz.ntmps147
 go_upto_region 1 with fail
 refine a0n 9 (fun _=>True) (by kernel_rfl) (by kernel_rfl) trivial (fun b a=>?_);refine kt 0 a ?_;refine kt 1 a ?_;refine kt 2 a ?_;refine kt 4 a ?_;refine kt 5 a ?_;refine kt 6 a ?_;refine kt 7 a ?_;refine ks 3 (fun K g=>?_);go_simp
 (refine J.mono ?_;rintro e w4 ⟨f,T,bc,rfl,k⟩)
 refine kcn g trivial (fun b=>?_);clear g K;have I:=q.ext f;have O:Sl QV 3 (mk (un X T) w4) C S:=P.out.old QV.mono f (fun j Y=>k.ob_lt Y);refine ks 8 (fun K g=>?_)
 (refine a3g (l:=R) rfl rfl a0w rfl QV.elem f.size I S i A M.out hd.out rfl rfl k O (by omega) (by omega) ?_;intro E D w6 m G a1)
 refine kcn g trivial (fun b=>?_);clear g K;refine kl 9 (fun K g=>?_);go_simp
 refine g.out _ _ ?_;clear g K;have H:Ext w w6:=(d.trans f).own k (by have:=d.size;exact c1B _) G;rw[o.out]at m;clear b a;go_wp2_with fail
 go_ret
 exact⟨H,_,rfl,E,D,by rw[L.out,h.out];rfl,m.lenCap,m.sl QV.elem⟩
end Go.Proofs.YtnnpfhoigmegcaaGreat
namespace Go.Lin
theorem b0V{m:Mat}{i j:Nat}(a:i<m.length)(b:j<m[i].length):m[i][j]=ent m i j:=by
 unfold ent;rw[show m.getD i []=m[i]by simp[List.getD_eq_getElem?_getD,a],List.getD_eq_getElem?_getD,List.getElem?_eq_getElem b];rfl
theorem a8S{m:Mat}{n c:Nat}(h:Shp n c m)(b:n=0->c=0):colsL m=c:=by
 by_cases d:0<n
 ·have a:0<m.length:=by rw[h.1];exact d
  rw[a1X a];exact h.2 _ (c1E _)
 ·have:m= []:=List.eq_nil_of_length_eq_zero (by rw[h.1];omega)
  subst this;rw[b (by omega)];rfl
end Go.Lin
namespace Go.Proofs.YtnnpfhoigmegcaaGreat
open Go.RowKit Go.Rep Go.Lim Go.Lin
theorem a4n{R:Mem->Value->Rat->Prop}(X:Nat->Bool)(w:World)(u:Value)(m:List (List Rat))(l:SlV (SlV R 3) 1 (mk X w) u m):Calls Tryz.prog 238 #[u] w (fun e o=>o=w/\e=.returned (.int .i64 (colsL m:Int))):=by
 obtain⟨ao,r,rfl,i,a⟩:=l;have j:=a.hd;by_cases h:0<m.length
 ·obtain⟨p,q,g,c,d,k⟩:=a.row 0 h
  have n:=c.out noY w (ExtX.refl _) rfl;have b:=hid (a1X h);have f:((m.length:Int)==0)=false:=a2J (by omega);go_enter Tryz.func238,Tryz.ntmps238
  go_wp2_with (with_reducible refine a0v a0r (by omega) (by assumption) ?_)
  go_ret
  exact⟨rfl,a0N (by rw[b.out])⟩
 ·have b:Hid (colsL m=0):=hid (by
   have:m= []:=List.eq_nil_of_length_eq_zero (by omega);subst this;rfl)
  have f:((m.length:Int)==0)=true:=a6R (by omega);go_enter Tryz.func238,Tryz.ntmps238
  go_wp2_with (with_reducible refine a0v a0r (by omega) (by assumption) ?_)
  go_ret
  exact⟨rfl,a0N (by rw[b.out];rfl)⟩
theorem a4f{R:Mem->Value->Rat->Prop}(Y:a3H R)(X:Nat->Bool)(w:World)(u:Value)(m:List (List Rat))(hu:SlV (SlV R 3) 1 (mk X w) u m)(hl:m.length<=1099511627776):Calls Tryz.prog 208 #[u] w (b0B w (a0y m)):=by
 obtain⟨ao,F,rfl,K,B⟩:=hu;have k:=B.hd;by_cases J:96<m.length
 ·have f:Hid (false=a0y m):=hid (by
   symm;cases hf:a0y m
   ·rfl
   ·have:=(a1M.1 hf).1;omega)
  have S:(96:Int)<(m.length:Int):=by omega
  go_enter Tryz.func208,Tryz.ntmps208
  go_wp2_with fail
  go_ret
  exact⟨ExtX.refl _,a0o f.out⟩
 ·have S:¬(96:Int)<(m.length:Int):=by omega
  obtain⟨n,M⟩:∃n,m.length=n:=⟨_,rfl⟩;have o:=hid M;have a3:n<=96:=by omega
  rw[M]at k S |-;clear M hl J K;go_enter Tryz.func208,Tryz.ntmps208
  go_wp2_with fail
  go_loopw [3] (fun c wr=>∃(i:Nat),c=.int .i64 i/\i<=n/\Hid (∀q,q<i->∀hq:q<m.length,1<=m[q].length/\m[q].length<=96/\m[q].length=colsL m)/\Ext w wr) (fun c _=>n - (intOf c).toNat)
  case atStart=>exact⟨0,rfl,Nat.zero_le _,hid (fun q hq=>by omega),ExtX.refl _⟩
  case round=>
   obtain⟨i,rfl,hi,A,r⟩:=hrel;by_cases L:i<n
   ·have l:i<m.length:=by rw[o.out];exact L
    have I:0<m.length:=by omega
    have C:=B.mono (SlV.mono Y 3) (a0l r);obtain⟨a1,c1,Z,s,v,N⟩:=C.row i l;obtain⟨a2,c2,a0,t,z,O⟩:=C.row 0 I;have e:=s.out noY wr (ExtX.refl _) rfl;have b:=t.out noY wr (ExtX.refl _) rfl;have H:∀W,(Instr.indexAt 25 (.slice ao n F) (.int .i64 (i:Int))).run Tryz.prog W=.ok (.pointer (some (adr ao i))) W:=a0z a0r ao n F .i64 i k (by omega) rfl;have G:∀W,(Instr.indexAt 25 (.slice ao n F) (.int .i64 0)).run Tryz.prog W=.ok (.pointer (some (adr ao 0))) W:=a0z a0r ao n F .i64 0 k (by omega) rfl;have j:=a1X I;have a:=hid (a4Z i l);rw[<-j]at b;obtain⟨x,P⟩:∃x,m[i].length=x:=⟨_,rfl⟩;obtain⟨y,Q⟩:∃y,colsL m=y:=⟨_,rfl⟩;rw[P]at e a;rw[Q]at b a;have d:Hid (1<=x/\x<=96/\x=y->∀hq:i<m.length,1<=m[i].length/\m[i].length<=96/\m[i].length=colsL m):=hid fun h hq=>by rw[P,Q];exact h
    clear P Q j s t N O v z I l;by_cases g:x=0
    ·have T:decide ((x:Int)<1)=true:=decide_eq_true (by omega)
     have f:=hid (a.out (by omega));clear g a d;go_wp2_with fail
     go_region
     all_goals
      clear e b H G;go_wp2_with fail
      go_ret
      exact⟨r.trans (ExtX.refl wr).drew,a0o f.out⟩
    ·have T:decide ((x:Int)<1)=false:=decide_eq_false (by omega)
     by_cases E:96<x
     ·have U:decide ((96:Int)<(x:Int))=true:=decide_eq_true (by omega)
      have f:=hid (a.out (by omega));clear g a d;go_wp2_with fail
      go_region
      all_goals
       clear e b H G;go_wp2_with fail
       go_ret
       exact⟨r.trans (ExtX.refl wr).drew,a0o f.out⟩
     ·have U:decide ((96:Int)<(x:Int))=false:=decide_eq_false (by omega)
      by_cases p:x=y
      ·have V:((x:Int) !=(y:Int))=false:=b0v (by omega)
       have D:=hid (d.out ⟨by omega,by omega,p⟩);clear g p a d E;go_wp2_with fail
       go_region
       all_goals
        clear e b H G;go_wp2_with fail
        go_roundw
        case rel=>exact⟨i+1,by go_num,by omega,hid (a8t A.out D.out),r.trans (ExtX.refl wr).drew⟩
        case measure=>simp[intOf];omega
      ·have V:((x:Int) !=(y:Int))=true:=a8s (by omega)
       have f:=hid (a.out (by omega));clear g p a d E;go_wp2_with fail
       go_region
       all_goals
        clear e b H G;go_wp2_with fail
        go_ret
        exact⟨r.trans (ExtX.refl wr).drew,a0o f.out⟩
   ·have f:Hid (true=a0y m):=hid (by
     symm;exact a1M.2 ⟨by rw[o.out];omega,fun q hq=>A.out q (by rw[o.out]at hq;omega) hq⟩)
    go_wp2_with fail
    go_ret
    exact⟨r,a0o f.out⟩
attribute [local go_sem↓] Go.wp_at_zero Go.wp_at_succ
def b6z(X:Nat->Bool)(w:World)(S:Sr)(e:Ending)(w':World):Prop:=Ext w w'/\∃oo co po pc uf,e=.returned (.tuple #[.slice oo S.1.length co,.slice po S.2.1.length pc,uf])/\S.1.length<=co/\S.2.1.length<=pc/\Sl RC 1 (mk X w') oo S.1/\Sl (a0c .i64) 1 (mk X w') po S.2.1/\QC (mk X w') uf S.2.2
theorem a4I(X:Nat->Bool)(w:World)(u:Value)(m:List (List Rat))(n c:Nat)(hX:HX X w)(hu:MV (mk X w) u m)(i5:Shp n c m)(hc:colsL m=c)(hn:n<=900)(E4:c<=900)(hT:a6U m c):Calls Tryz.prog 209 #[u] w (b6z X w (rN m c)):=by
 obtain⟨W,hW,g8,b0,hz⟩:=a1e w #[.bool false,.slice none 0 0,.slice none 0 0] 41;have h6:HX (a0f X w.heap.size 1) W:=hX.boxes hz;have z7:MV (mk (a0f X w.heap.size 1) W) u m:=MV.mono _ _ _ _ (a0j g8) hu;have s6:=b7C (a0f X w.heap.size 1) W u m h6 z7 (by rw[i5.1];omega) (fun r hr=>by rw[i5.2 r hr];omega);have l6:=hid i5.1;have i6:=hid i5;have C3:Hid (n=0->c=0):=hid fun h=>by
  have:m= []:=List.eq_nil_of_length_eq_zero (by rw[l6.out];exact h);rw[<-hc,this];rfl
 obtain⟨B,u1,u4⟩:=hT;have u5:=hid u4;have C:=hid u1;have f8:Hid (∀w',Le (mk (a0f X w.heap.size 1) w') (mk X w')):=hid fun w'=>a0k;have g7:Hid (a0f X w.heap.size 1 w.heap.size=true):=hid (a3z (c1B _) (by omega));obtain⟨D,n4⟩:∃D,a0f X w.heap.size 1=D:=⟨_,rfl⟩;obtain⟨b,hb⟩:∃b,w.heap.size=b:=⟨_,rfl⟩;rw[n4]at h6 s6 f8 g7;rw[hb]at b0 g7;have B7:W.heap.size=b+1:=by rw[<-hb];exact hz
 have o2:Hid (w.heap.size=b):=hid hb;clear hu z7 n4 hz hb i5 u4 u1;go_enter Tryz.func209,Tryz.ntmps209
 go_wp2_with fail
 refine s6.mono ?_;rintro e w1 ⟨a6,A,L,rfl,b6⟩;have n6:HX (un D A) w1:=b6.unX (h6.ext a6);clear hW;rw[l6.out];go_wp2_with fail
 refine(a3m (un D A) w1 1 n6 (by decide) (by decide)).mono ?_;rintro e w2 ⟨b5,u2,rfl,t5⟩;obtain⟨s2,a2,n2,c2,d2,k2,e2,rfl⟩:=t5.shape;have bf:=Bx.new w2 #[.bool false,.slice none 0 0,.slice none 0 0] 41;go_wp2_with ((with_reducible show wpList _ _ _ (⟨_,.store _ _ _,_,_,_,_⟩::_) _ _);refine a0a a0p rfl rfl bf rfl rfl (a1z _ _ _ _ _ _ _) ?_;intro w3 r1 r2)
 have f9:Ext w2 w3:=ExtX.box ((ExtX.refl w2).alloc _) r2 (c1B _);have b7:=b6.ext0 RC.elem b5;have y3:∀k,ob A k=true->k<w2.heap.size:=fun k Z=>(b7.block Z).2;obtain⟨H,q8⟩:∃H,w2.heap.size=H:=⟨_,rfl⟩;obtain⟨base,b9⟩:∃base,W.heap.size=base:=⟨_,rfl⟩;have D1:=a6.size;have D2:=b5.size;have A8:RS D w b H base 26 41 3 w3 A L none 0 m [] 1:=by
  subst q8 b9;refine⟨b7.ext RC.elem f9 (fun k _ h=>by simp[noY]at h) (fun k Z hz=>?_),OL.nil _ _ _ _ _ _,⟨s2,a2,n2,c2,d2,k2,e2,r1,QC.mono _ _ _ _ (a1k f9 (fun k _ h=>by simp[noY]at h) fun k Z hz=>?_) t5⟩,h6.ext (a6.trans (b5.trans f9)),b0.ext0 (a6.trans (b5.trans f9)),g7.out,?_,g8.trans (a6.trans (b5.trans f9)),?_,?_⟩
  ·by_cases h:D k=true
   ·exact h
   ·have h':D k=false:=by simpa using h
    have:w2.heap.size=k:=by simpa[un,a9E,ob,h']using hz
    omega
  ·by_cases h:un D A k=true
   ·exact h
   ·have h':un D A k=false:=by simpa using h
    obtain⟨h1,h2⟩:=a0P h';have e1:ob (none:Option Addr) k=false:=rfl;have e2:ob (some ⟨w2.heap.size,0,none⟩) k=(w2.heap.size==k):=rfl;have:w2.heap.size=k:=by simpa[un,a6A,a9E,h1,h2,e1,e2]using hz
    omega
  ·omega
  ·have:=g8.size;omega
  ·have:=g8.size;omega
 have o3:n<=L:=by have:=b6.lenCap;rw[l6.out]at this;exact this
 have f0:Hd A n:=by have:=b6.hd;rw[l6.out]at this;exact this
 rw[q8,o2.out];clear b6 b7 y3 t5 bf r1 r2 a6 b5 f9 D1 D2 s6 b0 h6 n6 g8 q8 b9 B7;go_loopg [5,7] c (fun g p k wr=>∃(j:Nat) (G:Option Addr) (pc z:Nat) (M:Mat) (P:List Nat) (f:Rat),k=.int .i64 j/\p=.slice G z pc/\j+g=c/\Hid (P.length=z)/\Hid (rN m j=(M,P,f))/\RS D w b H base 26 41 3 wr A L G pc M P f)
 case atStart=>exact⟨0,none,0,0,m,[],1,rfl,rfl,by omega,hid rfl,hid rfl,A8⟩
 case round=>
  obtain⟨j,G,pc,z,M,P,f,rfl,rfl,hj,f4,i7,N⟩:=hrel;have l7:=a5Z i6.out j;rw[i7.out]at l7;have hM:=hid l7.shp;have g3:Hid (M.length=n):=hid hM.out.1;have C8:z<=n:=by have h1:P.length<=n:=l7.ref.le;rw[f4.out]at h1;exact h1
  have j7:=hid (u5.out j (by omega));rw[i7.out]at j7;have h9:colsL M=c:=a8S hM.out C3.out;have l1:=a4n (R:=QC) (un (a9E D H) G) wr (.slice A n L) M ⟨A,L,by rw[g3.out],by rw[g3.out];exact o3,N.rows.sl RC.elem⟩;rw[h9]at l1;clear l7 h9;by_cases r5:j<c
  ·go_wp2_with fail
   refine l1.mono ?_;rintro e w2 ⟨rfl,rfl⟩;clear l1;go_wp2_with fail
   go_loopw [9] (fun a wx=>∃(t:Nat),a=.int .i64 t/\z<=t/\t<=n/\Hid (∀i,z<=i->i<t->ent M i j=0)/\RS D w b H base 26 41 3 wx A L G pc M P f) (fun a _=>n - (intOf a).toNat)
   case atStart=>exact⟨z,rfl,c1B _,C8,hid (fun i h1 h2=>by omega),N⟩
   case round=>
    clear N;obtain⟨t,rfl,E5,E6,m4,N⟩:=hrel;by_cases m0:t<n
    ·have i8:t<M.length:=by rw[g3.out];exact m0
     obtain⟨a1,c1,t7,A5,o4,r7⟩:=N.row t i8;have s0:Hid (M[t].length=c):=hid (hM.out.2 _ (c1E _));have x6:j<M[t].length:=by rw[s0.out];exact r5
     have d3:=hid (b0V i8 x6);rw[s0.out]at t7 o4;have x5:Hd a1 c:=by have:=r7.hd;rw[s0.out]at this;exact this
     have a4:=hid (j7.out.1 t j);have q5:=N.hz;obtain⟨g9,o9,s5,a5,n5,c5,d5,k5,e5,x2,h7,v9,i9⟩:=r7.rat QC.shaped j x6;rw[d3.out]at i9;obtain⟨x,hx⟩:∃x,ent M t j=x:=⟨_,rfl⟩;rw[hx]at d3 a4 i9;have m3:=hid hx;obtain⟨A2,A3,A4⟩:=v9.out noY wr (ExtX.refl _) rfl;have i1:∀W,(Instr.indexAt 25 (.slice A n L) (.int .i64 (t:Int))).run Tryz.prog W=.ok (.pointer (some (adr A t))) W:=a0z a0r A n L .i64 t f0 (by omega) rfl;have i2:∀W,(Instr.indexAt 26 (.slice a1 c c1) (.int .i64 (j:Int))).run Tryz.prog W=.ok (.pointer (some ⟨g9,o9,none⟩)) W:=by rw[<-x2];exact a0d a0w a1 c c1 .i64 j x5 (by omega)
     clear hx A5 v9 x2 h7;by_cases h0:x=0
     ·have z3:(x.num.sign==(0:Int))=true:=by rw[h0];rfl
      have A1:Hid (∀i,z<=i->i<t+1->ent M i j=0):=hid fun i h1 h2=>by
       by_cases e:i=t
       ·subst e;rw[m3.out];exact h0
       ·exact m4.out i h1 (by omega)
      clear h0;go_wp2_with fail
      refine(a7i (a6A D H G A) wr _ x q5 (i9.qv (by have:=a4.out;have:=C.out;omega))).mono ?_;rintro e w5 ⟨j8,rfl⟩;have b1:=N.ext0 j8;clear t7 A2 A3 A4 i1 i2;go_wp2_with fail
      go_roundw
      case rel=>exact⟨t+1,by go_num,by omega,by omega,A1,b1⟩
      case measure=>simp[intOf];omega
     ·have z3:(x.num.sign==(0:Int))=false:=a2J (by intro h;exact h0 (Rat.num_eq_zero.1 (Int.sign_eq_zero_iff_zero.1 h)))
      have t6:=hid h0;have x8:((t:Int)==(n:Int))=false:=a2J (by omega);clear h0;go_wp2_with fail
      refine(a7i (a6A D H G A) wr _ x q5 (i9.qv (by have:=a4.out;have:=C.out;omega))).mono ?_;rintro e w5 ⟨j8,rfl⟩;have b1:=N.ext0 j8;clear t7 A2 A3 A4 i1 i2 N j8 q5 r7 i9 x5
      go_upto_if 46 with(fail)
      have d4:z<M.length:=by rw[g3.out];omega
      have a0:z<n:=by omega
      have z6:=hid (b3h i8 d4);have b3:Hid (rN m (j+1)=(out (pv (a1f M t z) z j) z j n,P++[j],(if t - z=0 then f else - f)*ent (a1f M t z) z j)):=hid (by
       have e1:z+(t - z)=t:=by omega
       have:=b9q i6.out i7.out f4.out (a:=t - z) (by rw[e1];exact m4.out) (by omega) (by rw[e1,m3.out];exact t6.out);rw[e1]at this;exact this)
      have c4:=hid (hM.out.swap m0 a0);have f5:=hid (j7.out.1.swap hM.out m0 a0);have l8:Hid (ent (a1f M t z) z j≠0):=hid (by rw[a3s hM.out m0 a0,if_pos rfl,m3.out];exact t6.out);have q7:=hid j7.out.2;clear z3 x8 a4 t6 d3 o4;go_cut []from 14 to 122 (fun wx=>∃f1,Hid (f1=if t - z=0 then f else - f)/\RS D w b H base 26 41 3 wx A L G pc (a1f M t z) P f1)
      case first=>
       by_cases t0:t=z
       ·have x9:((t:Int) !=(z:Int))=false:=b0v (by omega)
        have B3:RS D w b H base 26 41 3 w5 A L G pc (a1f M t z) P f:=by rw[t0,a5q M z d4];exact b1
        have q9:Hid (f=if t - z=0 then f else - f):=hid (if_pos (by omega)).symm;clear t0 b1;go_wp2_with fail
        go_meet
        case rel=>exact⟨f,q9,B3⟩
       ·have x9:((t:Int) !=(z:Int))=true:=a8s (by omega)
        have q9:Hid (- f=if t - z=0 then f else - f):=hid (if_neg (by omega)).symm;obtain⟨ap,cp,y1,e6,F,I⟩:=b1.row z d4;obtain⟨ax,cx,y2,p5,w0,y7⟩:=b1.row t i8;obtain⟨b6,a6⟩:=b1.rows.set1 a4Y RC.elem SlV.one t i8 (.slice ap M[z].length cp) M[z] ⟨ap,cp,rfl,F,I⟩;obtain⟨u3,k3,f3,D3⟩:=b6.cell SlV.one z (by simpa using d4);obtain⟨b7,b5⟩:=b6.set1 a4Y RC.elem SlV.one z (by simpa using d4) (.slice ax M[t].length cx) M[t] ⟨ax,cx,rfl,w0,y7.mono QC.mono (a0t a6 fun k Z=>a0u Z)⟩;have u6:=(a6.trans b5).drew;have b7:=b7.ext0 RC.elem (ExtX.refl (Y:=noY) _).drew;rw[z6.out]at b7;have k6:=b1.setRows u6 b7;have i1:∀W,(Instr.indexAt 25 (.slice A n L) (.int .i64 (t:Int))).run Tryz.prog W=.ok (.pointer (some (adr A t))) W:=a0z a0r A n L .i64 t f0 (by omega) rfl;have i2:∀W,(Instr.indexAt 25 (.slice A n L) (.int .i64 (z:Int))).run Tryz.prog W=.ok (.pointer (some (adr A z))) W:=a0z a0r A n L .i64 z f0 (by omega) rfl;clear t0 D3 b6 b7 a6 b5 b1 I y7;go_wp2_with fail
        go_region
        obtain⟨w6,m2⟩:∃w6,((w5.setCell (adr A t) (.slice ap M[z].length cp)).setCell (adr A z) (.slice ax M[t].length cx)).drew=w6:=⟨_,rfl⟩;rw[m2]at k6 |-;obtain⟨sf,af,nf,cf,df,kf,ef,bF,g5⟩:=k6.fac;have z0:=bF.cell 0 rfl;have z1:=bF.cell 1 rfl;have z2:=bF.cell 2 rfl;have B6:=k6.hz;clear y1 y2 e6 p5 k3 f3 i1 i2 m2 u6;go_wp2_with fail
        refine(b7A (a6A D H G A) w6 _ f B6 (g5.qv (by have:=q7.out;have:=C.out;omega))).mono ?_;rintro e w7 ⟨j9,u7,rfl,j0⟩;obtain⟨s7,a7,n7,c7,d7,k7,e7,rfl⟩:=j0.shape;have b4:=bF.ext0 j9;have A9:=k6.ext0 j9;clear z0 z1 z2 bF;go_wp2_with ((with_reducible show wpList _ _ _ (⟨_,.store _ _ _,_,_,_,_⟩::_) _ _);refine a0a a0p rfl rfl b4 rfl rfl (a1z _ _ _ _ _ _ _) ?_;intro w8 r1 r2)
        have q4:=A9.setFac r2 r1 (QC.mono _ _ _ _ (a0t r2 fun k Z=>a0m (a0m (a0u Z))) j0)
        go_meet
        case rel=>exact⟨- f,q9,q4⟩
      case rest=>
       obtain⟨f1,w4,g4⟩:=hcut;rw[<-w4.out]at b3;have o5:Hid (hq f1<=B):=hid (by rw[w4.out];split;exact q7.out;rw[a5M];exact q7.out);obtain⟨w6,m2⟩:∃w6,w6=wc:=⟨_,rfl⟩;subst m2;obtain⟨M1,m8⟩:∃M1,a1f M t z=M1:=⟨_,rfl⟩;rw[m8]at b3 c4 f5 l8 g4;have v3:Hid (M1.length=n):=hid c4.out.1;have b2:z<M1.length:=by rw[v3.out];exact a0
       have S:Hid (M1[z].length=c):=hid (c4.out.2 _ (c1E _));have l5:j<M1[z].length:=by rw[S.out];exact r5
       have d3:=hid (b0V b2 l5);have a4:=hid (f5.out z j);have C7:Hid (M1.getD z []=M1[z]):=hid (a3p b2);obtain⟨y,hy⟩:∃y,ent M1 z j=y:=⟨_,rfl⟩;have o7:Hid (pv M1 z j=M1.set z (M1[z].map (· *(((1:Int):Rat)/y)))):=hid (by unfold pv;rw[C7.out,hy];rfl);rw[hy]at d3 a4 l8 b3;have f6:=hid (c4.out.pv a0 j);have m5:=hid (f5.out.pv c4.out a0 j);have i4:Hid (BR B M1[z]):=hid (a5y f5.out _ (c1E _));have i1:∀W,(Instr.indexAt 25 (.slice A n L) (.int .i64 (z:Int))).run Tryz.prog W=.ok (.pointer (some (adr A z))) W:=a0z a0r A n L .i64 z f0 (by omega) rfl;have J:Ext w6 w6.drew:=(ExtX.refl w6).drew;clear b1 m8 hy m3 z6;go_upto_region 15 with(fail)
       go_cut []from 14 to 122 (fun wx=>RS D w b H base 26 41 3 wx A L G pc M1 P (f1*y))
       case first=>
        obtain⟨ap,cp,y1,e6,F,I⟩:=g4.row z b2;obtain⟨g,o,s5,a5,n5,c5,d5,k5,e5,hg,v8,d1,c0⟩:=I.rat QC.shaped j l5;obtain⟨sf,af,nf,cf,df,kf,ef,bF,g5⟩:=g4.fac;rw[d3.out]at c0;rw[S.out]at y1 F;have r0:Hd ap c:=by have:=I.hd;rw[S.out]at this;exact this
        have i2:∀W,(Instr.indexAt 26 (.slice ap c cp) (.int .i64 (j:Int))).run Tryz.prog W=.ok (.pointer (some ⟨g,o,none⟩)) W:=by rw[<-hg];exact a0d a0w ap c cp .i64 j r0 (by omega)
        have j6:=bF.ext0 J;have z0:=j6.cell 0 rfl;have z1:=j6.cell 1 rfl;have z2:=j6.cell 2 rfl;obtain⟨k0,k1,k2⟩:=d1.out noY w6.drew J rfl;have j5:w6.drew.cell? (adr A z)=some (.slice ap c cp):=y1;have d0:=g4.ext0 J;have b8:=d0.hz;have y6:QV (mk (a6A D H G A) w6.drew) (.agg #[.bool sf,.slice af nf cf,.slice df kf ef]) f1:=g5.qv (by have:=o5.out;have:=C.out;omega);have d6:QV (mk (a6A D H G A) w6.drew) (.agg #[.bool s5,.slice a5 n5 c5,.slice d5 k5 e5]) y:=c0.qv (by have:=a4.out;have:=C.out;omega);clear I hg d1 g4 y1 e6 bF;go_wp2_with fail
        go_region_with ((go_at_call 49;(with_reducible refine(a9x (a6A D H G A) w6.drew _ _ f1 y b8 y6 d6).mono ?_);rintro ee w7 ⟨t1,u7,rfl,j0⟩;obtain⟨s7,a7,n7,c7,d7,k7,e7,rfl⟩:=j0.shape;have b4:=j6.ext0 t1;have g0:=b4.cell 0 rfl;have g1:=b4.cell 1 rfl;have g2:=b4.cell 2 rfl;have h0:=b4.frozen 0;have h1:=b4.frozen 1;have h2:=b4.frozen 2))
        all_goals
         obtain⟨q1,q2⟩:=b4.set3 (.bool s7) (.slice a7 n7 c7) (.slice d7 k7 e7);have q4:=(d0.ext0 t1).setFac q2 q1 (QC.mono _ _ _ _ (a0t q2 fun k Z=>a0m (a0m (a0u Z))) j0);clear z0 z1 z2 k0 k1 k2 j5 g0 g1 g2 h0 h1 h2 i2;go_wp2_with fail
         go_meet
         case rel=>exact q4
       case rest=>
        have x1:Hid (hq (f1*y)<=2*B):=hid (by have:=hq_mul f1 y;have:=o5.out;have:=a4.out;omega);obtain⟨f2,x0⟩:∃f2,f1*y=f2:=⟨_,rfl⟩;rw[x0]at x1 hcut b3;clear g4 J x0;obtain⟨w7,D4⟩:∃w7,w7=wc:=⟨_,rfl⟩;subst D4;have k4:=hcut;have J:Ext w7 w7.drew:=(ExtX.refl w7).drew;clear hcut;go_upto_region 16 with(fail)
        go_cut []from 14 to 122 (fun wx=>RS D w b H base 26 41 3 wx A L G pc (pv M1 z j) P f2)
        case first=>
         obtain⟨ap,cp,y1,e6,F,I⟩:=k4.row z b2;obtain⟨g,o,s5,a5,n5,c5,d5,k5,e5,hg,v8,d1,c0⟩:=I.rat QC.shaped j l5;rw[d3.out]at c0;have r0:Hd ap c:=by have:=I.hd;rw[S.out]at this;exact this
         have i2:∀W,(Instr.indexAt 26 (.slice ap c cp) (.int .i64 (j:Int))).run Tryz.prog W=.ok (.pointer (some ⟨g,o,none⟩)) W:=by rw[<-hg];exact a0d a0w ap c cp .i64 j r0 (by omega)
         have s1:RV (mk (a6A D H G A) w7.drew) (.slice ap c cp) M1[z]:=by
          rw[<-S.out];exact⟨ap,cp,rfl,F,I.qv fun q hq=>c1A (i4.out q hq) (by have:=C.out;omega)⟩
         rw[S.out]at y1 F;have hS:Hid (∀W',Ext w7.drew W'->W'.cell? (adr A z)=some (.slice ap c cp)/\W'.cell? ⟨g,o,none⟩=some (.bool s5)/\W'.cell? ⟨g,o+1,none⟩=some (.slice a5 n5 c5)/\W'.cell? ⟨g,o+2,none⟩=some (.slice d5 k5 e5)):=hid fun W' h=>by
          obtain⟨k0,k1,k2⟩:=d1.out noY W' (J.trans h) rfl;exact⟨(J.trans h).cell y1,k0,k1,k2⟩
         obtain⟨j5,k0,k1,k2⟩:=hS.out w7.drew (ExtX.refl _);have d0:=k4.ext0 J;have b8:=d0.hz;have d6:QV (mk (a6A D H G A) w7.drew) (.agg #[.bool s5,.slice a5 n5 c5,.slice d5 k5 e5]) y:=c0.qv (by have:=a4.out;have:=C.out;omega);have A6:Hid (hq (((1:Int):Rat))<=68719476736):=hid (by decide+kernel);have C9:Hid (hq (((1:Int):Rat)/y)<=68719476736):=hid (by have h3:=hq_div ((1:Int):Rat) y;have h4:hq (((1:Int):Rat))=1:=(by decide+kernel);have:=a4.out;have:=C.out;have:=a7c y;omega);have y9:Hid (M1[z].length<=1000000):=hid (by rw[S.out];omega);clear I hg d1 k4 y1 e6;go_wp2_with fail
         refine a0n 17 (fun w'=>w'.cell? (adr A z)=some (.slice ap c cp)/\w'.cell? ⟨g,o,none⟩=some (.bool s5)/\w'.cell? ⟨g,o+1,none⟩=some (.slice a5 n5 c5)/\w'.cell? ⟨g,o+2,none⟩=some (.slice d5 k5 e5)) (by kernel_rfl) (by kernel_rfl) (hS.out _ (ExtX.refl _)) (fun E s=>?_);clear j5 k0 k1 k2;refine kt 0 s ?_;refine kt 1 s ?_;refine kt 2 s ?_;refine kt 3 s ?_;refine kt 4 s ?_;refine kt 5 s ?_;refine kt 7 s ?_;refine kt 8 s ?_;refine kt 9 s ?_;refine kt 10 s ?_;refine kt 11 s ?_;refine kt 12 s ?_;refine kt 13 s ?_;refine ks 6 (fun K U=>?_);go_simp
         (go_at_call 54;(with_reducible refine(a3m (a6A D H G A) w7.drew 1 b8 (by decide) (by decide)).mono ?_);rintro ee w8 ⟨t1,u8,rfl,z8⟩)
         refine kcn U (hS.out w8 t1) (fun E=>?_);clear U K;obtain⟨s8,a8,n8,c8,d8,k8,e8,rfl⟩:=z8.shape;have B4:=b8.ext t1;have D6:=mkx QV.mono d6 t1;have z9:=z8.qv A6.out;refine ks 14 (fun K U=>?_);go_simp
         (go_at_call 240;(with_reducible refine(b9g (a6A D H G A) w8 _ _ _ y B4 z9 D6 l8.out).mono ?_);rintro ee w9 ⟨t2,u9,rfl,j1⟩)
         refine kcn U (hS.out w9 (t1.trans t2)) (fun E=>?_);clear U K;obtain⟨s9,a9,n9,c9,d9,k9,e9,rfl⟩:=j1.shape;have c3:=t1.trans t2;have h7:=b8.ext c3;have r9:=mkx RV.mono s1 c3;have j2:=j1.qv C9.out;refine ks 15 (fun K U=>?_);go_simp
         (go_at_call 285;(with_reducible refine(b6w (a6A D H G A) w9 _ _ _ _ h7 r9 j2 y9.out).mono ?_);rintro ee j4 ⟨t3,E1,rfl,e3⟩)
         refine kcn U (hS.out j4 (c3.trans t3)) (fun E=>?_);clear U K;obtain⟨p3,p4,rfl,h8,p1⟩:=e3;have E0:=c3.trans t3;have h5:=d0.ext0 E0;obtain⟨_,_,p0,fz,_,_⟩:=h5.row z b2;refine kt 16 s ?_;refine kl 17 (fun K U=>?_);go_simp
         refine U.out _ _ ?_;clear U K;obtain⟨n1,m6⟩:=h5.rows.set1 a4Y RC.elem SlV.one z b2 (.slice p3 M1[z].length p4) (M1[z].map (· *(((1:Int):Rat)/y))) ⟨p3,p4,by rw[List.length_map],h8,p1⟩;have V:=h5.setRows m6 n1;have c6:=V;rw[<-o7.out]at c6;clear p0 fz i2 n1 m6 V E s;go_wp2_with fail
         go_meet
         case rel=>exact c6
        case rest=>
         have q3:=hcut;clear hcut k4 J i1;obtain⟨w8,D5⟩:∃w8,w8=wc:=⟨_,rfl⟩;subst D5;obtain⟨O,m9⟩:∃O,pv M1 z j=O:=⟨_,rfl⟩;rw[m9]at q3 b3 f6 m5;have n0:Hid (O.length=n):=hid f6.out.1;have v6:RS D w b H base 26 41 3 w8 A L G pc (out O z j 0) P f2:=by rw[b5e];exact q3
         have o1:=hid (a5y m5.out);have l0:Hid (∀wx,OL RC 1 (un (a9E D H) G) base 26 wx A L (out O z j n)->base<=wx.heap.size):=hid fun wx h=>by
          obtain⟨b0,o0,l0⟩:=f0 (by omega);have:=h.block (k:=b0) (by rw[l0];simp[ob]);omega
         have i1:∀W,(Instr.indexAt 25 (.slice A n L) (.int .i64 (z:Int))).run Tryz.prog W=.ok (.pointer (some (adr A z))) W:=a0z a0r A n L .i64 z f0 (by omega) rfl;clear m9 q3 l5 S d3 a4 o7 i4 l8;go_wp2_with fail
         go_loopw [10] (fun a wx=>∃(i:Nat),a=.int .i64 i/\i<=n/\RS D w b H base 26 41 3 wx A L G pc (out O z j i) P f2) (fun a _=>n - (intOf a).toNat)
         case atStart=>exact⟨0,rfl,Nat.zero_le _,v6⟩
         case round=>
          clear v6;obtain⟨i,rfl,hi,N⟩:=hrel;by_cases C2:i<n
          ·by_cases l4:i=z
           ·have y0:((i:Int) !=(z:Int))=false:=b0v (by omega)
            have B2:RS D w b H base 26 41 3 wr A L G pc (out O z j (i+1)) P f2:=by subst l4;rw[<-b5f];exact N
            clear l4 N;go_wp2_with fail
            go_roundw
            case rel=>exact⟨i+1,by go_num,by omega,B2⟩
            case measure=>simp[intOf];omega
           ·have y0:((i:Int) !=(z:Int))=true:=a8s (by omega)
            have l2:i<O.length:=by rw[n0.out];exact C2
            have l9:z<O.length:=by rw[n0.out];exact a0
            have l3:i<(out O z j i).length:=by rw[a4F];exact l2
            have r6:z<(out O z j i).length:=by rw[a4F];exact l9
            have x3:(out O z j i)[i]=O[i]:=by rw[a5B l3 l2,if_neg (by omega)]
            have x4:(out O z j i)[z]=O[z]:=by rw[a5B r6 l9,if_neg (by omega)]
            have T:=hid (b7H (m:=O) (t:=z) (col:=j) l2 l4);rw[a3p l9]at T;obtain⟨ai,ci,y1,e6,f7,g6⟩:=N.row i l3;obtain⟨ap,cp,y2,p5,F,I⟩:=N.row z r6;rw[x3]at y1 f7 g6;rw[x4]at y2 F I;have a3:Hid (O[i].length=c):=hid (f6.out.2 _ (c1E _));have e0:Hid (O[z].length=c):=hid (f6.out.2 _ (c1E _));have p6:=hid (o1.out O[i] (c1E _));have p7:=hid (o1.out O[z] (c1E _));have r4:j<O[i].length:=by rw[a3.out];exact r5
            obtain⟨g,o,s5,a5,n5,c5,d5,k5,e5,hg,v8,d1,c0⟩:=g6.rat QC.shaped j r4;have A0:O[i].getD j 0=O[i][j]:=by rw[List.getD_eq_getElem?_getD,List.getElem?_eq_getElem r4];rfl
            rw[A0]at T;have m1:=hid (p6.out O[i][j] (c1E _));obtain⟨v,hv⟩:∃v,O[i][j]=v:=⟨_,rfl⟩;rw[hv]at T c0 m1;clear hv A0 x3 x4;obtain⟨row,o8⟩:∃row,O[i]=row:=⟨_,rfl⟩;rw[o8]at T g6 y1 f7 a3 p6;obtain⟨e4,y5⟩:∃e4,O[z]=e4:=⟨_,rfl⟩;rw[y5]at T I y2 F e0 p7;have B8:Hd ai c:=by have:=g6.hd;rw[a3.out]at this;exact this
            have J:Ext wr wr.drew:=(ExtX.refl wr).drew;have i2:∀W,(Instr.indexAt 26 (.slice ai c ci) (.int .i64 (j:Int))).run Tryz.prog W=.ok (.pointer (some ⟨g,o,none⟩)) W:=by rw[<-hg];exact a0d a0w ai c ci .i64 j B8 (by omega)
            have i3:∀W,(Instr.indexAt 25 (.slice A n L) (.int .i64 (i:Int))).run Tryz.prog W=.ok (.pointer (some (adr A i))) W:=a0z a0r A n L .i64 i f0 (by omega) rfl;have D0:RV (mk (a6A D H G A) wr.drew) (.slice ai c ci) row:=by
             rw[<-a3.out];exact⟨ai,ci,rfl,f7,g6.qv fun q hq=>c1A (p6.out q hq) (by have:=C.out;omega)⟩
            have s1:RV (mk (a6A D H G A) wr.drew) (.slice ap c cp) e4:=by
             rw[<-e0.out];exact⟨ap,cp,rfl,F,I.qv fun q hq=>c1A (p7.out q hq) (by have:=C.out;omega)⟩
            rw[a3.out]at y1;rw[e0.out]at y2;have hS:Hid (∀W',Ext wr.drew W'->W'.cell? (adr A i)=some (.slice ai c ci)/\W'.cell? (adr A z)=some (.slice ap c cp)/\W'.cell? ⟨g,o,none⟩=some (.bool s5)/\W'.cell? ⟨g,o+1,none⟩=some (.slice a5 n5 c5)/\W'.cell? ⟨g,o+2,none⟩=some (.slice d5 k5 e5)):=hid fun W' h=>by
             obtain⟨k0,k1,k2⟩:=d1.out noY W' (J.trans h) rfl;exact⟨(J.trans h).cell y1,(J.trans h).cell y2,k0,k1,k2⟩
            obtain⟨j5,E3,k0,k1,k2⟩:=hS.out wr.drew (ExtX.refl _);have d0:=N.ext0 J;have b8:=d0.hz;have d6:QV (mk (a6A D H G A) wr.drew) (.agg #[.bool s5,.slice a5 n5 c5,.slice d5 k5 e5]) v:=c0.qv (by have:=m1.out;have:=C.out;omega);have C4:Hid (hq (-v)<=68719476736):=hid (by rw[a5M];have:=m1.out;have:=C.out;omega);have i0:Hid (BR 68719476736 (e4.map (· * -v))):=hid fun q hq=>by
             obtain⟨x,hx,rfl⟩:=List.mem_map.1 hq;have h1:=p7.out x hx;have h2:=hq_mul x (-v);rw[a5M]at h2;have:=m1.out;have:=C.out;omega
            have C0:Hid (e4.length<=1000000):=hid (by rw[e0.out];omega);have C1:Hid (row.length<=1000000):=hid (by rw[a3.out];omega);have x7:Hid ((e4.map (· * -v)).length=row.length):=hid (by rw[List.length_map,e0.out,a3.out]);have o6:=hid l3;obtain⟨PR,q0⟩:∃PR,e4.map (· * -v)=PR:=⟨_,rfl⟩;have v5:=hid q0;rw[q0]at T i0 x7;obtain⟨NR,p9⟩:∃NR,List.zipWith (· + ·) row PR=NR:=⟨_,rfl⟩;have v4:=hid p9;rw[p9]at T;clear g6 I hg d1 N y1 e6 y2 p5 o8 y5 l4 l2 l9 r6 c0 l3 r4 f7 F q0 p9;go_wp2_with fail
            refine a0n 21 (fun w'=>w'.cell? (adr A i)=some (.slice ai c ci)/\w'.cell? (adr A z)=some (.slice ap c cp)/\w'.cell? ⟨g,o,none⟩=some (.bool s5)/\w'.cell? ⟨g,o+1,none⟩=some (.slice a5 n5 c5)/\w'.cell? ⟨g,o+2,none⟩=some (.slice d5 k5 e5)) (by kernel_rfl) (by kernel_rfl) (hS.out _ (ExtX.refl _)) (fun E s=>?_);clear j5 E3 k0 k1 k2;refine kt 0 s ?_;refine kt 1 s ?_;refine kt 2 s ?_;refine kt 3 s ?_;refine kt 4 s ?_;refine kt 5 s ?_;refine kt 6 s ?_;refine kt 7 s ?_;refine kt 8 s ?_;refine kt 9 s ?_;refine kt 10 s ?_;refine kt 11 s ?_;refine kt 12 s ?_;refine kt 13 s ?_;refine kt 14 s ?_;refine kt 15 s ?_;refine kt 16 s ?_;refine ks 17 (fun K U=>?_);go_simp
            (go_at_call 56;(with_reducible refine(b7A (a6A D H G A) wr.drew _ v b8 d6).mono ?_);rintro ee w9 ⟨t1,u9,rfl,j1⟩)
            refine kcn U (hS.out w9 t1) (fun E=>?_);clear U K;obtain⟨s9,a9,n9,c9,d9,k9,e9,rfl⟩:=j1.shape;have h7:=b8.ext t1;have r9:=mkx RV.mono s1 t1;have j2:=j1.qv C4.out;refine ks 18 (fun K U=>?_);go_simp
            (go_at_call 285;(with_reducible refine(b6w (a6A D H G A) w9 _ _ e4 (-v) h7 r9 j2 C0.out).mono ?_);rintro ee j4 ⟨t2,E1,rfl,e3⟩)
            refine kcn U (hS.out j4 (t1.trans t2)) (fun E=>?_);clear U K;rw[v5.out]at e3;have t4:=e3.rv i0.out;obtain⟨p3,p4,rfl,h8,p1⟩:=e3;have c3:=t1.trans t2;have v7:=b8.ext c3;have y8:=mkx RV.mono D0 c3;refine ks 19 (fun K U=>?_);go_simp
            (go_at_call 286;(with_reducible refine(c0w (a6A D H G A) j4 _ _ row _ v7 y8 t4 C1.out x7.out).mono ?_);rintro ee E2 ⟨t3,E7,rfl,p2⟩)
            refine kcn U (hS.out E2 (c3.trans t3)) (fun E=>?_);clear U K;rw[v4.out]at p2;obtain⟨t8,t9,rfl,q6,z4⟩:=p2;have V:=d0.ext0 (c3.trans t3);obtain⟨_,_,p0,fz,_,_⟩:=V.row i o6.out;refine kt 20 s ?_;refine kl 21 (fun K U=>?_);go_simp
            refine U.out _ _ ?_;clear U K;obtain⟨n3,m7⟩:=V.rows.set1 a4Y RC.elem SlV.one i o6.out (.slice t8 NR.length t9) NR ⟨t8,t9,rfl,q6,z4⟩;have c6:=V.setRows m7 n3;rw[T.out]at c6;clear p0 fz i2 i3 n3 m7 V E s;go_wp2_with fail
            go_roundw
            case rel=>exact⟨i+1,by go_num,by omega,c6⟩
            case measure=>simp[intOf];omega
          ·have r3:i=n:=by omega
           subst r3;have b9:=l0.out wr N.rows;have B5:∀k,un (a9E D H) A k=true->k<wr.heap.size:=fun k Z=>N.hz k (by
            by_cases h:a9E D H k=true
            ·exact a0m (a0m h)
            ·exact a0u (by simpa[un,h]using Z))
           have hP:=N.piv;have y4:Hid ((P++[j]).length=z+1):=hid (by rw[List.length_append,f4.out];rfl);clear i1 l0;go_wp2_with (at_builtin;refine a0s (l:=P) a6a rfl (a0c.elem .i64) b9 B5 z f4.out rfl rfl hP (.int .i64 (j:Int)) j rfl rfl (by omega) (by omega) ?_;intro D8 D7 j4 A7 j9 C5)
           have B0:=N.push j9 A7 C5;go_roundg (c - (j+1))
           case measure=>omega
           case rel=>exact⟨j+1,D8,D7,z+1,_,_,_,by go_num,rfl,by omega,y4,b3,B0⟩
    ·have r3:t=n:=by omega
     subst r3;have x8:((t:Int)==(t:Int))=true:=a6R rfl;have z5:=hid (b7I i6.out i7.out f4.out m4.out);clear m4;go_wp2_with fail
     go_roundg (c - (j+1))
     case measure=>omega
     case rel=>exact⟨j+1,G,pc,z,M,P,f,by go_num,rfl,by omega,f4,z5,N⟩
  ·have B9:j=c:=by omega
   subst B9;go_wp2_with fail
   refine l1.mono ?_;rintro e w2 ⟨rfl,rfl⟩;obtain⟨sf,af,nf,cf,df,kf,ef,bF,g5⟩:=N.fac;have Q:=N.res;have z0:=bF.cell 0 rfl;have z1:=bF.cell 1 rfl;have z2:=bF.cell 2 rfl;have g0:=Q.cell 0 rfl;have g1:=Q.cell 1 rfl;have g2:=Q.cell 2 rfl;have h0:=Q.frozen 0;have h1:=Q.frozen 1;have h2:=Q.frozen 2;obtain⟨q1,q2⟩:=Q.set3 (.bool sf) (.slice af nf cf) (.slice df kf ef);have D9:=q1.ext0 (ExtX.refl (Y:=noY) _).drew;have j3:=q2.drew;have r8:QC (mk X _) (.agg #[.bool sf,.slice af nf cf,.slice df kf ef]) f:=QC.mono _ _ _ _ (f8.out _) (QC.mono _ _ _ _ (a0t j3 fun k Z=>b3i g7.out Z) (QC.mono _ _ _ _ (a1h fun k _ Z=>a0m (a0m (a0m Z))) g5));have p8:Ext w _:=ExtX.box N.ext j3 (by rw[o2.out];exact c1B _);have s4:Sl RC 1 (mk X _) A M:=(((N.rows.sl RC.elem).mono RC.mono (a1h fun k _ Z=>a0m (a0m Z))).mono RC.mono (a0t j3 fun k Z=>b3i g7.out Z)).mono RC.mono (f8.out _);have s3:Sl (a0c .i64) 1 (mk X _) G P:=(((N.piv.sl (a0c.elem _)).mono (a0c.mono _) (a1h fun k _ Z=>a0m (a0m Z))).mono (a0c.mono _) (a0t j3 fun k Z=>b3i g7.out Z)).mono (a0c.mono _) (f8.out _);have C6:P.length<=pc:=N.piv.lenCap;clear Q bF N g5 q1 q2 j3;go_wp2_with fail
   go_region
   go_wp2_with fail
   refine bodyPost_ret (a9G (P:=Tryz.prog) (c:=4) (d:=2) (e:=3) rfl rfl a0p D9 rfl) rfl ?_;have B1:∀w9,Ext w w9->Sl RC 1 (mk X w9) A M->Sl (a0c .i64) 1 (mk X w9) G P->QC (mk X w9) (.agg #[.bool sf,.slice af nf cf,.slice df kf ef]) f->b6z X w (rN m j) (.returned (.tuple #[.slice A n L,.slice G z pc,.agg #[.bool sf,.slice af nf cf,.slice df kf ef]])) w9:=fun w9 p8 s4 s3 r8=>by
    rw[i7.out];exact⟨p8,A,L,G,pc,_,by rw[g3.out,f4.out],by rw[g3.out];exact o3,C6,s4,s3,r8⟩
   exact B1 _ p8 s4 s3 r8
end Go.Proofs.YtnnpfhoigmegcaaGreat
namespace Go.Lin
open Go.Lim
noncomputable def a9k(m:Mat)(n:Nat):Rat:=if(rN m n).2.1.length<n then 0 else(rN m n).2.2
theorem b5x{n:Nat}{m:Mat}(e:n<=4)(g:Shp n n m):a9k m n=det n (ent m):=by
 have h:=a5Z g n;obtain⟨d,b,i⟩:=h.re;have c:=b.det_same e;have a:=h.ref.det e;unfold a9k;by_cases f:(rN m n).2.1.length=n
 ·rw[if_pos f]at a
  rw[if_neg (by omega)];rw[a]at c;grind
 ·have:=h.ref.le
  rw[if_neg f]at a;rw[if_pos (by omega)];rw[a]at c;have:=b.ne;grind
theorem b3F{n:Nat}{m:Mat}(a:n<=4)(b:Shp n n m):a9k m n=b9e m n:=by rw[b5x a b,a7N a b]
end Go.Lin
namespace Go.Proofs.YtnnpfhoigmegcaaGreat
open Go.RowKit Go.Rep Go.Lim Go.Lin
def b9D(X:Nat->Bool)(w:World)(S:Mat×List Nat)(e:Ending)(w':World):Prop:=Ext w w'/\∃oo co po pc,e=.returned (.tuple #[.slice oo S.1.length co,.slice po S.2.length pc,.int .i64 0])/\S.1.length<=co/\S.2.length<=pc/\Sl RC 1 (mk X w') oo S.1/\Sl (a0c .i64) 1 (mk X w') po S.2
theorem b5y(X:Nat->Bool)(w:World)(u:Value)(m:List (List Rat))(n c:Nat)(F:HX X w)(A:MV (mk X w) u m)(q:a0y m=true)(i:m.length=n)(b:colsL m=c)(E:a6U m c):Calls Tryz.prog 126 #[u] w (b9D X w ((rN m c).1,(rN m c).2.1)):=by
 obtain⟨k,l,g,_,_⟩:=a0x q;rw[i,b]at k;rw[i]at l;rw[b]at g;have d:=a4f QV.mono X w u m A (by omega);rw[q]at d;have j:=hid (fun B (h:Ext w B)=>a4I X B u m n c (F.ext h) (mkx MV.mono A h) k b (by omega) (by omega) E);obtain⟨S,z⟩:∃S,rN m c=S:=⟨_,rfl⟩;rw[z]at j |-;clear q z;go_enter Tryz.func126,Tryz.ntmps126
 go_wp2_with fail
 refine d.mono ?_;rintro e K ⟨f,rfl⟩;have y:=j.out K f;clear d;go_wp2_with fail
 refine y.mono ?_;rintro e x ⟨o,G,D,I,H,V,rfl,p,r,s,t,v⟩;obtain⟨U,M,R,N,O,Q,P,rfl⟩:=v.shape;have C:=Bx.new x #[.bool false,.slice none 0 0,.slice none 0 0] 41;clear y;go_wp2_with ((with_reducible show wpList _ _ _ (⟨_,.store _ _ _,_,_,_,_⟩::_) _ _);refine a0a a0p rfl rfl C rfl rfl (a1z _ _ _ _ _ _ _) ?_;intro L T J)
 have a:Ext x L:=ExtX.box ((ExtX.refl x).alloc _) J (c1B _);go_ret3
 exact⟨f.trans (o.trans a),G,D,I,H,rfl,p,r,s.mono RC.mono (a0l a),t.mono (a0c.mono _) (a0l a)⟩
theorem b7Y(X:Nat->Bool)(w:World)(u:Value)(m:List (List Rat))(n:Nat)(hX:HX X w)(Y:MV (mk X w) u m)(G:a0y m=true)(r:m.length=n)(p:colsL m=n)(hT:a6U m n):Calls Tryz.prog 214 #[u] w (fun e k=>Ext w k/\∃u,e=.returned (.tuple #[u,.int .i64 0])/\QC (mk X k) u (a9k m n)):=by
 obtain⟨i,E,V,_,_⟩:=a0x G;rw[r,p]at i;rw[r]at E;obtain⟨W,hW,o,b0,hz⟩:=a1e w #[.bool false,.slice none 0 0,.slice none 0 0] 41;have F:HX (a0f X w.heap.size 1) W:=hX.boxes hz;have j:MV (mk (a0f X w.heap.size 1) W) u m:=MV.mono _ _ _ _ (a0j o) Y;have g:=a4f QV.mono _ W u m j (by omega);rw[G]at g;have b:=hid (fun k (h:Ext W k)=>a4n _ k u m (mkx MV.mono j h));rw[p]at b;have s:=hid (fun k (h:Ext W k)=>a4I _ k u m n n (F.ext h) (mkx MV.mono j h) i p (by omega) (by omega) hT);have hdr:Hid (a9k m n=if(rN m n).2.1.length<n then 0 else(rN m n).2.2):=hid rfl;have c:=hid ((a5Z i n).ref.le);obtain⟨S,U⟩:∃S,rN m n=S:=⟨_,rfl⟩;rw[U]at s hdr c;obtain⟨M,P,f⟩:=S
 dsimp only at hdr c
 obtain⟨ua,a3,rfl,Z,J⟩:=Y;rw[r]at g b s |-;have a1:((n:Int) !=(n:Int))=false:=b0v rfl;clear G U i j J;go_enter Tryz.func214,Tryz.ntmps214
 go_wp2_with fail
 refine g.mono ?_;rintro e w1 ⟨a,rfl⟩;have R:=b.out w1 a;clear g;go_wp2_with fail
 refine R.mono ?_;rintro e w2 ⟨rfl,rfl⟩;have T:=s.out w2 a;clear R;go_wp2_with fail
 refine T.mono ?_;rintro e v ⟨l,oo,co,po,pc,uf,rfl,a0,y,H,I,t⟩
 dsimp only at y t |-
 obtain⟨s2,a2,n2,c2,d2,k2,e2,rfl⟩:=t.shape;have Q:=Bx.new v #[.bool false,.slice none 0 0,.slice none 0 0] 41;have O:=b0.ext0 (a.trans l);obtain⟨K,z⟩:∃K,P.length=K:=⟨_,rfl⟩;rw[z]at hdr c |-;clear T H I y z;by_cases x:K<n
 ·have q:Hid (a9k m n=0):=hid (by rw[hdr.out,if_pos x])
  go_wp2_with ((with_reducible show wpList _ _ _ (⟨_,.store _ _ _,_,_,_,_⟩::_) _ _);first|(refine a0a a0p rfl rfl Q rfl rfl (a1z _ _ _ _ _ _ _) ?_;intro N B A;have D:=O.ext0 (ExtX.box ((ExtX.refl v).alloc _) A (c1B _)))|(refine a0a a0p rfl rfl D rfl rfl (a1z _ _ _ _ _ _ _) ?_;intro w5 L C))
  have d:Ext v N:=ExtX.box ((ExtX.refl v).alloc _) A (c1B _);exact bodyPost_ret (a0J rfl rfl a0p L rfl) rfl ⟨ExtX.box (o.trans (a.trans (l.trans d))) C (by omega),_,rfl,by rw[q.out];exact QC.zero _⟩
 ·have q:Hid (a9k m n=f):=hid (by rw[hdr.out,if_neg x])
  go_wp2_with ((with_reducible show wpList _ _ _ (⟨_,.store _ _ _,_,_,_,_⟩::_) _ _);first|(refine a0a a0p rfl rfl Q rfl rfl (a1z _ _ _ _ _ _ _) ?_;intro N B A;have D:=O.ext0 (ExtX.box ((ExtX.refl v).alloc _) A (c1B _));have k0:=B.cell 0 rfl;have k1:=B.cell 1 rfl;have k2:=B.cell 2 rfl)|(refine a0a a0p rfl rfl D rfl rfl (a1z _ _ _ _ _ _ _) ?_;intro w5 L C))
  have d:Ext v N:=ExtX.box ((ExtX.refl v).alloc _) A (c1B _);have h7:=QC.mono _ _ _ _ a0k (QC.mono _ _ _ _ (a0h C (c1B _) (by omega)) (mkx QC.mono t d));exact bodyPost_ret (a0J rfl rfl a0p L rfl) rfl ⟨ExtX.box (o.trans (a.trans (l.trans d))) C (by omega),_,rfl,by rw[q.out];exact h7⟩
end Go.Proofs.YtnnpfhoigmegcaaGreat
namespace Go.Rep
open Go.RowKit Go.Lim
theorem a6H{P:Program}{t e sz a:Nat}{z:Value}{ao:Option Addr}(T:SliceT P t e sz a z)(len cap i:Nat)(g j:IntKind)(h:i<=cap)(w:World):(Instr.sliceAt t (.slice ao len cap) none (some (.int g (i:Int))) (some (.int j (i:Int)))).run P w=.ok (.slice ao i i) w:=by
 obtain⟨ti,d,hz,f,c⟩:=info_parts T.info;have b:(i:Int)<=cap:=by omega
 cases ao<;>simp[Instr.sliceAt,Instr.slice,run_underlying T.und,Instr.sliceBounds,run_sliceBound,b,sizeOf,typeInfo,d,Addr.add_zero']
end Go.Rep
namespace Go.Proofs.YtnnpfhoigmegcaaGreat
open Go.RowKit Go.Rep Go.Lim Go.Lin
theorem a8T:SliceT Tryz.prog 96 4 1 1 (.bool false):=⟨Tryz.underlying96,by kernel_rfl⟩
def b8z(l:List Nat)(v:Nat)(r:Int):Prop:=decide ((0:Int)<=r)=decide (v∈l)
theorem b1F(X:Nat->Bool)(w:World)(ao:Option Addr)(l:List Nat)(j v:Nat)(u:Sl (a0c .i64) 1 (mk X w) ao l)(z:l.length<=1099511627776):Calls Tryz.prog 303 #[.slice ao l.length j,.int .i64 (v:Int)] w (fun e A=>A=w/\∃r:Int,e=.returned (.int .i64 r)/\b8z l v r):=by
 have t:=u.hd;obtain⟨n,o⟩:∃n,l.length=n:=⟨_,rfl⟩;have a:=hid o;rw[o]at z t |-;clear o;go_enter Tryz.func303,Tryz.ntmps303
 go_wp2_with fail
 go_loop [8] (fun c=>∃i:Nat,c=.int .i64 i/\i<=n/\Hid (∀q,q<i->∀hq:q<l.length,l[q]≠v)) (fun c=>n - (intOf c).toNat)
 case atStart=>exact⟨0,rfl,Nat.zero_le _,hid fun q hq=>by omega⟩
 case round=>
  obtain⟨i,rfl,B,b⟩:=hrel;by_cases m:i<n
  ·have k:i<l.length:=by rw[a.out];exact m
   have s:=u.nat i k;have C:∀W,(Instr.indexAt 22 (.slice ao n j) (.int .i64 (i:Int))).run Tryz.prog W=.ok (.pointer (some (adr ao i))) W:=a0z a6a ao n j .i64 i t (by omega) rfl;obtain⟨y,f⟩:∃y,l[i]=y:=⟨_,rfl⟩;rw[f]at s;by_cases g:y=v
   ·have x:((v:Int)==(y:Int))=true:=a6R (by omega)
    have p:b8z l v (i:Int):=(by
     unfold b8z;rw[decide_eq_true (by omega),decide_eq_true (by rw[<-g,<-f];exact c1E _)])
    clear g f;go_wp2_with fail
    go_ret
    exact⟨rfl,_,rfl,p⟩
   ·have x:((v:Int)==(y:Int))=false:=a2J (by omega)
    have d:Hid (∀q,q<i+1->∀hq:q<l.length,l[q]≠v):=hid fun q hq h=>by
     by_cases e:q=i
     ·subst e;rw[f];exact g
     ·exact b.out q (by omega) h
    clear g f;go_wp2_with fail
    go_round
    case rel=>exact⟨i+1,by go_num,by omega,d⟩
    case measure=>simp[intOf];omega
  ·have p:b8z l v (-1):=(by
    unfold b8z;rw[decide_eq_false (by omega),decide_eq_false fun h=>by
     obtain⟨q,hq,e⟩:=List.getElem_of_mem h;exact b.out q (by have:=a.out;omega) hq e])
   go_wp2_with fail
   go_ret
   exact⟨rfl,_,rfl,p⟩
theorem a7Z(X:Nat->Bool)(w:World)(ao:Option Addr)(l:List Nat)(d v:Nat)(i:Sl (a0c .i64) 1 (mk X w) ao l)(g:l.length<=1099511627776):Calls Tryz.prog 253 #[.slice ao l.length d,.int .i64 (v:Int)] w (fun e j=>j=w/\e=.returned (.bool (decide (v∈l)))):=by
 have c:=b1F X w ao l d v i g;obtain⟨b,f⟩:∃b,decide (v∈l)=b:=⟨_,rfl⟩;unfold b8z at c;rw[f]at c |-;clear f;go_enter Tryz.func253,Tryz.ntmps253
 go_wp2_with fail
 refine c.mono ?_;rintro e k ⟨rfl,r,rfl,a⟩;have h:=hid a.symm;clear c a;go_wp2_with fail
 go_ret
 exact⟨rfl,a0o h.out.symm⟩
theorem b1G{X:Nat->Bool}{d a:Option Addr}{w:World}(b:a=d\/∃g,a=some ⟨g,0,none⟩/\w.heap.size<=g):∀k,k<w.heap.size->un X a k=true->un X d k=true:=fun k f h=>by
 rcases b with rfl|⟨g,rfl,e⟩
 ·exact h
 ·by_cases c:X k=true
  ·exact a0m c
  ·exfalso
   have:g=k:=by simpa[un,c,ob]using h
   omega
def b5z(X:Nat->Bool)(w:World)(p:List Nat)(c:Nat)(e:Ending)(w':World):Prop:=Ext w w'/\∃uo uc v,e=.returned (.tuple #[.slice uo c uc,v,.int .i64 0])/\c<=uc/\Sl BlR 1 (mk X w') uo (usedL p c)
theorem b3G(X:Nat->Bool)(w:World)(u:Value)(x:Mat)(n c:Nat)(hX:HX X w)(hu:MV (mk X w) u x)(hf:a0y x=true)(hnx:x.length=n)(hcx:colsL x=c)(hn1:1<=n)(hT:b2e x c)(hbm:BM 68719476736 (a0H x c).1):Calls Tryz.prog 174 #[u] w (b5z X w (a0H x c).2 c):=by
 obtain⟨hsh,h96,hc96,hpos,_⟩:=a0x hf;rw[hnx,hcx]at hsh;rw[hnx]at h96;rw[hcx]at hc96 hpos;have hc1:=hpos (by omega);have hre:=b1y X w u x hX hu hf (by rw[hcx];exact hT);rw[hcx]at hre;obtain⟨hs2,hg,_⟩:=a1a hsh;have hpl:=hg.le;obtain⟨R,hR⟩:∃R,(a0H x c).1=R:=⟨_,rfl⟩;obtain⟨p,hp⟩:∃p,(a0H x c).2=p:=⟨_,rfl⟩;rw[hR]at hs2 hbm;rw[hp]at hpl;rw[hR,hp]at hre;have hfR:a0y R=true:=b2f hs2 h96 hc1 hc96;have hcR:colsL R=c:=a9i hs2 hn1;have htr:=hid fun w' v (h:MC (mk X w') v R) (hX:HX X w')=>a2D X w' v R n c hX (h.mv hbm) hfR hs2.1 hcR;have hts:=hid (a1y R n c);obtain⟨T,hT2⟩:∃T,trL R n c=T:=⟨_,rfl⟩;rw[hT2]at htr hts;rw[hp];obtain⟨pl,hpl2⟩:∃pl,p.length=pl:=⟨_,rfl⟩;have hpl':=hid hpl2;rw[hpl2]at hpl;clear hR hp hfR hcR hT2 hs2 hg hbm hT hsh hu hnx hcx hpl2;go_enter Tryz.func174,Tryz.ntmps174
 go_wp2_with fail
 refine hre.mono ?_;rintro e w1 ⟨hE1,r,v,rfl,hr,po,pc,rfl,hpc,hps⟩;have hX1:=hX.ext hE1;have ht1:=htr.out w1 r hr hX1;rw[hpl'.out]at hpc;obtain⟨ro,rc,rfl,_,_⟩:=hr;clear hre htr;rw[hpl'.out];go_wp2_with fail
 refine ht1.mono ?_;rintro e w2 ⟨hE2,tv,rfl,tvo,tc,rfl,htc,hts2⟩;have hX2:=hX1.ext hE2;have hps2:=hps.mono (a0c.mono _) (a0l hE2);have hE12:=hE1.trans hE2;have htl:=hid hts.out.1;rw[hts.out.1]at htc;have hht:=hts2.hd;rw[htl.out]at hht |-;clear ht1;go_wp2_with fail
 go_loopw [2,3,27] (fun o b k wr=>∃(j:Nat) (oo:Option Addr) (co:Nat) (bo:Option Addr) (cb:Nat) (hs:List Hdr),k=.int .i64 j/\o=.slice oo j co/\b=.slice bo j cb/\j<=c/\OL BlR 1 X w2.heap.size 4 wr oo co (usedL p j)/\hs.length=j/\OL HdR 1 (un X oo) w2.heap.size 26 wr bo cb hs/\Ext w2 wr) (fun _ _ k _=>c - (intOf k).toNat)
 case atStart=>exact⟨0,none,0,none,0,[],rfl,rfl,rfl,Nat.zero_le _,OL.nil _ _ _ _ _ _,rfl,OL.nil _ _ _ _ _ _,ExtX.refl _⟩
 case round=>
  obtain⟨j,oo,co,bo,cb,hs,rfl,rfl,rfl,hj,hO,hhs,hB,hE⟩:=hrel;have hXr:HX X wr:=hX2.ext hE;have hbase:=hE.size;by_cases hlt:j<c
  ·have hjT:j<T.length:=by rw[htl.out];exact hlt
   obtain⟨a1,c1,hX1',hc1',hcl1,hq1⟩:=hts2.row j hjT;have hrl:=hts.out.2 T[j] (c1E _);rw[hrl]at hc1' hcl1;have k00:=hc1'.out noY wr hE rfl;have hco:=a7Z X wr po p pc j (hps2.mono (a0c.mono _) (a0l hE)) (by rw[hpl'.out];omega);rw[hpl'.out]at hco;have hus:=hid (a7q p j);have hul:=hid (a2h p j);obtain⟨bb,hbb⟩:∃bb,decide (j∈p)=bb:=⟨_,rfl⟩;rw[hbb]at hco hus;have hht':=hht;clear hc1' hq1 hrl hbb;have hhs':=hid hhs;have f1:∀W,(Instr.sliceAt 26 (.slice a1 n c1) none (some (.int .i64 (pl:Int))) (some (.int .i64 (pl:Int)))).run Tryz.prog W=.ok (.slice a1 pl pl) W:=a6H a0w n c1 pl .i64 .i64 (by omega);clear hhs;go_wp2_with (with_reducible refine a0v a0r (by omega) (by assumption) ?_)
   refine hco.mono ?_;rintro e w5 ⟨rfl,rfl⟩;clear hco k00;go_wp2_with (first
    |(at_builtin;refine a0s (l:=usedL p j) a8T rfl BlR.elem hbase hXr j hul.out rfl rfl hO (.bool bb) bb rfl rfl (by omega) (by omega) ?_;intro oo2 co2 w7 hO7 hE7 hor;have hB7:=hB.ext HdR.elem (Z:=un X oo2) hE7 (fun k _ hk=>a0u hk) (b1G hor);have hE27:=hE.own hO (c1B _) hE7;have hb7:=hE27.size;have hX7:=hO7.unX (hX2.ext hE27))
    |(at_builtin;refine a0s (l:=hs) a0r rfl HdR.elem hb7 hX7 j hhs'.out rfl rfl hB7 (.slice a1 pl pl) (a1,pl,pl) rfl rfl (by omega) (by omega) ?_;intro bo2 cb2 w8 hB8 hE8 hor2))
   have hO8:=hO7.frame (fun _ _ _ _ h=>h) hE8 (fun k hk=>by
    cases hbk:ob bo k
    ·rfl
    ·have:=(a0P (hB7.1 k hbk)).2;rw[hk]at this;cases this) hO7.1
   have hE28:=hE27.own hB7 (c1B _) hE8;rw[<-hus.out]at hO8;have hl8:(hs++[(a1,pl,pl)]).length=j+1:=by rw[List.length_append,hhs'.out];rfl
   go_roundw
   case rel=>exact⟨j+1,oo2,co2,bo2,cb2,_,by go_num,by go_num,by go_num,by omega,hO8,hl8,hB8,hE28⟩
   case measure=>simp[intOf];omega
  ·have hjc:j=c:=by omega
   subst hjc;have hc:=hO.lenCap;rw[a2h]at hc;have hs:=hO.sl BlR.elem;go_wp2_with fail
   go_ret3
   exact⟨hE12.trans hE,_,_,_,rfl,hc,hs⟩
theorem a9R{p:List Nat}{i j:Nat}(h:i<p.length):decide (j∈p.take (i+1))=(decide (j∈p.take i)||decide (p[i]=j)):=by
 have e:j∈p.take (i+1)↔(j∈p.take i\/p[i]=j):=by
  rw[<-List.take_append_getElem h,List.mem_append,List.mem_singleton];exact or_congr Iff.rfl eq_comm
 rw[<-Bool.decide_or];exact decide_eq_decide.2 e
theorem b1H(X:Nat->Bool)(w:World)(u:Value)(x:Mat)(n c:Nat)(hX:HX X w)(hu:MV (mk X w) u x)(hf:a0y x=true)(hnx:x.length=n)(hcx:colsL x=c)(hn1:1<=n)(hT:a6U x c):Calls Tryz.prog 155 #[u] w (b5z X w (a0H x c).2 c):=by
 obtain⟨hsh,h96,hc96,hpos,_⟩:=a0x hf;rw[hnx,hcx]at hsh;rw[hnx]at h96;rw[hcx]at hc96 hpos;have hc1:=hpos (by omega);have hre:=b5y X w u x n c hX hu hf hnx hcx hT;have hco:=hid fun w' (h:Ext w w')=>a4n X w' u x (mkx MV.mono hu h);rw[hcx]at hco;have hok:=a5Z hsh c;have hs2:=hok.shp;have hpl:=hok.ref.le;rw[(b0j hsh).2];obtain⟨R,hR⟩:∃R,(rN x c).1=R:=⟨_,rfl⟩;obtain⟨p,hp⟩:∃p,(rN x c).2.1=p:=⟨_,rfl⟩;rw[hR]at hs2;rw[hp]at hpl;rw[hR,hp]at hre;rw[hp];obtain⟨pl,hpl2⟩:∃pl,p.length=pl:=⟨_,rfl⟩;have hpl':=hid hpl2;rw[hpl2]at hpl;have hRs:=hid hs2;obtain⟨ua,uca,rfl,huca,hua⟩:=hu;clear hR hp hs2 hT hsh hnx hcx hpl2 hok hf huca hua;go_enter Tryz.func155,Tryz.ntmps155
 go_wp2_with fail
 refine hre.mono ?_;rintro e w1 ⟨hE1,ro,rc,po,pc,rfl,hrc,hpc,hrs,hps⟩;have hX1:=hX.ext hE1
 dsimp only at hrc hpc hrs hps |-
 rw[hpl'.out]at hpc |-;have hRl:=hid hRs.out.1;have hhr:=hrs.hd;have hhp:=hps.hd;rw[hRl.out]at hrc hhr |-;rw[hpl'.out]at hhp;clear hre;go_wp2_with fail
 go_loopw [8,9,10] (fun o b k wr=>∃(j:Nat) (oo:Option Addr) (co:Nat) (bo:Option Addr) (cb:Nat) (hs:List Hdr),k=.int .i64 j/\o=.slice oo j co/\b=.slice bo j cb/\j<=c/\OL BlR 1 X w1.heap.size 4 wr oo co (usedL p j)/\hs.length=j/\OL HdR 1 (un X oo) w1.heap.size 26 wr bo cb hs/\Ext w1 wr) (fun _ _ k _=>c - (intOf k).toNat)
 case atStart=>exact⟨0,none,0,none,0,[],rfl,rfl,rfl,Nat.zero_le _,OL.nil _ _ _ _ _ _,rfl,OL.nil _ _ _ _ _ _,ExtX.refl _⟩
 case round=>
  obtain⟨j,oo,co,bo,cb,hs,rfl,rfl,rfl,hj,hO,hhs,hB,hE⟩:=hrel;have hXr:HX X wr:=hX1.ext hE;have hbase:=hE.size;have hcr:=hco.out wr (hE1.trans hE);by_cases hlt:j<c
  ·have hus:=hid (a7q p j)
   have hul:=hid (a2h p j);have hhs':=hid hhs;clear hhs;have hXu:HX (un X oo) wr:=hO.unX hXr;have hXb:HX (un (un X oo) bo) wr:=hB.unX hXu;go_wp2_with fail
   refine hcr.mono ?_;rintro e w5 ⟨rfl,rfl⟩;clear hcr;obtain⟨wo,hwo⟩:∃wo,wo=w5:=⟨_,rfl⟩;subst hwo;go_wp2_with fail
   go_loopw [11,12,13] (fun o l k wr=>∃(i:Nat) (bb:Bool) (lo:Option Addr) (lc:Nat) (L:List Rat),k=.int .i64 i/\o=.bool bb/\l=.slice lo i lc/\i<=pl/\Hid (bb=decide (j∈p.take i))/\L.length=i/\OL QC 3 (un (un X oo) bo) wo.heap.size 41 wr lo lc L/\Ext wo wr) (fun _ _ k _=>pl - (intOf k).toNat)
   case atStart=>exact⟨0,false,none,0,[],rfl,rfl,rfl,Nat.zero_le _,hid (by simp),rfl,OL.nil _ _ _ _ _ _,ExtX.refl _⟩
   case round=>
    obtain⟨i,bb,lo,lc,L,rfl,rfl,rfl,hi,hbb,hLl,hL,hEi⟩:=hrel;have hXi:HX (un (un X oo) bo) wr:=hXb.ext hEi;have hbi:=hEi.size;by_cases hli:i<pl
    ·have hip:i<p.length:=by rw[hpl'.out];exact hli
     have hiR:i<R.length:=by rw[hRl.out];omega
     have hLl':=hid hLl;have hrl:=hRs.out.2 R[i] (c1E _);have hjr:j<R[i].length:=by rw[hrl];exact hlt
     have k00:=(hps.mono (a0c.mono _) (a0l (hE.trans hEi))).nat i hip;have hEl:Ext w1 wr:=hE.trans hEi;have hrs1:Sl RC 1 (mk (un (un (un X oo) bo) lo) wr) ro R:=hrs.mono RC.mono (a1k hEl (fun k _ hk=>by simp[noY]at hk) fun k hk hz=>by
      by_cases hx:X k=true
      ·exact hx
      ·exfalso
       have e1:ob oo k=false:=hO.ob_lt hk;have e2:ob bo k=false:=hB.ob_lt hk;have e3:ob lo k=false:=hL.ob_lt (c1C hk hE.size);simp[un,hx,e1,e2,e3]at hz)
     obtain⟨a1,c1,hX1',hc1',hcl1,hq1⟩:=hrs1.row i hiR;have k10:=hc1'.out noY wr (ExtX.refl _) rfl;rw[hrl]at k10;have hh1:Hd a1 c:=by have:=hq1.hd;rw[hrl]at this;exact this
     have hbn:=hid (a9R (j:=j) hip);obtain⟨y,hy⟩:∃y,p[i]=y:=⟨_,rfl⟩;rw[hy]at k00 hbn;have ip:∀W,(Instr.indexAt 22 (.slice po pl pc) (.int .i64 (i:Int))).run Tryz.prog W=.ok (.pointer (some (adr po i))) W:=a0z a6a po pl pc .i64 i hhp (by omega) rfl;have ir:∀W,(Instr.indexAt 25 (.slice ro n rc) (.int .i64 (i:Int))).run Tryz.prog W=.ok (.pointer (some (adr ro i))) W:=a0z a0r ro n rc .i64 i hhr (by omega) rfl;have hdl:∀b2,Hid (b2=decide (j∈p.take (i+1)))->∀{lo2:Option Addr} {lc2:Nat} {w9:World},OL QC 3 (un (un X oo) bo) wo.heap.size 41 w9 lo2 lc2 (L++[R[i][j]])->Ext wo w9->∃(i':Nat) (bb:Bool) (lo:Option Addr) (lc:Nat) (L:List Rat),Value.int IntKind.i64 ((i+1:Nat):Int)=.int .i64 i'/\Value.bool b2=.bool bb/\Value.slice lo2 (i+1) lc2=.slice lo i' lc/\i'<=pl/\Hid (bb=decide (j∈p.take i'))/\L.length=i'/\OL QC 3 (un (un X oo) bo) wo.heap.size 41 w9 lo lc L/\Ext wo w9:=fun b2 hb2 lo2 lc2 w9 h1 h2=>⟨i+1,b2,lo2,lc2,_,rfl,rfl,rfl,by omega,hb2,by rw[List.length_append,hLl'.out];rfl,h1,h2⟩;clear hc1' hrl hy hLl;cases bb
     ·by_cases hyj:y=j
      ·have hd:((y:Int)==(j:Int))=true:=a6R (by omega)
       have hb2:Hid (true=decide (j∈p.take (i+1))):=hid (by rw[hbn.out,decide_eq_true hyj,Bool.or_true]);clear hyj;go_wp2_with (first|(with_reducible refine a1I a0w (by omega) (by assumption) ?_)|((with_reducible show wpList _ _ _ (⟨_,.load 41 _,_,_,_,_⟩::_) _ _);refine a0B a0p j hq1 hjr rfl (by simp) QC.agg ?_;intro u5 hu5;obtain⟨s5,a5,n5,c5,d5,m5,e5,rfl⟩:=hu5.shape)|(at_builtin;refine a0s (l:=L) a0w rfl QC.elem hbi hXi i hLl'.out rfl rfl hL (.agg #[.bool s5,.slice a5 n5 c5,.slice d5 m5 e5]) R[i][j] rfl hu5 (by omega) (by omega) ?_;intro lo2 lc2 w7 hL7 hE7 hor))
       go_roundw
       case rel=>exact hdl true hb2 hL7 (hEi.own hL (c1B _) hE7)
       case measure=>simp[intOf];omega
      ·have hd:((y:Int)==(j:Int))=false:=a2J (by omega)
       have hb2:Hid (false=decide (j∈p.take (i+1))):=hid (by rw[hbn.out,decide_eq_false hyj,<-hbb.out];rfl);clear hyj;go_wp2_with (first|(with_reducible refine a1I a0w (by omega) (by assumption) ?_)|((with_reducible show wpList _ _ _ (⟨_,.load 41 _,_,_,_,_⟩::_) _ _);refine a0B a0p j hq1 hjr rfl (by simp) QC.agg ?_;intro u5 hu5;obtain⟨s5,a5,n5,c5,d5,m5,e5,rfl⟩:=hu5.shape)|(at_builtin;refine a0s (l:=L) a0w rfl QC.elem hbi hXi i hLl'.out rfl rfl hL (.agg #[.bool s5,.slice a5 n5 c5,.slice d5 m5 e5]) R[i][j] rfl hu5 (by omega) (by omega) ?_;intro lo2 lc2 w7 hL7 hE7 hor))
       go_roundw
       case rel=>exact hdl false hb2 hL7 (hEi.own hL (c1B _) hE7)
       case measure=>simp[intOf];omega
     ·have hb2:Hid (true=decide (j∈p.take (i+1))):=hid (by rw[hbn.out,<-hbb.out];rfl)
      go_wp2_with (first|(with_reducible refine a1I a0w (by omega) (by assumption) ?_)|((with_reducible show wpList _ _ _ (⟨_,.load 41 _,_,_,_,_⟩::_) _ _);refine a0B a0p j hq1 hjr rfl (by simp) QC.agg ?_;intro u5 hu5;obtain⟨s5,a5,n5,c5,d5,m5,e5,rfl⟩:=hu5.shape)|(at_builtin;refine a0s (l:=L) a0w rfl QC.elem hbi hXi i hLl'.out rfl rfl hL (.agg #[.bool s5,.slice a5 n5 c5,.slice d5 m5 e5]) R[i][j] rfl hu5 (by omega) (by omega) ?_;intro lo2 lc2 w7 hL7 hE7 hor))
      go_roundw
      case rel=>exact hdl true hb2 hL7 (hEi.own hL (c1B _) hE7)
      case measure=>simp[intOf];omega
    ·have hip:i=pl:=by omega
     subst hip;have hbb2:=hid hbb.out;rw[c1D (by rw[hpl'.out];exact c1B _)]at hbb2;have hO2:=hO.ext0 BlR.elem hEi;have hB2:=hB.ext0 HdR.elem hEi;have hE2:=hE.trans hEi;have hX2:=hX1.ext hE2;have hb2:=hE2.size;clear hL hbb;go_wp2_with (first
      |(at_builtin;refine a0s (l:=usedL p j) a8T rfl BlR.elem hb2 hX2 j hul.out rfl rfl hO2 (.bool bb) bb rfl rfl (by omega) (by omega) ?_;intro oo2 co2 w7 hO7 hE7 hor;have hB7:=hB2.ext HdR.elem (Z:=un X oo2) hE7 (fun k _ hk=>a0u hk) (b1G hor);have hE27:=hE2.own hO2 (c1B _) hE7;have hb7:=hE27.size;have hX7:=hO7.unX (hX1.ext hE27))
      |(at_builtin;refine a0s (l:=hs) a0r rfl HdR.elem hb7 hX7 j hhs'.out rfl rfl hB7 (.slice lo i lc) (lo,i,lc) rfl rfl (by omega) (by omega) ?_;intro bo2 cb2 w8 hB8 hE8 hor2))
     have hO8:=hO7.frame (fun _ _ _ _ h=>h) hE8 (fun k hk=>by
      cases hbk:ob bo k
      ·rfl
      ·have:=(a0P (hB7.1 k hbk)).2;rw[hk]at this;cases this) hO7.1
     have hE28:=hE27.own hB7 (c1B _) hE8;rw[hbb2.out,<-hus.out]at hO8;have hl8:(hs++[(lo,i,lc)]).length=j+1:=by rw[List.length_append,hhs'.out];rfl
     go_roundw
     case rel=>exact⟨j+1,oo2,co2,bo2,cb2,_,by go_num,by go_num,by go_num,by omega,hO8,hl8,hB8,hE28⟩
     case measure=>simp[intOf];omega
  ·have hjc:j=c:=by omega
   subst hjc;have hc:=hO.lenCap;rw[a2h]at hc;have hs:=hO.sl BlR.elem;go_wp2_with fail
   refine hcr.mono ?_;rintro e w5 ⟨rfl,rfl⟩;go_wp2_with fail
   go_ret3
   exact⟨hE1.trans hE,_,_,_,rfl,hc,hs⟩
end Go.Proofs.YtnnpfhoigmegcaaGreat
