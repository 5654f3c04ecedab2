/- Parts of a proof: each theorem states what it proves, and its conditions. -/
import Derived.Test.YtnnpfhoigmegcaaGreatItO
set_option maxRecDepth 100000
set_option maxHeartbeats 3200000
theorem zA{α:Sort _}(a:α):∃x,a=x:=⟨a,rfl⟩
namespace Go.Proofs.YtnnpfhoigmegcaaGreat
open Go.RowKit Go.Rep Go.Lim
def b3Z(X:Nat->Bool)(tb:Nat)(n k:Nat)(w:World)(e:Ending)(w':World):Prop:=ExtX (tbm tb) w w'/\a0V X tb w'/\∃(vx vy:Value) (p:List (List Rat)) (y:List Rat) (d:Nat),e=.returned (.tuple #[vx,vy])/\MV (mk X w') vx p/\RV (mk X w') vy y/\1<=p.length/\p.length<=n/\1<=d/\d<=k/\(∀r∈p,r.length=d)/\y.length=p.length/\BM 2 p/\BR 4 y
def c0e(X:Nat->Bool)(oo:Option Addr)(tb d:Nat)(w:World)(v:Value)(w':World):Prop:=∃(po:Option Addr) (p:List Rat) (pc:Nat),v=.slice po d pc/\p.length=d/\BR 2 p/\a0V (un (un X oo) po) tb w'/\OL QC 3 (un X oo) w.heap.size 41 w' po pc p/\ExtX (tbm tb) w w'
theorem c0W{h:Mem}{ao:Option Addr}{l:List (List Rat)}(s:Sl RC 1 h ao l)(d:BM 68719476736 l):Sl RV 1 h ao l:=
 ⟨s.1,fun i e=>let ⟨u,a,b,c⟩:=s.2 i e;⟨u,a,b,RC.rv c (d _ (c1E _))⟩⟩
def twN(y:List Rat)(p:List (List Rat))(j:Nat):List Rat:=(List.range y.length).map fun i=>if i<j then 2*(p.getD i []).getD 0 0 else y.getD i 0
theorem a9Z(y:List Rat)(p:List (List Rat))(j:Nat):(twN y p j).length=y.length:=by simp[twN]
theorem b5V(y:List Rat)(p:List (List Rat)):y=twN y p 0:=by
 refine List.ext_getElem (by simp[twN]) fun i a b=>?_;simp[twN,List.getD_eq_getElem?_getD,a]
theorem b8o(y:List Rat)(p:List (List Rat))(j:Nat):(twN y p j).set j (2*(p.getD j []).getD 0 0)=twN y p (j+1):=by
 refine List.ext_getElem (by simp[twN]) fun i a b=>?_;rw[List.getElem_set];simp only[twN,List.getElem_map,List.getElem_range];split
 ·subst_vars;simp
 ·by_cases h:i<j
  ·simp[h,show i<j+1 by omega]
  ·simp[h,show¬i<j+1 by omega]
theorem c0f{x:Rat}{B:Nat}(c:hq x<=B):hq (2*x)<=B+2:=by
 have a:=hq_mul 2 x;have b:hq (2:Rat)<=1:=a4t 2 1 (lgI (by omega) (by omega)) (by omega);omega
theorem c0g{y:List Rat}{p:List (List Rat)}(e:BR 2 y)(d:BM 2 p)(j:Nat):BR 4 (twN y p j):=by
 intro q a;unfold twN at a;obtain⟨i,b,rfl⟩:=List.mem_map.1 a;have b:=List.mem_range.1 b;split
 ·refine c0f ?_
  by_cases h:i<p.length
  ·rw[show p.getD i []=p[i]by simp[List.getD_eq_getElem?_getD,h]]
   by_cases c:0<p[i].length
   ·rw[show p[i].getD 0 0=p[i][0]by simp[List.getD_eq_getElem?_getD,c]]
    exact d _ (c1E _) _ (c1E _)
   ·rw[show p[i].getD 0 0=0 by simp[List.getD_eq_getElem?_getD,List.getElem?_eq_none (show p[i].length<=0 by omega)],a0X];decide
  ·rw[show p.getD i []= []by simp[List.getD_eq_getElem?_getD,List.getElem?_eq_none (show p.length<=i by omega)],show([]:List Rat).getD 0 0=0 from rfl,a0X];decide
 ·rw[show y.getD i 0=y[i]by simp[List.getD_eq_getElem?_getD,b]]
  exact c1A (e _ (c1E _)) (by decide)
theorem b0a(X:Nat->Bool)(A n k:Nat)(w:World)(ht:a0V X A w)(hX:HX X w)(q3:1<=n)(hn:n<=8)(p7:1<=k)(E:k<=8):Calls Tryz.prog 15 #[.pointer (some ⟨A,0,none⟩),.int .i64 (n:Int),.int .i64 (k:Int)] w (b3Z X A n k w):=by
 have D:=a6D ht.1;have G:=ht.1;go_enter Tryz.func15,Tryz.ntmps15
 go_wp2_with fail
 refine(a2z X A k w ht (by omega)).mono ?_;rintro e w1 ⟨i6,k9,m,rfl,hm⟩;have m7:(1+(m:Int))=((m+1:Nat):Int):=by omega
 have j7:m+1<=k:=by omega
 obtain⟨d,hd⟩:=zA (m+1);have m8:1<=d:=by omega
 rw[hd]at m7 j7;clear hd hm;go_wp2_with fail
 refine(a6E X A 2 w1 k9 (by decide) (by decide)).mono ?_;rintro e w2 ⟨t,u,l7,rfl⟩;go_wp2_with fail
 refine(a2z X A n w2 u (by omega)).mono ?_;rintro e w3 ⟨a5,a9,m2,rfl,n5⟩;have l9:(1+(m2:Int))=((m2+1:Nat):Int):=by omega
 have m0:m2+1<=n:=by omega
 obtain⟨N,hN⟩:=zA (m2+1);have p2:1<=N:=by omega
 rw[hN]at l9 m0;have f9:=(i6.trans t).trans a5;have m5:=hX.ext f9;clear hN n5 i6 t a5 k9 u ht;go_wp2_with fail
 go_loopw [9,10] (fun s c wr=>∃(i j:Nat) (f:Option Addr) (co:Nat) (l:List (List Rat)),c=.int .i64 i/\s=.slice f j co/\l.length=j/\i+j=N/\(∀r∈l,r.length=d)/\BM 2 l/\OL RC 1 X w.heap.size 26 wr f co l/\a0V (un X f) A wr/\ExtX (tbm A) w wr) (fun _ c _=>(intOf c).toNat)
 case atStart=>exact⟨N,0,none,0,[],rfl,rfl,rfl,rfl,by simp,fun r M=>by simp at M,OL.nil _ _ _ _ _ _,by rw[show un X none=X by funext k;simp[un,ob]];exact a9,f9⟩
 case round=>
  clear f9 a9 m5;obtain⟨i,j,f,co,l,rfl,rfl,a8,n4,e2,d3,hO,l2,hE⟩:=hrel;have m6:HX X wr:=hX.ext hE;have b8:HX (un X f) wr:=hO.unX m6;have C:=hid a8;have a2:=hid e2;have J:=hid d3;by_cases c3:0<i
  ·obtain⟨i,rfl⟩:∃j,i=j+1:=⟨i - 1,by omega⟩
   obtain⟨wo,h7⟩:∃wo,wo=wr:=⟨_,rfl⟩;subst h7;clear a8 e2 d3;go_upto_region 7 with fail
   go_cut [11]from 28 to 30 (fun v wx=>c0e X f A d wo v wx)
   case first=>
    go_wp2_with fail
    refine(b1e (un X f) A d wo l2 b8 (by omega)).mono ?_;rintro e w2 ⟨t,I,p,pc,rfl,B,U,L,u,T⟩;go_wp2_with fail
    all_goals go_meet
    all_goals case rel=>exact⟨I,p,pc,rfl,B,L,u,T,t⟩
   case rest=>
   obtain⟨I,p,pc,rfl,B,L,u,T,t⟩:=hcut
   go_step
   go_step
   go_cut [11]from 31 to 45 (fun v wx=>c0e X f A d wo v wx)
   case first=>
    by_cases p6:0<j
    ·go_wp2_with fail
     refine(a6E (un (un X f) I) A 6 wc u (by decide) (by decide)).mono ?_;rintro e w4 ⟨f7,h2,b2,rfl⟩;have j1:=T.ext QC.elem f7 (fun k _ E=>a0m (D k E)) (fun _ _ h=>h);have b3:=t.trans f7;cases b2
     ·go_wp2_with fail
      all_goals go_meet
      all_goals case rel=>exact⟨I,p,pc,rfl,B,L,h2,j1,b3⟩
     ·go_wp2_with fail
      refine(a2z (un (un X f) I) A j w4 h2 (by omega)).mono ?_;rintro e w5 ⟨i8,l0,m4,rfl,p8⟩;have Y:=b3.trans i8;have e9:m4<l.length:=by rw[C.out];omega
      have g0:=hO.ext RC.elem Y (fun k _ E=>D k E) (fun _ _ h=>h);have j2:=b8.ext Y;obtain⟨u4,j5,_,o0⟩:=g0.cell SlV.one m4 e9;obtain⟨a4,c4,rfl,e8,k8⟩:=o0;have c2:=g0.hd;rw[C.out]at c2;have F:=a2.out l[m4] (c1E _);have e0:=J.out l[m4] (c1E _);obtain⟨r,M⟩:=zA (l[m4]);rw[M]at j5 e8 k8 F e0;have f4:=hid F;rw[F]at j5 e8;have p0:m4<j:=by omega
      have l1:a0V (un X f) A w5:=l0.unX (a0m G);have k5:=Y.size;clear M F e9 j1 T g0 l0 h2 u f7 i8 b3 t;go_wp2_with (first|(with_reducible refine a0v a0r (by omega) (by assumption) ?_)|(at_builtin;refine b1X a0w rfl QC.elem w5.heap.size (c1B _) j2 r d f4.out rfl rfl k8 (by omega) (by omega) ?_;intro o9 o8 w6 j0 p5 i9))
      have o2:=l1.old i9 (fun j hj=>j0.ob_lt hj);have i7:=Y.trans (ExtX.of i9)
      all_goals go_meet
      all_goals case rel=>exact⟨o9,r,o8,rfl,f4.out,e0,o2,j0.base_le k5,i7⟩
    ·go_wp2_with fail
     all_goals go_meet
     all_goals case rel=>exact⟨I,p,pc,rfl,B,L,u,T,t⟩
   case rest=>
   clear B L u T t;obtain⟨I,p,pc,rfl,B,L,u,T,t⟩:=hcut;obtain⟨wq,o4⟩:∃wq,wq=wc:=⟨_,rfl⟩;subst o4;have g4:HX (un (un X f) I) wq:=T.unX (b8.ext t);have n8:ob I A=false:=T.not_ob (a0m G);cases l7
   ·have S:=hO.ext RC.elem t (fun k _ E=>D k E) (fun _ _ h=>h)
    have h4:a0V (un X f) A wq:=u.unX (a0m G);have R:=hE.trans t;have g3:=hX.ext R;have U:=T.lenCap;have g2:RC (mk (un X f) wq) (.slice I d pc) p:=⟨I,pc,by rw[B],U,T.sl QC.elem⟩;have c5:=hid B;have g5:=R.size;clear B U T u g4;go_wp2_with (at_builtin;refine a0s (l:=l) a0r rfl RC.elem g5 g3 j C.out rfl rfl S (.slice I d pc) p rfl g2 (by omega) (by omega) ?_;intro i0 f5 w7 b7 b4 g7)
    have d4:=R.own S (c1B _) b4;have h3:=h4.unstep (S.not_ob G) b4 g7;have g6:(l++[p]).length=j+1:=by rw[List.length_append,C.out];rfl
    have g9:∀r∈l++[p],r.length=d:=fun r M=>by
     rcases List.mem_append.1 M with h|h
     ·exact a2.out r h
     ·rw[List.mem_singleton.1 h];exact c5.out
    have f6:BM 2 (l++[p]):=fun r M=>by
     rcases List.mem_append.1 M with h|h
     ·exact J.out r h
     ·rw[List.mem_singleton.1 h];exact L
    go_roundw
    case rel=>exact⟨i,j+1,i0,f5,_,by go_num,by go_num,g6,by omega,g9,f6,b7,h3,d4⟩
    case measure=>simp[intOf]
   ·have h0:0<p.length:=by omega
    have n0:Hd I d:=by have:=T.hd;rw[B]at this;exact this
    obtain⟨g,o,hg⟩:∃g o,adr I (0*3)=⟨g,o,none⟩:=⟨_,_,rfl⟩;have i1:∀W,(Instr.indexAt 26 (.slice I d pc) (.int .i64 0)).run Tryz.prog W=.ok (.pointer (some ⟨g,o,none⟩)) W:=by rw[<-hg];exact a0d a0w I d pc .i64 0 n0 (by omega)
    have c0:=hid hg;have k2:=hid B;clear hg B;go_wp2_with fail
    refine(a3m (un (un X f) I) wq 1 g4 (by decide) (by decide)).mono ?_;rintro e w6 ⟨t1,u6,rfl,b0⟩;obtain⟨s6,a6,n6,c6,d6,k6,e6,rfl⟩:=b0.shape;have d8:=T.ext0 QC.elem t1;obtain⟨_,v0,v1,v2,_,⟨q0,f0⟩,⟨q1,f1⟩,⟨q2,f2⟩,_⟩:=d8.cell3 0 h0 c0.out;have d0:=d8.set3 (P:=Tryz.prog) a3A QC.elem 0 h0 c0.out (v0:= .bool s6) (v1:= .slice a6 n6 c6) (v2:= .slice d6 k6 e6) (x:=((1:Int):Rat)) b0;go_upto_region 12 with fail
    obtain⟨r1,r2⟩:=d0;obtain⟨w7,l4⟩:=zA ((((w6.setCell ⟨g,o,none⟩ (.bool s6)).setCell ⟨g,o+1,none⟩ (.slice a6 n6 c6)).setCell ⟨g,o+2,none⟩ (.slice d6 k6 e6)));rw[l4]at r1 r2 |-;have b4:=(t.then_ t1 (fun _ _ _=>rfl)).own d8 (c1B _) r2;have S:=hO.ext RC.elem b4 (fun k _ E=>D k E) (fun _ _ h=>h);have h4:a0V (un X f) A w7:=((u.ext t1).extY r2 (fun _ E=>a0u E) n8).unX (a0m G);have R:=hE.trans b4;have g3:=hX.ext R;have H:(p.set 0 ((1:Int):Rat)).length=d:=by rw[List.length_set];exact k2.out
    have f3:BR 2 (p.set 0 ((1:Int):Rat)):=fun q n9=>by
     rcases List.mem_or_eq_of_mem_set n9 with h|rfl
     ·exact L q h
     ·exact c1A (a4t 1 1 (lgI (by omega) (by omega)) (by omega)) (by decide)
    have U:=r1.lenCap;rw[H]at U;obtain⟨r,M⟩:=zA (p.set 0 ((1:Int):Rat));rw[M]at r1 H f3;have g2:RC (mk (un X f) w7) (.slice I d pc) r:=⟨I,pc,by rw[H],by rw[H];exact U,r1.sl QC.elem⟩;have c5:=hid H;have g5:=R.size;clear M H U T u g4 d8 r1 r2 l4 q0 f0 q1 f1 q2 f2 i1 b0;go_wp2_with (at_builtin;refine a0s (l:=l) a0r rfl RC.elem g5 g3 j C.out rfl rfl S (.slice I d pc) r rfl g2 (by omega) (by omega) ?_;intro i0 f5 w8 m1 d4 g7)
    have f8:=R.own S (c1B _) d4;have h3:=h4.unstep (S.not_ob G) d4 g7;have g6:(l++[r]).length=j+1:=by rw[List.length_append,C.out];rfl
    have g9:∀x∈l++[r],x.length=d:=fun x M=>by
     rcases List.mem_append.1 M with h|h
     ·exact a2.out x h
     ·rw[List.mem_singleton.1 h];exact c5.out
    have f6:BM 2 (l++[r]):=fun x M=>by
     rcases List.mem_append.1 M with h|h
     ·exact J.out x h
     ·rw[List.mem_singleton.1 h];exact f3
    go_roundw
    case rel=>exact⟨i,j+1,i0,f5,_,by go_num,by go_num,g6,by omega,g9,f6,m1,h3,f8⟩
    case measure=>simp[intOf]
  ·have n3:i=0:=by omega
   subst n3;obtain rfl:j=N:=by omega
   clear n4;have p3:=hO.sl RC.elem;have c2:=hO.hd;rw[a8]at c2;obtain⟨wo,h7⟩:∃wo,wo=wr:=⟨_,rfl⟩;subst h7;have b9:=hid (fun(wz:World) (vy:Value) (y:List Rat) (d5:ExtX (tbm A) wo wz) (h5:a0V X A wz) (hy:RV (mk X wz) vy y) (e4:y.length=j) (e3:BR 4 y)=>(⟨hE.trans d5,h5,.slice f j co,vy,l,y,d,rfl,⟨f,co,by rw[a8],hO.lenCap,c0W ((hO.ext RC.elem d5 (fun k _ E=>D k E) (fun _ _ h=>h)).sl RC.elem) (fun r M q hq=>c1A (d3 r M q hq) (by decide))⟩,hy,by omega,by omega,m8,j7,e2,by rw[e4,a8],d3,e3⟩:b3Z X A n k w (.returned (.tuple #[.slice f j co,vy])) wz));clear a8 e2 c3;go_wp2_with fail
   refine(b1e (un X f) A j wo l2 b8 (by omega)).mono ?_;rintro e w2 ⟨t,O,y,yc,rfl,e4,o6,e3,u,hY⟩;go_wp2_with fail
   refine(a6E (un (un X f) O) A 5 w2 u (by decide) (by decide)).mono ?_;rintro e w3 ⟨a5,a9,b,rfl⟩;have d9:=hY.ext QC.elem a5 (fun k _ E=>a0m (D k E)) (fun _ _ h=>h);have b1:=t.trans a5;have a0:=hid (fun(wz:World) (z:List Rat) (d5:ExtX (tbm A) wo wz) (h5:a0V (un (un X f) O) A wz) (hz:OL QC 3 (un X f) wo.heap.size 41 wz O yc z) (h9:z.length=j) (l6:BR 4 z)=>b9.out wz (.slice O j yc) z d5 ((h5.unX (a0m G)).unX G) ⟨O,yc,by rw[h9],by rw[h9];exact o6,((hz.sl QC.elem).mono QC.mono (a1h fun k _ E=>a0m E)).qv fun q hq=>c1A (l6 q hq) (by decide)⟩ h9 l6);have a3:=hid e4;clear hY u t a5 e4;cases b
   ·have hf:=hid (a0.out w3 y b1 a9 d9 a3.out (fun q hq=>c1A (e3 q hq) (by decide)))
    clear b9 a0;go_wp2_with fail
    go_ret2
    exact hf.out
   ·rw[b5V y l]at d9
    clear b9;have k0:ob f A=false:=hO.not_ob G;obtain⟨fr,hf⟩:=hO.rowsF;have k4:=hid hf;clear hf;go_wp2_with fail
    go_loopw [62] (fun cc wx=>∃q:Nat,cc=.int .i64 q/\q<=j/\OL QC 3 (un X f) wo.heap.size 41 wx O yc (twN y l q)/\a0V (un (un X f) O) A wx/\ExtX (tbm A) wo wx) (fun cc _=>j - (intOf cc).toNat)
    case atStart=>exact⟨0,rfl,Nat.zero_le _,d9,a9,b1⟩
    case round=>
     clear d9 a9 b1;obtain⟨q,rfl,p1,hY,l3,b5⟩:=hrel;by_cases c3:q<j
     ·have c8:q<l.length:=by rw[C.out];exact c3
      have k3:q<(twN y l q).length:=by rw[a9Z,a3.out];exact c3
      have h1:=(k4.out q c8).1;have F:=hid (a2.out _ (c1E c8));have e0:=hid (J.out _ (c1E c8));rw[F.out]at h1;have c9:=(k4.out q c8).2.2.mono QC.mono (a1k (Z:=un (un X f) O) b5 (fun k _ E=>a0m (D k E)) (fun k E hz=>by simpa[un,hY.ob_lt E]using hz));have l5:Hid ((l.getD q []).getD 0 0=l[q][0]'(by rw[F.out];omega)):=hid (by
       have:0<l[q].length:=by rw[F.out];omega
       simp[List.getD_eq_getElem?_getD,c8,this])
      have V:=hid (b8o y l q);have d2:0<l[q].length:=by rw[F.out];omega
      rw[l5.out]at V;have h8:Hid (hq (l[q][0]'d2)<=2):=hid (e0.out _ (c1E d2));obtain⟨⟨aa,ac⟩,j8⟩:∃z,fr q=z:=⟨_,rfl⟩;rw[j8]at h1 c9
      dsimp only at h1 c9
      obtain⟨g1,o1,s1,a1,n1,c1,d1,k1,e1,j9,p4,j4,g8⟩:=c9.rat QC.shaped 0 d2;obtain⟨x,hx⟩:=zA (l[q][0]'d2);rw[hx]at V h8 g8;have m9:Hd aa d:=by have:=c9.hd;rw[F.out]at this;exact this
      have j6:=(b5.cellY h1 (a5W (c0d c2 (by omega) k0)));have Q:Ext wr wr.drew:=(ExtX.refl wr).drew;have hZ:HX (un (un X f) O) wr:=hY.unX (b8.ext b5);have j3:HX (un (un X f) O) wr.drew:=hZ.ext Q;have o5:=mkx QV.mono (g8.qv (c1A h8.out (by decide))) Q;have i5:Hid (hq (((2:Int):Rat))<=1):=hid (a4t 2 1 (lgI (by omega) (by omega)) (by omega));have l8:Hid (((2:Int):Rat)=2):=hid rfl;have p9:Hid (hq (((2:Int):Rat)*x)<=68719476736):=hid (by
       have:=hq_mul (((2:Int):Rat)) x;have:=i5.out;have:=h8.out;omega)
      have hS:Hid (∀w',Ext wr.drew w'->w'.cell? (adr f q)=some (.slice aa d ac)/\w'.cell? ⟨g1,o1,none⟩=some (.bool s1)/\w'.cell? ⟨g1,o1+1,none⟩=some (.slice a1 n1 c1)/\w'.cell? ⟨g1,o1+2,none⟩=some (.slice d1 k1 e1)):=hid fun w' h=>⟨(Q.trans h).cell j6,j4.out noY w' (Q.trans h) rfl⟩;have m3:=hY.ext0 QC.elem Q;obtain⟨g,o,hg⟩:∃g o,adr O (q*3)=⟨g,o,none⟩:=⟨_,_,rfl⟩;have n2:Hd O j:=by have:=hY.hd;rw[a9Z,a3.out]at this;exact this
      have i1:∀W,(Instr.indexAt 25 (.slice f j co) (.int .i64 (q:Int))).run Tryz.prog W=.ok (.pointer (some (adr f q))) W:=a0z a0r f j co .i64 q c2 c3 rfl;have i2:∀W,(Instr.indexAt 26 (.slice aa d ac) (.int .i64 0)).run Tryz.prog W=.ok (.pointer (some ⟨g1,o1,none⟩)) W:=by rw[<-j9];exact a0d a0w aa d ac .i64 0 m9 (by omega)
      have i3:∀W,(Instr.indexAt 26 (.slice O j yc) (.int .i64 (q:Int))).run Tryz.prog W=.ok (.pointer (some ⟨g,o,none⟩)) W:=by rw[<-hg];exact a0d a0w O j yc .i64 q n2 (by omega)
      have c0:=hid hg;have o7:ob O A=false:=hY.not_ob (a0m G);clear hx j8 h1 c9 l5 j6 j4 g8 hg j9 hY hZ;go_wp2_with fail
      refine a0n 11 (fun w'=>w'.cell? (adr f q)=some (.slice aa d ac)/\w'.cell? ⟨g1,o1,none⟩=some (.bool s1)/\w'.cell? ⟨g1,o1+1,none⟩=some (.slice a1 n1 c1)/\w'.cell? ⟨g1,o1+2,none⟩=some (.slice d1 k1 e1)) (by kernel_rfl) (by kernel_rfl) (hS.out _ (ExtX.refl _)) (fun b6 a=>?_);refine kt 0 a ?_;refine kt 1 a ?_;refine kt 3 a ?_;refine kt 4 a ?_;refine kt 5 a ?_;refine kt 6 a ?_;refine kt 7 a ?_;refine kt 8 a ?_;refine ks 2 (fun K hK=>?_);go_simp
      ((with_reducible refine(a3m (un (un X f) O) wr.drew 2 j3 (by decide) (by decide)).mono ?_);rintro ee w6 ⟨t1,u6,rfl,b0⟩;obtain⟨s6,a6,n6,c6,d6,k6,e6,rfl⟩:=b0.shape)
      refine kcn hK (hS.out _ t1) (fun b6=>?_);clear hK K;refine ks 9 (fun K hK=>?_);go_simp
      ((with_reducible refine(a9x (un (un X f) O) w6 _ _ ((2:Int):Rat) x (j3.ext t1) (b0.qv (c1A i5.out (by decide))) (mkx QV.mono o5 t1)).mono ?_);rintro ee w7 ⟨t2,u7,rfl,h6⟩;obtain⟨s7,a7,n7,c7,d7,k7,e7,rfl⟩:=h6.shape)
      refine kcn hK (hS.out _ (t1.trans t2)) (fun b6=>?_);clear hK K;have i4:=t1.trans t2;have b7:=m3.ext0 QC.elem i4;obtain⟨_,v0,v1,v2,_,⟨q0,f0⟩,⟨q1,f1⟩,⟨q2,f2⟩,_⟩:=b7.cell3 q k3 c0.out;rw[l8.out]at h6;have d0:=b7.set3 (P:=Tryz.prog) a3A QC.elem q k3 c0.out (v0:= .bool s7) (v1:= .slice a7 n7 c7) (v2:= .slice d7 k7 e7) (x:=2*x) h6;refine kt 10 a ?_;refine kl 11 (fun K hK=>?_);go_simp
      refine hK.out _ _ ?_;clear hK K;obtain⟨r1,r2⟩:=d0;rw[V.out]at r1;have f8:=(b5.then_ (Q.trans i4) (fun _ _ _=>rfl)).own b7 (c1B _) r2;have o3:=(l3.ext (Q.trans i4)).extY r2 (fun _ E=>a0u E) o7;clear i1 i2 i3 q0 q1 q2 f0 f1 f2;go_wp2_with fail
      go_roundw
      case rel=>exact⟨q+1,by go_num,by omega,r1,o3,f8⟩
      case measure=>simp[intOf];omega
     ·have q4:q=j:=by omega
      have hf:=hid (a0.out wr _ b5 l3 hY (by rw[a9Z];exact a3.out) (c0g e3 J.out q));clear a0;go_wp2_with fail
      go_ret2
      exact hf.out
open Go.Lin
theorem b4a(X:Nat->Bool)(w:World)(u:Value)(S:Option Addr)(uc:Nat)(x:Mat)(p:List Nat)(n c:Nat)(hX:HX X w)(hu:MV (mk X w) u x)(R:Sl BlR 1 (mk X w) S (usedL p c))(s:Shp n c x)(hn:n<=96)(hc:c<=96)(hp:p.Pairwise (· < ·))(b6:∀j∈p,j<c):Calls Tryz.prog 156 #[u,.slice S c uc] w (a1S X w MC (pkL x p)):=by
 obtain⟨M,hM⟩:=zA (pkL x p);have J:Hid (M.length=n):=hid (by rw[<-hM,a7R];exact s.1);have a0:Hid (∀i (h1:i<x.length) (h:i<M.length),pkR x[i] (usedL p c) c=M[i]):=hid fun i h1 h=>by subst hM;rw[b3N hp b6];simp[pkL]
 obtain⟨e,t⟩:=zA (usedL p c);have E:Hid (e.length=c):=hid (by rw[<-t];exact a2h p c);obtain⟨ua,f9,rfl,c7,c4⟩:=hu;have d9:=c4.hd;have f1:=hid s.1;have e8:=hid s.2;rw[t]at a0 R;have a9:=R.hd;rw[E.out]at a9;rw[s.1]at d9 c7 |-;rw[hM];clear hM t s hp b6;go_enter Tryz.func156,Tryz.ntmps156
 go_wp2_with fail
 go_loopw [5,6] (fun ov iv wr=>∃(i:Nat) (m:Option Addr) (co:Nat),iv=.int .i64 i/\ov=.slice m i co/\i<=n/\OL RC 1 X w.heap.size 26 wr m co (M.take i)/\Ext w wr) (fun _ iv _=>n - (intOf iv).toNat)
 case atStart=>exact⟨0,none,0,rfl,rfl,Nat.zero_le _,OL.nil _ _ _ _ _ _,ExtX.refl _⟩
 case round=>
  obtain⟨i,m,co,rfl,rfl,hi,K,G⟩:=hrel;have a7:HX X wr:=hX.ext G;have d3:HX (un X m) wr:=K.unX a7;have d7:=G.size;by_cases b5:i<n
  ·have b1:i<x.length:=by rw[f1.out];exact b5
   have b0:i<M.length:=by rw[J.out];exact b5
   have c2:=hid (a0L M i b0);have e2:=hid (a0Q (l:=M) (i:=i) (by omega));have c0:Sl RV 1 (mk (un X m) wr) ua x:=c4.old RV.mono G (fun j hj=>K.ob_lt hj);obtain⟨a1,c1,f5,O,D,Q⟩:=c0.row i b1;have c8:Sl BlR 1 (mk (un X m) wr) S e:=R.old BlR.mono G (fun j hj=>K.ob_lt hj);have o:=e8.out x[i] (c1E _);have f:=a0.out i b1 b0;obtain⟨r,hr⟩:=zA (x[i]);rw[hr]at O D Q o f;have b8:=hid o;rw[o]at O D;have f7:Hd a1 c:=by have:=Q.hd;rw[o]at this;exact this
   obtain⟨Mi,C⟩:=zA (M[i]);rw[C]at c2 f;have a2:=hid f;clear o hr f C c0;obtain⟨wo,f0⟩:∃wo,wo=wr:=⟨_,rfl⟩;subst f0;go_wp2_with fail
   go_loopw [7,8] (fun rv jv wx=>∃(j:Nat) (y:Option Addr) (F q:Nat),jv=.int .i64 j/\rv=.slice y q F/\j<=c/\q<=j/\Hid ((pkR r e j).length=q)/\OL QC 3 (un X m) wo.heap.size 41 wx y F (pkR r e j)/\Ext wo wx) (fun _ jv _=>c - (intOf jv).toNat)
   case atStart=>exact⟨0,none,0,0,rfl,rfl,Nat.zero_le _,c1B _,hid rfl,OL.nil _ _ _ _ _ _,ExtX.refl _⟩
   case round=>
    obtain⟨j,y,F,q,rfl,rfl,hj,f8,d,A,a⟩:=hrel;have a8:HX (un X m) wr:=d3.ext a;have d4:HX (un (un X m) y) wr:=A.unX a8;by_cases b4:j<c
    ·have b2:j<r.length:=by rw[b8.out];exact b4
     have b3:j<e.length:=by rw[E.out];exact b4
     have f6:=a.size;have e7:Sl QV 3 (mk (un (un X m) y) wr) a1 r:=Q.old QV.mono a (fun k hk=>A.ob_lt hk);have kb:=a1V ((c8.mono BlR.mono (a0l a)).bl j b3);have f2:=O.out noY wr a rfl;have P:Hid (e.getD j false=e[j]):=hid (by simp[List.getD_eq_getElem?_getD,b3]);have d8:Hid (r.getD j 0=r[j]):=hid (by simp[List.getD_eq_getElem?_getD,b2]);obtain⟨b,hb⟩:=zA (e[j]);rw[hb]at kb P;have iu:∀W,(Instr.indexAt 96 (.slice S c uc) (.int .i64 (j:Int))).run Tryz.prog W=.ok (.pointer (some (adr S j))) W:=a0z a8T S c uc .i64 j a9 (by omega) rfl;clear hb;cases b
     ·have e3:Hid (pkR r e (j+1)=pkR r e j):=hid (b6B P.out)
      go_wp2_with fail
      rw[<-e3.out]at A d;go_roundw
      case rel=>exact⟨j+1,y,F,q,by go_num,rfl,by omega,by omega,d,A,a⟩
      case measure=>simp[intOf];omega
     ·have g:Hid (pkR r e (j+1)=pkR r e j++[r[j]]):=hid (by rw[<-d8.out];exact b3M P.out)
      obtain⟨L,Y⟩:=zA (pkR r e j);rw[Y]at A g d;obtain⟨v,hv⟩:=zA (r[j]);have e9:=hid hv;rw[hv]at g;clear Y hv;go_wp2_with (first|(with_reducible refine a0v a0r (by omega) (by assumption) ?_)|(with_reducible refine a1I a0w (by omega) (by assumption) ?_)|((with_reducible show wpList _ _ _ (⟨_,.load 41 _,_,_,_,_⟩::_) _ _);refine a0B a0p j e7 b2 rfl (by simp) QV.agg ?_;intro u5 B;obtain⟨s5,a5,n5,c5,d5,m5,e5,rfl⟩:=B.shape))
      rw[e9.out]at B;refine(a3G (un (un X m) y) wr _ v d4 B).mono ?_;rintro ee w6 ⟨z,u6,rfl,c3⟩;obtain⟨s6,a6,n6,c6,d6,k6,e6,rfl⟩:=c3.shape;have T:=A.ext0 QC.elem z;have N:=(a.trans z).size;clear f2 kb iu B;go_wp2_with (at_builtin;refine a0s (l:=L) a0w rfl QC.elem N (a8.ext z) q d.out rfl rfl T (.agg #[.bool s6,.slice a6 n6 c6,.slice d6 k6 e6]) v rfl c3 (by omega) (by omega) ?_;intro f4 d0 w7 U H e4)
      have I:=(a.trans z).own T (c1B _) H;rw[<-g.out]at U;have b7:Hid ((pkR r e (j+1)).length=q+1):=hid (by rw[g.out,List.length_append,d.out];rfl);go_roundw
      case rel=>exact⟨j+1,f4,d0,q+1,by go_num,by go_num,by omega,by omega,b7,U,I⟩
      case measure=>simp[intOf];omega
    ·have e1:j=c:=by omega
     subst e1;rw[a2.out]at A d;have a3:=K.ext0 RC.elem a;have N:=(G.trans a).size;have Z:=A.sl QC.elem;have V:=A.lenCap;rw[d.out]at V;have b9:RC (mk (un X m) wr) (.slice y q F) Mi:=⟨y,F,by rw[d.out],by rw[d.out];exact V,Z⟩;clear Z;go_wp2_with (at_builtin;refine a0s (l:=M.take i) a0r rfl RC.elem N (a7.ext a) i e2.out rfl rfl a3 (.slice y q F) Mi rfl b9 (by omega) (by omega) ?_;intro f3 c9 w7 a4 H e4)
     have I:=(G.trans a).own a3 (c1B _) H;rw[c2.out]at a4;go_roundw
     case rel=>exact⟨i+1,f3,c9,by go_num,by go_num,by omega,a4,I⟩
     case measure=>simp[intOf];omega
  ·have e0:i=n:=by omega
   subst e0;rw[c1D (by rw[J.out];exact c1B _)]at K;have d2:=K.sl RC.elem;have d1:=K.lenCap;go_wp2_with fail
   go_ret
   exact⟨G,_,rfl,m,co,by rw[J.out];rfl,d1,d2⟩
end Go.Proofs.YtnnpfhoigmegcaaGreat
namespace Go.Lin
end Go.Lin
namespace Go.Proofs.YtnnpfhoigmegcaaGreat
open Go.RowKit Go.Rep Go.Lim Go.Lin
end Go.Proofs.YtnnpfhoigmegcaaGreat
namespace Go.Lin
theorem b8p(m:Mat)(n c j:Nat)(_:j<c)(h:j<(trL m n c).length):(trL m n c)[j]=(List.range n).map fun p=>ent m p j:=by simp[trL]
end Go.Lin
namespace Go.Proofs.YtnnpfhoigmegcaaGreat
open Go.RowKit Go.Rep Go.Lim Go.Lin
theorem a5p(X:Nat->Bool)(w:World)(u:Value)(m:List (List Rat))(n c:Nat)(hX:HX X w)(hu:MV (mk X w) u m)(hf:a0y m=true)(q:m.length=n)(t:colsL m=c):Calls Tryz.prog 157 #[u] w (b4T X w (trL m n c)):=by
 obtain⟨L,b9,Z,_,_⟩:=a0x hf;rw[q,t]at L;rw[q]at b9;rw[t]at Z;have I:=a4f QV.mono X w u m hu (by omega);rw[hf]at I;have k:=hid (fun w' (h:Ext w w')=>a4n X w' u m (mkx MV.mono hu h));rw[t]at k;obtain⟨M,hM⟩:=zA (trL m n c);have G:Hid (M.length=c):=hid (by rw[<-hM];exact(a1y m n c).1);have c2:Hid (∀j (J:j<c) (h:j<M.length),M[j]=(List.range n).map fun p=>ent m p j):=hid fun j J h=>by subst hM;exact b8p m n c j J h
 have e0:M.length<=c:=by rw[G.out];exact c1B _
 have e1:c<=M.length:=by rw[G.out];exact c1B _
 have b0:=hid q;have b2:=hid L;rw[hM];obtain⟨ua,f0,rfl,b7,b6⟩:=hu;have d0:=b6.hd;rw[q]at I k b7 d0 |-;clear hM hf q t L;go_enter Tryz.func157,Tryz.ntmps157
 go_wp2_with fail
 refine I.mono ?_;rintro e w1 ⟨c0,rfl⟩;go_wp2_with fail
 go_loopw [4,5] (fun o C wr=>∃(j:Nat) (d:Option Addr) (co:Nat),C=.int .i64 j/\o=.slice d j co/\j<=c/\OL RC 1 X w.heap.size 26 wr d co (M.take j)/\Ext w wr) (fun _ C _=>c - (intOf C).toNat)
 case atStart=>exact⟨0,none,0,rfl,rfl,Nat.zero_le _,OL.nil _ _ _ _ _ _,c0⟩
 case round=>
  obtain⟨j,d,co,rfl,rfl,J,T,S⟩:=hrel;have V:HX X wr:=hX.ext S;have c7:HX (un X d) wr:=T.unX V;have c9:=S.size;have y:=k.out wr S;by_cases a9:j<c
  ·have B:j<M.length:=by omega
   have b4:=hid (a0L M j B);have d3:=hid (a0Q (l:=M) (i:=j) (by omega));obtain⟨R,hR⟩:=zA (M[j]);have s:=c2.out j a9 B;rw[hR]at s b4;have H:Hid (R.length=n):=hid (by rw[s];simp);have c4:Hid (∀i (hi:i<n) (h:i<R.length),R[i]=ent m i j):=hid fun i hi h=>by subst s;simp
   have e2:R.length<=n:=by rw[H.out];exact c1B _
   have e3:n<=R.length:=by rw[H.out];exact c1B _
   clear s hR;obtain⟨wo,d9⟩:∃wo,wo=wr:=⟨_,rfl⟩;subst d9;go_wp2_with fail
   refine y.mono ?_;rintro e w2 ⟨rfl,rfl⟩;go_wp2_with fail
   go_loopw [6,7] (fun o C wx=>∃(i:Nat) (z:Option Addr) (Q:Nat),C=.int .i64 i/\o=.slice z i Q/\i<=n/\OL QC 3 (un X d) w2.heap.size 41 wx z Q (R.take i)/\Ext w2 wx) (fun _ C _=>n - (intOf C).toNat)
   case atStart=>exact⟨0,none,0,rfl,rfl,Nat.zero_le _,OL.nil _ _ _ _ _ _,ExtX.refl _⟩
   case round=>
    obtain⟨i,z,Q,rfl,rfl,hi,b,a⟩:=hrel;have W:HX (un X d) wr:=c7.ext a;have c8:HX (un (un X d) z) wr:=b.unX W;have e8:=a.size;by_cases a7:i<n
    ·have a3:i<m.length:=by rw[b0.out];exact a7
     have A:i<R.length:=by omega
     have N:=hid (a0L R i A);have a8:=hid (a0Q (l:=R) (i:=i) (by omega));have U:=c4.out i a7 A;rw[U]at N;have b3:Sl RV 1 (mk (un X d) w2) ua m:=b6.old RV.mono S (fun j J=>T.ob_lt J);have d8:Sl RV 1 (mk (un (un X d) z) wr) ua m:=b3.old RV.mono a (fun j J=>b.ob_lt J);obtain⟨a1,c1,e4,Y,a0,b1⟩:=d8.row i a3;have b8:=Y.out noY wr (ExtX.refl _) rfl;have K:Hid (m[i].length=c):=hid (b2.out.2 m[i] (c1E _));have a4:j<m[i].length:=by rw[K.out];exact a9
     have a2:=hid (b0V a3 a4);obtain⟨x,hx⟩:=zA (m[i]);rw[K.out]at b8 a0;have e9:Hd a1 c:=by have:=b1.hd;rw[K.out]at this;exact this
     obtain⟨v,hv⟩:=zA (ent m i j);rw[hv]at a2 N;clear Y U hv hx;go_wp2_with (first|(with_reducible refine a0v a0r (by omega) (by assumption) ?_)|(with_reducible refine a1I a0w (by omega) (by assumption) ?_)|((with_reducible show wpList _ _ _ (⟨_,.load 41 _,_,_,_,_⟩::_) _ _);refine a0B a0p j b1 a4 rfl (by simp) QV.agg ?_;intro u5 O;rw[a2.out]at O;obtain⟨s5,a5,n5,c5,d5,k5,e5,rfl⟩:=O.shape))
     refine(a3G (un (un X d) z) wr _ _ c8 O).mono ?_;rintro e w6 ⟨r,u6,rfl,b5⟩;obtain⟨s6,a6,n6,c6,d6,k6,e6,rfl⟩:=b5.shape;have f:=b.ext0 QC.elem r;have e7:=r.size;clear b8;go_wp2_with (at_builtin;refine a0s (l:=R.take i) a0w rfl QC.elem (by omega) (W.ext r) i a8.out rfl rfl f (.agg #[.bool s6,.slice a6 n6 c6,.slice d6 k6 e6]) v rfl b5 (by omega) (by omega) ?_;intro P D w7 g E d4)
     have F:=(a.trans r).own f (c1B _) E;rw[N.out]at g;go_roundw
     case rel=>exact⟨i+1,P,D,by go_num,by go_num,by omega,g,F⟩
     case measure=>simp[intOf];omega
    ·have d2:i=n:=by omega
     subst d2;rw[c1D (by omega)]at b;have y:=b.lenCap;have d7:=b.sl QC.elem;have f:=T.ext0 RC.elem a;have c3:RC (mk (un X d) wr) (.slice z i Q) R:=⟨z,Q,by rw[H.out],y,d7⟩;go_wp2_with (at_builtin;refine a0s (l:=M.take j) a0r rfl RC.elem (by omega) (V.ext a) j d3.out rfl rfl f (.slice z i Q) R rfl c3 (by omega) (by omega) ?_;intro P D w7 g E d4)
     have F:=(S.trans a).own f (c1B _) E;rw[b4.out]at g;go_roundw
     case rel=>exact⟨j+1,P,D,by go_num,by go_num,by omega,g,F⟩
     case measure=>simp[intOf];omega
  ·have d1:j=c:=by omega
   subst d1;rw[c1D (by omega)]at T;have hc:=T.lenCap;have hs:=T.sl RC.elem;go_wp2_with fail
   refine y.mono ?_;rintro e w2 ⟨rfl,rfl⟩;go_wp2_with fail
   go_ret2
   exact⟨S,_,rfl,d,co,by rw[G.out];rfl,hc,hs⟩
theorem a9g(X:Nat->Bool)(w:World)(u v:Value)(m:List (List Rat))(x:List Rat)(B:Nat)(hX:HX X w)(hu:MV (mk X w) u m)(Y:RV (mk X w) v x)(hf:a0y m=true)(H:x.length=colsL m)(hB:BM B m)(A:BR B x)(a3:1<=B)(a4:200*B<=68000000000):Calls Tryz.prog 160 #[u,v] w (b9j X w (a2v m x)):=by
 obtain⟨y,a0,f,_,_⟩:=a0x hf;have s:=a4f QV.mono X w u m hu (by omega);rw[hf]at s;have a:=hid (fun w' (h:Ext w w')=>a4n X w' u m (mkx MV.mono hu h));obtain⟨ua,c9,rfl,S,R⟩:=hu;obtain⟨va,U,rfl,T,b9⟩:=Y;have b3:=R.hd;obtain⟨c,J⟩:=zA (colsL m);rw[J]at a H f y;have c7:((x.length:Int) !=(c:Int))=false:=b0v (by omega);have O:=hid y;have b0:=hid H;have a2:=hid hB;have C:=hid A;obtain⟨n,W⟩:=zA m.length;rw[W]at s a S b3 a0 |-;have b6:=hid W;have q:Hid ((a2v m x).length=n):=hid (by rw[a2Z];exact W);clear hf y W H J hB A;go_enter Tryz.func160,Tryz.ntmps160
 go_wp2_with fail
 refine s.mono ?_;rintro e w1 ⟨D,rfl⟩;have b1:=a.out w1 D;go_wp2_with fail
 refine b1.mono ?_;rintro e w2 ⟨rfl,rfl⟩;go_wp2_with fail
 go_loopw [6,7] (fun o k wr=>∃(i:Nat) (g:Option Addr) (V:Nat),k=.int .i64 i/\o=.slice g i V/\i<=n/\OL QC 3 X w.heap.size 41 wr g V ((a2v m x).take i)/\Ext w wr) (fun _ k _=>n - (intOf k).toNat)
 case atStart=>exact⟨0,none,0,rfl,rfl,Nat.zero_le _,OL.nil _ _ _ _ _ _,D⟩
 case round=>
  obtain⟨i,g,V,rfl,rfl,hi,p,z⟩:=hrel;have G:HX X wr:=hX.ext z;have a8:HX (un X g) wr:=p.unX G;have a9:=z.size;by_cases N:i<n
  ·have M:i<m.length:=by rw[b6.out];exact N
   have L:i<(a2v m x).length:=by rw[q.out];exact N
   have b8:Sl RV 1 (mk (un X g) wr) ua m:=R.old RV.mono z (fun j hj=>p.ob_lt hj);have c0:RV (mk (un X g) wr) (.slice va x.length U) x:=a2B RV.mono ⟨va,U,rfl,T,b9⟩ z (fun j hj=>p.ob_lt hj);have P:=hid (a0L (a2v m x) i L);have b5:=hid (a0Q (l:=a2v m x) (i:=i) (by omega));obtain⟨a1,c1,c4,I,K,b7⟩:=b8.row i M;have c2:=I.out noY wr (ExtX.refl _) rfl;have t:=hid (O.out.2 m[i] (c1E _));have b2:=hid (a3Z (v:=x) M L);have r:=a1A (a2.out m[i] (c1E _)) C.out a3 (by rw[t.out];exact f) a4;have b:=a5m (un X g) wr _ _ m[i] x a8 ⟨a1,c1,rfl,K,b7⟩ c0 (by rw[t.out];omega) (by rw[t.out,b0.out]) r.1 r.2;rw[<-b2.out]at b;obtain⟨v,Y⟩:=zA ((a2v m x)[i]);rw[Y]at b P;clear Y I r;go_wp2_with (with_reducible refine a0v a0r (by omega) (by assumption) ?_)
   refine b.mono ?_;rintro e w6 ⟨d,u6,rfl,Q⟩;obtain⟨s6,a6,n6,c6,d6,k6,e6,rfl⟩:=Q.shape;have E:=p.ext0 QC.elem d;have c5:=d.size;clear c2;go_wp2_with (at_builtin;refine a0s (l:=(a2v m x).take i) a0w rfl QC.elem (by omega) (G.ext d) i b5.out rfl rfl E (.agg #[.bool s6,.slice a6 n6 c6,.slice d6 k6 e6]) v rfl Q (by omega) (by omega) ?_;intro c3 Z w7 F a5 c8)
   have a7:=(z.trans d).own E (c1B _) a5;rw[P.out]at F;go_roundw
   case rel=>exact⟨i+1,c3,Z,by go_num,by go_num,by omega,F,a7⟩
   case measure=>simp[intOf];omega
  ·have b4:i=n:=by omega
   subst b4;rw[c1D (by rw[q.out];exact c1B _)]at p;have H:=p.lenCap;have hs:=p.sl QC.elem;go_wp2_with fail
   go_ret2
   exact⟨z,_,rfl,g,V,by rw[q.out];rfl,H,hs⟩
end Go.Proofs.YtnnpfhoigmegcaaGreat
namespace Go.Lin
theorem b8q{b:Mat}{n c j:Nat}{x:List Rat}(d:x.length=n)(a:j<(trL b n c).length)(h:j<(a2v (trL b n c) x).length):(a2v (trL b n c) x)[j]=a2u x (trL b n c)[j]:=by
 rw[a3Z a h];unfold a2u;rw[(a1y b n c).2 _ (c1E _),d,b2P]
end Go.Lin
namespace Go.Proofs.YtnnpfhoigmegcaaGreat
open Go.RowKit Go.Rep Go.Lim Go.Lin
theorem b8r(X:Nat->Bool)(w:World)(u v:Value)(a b:List (List Rat))(k n c B:Nat)(hX:HX X w)(hu:MV (mk X w) u a)(hv:MV (mk X w) v b)(b1:a0y a=true)(L:a0y b=true)(ha:a.length=k)(hb:b.length=n)(K:colsL a=n)(a8:colsL b=c)(hB:BM B a)(c0:BM B b)(b9:1<=B)(f6:200*B<=68000000000):Calls Tryz.prog 158 #[u,v] w (b4T X w (a6b a b n c)):=by
 obtain⟨b5,c9,F,b3,j1⟩:=a0x b1;obtain⟨i5,d0,a9,b4,j2⟩:=a0x L;rw[ha,K]at b5;rw[ha]at c9;rw[hb]at d0;rw[K]at F;rw[a8]at a9;have N:=a4f QV.mono X w u a hu (by omega);rw[b1]at N;have E:=hid (fun H (h:Ext w H)=>a4f QV.mono X H v b (mkx MV.mono hv h) (by omega));rw[L]at E;have C:=hid (fun H (h:Ext w H)=>a4n X H u a (mkx MV.mono hu h));rw[K]at C;have b7:=hid (fun H (h:Ext w H)=>a5p X H v b n c (hX.ext h) (mkx MV.mono hv h) L hb a8);have e7:=hid (a5y (b0D (n:=n) (c:=c) (a5e c0 b9)));obtain⟨M,hM⟩:=zA (a6b a b n c);have a0:Hid (M.length=k):=hid (by rw[<-hM,b0J];exact ha);have c5:Hid (∀i (hi:i<a.length) (h:i<M.length),M[i]=a2v (trL b n c) a[i]):=hid fun i hi h=>by subst hM;exact a5U hi h
 rw[hM];obtain⟨T,hT⟩:=zA (trL b n c);have a4:Hid (T.length=c):=hid (by rw[<-hT];exact(a1y b n c).1);have g3:Hid (∀j (f:j<T.length),T[j].length=n):=hid fun j f=>by subst hT;exact(a1y b n c).2 _ (c1E _)
 have g2:Hid (∀x:List Rat,x.length=n->∀j (f:j<T.length) (h:j<(a2v T x).length),(a2v T x)[j]=a2u x T[j]):=hid fun x hx j f h=>by subst hT;exact b8q hx f h
 rw[hT]at b7 e7 c5;obtain⟨U,f4,rfl,f2,f0⟩:=hu;obtain⟨va,k2,rfl,f3,i9⟩:=hv;have d5:=f0.hd;have e3:=hid b5;have f5:=hid hB;have h0:=hid ha;rw[ha]at f2 d5 N C |-;rw[hb]at b7 f3 E |-;have k1:((n:Int) !=(n:Int))=false:=b0v rfl;have j5:M.length<=k:=by rw[a0.out];exact c1B _
 have j6:k<=M.length:=by rw[a0.out];exact c1B _
 clear b1 L ha hb K a8 b5 i5 j1 j2 b3 b4 i9 hB c0 hM hT;go_enter Tryz.func158,Tryz.ntmps158
 go_wp2_with fail
 refine N.mono ?_;rintro e w1 ⟨c4,rfl⟩;have h2:=E.out w1 c4;go_wp2_with fail
 refine h2.mono ?_;rintro e w2 ⟨f8,rfl⟩;have y:=c4.trans f8;have h3:=C.out w2 y;go_wp2_with fail
 refine h3.mono ?_;rintro e w3 ⟨rfl,rfl⟩;have h4:=b7.out w3 y;go_wp2_with fail
 refine h4.mono ?_;rintro e w4 ⟨f9,ut,rfl,S,tc,rfl,i8,e4⟩;have t:=y.trans f9;have g6:=hX.ext t;have f1:=f0.mono RV.mono (a0l t);have d4:=e4.hd;rw[a4.out]at i8 d4 |-;clear N h2 h3 h4;go_wp2_with fail
 go_loopw [8,9] (fun o kk wr=>∃(i:Nat) (s:Option Addr) (co:Nat),kk=.int .i64 i/\o=.slice s i co/\i<=k/\OL RC 1 X w4.heap.size 26 wr s co (M.take i)/\Ext w4 wr) (fun _ kk _=>k - (intOf kk).toNat)
 case atStart=>exact⟨0,none,0,rfl,rfl,Nat.zero_le _,OL.nil _ _ _ _ _ _,ExtX.refl _⟩
 case round=>
  obtain⟨i,s,co,rfl,rfl,hi,hO,hE⟩:=hrel;have c7:HX X wr:=g6.ext hE;have g8:HX (un X s) wr:=hO.unX c7;have h1:=hE.size;by_cases i0:i<k
  ·have d7:i<a.length:=by rw[h0.out];exact i0
   have P:i<M.length:=by omega
   have e8:=hid (a0L M i P);have h9:=hid (a0Q (l:=M) (i:=i) (by omega));have p:Hid (a[i].length=n):=hid (e3.out.2 a[i] (c1E _));obtain⟨R,hR⟩:=zA (M[i]);have J:=c5.out i d7 P;rw[hR]at J e8;have a3:Hid (R.length=c):=hid (by rw[J,a2Z];exact a4.out);have g1:Hid (∀j (f:j<T.length) (h:j<R.length),R[j]=a2u a[i] T[j]):=hid fun j f h=>by subst J;exact g2.out _ p.out j f h
   have j7:R.length<=c:=by rw[a3.out];exact c1B _
   have j8:c<=R.length:=by rw[a3.out];exact c1B _
   clear J hR;obtain⟨wo,j0⟩:∃wo,wo=wr:=⟨_,rfl⟩;subst j0;go_wp2_with fail
   go_loopw [10,11] (fun o cc wx=>∃(j:Nat) (r:Option Addr) (cr:Nat),cc=.int .i64 j/\o=.slice r j cr/\j<=c/\OL QC 3 (un X s) wo.heap.size 41 wx r cr (R.take j)/\Ext wo wx) (fun _ cc _=>c - (intOf cc).toNat)
   case atStart=>exact⟨0,none,0,rfl,rfl,Nat.zero_le _,OL.nil _ _ _ _ _ _,ExtX.refl _⟩
   case round=>
    obtain⟨j,r,cr,rfl,rfl,f,g,d⟩:=hrel;have c8:HX (un X s) wr:=g8.ext d;have g9:HX (un (un X s) r) wr:=g.unX c8;have k0:=d.size;by_cases h8:j<c
    ·have b2:j<T.length:=by rw[a4.out];exact h8
     have O:j<R.length:=by omega
     have b6:=hid (a0L R j O);have d8:=hid (a0Q (l:=R) (i:=j) (by omega));have d3:=g1.out j b2 O;rw[d3]at b6;have i6:Sl RV 1 (mk (un (un X s) r) wr) U a:=(f1.old RV.mono hE (fun j f=>hO.ob_lt f)).old RV.mono d (fun j f=>g.ob_lt f);have i7:Sl RC 1 (mk (un (un X s) r) wr) S T:=(e4.old RC.mono hE (fun j f=>hO.ob_lt f)).old RC.mono d (fun j f=>g.ob_lt f);obtain⟨a1,c1,g4,a5,d1,e1⟩:=i6.row i d7;obtain⟨a2,c2,g5,a7,d2,e2⟩:=i7.row j b2;have G:=hid (g3.out j b2);have f7:=f5.out a[i] (c1E _);have c3:=e7.out T[j] (c1E _);have b0:=a1A f7 c3 b9 (by rw[p.out];exact F) f6;have Q:=e2.qv (fun q hq=>c1A (c3 q hq) (by omega));have m:Ext wr wr.drew:=(ExtX.refl wr).drew;have D:=a5m (un (un X s) r) wr.drew _ _ a[i] T[j] g9 ⟨a1,c1,rfl,d1,e1⟩ ⟨a2,c2,rfl,d2,Q⟩ (by rw[p.out];omega) (by rw[p.out,G.out]) b0.1 b0.2;obtain⟨v,hv⟩:=zA (a2u a[i] T[j]);rw[hv]at D b6;rw[p.out,G.out]at D;have d9:ob r (adr U i).block=false:=(a0P g4).2;have e0:ob r (adr S j).block=false:=(a0P g5).2;rw[p.out]at a5;rw[G.out]at a7;have hS:Hid (∀Y W',ExtX Y wr.drew W'->Y (adr U i).block=false->Y (adr S j).block=false->W'.cell? (adr U i)=some (.slice a1 n c1)/\W'.cell? (adr S j)=some (.slice a2 n c2)):=hid fun Y W' h hg hb=>⟨a5.out Y W' ((ExtX.of m).trans h) hg,a7.out Y W' ((ExtX.of m).trans h) hb⟩;obtain⟨j3,j4⟩:=hS.out noY wr.drew (ExtX.refl _) rfl rfl;have i1:∀W,(Instr.indexAt 25 (.slice U k f4) (.int .i64 (i:Int))).run Tryz.prog W=.ok (.pointer (some (adr U i))) W:=a0z a0r U k f4 .i64 i d5 (by omega) rfl;have i2:∀W,(Instr.indexAt 25 (.slice S c tc) (.int .i64 (j:Int))).run Tryz.prog W=.ok (.pointer (some (adr S j))) W:=a0z a0r S c tc .i64 j d4 (by omega) rfl;clear hv a5 a7 d3 b0 e1 e2 Q;go_wp2_with fail
     go_region_held3 (fun H=>H.cell? (adr U i)=some (.slice a1 n c1)/\H.cell? (adr S j)=some (.slice a2 n c2))
      (first|exact hS.out noY _ t1 rfl rfl|exact hS.out noY _ (ExtX.alloc t1 _) rfl rfl|exact hS.out (ob r) _ ((ExtX.of t1).trans I) d9 e0|go_keep)
      (first|(go_at_call 161;(with_reducible refine D.mono ?_);rintro ee w6 ⟨t1,u6,rfl,e9⟩;obtain⟨s6,a6,n6,c6,d6,k6,e6,rfl⟩:=e9.shape;have z:=g.ext0 QC.elem (m.trans t1);have j9:=(m.trans t1).size;have g7:=c8.ext (m.trans t1))|(refine a1o (l:=R.take j) rfl (by rfl) a0w rfl QC.elem (by omega) g7 j d8.out rfl rfl z (.agg #[.bool s6,.slice a6 n6 c6,.slice d6 k6 e6]) v rfl e9 (by omega) (by omega) ?_;intro b8 V w7 A I i3))
     have Z:=(d.trans (m.trans t1)).own z (c1B _) I;rw[b6.out]at A;clear j3 j4 i1 i2;go_wp2_with fail
     go_roundw
     case rel=>exact⟨j+1,b8,V,by go_num,by go_num,by omega,A,Z⟩
     case measure=>simp[intOf];omega
    ·have h7:j=c:=by omega
     subst h7;rw[c1D (by omega)]at g;have h5:=g.lenCap;have i4:=g.sl QC.elem;have z:=hO.ext0 RC.elem d;have g0:RC (mk (un X s) wr) (.slice r j cr) R:=⟨r,cr,by rw[a3.out],h5,i4⟩;go_wp2_with (at_builtin;refine a0s (l:=M.take i) a0r rfl RC.elem (by omega) (c7.ext d) i h9.out rfl rfl z (.slice r j cr) R rfl g0 (by omega) (by omega) ?_;intro b8 V w7 A I i3)
     have Z:=(hE.trans d).own z (c1B _) I;rw[e8.out]at A;go_roundw
     case rel=>exact⟨i+1,b8,V,by go_num,by go_num,by omega,A,Z⟩
     case measure=>simp[intOf];omega
  ·have h6:i=k:=by omega
   subst h6;rw[c1D (by omega)]at hO;have hc:=hO.lenCap;have hs:=hO.sl RC.elem;go_wp2_with fail
   go_ret2
   exact⟨t.trans hE,_,rfl,s,co,by rw[a0.out];rfl,hc,hs⟩
end Go.Proofs.YtnnpfhoigmegcaaGreat
namespace Go.Lin
open Go.Lim
theorem b4b{m:Mat}{n i:Nat}(h:i<(a1g m n).length)(a:i<m.length):(a1g m n)[i]=m[i]++(List.range n).map fun j=>if i=j then 1 else 0:=by
 have b:i<n:=by simpa[a1g]using h
 simp only[a1g,List.getElem_map,List.getElem_range];rw[a3p a]
 congr 1
 refine List.ext_getElem (by simp) fun j c d=>?_;rw[List.getElem_set,List.getElem_map,List.getElem_range,List.getElem_replicate]
theorem b0b{m:Mat}{n:Nat}(a:Shp n n m):colsL (a1g m n)=2*n:=a8S (a1i a) (by omega)
theorem c0X{m:Mat}{n:Nat}(a:n<=4)(b:Shp n n m):a4p m n↔a9k m n=0:=by rw[b3F a b];exact b0N a b
end Go.Lin
namespace Go.Proofs.YtnnpfhoigmegcaaGreat
open Go.RowKit Go.Rep Go.Lim Go.Lin
def c0Y(X:Nat->Bool)(w:World)(l:List Rat)(e:Ending)(w':World):Prop:=Ext w w'/\∃oo co,e=.returned (.slice oo l.length co)/\OL QC 3 X w.heap.size 41 w' oo co l
theorem b0c(X:Nat->Bool)(w:World)(u:Value)(l:List Rat)(I:HX X w)(P:RV (mk X w) u l)(Y:l.length<=1000000):Calls Tryz.prog 246 #[u] w (c0Y X w l):=by
 obtain⟨ao,V,rfl,K,n⟩:=P;have L:=n.hd;go_enter Tryz.func246,Tryz.ntmps246
 go_wp2_with fail
 go_loopw [3,4] (fun o c wr=>∃(i:Nat) (b:Option Addr) (r:Nat),c=.int .i64 i/\o=.slice b i r/\i<=l.length/\OL QC 3 X w.heap.size 41 wr b r (l.take i)/\Ext w wr) (fun _ c _=>l.length - (intOf c).toNat)
 case atStart=>exact⟨0,none,0,rfl,rfl,Nat.zero_le _,OL.nil _ _ _ _ _ _,ExtX.refl _⟩
 case round=>
  obtain⟨i,b,r,rfl,rfl,M,f,d⟩:=hrel;have k:HX X wr:=I.ext d;have x:HX (un X b) wr:=f.unX k;have y:=d.size;by_cases m:i<l.length
  ·have B:Sl QV 3 (mk (un X b) wr) ao l:=n.old QV.mono d (fun j N=>f.ob_lt N)
   have C:=hid (a0L l i m);have A:=hid (a0Q M);go_wp2_with (first|(with_reducible refine a1I a0w (by omega) (by assumption) ?_)|((with_reducible show wpList _ _ _ (⟨_,.load _ _,_,_,_,_⟩::_) _ _);refine a0B a0p i B m rfl (by simp) QV.agg ?_;intro u5 p;obtain⟨s5,T,n5,U,W,Z,e5,rfl⟩:=p.shape))
   refine(a3G (un X b) wr _ _ x p).mono ?_;rintro e w6 ⟨a,u6,rfl,q⟩;obtain⟨S,E,R,F,G,Q,H,rfl⟩:=q.shape;have g:=f.ext0 QC.elem a;have J:=a.size;go_wp2_with (at_builtin;refine a0s (l:=l.take i) a0w rfl QC.elem (by omega) (k.ext a) i A.out rfl rfl g (.agg #[.bool S,.slice E R F,.slice G Q H]) l[i] rfl q (by omega) (by omega) ?_;intro D s w7 h t O)
   have v:=(d.trans a).own g (c1B _) t;rw[C.out]at h;go_roundw
   case rel=>exact⟨i+1,D,s,by go_num,by go_num,by omega,h,v⟩
   case measure=>simp[intOf];omega
  ·have z:i=l.length:=by omega
   subst z;rw[List.take_length]at f;go_wp2_with fail
   go_ret
   exact⟨d,b,r,rfl,f⟩
theorem b0d(X:Nat->Bool)(w:World)(u:Value)(m:List (List Rat))(n:Nat)(hX:HX X w)(hu:MV (mk X w) u m)(T:Shp n n m)(hn:n<=96):Calls Tryz.prog 239 #[u] w (a1S X w MC (a1g m n)):=by
 obtain⟨M,hM⟩:=zA (a1g m n);have O:Hid (M.length=n):=hid (by rw[<-hM];simp[a1g]);have b6:Hid (∀i (hi:i<m.length) (h:i<M.length),M[i]=m[i]++(List.range n).map fun j=>if i=j then 1 else 0):=hid fun i hi h=>by subst hM;exact b4b h hi
 have d5:M.length<=n:=by rw[O.out];exact c1B _
 have d7:n<=M.length:=by rw[O.out];exact c1B _
 rw[hM];have b0:=hid T;have a7:=hid T.1;obtain⟨ua,e2,rfl,b3,b2⟩:=hu;have c4:=b2.hd;rw[a7.out]at b3 c4 |-;clear hM T;go_enter Tryz.func239,Tryz.ntmps239
 go_wp2_with fail
 go_loopw [3,4] (fun o N wr=>∃(i:Nat) (p:Option Addr) (co:Nat),N=.int .i64 i/\o=.slice p i co/\i<=n/\OL RC 1 X w.heap.size 26 wr p co (M.take i)/\Ext w wr) (fun _ N _=>n - (intOf N).toNat)
 case atStart=>exact⟨0,none,0,rfl,rfl,Nat.zero_le _,OL.nil _ _ _ _ _ _,ExtX.refl _⟩
 case round=>
  obtain⟨i,p,co,rfl,rfl,hi,W,Z⟩:=hrel;have a0:HX X wr:=hX.ext Z;have a2:HX (un X p) wr:=W.unX a0;have c2:=Z.size;by_cases d1:i<n
  ·have a5:i<m.length:=by rw[a7.out];exact d1
   have L:i<M.length:=by omega
   have b1:=hid (a0L M i L);have d0:=hid (a0Q (l:=M) (i:=i) (by omega));have c:Hid (m[i].length=n):=hid (b0.out.2 m[i] (c1E _));have d3:Sl RV 1 (mk (un X p) wr) ua m:=b2.old RV.mono Z (fun j hj=>W.ob_lt hj);obtain⟨a1,c1,e0,a4,I,a9⟩:=d3.row i a5;have U:=a4.out noY wr (ExtX.refl _) rfl;have F:=b0c (un X p) wr (.slice a1 m[i].length c1) m[i] a2 ⟨a1,c1,rfl,I,a9⟩ (by rw[c.out];omega);obtain⟨R,hR⟩:=zA (M[i]);have r:=b6.out i a5 L;rw[hR]at r b1;obtain⟨x,hx⟩:=zA (m[i]);rw[hx]at c F r U;have Q:Hid (R.length=n+n):=hid (by rw[r,List.length_append,c.out];simp);have b9:Hid (R.take n=x):=hid (by rw[r,List.take_append_of_le_length (by rw[c.out];exact c1B _),c1D (by rw[c.out];exact c1B _)]);have b8:Hid (∀j (hj:j<n) (h:n+j<R.length),R[n+j]=if i=j then 1 else 0):=hid fun j hj h=>by
    subst r;rw[List.getElem_append_right (by rw[c.out];omega)];simp[c.out]
   have d8:R.length<=n+n:=by rw[Q.out];exact c1B _
   have d9:n+n<=R.length:=by rw[Q.out];exact c1B _
   rw[c.out]at U F;clear r hR hx a4 a9 I;obtain⟨wo,d4⟩:∃wo,wo=wr:=⟨_,rfl⟩;subst d4;go_wp2_with (with_reducible refine a0v a0r (by omega) (by assumption) ?_)
   refine F.mono ?_;rintro e w5 ⟨b5,b4,Y,rfl,y⟩;rw[c.out];rw[<-b9.out]at y;have H:OL QC 3 (un X p) wo.heap.size 41 w5 b4 Y (R.take (n+0)):=y;clear U F y;go_wp2_with fail
   go_loopw [5,6] (fun o N wx=>∃(j:Nat) (G:Option Addr) (V k:Nat),N=.int .i64 j/\o=.slice G k V/\k=n+j/\j<=n/\OL QC 3 (un X p) wo.heap.size 41 wx G V (R.take (n+j))/\Ext wo wx) (fun _ N _=>n - (intOf N).toNat)
   case atStart=>exact⟨0,b4,Y,n,rfl,rfl,rfl,Nat.zero_le _,H,b5⟩
   case round=>
    clear H;obtain⟨j,G,V,k,rfl,rfl,z,hj,q,g⟩:=hrel;have S:HX (un X p) wr:=a2.ext g;have a3:HX (un (un X p) G) wr:=q.unX S;have e1:=g.size;by_cases c9:j<n
    ·have J:n+j<R.length:=by omega
     have A:=hid (a0L R (n+j) J);have K:=hid (a0Q (l:=R) (i:=n+j) (by omega));have P:=b8.out j c9 J;rw[P]at A;have a:=hid z;by_cases E:i=j
     ·have hb:((i:Int)==(j:Int))=true:=a6R (by omega)
      have C:(((1:Int):Rat))=if i=j then 1 else 0:=by rw[if_pos E];rfl
      rw[<-C]at A;clear P E C z;go_wp2_with fail
      refine(a3m (un (un X p) G) wr 1 a3 (by decide) (by decide)).mono ?_;rintro e w6 ⟨b,u6,rfl,B⟩;obtain⟨s6,a6,n6,c6,d6,k6,e6,rfl⟩:=B.shape;have d:=q.ext0 QC.elem b;have c0:=b.size;go_wp2_with (at_builtin;refine a0s (l:=R.take (n+j)) a0w rfl QC.elem (by omega) (S.ext b) k (by rw[K.out,a.out]) rfl rfl d (.agg #[.bool s6,.slice a6 n6 c6,.slice d6 k6 e6]) _ rfl B (by have:=a.out;omega) (by have:=a.out;omega) ?_;intro D s w7 f t a8)
      have v:=(g.trans b).own d (c1B _) t;rw[A.out]at f;go_roundw
      case rel=>exact⟨j+1,D,s,k+1,by go_num,by go_num,by have:=a.out;omega,by omega,f,v⟩
      case measure=>simp[intOf];omega
     ·have hb:((i:Int)==(j:Int))=false:=a2J (by omega)
      have C:(((0:Int):Rat))=if i=j then 1 else 0:=by rw[if_neg E];rfl
      rw[<-C]at A;clear P E C z;go_wp2_with fail
      refine(a3m (un (un X p) G) wr 0 a3 (by decide) (by decide)).mono ?_;rintro e w6 ⟨b,u6,rfl,B⟩;obtain⟨s6,a6,n6,c6,d6,k6,e6,rfl⟩:=B.shape;have d:=q.ext0 QC.elem b;have c0:=b.size;go_wp2_with (at_builtin;refine a0s (l:=R.take (n+j)) a0w rfl QC.elem (by omega) (S.ext b) k (by rw[K.out,a.out]) rfl rfl d (.agg #[.bool s6,.slice a6 n6 c6,.slice d6 k6 e6]) _ rfl B (by have:=a.out;omega) (by have:=a.out;omega) ?_;intro D s w7 f t a8)
      have v:=(g.trans b).own d (c1B _) t;rw[A.out]at f;go_roundw
      case rel=>exact⟨j+1,D,s,k+1,by go_num,by go_num,by have:=a.out;omega,by omega,f,v⟩
      case measure=>simp[intOf];omega
    ·have c7:j=n:=by omega
     subst c7;rw[c1D (by omega)]at q;have c3:=q.lenCap;have d2:=q.sl QC.elem;have d:=W.ext0 RC.elem g;have c8:Hid (R.length=k):=hid (by rw[Q.out,z]);have b7:RC (mk (un X p) wr) (.slice G k V) R:=⟨G,V,by rw[c8.out],c3,d2⟩;clear z;go_wp2_with (at_builtin;refine a0s (l:=M.take i) a0r rfl RC.elem (by omega) (a0.ext g) i d0.out rfl rfl d (.slice G k V) R rfl b7 (by omega) (by omega) ?_;intro D s w7 f t a8)
     have v:=(Z.trans g).own d (c1B _) t;rw[b1.out]at f;go_roundw
     case rel=>exact⟨i+1,D,s,by go_num,by go_num,by omega,f,v⟩
     case measure=>simp[intOf];omega
  ·have c5:i=n:=by omega
   subst c5;rw[c1D (by omega)]at W;have hc:=W.lenCap;have hs:=W.sl RC.elem;go_wp2_with fail
   go_ret
   exact⟨Z,_,rfl,p,co,by rw[O.out];rfl,hc,hs⟩
end Go.Proofs.YtnnpfhoigmegcaaGreat
namespace Go.Lin
open Go.Lim
theorem b8s{m:Mat}{n:Nat}(b:a6U m n):hq (a9k m n)<=68719476736:=by
 obtain⟨B,c,a⟩:=b;have d:=(a n (c1B _)).2;unfold a9k;split
 ·rw[a0X];decide
 ·omega
theorem b5W(m:Mat)(n:Nat):(a2y m n).length=(a0H (a1g m n) (2*n)).1.length:=by simp[a2y]
theorem b5X(m:Mat)(n i:Nat)(h:i<(a2y m n).length)(a:i<(a0H (a1g m n) (2*n)).1.length):(a2y m n)[i]=(a0H (a1g m n) (2*n)).1[i].drop n:=by simp[a2y]
end Go.Lin
namespace Go.Proofs.YtnnpfhoigmegcaaGreat
open Go.RowKit Go.Rep Go.Lim Go.Lin
def b4c(X:Nat->Bool)(w:World)(m:List (List Rat))(n:Nat)(e:Ending)(w':World):Prop:=Ext w w'/\((a9k m n=0/\e=.returned (.tuple #[.slice none 0 0,.int .i64 7]))\/(a9k m n≠0/\∃u,e=.returned (.tuple #[u,.int .i64 0])/\MC (mk X w') u (a2y m n)))
theorem b0e(X:Nat->Bool)(w:World)(u:Value)(m:List (List Rat))(n:Nat)(hX:HX X w)(hu:MV (mk X w) u m)(hf:a0y m=true)(q:m.length=n)(N:colsL m=n)(a8:a6U m n)(hT:a6U (a1g m n) (2*n))(hB:BM 68719476736 (a1g m n)):Calls Tryz.prog 159 #[u] w (b4c X w m n):=by
 obtain⟨r,a3,f0,_,_⟩:=a0x hf;rw[q,N]at r;rw[q]at a3;have b:=b7Y X w u m n hX hu hf q N a8;have O:=hid (b8s a8);have a9:=hid (fun w' (h:Ext w w')=>b0d X w' u m n (hX.ext h) (mkx MV.mono hu h) r a3);have t:=a1i r;have p:=hid (b0j t).1;have s:=hid (b5W m n);have L:=hid (b5X m n);have b5:=hid (fun w' (h:Ext w w') (v:Value) (hv:MC (mk X w') v (a1g m n))=>a4I X w' v (a1g m n) n (2*n) (hX.ext h) (hv.mv hB) t (b0b r) (by omega) (by omega) hT);have c:=hid (a5Z t (2*n)).shp;rw[<-p.out]at c;obtain⟨D,hD⟩:=zA (a9k m n);rw[hD]at b O;have a4:=hid hD;obtain⟨ua,f6,rfl,f1,e4⟩:=hu;rw[q]at b a9 |-;clear hf q N r t hD e4;by_cases Y:D=0
 ·have d8:(D.num.sign==(0:Int))=true:=by rw[Y];rfl
  have hr:Hid (a9k m n=0):=hid (a4.out.trans Y);clear Y;go_enter Tryz.func159,Tryz.ntmps159
  go_wp2_with fail
  refine b.mono ?_;rintro e W ⟨J,u1,rfl,d⟩;obtain⟨s1,a1,n1,c1,d1,k1,e1,rfl⟩:=d.shape;have bx:=Bx.new W #[.bool false,.slice none 0 0,.slice none 0 0] 41;go_wp2_with ((with_reducible show wpList _ _ _ (⟨_,.store _ _ _,_,_,_,_⟩::_) _ _);refine a0a a0p rfl rfl bx rfl rfl (a1z _ _ _ _ _ _ _) ?_;intro w3 G r2;have k0:=G.cell 0 rfl;have T:=G.cell 1 rfl;have U:=G.cell 2 rfl)
  have g:Ext W w3:=ExtX.box ((ExtX.refl W).alloc _) r2 (c1B _);have a:=J.trans g;refine(a7i X w3 _ D (hX.ext a) ((mkx QC.mono d g).qv O.out)).mono ?_;rintro e w4 ⟨K,rfl⟩;clear k0 T U;go_wp2_with fail
  go_ret2
  exact⟨a.trans K,.inl ⟨hr.out,rfl⟩⟩
 ·have d8:(D.num.sign==(0:Int))=false:=a2J (by intro h;exact Y (Rat.num_eq_zero.1 (Int.sign_eq_zero_iff_zero.1 h)))
  have hr:Hid (a9k m n≠0):=hid (by rw[a4.out];exact Y);clear Y;obtain⟨I,hI⟩:=zA (a2y m n);rw[hI]at s L;have c8:=hid hI;obtain⟨S,hS⟩:=zA (rN (a1g m n) (2*n));rw[hS]at b5 p;obtain⟨R,P,f⟩:=S
  dsimp only at p
  obtain⟨z,a7⟩:=zA ((a0H (a1g m n) (2*n)).1);rw[a7]at s L c p;obtain rfl:z=R:=p.out;have M:Hid (z.length=n):=hid c.out.1;have k:Hid (I.length=n):=hid (by rw[s.out];exact M.out);have e8:I.length<=n:=by rw[k.out];exact c1B _
  have e9:n<=I.length:=by rw[k.out];exact c1B _
  clear hI hS a7 s;go_enter Tryz.func159,Tryz.ntmps159
  go_wp2_with fail
  refine b.mono ?_;rintro e W ⟨J,u1,rfl,d⟩;obtain⟨s1,a1,n1,c1,d1,k1,e1,rfl⟩:=d.shape;have bx:=Bx.new W #[.bool false,.slice none 0 0,.slice none 0 0] 41;go_wp2_with ((with_reducible show wpList _ _ _ (⟨_,.store _ _ _,_,_,_,_⟩::_) _ _);refine a0a a0p rfl rfl bx rfl rfl (a1z _ _ _ _ _ _ _) ?_;intro w3 G r2;have k0:=G.cell 0 rfl;have T:=G.cell 1 rfl;have U:=G.cell 2 rfl)
  have g:Ext W w3:=ExtX.box ((ExtX.refl W).alloc _) r2 (c1B _);have a:=J.trans g;refine(a7i X w3 _ D (hX.ext a) ((mkx QC.mono d g).qv O.out)).mono ?_;rintro e w4 ⟨K,rfl⟩;have A:=a.trans K;have h4:=a9.out w4 A;clear k0 T U bx b d G;go_wp2_with fail
  refine h4.mono ?_;rintro e w5 ⟨c4,ub,rfl,e6⟩;have B:=A.trans c4;have h5:=b5.out w5 B ub e6;clear h4;go_wp2_with fail
  refine h5.mono ?_;rintro e w6 ⟨c5,ro,f5,po,pc,uf,rfl,F,f4,y,e0,b7⟩
  dsimp only at F y |-
  obtain⟨s2,a2,n2,c2,d2,k2,e2,rfl⟩:=b7.shape;have a0:=Bx.new w6 #[.bool false,.slice none 0 0,.slice none 0 0] 41;have d4:=y.hd;rw[M.out]at F d4 |-;clear h5 e0 b7;go_wp2_with ((with_reducible show wpList _ _ _ (⟨_,.store _ _ _,_,_,_,_⟩::_) _ _);refine a0a a0p rfl rfl a0 rfl rfl (a1z _ _ _ _ _ _ _) ?_;intro w7 r3 r4)
  have a5:Ext w6 w7:=ExtX.box ((ExtX.refl w6).alloc _) r4 (c1B _);have C:=B.trans (c5.trans a5);have b6:=y.mono RC.mono (a0l a5);clear y a0 r3;go_loopw [9,10] (fun o cc wr=>∃(i:Nat) (V:Option Addr) (co:Nat),cc=.int .i64 i/\o=.slice V i co/\i<=n/\OL RC 1 X w7.heap.size 26 wr V co (I.take i)/\Ext w7 wr) (fun _ cc _=>n - (intOf cc).toNat)
  case atStart=>exact⟨0,none,0,rfl,rfl,Nat.zero_le _,OL.nil _ _ _ _ _ _,ExtX.refl _⟩
  case round=>
   obtain⟨i,V,co,rfl,rfl,hi,Z,hE⟩:=hrel;have d0:HX X wr:=(hX.ext C).ext hE;have d3:=hE.size;by_cases d7:i<n
   ·have b3:i<z.length:=by rw[M.out];exact d7
    have b2:i<I.length:=by omega
    have Q:=hid (a0L I i b2);have d6:=hid (a0Q (l:=I) (i:=i) (by omega));have e3:Sl RC 1 (mk (un X V) wr) ro z:=b6.old RC.mono hE (fun j hj=>Z.ob_lt hj);obtain⟨a1,c1,f2,b0,E,b4⟩:=e3.row i b3;have c0:=b0.out noY wr (ExtX.refl _) rfl;have b1:=L.out i b2 b3;rw[b1]at Q;have b8:Hid (n<=z[i].length):=hid (by rw[c.out.2 _ (c1E _)];omega);obtain⟨x,hx⟩:=zA (z[i]);rw[hx]at c0 E b4 Q b8;have b9:=b8.out;clear b0 hx b1;go_wp2_with (first|(with_reducible refine a0v a0r (by omega) (by assumption) ?_)|((with_reducible show wpList _ _ _ (⟨_,.slice _ _ _ _ _,_,_,_,_⟩::_) _ _);refine b7c a0w n rfl rfl rfl b4 b9 E ?_;intro H d9;have c9:RC (mk (un X V) wr) (.slice H (x.length - n) (c1 - n)) (x.drop n):=⟨H,c1 - n,by rw[List.length_drop],by rw[List.length_drop];omega,d9⟩)|(at_builtin;refine a0s (l:=I.take i) a0r rfl RC.elem (by omega) d0 i d6.out rfl rfl Z (.slice H (x.length - n) (c1 - n)) (x.drop n) rfl c9 (by omega) (by omega) ?_;intro e7 c3 w8 a6 c6 f3))
    clear c0;have c7:=hE.own Z (c1B _) c6;rw[Q.out]at a6;go_roundw
    case rel=>exact⟨i+1,e7,c3,by go_num,by go_num,by omega,a6,c7⟩
    case measure=>simp[intOf];omega
   ·have d5:i=n:=by omega
    subst d5;rw[c1D (by omega)]at Z;have hc:=Z.lenCap;have hs:=Z.sl RC.elem;go_wp2_with fail
    go_ret2
    exact⟨C.trans hE,.inr ⟨hr.out,.slice V i co,rfl,by rw[c8.out];exact⟨V,co,by rw[k.out],hc,hs⟩⟩⟩
end Go.Proofs.YtnnpfhoigmegcaaGreat
