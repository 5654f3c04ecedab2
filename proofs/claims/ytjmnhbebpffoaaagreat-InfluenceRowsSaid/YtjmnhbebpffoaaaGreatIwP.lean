/- Parts of a proof: each theorem states what it proves, and its conditions. -/
import Derived.Test.YtjmnhbebpffoaaaGreatIwO
set_option maxRecDepth 100000
set_option maxHeartbeats 1600000
namespace Go.Proofs.YtjmnhbebpffoaaaGreat
open Go.RowKit
abbrev a5z:=Bool×List Nat×List Nat
def QR(h:Mem)(u:Value)(x:a5z):Prop:=∃ao c bo e,u=.agg #[.bool x.1,.slice ao x.2.1.length c,.slice bo x.2.2.length e]/\x.2.1.length<=c/\x.2.2.length<=e/\Dig x.2.1/\Dig x.2.2/\x.2.1.length<=9223372036854775807/\x.2.2.length<=9223372036854775807/\Sl (a0c .u32) 1 h ao x.2.1/\Sl (a0c .u32) 1 h bo x.2.2
theorem QR.mono:a3K QR:=by rintro h n u x a ⟨ao,c,b,e,rfl,d,f,g,i,j,k,l,m⟩;exact⟨ao,c,b,e,rfl,d,f,g,i,j,k,l.mono (a0c.mono _) a,m.mono (a0c.mono _) a⟩
theorem QR.elem:Elem QR 3:=⟨QR.mono,by rintro h u x ⟨ao,c,b,e,rfl,_⟩;rfl,by
 rintro h u x ⟨ao,c,b,e,rfl,_⟩ v a;simp[a0g,Value.cells]at a;rcases a with rfl|rfl|rfl<;>rfl,by decide⟩
theorem QR.shape{h:Mem}{u:Value}{x:a5z}(b:QR h u x):∃ao c a e,u=.agg #[.bool x.1,.slice ao x.2.1.length c,.slice a x.2.2.length e]:=by
 obtain⟨ao,c,a,e,rfl,_⟩:=b;exact⟨_,_,_,_,rfl⟩
theorem QR.agg:∀h u y,QR h u y->∃a,u=.agg a:=by rintro h u x ⟨ao,c,b,e,rfl,_⟩;exact⟨_,rfl⟩
noncomputable def b6J(x:a5z):Rat:=b2y x.1 x.2.1 x.2.2
abbrev Few(k:Nat)(x:a5z):Prop:=x.2.1.length<=k/\x.2.2.length<=k
theorem QR.qv{h:Mem}{u:Value}{x:a5z}(l:QR h u x)(a:Few 68719476736 x):QV h u (b6J x):=by
 obtain⟨ao,c,b,e,rfl,d,f,g,i,_,_,j,k⟩:=l;exact⟨_,ao,c,_,b,e,_,rfl,d,f,g,i,a.1,a.2,j,k,rfl⟩
theorem QR.hq{h:Mem}{u:Value}{x:a5z}{k:Nat}(g:QR h u x)(a:Few k x)(f:1<=k):hq (b6J x)<=k:=by
 obtain⟨ao,c,i,e,rfl,j,l,b,d,_,_,m,n⟩:=g;exact a9v _ _ _ k b d a.1 a.2 f
theorem Sl.qvR{h:Mem}{ao:Option Addr}{l:List a5z}(s:Sl QR 3 h ao l)(e:∀x∈l,Few 68719476736 x):Sl QV 3 h ao (l.map b6J):=
 ⟨fun g=>s.1 (by simpa using g),fun i f=>by
  have a:i<l.length:=by simpa using f
  obtain⟨u,b,c,d⟩:=s.2 i a;exact⟨u,b,c,by rw[List.getElem_map];exact d.qv (e _ (c1E _))⟩⟩
theorem Sl.brR{h:Mem}{ao:Option Addr}{l:List a5z}{k:Nat}(s:Sl QR 3 h ao l)(b:∀x∈l,Few k x)(d:1<=k):BR k (l.map b6J):=fun q hq=>by
 obtain⟨x,e,rfl⟩:=List.mem_map.1 hq;obtain⟨i,c,rfl⟩:=List.getElem_of_mem e;obtain⟨u,f,g,a⟩:=s.2 i c;exact a.hq (b _ (c1E _)) d
abbrev RR:Mem->Value->List a5z->Prop:=SlV QR 3
abbrev MR:Mem->Value->List (List a5z)->Prop:=SlV RR 1
theorem RR.mono:a3K RR:=SlV.mono QR.mono 3
theorem RR.elem:Elem RR 1:=SlV.elem QR.elem
theorem RR.rv{h:Mem}{u:Value}{l:List a5z}(e:RR h u l)(d:∀x∈l,Few 68719476736 x):RV h u (l.map b6J):=by
 obtain⟨ao,c,rfl,a,b⟩:=e;exact⟨ao,c,by rw[List.length_map],by rw[List.length_map];exact a,b.qvR d⟩
theorem RR.br{h:Mem}{u:Value}{l:List a5z}{k:Nat}(e:RR h u l)(b:∀x∈l,Few k x)(d:1<=k):BR k (l.map b6J):=by
 obtain⟨ao,c,rfl,f,a⟩:=e;exact a.brR b d
noncomputable def b6K(m:List (List a5z)):List (List Rat):=m.map fun r=>r.map b6J
theorem MR.mv{h:Mem}{u:Value}{m:List (List a5z)}(j:MR h u m)(e:∀r∈m,∀x∈r,Few 68719476736 x):MV h u (b6K m):=by
 obtain⟨ao,c,rfl,d,b⟩:=j;refine⟨ao,c,by rw[b6K,List.length_map],by rw[b6K,List.length_map];exact d,fun g=>b.1 (by simpa[b6K]using g),fun i f=>?_⟩;have a:i<m.length:=by simpa[b6K]using f
 obtain⟨u,k,l,n⟩:=b.2 i a;exact⟨u,k,l,by simp only[b6K,List.getElem_map];exact RR.rv n (e _ (c1E _))⟩
theorem MR.bm{h:Mem}{u:Value}{m:List (List a5z)}{k:Nat}(g:MR h u m)(b:∀r∈m,∀x∈r,Few k x)(e:1<=k):BM k (b6K m):=fun r f=>by
 obtain⟨ao,c,rfl,n,a⟩:=g;obtain⟨y,j,rfl⟩:=List.mem_map.1 f;obtain⟨i,d,rfl⟩:=List.getElem_of_mem j;obtain⟨u,o,p,l⟩:=a.2 i d;exact RR.br l (b _ (c1E _)) e
section
open Go.ChangeShapes Go.WideShapes Go.ChangeAt Go.Deep
section
variable {H:Type} {enc:TypeId×Value->H} {w:World} {base:Nat} {spare:Nat->Bool} {held:Bool}
theorem b1i{α:Type}{R:Mem->Value->α->Prop}{t e:TypeId}{sz:Nat}(ht:Tryz.prog.underlying t=some (.slice e))(hC:Tryz.prog.cellsOf e=sz)(hz:0<sz)(hsize:∀h u x,R h u x->u.cells.size=sz)(hel:∀(n:Nat) (cs:List Value) (y:DataW H×List MemPlace),cs.length=sz->DataW.trod enc Tryz.prog w base spare held n e cs=some y->∃u x,a0g u=cs/\R w.cell? u x){fuel:Nat}{v:Value}{x:DataW H×List MemPlace}(h:DataW.trod enc Tryz.prog w base spare held fuel t [v]=some x):∃(a:Option Addr) (L:List α) (cap:Nat),v=.slice a L.length cap/\L.length<=cap/\cap<=9223372036854775807/\Sl R sz w.cell? a L:=by
 rcases open_slice ht h with⟨hcs,_⟩|⟨x,len,c,m,n,D,Pl,hcs,_,hl,hm,hmm,_,hi⟩
 ·exact⟨none,[],0,by simpa using hcs,by simp,by simp,Sl.nil _ _ _ _⟩
 ·have hml:len<=m:=by rw[hmm];split<;>omega
  have hmax:c<=9223372036854775807:=by simpa[maxLen]using hm
  have key:∀k,k<=len->∃L:List α,L.length=k/\∀i (hi:i<L.length),∃u,u.cells.size=sz/\(∀j (hj:j<u.cells.size),w.cell? (x.add (i*sz+j))=some u.cells[j])/\R w.cell? u L[i]:=by
   intro k
   induction k with
   |zero=>intro _;exact⟨[],rfl,by simp⟩
   |succ k ih=>
    intro hk;obtain⟨L,h1,h3⟩:=ih (by omega);obtain⟨cs',hc,ht'⟩:=hi k (by omega);rw[hC]at hc;obtain⟨_,hcl,hat⟩:=World.cells?_some hc;obtain⟨u,y,hu,hR⟩:=hel n cs' _ hcl ht';refine⟨L++[y],by simp[h1],fun i hi=>?_⟩;by_cases hik:i<L.length
    ·obtain⟨u,q1,q2,q3⟩:=h3 i hik
     exact⟨u,q1,q2,by simpa[List.getElem_append_left hik]using q3⟩
    ·have hik2:i=k:=by simp at hi;omega
     subst hik2;refine⟨u,hsize _ _ _ hR,fun j hj=>?_,?_⟩
     ·have hj2:j<sz:=by rw[hsize _ _ _ hR]at hj;exact hj
      have h5:=hat j (by omega);rw[Go.Deep.add_add]at h5;rw[h5];have h6:cs'[j]? =(a0g u)[j]?:=by rw[hu]
      rw[h6];simp[a0g,hj]
     ·simp only[h1.symm,List.getElem_concat_length]
      exact hR
  obtain⟨L,h1,h3⟩:=key len (c1B _);refine⟨some x,L,c,by rw[h1];simpa using hcs,by omega,by omega,⟨fun h0=>?_,fun i hi=>?_⟩⟩
  ·obtain⟨u,q1,q2,_⟩:=h3 0 h0
   obtain⟨_,b,off,hx⟩:=a3u (by simpa using q2 0 (by omega));exact⟨b,off,by rw[hx]⟩
  ·obtain⟨u,q1,q2,q3⟩:=h3 i hi
   obtain⟨v,p1,p2,_⟩:=h3 0 (by omega);have ha:=(a3u (by simpa using p2 0 (by omega))).1;exact⟨u,q1,fun j hj=>by rw[<-ha];exact q2 j hj,q3⟩
theorem b4e{k:Nat}{v:Value}{x:DataW H×List MemPlace}(h:DataW.trod enc Tryz.prog w base spare held k 43 [v]=some x):∃(a:Option Addr) (l:List Nat) (cap:Nat),v=.slice a l.length cap/\l.length<=cap/\l.length<=9223372036854775807/\Dig l/\Sl (a0c .u32) 1 w.cell? a l:=by
 rcases open_ints Tryz.underlying43 Tryz.underlying114 (by kernel_rfl) h with⟨f,_⟩|⟨x,len,c,g,f,_,K,C,hz,_,e,q⟩
 ·exact⟨none,[],0,by simpa using f,by simp,by simp,by simp[Dig],Sl.nil _ _ _ _⟩
 ·have F:len<=g.length:=by
   rw[hz];split<;>omega
  have A:∀n∈g,0<=n/\n<4294967296:=fun n D=>by
   have:=q n D;unfold Lit.wf at this;have:0<=n/\n<=4294967295:=by simpa[IntKind.min,IntKind.max,IntKind.signed,IntKind.bits]using this
   omega
  have o:((g.take len).map Int.toNat).length=len:=by simp;omega
  have y:c<=9223372036854775807:=by simpa[maxLen]using C
  refine⟨some x,(g.take len).map Int.toNat,c,by rw[o];simpa using f,by omega,by omega,fun d hd=>?_,fun G=>?_,fun i J=>?_⟩
  ·obtain⟨z,r,rfl⟩:=List.mem_map.1 hd
   have:=A z (List.mem_of_mem_take r);rw[a1t];omega
  ·obtain⟨_,b,s,E⟩:=a3u (e 0 (by omega))
   exact⟨b,s,by rw[E]⟩
  ·have m:i<g.length:=by omega
   refine⟨.int .u32 (((g.take len).map Int.toNat)[i]:Nat),rfl,fun j u=>?_,rfl⟩;have p:j=0:=by simp[Value.cells]at u;exact u
   subst p;have t:=e i m;have B:=(a3u (e 0 (by omega))).1 i;rw[B]at t;have I:=A g[i] (c1E _);simp only[Nat.mul_one,Nat.add_zero,List.getElem_map,List.getElem_take];rw[t];simp[List.getD_eq_getElem?_getD,m,Value.cells];omega
theorem b9R{f:Nat}{e:List Value}{x:DataW H×List MemPlace}(g:e.length=3)(h:DataW.trod enc Tryz.prog w base spare held f 47 e=some x):∃u y,a0g u=e/\QR w.cell? u y:=by
 obtain⟨q,J,P,Y,D,o,B⟩:=DataW.trod_struct Tryz.underlying47 h;have L:Tryz.prog.cellsOf 45=2:=by kernel_rfl
 have A:Tryz.prog.cellsOf 43=1:=by kernel_rfl
 have M:Tryz.prog.cellsOf 4=1:=by kernel_rfl
 have i:DataW.trod enc Tryz.prog w base spare held J 45 ((e.drop 0).take (Tryz.prog.cellsOf 45))=q[0]?:=B 0 _ rfl;have j:DataW.trod enc Tryz.prog w base spare held J 43 ((e.drop 2).take (Tryz.prog.cellsOf 43))=q[1]?:=B 1 _ rfl;have E:q.length=2:=o;obtain⟨a,b,c,rfl⟩:∃a b c,e= [a,b,c]:=by
  rcases e with _|⟨a,_|⟨b,_|⟨c,_|⟨d,r⟩⟩⟩⟩
  ·simp at g
  ·simp at g
  ·simp at g
  ·exact⟨a,b,c,rfl⟩
  ·simp at g
 rw[L]at i;rw[A]at j;rw[List.getElem?_eq_getElem (by omega)]at i j;obtain⟨t,K,_,_,_,p,C⟩:=DataW.trod_struct Tryz.underlying45 i;have k:DataW.trod enc Tryz.prog w base spare held K 4 (([a,b].drop 0).take (Tryz.prog.cellsOf 4))=t[0]?:=C 0 _ rfl;have l:DataW.trod enc Tryz.prog w base spare held K 43 (([a,b].drop 1).take (Tryz.prog.cellsOf 43))=t[1]?:=C 1 _ rfl;have F:t.length=2:=p;rw[M]at k;rw[A]at l;rw[List.getElem?_eq_getElem (by omega)]at k l;obtain⟨v,m,G,N,Q,R,S,T⟩:=b4e l;obtain⟨z,d,I,O,U,V,W,X⟩:=b4e j;obtain⟨s,n,_⟩:=DataW.trod_bool Tryz.underlying4 k;have n:a=.bool s:=by simpa using n
 subst n N O;exact⟨.agg #[.bool s,.slice v m.length G,.slice z d.length I],(s,m,d),rfl,v,G,z,I,rfl,Q,U,S,W,R,V,T,X⟩
theorem b4f{b:Nat}{v:Value}{x:DataW H×List MemPlace}(h:DataW.trod enc Tryz.prog w base spare held b 24 [v]=some x):∃(a:Option Addr) (L:List a5z) (cap:Nat),v=.slice a L.length cap/\L.length<=cap/\cap<=9223372036854775807/\Sl QR 3 w.cell? a L:=
 b1i (R:=QR) Tryz.underlying24 (by kernel_rfl) (by decide) QR.elem.size (fun _ _ _ c h=>b9R c h) h
theorem b5U{fuel:Nat}{v:Value}{x:DataW H×List MemPlace}(h:DataW.trod enc Tryz.prog w base spare held fuel 23 [v]=some x):∃(a:Option Addr) (L:List (List a5z)) (cap:Nat),v=.slice a L.length cap/\L.length<=cap/\cap<=9223372036854775807/\Sl RR 1 w.cell? a L:=
 b1i (R:=RR) Tryz.underlying23 (by kernel_rfl) (by decide) RR.elem.size (fun _ cs _ hl h=>by
  match cs,hl with
  | [a],_=>
   obtain⟨ao,L,cap,rfl,h1,h2,h3⟩:=b4f h;exact⟨.slice ao L.length cap,L,rfl,ao,cap,rfl,h1,h3⟩) h
end
end
theorem Sl.raw{X:Nat->Bool}{w:World}{ao:Option Addr}{l:List a5z}(s:Sl QR 3 (mk X w) ao l)(i:Nat)(q:i<l.length):∃g o a c d e,adr ao (i*3)=⟨g,o,none⟩/\X g=false/\Hid (∀Y W',ExtX Y w W'->Y g=false->W'.cell? ⟨g,o,none⟩=some (.bool l[i].1)/\W'.cell? ⟨g,o+1,none⟩=some (.slice a l[i].2.1.length c)/\W'.cell? ⟨g,o+2,none⟩=some (.slice d l[i].2.2.length e))/\QR (mk X w) (.agg #[.bool l[i].1,.slice a l[i].2.1.length c,.slice d l[i].2.2.length e]) l[i]:=by
 obtain⟨u,t,b,k⟩:=s.2 i q;obtain⟨a,c,d,e,rfl⟩:=k.shape;have j:=b 0 (by simp[Value.cells]);have m:=b 1 (by simp[Value.cells]);have n:=b 2 (by simp[Value.cells]);refine⟨(adr ao (i*3)).block,(adr ao (i*3)).off,a,c,d,e,rfl,?_,hid fun Y W' f h=>⟨?_,?_,?_⟩,k⟩
 ·cases r:X (adr ao (i*3)).block
  ·rfl
  ·have p:mk X w (adr ao (i*3))=some (.bool l[i].1):=j
   simp[mk,r]at p
 ·exact f.cellY (a1H j) h
 ·exact f.cellY (a1H m) h
 ·exact f.cellY (a1H n) h
theorem Sl.rowR{α:Type}{R:Mem->Value->α->Prop}{sz:Nat}{X:Nat->Bool}{w:World}{ao:Option Addr}{m:List (List α)}(s:Sl (SlV R sz) 1 (mk X w) ao m)(i:Nat)(h:i<m.length):∃a c,X (adr ao i).block=false/\Hid (∀Y W',ExtX Y w W'->Y (adr ao i).block=false->W'.cell? (adr ao i)=some (.slice a m[i].length c))/\m[i].length<=c/\Sl R sz (mk X w) a m[i]:=by
 obtain⟨u,b,a,c,rfl,d,e⟩:=s.cell SlV.one i h;refine⟨a,c,?_,hid fun Y W' f g=>f.cellY (a1H b) g,d,e⟩;cases j:X (adr ao i).block
 ·rfl
 ·simp[mk,j]at b
theorem Few.dec{k n m:Nat}{x:a5z}(a:x.2.1.length=n)(b:x.2.2.length=m):(decide (n<=k)&&decide (m<=k))=true↔Few k x:=by
 rw[Bool.and_eq_true,decide_eq_true_eq,decide_eq_true_eq];subst a b;exact Iff.rfl
theorem a7B(w:World)(s:Bool)(ao l:Option Addr)(n c k e:Nat):Calls Tryz.prog 17 #[.agg #[.bool s,.slice ao n c,.slice l k e]] w (a7U w (decide (n<=8)&&decide (k<=8))):=by
 obtain⟨W,q,j,g,hz⟩:=a0Y w #[.bool s,.slice ao n c,.slice l k e] 47;obtain⟨b,m⟩:=c1F w.heap.size;rw[m]at g hz;have o:=g.cell 1 rfl;have p:=g.cell 2 rfl;clear hz;by_cases a:n<=8
 ·have h:(n:Int)<=8:=by omega
  by_cases f:k<=8
  ·have i:(k:Int)<=8:=by omega
   have d:=hid (show true=(decide (n<=8)&&decide (k<=8))by simp[a,f]);clear a f;go_enter Tryz.func17,Tryz.ntmps17
   go_wp2_with fail
   go_ret
   exact⟨j,a0m d.out⟩
  ·have i:¬(k:Int)<=8:=by omega
   have d:=hid (show false=(decide (n<=8)&&decide (k<=8))by simp[f]);clear a f;go_enter Tryz.func17,Tryz.ntmps17
   go_wp2_with fail
   go_ret
   exact⟨j,a0m d.out⟩
 ·have h:¬(n:Int)<=8:=by omega
  have d:=hid (show false=(decide (n<=8)&&decide (k<=8))by simp[a]);clear a;go_enter Tryz.func17,Tryz.ntmps17
  go_wp2_with fail
  go_ret
  exact⟨j,a0m d.out⟩
def lightL(l:List a5z)(most:Nat):Bool:=decide (l.length<=most/\∀x∈l,Few 8 x)
def lightM(m:List (List a5z))(r c:Nat):Bool:=decide (m.length<=r/\∀x∈m,lightL x c=true)
theorem a5w(X:Nat->Bool)(w:World)(u:Value)(l:List a5z)(b:Nat)(T:RR (mk X w) u l)(hm:b<=1000):Calls Tryz.prog 5 #[u,.int .i64 (b:Int)] w (a7U w (lightL l b)):=by
 obtain⟨ao,Y,rfl,E,z⟩:=T;have Q:=z.hd;by_cases C:l.length<=b
 ·have I:¬(b:Int)<(l.length:Int):=by omega
  have A:Hid ((∀p (f:p<l.length),Few 8 l[p])->lightL l b=true):=hid fun h=>decide_eq_true ⟨C,fun x U=>by obtain⟨p,f,rfl⟩:=List.getElem_of_mem U;exact h p f⟩;have J:Hid (∀p (f:p<l.length),¬Few 8 l[p]->lightL l b=false):=hid fun p f h=>decide_eq_false fun O=>h (O.2 _ (c1E _));obtain⟨n,H⟩:=c1F l.length;have s:=hid H;have R:n<=1000:=by omega
  rw[H]at Q I |-;clear C H E;go_enter Tryz.func5,Tryz.ntmps5
  go_wp2_with fail
  go_loopw [5] (fun c wr=>∃i:Nat,c=.int .i64 i/\i<=n/\Hid (∀p (f:p<l.length),p<i->Few 8 l[p])/\Ext w wr) (fun c _=>n - (intOf c).toNat)
  case atStart=>exact⟨0,rfl,Nat.zero_le _,hid (fun p f h=>by omega),ExtX.refl _⟩
  case round=>
   obtain⟨i,rfl,hi,t,B⟩:=hrel;by_cases G:i<n
   ·have j:i<l.length:=by rw[s.out];exact G
    have m:=z.mono QR.mono (a0k B);obtain⟨g,o,a,c,d,e,_,_,_,hq⟩:=m.raw i j;by_cases r:Few 8 l[i]
    ·have D:Hid ((decide (l[i].2.1.length<=8)&&decide (l[i].2.2.length<=8))=true):=hid ((Few.dec rfl rfl).2 r)
     have v:Hid (∀p (f:p<l.length),p<i+1->Few 8 l[p]):=hid fun p f S=>by
      by_cases h:p=i
      ·subst h;exact r
      ·exact t.out p f (by omega)
     clear r;go_wp2_with (first|(with_reducible refine a1w a0x ?_)|((with_reducible refine c1K (t:=47) ?_);refine a0z a0p i m j rfl (by simp) QR.agg ?_;intro V q;obtain⟨K,L,M,e5,rfl⟩:=q.shape))
     refine(a7B wr _ _ _ _ _ _ _).mono ?_;rintro N W ⟨k,rfl⟩;rw[D.out];go_wp2_with fail
     go_roundw
     case rel=>exact⟨i+1,by go_num,by omega,v,B.trans k⟩
     case measure=>simp[intOf];omega
    ·have D:Hid ((decide (l[i].2.1.length<=8)&&decide (l[i].2.2.length<=8))=false):=hid (by
      cases P:(decide (l[i].2.1.length<=8)&&decide (l[i].2.2.length<=8))
      ·rfl
      ·exact absurd ((Few.dec rfl rfl).1 P) r)
     have y:=hid (J.out i j r).symm;clear r;go_wp2_with (first|(with_reducible refine a1w a0x ?_)|((with_reducible refine c1K (t:=47) ?_);refine a0z a0p i m j rfl (by simp) QR.agg ?_;intro V q;obtain⟨K,L,M,e5,rfl⟩:=q.shape))
     refine(a7B wr _ _ _ _ _ _ _).mono ?_;rintro N W ⟨k,rfl⟩;rw[D.out];go_wp2_with fail
     go_ret
     exact⟨B.trans k,a0m y.out⟩
   ·have y:=hid (A.out fun p f=>t.out p f (by rw[s.out]at f;omega)).symm
    have F:i=n:=by omega
    subst F;go_wp2_with fail
    go_ret
    exact⟨B,a0m y.out⟩
 ·have Z:(b:Int)<(l.length:Int):=by omega
  have y:Hid (false=lightL l b):=hid (decide_eq_false fun h=>C h.1).symm;clear C;go_enter Tryz.func5,Tryz.ntmps5
  go_wp2_with fail
  go_ret
  exact⟨ExtX.refl _,a0m y.out⟩
theorem a9h(X:Nat->Bool)(w:World)(u:Value)(m:List (List a5z))(r c:Nat)(S:MR (mk X w) u m)(f:r<=1000)(O:c<=1000):Calls Tryz.prog 4 #[u,.int .i64 (r:Int),.int .i64 (c:Int)] w (a7U w (lightM m r c)):=by
 obtain⟨ao,V,rfl,C,t⟩:=S;have P:=t.hd;by_cases A:m.length<=r
 ·have G:¬(r:Int)<(m.length:Int):=by omega
  have v:Hid ((∀p (a:p<m.length),lightL m[p] c=true)->lightM m r c=true):=hid fun h=>decide_eq_true ⟨A,fun x T=>by obtain⟨p,a,rfl⟩:=List.getElem_of_mem T;exact h p a⟩;have H:Hid (∀p (a:p<m.length),lightL m[p] c=false->lightM m r c=false):=hid fun p a h=>decide_eq_false fun M=>by have:=M.2 _ (c1E a);rw[h]at this;simp at this
  obtain⟨n,F⟩:=c1F m.length;have l:=hid F;have Q:n<=1000:=by omega
  rw[F]at P G |-;clear A F C;go_enter Tryz.func4,Tryz.ntmps4
  go_wp2_with fail
  go_loopw [7] (fun B wr=>∃i:Nat,B=.int .i64 i/\i<=n/\Hid (∀p (a:p<m.length),p<i->lightL m[p] c=true)/\Ext w wr) (fun B _=>n - (intOf B).toNat)
  case atStart=>exact⟨0,rfl,Nat.zero_le _,hid (fun p a h=>by omega),ExtX.refl _⟩
  case round=>
   obtain⟨i,rfl,Y,o,z⟩:=hrel;by_cases E:i<n
   ·have k:i<m.length:=by rw[l.out];exact E
    have I:=t.mono RR.mono (a0k z);obtain⟨J,K,N,g,j,s⟩:=I.rowR i k;have y:=g.out noY wr (ExtX.refl _) rfl;have b:=a5w X wr (.slice J m[i].length K) m[i] c ⟨J,K,rfl,j,s⟩ O;clear g s;cases e:lightL m[i] c
    ·rw[e]at b
     have f:=hid (H.out i k e).symm;clear e;go_wp2_with (with_reducible refine a0v a0o ?_)
     refine b.mono ?_;rintro L U ⟨d,rfl⟩;clear y;go_wp2_with fail
     go_ret
     exact⟨z.trans d,a0m f.out⟩
    ·rw[e]at b
     have q:Hid (∀p (a:p<m.length),p<i+1->lightL m[p] c=true):=hid fun p a R=>by
      by_cases h:p=i
      ·subst h;exact e
      ·exact o.out p a (by omega)
     clear e;go_wp2_with (with_reducible refine a0v a0o ?_)
     refine b.mono ?_;rintro L U ⟨d,rfl⟩;clear y;go_wp2_with fail
     go_roundw
     case rel=>exact⟨i+1,by go_num,by omega,q,z.trans d⟩
     case measure=>simp[intOf];omega
   ·have f:=hid (v.out fun p a=>o.out p a (by rw[l.out]at a;omega)).symm
    have D:i=n:=by omega
    subst D;go_wp2_with fail
    go_ret
    exact⟨z,a0m f.out⟩
 ·have W:(r:Int)<(m.length:Int):=by omega
  have f:Hid (false=lightM m r c):=hid (decide_eq_false fun h=>A h.1).symm;clear A;go_enter Tryz.func4,Tryz.ntmps4
  go_wp2_with fail
  go_ret
  exact⟨ExtX.refl _,a0m f.out⟩
theorem a9i(X:Nat->Bool)(w:World)(u v:Value)(x y:Rat)(t:QC (mk X w) u x)(A:QC (mk X w) v y)(q:hq x<=68719476736):Calls Tryz.prog 22 #[u,v] w (a7U w (decide (x=y))):=by
 replace q:=hid q
 obtain⟨U,F,S,H,J,Q,L,rfl⟩:=t.shape;obtain⟨V,G,T,I,K,R,M,rfl⟩:=A.shape;obtain⟨W,Y,p,n,o,hz⟩:=a1K w #[.bool U,.slice F S H,.slice J Q L] #[.bool V,.slice G T I,.slice K R M] 47 47;have z:=mkx QC.mono t p;have B:=mkx QC.mono A p;obtain⟨b,N⟩:=c1F w.heap.size;rw[N]at n o hz;have i:=n.cell 0 rfl;have j:=n.cell 1 rfl;have k:=o.cell 0 rfl;have l:=o.cell 1 rfl;clear t A;obtain⟨f,_,C⟩:=z.num;obtain⟨g,_,D⟩:=B.num;have d:=hid (c1A (a0G x) (c1A q.out (by decide:(68719476736:Nat)<=1099511627776)));have r:=hid (c1A (b7a x) (c1A q.out (by decide:(68719476736:Nat)<=1099511627776)));by_cases c:x.num=y.num
 ·have s:Hid (decide (dn x=dn y)=decide (x=y)):=hid (by
   rw[Bool.eq_iff_iff,decide_eq_true_eq,decide_eq_true_eq];constructor
   ·intro h
    refine Rat.ext c ?_;have:=a4d x;have:=a4d y;unfold dn at h;have:=x.den_nz;have:=y.den_nz;split at h<;>split at h<;>omega
   ·rintro rfl;rfl)
  have hd:Hid (decide (x.num=y.num)=true):=hid (decide_eq_true c);clear c;go_enter Tryz.func22,Tryz.ntmps22
  go_wp2_with fail
  refine(b6u X W _ _ _ _ f g d.out).mono ?_;rintro e E ⟨a,rfl⟩;rw[hd.out];have O:=(n.ext0 a).cell 2 rfl;have P:=(o.ext0 a).cell 2 rfl;clear i j k l;go_wp2_with fail
  refine(b6r X E _ _ _ _ (mkx NC.mono C a) (mkx NC.mono D a) r.out).mono ?_;rintro e Z ⟨rfl,m,rfl⟩;go_wp2_with fail
  go_ret
  exact⟨(p.trans a).drewN m,a0m s.out⟩
 ·have s:Hid (false=decide (x=y)):=hid (decide_eq_false (by rintro rfl;exact c rfl)).symm
  have hd:Hid (decide (x.num=y.num)=false):=hid (decide_eq_false c);clear c;go_enter Tryz.func22,Tryz.ntmps22
  go_wp2_with fail
  refine(b6u X W _ _ _ _ f g d.out).mono ?_;rintro e E ⟨a,rfl⟩;rw[hd.out];clear i j k l;go_wp2_with fail
  go_ret
  exact⟨p.trans a,a0m s.out⟩
theorem b2d{a b:List Rat}(e:a.length=b.length)(h:∀p,p<a.length->∀(f:p<a.length) (hq:p<b.length),a[p]=b[p]):a=b:=List.ext_getElem e fun i c d=>h i c c d
theorem a4t(X:Nat->Bool)(w:World)(u v:Value)(a b:List Rat)(hu:RC (mk X w) u a)(t:RC (mk X w) v b)(hB:BR 68719476736 a)(b3:a.length<=1099511627776):Calls Tryz.prog 16 #[u,v] w (a7U w (decide (a=b))):=by
 obtain⟨ao,ca,rfl,b1,I⟩:=hu;obtain⟨bo,cb,rfl,b2,J⟩:=t;have a3:=I.hd;have a4:=J.hd;have a0:=hid hB;clear hB;by_cases d:a.length=b.length
 ·have b0:b.length<=a.length:=by omega
  have a9:a.length<=b.length:=by omega
  have a6:((a.length:Int) !=b.length)=false:=b0B (by omega);have s:=hid d;clear d;go_enter Tryz.func16,Tryz.ntmps16
  go_wp2_with fail
  go_loopw [5] (fun c wr=>∃i:Nat,c=.int .i64 i/\i<=a.length/\Hid (∀p,p<i->∀(hp:p<a.length) (hq:p<b.length),a[p]=b[p])/\Ext w wr) (fun c _=>a.length - (intOf c).toNat)
  case atStart=>exact⟨0,rfl,Nat.zero_le _,fun p hp=>by omega,ExtX.refl _⟩
  case round=>
   obtain⟨i,rfl,hi,F,z⟩:=hrel;by_cases a5:i<a.length
   ·have E:i<b.length:=by omega
    obtain⟨k,m,s1,T,n1,V,Z,k1,e1,C,a7,A,G⟩:=(I.mono QC.mono (a0k z)).rat QC.shaped i a5;obtain⟨l,n,s2,U,n2,Y,d2,k2,e2,D,a8,B,H⟩:=(J.mono QC.mono (a0k z)).rat QC.shaped i E;have i1:∀W,(Instr.indexAt 24 (.slice ao a.length ca) (.int .i64 (i:Int))).run Tryz.prog W=.ok (.pointer (some ⟨k,m,none⟩)) W:=by rw[<-C];exact a0e a0x ao a.length ca .i64 i a3 (by omega)
    have i2:∀W,(Instr.indexAt 24 (.slice bo b.length cb) (.int .i64 (i:Int))).run Tryz.prog W=.ok (.pointer (some ⟨l,n,none⟩)) W:=by rw[<-D];exact a0e a0x bo b.length cb .i64 i a4 (by omega)
    have o:=c1L wr;have hS:Hid (∀W',Ext wr.drew W'->W'.cell? ⟨k,m,none⟩=some (.bool s1)/\W'.cell? ⟨k,m+1,none⟩=some (.slice T n1 V)/\W'.cell? ⟨k,m+2,none⟩=some (.slice Z k1 e1)/\W'.cell? ⟨l,n,none⟩=some (.bool s2)/\W'.cell? ⟨l,n+1,none⟩=some (.slice U n2 Y)/\W'.cell? ⟨l,n+2,none⟩=some (.slice d2 k2 e2)):=hid fun W' h=>by
     have p1:=A.out noY W' (o.trans h) rfl;have p2:=B.out noY W' (o.trans h) rfl;exact⟨p1.1,p1.2.1,p1.2.2,p2.1,p2.2.1,p2.2.2⟩
    obtain⟨M,N,O,P,Q,R⟩:=hS.out wr.drew (ExtX.refl _);have r:=hid (a0.out a[i] (c1E _));have g:QC (mk X wr.drew) (.agg #[.bool s1,.slice T n1 V,.slice Z k1 e1]) a[i]:=G;have j:QC (mk X wr.drew) (.agg #[.bool s2,.slice U n2 Y,.slice d2 k2 e2]) b[i]:=H;obtain⟨x,hx⟩:=c1F (a[i]);obtain⟨y,hy⟩:=c1F (b[i]);rw[hx]at g r;rw[hy]at j;have K:=hid hx;have L:=hid hy;clear hx hy A B C D G H;by_cases e:x=y
    ·have hn:Hid (∀(hp:i<a.length) (hq:i<b.length),a[i]=b[i]):=hid fun _ _=>by rw[K.out,L.out,e]
     have hb:=hid (decide_eq_true e);clear e;go_wp2_with fail
     go_region_held3 (fun f=>f.cell? ⟨k,m,none⟩=some (.bool s1)/\f.cell? ⟨k,m+1,none⟩=some (.slice T n1 V)/\f.cell? ⟨k,m+2,none⟩=some (.slice Z k1 e1)/\f.cell? ⟨l,n,none⟩=some (.bool s2)/\f.cell? ⟨l,n+1,none⟩=some (.slice U n2 Y)/\f.cell? ⟨l,n+2,none⟩=some (.slice d2 k2 e2))
      (first|exact hS.out _ S|go_keep)
      ((go_at_call 22;(with_reducible refine(a9i X wr.drew _ _ x y g j r.out).mono ?_);rintro ee w5 ⟨S,rfl⟩;rw[hb.out]))
     have q:=z.trans (o.trans S);clear M N O P Q R;go_wp2_with fail
     go_roundw
     case rel=>exact⟨i+1,by go_num,by omega,a5b F.out hn.out,q⟩
     case measure=>simp[intOf];omega
    ·have t:Hid (false=decide (a=b)):=hid (by
      symm;rw[decide_eq_false_iff_not];intro h;subst h;exact e (K.out.symm.trans L.out))
     have hb:=hid (decide_eq_false e);clear e;go_wp2_with fail
     go_region_held3 (fun f=>f.cell? ⟨k,m,none⟩=some (.bool s1)/\f.cell? ⟨k,m+1,none⟩=some (.slice T n1 V)/\f.cell? ⟨k,m+2,none⟩=some (.slice Z k1 e1)/\f.cell? ⟨l,n,none⟩=some (.bool s2)/\f.cell? ⟨l,n+1,none⟩=some (.slice U n2 Y)/\f.cell? ⟨l,n+2,none⟩=some (.slice d2 k2 e2))
      (first|exact hS.out _ S|go_keep)
      ((go_at_call 22;(with_reducible refine(a9i X wr.drew _ _ x y g j r.out).mono ?_);rintro ee w5 ⟨S,rfl⟩;rw[hb.out]))
     have q:=z.trans (o.trans S);clear M N O P Q R;go_wp2_with fail
     go_ret
     exact⟨q,a0m t.out⟩
   ·have t:Hid (true=decide (a=b)):=hid (by
     symm;rw[decide_eq_true_eq];exact b2d s.out fun p hp=>F.out p (by omega))
    go_wp2_with fail
    go_ret
    exact⟨z,a0m t.out⟩
 ·have a6:((a.length:Int) !=b.length)=true:=a7c (by omega)
  have t:Hid (false=decide (a=b)):=hid (by
   symm;rw[decide_eq_false_iff_not];intro h;subst h;exact d rfl)
  clear d;go_enter Tryz.func16,Tryz.ntmps16
  go_wp2_with fail
  go_ret
  exact⟨ExtX.refl _,a0m t.out⟩
theorem b0k{a b:List (List Rat)}(e:a.length=b.length)(h:∀p,p<a.length->∀(f:p<a.length) (hq:p<b.length),a[p]=b[p]):a=b:=List.ext_getElem e fun i c d=>h i c c d
theorem a6X(X:Nat->Bool)(w:World)(u v:Value)(a b:List (List Rat))(hu:MC (mk X w) u a)(s:MC (mk X w) v b)(hB:BM 68719476736 a)(b1:a.length<=1099511627776)(N:∀r∈a,r.length<=1099511627776):Calls Tryz.prog 15 #[u,v] w (a7U w (decide (a=b))):=by
 obtain⟨ao,ca,rfl,a9,P⟩:=hu;obtain⟨A,cb,rfl,b0,Q⟩:=s;have Z:=P.hd;have a0:=Q.hd;have V:=hid hB;have O:=hid N;clear hB N;by_cases d:a.length=b.length
 ·have a8:b.length<=a.length:=by omega
  have a7:a.length<=b.length:=by omega
  have a4:((a.length:Int) !=b.length)=false:=b0B (by omega);have q:=hid d;clear d;go_enter Tryz.func15,Tryz.ntmps15
  go_wp2_with fail
  go_loopw [5] (fun c wr=>∃i:Nat,c=.int .i64 i/\i<=a.length/\Hid (∀p,p<i->∀(hp:p<a.length) (hq:p<b.length),a[p]=b[p])/\Ext w wr) (fun c _=>a.length - (intOf c).toNat)
  case atStart=>exact⟨0,rfl,Nat.zero_le _,fun p hp=>by omega,ExtX.refl _⟩
  case round=>
   obtain⟨i,rfl,hi,K,F⟩:=hrel;by_cases a3:i<a.length
   ·have J:i<b.length:=by omega
    obtain⟨B,D,a5,H,l,L⟩:=(P.mono RC.mono (a0k F)).row i a3;obtain⟨C,E,a6,I,m,M⟩:=(Q.mono RC.mono (a0k F)).row i J;have i1:∀W,(Instr.indexAt 23 (.slice ao a.length ca) (.int .i64 (i:Int))).run Tryz.prog W=.ok (.pointer (some (adr ao i))) W:=a0y a0o ao a.length ca .i64 i Z (by omega) rfl;have i2:∀W,(Instr.indexAt 23 (.slice A b.length cb) (.int .i64 (i:Int))).run Tryz.prog W=.ok (.pointer (some (adr A i))) W:=a0y a0o A b.length cb .i64 i a0 (by omega) rfl;have k:=c1L wr;have G:Hid (∀W',Ext wr.drew W'->W'.cell? (adr ao i)=some (.slice B a[i].length D)/\W'.cell? (adr A i)=some (.slice C b[i].length E)):=hid fun W' h=>⟨H.out noY W' (k.trans h) rfl,I.out noY W' (k.trans h) rfl⟩;obtain⟨t,z⟩:=G.out wr.drew (ExtX.refl _);have o:=hid (V.out a[i] (c1E _));have f:=hid (O.out a[i] (c1E _));have g:RC (mk X wr.drew) (.slice B a[i].length D) a[i]:=⟨B,D,rfl,l,L⟩;have j:RC (mk X wr.drew) (.slice C b[i].length E) b[i]:=⟨C,E,rfl,m,M⟩;obtain⟨x,hx⟩:=c1F (a[i]);obtain⟨y,hy⟩:=c1F (b[i]);rw[hx]at g o f t G;rw[hy]at j z G;have R:=hid hx;have S:=hid hy;clear hx hy H I L M l m;by_cases e:x=y
    ·have hn:Hid (∀(hp:i<a.length) (hq:i<b.length),a[i]=b[i]):=hid fun _ _=>by rw[R.out,S.out,e]
     have Y:=hid (decide_eq_true e);clear e;go_wp2_with fail
     go_region_held3 (fun U=>U.cell? (adr ao i)=some (.slice B x.length D)/\U.cell? (adr A i)=some (.slice C y.length E))
      (first|exact G.out _ T|go_keep)
      ((go_at_call 16;(with_reducible refine(a4t X wr.drew _ _ x y g j o.out f.out).mono ?_);rintro ee w5 ⟨T,rfl⟩;rw[Y.out]))
     have n:=F.trans (k.trans T);clear t z;go_wp2_with fail
     go_roundw
     case rel=>exact⟨i+1,by go_num,by omega,a5b K.out hn.out,n⟩
     case measure=>simp[intOf];omega
    ·have s:Hid (false=decide (a=b)):=hid (by
      symm;rw[decide_eq_false_iff_not];intro h;subst h;exact e (R.out.symm.trans S.out))
     have Y:=hid (decide_eq_false e);clear e;go_wp2_with fail
     go_region_held3 (fun U=>U.cell? (adr ao i)=some (.slice B x.length D)/\U.cell? (adr A i)=some (.slice C y.length E))
      (first|exact G.out _ T|go_keep)
      ((go_at_call 16;(with_reducible refine(a4t X wr.drew _ _ x y g j o.out f.out).mono ?_);rintro ee w5 ⟨T,rfl⟩;rw[Y.out]))
     have n:=F.trans (k.trans T);clear t z;go_wp2_with fail
     go_ret
     exact⟨n,a0m s.out⟩
   ·have s:Hid (true=decide (a=b)):=hid (by
     symm;rw[decide_eq_true_eq];exact b0k q.out fun p hp=>K.out p (by omega))
    go_wp2_with fail
    go_ret
    exact⟨F,a0m s.out⟩
 ·have a4:((a.length:Int) !=b.length)=true:=a7c (by omega)
  have s:Hid (false=decide (a=b)):=hid (by
   symm;rw[decide_eq_false_iff_not];intro h;subst h;exact d rfl)
  clear d;go_enter Tryz.func15,Tryz.ntmps15
  go_wp2_with fail
  go_ret
  exact⟨ExtX.refl _,a0m s.out⟩
def ddS(out:List Rat)(v:Rat):List Rat:=if out.getLast?=some v then out else out++[v]
def dd(s:List Rat):List Rat:=s.foldl ddS []
theorem b4g(s:List Rat)(v:Rat):dd (s++[v])=ddS (dd s) v:=by simp[dd,List.foldl_append]
theorem b5V(o:List Rat)(v:Rat):(ddS o v).getLast?=some v:=by
 unfold ddS;split
 ·assumption
 ·simp
theorem a8n:∀(n:Nat) (s:List Rat),s.length=n->s.Pairwise (· <= ·)->(∀x,x∈dd s↔x∈s)/\(dd s).Pairwise (· < ·)/\(dd s).getLast?=s.getLast?
 |0,s,h,_=>by
  obtain rfl:s= []:=List.length_eq_zero_iff.1 h;simp[dd]
 |n+1,s,h,hp=>by
  rcases List.eq_nil_or_concat s with rfl|⟨s',v,rfl⟩
  ·simp at h
  ·rw[List.concat_eq_append]at*
   rw[List.pairwise_append]at hp;obtain⟨h1,h2,h3⟩:=a8n n s' (by simpa using h) hp.1;rw[b4g];refine⟨fun x=>?_,?_,by rw[b5V];simp⟩
   ·unfold ddS
    split
    ·rename_i e
     rw[h1,List.mem_append,List.mem_singleton];refine⟨Or.inl,fun hx=>?_⟩;rcases hx with hx|rfl
     ·exact hx
     ·exact(h1 _).1 (List.mem_of_getLast? e)
    ·rw[List.mem_append,List.mem_append,h1]
   ·unfold ddS
    split
    ·exact h2
    ·rename_i e
     rw[List.pairwise_append];refine⟨h2,List.pairwise_singleton _ _,fun a ha b hb=>?_⟩;obtain rfl:=List.mem_singleton.1 hb;have hle:=hp.2.2 a ((h1 a).1 ha) b (List.mem_singleton.2 rfl);rcases Rat.le_iff_lt_or_eq.1 hle with hl|rfl
     ·exact hl
     ·exfalso
      obtain⟨c,hc⟩:∃c,(dd s').getLast?=some c:=by
       cases hd:(dd s').getLast? with
       |none=>rw[List.getLast?_eq_none_iff]at hd;rw[hd]at ha;simp at ha
       |some c=>exact⟨c,rfl⟩
      have hcl:c<=a:=hp.2.2 c ((h1 c).1 (List.mem_of_getLast? hc)) a (List.mem_singleton.2 rfl);have hca:c≠a:=fun h=>e (h▸hc);obtain⟨i,hi,hia⟩:=List.getElem_of_mem ha;have hcl2:(dd s')[(dd s').length - 1]'(by omega)=c:=by
       have:=hc;rw[List.getLast?_eq_getElem?,List.getElem?_eq_getElem (by omega)]at this;simpa using this
      rcases Nat.lt_or_ge i ((dd s').length - 1)with hlt|hge
      ·have:=List.pairwise_iff_getElem.1 h2 i ((dd s').length - 1) hi (by omega) hlt
       rw[hia,hcl2]at this;exact absurd hcl (Rat.not_le.2 this)
      ·have hie:i=(dd s').length - 1:=by omega
       subst hie;exact hca (by rw[<-hcl2,hia])
def loE(e:List Rat)(i:Nat):Option Rat:=if i=0 then none else some (fn e (i - 1))
def hiE(e:List Rat)(i:Nat):Option Rat:=if i=e.length then none else some (fn e i)
def ptP(e:List Rat)(i:Nat):Rat:=if i=0 then fn e 0 else fn e (i - 1)
def ptQ(e:List Rat)(i:Nat):Rat:=if i=0 then fn e 0 - 1 else if i=e.length then fn e (i - 1)+1 else fn e i
def pcE(f:Rat->Rat)(e:List Rat)(i:Nat):Pc:=⟨loE e i,hiE e i,a5p f (ptP e i) (ptQ e i),a4i f (ptP e i) (ptQ e i)⟩
theorem c0O{e:List Rat}{i:Nat}(h:i<e.length):fn e i=e[i]:=by simp[fn,List.getD_eq_getElem?_getD,h]
def a6g(out:List Pc)(p:Pc):List Pc:=
 match out.getLast? with
 |some o=>if o.a=p.a/\o.b=p.b then out.dropLast++[{o with hi:=p.hi}]else out++[p]
 |none=>[p]
def a9s(f:Rat->Rat)(e:List Rat)(n:Nat):List Pc:=(List.range n).map (pcE f e)
def b1j(f:Rat->Rat)(e:List Rat)(n:Nat):List Pc:=(a9s f e n).foldl a6g []
theorem a4n(f:Rat->Rat)(e:List Rat)(n:Nat):b1j f e (n+1)=a6g (b1j f e n) (pcE f e n):=by simp[b1j,a9s,List.range_succ,List.foldl_append]
def b9S(k t:Int)(l:List Rat):List Pc:=b1j (fun z=>a5o k t (l++[z])) (dd (srt l)) ((dd (srt l)).length+1)
theorem a9j{k t:Int}{l:List Rat}{B:Nat}(h:YtjmnhbebpffoaaaGreat.BR B l)(j:l.length<=20)(g:B<=1000000):hq (a5o k t l)<=50000000:=by
 unfold a5o;have c:(a8p (srt l) (rkA k t l.length) (rkB k t l.length)).length<=20:=by
  unfold a8p;rw[List.length_take,List.length_drop,a8g];omega
 have b:=b3F (n:=20) (b3E (b3D h) (rkA k t l.length) (rkB k t l.length)) c _ (c1B _);have d:=hq_div (b1F (a8p (srt l) (rkA k t l.length) (rkB k t l.length))) (((rkB k t l.length - rkA k t l.length:Nat):Int):Rat);have e:hq ((((rkB k t l.length - rkA k t l.length:Nat):Int)):Rat)<=1000000:=by
  have i:rkB k t l.length<=l.length+1:=by
   unfold rkB
   repeat' split
   all_goals omega
  refine c1A (a4y _ 1 ?_ (c1B _)) (by decide);rw[Int.natAbs_natCast];rcases Nat.eq_zero_or_pos (rkB k t l.length - rkA k t l.length)with a|a
  ·rw[a];decide
  ·rw[a2c (by omega) (by omega)];exact c1B _
 have f:hq (b1F (a8p (srt l) (rkA k t l.length) (rkB k t l.length)))<=1+20*(B+1):=b;omega
def c0m(k t:Int)(n:Nat):Int:=if a3s k t=false then 1 else if n<1\/64<n then 6 else if a7g k t n=false then 10 else 0
theorem a9k{k t:Int}{n:Nat}:c0m k t n=0↔a5n k t/\a6H k t n/\n<=64:=by
 rw[<-b1H,<-a8U];unfold c0m;cases c:a3s k t<;>cases b:a7g k t n<;>simp
 ·intro h;by_cases a:n=0\/64<n<;>simp[a]at h
 ·have d:=(a8U.1 b).1
  omega
theorem b6L(w:World)(k t:Int)(ao:Option Addr)(n ca:Nat)(hn:n<=9223372036854775807):Calls Tryz.prog 42 #[.agg #[.int .i64 k,.int .i64 t],.slice ao n ca] w (a4A w (c0m k t n)):=by
 obtain⟨W,hW,hE,b0,hz⟩:=a0Y w #[.int .i64 k,.int .i64 t] 52;obtain⟨b,hb⟩:=c1F w.heap.size;rw[hb]at b0 hz;have k0:=b0.cell 0 rfl;have k1:=b0.cell 1 rfl;have hf:=c0F W k t n (by omega) (by omega);obtain⟨kn,hkn⟩:=c1F (a3s k t);obtain⟨fn,hfn⟩:=c1F (a7g k t n);unfold c0m;rw[hkn,hfn]at hf |-;clear hkn hfn;cases kn with
 |false=>
  go_enter Tryz.func42,Tryz.ntmps42
  go_wp2_with (go_at_call 85;refine hf.mono ?_;rintro ee w1 ⟨hE1,rfl⟩)
  go_ret
  exact⟨hE.trans hE1,rfl⟩
 |true=>
  by_cases h1:n<1
  ·have h1':decide ((n:Int)<1)=true:=decide_eq_true (by omega)
   go_enter Tryz.func42,Tryz.ntmps42
   go_wp2_with (go_at_call 85;refine hf.mono ?_;rintro ee w1 ⟨hE1,rfl⟩)
   go_ret
   exact⟨hE.trans hE1,by simp⟩
  ·by_cases h2:64<n
   ·have h1':decide ((n:Int)<1)=false:=decide_eq_false (by omega)
    have h2':decide ((64:Int)<n)=true:=decide_eq_true (by omega);go_enter Tryz.func42,Tryz.ntmps42
    go_wp2_with (go_at_call 85;refine hf.mono ?_;rintro ee w1 ⟨hE1,rfl⟩)
    go_ret
    exact⟨hE.trans hE1,by simp⟩
   ·have h1':decide ((n:Int)<1)=false:=decide_eq_false (by omega)
    have h2':decide ((64:Int)<n)=false:=decide_eq_false (by omega);cases fn with
    |false=>
     go_enter Tryz.func42,Tryz.ntmps42
     go_wp2_with (go_at_call 85;refine hf.mono ?_;rintro ee w1 ⟨hE1,rfl⟩)
     go_ret
     exact⟨hE.trans hE1,by simp⟩
    |true=>
     go_enter Tryz.func42,Tryz.ntmps42
     go_wp2_with (go_at_call 85;refine hf.mono ?_;rintro ee w1 ⟨hE1,rfl⟩)
     go_ret
     exact⟨hE.trans hE1,by simp⟩
abbrev b8s:Array Value:=#[.bool false,.slice none 0 0,.slice none 0 0,.bool false,.slice none 0 0,.slice none 0 0,.bool false,.bool false,.bool false,.slice none 0 0,.slice none 0 0,.bool false,.slice none 0 0,.slice none 0 0]
def c0P(lo hi:Bool)(s1:Bool)(a1:Option Addr)(n1 c1:Nat)(d1:Option Addr)(k1 e1:Nat)(s2:Bool)(a2:Option Addr)(n2 c2:Nat)(d2:Option Addr)(k2 e2:Nat):Array Value:=
 #[.bool false,.slice none 0 0,.slice none 0 0,.bool false,.slice none 0 0,.slice none 0 0,.bool lo,.bool hi,.bool s1,.slice a1 n1 c1,.slice d1 k1 e1,.bool s2,.slice a2 n2 c2,.slice d2 k2 e2]
def b8C(h:Mem)(v:Value)(p:Rat×Rat):Prop:=∃s1 a1 n1 c1 d1 k1 e1 s2 a2 n2 c2 d2 k2 e2,v=.agg (c0P false false s1 a1 n1 c1 d1 k1 e1 s2 a2 n2 c2 d2 k2 e2)/\QC h (.agg #[.bool s1,.slice a1 n1 c1,.slice d1 k1 e1]) p.1/\QC h (.agg #[.bool s2,.slice a2 n2 c2,.slice d2 k2 e2]) p.2
theorem b8C.mono:a3K b8C:=by
 rintro h m u p a ⟨s,d,q,f,i,n,k,t,e,r,g,j,o,l,rfl,b,c⟩;exact⟨_,_,_,_,_,_,_,_,_,_,_,_,_,_,rfl,QC.mono _ _ _ _ a b,QC.mono _ _ _ _ a c⟩
theorem a6h:a1M Tryz.prog 58 14:=by
 have h:(Tryz.prog.info? 58).map (fun i=>(i.zero,i.size))=some (some (.agg b8s),14):=by kernel_rfl
 cases hi:Tryz.prog.info? 58 with
 |none=>rw[hi]at h;cases h
 |some ti=>rw[hi]at h;simp at h;exact⟨_,ti,Tryz.underlying58,hi,h.2⟩
theorem b9T(X:Nat->Bool)(w:World)(u vz vw:Value)(k t:Int)(l:List Rat)(z y:Rat)(B:Nat)(hX:HX X w)(hu:RV (mk X w) u l)(hz:QV (mk X w) vz z)(hy:QV (mk X w) vw y)(F:a5n k t)(hf:a6H k t (l.length+1))(hl:l.length<=19)(hB:BR B l)(j1:hq z<=B)(j0:hq y<=B)(p0:B<=1000000):Calls Tryz.prog 45 #[.agg #[.int .i64 k,.int .i64 t],u,vz,vw] w (a2b X w b8C (a5p (fun z=>a5o k t (l++[z])) z y,a4i (fun z=>a5o k t (l++[z])) z y)):=by
 obtain⟨s1,a1,n1,c1,d1,k1,e1,rfl⟩:=hz.shape;obtain⟨s2,a2,n2,c2,d2,k2,e2,rfl⟩:=hy.shape;obtain⟨W,hW,m,b0,b1,b2,b3,m3⟩:=b6s w #[.int .i64 k,.int .i64 t] #[.bool s1,.slice a1 n1 c1,.slice d1 k1 e1] #[.bool s2,.slice a2 n2 c2,.slice d2 k2 e2] b8s 52 47 47 58;have g4:HX (a0f X w.heap.size 4) W:=hX.boxes m3;have p:=RV.mono _ _ _ _ (a0i (nb:=4) m) hu;have h7:=QV.mono _ _ _ _ (a0i (nb:=4) m) hz;have h5:=QV.mono _ _ _ _ (a0i (nb:=4) m) hy;obtain⟨b,hb⟩:=c1F w.heap.size;rw[hb]at b0 b1 b2 b3 m3 g4 p h7 h5;obtain⟨Z,hZ⟩:=c1F (a0f X b 4);rw[hZ]at g4 p h7 h5;have L:∀q:Rat,(l++[q]).length=l.length+1:=fun q=>by simp
 have c0:∀q:Rat,hq q<=B->BR B (l++[q]):=fun q hq x hx=>by
  rcases List.mem_append.1 hx with h|h
  ·exact hB x h
  ·rw[List.mem_singleton.1 h];exact hq
 have m2:=hid fun M f u' (hM:HX M f) (hr:RV (mk M f) u' (l++[z]))=>b0Y M f u' k t (l++[z]) B hM hr F (by rw[L];exact hf) (by rw[L];omega) (c0 z j1) (by omega);have m1:=hid fun M f u' (hM:HX M f) (hr:RV (mk M f) u' (l++[y]))=>b0Y M f u' k t (l++[y]) B hM hr F (by rw[L];exact hf) (by rw[L];omega) (c0 y j0) (by omega);have n0:=m;have I:=c1L W;have k3:=g4.ext I;have h4:=hid (mkx RV.mono p I);have h8:=hid (mkx QV.mono h7 I);have h6:=hid (mkx QV.mono h5 I);have hS:Hid (∀f,Ext W f->f.cell? ⟨b,0,none⟩=some (.int .i64 k)/\f.cell? ⟨b,1,none⟩=some (.int .i64 t)/\f.cell? ⟨b+1,0,none⟩=some (.bool s1)/\f.cell? ⟨b+1,1,none⟩=some (.slice a1 n1 c1)/\f.cell? ⟨b+1,2,none⟩=some (.slice d1 k1 e1)/\f.cell? ⟨b+1+1,0,none⟩=some (.bool s2)/\f.cell? ⟨b+1+1,1,none⟩=some (.slice a2 n2 c2)/\f.cell? ⟨b+1+1,2,none⟩=some (.slice d2 k2 e2)):=hid fun f h=>
  ⟨(b0.ext0 h).cell 0 rfl,(b0.ext0 h).cell 1 rfl,(b1.ext0 h).cell 0 rfl,(b1.ext0 h).cell 1 rfl,(b1.ext0 h).cell 2 rfl,(b2.ext0 h).cell 0 rfl,(b2.ext0 h).cell 1 rfl,(b2.ext0 h).cell 2 rfl⟩
 go_enter Tryz.func45,Tryz.ntmps45
 go_upto_region 1 with fail
 refine a0n 13 (fun f=>f.cell? ⟨b,0,none⟩=some (.int .i64 k)/\f.cell? ⟨b,1,none⟩=some (.int .i64 t)/\f.cell? ⟨b+1,0,none⟩=some (.bool s1)/\f.cell? ⟨b+1,1,none⟩=some (.slice a1 n1 c1)/\f.cell? ⟨b+1,2,none⟩=some (.slice d1 k1 e1)/\f.cell? ⟨b+1+1,0,none⟩=some (.bool s2)/\f.cell? ⟨b+1+1,1,none⟩=some (.slice a2 n2 c2)/\f.cell? ⟨b+1+1,2,none⟩=some (.slice d2 k2 e2)) (by kernel_rfl) (by kernel_rfl) (hS.out _ I) (fun a c=>?_);refine kt 0 c ?_;refine kt 1 c ?_;refine kt 2 c ?_;refine kt 5 c ?_;refine kt 6 c ?_;refine kt 7 c ?_;refine a1z [3,4,8,9] [⟨10,9,47,#[.bool false,.slice none 0 0,.slice none 0 0]⟩,⟨11,10,47,#[.bool false,.slice none 0 0,.slice none 0 0]⟩] Z 2 k3 a (fun _ _ h m=>⟨m.cell h.1,m.cell h.2.1,m.cell h.2.2.1,m.cell h.2.2.2.1,m.cell h.2.2.2.2.1,m.cell h.2.2.2.2.2.1,m.cell h.2.2.2.2.2.2.1,m.cell h.2.2.2.2.2.2.2⟩) ?_;refine a0E (fun M1 w1 o4 T g5 f8 D g1 K j=>?_);simp only[a1y,Act.put,c1G,c1H,c1I];go_simp
 (with_reducible refine(b7Z M1 w1 u _ l z T (upx RV.mono D h4.out) (upx QV.mono D h8.out) (by omega)).mono ?_);rintro ee f ⟨n,u1,rfl,p⟩
 refine j.out _ _ _ _ _ RV.mono n p (by simp only[a1y,Act.put,c1G,c1H,c1I]) ?_;clear j K T g5 f8 D g1;refine a0E (fun M2 w2 o5 U g6 f9 J g2 K j=>?_);simp only[a1y,Act.put,c1G,c1H,c1I];go_simp
 (with_reducible refine(m2.out M2 w2 u1 U J.2).mono ?_);rintro ee f ⟨n,u2,rfl,N⟩;obtain⟨s5,a5,n5,c5,d5,k5,e5,rfl⟩:=N.shape
 refine j.out _ _ _ _ _ QC.mono n N (by simp only[a1y,Act.put,c1G,c1H,c1I]) ?_;clear j K U g6 f9 J g2;refine a0E (fun M3 w3 o6 V g7 g0 E g3 K j=>?_);simp only[a1y,Act.put,c1G,c1H,c1I];go_simp
 (with_reducible refine(b7Z M3 w3 u _ l y V (upx RV.mono E.1.1 h4.out) (upx QV.mono E.1.1 h6.out) (by omega)).mono ?_);rintro ee f ⟨n,u3,rfl,O⟩
 refine j.out _ _ _ _ _ RV.mono n O (by simp only[a1y,Act.put,c1G,c1H,c1I]) ?_;clear j K V g7 g0 E g3;refine a0E (fun M4 w4 p1 j7 o1 m7 j4 n3 K j=>?_);simp only[a1y,Act.put,c1G,c1H,c1I];go_simp
 (with_reducible refine(m1.out M4 w4 u3 j7 j4.2).mono ?_);rintro ee f ⟨n,u4,rfl,h3⟩;obtain⟨s6,a6,n6,c6,d6,k6,e6,rfl⟩:=h3.shape
 refine j.out _ _ _ _ _ QC.mono n h3 (by simp only[a1y,Act.put,c1G,c1H,c1I]) ?_;clear j K j7 o1 m7 j4 n3;refine a2W (fun M w5 gs j8 k4 j2 S o g8 l4=>?_);simp only[a1y,ptr,Act.put,c1G,c1H,c1I];obtain⟨G,h0⟩:=c1F (gs 0);obtain⟨A,b4⟩:=c1F (gs 1);obtain⟨x9,m9,l9⟩:=g8 0 _ rfl;obtain⟨i5,i1,h9⟩:=g8 1 _ rfl;have f2:=l4 0 1 (by decide) (by simp);rw[h0]at x9 m9 l9 f2;rw[b4]at i5 i1 h9 f2;simp only[h0,b4];have l2:∀k,k<=b+1+1+1->k<W.drew.heap.size:=fun k F=>by show k<W.heap.size;omega
 have d4:∀k,k<=b+1+1+1->ob (some ⟨G,0,none⟩) k=false:=fun k F=>by have:=l2 k F;simp[ob];omega
 have i3:=d4 b (by omega);have e3:=d4 (b+1) (by omega);have e4:=d4 (b+1+1) (by omega);refine ks 12 (fun K j=>?_)
 (refine a0r rfl rfl a0p rfl rfl x9 rfl rfl a1s ?_;intro w6 z9 P)
 refine kcn j ⟨P.cellY o.1 i3,P.cellY o.2.1 i3,P.cellY o.2.2.1 e3,P.cellY o.2.2.2.1 e3,P.cellY o.2.2.2.2.1 e3,P.cellY o.2.2.2.2.2.1 e4,P.cellY o.2.2.2.2.2.2.1 e4,P.cellY o.2.2.2.2.2.2.2 e4⟩ (fun a=>?_);clear j K;have f5:=i5.ext P (a0b (by omega));refine kl 13 (fun K j=>?_)
 (refine a0r rfl rfl a0p rfl rfl f5 rfl rfl a1s ?_;intro r f1 b7)
 refine j.out _ _ ?_;clear j K
 (try simp only[Act.put])
 have b8:=z9.ext b7 (a0b (by omega));have mm:∀g,M g=true->∀k,ob (some ⟨g,0,none⟩) k=true->M k=true:=fun g hg k F=>by
  have:g=k:=by simpa[ob]using F
  rw[<-this];exact hg
 have s:=(a0s P (mm G m9)).trans (a0s b7 (mm A i1));have q9:=QC.mono _ _ _ _ s S.1.1.2;have i4:=QC.mono _ _ _ _ s S.2;have qz:=QV.mono _ _ _ _ (S.1.1.1.1.trans s) h8.out;have qy:=QV.mono _ _ _ _ (S.1.1.1.1.trans s) h6.out;have j9:HX M r:=(j8.ext P).ext b7;have c3:Ext W r:=ExtX.box (ExtX.box (I.trans j2) P l9) b7 h9;have o2:=hid k4;obtain⟨ez,a0⟩:=c1F (a5o k t (l++[z]));obtain⟨ey,Y⟩:=c1F (a5o k t (l++[y]));have h2:Hid (hq ez<=50000000):=hid (by rw[<-a0];exact a9j (c0 z j1) (by rw[L];omega) (by omega));have l7:Hid (hq ey<=50000000):=hid (by rw[<-Y];exact a9j (c0 y j0) (by rw[L];omega) (by omega));have j5:Hid (a4i (fun z=>a5o k t (l++[z])) z y=(ey - ez)/(y - z)/\a5p (fun z=>a5o k t (l++[z])) z y=ez - (ey - ez)/(y - z)*z):=hid ⟨by rw[<-a0,<-Y];rfl,by rw[<-a0,<-Y];rfl⟩;rw[a0]at q9;rw[Y]at i4;have d0:Hid (hq (ey - ez)<=110000000/\hq (y - z)<=2100000/\hq ((ey - ez)/(y - z))<=120000000/\hq ((ey - ez)/(y - z)*z)<=130000000):=hid (by
  have a1:=a3J ey ez;have a2:=a3J y z;have a3:=hq_div (ey - ez) (y - z);have a4:=hq_mul ((ey - ez)/(y - z)) z;have a5:=h2.out;have a6:=l7.out;omega)
 have R:=b1.ext0 c3;have b9:=b2.ext0 c3;have i9:=b3.ext0 c3;clear p N O h3 S o g8 l4 a0 Y j8 k4 j2 x9 i5 f5 z9 P b7 d4 i3 e3 e4 l2 hS h4 h8 h6 k3 m2 m1 a c l9 h9 m9 i1 s h0 b4 m;have d:=c1L r;have f3:=j9.ext d;have e0:r.drew.cell? ⟨A,0,none⟩=some (.bool s6)/\r.drew.cell? ⟨A,1,none⟩=some (.slice a6 n6 c6)/\r.drew.cell? ⟨A,2,none⟩=some (.slice d6 k6 e6)/\r.drew.cell? ⟨G,0,none⟩=some (.bool s5)/\r.drew.cell? ⟨G,1,none⟩=some (.slice a5 n5 c5)/\r.drew.cell? ⟨G,2,none⟩=some (.slice d5 k5 e5)/\r.drew.cell? ⟨b+1+1,0,none⟩=some (.bool s2)/\r.drew.cell? ⟨b+1+1,1,none⟩=some (.slice a2 n2 c2)/\r.drew.cell? ⟨b+1+1,2,none⟩=some (.slice d2 k2 e2)/\r.drew.cell? ⟨b+1,0,none⟩=some (.bool s1)/\r.drew.cell? ⟨b+1,1,none⟩=some (.slice a1 n1 c1)/\r.drew.cell? ⟨b+1,2,none⟩=some (.slice d1 k1 e1):=⟨d.cell (f1.cell 0 rfl),d.cell (f1.cell 1 rfl),d.cell (f1.cell 2 rfl),d.cell (b8.cell 0 rfl),d.cell (b8.cell 1 rfl),d.cell (b8.cell 2 rfl),d.cell (b9.cell 0 rfl),d.cell (b9.cell 1 rfl),d.cell (b9.cell 2 rfl),d.cell (R.cell 0 rfl),d.cell (R.cell 1 rfl),d.cell (R.cell 2 rfl)⟩;go_upto_region 2 with fail
 (try simp only[Act.put])
 refine a0n 8 (fun f=>f.cell? ⟨A,0,none⟩=some (.bool s6)/\f.cell? ⟨A,1,none⟩=some (.slice a6 n6 c6)/\f.cell? ⟨A,2,none⟩=some (.slice d6 k6 e6)/\f.cell? ⟨G,0,none⟩=some (.bool s5)/\f.cell? ⟨G,1,none⟩=some (.slice a5 n5 c5)/\f.cell? ⟨G,2,none⟩=some (.slice d5 k5 e5)/\f.cell? ⟨b+1+1,0,none⟩=some (.bool s2)/\f.cell? ⟨b+1+1,1,none⟩=some (.slice a2 n2 c2)/\f.cell? ⟨b+1+1,2,none⟩=some (.slice d2 k2 e2)/\f.cell? ⟨b+1,0,none⟩=some (.bool s1)/\f.cell? ⟨b+1,1,none⟩=some (.slice a1 n1 c1)/\f.cell? ⟨b+1,2,none⟩=some (.slice d1 k1 e1)) (by kernel_rfl) (by kernel_rfl) e0 (fun a c=>?_);refine kt 0 c ?_;refine kt 1 c ?_;refine kt 3 c ?_;refine kt 4 c ?_;refine a1z [2,5,6] [⟨7,11,47,#[.bool false,.slice none 0 0,.slice none 0 0]⟩] M 1 f3 a (fun _ _ h m=>⟨m.cell h.1,m.cell h.2.1,m.cell h.2.2.1,m.cell h.2.2.2.1,m.cell h.2.2.2.2.1,m.cell h.2.2.2.2.2.1,m.cell h.2.2.2.2.2.2.1,m.cell h.2.2.2.2.2.2.2.1,m.cell h.2.2.2.2.2.2.2.2.1,m.cell h.2.2.2.2.2.2.2.2.2.1,m.cell h.2.2.2.2.2.2.2.2.2.2.1,m.cell h.2.2.2.2.2.2.2.2.2.2.2⟩) ?_;refine a0E (fun M1 w1 o4 T g5 f8 D g1 K j=>?_);simp only[a1y,Act.put,c1G,c1H,c1I];go_simp
 (with_reducible refine(b4X M1 w1 _ _ _ _ T (upx QV.mono D ((mkx QC.mono i4 d).qv (c1A l7.out (by decide)))) (upx QV.mono D ((mkx QC.mono q9 d).qv (c1A h2.out (by decide))))).mono ?_);rintro ee f ⟨n,u1,rfl,p⟩
 refine j.out _ _ _ _ _ QC.mono n p (by simp only[a1y,Act.put,c1G,c1H,c1I]) ?_;clear j K T g5 f8 D g1;refine a0E (fun M2 w2 o5 U g6 f9 J g2 K j=>?_);simp only[a1y,Act.put,c1G,c1H,c1I];go_simp
 (with_reducible refine(b4X M2 w2 _ _ _ _ U (upx QV.mono J.1 (mkx QV.mono qy d)) (upx QV.mono J.1 (mkx QV.mono qz d))).mono ?_);rintro ee f ⟨n,u2,rfl,N⟩
 refine j.out _ _ _ _ _ QC.mono n N (by simp only[a1y,Act.put,c1G,c1H,c1I]) ?_;clear j K U g6 f9 J g2;refine a0E (fun M3 w3 o6 V g7 g0 E g3 K j=>?_);simp only[a1y,Act.put,c1G,c1H,c1I];go_simp
 (with_reducible refine(b5x M3 w3 _ _ _ _ V (E.1.2.qv (c1A d0.out.1 (by decide))) (E.2.qv (c1A d0.out.2.1 (by decide)))).mono ?_);rintro ee f ⟨n,u3,rfl,O⟩;obtain⟨s7,a7,n7,c7,d7,k7,e7,rfl⟩:=O.shape
 refine j.out _ _ _ _ _ QC.mono n O (by simp only[a1y,Act.put,c1G,c1H,c1I]) ?_;clear j K V g7 g0 E g3;refine a2W (fun M' w8 gs k0 l0 j3 c4 n4 l1 o3=>?_);simp only[a1y,ptr,Act.put,c1G,c1H,c1I];obtain⟨C,b5⟩:=c1F (gs 0);obtain⟨i6,i2,i0⟩:=l1 0 _ rfl;rw[b5]at i6 i2 i0;simp only[b5];refine kl 8 (fun K j=>?_)
 (refine a0r rfl rfl a0p rfl rfl i6 rfl rfl a1s ?_;intro v i7 f0)
 refine j.out _ _ ?_;clear j K
 (try simp only[Act.put])
 have d3:=a0s (X:=M') f0 (fun k F=>by
  have:C=k:=by simpa[ob]using F
  rw[<-this];exact i2)
 have o7:=(QC.mono _ _ _ _ d3 c4.2).qv (c1A d0.out.2.2.1 (by decide));have m4:=QC.mono _ _ _ _ d3 c4.2;have b6:Le (mk M r) (mk M' v):=(a0k d).trans (c4.1.1.1.trans d3);have o8:=(QC.mono _ _ _ _ b6 q9).qv (c1A h2.out (by decide));have o9:=QV.mono _ _ _ _ b6 qz;have o0:HX M' v:=k0.ext f0;have H:Ext r v:=ExtX.box (d.trans j3) f0 i0;have i8:=b8.ext0 H;have f6:=R.ext0 H;have m5:=i9.ext0 H;have j6:=hid (fun k (F:Z k=true)=>l0 k (o2.out k F));have m8:=c3.trans H;clear p N O c4 n4 l1 o3 k0 l0 j3 i6 f0 d3 b6 e0 a c f3 q9 i4 qz qy b8 f1 R b9 i9 i0 i2 b5 j9;have i:=c1L v;have f4:=o0.ext i;have e0:v.drew.cell? ⟨G,0,none⟩=some (.bool s5)/\v.drew.cell? ⟨G,1,none⟩=some (.slice a5 n5 c5)/\v.drew.cell? ⟨G,2,none⟩=some (.slice d5 k5 e5)/\v.drew.cell? ⟨C,0,none⟩=some (.bool s7)/\v.drew.cell? ⟨C,1,none⟩=some (.slice a7 n7 c7)/\v.drew.cell? ⟨C,2,none⟩=some (.slice d7 k7 e7)/\v.drew.cell? ⟨b+1,0,none⟩=some (.bool s1)/\v.drew.cell? ⟨b+1,1,none⟩=some (.slice a1 n1 c1)/\v.drew.cell? ⟨b+1,2,none⟩=some (.slice d1 k1 e1):=⟨i.cell (i8.cell 0 rfl),i.cell (i8.cell 1 rfl),i.cell (i8.cell 2 rfl),i.cell (i7.cell 0 rfl),i.cell (i7.cell 1 rfl),i.cell (i7.cell 2 rfl),i.cell (f6.cell 0 rfl),i.cell (f6.cell 1 rfl),i.cell (f6.cell 2 rfl)⟩;go_upto_region 3 with fail
 (try simp only[Act.put])
 refine a0n 7 (fun f=>f.cell? ⟨G,0,none⟩=some (.bool s5)/\f.cell? ⟨G,1,none⟩=some (.slice a5 n5 c5)/\f.cell? ⟨G,2,none⟩=some (.slice d5 k5 e5)/\f.cell? ⟨C,0,none⟩=some (.bool s7)/\f.cell? ⟨C,1,none⟩=some (.slice a7 n7 c7)/\f.cell? ⟨C,2,none⟩=some (.slice d7 k7 e7)/\f.cell? ⟨b+1,0,none⟩=some (.bool s1)/\f.cell? ⟨b+1,1,none⟩=some (.slice a1 n1 c1)/\f.cell? ⟨b+1,2,none⟩=some (.slice d1 k1 e1)) (by kernel_rfl) (by kernel_rfl) e0 (fun a c=>?_);refine kt 0 c ?_;refine kt 1 c ?_;refine kt 2 c ?_;refine kt 5 c ?_;refine ks 3 (fun K j=>?_);go_simp
 ((with_reducible refine(a9E M' v.drew _ _ _ _ f4 (mkx QV.mono o7 i) (mkx QV.mono o9 i)).mono ?_);rintro ee wa ⟨Q,ua,rfl,l8⟩;obtain⟨s8,a8,n8,c8,d8,k8,e8,rfl⟩:=l8.shape)
 refine kcn j ⟨Q.cell a.1,Q.cell a.2.1,Q.cell a.2.2.1,Q.cell a.2.2.2.1,Q.cell a.2.2.2.2.1,Q.cell a.2.2.2.2.2.1,Q.cell a.2.2.2.2.2.2.1,Q.cell a.2.2.2.2.2.2.2.1,Q.cell a.2.2.2.2.2.2.2.2⟩ (fun a=>?_);clear j K;refine ks 4 (fun K j=>?_);go_simp
 ((with_reducible refine(b4X M' wa _ _ _ _ (f4.ext Q) (mkx QV.mono o8 (i.trans Q)) (l8.qv (c1A d0.out.2.2.2 (by decide)))).mono ?_);rintro ee wb ⟨gb,ub,rfl,m0⟩;obtain⟨s9,a9,n9,c9,d9,k9,e9,rfl⟩:=m0.shape)
 refine kcn j ⟨gb.cell a.1,gb.cell a.2.1,gb.cell a.2.2.1,gb.cell a.2.2.2.1,gb.cell a.2.2.2.2.1,gb.cell a.2.2.2.2.2.1,gb.cell a.2.2.2.2.2.2.1,gb.cell a.2.2.2.2.2.2.2.1,gb.cell a.2.2.2.2.2.2.2.2⟩ (fun a=>?_);clear j K;have f7:=i.trans (Q.trans gb);refine kt 6 c ?_;have m6:=m5.ext0 f7;refine kl 7 (fun K j=>?_)
 (refine a0r rfl rfl a6h rfl rfl m6 rfl rfl (by simp[Value.oneCell']) ?_;intro wf xf yf)
 refine j.out _ _ ?_;clear j K
 (try simp only[Act.put])
 have l3:Le (mk M' wb) (mk X wf):=(a0s yf (fun k F=>j6.out k (by
  have h1:b+1+1+1=k:=by simpa[ob]using F
  rw[<-hZ,<-h1];exact a3B (by omega) (by omega)))).trans (a1a fun k _ F=>j6.out k (by rw[<-hZ];exact a8C F))
 have l5:=QC.mono _ _ _ _ l3 m0;have l6:=QC.mono _ _ _ _ l3 (mkx QC.mono m4 f7);rw[<-j5.out.2]at l5;rw[<-j5.out.1]at l6;go_wp2_with fail
 exact bodyPost_ret (a0d rfl rfl a6h xf rfl) rfl ⟨ExtX.box (n0.trans (m8.trans f7)) yf (by omega),_,rfl,_,_,_,_,_,_,_,_,_,_,_,_,_,_,rfl,l5,l6⟩
section
variable {P:Program} {α:Type} {R:Mem->Value->α->Prop} {sz:Nat} {X:Nat->Bool} {base:Nat} {e:TypeId} {w:World} {ao:Option Addr} {cap:Nat} {l:List α}
theorem b1k{sz:Nat}:∀(us:List Value) (i:Nat) (hi:i<us.length),(∀u∈us,u.cells.size=sz)->((us.flatMap a0g).drop (i*sz)).take sz=a0g us[i]
 | [],i,hi,_=>by simp at hi
 |v::us,0,_,h=>by
  have hv:(a0g v).length=sz:=by have:=h v (by simp);simpa[a0g]using this
  simp only[List.flatMap_cons,Nat.zero_mul,List.drop_zero,List.getElem_cons_zero];rw[<-hv,List.take_left]
 |v::us,i+1,hi,h=>by
  have hv:(a0g v).length=sz:=by have:=h v (by simp);simpa[a0g]using this
  simp only[List.flatMap_cons,List.getElem_cons_succ];rw[Nat.succ_mul,Nat.add_comm,<-hv,List.drop_length_add_append,hv];exact b1k us i (by simpa using hi) (fun u hu=>h u (by simp[hu]))
theorem b5W{β:Type}(L V:List β)(p j m sz:Nat)(h:j+m<=sz):L.take (p+j)++V++L.drop (p+j+m)=L.take p++(((L.drop p).take sz).take j++V++((L.drop p).take sz).drop (j+m))++L.drop (p+sz):=by
 have a:L.take (p+j)=L.take p++((L.drop p).take sz).take j:=by
  rw[List.take_take,Nat.min_eq_left (by omega),List.take_add]
 have b:L.drop (p+j+m)=((L.drop p).take sz).drop (j+m)++L.drop (p+sz):=by
  have c:L.drop (p+j+m)=(L.drop p).drop (j+m):=by rw[List.drop_drop];congr 1;omega
  have d:L.drop (p+sz)=(L.drop p).drop sz:=by rw[List.drop_drop]
  rw[c,d,List.drop_take];generalize L.drop p=D;have e:D.drop sz=(D.drop (j+m)).drop (sz - (j+m)):=by rw[List.drop_drop];congr 1;omega
  rw[e,List.take_append_drop]
 rw[a,b];simp only[List.append_assoc]
theorem OL.run_storeSub{t t0:TypeId}{ti K:TypeInfo}{m:Nat}(J:P.info? t0=some K)(n:K.size=sz)(ht:P.info? t=some ti)(Y:ti.size=m)(T:Elem R sz)(h:OL R sz X base e w ao cap l)(i j:Nat)(L:i<l.length)(hj:j+m<=sz)(v:Value)(hv:v.cells.size=m)(D:∀c∈a0g v,c.oneCell'=true)(y:α)(hu:∀u,R (mk (un X ao) w) u l[i]->∃d,a0g d=(a0g u).take j++a0g v++(a0g u).drop (j+m)/\R (mk (un X ao) w) d y):∃r,(storeVar t (adr ao (i*sz+j)) v).run P w=.ok () r/\OL R sz X base e r ao cap (l.set i y)/\ExtX (ob ao) w r:=by
 have o:=h.form;have hh:=h;obtain⟨hx,M,h1,h2,a1,h3,h5⟩:=h;rcases o with⟨rfl,rfl,rfl⟩|⟨g,a,rfl,h6,Q,h8,h9,x⟩
 ·simp at L
 have C:i<M.length:=by omega
 obtain⟨d,Z,p⟩:=hu M[i] (h5 i C L);obtain⟨r,E,N,O⟩:=hh.run_store (P:=P) J n T i L d y p;have k:∀q,adr (some ⟨g,0,none⟩) q=⟨g,q,none⟩:=fun q=>by simp[adr]
 have I:(i+1)*sz<=l.length*sz:=Nat.mul_le_mul_right _ L;have W:l.length*sz<=cap*sz:=Nat.mul_le_mul_right _ h8;rw[Nat.succ_mul]at I;have b:=T.size _ _ _ p;have G:=run_storeCells_at P g (i*sz) e (a0g d) 0 a w Q (by simp[a0g,b,x];omega) (T.one _ _ _ p);have H:=run_storeCells_at P g (i*sz+j) e (a0g v) 0 a w Q (by simp[a0g,hv,x];omega) D;have F:(a.toList.drop (i*sz)).take sz=a0g M[i]:=by
  rcases h3.2 with⟨f,_⟩|⟨g',c',s,f,_,B,_,_,_,z⟩
  ·simp at f
  simp at f;obtain⟨rfl,rfl⟩:=f;rw[Q]at B;obtain rfl:a=s:=by simpa using B
  have:=b1k M i C h2;rw[<-z,List.drop_take,List.take_take,Nat.min_eq_left (by omega)]at this;exact this
 have a0:r=w.setRow g (a.toList.take (i*sz+0)++a0g d++a.toList.drop (i*sz+0+(a0g d).length)).toArray:=by
  rw[k]at E;simp[storeVar,sizeOf,typeInfo,J,n,b]at E;have A:=G;simp only[a0g]at A E;rw[A]at E;simpa[a0g]using E.symm
 have U:(a0g d).length=sz:=by simp[a0g,b]
 have V:(a0g v).length=m:=by simp[a0g,hv]
 have S:a.toList.take (i*sz+j+0)++a0g v++a.toList.drop (i*sz+j+0+(a0g v).length)=a.toList.take (i*sz+0)++a0g d++a.toList.drop (i*sz+0+(a0g d).length):=by
  rw[U,V,Z,<-F];exact b5W a.toList (a0g v) (i*sz) j m sz hj
 refine⟨r,?_,N,O⟩;rw[a0,<-S,k];simp[storeVar,sizeOf,typeInfo,ht,Y,hv];simpa[a0g]using H
theorem a0R{ops:Array Oper}{Q:Exit->Act->World->Prop}{a:Act}{o:Oper}{K:Act->World->Prop}{E:Prop}{t U:TypeId}{m:Nat}{r s:Operand}(H:o.guard=none)(k:o.op=.store t r s)(g:TyI P U sz)(G:TyI P t m)(F:Elem R sz)(i j:Nat){A:Addr}(S:a.eval r=.pointer (some A))(C:adr ao (i*sz+j)=A)(h:OL R sz X base e w ao cap l)(I:i<l.length)(J:j+m<=sz)(v:Value)(T:a.eval s=v)(N:v.cells.size=m)(b:∀c∈a0g v,c.oneCell'=true)(y:α)(M:∀u,R (mk (un X ao) w) u l[i]->∃x,a0g x=(a0g u).take j++a0g v++(a0g u).drop (j+m)/\R (mk (un X ao) w) x y)(D:∀f,OL R sz X base e f ao cap (l.set i y)->ExtX (ob ao) w f->K (a.put o.dst undef) f):if Region.wanted o (yielded ops a.tmps)=true then Oper.wp P o a w K Q else E:=by
 have O:Region.wanted o (yielded ops a.tmps)=true:=by simp[Region.wanted,H]
 rw[if_pos O];obtain⟨ti,L,p⟩:=G;obtain⟨V,n,d⟩:=g;obtain⟨f,q,z,B⟩:=h.run_storeSub (P:=P) n d L p F i j I J v N b y M;rw[C]at q;unfold Oper.wp execOp;rw[k];simp[S,T,Instr.storeAt,Instr.sureAddr,q,Result.andThen];exact D _ z B
end
section
variable {P:Program} {ops:Array Oper} {Q:Exit->Act->World->Prop} {a:Act} {w:World}
theorem a2O{o:Oper}{K:Act->World->Prop}{E:Prop}{t:TypeId}{x y:Operand}{n b i:Nat}{c d:Array Value}{T:TypeId}(z:o.guard=none)(h:o.op=.store t x y)(s:a1M P t n)(D:a.eval x=.pointer (some ⟨b,i,none⟩))(F:a.eval y=.agg d)(l:Bx w b c T)(u:i+n<=c.size)(e:d.size=n)(f:∀v∈d.toList,v.oneCell'=true)(r:∀j,Bx j b (c.toList.take i++d.toList++c.toList.drop (i+n)).toArray T->ExtX (ob (some ⟨b,0,none⟩)) w j->K (a.put o.dst undef) j):if Region.wanted o (yielded ops a.tmps)=true then Oper.wp P o a w K Q else E:=by
 have C:Region.wanted o (yielded ops a.tmps)=true:=by simp[Region.wanted,z]
 rw[if_pos C];obtain⟨G,ti,H,p,q⟩:=s;have g:=run_storeCells_at P b i T d.toList 0 c w l (by simp[e];omega) f;have B:(storeVar t ⟨b,i,none⟩ (.agg d)).run P w=.ok () (w.setRow b (c.toList.take (i+0)++d.toList++c.toList.drop (i+0+d.toList.length)).toArray):=by
  simp[storeVar,sizeOf,typeInfo,p,q,Value.cells,e];simp only[Nat.add_zero,Array.length_toList,e,List.append_assoc]at g |-;exact g
 unfold Oper.wp execOp;rw[h];simp[D,F,Instr.storeAt,Instr.sureAddr,B,Result.andThen];refine r _ ?_ ?_
 ·unfold Bx
  have:=setRow_heap w b c (c.toList.take (i+0)++d.toList++c.toList.drop (i+0+d.toList.length)).toArray T (0,0) l;simp only[Nat.add_zero,Array.length_toList,e,List.append_assoc]at this |-;exact this
 ·exact⟨rfl,rfl,rfl,by simp,fun k _ A=>setRow_other w b k _ (fun m=>by subst m;simp[ob]at A)⟩
end
def a1W(h:Mem)(v:Value)(p:Pc):Prop:=∃s1 a1 n1 c1 d1 k1 e1 s2 a2 n2 c2 d2 k2 e2 s3 a3 n3 c3 d3 k3 e3 s4 a4 n4 c4 d4 k4 e4,
 v=.agg #[.bool s1,.slice a1 n1 c1,.slice d1 k1 e1,.bool s2,.slice a2 n2 c2,.slice d2 k2 e2,.bool p.lo.isNone,.bool p.hi.isNone,.bool s3,.slice a3 n3 c3,.slice d3 k3 e3,.bool s4,.slice a4 n4 c4,.slice d4 k4 e4]/\
 QC h (.agg #[.bool s1,.slice a1 n1 c1,.slice d1 k1 e1]) (p.lo.getD 0)/\QC h (.agg #[.bool s2,.slice a2 n2 c2,.slice d2 k2 e2]) (p.hi.getD 0)/\QC h (.agg #[.bool s3,.slice a3 n3 c3,.slice d3 k3 e3]) p.a/\QC h (.agg #[.bool s4,.slice a4 n4 c4,.slice d4 k4 e4]) p.b
theorem a1W.mono:a3K a1W:=by
 rintro h y u p a ⟨H,f,D,k,o,z,t,I,g,E,l,q,A,v,J,i,F,m,r,B,w,K,j,G,n,s,C,x,rfl,b,c,d,e⟩;exact⟨_,_,_,_,_,_,_,_,_,_,_,_,_,_,_,_,_,_,_,_,_,_,_,_,_,_,_,_,rfl,QC.mono _ _ _ _ a b,QC.mono _ _ _ _ a c,QC.mono _ _ _ _ a d,QC.mono _ _ _ _ a e⟩
theorem a1W.elem:Elem a1W 14:=by
 refine⟨a1W.mono,?_,?_,by decide⟩
 ·rintro h u p ⟨_,_,_,_,_,_,_,_,_,_,_,_,_,_,_,_,_,_,_,_,_,_,_,_,_,_,_,_,rfl,_⟩;rfl
 ·rintro h u p ⟨_,_,_,_,_,_,_,_,_,_,_,_,_,_,_,_,_,_,_,_,_,_,_,_,_,_,_,_,rfl,_⟩ c a
  simp[a0g,Value.cells]at a;rcases a with rfl|rfl|rfl|rfl|rfl|rfl|rfl|rfl|rfl|rfl|rfl|rfl|rfl|rfl<;>rfl
theorem a1W.agg:∀h u p,a1W h u p->∃a,u=.agg a:=by
 rintro h u p ⟨_,_,_,_,_,_,_,_,_,_,_,_,_,_,_,_,_,_,_,_,_,_,_,_,_,_,_,_,rfl,_⟩;exact⟨_,rfl⟩
theorem a1W.of{h:Mem}{p:Pc}{E F G H lo I:Bool}{c l d m e n f o:Option Addr}{A g w q B i x r C j y s D k z t:Nat}(J:QC h (.agg #[.bool E,.slice c A g,.slice l w q]) (p.lo.getD 0))(K:QC h (.agg #[.bool F,.slice d B i,.slice m x r]) (p.hi.getD 0))(L:QC h (.agg #[.bool G,.slice e C j,.slice n y s]) p.a)(M:QC h (.agg #[.bool H,.slice f D k,.slice o z t]) p.b)(v:p.lo.isNone=lo)(u:p.hi.isNone=I):a1W h (.agg #[.bool E,.slice c A g,.slice l w q,.bool F,.slice d B i,.slice m x r,.bool lo,.bool I,.bool G,.slice e C j,.slice n y s,.bool H,.slice f D k,.slice o z t]) p:=by
 subst v u;exact⟨E,c,A,g,l,w,q,F,d,B,i,m,x,r,G,e,C,j,n,y,s,H,f,D,k,o,z,t,rfl,J,K,L,M⟩
theorem a1W.putTo{h:Mem}{u:Value}{o y:Pc}{s:Bool}{a d:Option Addr}{n c k e:Nat}(D:a1W h u o)(hq:QC h (.agg #[.bool s,.slice a n c,.slice d k e]) (y.hi.getD 0))(f:y.lo=o.lo)(A:y.hi.isNone=o.hi.isNone)(B:y.a=o.a)(C:y.b=o.b):∃g,a0g g=(a0g u).take 3++a0g (.agg #[.bool s,.slice a n c,.slice d k e])++(a0g u).drop (3+3)/\a1W h g y:=by
 obtain⟨N,i,H,m,r,E,w,X,Q,V,R,S,U,T,O,j,I,p,t,F,x,P,l,J,q,v,G,z,rfl,K,W,L,M⟩:=D;exact⟨.agg #[.bool N,.slice i H m,.slice r E w,.bool s,.slice a n c,.slice d k e,.bool o.lo.isNone,.bool o.hi.isNone,.bool O,.slice j I p,.slice t F x,.bool P,.slice l J q,.slice v G z],by simp[a0g,Value.cells],a1W.of (f▸K) hq (B▸L) (C▸M) (by rw[f]) A⟩
theorem a1W.putFrom{h:Mem}{u:Value}{o:Pc}{s:Bool}{a d:Option Addr}{n c k e:Nat}(x:a1W h u o)(hq:QC h (.agg #[.bool s,.slice a n c,.slice d k e]) (o.lo.getD 0)):∃b,a0g b=(a0g u).take 0++a0g (.agg #[.bool s,.slice a n c,.slice d k e])++(a0g u).drop (0+3)/\a1W h b o:=by
 obtain⟨R,K,P,L,M,O,N,H,f,B,j,p,y,t,I,g,C,l,q,z,v,J,i,D,m,r,A,w,rfl,Q,E,F,G⟩:=x;exact⟨.agg #[.bool s,.slice a n c,.slice d k e,.bool H,.slice f B j,.slice p y t,.bool o.lo.isNone,.bool o.hi.isNone,.bool I,.slice g C l,.slice q z v,.bool J,.slice i D m,.slice r A w],by simp[a0g,Value.cells],a1W.of hq E F G rfl rfl⟩
theorem a1W.putNo{h:Mem}{u:Value}{o:Pc}{r:Option Rat}(v:a1W h u {o with hi:=some (r.getD 0)}):∃a,a0g a=(a0g u).take 7++a0g (.bool r.isNone)++(a0g u).drop (7+1)/\a1W h a {o with hi:=r}:=by
 obtain⟨I,b,A,f,k,w,p,J,c,B,g,l,x,q,K,d,C,i,m,y,s,L,e,D,j,n,z,t,rfl,E,F,G,H⟩:=v;exact⟨.agg #[.bool I,.slice b A f,.slice k w p,.bool J,.slice c B g,.slice l x q,.bool o.lo.isNone,.bool r.isNone,.bool K,.slice d C i,.slice m y s,.bool L,.slice e D j,.slice n z t],by simp[a0g,Value.cells],a1W.of E F G H rfl rfl⟩
theorem b5X{α:Type}{l:List α}{q:Nat}(hq:l.length=q)(h:0<q)(y:α):l.set (q - 1) y=l.dropLast++[y]:=by
 subst hq;rcases List.eq_nil_or_concat l with rfl|⟨a,v,rfl⟩
 ·simp at h
 ·simp
theorem b8t{X:Nat->Bool}{w:World}{e:TypeId}{a:Array Value}{p:Pc}(c:HX X w)(h:a1W (mk X w) (.agg a) p):OL a1W 14 X w.heap.size e (w.alloc (.cells a e)) (some ⟨w.heap.size,0,none⟩) 1 [p]:=
 OL.lit a1W.elem c (c1B _) [.agg a] [p] _ (by simp[a0g,Value.cells]) rfl (fun i b _=>by
  obtain rfl:i=0:=by simp at b;exact b
  exact h) (by simp)
section
variable {α:Type} {R:Mem->Value->α->Prop} {sz:Nat} {X:Nat->Bool} {base:Nat} {e:TypeId} {w:World} {ao:Option Addr} {cap:Nat} {l:List α}
theorem OL.elemAt(h:OL R sz X base e w ao cap l)(i:Nat)(t:i<l.length):∃g o u,adr ao (i*sz)=⟨g,o,none⟩/\ob ao g=true/\R (mk (un X ao) w) u l[i]/\Hid (∀Y W',ExtX Y w W'->Y g=false->∀j v,j<sz->(a0g u)[j]? =some v->W'.cell? ⟨g,o+j,none⟩=some v):=by
 obtain⟨m,y,b⟩:=h.hd (by omega);have k:adr ao (i*sz)=⟨m,y+i*sz,none⟩:=by rw[b];rfl
 obtain⟨f,z,n,_,p,q⟩:=h.cells;have c:i<f.length:=by omega
 refine⟨_,_,f[i],k,by rw[b];simp[ob],q i c t,hid fun Y W' r s j v x d=>?_⟩;have a:=a3b f i j c n x;rw[d]at a;have:=(p _ _ a).1;rw[<-a3y,k,Addr.add_lit]at this;exact r.cellY this s
theorem OL.own_read{β:Type}{a:Mem->Value->β->Prop}{b:World}{u:Value}{y:β}(_:OL R sz X base e w ao cap l)(d:a3K a)(g:a (mk (un X ao) w) u y)(c:ExtX (ob ao) w b):a (mk (un X ao) b) u y:=
 d _ _ _ _ (a0s c fun _ f=>a0u f) g
end
section
variable {P:Program} {ops:Array Oper} {Q:Exit->Act->World->Prop} {rest:List Oper} {a:Act} {w:World} {d:Option Tmp} {ty:TypeId} {ps:String} {af:Array Edge}
theorem a9l{t:TypeId}{x y:Operand}{n b o:Nat}{f g:Array Value}{T:TypeId}(p:a1M P t n)(r:a.eval x=.pointer (some ⟨b,o,none⟩))(s:a.eval y=.agg g)(q:Bx w b f T)(i:o+n<=f.size)(j:g.size=n)(c:∀v∈g.toList,v.oneCell'=true)(K:∀e,Bx e b (f.toList.take o++g.toList++f.toList.drop (o+n)).toArray T->ExtX (ob (some ⟨b,0,none⟩)) w e->wpList P ops Q rest (a.put d undef) e):wpList P ops Q (⟨d,.store t x y,ty,ps,af,none⟩::rest) a w:=by
 refine wpList_plain rfl fun k h=>?_;have:=a2O (P:=P) (ops:=ops) (Q:=Q) (a:=a) (w:=w) (o:=⟨d,.store t x y,ty,ps,af,none⟩) (K:=k) (E:=True) rfl rfl p r s q i j c (fun e l m=>h _ _ (K e l m));rwa[if_pos (by simp[Region.wanted])]at this
end
theorem a6n(f:Rat->Rat)(e:List Rat)(n:Nat):(a9s f e n).length=n:=by simp[a9s]
theorem a9m(f:Rat->Rat)(e:List Rat)(n:Nat):a9s f e (n+1)=a9s f e n++[pcE f e n]:=by simp[a9s,List.range_succ]
theorem b5Y(f:Rat->Rat)(e:List Rat)(n i:Nat)(h:i<(a9s f e n).length):(a9s f e n)[i]=pcE f e i:=by simp[a9s]
theorem b5Z(out:List Pc)(p:Pc):∃o,(a6g out p).getLast?=some o/\o.hi=p.hi:=by
 unfold a6g;split
 ·rename_i o _
  split
  ·exact⟨{o with hi:=p.hi},by simp,rfl⟩
  ·exact⟨p,by simp,rfl⟩
 ·exact⟨p,rfl,rfl⟩
theorem b4h(out:List Pc)(p:Pc):(a6g out p).length<=out.length+1:=by
 unfold a6g;split
 ·split
  ·simp
  ·simp
 ·simp
theorem b1l(f:Rat->Rat)(e:List Rat):∀n,(b1j f e n).length<=n
 |0=>by simp[b1j,a9s]
 |n+1=>by
  rw[a4n];have:=b4h (b1j f e n) (pcE f e n);have:=b1l f e n;omega
def a8o(K:Nat)(p:Pc):Prop:=hq p.a<=K/\hq p.b<=K/\hq (p.lo.getD 0)<=K/\hq (p.hi.getD 0)<=K
theorem b2e{K:Nat}{out:List Pc}{p:Pc}(h:∀o∈out,a8o K o)(c:a8o K p):∀o∈a6g out p,a8o K o:=by
 unfold a6g;split
 ·rename_i q hq
  have b:=h q (List.mem_of_getLast? hq);split
  ·intro o a
   rw[List.mem_append,List.mem_singleton]at a;rcases a with a|rfl
   ·exact h o ((List.dropLast_sublist out).subset a)
   ·exact⟨b.1,b.2.1,b.2.2.1,c.2.2.2⟩
  ·intro o a
   rw[List.mem_append,List.mem_singleton]at a;rcases a with a|rfl
   ·exact h o a
   ·exact c
 ·intro o a
  obtain rfl:=List.mem_singleton.1 a;exact c
theorem a6Y{K:Nat}{f:Rat->Rat}{e:List Rat}:∀n,(∀i,i<n->a8o K (pcE f e i))->∀o∈b1j f e n,a8o K o
 |0,_=>by simp[b1j,a9s]
 |n+1,h=>by
  rw[a4n];exact b2e (a6Y n fun i hi=>h i (by omega)) (h n (by omega))
theorem b6a{f:Rat->Rat}{e:List Rat}{B:Nat}(b:∀z,hq z<=B+10->hq (f z)<=50000000)(p:∀q∈e,hq q<=B)(u:B<=100000)(i:Nat):a8o 1000000000 (pcE f e i):=by
 have t:hq (1:Rat)<=1:=by decide+kernel
 have a:∀j,hq (fn e j)<=B+5:=fun j=>by
  by_cases c:j<e.length
  ·rw[c0O c];exact c1A (p _ (c1E c)) (by omega)
  ·have:fn e j=0:=by simp[fn,List.getD_eq_getElem?_getD,c]
   rw[this,a0U];omega
 have d:hq (ptP e i)<=B+10:=by
  unfold ptP;split
  ·have:=a 0;omega
  ·have:=a (i - 1);omega
 have m:hq (ptQ e i)<=B+10:=by
  unfold ptQ;split
  ·have l:=a3J (fn e 0) 1;have:=a 0;omega
  ·split
   ·have l:=a7p (fn e (i - 1)) 1;have:=a (i - 1);omega
   ·have:=a i;omega
 have o:hq (a4i f (ptP e i) (ptQ e i))<=100300000:=by
  unfold a4i;have g:=hq_div (f (ptQ e i) - f (ptP e i)) (ptQ e i - ptP e i);have h:=a3J (f (ptQ e i)) (f (ptP e i));have r:=a3J (ptQ e i) (ptP e i);have k:=b _ d;have s:=b _ m;omega
 have n:hq (a5p f (ptP e i) (ptQ e i))<=1000000000:=by
  unfold a5p;have g:=a3J (f (ptP e i)) (a4i f (ptP e i) (ptQ e i)*ptP e i);have h:=hq_mul (a4i f (ptP e i) (ptQ e i)) (ptP e i);have k:=b _ d;omega
 refine⟨n,c1A o (by decide),?_,?_⟩
 ·show hq ((loE e i).getD 0)<=_
  unfold loE;split
  ·rw[Option.getD_none,a0U];decide
  ·have:=a (i - 1);rw[Option.getD_some];omega
 ·show hq ((hiE e i).getD 0)<=_
  unfold hiE;split
  ·rw[Option.getD_none,a0U];decide
  ·have:=a i;rw[Option.getD_some];omega
theorem b8u{f:Rat->Rat}{e:List Rat}{n:Nat}(a:1<=n):∃o,(b1j f e n).getLast?=some o/\o.hi=hiE e (n - 1):=by
 obtain⟨k,rfl⟩:∃k,n=k+1:=⟨n - 1,by omega⟩;rw[a4n];exact b5Z _ _
theorem a9n{k t:Int}{n:Nat}(h:a6H k t n):a6H k t (n+1):=⟨by omega,h.2.imp id fun a=>by have:=h.1;omega⟩
theorem b6M(s:List Rat):(dd s).length<=s.length:=by
 have h:∀(s o:List Rat),(s.foldl ddS o).length<=o.length+s.length:=by
  intro s
  induction s with
  |nil=>intro o;simp
  |cons a s ih=>
   intro o;have h1:=ih (ddS o a);have h2:(ddS o a).length<=o.length+1:=by unfold ddS;split<;>simp
   simp only[List.foldl_cons,List.length_cons]at*;omega
 simpa[dd]using h s []
theorem b8v{S:List Rat}{i:Nat}(h:i<S.length):dd (S.take (i+1))=ddS (dd (S.take i)) S[i]:=by
 rw[List.take_succ_eq_append_getElem h,b4g]
theorem b4i{x y:Rat}:b1x x y=0↔x=y:=by
 unfold b1x;split
 ·rename_i h
  constructor
  ·intro a;omega
  ·intro a;subst a;exact absurd h Rat.lt_irrefl
 ·rename_i h
  split
  ·rename_i b
   constructor
   ·intro a;omega
   ·intro a;subst a;exact absurd b Rat.lt_irrefl
  ·rename_i b
   exact⟨fun _=>Rat.le_antisymm (Rat.not_lt.1 b) (Rat.not_lt.1 h),fun _=>rfl⟩
theorem b4j(X:Nat->Bool)(w:World)(u v:Value)(x y:Rat)(G:HX X w)(i:QV (mk X w) u x)(j:QV (mk X w) v y):Calls Tryz.prog 44 #[u,v] w (a7U w (decide (x=y))):=by
 have I:=hid i.hq;have J:=hid j.hq;obtain⟨O,t,M,A,C,K,E,rfl⟩:=i.shape;obtain⟨P,z,N,B,D,L,F,rfl⟩:=j.shape;obtain⟨W,Q,k,g,h,hz⟩:=a1K w #[.bool O,.slice t M A,.slice C K E] #[.bool P,.slice z N B,.slice D L F] 47 47;have a:HX (a0f X w.heap.size 2) W:=G.boxes hz;have d:=QV.mono _ _ _ _ (a0i (nb:=2) k) i;have f:=QV.mono _ _ _ _ (a0i (nb:=2) k) j;obtain⟨b,H⟩:=c1F w.heap.size;rw[H]at g h hz a d f;have m:=g.cell 0 rfl;have n:=g.cell 1 rfl;have o:=g.cell 2 rfl;have p:=h.cell 0 rfl;have q:=h.cell 1 rfl;have r:=h.cell 2 rfl;clear i j;have hd:decide (x=y)=(b1x x y==0):=by rw[Bool.eq_iff_iff];simp[b4i]
 obtain⟨c,s⟩:∃c:Int,b1x x y=c:=⟨_,rfl⟩;have hq:=b0I (a0f X b 2) W _ _ x y a d f;rw[hd];rw[s]at hq |-;clear s hd;go_enter Tryz.func44,Tryz.ntmps44
 go_wp2_with fail
 refine hq.mono ?_;rintro e R ⟨l,rfl⟩;clear m n o p q r hq;go_wp2_with fail
 go_ret
 exact⟨k.trans l,rfl⟩
theorem a7j:SliceT Tryz.prog 48 58 14 232 (.agg b8s):=⟨Tryz.underlying48,by kernel_rfl⟩
theorem b8w{lo i n:Bool}{a:Option Addr}{l c:Nat}{e:Option Addr}{j g:Nat}{o:Bool}{b:Option Addr}{m d:Nat}{f:Option Addr}{k h:Nat}:∀v∈(c0P lo i n a l c e j g o b m d f k h).toList,v.oneCell'=true:=by simp[c0P,Value.oneCell']
theorem a9o:TyI Tryz.prog 58 14:=let ⟨_,ti,_,a,b⟩:=a6h;⟨ti,a,b⟩
theorem b9U{lo q A B C D:Bool}{a i b j c k d l:Option Addr}{w e r m x f s n y g t o z h u p:Nat}:∀v∈(#[Value.bool A,.slice a w e,.slice i r m,.bool B,.slice b x f,.slice j s n,.bool lo,.bool q,.bool C,.slice c y g,.slice k t o,.bool D,.slice d z h,.slice l u p]:Array Value).toList,v.oneCell'=true:=by simp[Value.oneCell']
theorem b0l:TyI Tryz.prog 4 1:=by
 have h:(Tryz.prog.info? 4).map (fun i=>(i.zero,i.size))=some (some (.bool false),1):=by kernel_rfl
 cases hi:Tryz.prog.info? 4 with
 |none=>rw[hi]at h;cases h
 |some ti=>rw[hi]at h;simp at h;exact⟨ti,hi,h.2⟩
def okQ(e:Int)(q:Rat):Rat:=if e=0 then q else 0
def QEo(X:Nat->Bool)(w:World)(er:Int)(q:Rat)(e:Ending)(w':World):Prop:=Ext w w'/\∃u,e=.returned (.tuple #[u,.int .i64 er])/\QC (mk X w') u (okQ er q)
def b9V(k t:Int)(l:List Rat)(z:Rat):Rat:=((((l.length+1:Nat):Int)):Rat)*(a5o k t (l++[z]) - a5o k t l)
theorem c0Q(X:Nat->Bool)(w:World)(u v:Value)(k t:Int)(l:List Rat)(z:Rat)(B:Nat)(hX:HX X w)(hu:RV (mk X w) u l)(hv:QV (mk X w) v z)(hk:a5n k t)(hf:a6H k t l.length)(hl:l.length<=19)(hB:BR B l)(hBz:hq z<=B)(hBB:B<=100000):Calls Tryz.prog 20 #[.agg #[.int .i64 k,.int .i64 t],u,v] w (QEo X w 0 (b9V k t l z)):=by
 obtain⟨s1,a1,n1,c1,d1,k1,e1,rfl⟩:=hv.shape;obtain⟨W,hW,hE,b0,b1,b2,hz⟩:=a2r w #[.int .i64 k,.int .i64 t] #[.bool s1,.slice a1 n1 c1,.slice d1 k1 e1] #[.bool false,.slice none 0 0,.slice none 0 0] 52 47 47;have hXW:HX (a0f X w.heap.size 3) W:=hX.boxes hz;have hu1:=RV.mono _ _ _ _ (a0i (nb:=3) hE) hu;have hv1:=QV.mono _ _ _ _ (a0i (nb:=3) hE) hv;obtain⟨b,hb⟩:=c1F w.heap.size;rw[hb]at b0 b1 b2 hz hXW hu1 hv1;obtain⟨Z,hZ⟩:=c1F (a0f X b 3);rw[hZ]at hXW hu1 hv1;obtain⟨ao,ca,rfl,hca,hsa⟩:=hu;have hck:=b6L W k t ao l.length ca (by omega);rw[a9k.2 ⟨hk,hf,by omega⟩]at hck;have hB1:BR (B+10) (l++[z]):=fun q hq=>by
  rw[List.mem_append,List.mem_singleton]at hq;rcases hq with h|rfl
  ·exact c1A (hB q h) (by omega)
  ·omega
 have hq1:=hid (a9j (k:=k) (t:=t) hB1 (by simp;omega) (by omega));have hq2:=hid (a9j (k:=k) (t:=t) hB (by omega) (by omega));have hwi:=hid fun M w' u' vz (hM:HX M w') (h1:RV (mk M w') u' l) (h2:QV (mk M w') vz z)=>b7Z M w' u' vz l z hM h1 h2 (by omega);have hva:=hid fun M w' u' (hM:HX M w') (h1:RV (mk M w') u' (l++[z]))=>b0Y M w' u' k t (l++[z]) (B+10) hM h1 hk (by simpa using a9n hf) (by simp;omega) hB1 (by omega);have hvb:=hid fun M w' u' (hM:HX M w') (h1:RV (mk M w') u' l)=>b0Y M w' u' k t l B hM h1 hk hf (by omega) hB (by omega);have hse:Hid (((((l.length+1:Nat):Int)):Rat)*(a5o k t (l++[z]) - a5o k t l)=b9V k t l z):=hid rfl;obtain⟨E1,hE1⟩:=c1F (a5o k t (l++[z]));obtain⟨E2,hE2⟩:=c1F (a5o k t l);obtain⟨E3,hE3⟩:=c1F (b9V k t l z);rw[hE1,hE2,hE3]at hse;rw[hE3];rw[hE1]at hq1 hva;rw[hE2]at hq2 hvb;have hqd:Hid (hq (E1 - E2)<=68719476736):=hid (by have:=a3J E1 E2;have:=hq1.out;have:=hq2.out;omega);obtain⟨n,hn⟩:=c1F l.length;rw[hn]at hck hca hl hu1 hse |-;have hqn:Hid (hq ((((n+1:Nat):Int)):Rat)<=68719476736):=hid (c1A (a4y _ 1 (by
  rw[Int.natAbs_natCast,a2c (by omega) (by omega)];exact c1B _) (c1B _)) (by decide))
 have hn64:((n:Int)==64)=false:=a2C (by omega);have hu2:=hid hu1;have hv2:=hid hv1;have k0:=b0.cell 0 rfl;have k1':W.cell? ⟨b,1,none⟩=some (.int .i64 t):=b0.cell 1 rfl;clear hE1 hE2 hE3 hB hB1 hBz hk hf hsa hn hv;go_enter Tryz.func20,Tryz.ntmps20
 go_upto_region 6 with(first
  |(go_at_call 42;refine hck.mono ?_;rintro ee wk ⟨hE1,rfl⟩))
 have hXk:=hXW.ext hE1;have hu3:=hid (mkx RV.mono hu2.out hE1);have hv3:=hid (mkx QV.mono hv2.out hE1);have hEd:=c1L wk;have hXd:=hXk.ext hEd;have c0:=b0.ext0 (hE1.trans hEd);have c1':=b1.ext0 (hE1.trans hEd);have hud:=hid (mkx RV.mono hu3.out hEd);have hvd:=hid (mkx QV.mono hv3.out hEd);have hwS:wk.drew.cell? ⟨b,0,none⟩=some (.int .i64 k)/\wk.drew.cell? ⟨b,1,none⟩=some (.int .i64 t)/\wk.drew.cell? ⟨b+1,0,none⟩=some (.bool s1)/\wk.drew.cell? ⟨b+1,1,none⟩=some (.slice a1 n1 c1)/\wk.drew.cell? ⟨b+1,2,none⟩=some (.slice d1 k1 e1):=⟨c0.cell 0 rfl,c0.cell 1 rfl,c1'.cell 0 rfl,c1'.cell 1 rfl,c1'.cell 2 rfl⟩;clear k0 k1' hck
 (try simp only[Act.put])
 refine a0n 10 (fun w'=>w'.cell? ⟨b,0,none⟩=some (.int .i64 k)/\w'.cell? ⟨b,1,none⟩=some (.int .i64 t)/\w'.cell? ⟨b+1,0,none⟩=some (.bool s1)/\w'.cell? ⟨b+1,1,none⟩=some (.slice a1 n1 c1)/\w'.cell? ⟨b+1,2,none⟩=some (.slice d1 k1 e1)) (by kernel_rfl) (by kernel_rfl) hwS (fun hHeld hOnce=>?_);refine kt 0 hOnce ?_;refine kt 1 hOnce ?_;refine kt 2 hOnce ?_;refine kt 5 hOnce ?_;refine kt 6 hOnce ?_;refine a1z [3,4,7,8] [⟨9,9,47,#[.bool false,.slice none 0 0,.slice none 0 0]⟩] Z 1 hXd hHeld (fun _ _ h hE=>⟨hE.cell h.1,hE.cell h.2.1,hE.cell h.2.2.1,hE.cell h.2.2.2.1,hE.cell h.2.2.2.2⟩) ?_;refine a0E (fun M1 w1 ps1 hX1 hZ1 hE1 hF1 hS1 K hK=>?_);simp only[a1y,Act.put,c1G,c1H,c1I];go_simp
 (with_reducible refine(hwi.out M1 w1 _ _ hX1 (upx RV.mono hF1 hud.out) (upx QV.mono hF1 hvd.out)).mono ?_);rintro ee w' ⟨hE',u1,rfl,hv1⟩
 refine hK.out _ _ _ _ _ RV.mono hE' hv1 (by simp only[a1y,Act.put,c1G,c1H,c1I]) ?_;clear hK K hX1 hZ1 hE1 hF1 hS1;refine a0E (fun M2 w2 ps2 hX2 hZ2 hE2 hF2 hS2 K hK=>?_);simp only[a1y,Act.put,c1G,c1H,c1I];go_simp
 (with_reducible refine(hva.out M2 w2 _ hX2 hF2.2).mono ?_);rintro ee w' ⟨hE',u2,rfl,hv2⟩
 refine hK.out _ _ _ _ _ QC.mono hE' hv2 (by simp only[a1y,Act.put,c1G,c1H,c1I]) ?_;clear hK K hX2 hZ2 hE2 hF2 hS2;refine a0E (fun M3 w3 ps3 hX3 hZ3 hE3 hF3 hS3 K hK=>?_);simp only[a1y,Act.put,c1G,c1H,c1I];go_simp
 (with_reducible refine(hvb.out M3 w3 _ hX3 (upx RV.mono hF3.1.1 hud.out)).mono ?_);rintro ee w' ⟨hE',u3,rfl,hv3⟩
 refine hK.out _ _ _ _ _ QC.mono hE' hv3 (by simp only[a1y,Act.put,c1G,c1H,c1I]) ?_;clear hK K hX3 hZ3 hE3 hF3 hS3;refine a0E (fun M4 w4 ps4 hX4 hZ4 hE4 hF4 hS4 K hK=>?_);simp only[a1y,Act.put,c1G,c1H,c1I];go_simp
 (with_reducible refine(b4X M4 w4 _ _ _ _ hX4 (hF4.1.2.qv (c1A hq1.out (by decide))) (hF4.2.qv (c1A hq2.out (by decide)))).mono ?_);rintro ee w' ⟨hE',u4,rfl,hv4⟩;obtain⟨s4,a4,n4,c4,d4,k4,e4,rfl⟩:=hv4.shape
 refine hK.out _ _ _ _ _ QC.mono hE' hv4 (by simp only[a1y,Act.put,c1G,c1H,c1I]) ?_;clear hK K hX4 hZ4 hE4 hF4 hS4;refine a2W (fun M w5 gs hX5 hZ5 hE5 hF5 hS5 hb5 hn5=>?_);simp only[a1y,ptr,Act.put,c1G,c1H,c1I];obtain⟨ga,hga⟩:=c1F (gs 0);obtain⟨x5,m5,l5⟩:=hb5 0 _ rfl;rw[hga]at x5 m5 l5;simp only[hga];refine kl 10 (fun K hK=>?_)
 (refine a0r rfl rfl a0p rfl rfl x5 rfl rfl a1s ?_;intro w6 z6 y6)
 refine hK.out _ _ ?_;clear hK K
 (try simp only[Act.put])
 have hl6:=a0s (X:=M) y6 (fun k hk=>by
  have:ga=k:=by simpa[ob]using hk
  rw[<-this];exact m5)
 have q6:=(QC.mono _ _ _ _ hl6 hF5.2).qv hqd.out;have hX6:HX M w6:=hX5.ext y6;have hE16:Ext wk w6:=ExtX.box (hEd.trans hE5) y6 l5;have b26:=b2.ext0 (hE1.trans hE16);have hMM:=hid hZ5;have hgb:b+1+1<ga:=by
  have h1:=(b2.ext0 (hE1.trans hEd)).lt;omega
 have e1w:IntKind.i64.wrap ((n:Int)+1)=(n:Int)+1:=IntWalk.i64_in _ (by omega);have hse2:Hid (((((n:Int)+1:Int)):Rat)*(E1 - E2)=E3):=hid (by rw[<-hse.out,show((n+1:Nat):Int)=(n:Int)+1 by omega]);have hqn2:Hid (hq ((((n:Int)+1:Int)):Rat)<=68719476736):=hid (by have:=hqn.out;rwa[show((n+1:Nat):Int)=(n:Int)+1 by omega]at this);clear hF5 hS5 hb5 hn5 hX5 hZ5 hE5 l5 m5 x5 y6 hl6 hga hHeld hOnce hwS c0 c1' hud hvd hwi hva hvb hq1 hq2 hXk hXd hXW;have hEd6:=c1L w6;have hXd6:=hX6.ext hEd6;have hq6d:=mkx QV.mono q6 hEd6;have hwS:w6.drew.cell? ⟨ga,0,none⟩=some (.bool s4)/\w6.drew.cell? ⟨ga,1,none⟩=some (.slice a4 n4 c4)/\w6.drew.cell? ⟨ga,2,none⟩=some (.slice d4 k4 e4):=⟨hEd6.cell (z6.cell 0 rfl),hEd6.cell (z6.cell 1 rfl),hEd6.cell (z6.cell 2 rfl)⟩;go_upto_region 7 with fail
 (try simp only[Act.put])
 refine a0n 7 (fun w'=>w'.cell? ⟨ga,0,none⟩=some (.bool s4)/\w'.cell? ⟨ga,1,none⟩=some (.slice a4 n4 c4)/\w'.cell? ⟨ga,2,none⟩=some (.slice d4 k4 e4)) (by kernel_rfl) (by kernel_rfl) hwS (fun hHeld hOnce=>?_);refine kt 0 hOnce ?_;refine kt 1 hOnce ?_;refine kt 2 hOnce ?_;refine kt 4 hOnce ?_;refine ks 3 (fun K hK=>?_);go_simp
 ((with_reducible refine(a8G M w6.drew ((n:Int)+1) hXd6 (by omega) (by omega)).mono ?_);rintro ee wa ⟨ga1,ua,rfl,hua⟩;obtain⟨s5,a5,n5,c5,d5,k5,e5,rfl⟩:=hua.shape)
 refine kcn hK ⟨ga1.cell hHeld.1,ga1.cell hHeld.2.1,ga1.cell hHeld.2.2⟩ (fun hHeld=>?_);clear hK K;refine ks 5 (fun K hK=>?_);go_simp
 ((with_reducible refine(a9E M wa _ _ _ _ (hXd6.ext ga1) (hua.qv hqn2.out) (mkx QV.mono hq6d ga1)).mono ?_);rintro ee wb ⟨gb1,ub,rfl,hub⟩;obtain⟨s7,a7,n7,c7,d7,k7,e7,rfl⟩:=hub.shape)
 refine kcn hK ⟨gb1.cell hHeld.1,gb1.cell hHeld.2.1,gb1.cell hHeld.2.2⟩ (fun hHeld=>?_);clear hK K;have gab:=hEd6.trans (ga1.trans gb1);have b2b:=b26.ext0 gab;have hobg:ob (some ⟨b+1+1,0,none⟩) ga=false:=a0b (by omega);refine ks 6 (fun K hK=>?_)
 (refine a0r rfl rfl a0p rfl rfl b2b rfl rfl a1s ?_;intro wf xf yf)
 refine kcn hK ⟨yf.cellY hHeld.1 hobg,yf.cellY hHeld.2.1 hobg,yf.cellY hHeld.2.2 hobg⟩ (fun hHeld=>?_);clear hK K;refine kl 7 (fun K hK=>?_);go_simp
 refine hK.out _ _ ?_;clear hK K;have hl3:Le (mk M wb) (mk X wf):=(a0s yf (fun k hk=>hMM.out k (by
  have h1:b+1+1=k:=by simpa[ob]using hk
  rw[<-hZ,<-h1];exact a3B (by omega) (by omega)))).trans (a1a fun k _ hk=>hMM.out k (by rw[<-hZ];exact a8C hk))
 have hq3:=QC.mono _ _ _ _ hl3 hub;rw[hse2.out]at hq3;go_wp2_with fail
 exact bodyPost_ret (a0C rfl rfl a0p xf rfl) rfl ⟨ExtX.box (hE.trans (hE1.trans (hE16.trans gab))) yf (by omega),_,rfl,hq3⟩
end Go.Proofs.YtjmnhbebpffoaaaGreat
