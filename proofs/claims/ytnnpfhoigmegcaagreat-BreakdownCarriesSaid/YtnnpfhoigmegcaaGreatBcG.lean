/- Parts of a proof: each theorem states what it proves, and its conditions. -/
import Derived.Test.YtnnpfhoigmegcaaGreatBcF
import Derived.BigRegion
set_option maxRecDepth 100000
set_option maxHeartbeats 1600000
namespace Go.Lin
def z0:Vec:=fun _=>0
def a7H(z:List Vec)(I:List Nat):List Vec:=I.map fun i=>z.getD i z0
theorem b5C{z:List Vec}{i:Nat}(h:i<z.length):z.getD i z0=z[i]:=by simp[List.getD_eq_getElem?_getD,h]
theorem sel{c:Nat}(z:List Vec)(x:Vec)(hn:nz c x):∀(r:Nat) (O:List Vec),Dim c O (r+1)->Ort c O x->(∀y,Ort c O y->(∀v∈onL c x z,dot c y v=0)->∃t:Rat,∀j,j<c->y j=t*x j)-> ∃I:List Nat,I.length=r/\I.Nodup/\(∀i∈I,i<z.length/\dot c (z.getD i z0) x=0/\∃y,Ort c O y/\dot c (z.getD i z0) y≠0)/\∀y,Ort c O y->(∀i∈I,dot c (z.getD i z0) y=0)->∃t:Rat,∀j,j<c->y j=t*x j:=by
 intro r
 induction r with
 |zero=>exact fun O hd hx _=>⟨[],rfl,List.nodup_nil,fun i hi=>by simp at hi,fun y hy _=>hd.one hx hn y hy⟩
 |succ r ih=>
  intro O hd hx hv;obtain⟨y,hy,hyn⟩:=hd.two x;obtain⟨v,hvm,hvy⟩:∃v∈onL c x z,dot c y v≠0:=by
   apply Classical.byContradiction;intro h;obtain⟨t,ht⟩:=hv y hy fun v hv=>Classical.byContradiction fun e=>h ⟨v,hv,e⟩;exact hyn t ht
  obtain⟨hvz,hvx⟩:=List.mem_filter.1 hvm;have hvx:dot c x v=0:=by simpa using hvx
  obtain⟨i,hi,rfl⟩:=List.getElem_of_mem hvz;have hd2:=hd.more (v:=z[i]) hy (by rw[a1d];exact hvy);obtain⟨I,h1,h2,h3,h4⟩:=ih (O++[z[i]]) hd2 (Ort.app.2 ⟨hx,fun w hw=>by
   have:w=z[i]:=by simpa using hw
   subst this;rw[a1d];exact hvx⟩) fun y' hy'=>hv y' (Ort.app.1 hy').1
  refine⟨i::I,by simp[h1],List.nodup_cons.2 ⟨fun hm=>?_,h2⟩,fun q hq=>?_,fun y' hy' hq=>?_⟩
  ·obtain⟨_,_,y',hy',hne⟩:=h3 i hm
   rw[b5C hi]at hne;exact hne ((Ort.app.1 hy').2 _ (by simp))
  ·rcases List.mem_cons.1 hq with rfl|hq
   ·exact⟨hi,by rw[b5C hi,a1d];exact hvx,y,hy,by rw[b5C hi,a1d];exact hvy⟩
   ·obtain⟨a,b,y',hy',hne⟩:=h3 q hq
    exact⟨a,b,y',(Ort.app.1 hy').1,hne⟩
  ·refine h4 y' (Ort.app.2 ⟨hy',fun w hw=>?_⟩) fun q hq'=>hq q (List.mem_cons_of_mem _ hq')
   have:w=z[i]:=by simpa using hw
   subst this;have:=hq i List.mem_cons_self;rwa[b5C hi]at this
theorem asc{I:List Nat}{n:Nat}(h:I.Nodup)(a:∀i∈I,i<n):∃J:List Nat,J.length=I.length/\J.Pairwise (· < ·)/\∀i,i∈J↔i∈I:=by
 refine⟨(List.range n).filter (· ∈I),?_,List.Pairwise.filter _ List.pairwise_lt_range,fun i=>?_⟩
 ·refine List.Perm.length_eq ((List.perm_ext_iff_of_nodup ?_ h).2 fun i=>?_)
  ·exact List.Pairwise.imp (fun h=>Nat.ne_of_lt h) (List.Pairwise.filter _ List.pairwise_lt_range)
  ·simp only[List.mem_filter,List.mem_range,decide_eq_true_eq]
   exact⟨fun h=>h.2,fun h=>⟨a i h,h⟩⟩
 ·simp only[List.mem_filter,List.mem_range,decide_eq_true_eq]
  exact⟨fun h=>h.2,fun h=>⟨a i h,h⟩⟩
theorem a9l{c:Nat}{M:List Vec}{x:Vec}(hn:nz c x)(hx:Ort c M x)(h:∀y,Ort c M y->∃t:Rat,∀j,j<c->y j=t*x j):Dim c M 1:=by
 obtain⟨k,hk⟩:=a8B c M
 match k,hk with
 |0,hk=>
  obtain⟨f,hf⟩:=hk;obtain⟨a,ha⟩:=hf.span x hx;exact absurd (fun j hj=>by rw[ha j hj];rfl) hn.not
 |1,hk=>exact hk
 |k+2,hk=>
  obtain⟨y,hy,hyn⟩:=hk.two x;obtain⟨t,ht⟩:=h y hy;exact absurd ht (hyn t)
theorem b0w{c:Nat}{u x:Vec}(h:∀j,j<c->u j=x j)(z:List Vec):a7G c u z=a7G c x z/\onL c u z=onL c x z/\a3F c u z=a3F c x z:=by
 have:∀v,dot c u v=dot c x v:=fun v=>a4Y h;unfold a7G onL a3F;simp only[this];exact⟨trivial,trivial,trivial⟩
def a4Z(c:Nat):List Vec->Vec->Bool
 | [],_=>true
 |u::us,v=>decide (0<dot c u v)||(decide (dot c u v=0)&&a4Z c us v)
def a9m(c:Nat)(us:List Vec)(z:List Vec):Nat:=z.countP fun v=>a4Z c us v
theorem b2k(c:Nat)(z:List Vec):a9m c [] z=z.length:=by simp[a9m,a4Z]
theorem a3Y(c:Nat)(u:Vec)(us z:List Vec):a9m c (u::us) z=a7G c u z+a9m c us (onL c u z):=by
 induction z with
 |nil=>rfl
 |cons v z ih=>
  unfold a9m a7G onL at*;rw[List.countP_cons,List.countP_cons,List.filter_cons,ih];by_cases a:0<dot c u v
  ·rw[if_pos (by simp[a4Z,a]),if_pos (by simpa using a),if_neg (by simp;grind)];omega
  ·by_cases b:dot c u v=0
   ·rw[if_neg (c:=decide (0<dot c u v)=true) (by simpa using a),if_pos (c:=decide (dot c u v=0)=true) (by simpa using b),List.countP_cons]
    have e:a4Z c (u::us) v=a4Z c us v:=by simp[a4Z,b]
    rw[e];omega
   ·rw[if_neg (by simp[a4Z,a,b]),if_neg (by simpa using a),if_neg (by simpa using b)];omega
theorem a8C{c:Nat}{u:Vec}(h:¬nz c u)(z:List Vec):a7G c u z=0/\onL c u z=z:=by
 have b:∀j,j<c->u j=0:=fun j d=>Classical.byContradiction fun e=>h ⟨j,d,e⟩;have hd:∀v,dot c u v=0:=fun v=>a2I b;unfold a7G onL;simp only[hd];refine⟨?_,List.filter_eq_self.2 fun _ _=>by simp⟩;rw[List.countP_eq_zero];intro a _;simp
theorem a7b(c:Nat):∀(us z:List Vec),(∀u∈us,¬nz c u)->a9m c us z=z.length
 | [],z,_=>b2k c z
 |u::us,z,h=>by
  obtain⟨h1,h2⟩:=a8C (h u List.mem_cons_self) z;rw[a3Y,h1,h2,a7b c us z fun u hu=>h u (List.mem_cons_of_mem _ hu)];omega
theorem a4q{c:Nat}:∀(us z:List Vec) (k:Nat),a2R c z k->(∃u∈us,nz c u)->k<=a9m c us z
 | [],_,_,_,h=>by obtain⟨_,h,_⟩:=h;simp at h
 |u::us,z,k,hk,h=>by
  rw[a3Y];by_cases hu:nz c u
  ·obtain⟨l,hl⟩:=b6c (c:=c) (by obtain⟨j,hj,_⟩:=hu;omega) (onL c u z)
   have h1:=hk.lower hu hl;have h2:l<=a9m c us (onL c u z):=by
    by_cases hs:∃u∈us,nz c u
    ·exact a4q us _ l hl hs
    ·rw[a7b c us _ fun u hu hn=>hs ⟨u,hu,hn⟩];exact hl.le
   omega
  ·obtain⟨h1,h2⟩:=a8C hu z
   rw[h1,h2];have:=a4q us z k hk (by
    obtain⟨x,hx,hn⟩:=h;rcases List.mem_cons.1 hx with rfl|hx
    ·exact absurd hn hu
    ·exact⟨x,hx,hn⟩)
   omega
theorem a5Q{c:Nat}{v:Vec}(h:¬nz c v):∀us:List Vec,a4Z c us v=true
 | []=>rfl
 |u::us=>by
  have h0:dot c u v=0:=by
   rw[a1d];exact a2I fun j hj=>Classical.byContradiction fun e=>h ⟨j,hj,e⟩
  simp[a4Z,h0,a5Q h us]
open Classical in
noncomputable def nzL(c:Nat)(z:List Vec):List Vec:=z.filter fun v=>decide (nz c v)
open Classical in
theorem a5R{c:Nat}{p:Vec->Bool}(hp:∀v,¬nz c v->p v=true)(z:List Vec):z.countP p=(nzL c z).countP p+(z.length - (nzL c z).length):=by
 induction z with
 |nil=>rfl
 |cons v z ih=>
  have hle:(nzL c z).length<=z.length:=List.length_filter_le ..;unfold nzL at*;rw[List.filter_cons,List.countP_cons];by_cases h:nz c v
  ·rw[if_pos (c:=decide (nz c v)=true) (by simpa using h),List.countP_cons,List.length_cons,List.length_cons,ih];omega
  ·rw[if_neg (c:=decide (nz c v)=true) (by simpa using h),List.length_cons,if_pos (hp v h),ih];omega
theorem b2l(c:Nat)(us z:List Vec):a9m c us z=a9m c us (nzL c z)+(z.length - (nzL c z).length):=a5R (fun _ h=>a5Q h us) z
theorem a7c(c:Nat)(u:Vec)(z:List Vec):a3F c u z=a3F c u (nzL c z)+(z.length - (nzL c z).length):=a5R (fun v h=>by
 have a:dot c u v=0:=by rw[a1d];exact a2I fun j b=>Classical.byContradiction fun e=>h ⟨j,b,e⟩
 simp[a]) z
theorem a2R.nzL{c k:Nat}{z:List Vec}(h:a2R c (nzL c z) k):a2R c z (k+(z.length - (nzL c z).length)):=by
 obtain⟨⟨u,a,b⟩,d⟩:=h;refine⟨⟨u,a,by rw[a7c,b]⟩,fun v e=>?_⟩;rw[a7c];have:=d v e;omega
structure Wit (c:Nat) (z:List Vec) (n:Nat) (us:List Vec):Prop where
 head:∃u t,us=u::t/\nz c u
 cnt:a9m c us z=n
 few:∀k,Dim c z k->us.length+k<=c\/us.length=1
theorem Wit.least{c n k:Nat}{z us:List Vec}(h:Wit c z n us)(a:a2R c z k):k<=n:=by
 obtain⟨u,t,rfl,b⟩:=h.head;rw[<-h.cnt];exact a4q _ _ _ a ⟨u,List.mem_cons_self,b⟩
theorem Wit.one{c:Nat}{z:List Vec}{u:Vec}(b:nz c u)(a:onL c u z= []):Wit c z (a7G c u z) [u]:=
 ⟨⟨u,[],rfl,b⟩,by rw[a3Y,a];rfl,fun _ _=>Or.inr rfl⟩
theorem Dim.lt{c k m:Nat}{z L:List Vec}{u:Vec}(h:Dim c z k)(d:Dim c L m)(hs:∀v∈L,v∈z)(e:Ort c L u)(p:∃v∈z,dot c v u≠0):k<m:=by
 obtain⟨v,q,hne⟩:=p;rcases m with _|m
 ·obtain⟨f,b⟩:=d
  obtain⟨a,l⟩:=b.span u e;exact absurd (by rw[a1d];exact a2I fun j o=>by rw[l j o];rfl) hne
 ·obtain⟨g,n⟩:=d.more e hne
  obtain⟨f,b⟩:=h;have:=b.le n fun y i=>Ort.app.2 ⟨fun x hx=>i x (hs x hx),fun x hx=>by simp at hx;subst hx;exact i _ q⟩;omega
theorem Dim.lt_c{c k:Nat}{z:List Vec}(h:Dim c z k)(hz:∃v∈z,nz c v):k<c:=by
 obtain⟨v,n,l⟩:=hz;obtain⟨m,a⟩:=a8B c [];have o:=h.lt a (by simp) (u:=v) (by simp[Ort]) ⟨v,n,fun e=>l.not (b2f e)⟩;obtain⟨f,b⟩:=a;have:=b0u (m:=c) (g:=fun i j=>if j=i then 1 else 0) b.li fun i _=>⟨f i,fun j d=>by unfold cmb;rw[a2r j d fun i _ hi=>by simp[Ne.symm hi]];simp⟩;omega
theorem Wit.more{c l:Nat}{z us:List Vec}{u:Vec}(i:nz c u)(h:Wit c (onL c u z) l us)(g:∃v∈onL c u z,nz c v)(f:∃v∈z,dot c v u≠0):Wit c z (a7G c u z+l) (u::us):=
 ⟨⟨u,us,rfl,i⟩,by rw[a3Y,h.cnt],fun k e=>by
  obtain⟨m,a⟩:=a8B c (onL c u z);have j:=e.lt a (fun v b=>(List.mem_filter.1 b).1) (u:=u) (fun v b=>by rw[a1d];simpa using(List.mem_filter.1 b).2) f;have n:=a.lt_c g;rcases h.few m a with d|d
  ·left;simp;omega
  ·left;simp;omega⟩
def b2m(c:Nat)(z O:List Vec)(cnt:Nat)(I:List Nat):Prop:=Dim c (a7H z I++O) 1->∀x,nz c x->Ort c (a7H z I++O) x->∀l,a2R c (onL c x z) l->cnt<=a7G c x z+l
theorem b2m.le{c:Nat}{z O:List Vec}{m n:Nat}{I:List Nat}(h:b2m c z O n I)(f:m<=n):b2m c z O m I:=fun a x b d l e=>Nat.le_trans f (h a x b d l e)
def vec(l:List Rat):Vec:=fun j=>l.getD j 0
def a1D(m:Mat):List Vec:=m.map vec
noncomputable def a1j(m:Mat)(c:Nat):Mat:=a2b (ent (a1P m c).1) (a1P m c).2 c
theorem b4G(m:Mat):∀i j,fL (a1D m) i j=ent m i j:=fun i j=>by
 unfold fL a1D ent;rw[List.getD_eq_getElem?_getD,List.getElem?_map,List.getD_eq_getElem?_getD];rcases h:m[i]? with _|r
 ·simp[h]
 ·simp[vec,h]
theorem b2n{n c:Nat}{m:Mat}(hs:Shp n c m)(y:Vec):Ort c (a1D m) y↔Nul n c (ent m) y:=by
 rw[b0v,show(a1D m).length=n by simp[a1D,hs.1]];unfold Nul;simp only[b4G]
theorem a3t{n c:Nat}{m:Mat}(hs:Shp n c m):Basis c (Ort c (a1D m)) (a1j m c).length (ent (a1j m c)):=by
 obtain⟨_,a,d,b⟩:=a2x hs;exact(a5P a b).of_iff fun y=>(b2n hs y).symm
theorem a8D{n c:Nat}{m:Mat}(hs:Shp n c m):Dim c (a1D m) (a1j m c).length:=⟨_,a3t hs⟩
theorem a3Z{m:Mat}{c:Nat}:∀l∈a1j m c,l.length=c:=fun l a=>by
 unfold a1j a2b at a;obtain⟨j,_,rfl⟩:=List.mem_map.1 a;simp
theorem a5a(m:Mat)(c:Nat):Shp (a1j m c).length c (a1j m c):=⟨rfl,a3Z⟩
theorem a5b{n c:Nat}{m:Mat}(hs:Shp n c m):(a1j m c).length=c - (a1P m c).2.length:=b0o (a2x hs).2.1
theorem b2o{n c:Nat}{m:Mat}(hs:Shp n c m):Dim c (a1D (a1j m c)) (a1P m c).2.length:=by
 have e:=a8D (a5a m c);have g:=a5b (a5a m c);have i:=a5b hs;have q:(a1P m c).2.length<=c:=by
  have f:=(a2x hs).2.1;have l:(a1P m c).2.Nodup:=(f.pw).imp (fun h=>Nat.ne_of_lt h);have o:(a1P m c).2.length<=(List.range c).length:=l.length_le_of_subset fun x hx=>by
   obtain⟨k,p,rfl⟩:=List.getElem_of_mem hx;exact List.mem_range.2 (f.lt k p)
  simpa using o
 have j:(a1P (a1j m c) c).2.length=(a1j m c).length:=by
  obtain⟨_,a,d,b⟩:=a2x (a5a m c);exact(a8A _ _ _).full a b
 rw[g,j,i]at e;rwa[show c - (c - (a1P m c).2.length)=(a1P m c).2.length by omega]at e
theorem b2p(c:Nat):Dim c [] c:=by
 have:=b2o (n:=0) (c:=c) (m:=[]) ⟨rfl,by simp⟩;refine⟨fun i j=>if j=i then 1 else 0,⟨fun i _=>by simp[Ort],fun y h i hi=>?_,fun y _=>⟨y,fun j b=>?_⟩⟩⟩
 ·have:=h i hi
  unfold cmb at this;rw[a2r i hi fun k _ a=>by simp[Ne.symm a]]at this;simpa using this
 ·unfold cmb;rw[a2r j b fun k _ a=>by simp[Ne.symm a]];simp
theorem a7d{c:Nat}{z:List Vec}(a:0<c)(h:∀y,(∀v∈z,dot c y v=0)->∀j,j<c->y j=0):Dirs c z (Ort c []):=
 ⟨fun _ _ _ _ _=>by simp[Ort],fun y _ b=>h y b,fun u=>⟨u,by simp[Ort],fun _ _=>rfl⟩,⟨fun _=>1,by simp[Ort],0,a,by grind⟩⟩
section
variable {n c:Nat} {m:Mat} (hs:Shp n c m)
include hs
end
end Go.Lin
namespace Go.Lin
theorem a7I{z:Mat}{p:List Rat->Bool}{q:Vec->Bool}(h:∀r∈z,p r=q (vec r)):a1D (z.filter p)=(a1D z).filter q:=by
 unfold a1D;rw[List.filter_map];exact congrArg _ (List.filter_congr fun r a=>h r a)
def b0x(r:List Rat):Bool:=r.all fun x=>decide (x=0)
theorem b3E{c:Nat}{r:List Rat}(d:r.length=c):nz c (vec r)↔b0x r=false:=by
 constructor
 ·rintro ⟨j,b,hne⟩
  rw[<-Bool.not_eq_true];intro h;unfold b0x at h;rw[List.all_eq_true]at h;have a:j<r.length:=by omega
  have:=h r[j] (List.getElem_mem a);apply hne;unfold vec;rw[List.getD_eq_getElem?_getD,List.getElem?_eq_getElem a];simpa using this
 ·intro h
  apply b2g;intro hz;rw[<-Bool.not_eq_true]at h;apply h;unfold b0x;rw[List.all_eq_true];intro x hx;obtain⟨j,b,rfl⟩:=List.getElem_of_mem hx;have:=hz j (by omega);unfold vec at this;rw[List.getD_eq_getElem?_getD,List.getElem?_eq_getElem b]at this;simpa using this
def a5S(z:Mat):Mat:=z.filter fun r=> !b0x r
theorem a5c{n c:Nat}{z:Mat}(hs:Shp n c z):a1D (a5S z)=nzL c (a1D z):=a7I fun r a=>by
 by_cases h:b0x r=false
 ·rw[h];have:=(b3E (hs.2 r a)).2 h;simp[this]
 ·have b:¬nz c (vec r):=fun k=>h ((b3E (hs.2 r a)).1 k)
  simp[b];simpa using h
def b4H(c:Nat)(z:Mat)(cnt:Nat)(us:Mat):Prop:=(cnt=z.length+1/\us= [])\/Wit c (a1D z) cnt (a1D us)
section
variable {n c:Nat} {z:Mat} (hs:Shp n c z) (hz:∀v∈a1D z,nz c v) (hne:z≠[])
include hs hz hne
end
theorem b8b{n c a:Nat}{z us:Mat}(hs:Shp n c z)(h:a2R c (a1D (a5S z)) a)(b:Wit c (a1D (a5S z)) a (a1D us)):a2R c (a1D z) (a+(z.length - (a5S z).length))/\Wit c (a1D z) (a+(z.length - (a5S z).length)) (a1D us):=by
 have e:(a5S z).length=(nzL c (a1D z)).length:=by rw[<-a5c hs];simp[a1D]
 have e2:z.length=(a1D z).length:=by simp[a1D]
 rw[e,e2];rw[a5c hs]at h b;refine⟨h.nzL,b.head,by rw[b2l,b.cnt],fun k l=>b.few k (l.iff fun y=>⟨fun f v d=>f v (List.mem_filter.1 d).1,fun f v d=>?_⟩)⟩;by_cases g:nz c v
 ·exact f v (List.mem_filter.2 ⟨d,by simpa using g⟩)
 ·exact a2I fun j i=>Classical.byContradiction fun e=>g ⟨j,i,e⟩
end Go.Lin
namespace Go.Lin
open Go.Lim
def HB(B:Nat)(m:Mat):Prop:=∀i j,hq (ent m i j)<=B
theorem HB.pos{B:Nat}{m:Mat}(h:HB B m):1<=B:=Nat.le_trans (a6P _) (h 0 0)
theorem HB.mono{B C:Nat}{m:Mat}(h:HB B m)(a:B<=C):HB C m:=fun i j=>Nat.le_trans (h i j) a
theorem HB.swap{n c B:Nat}{m:Mat}(h:HB B m)(hs:Shp n c m){i k:Nat}(hi:i<n)(a:k<n):HB B (a1a m i k):=fun r j=>by
 rw[a3s hs hi a];split
 ·exact h _ _
 ·split
  ·exact h _ _
  ·exact h _ _
theorem b4I{x y z u:Rat}{B:Nat}(hx:hq x<=B)(f:hq y<=B)(hz:hq z<=B)(e:hq u<=B):hq (y/z)<=2*B/\hq (y/z*u)<=3*B/\hq (x - y/z*u)<=5*B:=by
 have a:=hq_div y z;have b:=hq_mul (y/z) u;have c:=a8t x (y/z*u);have d:=a6P x;omega
theorem HB.clear{n c B:Nat}{m:Mat}(h:HB B m)(hs:Shp n c m){t:Nat}(b:t<n)(a s:Nat):HB (5*B) (clear m t a s):=fun i j=>by
 rw[a3W hs b];split
 ·exact(b4I (h _ _) (h _ _) (h _ _) (h _ _)).2.2
 ·have:=h i j;omega
theorem HB.eN{n c B:Nat}{m:Mat}(h:HB B m)(hs:Shp n c m)(k:Nat):HB (5^(eN m k).2.1.length*B) (eN m k).1:=by
 induction k with
 |zero=>simpa[Lin.eN]using h
 |succ k ih=>
  have hk:=a6V hs k
  show HB (5^(a4p (Lin.eN m k) k).2.1.length*B) (a4p (Lin.eN m k) k).1
  generalize Lin.eN m k=s at ih hk |-;obtain⟨M,p,odd⟩:=s;have hM:Shp n c M:=hk.shp;have hl:=hM.1;have hle:p.length<=n:=hk.ech.le;unfold a4p
  dsimp only at ih |-
  split
  ·exact ih
  ·split
   ·exact ih
   ·rename_i e _ q hz
    obtain⟨h1,h2⟩:=a3g hz;have:=(ih.swap hM (show p.length<n by omega) (show p.length+q<n by omega)).clear (hM.swap (by omega) (by omega)) (show p.length<n by omega) k M.length;refine this.mono ?_;rw[List.length_append,List.length_singleton,Nat.pow_succ,Nat.mul_comm _ 5,Nat.mul_assoc];exact Nat.le_refl _
theorem HB.divL{n c B:Nat}{m:Mat}(h:HB B m)(hs:Shp n c m){i:Nat}(hi:i<n)(a:Nat):HB (2*B) (divL m i a):=fun k j=>by
 rw[a2H hs hi];split
 ·have:=hq_div (ent m i j) (ent m i a);have:=h i j;have:=h i a;omega
 ·have:=h k j;omega
theorem b2q{x y z u:Rat}{B:Nat}(hx:hq x<=B)(f:hq y<=B)(hz:hq z<=2*B)(e:hq u<=2*B):hq (y/z)<=3*B/\hq (y/z*u)<=5*B/\hq (x - y/z*u)<=7*B:=by
 have a:=hq_div y z;have b:=hq_mul (y/z) u;have c:=a8t x (y/z*u);have d:=a6P x;omega
theorem HB.dStep{n c B:Nat}{m:Mat}(h:HB B m)(hs:Shp n c m){t:Nat}(b:t<n)(a s:Nat):HB (7*B) (above (Lin.divL m t a) t a s):=fun i j=>by
 have hd:=hs.divL b a;have d:=h.divL hs b a;rw[a3X hd b];split
 ·refine(b2q ?_ ?_ (d _ _) (d _ _)).2.2
  ·rw[a2H hs b,if_neg (by omega)];exact h _ _
  ·rw[a2H hs b,if_neg (by omega)];exact h _ _
 ·have:=d i j;omega
theorem HB.dN{n c B:Nat}{m:Mat}{p:List Nat}(h:HB B m)(hs:Shp n c m)(he:Ech n c (ent m) p)(t:Nat)(ht:t<=p.length):HB (7^t*B) (dN m p t):=by
 induction t with
 |zero=>simpa[Lin.dN]using h
 |succ t ih=>
  have hk:=b4y hs he t (by omega);have hle:=he.le;refine((ih (by omega)).dStep hk.shp (show t<n by omega) (p.getD t 0) t).mono ?_;rw[Nat.pow_succ,Nat.mul_comm _ 7,Nat.mul_assoc];exact Nat.le_refl _
theorem HB.pv{n c B:Nat}{m:Mat}(h:HB B m)(hs:Shp n c m){i:Nat}(hi:i<n)(a:Nat):HB (3*B) (pv m i a):=fun k j=>by
 rw[b0n hs hi];split
 ·have b:=hq_mul (ent m i j) (1/ent m i a);have d:=hq_div 1 (ent m i a);have:=h i j;have:=h i a;have:=a6P (ent m i j)
  have e:hq 1=1:=by decide+kernel
  omega
 ·have:=h k j;omega
theorem HB.out{n c B:Nat}{m:Mat}(h:HB B m)(hs:Shp n c m){t:Nat}(d:t<n)(b s:Nat):HB (6*B) (Lin.out (Lin.pv m t b) t b s):=fun i j=>by
 have hd:=hs.pv d b;have f:=h.pv hs d b;rw[a8z hd d];split
 ·rename_i a
  have e:∀j,ent (Lin.pv m t b) i j=ent m i j:=fun j=>by rw[b0n hs d,if_neg a.1]
  rw[e,e];have g:=hq_mul (ent (Lin.pv m t b) t j) (- ent m i b);have k:=a9W (ent m i j) (ent (Lin.pv m t b) t j* - ent m i b);rw[a3U]at g;have:=f t j;have:=h i j;have:=h i b;have:=h.pos;omega
 ·have:=f i j;omega
theorem HB.rN{n c B:Nat}{m:Mat}(h:HB B m)(hs:Shp n c m)(k:Nat):HB (6^(rN m k).2.1.length*B) (rN m k).1/\hq (rN m k).2.2<=6^(rN m k).2.1.length*B:=by
 induction k with
 |zero=>exact⟨by simpa[Lin.rN]using h,by simp[Lin.rN];exact h.pos⟩
 |succ k ih=>
  have hk:=b7d hs k
  show HB (6^(a6X (Lin.rN m k) k).2.1.length*B) (a6X (Lin.rN m k) k).1/\hq (a6X (Lin.rN m k) k).2.2<=6^(a6X (Lin.rN m k) k).2.1.length*B
  generalize Lin.rN m k=s at ih hk |-;obtain⟨M,p,fac⟩:=s;have hM:Shp n c M:=hk.shp;have hl:=hM.1;have hle:p.length<=n:=hk.ref.le;unfold a6X
  dsimp only at ih |-
  split
  ·exact ih
  ·rename_i e q hz
   obtain⟨h1,h2⟩:=a3g hz;have hsw:=(ih.1.swap hM (show p.length+q<n by omega) (show p.length<n by omega));have:=hsw.out (hM.swap (by omega) (by omega)) (show p.length<n by omega) k M.length;have he:6*(6^p.length*B)=6^(p++[k]).length*B:=by
    rw[List.length_append,List.length_singleton,Nat.pow_succ,Nat.mul_comm _ 6,Nat.mul_assoc]
   refine⟨this.mono (Nat.le_of_eq he),?_⟩
   dsimp only
   rw[<-he];have h3:=hsw p.length k;have h4:hq (if q=0 then fac else -fac)<=6^p.length*B:=by
    split
    ·exact ih.2
    ·rw[a3U];exact ih.2
   have h5:=hq_mul (if q=0 then fac else -fac) (ent (a1a M (p.length+q) p.length) p.length k);omega
def b2s(m:Mat)(c:Nat):Prop:=∃B,7*B<=68719476736/\(∀j,j<=c->HB B (eN m j).1)/\∀t,t<=(eN m c).2.1.length->HB B (dN (eN m c).1 (eN m c).2.1 t)
theorem a7e(a:Nat){i n:Nat}(b:0<a)(h:i<=n):a^i<=a^n:=Nat.pow_le_pow_right b h
def b4J(m:Mat)(c:Nat):Prop:=∃B,7*B<=68719476736/\∀j,j<=c->HB B (eN m j).1
theorem b2s.e{m:Mat}{c:Nat}(h:b2s m c):b4J m c:=let ⟨B,a,b,_⟩:=h;⟨B,a,b⟩
theorem a7J(m:Mat)(k:Nat):(eN m k).2.1.length<=(eN m (k+1)).2.1.length:=by
 show _<=(a4p (eN m k) k).2.1.length
 unfold a4p;split
 ·exact Nat.le_refl _
 ·split
  ·exact Nat.le_refl _
  ·simp
theorem a7K(m:Mat){j:Nat}:∀{c:Nat},j<=c->(eN m j).2.1.length<=(eN m c).2.1.length:=by
 intro c
 induction c with
 |zero=>
      intro h;obtain rfl:j=0:=by omega
      exact Nat.le_refl _
 |succ c ih=>
  intro h;rcases Nat.lt_or_ge j (c+1)with h1|h1
  ·exact Nat.le_trans (ih (by omega)) (a7J m c)
  ·obtain rfl:j=c+1:=by omega
   exact Nat.le_refl _
theorem a8E(m:Mat)(c:Nat):(a1P m c).2=(eN m c).2.1:=rfl
theorem a7f{n c B k:Nat}{m:Mat}(hs:Shp n c m)(h:HB B m)(a:(a1P m c).2.length<=k)(f:7*(35^k*B)<=68719476736):b2s m c:=by
 rw[a8E]at a;have d:∀j,j<=c->(eN m j).2.1.length<=k:=fun j b=>Nat.le_trans (a7K m b) a;refine⟨35^k*B,f,fun j b=>(h.eN hs j).mono (Nat.mul_le_mul_right _ ?_),fun t e=>(((h.eN hs c).dN (a6V hs c).shp (a6V hs c).ech t e)).mono ?_⟩
 ·exact Nat.le_trans (a7e 5 (by omega) (d j b)) (Nat.pow_le_pow_left (by omega) k)
 ·rw[<-Nat.mul_assoc]
  refine Nat.mul_le_mul_right _ ?_;rw[show(35:Nat)=7*5 from rfl,Nat.mul_pow];exact Nat.mul_le_mul (a7e 7 (by omega) (Nat.le_trans e a)) (a7e 5 (by omega) a)
theorem a7g{n c B k:Nat}{m:Mat}(h:HB B m)(hs:Shp n c m)(a:(a1P m c).2.length<=k):HB (35^k*B) (a1P m c).1:=by
 rw[a8E]at a;refine((h.eN hs c).dN (a6V hs c).shp (a6V hs c).ech _ (Nat.le_refl _)).mono ?_;rw[<-Nat.mul_assoc];refine Nat.mul_le_mul_right _ ?_;rw[show(35:Nat)=7*5 from rfl,Nat.mul_pow];exact Nat.mul_le_mul (a7e 7 (by omega) a) (a7e 5 (by omega) a)
theorem a5d{n c:Nat}{m:Mat}(hs:Shp n c m):(a1P m c).2.length<=c:=by
 have hr:=(a2x hs).2.1;have hlt:=hr.lt;have hinc:=hr.inc;generalize (a1P m c).2=p at hlt hinc;have key:∀i (hi:i<p.length),i<=p[i]:=by
  intro i
  induction i with
  |zero=>intro _;exact Nat.zero_le _
  |succ i ih=>intro hi;have:=ih (by omega);have:=hinc i (i+1) (by omega) hi;omega
 rcases Nat.eq_zero_or_pos p.length with h|h
 ·omega
 ·have:=key (p.length - 1) (by omega)
  have:=hlt (p.length - 1) (by omega);omega
theorem a7L{n c:Nat}{m:Mat}(hs:Shp n c m):(a1P m c).2.length<=n:=(a2x hs).2.1.le
theorem b2t{n c B k:Nat}{m:Mat}(h:HB B m)(hs:Shp n c m)(g:(a1P m c).2.length<=k):HB (35^k*B) (a1j m c):=by
 have o:=(a2x hs).2.1;have d:=a7g h hs g;have b:=d.pos;intro i j;unfold ent;by_cases hi:i<(a1j m c).length
 ·rw[show(a1j m c).getD i []=(a1j m c)[i]by simp[List.getD_eq_getElem?_getD,hi]]
  by_cases f:j<c
  ·obtain⟨q,a⟩:∃q,(a1j m c)[i]=(List.range c).map (nv (ent (a1P m c).1) (a1P m c).2 q):=by
    have e:(a1j m c)[i]∈a1j m c:=List.getElem_mem _;unfold a1j a2b at e;obtain⟨q,_,a⟩:=List.mem_map.1 e;exact⟨q,a.symm⟩
   rw[a];have:(List.map (nv (ent (a1P m c).1) (a1P m c).2 q) (List.range c)).getD j 0=nv (ent (a1P m c).1) (a1P m c).2 q j:=by
    simp[List.getD_eq_getElem?_getD,f]
   rw[this];unfold nv;split
   ·have:hq (1:Rat)<=1:=by decide+kernel
    omega
   ·split
    ·rw[a3U];exact d _ _
    ·rw[a1J];exact b
  ·have l:(a1j m c)[i].length=c:=a3Z _ (List.getElem_mem _)
   have:(a1j m c)[i].getD j 0=0:=by rw[List.getD_eq_getElem?_getD,List.getElem?_eq_none (by omega)];rfl
   rw[this,a1J];exact b
 ·have:(a1j m c).getD i []= []:=by rw[List.getD_eq_getElem?_getD,List.getElem?_eq_none (by omega)];rfl
  rw[this];have:([]:List Rat).getD j 0=0:=rfl;rw[this,a1J];exact b
theorem HB.app{B:Nat}{a b:Mat}(c:HB B a)(d:HB B b):HB B (a++b):=by
 intro i j;unfold ent;by_cases hi:i<a.length
 ·rw[show(a++b).getD i []=a.getD i []by simp[List.getD_eq_getElem?_getD,List.getElem?_append_left hi]];exact c i j
 ·rw[show(a++b).getD i []=b.getD (i - a.length) []by simp[List.getD_eq_getElem?_getD,List.getElem?_append_right (Nat.le_of_not_lt hi)]];exact d _ j
end Go.Lin
namespace Go.Proofs.YtnnpfhoigmegcaaGreat
open Go.RowKit Go.Rep Go.Lim
theorem b0y{α:Type}(l:List α)(i:Nat)(h:i<l.length):l.take i++[l[i]]=l.take (i+1):=by
 rw[List.take_add_one,List.getElem?_eq_getElem h];rfl
theorem b2u{α:Type}{l:List α}{i:Nat}(h:i<=l.length):(l.take i).length=i:=by simp;omega
end Go.Proofs.YtnnpfhoigmegcaaGreat
namespace Go.Lin
open Go.Lim
end Go.Lin
namespace Go.Proofs.YtnnpfhoigmegcaaGreat
open Go.RowKit Go.Rep Go.Lim Go.Lin
end Go.Proofs.YtnnpfhoigmegcaaGreat
namespace Go.Lin
def a1M{α:Type}(m:List (List α)):Bool:=decide (m.length<=96)&&m.all fun r=>decide (1<=r.length/\r.length<=96/\r.length=(m.getD 0 []).length)
def a0u{α:Type}(m:List (List α)):Nat:=(m.getD 0 []).length
theorem a1Q{α:Type}{m:List (List α)}:a1M m=true↔m.length<=96/\∀i (hi:i<m.length),1<=m[i].length/\m[i].length<=96/\m[i].length=a0u m:=by
 unfold a1M a0u;rw[Bool.and_eq_true,decide_eq_true_eq,List.all_eq_true];constructor
 ·rintro ⟨a,b⟩
  exact⟨a,fun i hi=>by simpa using b _ (List.getElem_mem hi)⟩
 ·rintro ⟨a,b⟩
  refine⟨a,fun r c=>?_⟩;obtain⟨i,hi,rfl⟩:=List.getElem_of_mem c;simpa using b i hi
theorem a6y{α:Type}{m:List (List α)}(i:Nat)(hi:i<m.length)(h:¬(1<=m[i].length/\m[i].length<=96/\m[i].length=a0u m)):false=a1M m:=by
 symm;cases a:a1M m
 ·rfl
 ·exact absurd ((a1Q.1 a).2 i hi) h
theorem a5e{α:Type}{m:List (List α)}(h:0<m.length):a0u m=m[0].length:=by simp[a0u,List.getD_eq_getElem?_getD,h]
theorem a3G{m:List (List Rat)}(h:a1M m=true):Shp m.length (a0u m) m/\m.length<=96/\a0u m<=96/\(0<m.length->1<=a0u m)/\(m.length=0->a0u m=0):=by
 have b:=a1Q.1 h;refine⟨⟨rfl,fun r c=>?_⟩,b.1,?_,fun a=>?_,fun a=>?_⟩
 ·obtain⟨i,hi,rfl⟩:=List.getElem_of_mem c
  exact(b.2 i hi).2.2
 ·by_cases a:0<m.length
  ·have:=b.2 0 a;omega
  ·have:m= []:=List.eq_nil_of_length_eq_zero (by omega)
   subst this;simp[a0u]
 ·have:=b.2 0 a;omega
 ·have:m= []:=List.eq_nil_of_length_eq_zero a
  subst this;rfl
end Go.Lin
namespace Go.Proofs.YtnnpfhoigmegcaaGreat
open Go.RowKit Go.Rep Go.Lim Go.Lin
theorem a3H{R:Mem->Value->Rat->Prop}(X:Nat->Bool)(w:World)(u:Value)(m:List (List Rat))(l:SlV (SlV R 3) 1 (mk X w) u m):Calls Tryz.prog 281 #[u] w (fun e w'=>w'=w/\e= .returned (.int .i64 (a0u m:Int))):=by
 obtain⟨ao,q,rfl,i,a⟩:=l;have j:=a.hd;by_cases h:0<m.length
 ·obtain⟨o,p,g,c,d,k⟩:=a.row 0 h
  have n:=c.out noY w (ExtX.refl _) rfl;have b:=hid (a5e h);have f:((m.length:Int)==0)=false:=a2S (by omega);go_enter Tryz.func281,Tryz.ntmps281
  go_wp2_with (with_reducible refine a0n a0L (by omega) (by assumption) ?_)
  go_ret
  exact⟨rfl,a0y (by rw[b.out])⟩
 ·have b:Hid (a0u m=0):=hid (by
   have:m= []:=List.eq_nil_of_length_eq_zero (by omega);subst this;rfl)
  have f:((m.length:Int)==0)=true:=b5A (by omega);go_enter Tryz.func281,Tryz.ntmps281
  go_wp2_with (with_reducible refine a0n a0L (by omega) (by assumption) ?_)
  go_ret
  exact⟨rfl,a0y (by rw[b.out];rfl)⟩
theorem a5T{R:Mem->Value->Rat->Prop}(X:Nat->Bool)(w:World)(u:Value)(m:List (List Rat))(O:SlV (SlV R 3) 1 (mk X w) u m)(W:m.length<=1099511627776):Calls Tryz.prog 269 #[u] w (fun e w'=>w'=w/\e= .returned (.bool (a1M m))):=by
 obtain⟨ao,V,rfl,L,g⟩:=O;have N:=g.hd;by_cases H:96<m.length
 ·have b:Hid (false=a1M m):=hid (by
   symm;cases M:a1M m
   ·rfl
   ·have:=(a1Q.1 M).1;omega)
  have I:(96:Int)<(m.length:Int):=by omega
  go_enter Tryz.func269,Tryz.ntmps269
  go_wp2_with fail
  go_ret
  exact⟨rfl,a0q b.out⟩
 ·have I:¬(96:Int)<(m.length:Int):=by omega
  go_enter Tryz.func269,Tryz.ntmps269
  go_wp2_with fail
  go_loop [10] (fun c=>∃(i:Nat),c= .int .i64 i/\i<=m.length/\Hid (∀q,q<i->∀hq:q<m.length,1<=m[q].length/\m[q].length<=96/\m[q].length=a0u m)) (fun c=>m.length - (intOf c).toNat)
  case atStart=>exact⟨0,rfl,Nat.zero_le _,fun q hq=>by omega⟩
  case round=>
   obtain⟨i,rfl,hi,r⟩:=hrel;by_cases p:i<m.length
   ·have D:0<m.length:=by omega
    obtain⟨Q,T,J,k,n,v⟩:=g.row i p;obtain⟨S,U,K,l,o,z⟩:=g.row 0 D;have C:=k.out noY w (ExtX.refl _) rfl;have t:=l.out noY w (ExtX.refl _) rfl;have f:=a5e D;have a:=hid (a6y i p);rw[<-f]at t;obtain⟨x,hx⟩:∃x,m[i].length=x:=⟨_,rfl⟩;obtain⟨y,B⟩:∃y,a0u m=y:=⟨_,rfl⟩;rw[hx]at C a;rw[B]at t a;have A:Hid (1<=x/\x<=96/\x=y->∀hq:i<m.length,1<=m[i].length/\m[i].length<=96/\m[i].length=a0u m):=hid fun h hq=>by rw[hx,B];exact h
    clear hx B f k l v z n o;by_cases d:x=0
    ·have E:((x:Int)==0)=true:=b5A (by omega)
     have b:=hid (a.out (by omega));clear d;go_wp2_with (with_reducible refine a0n a0L (by omega) (by assumption) ?_)
     go_ret
     exact⟨rfl,a0q b.out⟩
    ·have E:((x:Int)==0)=false:=a2S (by omega)
     by_cases P:96<x
     ·have F:(96:Int)<(x:Int):=by omega
      have b:=hid (a.out (by omega));clear d;go_wp2_with (with_reducible refine a0n a0L (by omega) (by assumption) ?_)
      go_ret
      exact⟨rfl,a0q b.out⟩
     ·have F:¬(96:Int)<(x:Int):=by omega
      by_cases j:x=y
      ·have G:((x:Int) !=(y:Int))=false:=b6E (by omega)
       have s:=hid (A.out ⟨by omega,by omega,j⟩);clear d j;go_wp2_with (with_reducible refine a0n a0L (by omega) (by assumption) ?_)
       go_round
       case rel=>exact⟨i+1,by go_num,by omega,a6N r.out s.out⟩
       case measure=>simp[intOf];omega
      ·have G:((x:Int) !=(y:Int))=true:=a9E (by omega)
       have b:=hid (a.out (by omega));clear d j;go_wp2_with (with_reducible refine a0n a0L (by omega) (by assumption) ?_)
       go_ret
       exact⟨rfl,a0q b.out⟩
   ·have b:Hid (true=a1M m):=hid (by
     symm;exact a1Q.2 ⟨by omega,fun q hq=>r.out q (by omega) hq⟩)
    go_wp2_with fail
    go_ret
    exact⟨rfl,a0q b.out⟩
end Go.Proofs.YtnnpfhoigmegcaaGreat
namespace Go.Lin
open Go.Rep
def a5y{α:Type}(m:List (List α))(lo hi:Nat):Bool:=decide (∀i (h:i<m.length),m[i].length=a0u m/\lo<=m[i].length/\m[i].length<=hi)
theorem a5U{α:Type}{m:List (List α)}{lo hi:Nat}:a5y m lo hi=true↔∀i (h:i<m.length),m[i].length=a0u m/\lo<=m[i].length/\m[i].length<=hi:=by unfold a5y;simp
theorem a7M{α:Type}{m:List (List α)}{lo hi:Nat}(i:Nat)(h:i<m.length)(a:¬(m[i].length=a0u m/\lo<=m[i].length/\m[i].length<=hi)):false=a5y m lo hi:=by
 symm;cases hs:a5y m lo hi
 ·rfl
 ·exact absurd (a5U.1 hs i h) a
end Go.Lin
namespace Go.Proofs.YtnnpfhoigmegcaaGreat
open Go.RowKit Go.Rep Go.Lim Go.Lin
theorem b0z{R:Mem->Value->Rat->Prop}(X:Nat->Bool)(w:World)(u:Value)(m:List (List Rat))(lo hi:Nat)(L:SlV (SlV R 3) 1 (mk X w) u m)(U:m.length<=1099511627776):Calls Tryz.prog 172 #[u, .int .i64 (lo:Int), .int .i64 (hi:Int)] w (fun e w'=>w'=w/\e= .returned (.bool (a5y m lo hi))):=by
 obtain⟨ao,T,rfl,I,f⟩:=L;have J:=f.hd;go_enter Tryz.func172,Tryz.ntmps172
 go_wp2_with fail
 go_loop [11] (fun c=>∃(i:Nat),c= .int .i64 i/\i<=m.length/\Hid (∀q,q<i->∀hq:q<m.length,m[q].length=a0u m/\lo<=m[q].length/\m[q].length<=hi)) (fun c=>m.length - (intOf c).toNat)
 case atStart=>exact⟨0,rfl,Nat.zero_le _,fun q hq=>by omega⟩
 case round=>
  obtain⟨i,rfl,K,p⟩:=hrel;by_cases o:i<m.length
  ·have C:0<m.length:=by omega
   obtain⟨O,Q,G,j,l,t⟩:=f.row i o;obtain⟨P,S,H,k,n,v⟩:=f.row 0 C;have B:=j.out noY w (ExtX.refl _) rfl;have s:=k.out noY w (ExtX.refl _) rfl;have d:=a5e C;have a:=hid (a7M (lo:=lo) (hi:=hi) i o);rw[<-d]at s;obtain⟨x,hx⟩:∃x,m[i].length=x:=⟨_,rfl⟩;obtain⟨y,A⟩:∃y,a0u m=y:=⟨_,rfl⟩;rw[hx]at B a;rw[A]at s a;have z:Hid (x=y/\lo<=x/\x<=hi->∀hq:i<m.length,m[i].length=a0u m/\lo<=m[i].length/\m[i].length<=hi):=hid fun h hq=>by rw[hx,A];exact h
   clear hx A d j k t v l n;by_cases b:x=y
   ·have F:((x:Int) !=(y:Int))=false:=b6E (by omega)
    by_cases M:x<lo
    ·have D:(x:Int)<(lo:Int):=by omega
     have g:=hid (a.out (by omega));clear b;go_wp2_with (with_reducible refine a0n a0L (by omega) (by assumption) ?_)
     go_ret
     exact⟨rfl,a0q g.out⟩
    ·have D:¬(x:Int)<(lo:Int):=by omega
     by_cases N:hi<x
     ·have E:(hi:Int)<(x:Int):=by omega
      have g:=hid (a.out (by omega));clear b;go_wp2_with (with_reducible refine a0n a0L (by omega) (by assumption) ?_)
      go_ret
      exact⟨rfl,a0q g.out⟩
     ·have E:¬(hi:Int)<(x:Int):=by omega
      have r:=hid (z.out ⟨b,by omega,by omega⟩);clear b;go_wp2_with (with_reducible refine a0n a0L (by omega) (by assumption) ?_)
      go_round
      case rel=>exact⟨i+1,by go_num,by omega,a6N p.out r.out⟩
      case measure=>simp[intOf];omega
   ·have F:((x:Int) !=(y:Int))=true:=a9E (by omega)
    have g:=hid (a.out (by omega));clear b;go_wp2_with (with_reducible refine a0n a0L (by omega) (by assumption) ?_)
    go_ret
    exact⟨rfl,a0q g.out⟩
  ·have g:Hid (true=a5y m lo hi):=hid (by
    symm;exact a5U.2 fun q hq=>p.out q (by omega) hq)
   go_wp2_with fail
   go_ret
   exact⟨rfl,a0q g.out⟩
end Go.Proofs.YtnnpfhoigmegcaaGreat
namespace Go.Lin
open Go.Lim
def a7N(l m:List Rat):Nat->Rat
 |0=>0
 |k+1=>a7N l m k+l.getD k 0*m.getD k 0
def b2v(l m:List Rat):Rat:=a7N l m l.length
theorem b0A(l m:List Rat)(k:Nat):a7N l m k=sm k fun q=>l.getD q 0*m.getD q 0:=by
 induction k with
 |zero=>rfl
 |succ k ih=>unfold a7N sm;rw[ih]
open Go.Rep
end Go.Lin
namespace Go.Lim
def a1e:Nat->Nat->Int->List (List Int)
 |_,0,_=>[[]]
 |0,_+1,_=>[]
 |m+1,h+1,lo=>(a1e m h (lo+1)).map (lo:: ·)++a1e m (h+1) (lo+1)
theorem a3h:∀(m h:Nat) (lo:Int),(a1e m h lo).length=ch m h
 |m,0,lo=>by rw[a4R];cases m<;>rfl
 |0,h+1,lo=>rfl
 |m+1,h+1,lo=>by rw[a1e,ch,List.length_append,List.length_map,a3h m h,a3h m (h+1)]
def up(lo:Int):Nat->List Int
 |0=>[]
 |k+1=>lo::up (lo+1) k
theorem a3u(m:Nat)(lo:Int):a1e m 0 lo= [[]]:=by cases m<;>rfl
theorem a3i:∀(m h:Nat) (lo:Int) (l:List Int),l∈a1e m h lo->l.length=h/\(∀x∈l,lo<=x/\x<lo+m)/\l.Pairwise (· < ·)
 |m,0,lo,l,hl=>by
  rw[a3u,List.mem_singleton]at hl;subst hl;simp
 |0,h+1,lo,l,hl=>by simp[a1e]at hl
 |m+1,h+1,lo,l,hl=>by
  rw[a1e,List.mem_append,List.mem_map]at hl;rcases hl with⟨r,hr,rfl⟩|hl
  ·obtain⟨h1,h2,h3⟩:=a3i m h (lo+1) r hr
   refine⟨by simp[h1],fun x hx=>?_,List.pairwise_cons.2 ⟨fun x hx=>?_,h3⟩⟩
   ·rcases List.mem_cons.1 hx with rfl|hx
    ·omega
    ·have:=h2 x hx;omega
   ·have:=h2 x hx;omega
  ·obtain⟨h1,h2,h3⟩:=a3i m (h+1) (lo+1) l hl
   exact⟨h1,fun x hx=>by have:=h2 x hx;omega,h3⟩
end Go.Lim
namespace Go.Lin
open Go.Lim Go.Rep
end Go.Lin
namespace Go.Proofs.YtnnpfhoigmegcaaGreat
open Go.RowKit Go.Rep Go.Lim Go.Lin
end Go.Proofs.YtnnpfhoigmegcaaGreat
namespace Go.Lin
open Go.Lim Go.Rep
def a1v(z:Mat)(s:List Int):Mat:=s.map fun i=>z.getD i.toNat []
theorem a3j(z:Mat)(s:List Int):(a1v z s).length=s.length:=by simp[a1v]
theorem b0B{z:Mat}{s:List Int}{j:Nat}(a:j<(a1v z s).length)(hs:j<s.length){i:Nat}(hi:i<z.length)(h:s[j]=(i:Int)):(a1v z s)[j]=z[i]:=by
 simp[a1v,h,List.getD_eq_getElem?_getD,hi]
theorem a7h{z:Mat}{s:List Int}(b:∀x∈s,0<=x/\x<(z.length:Int)):∀r∈a1v z s,r∈z:=fun r a=>by
 unfold a1v at a;obtain⟨x,hx,rfl⟩:=List.mem_map.1 a;have:=b x hx;have c:x.toNat<z.length:=by omega
 rw[show z.getD x.toNat []=z[x.toNat]by simp[List.getD_eq_getElem?_getD,c]];exact List.getElem_mem _
end Go.Lin
namespace Go.Proofs.YtnnpfhoigmegcaaGreat
open Go.RowKit Go.Rep Go.Lim Go.Lin
def b0C(X:Nat->Bool)(w:World)(m:Mat)(e:Ending)(w':World):Prop:=Ext w w'/\∃(ao:Option Addr) (cap:Nat),e= .returned (.slice ao m.length cap)/\OL RV 1 X w.heap.size 26 w' ao cap m
theorem b0D(X:Nat->Bool)(w:World)(u:Value)(z:Mat)(ro:Option Addr)(s:List Int)(rc:Nat)(hX:HX X w)(hu:MV (mk X w) u z)(hs:Sl (a0M .i64) 1 w.cell? ro s)(hb:∀x∈s,0<=x/\x<(z.length:Int))(hl:s.length<=1000):Calls Tryz.prog 92 #[u, .slice ro s.length rc] w (b0C X w (a1v z s)):=by
 rw[<-a4u]at hs;obtain⟨ao,ca,rfl,hca,hsa⟩:=hu;have hha:=hsa.hd;have hhs:=hs.hd;obtain⟨M,hM⟩:∃M,a1v z s=M:=⟨_,rfl⟩;have hMl:M.length=s.length:=by rw[<-hM];exact a3j z s
 have hMi:=hid (show∀j (h1:j<M.length) (h2:j<s.length) (i:Nat) (h3:i<z.length),s[j]=(i:Int)->M[j]=z[i]from fun j h1 h2 i h3 h=>by subst hM;exact b0B h1 h2 h3 h);rw[hM];have hb':=hid hb;obtain⟨n,hn⟩:∃n,z.length=n:=⟨_,rfl⟩;have hn':=hid hn;obtain⟨k,hk⟩:∃k,s.length=k:=⟨_,rfl⟩;have hk':=hid hk;rw[hk]at hhs hl hMl |-;rw[hn]at hha hca |-;have hMl':=hid hMl;have hMl1:M.length<=k:=by omega
 have hMl2:k<=M.length:=by omega
 clear hM hb hn hk hMl;go_enter Tryz.func92,Tryz.ntmps92
 go_wp2_with fail
 go_loopw [5,10] (fun o cc wr=>∃(i:Nat) (oo:Option Addr) (co:Nat),cc= .int .i64 i/\o= .slice oo i co/\i<=k/\OL RV 1 X w.heap.size 26 wr oo co (M.take i)/\Ext w wr) (fun _ cc _=>k - (intOf cc).toNat)
 case atStart=>exact⟨0,none,0,rfl,rfl,Nat.zero_le _,OL.nil _ _ _ _ _ _,ExtX.refl _⟩
 case round=>
  obtain⟨i,oo,co,rfl,rfl,hi,hO,hE⟩:=hrel;have hXr:HX X wr:=hX.ext hE;have hbase:=hE.size;by_cases hlt:i<k
  ·have his:i<s.length:=by rw[hk'.out];exact hlt
   have hiM:i<M.length:=by omega
   have htk:=hid (b0y M i hiM);have hln:=hid (b2u (l:=M) (i:=i) (by omega));have hc:=(hs.mono (a0M.mono _) (a0k hE)).int i his;obtain⟨h1,h2⟩:=hb'.out s[i] (List.getElem_mem _);obtain⟨q,hq⟩:=Int.eq_ofNat_of_zero_le h1;rw[hn'.out]at h2;have hqn:q<n:=by omega
   have hqz:q<z.length:=by rw[hn'.out];exact hqn
   have hMq:=hMi.out i hiM his q hqz hq;rw[hq]at hc;have hsr:Sl RV 1 (mk (un X oo) wr) ao z:=hsa.old RV.mono hE (fun j hj=>hO.ob_lt hj);obtain⟨a1,c1,hX1,hc1,hcl1,hq1⟩:=hsr.row q hqz;have k00:=hc1.out noY wr (ExtX.refl _) rfl;obtain⟨r,hr⟩:∃r,z[q]=r:=⟨_,rfl⟩;rw[hr]at k00 hcl1 hq1 hMq;rw[hMq]at htk;have hRV:RV (mk (un X oo) wr) (.slice a1 r.length c1) r:=⟨a1,c1,rfl,hcl1,hq1⟩;obtain⟨d,hd⟩:∃d,r.length=d:=⟨_,rfl⟩;rw[hd]at k00 hRV;clear hr hc1 hcl1 hq1 hMq hd h1 h2 hq;go_wp2_with (first
    |(with_reducible refine a0n a5w (by omega) (by assumption) ?_)
    |(with_reducible refine a0n a0L (by omega) (by assumption) ?_)
    |(at_builtin;refine a1I (l:=M.take i) a0L rfl RV.elem hbase hXr i hln.out rfl rfl hO (.slice a1 d c1) r rfl hRV (by omega) (by omega) ?_;intro oo2 co2 w7 hO7 hE7 hor))
   have hE8:=hE.own hO (Nat.le_refl _) hE7;rw[htk.out]at hO7;go_roundw
   case rel=>exact⟨i+1,oo2,co2,by go_num,by go_num,by omega,hO7,hE8⟩
   case measure=>simp[intOf];omega
  ·have hil:i=k:=by omega
   subst hil;rw[List.take_of_length_le (by omega)]at hO;go_wp2_with fail
   go_ret
   exact⟨hE,oo,co,by rw[hMl'.out];rfl,hO⟩
end Go.Proofs.YtnnpfhoigmegcaaGreat
namespace Go.Lim
end Go.Lim
namespace Go.Lin
open Go.Lim Go.Rep
def Bd(c:Nat)(z:Mat)(cnt:Nat)(x:Vec):Prop:=∀l,a2R c (onL c x (a1D z)) l->cnt<=a7G c x (a1D z)+l
theorem Bd.le{c a n:Nat}{z:Mat}{x:Vec}(h:Bd c z a x)(d:n<=a):Bd c z n x:=fun l b=>Nat.le_trans d (h l b)
theorem Bd.congr{c a:Nat}{z:Mat}{x y:Vec}(h:Bd c z a x)(e:∀j,j<c->x j=y j):Bd c z a y:=fun l f=>by
 obtain⟨b,d,_⟩:=b0w e (a1D z);have:=h l (by rw[d];exact f);rwa[b]at this
section
variable {n c:Nat} {z:Mat} (hs:Shp n c z)
include hs
end
theorem b4H.le{c a:Nat}{z us:Mat}(h:b4H c z a us):a<=z.length+1:=by
 rcases h with⟨rfl,_⟩|h
 ·exact Nat.le_refl _
 ·have:a=a9m c (a1D us) (a1D z):=h.cnt.symm
  rw[this];have:=List.countP_le_length (p:=fun v=>a4Z c (a1D us) v) (l:=a1D z);unfold a9m;simp[a1D]at this |-;omega
end Go.Lin
namespace Go.Lin
open Go.Lim Go.Rep
end Go.Lin
namespace Go.Rep
open Go.RowKit Go.Lim
abbrev Hdr:=Option Addr×Nat×Nat
def HdR:Mem->Value->Hdr->Prop:=fun _ u x=>u= .slice x.1 x.2.1 x.2.2
theorem HdR.elem:Elem HdR 1:=⟨fun _ _ _ _ _ h=>h,by rintro h u x rfl;rfl,by
 rintro h u x rfl c a;simp[a0g,Value.cells]at a;subst a;rfl,Nat.one_pos⟩
theorem HdR.one:a2D HdR:=by rintro h u x rfl;rfl
theorem HdR.pure:∀h a u x,HdR h u x->HdR a u x:=fun _ _ _ _ h=>h
theorem OL.frame{α:Type}{R:Mem->Value->α->Prop}{sz:Nat}{X:Nat->Bool}{base:Nat}{e:TypeId}{w w':World}{ao:Option Addr}{cap:Nat}{l:List α}(f:∀h o u x,R h u x->R o u x){Y Z:Nat->Bool}(h:OL R sz X base e w ao cap l)(z:ExtX Y w w')(A:∀k,ob ao k=true->Y k=false)(B:∀k,ob ao k=true->Z k=false):OL R sz Z base e w' ao cap l:=by
 have C:=fun k (a:ob ao k=true)=>h.block a;obtain⟨hx,us,p,q,d,n,s⟩:=h;refine⟨B,us,p,q,d,?_,fun i hi j=>f _ _ _ _ (s i hi j)⟩;refine⟨n.1,?_⟩;rcases n.2 with r|⟨g,c,b,m,t,v,y⟩
 ·exact .inl r
 ·refine .inr ⟨g,c,b,m,t,?_,y⟩
  simp at m;obtain⟨rfl,rfl⟩:=m;have a:ob (some ⟨g,0,none⟩) g=true:=by simp[ob]
  rw[z.block g (C g a).2 (A g a),v]
def cut(Z:Nat->Bool)(ao:Option Addr):Nat->Bool:=fun k=>Z k&& !ob ao k
theorem a8F{Z:Nat->Bool}{ao:Option Addr}(h:∀k,ob ao k=true->Z k=true):un (cut Z ao) ao=Z:=by
 funext k
 have:=h k;unfold un cut;cases a:ob ao k<;>cases hz:Z k<;>simp_all
theorem b0E{Z:Nat->Bool}{ao:Option Addr}{k:Nat}(h:cut Z ao k=true):Z k=true/\ob ao k=false:=by simpa[cut]using h
theorem a4G{Z:Nat->Bool}{ao:Option Addr}{k:Nat}(h:Z k=true)(a:ob ao k=false):cut Z ao k=true:=by simp[cut,h,a]
def obs(hs:List Hdr):Nat->Bool:=fun k=>hs.any fun h=>ob h.1 k
theorem a1h{hs:List Hdr}{i:Nat}(hi:i<hs.length){k:Nat}(h:ob hs[i].1 k=true):obs hs k=true:=by
 unfold obs;rw[List.any_eq_true];exact⟨_,List.getElem_mem hi,h⟩
theorem a4a{hs:List Hdr}{k:Nat}(h:obs hs k=true):∃i,∃hi:i<hs.length,ob hs[i].1 k=true:=by
 unfold obs at h;rw[List.any_eq_true]at h;obtain⟨x,hx,a⟩:=h;obtain⟨i,hi,rfl⟩:=List.getElem_of_mem hx;exact⟨i,hi,a⟩
def mz(X:Nat->Bool)(ao:Option Addr)(hs:List Hdr):Nat->Bool:=fun k=>X k||ob ao k||obs hs k
def mb(ao:Option Addr)(hs:List Hdr):Nat->Bool:=fun k=>ob ao k||obs hs k
theorem a1Y{X:Nat->Bool}{ao:Option Addr}{hs:List Hdr}{k:Nat}:mz X ao hs k=true↔X k=true\/ob ao k=true\/obs hs k=true:=by simp[mz,or_assoc]
theorem a2B{ao:Option Addr}{hs:List Hdr}{k:Nat}:mb ao hs k=true↔ob ao k=true\/obs hs k=true:=by simp[mb]
structure MO (X:Nat->Bool) (base:Nat) (e1 e2:TypeId) (w:World) (ao:Option Addr) (cap:Nat) (hs:List Hdr) (m:List (List Rat)):Prop where
 outer:OL HdR 1 X base e1 w ao cap hs
 len:hs.length=m.length
 rlen:∀i (hi:i<hs.length) (hi':i<m.length),hs[i].2.1=m[i].length
 row:∀i (hi:i<hs.length) (hi':i<m.length),OL QC 3 (cut (mz X ao hs) hs[i].1) base e2 w hs[i].1 hs[i].2.2 m[i]
 sep:∀i (hi:i<hs.length) k,ob hs[i].1 k=true->X k=false/\ob ao k=false
 dis:∀i j (hi:i<hs.length) (hj:j<hs.length),i≠j->∀k,ob hs[i].1 k=true->ob hs[j].1 k=false
section
variable {X:Nat->Bool} {base:Nat} {e1 e2:TypeId} {w w':World} {ao:Option Addr} {cap:Nat} {hs:List Hdr} {m:List (List Rat)}
theorem MO.out_sep(h:MO X base e1 e2 w ao cap hs m){k:Nat}(a:ob ao k=true):X k=false/\obs hs k=false:=by
 refine⟨h.outer.1 k a,?_⟩;cases c:obs hs k
 ·rfl
 ·obtain⟨i,hi,b⟩:=a4a c
  have:=(h.sep i hi k b).2;rw[a]at this;simp at this
theorem MO.obs_sep(h:MO X base e1 e2 w ao cap hs m){k:Nat}(b:obs hs k=true):X k=false/\ob ao k=false:=by
 obtain⟨i,hi,a⟩:=a4a b;exact h.sep i hi k a
theorem MO.mb_X(h:MO X base e1 e2 w ao cap hs m){k:Nat}(b:mb ao hs k=true):X k=false:=by
 rcases a2B.1 b with a|a
 ·exact(h.out_sep a).1
 ·exact(h.obs_sep a).1
theorem MO.mb_block(h:MO X base e1 e2 w ao cap hs m){k:Nat}(c:mb ao hs k=true):base<=k/\k<w.heap.size:=by
 rcases a2B.1 c with a|a
 ·exact h.outer.block a
 ·obtain⟨i,hi,b⟩:=a4a a
  exact(h.row i hi (by have:=h.len;omega)).block b
theorem MO.mz_sub(_:MO X base e1 e2 w ao cap hs m){i:Nat}(hi:i<hs.length)(k:Nat)(a:ob hs[i].1 k=true):mz X ao hs k=true:=a1Y.2 (.inr (.inr (a1h hi a)))
theorem MO.hz(h:MO X base e1 e2 w ao cap hs m)(b:HX X w):HX (mz X ao hs) w:=fun k c=>by
 rcases a1Y.1 c with a|a
 ·exact b k a
 ·exact(h.mb_block (a2B.2 a)).2
theorem MO.ext(h:MO X base e1 e2 w ao cap hs m){Y X':Nat->Bool}(n:ExtX Y w w')(e:∀k,k<w.heap.size->Y k=true->X k=true)(g:∀k,k<w.heap.size->X' k=true->X k=true):MO X' base e1 e2 w' ao cap hs m:=by
 have d:∀k,mb ao hs k=true->X' k=false:=fun k b=>by
  cases j:X' k
  ·rfl
  ·have:=g k (h.mb_block b).2 j;rw[h.mb_X b]at this;simp at this
 have f:∀k,mb ao hs k=true->Y k=false:=fun k b=>by
  cases j:Y k
  ·rfl
  ·have:=e k (h.mb_block b).2 j;rw[h.mb_X b]at this;simp at this
 refine⟨h.outer.ext HdR.elem n e g,h.len,h.rlen,fun i hi l=>?_,fun i hi k b=>⟨d k (a2B.2 (.inr (a1h hi b))),(h.sep i hi k b).2⟩,h.dis⟩;refine(h.row i hi l).ext QC.elem n (fun k b c=>a4G (a1Y.2 (.inl (e k b c))) ?_) (fun k b c=>?_)
 ·cases q:ob hs[i].1 k
  ·rfl
  ·have:=f k (a2B.2 (.inr (a1h hi q)));rw[c]at this;simp at this
 ·obtain⟨o,p⟩:=b0E c
  refine a4G (a1Y.2 ?_) p;rcases a1Y.1 o with a|a
  ·exact .inl (g k b a)
  ·exact .inr a
theorem MO.ext0(h:MO X base e1 e2 w ao cap hs m)(a:Ext w w'):MO X base e1 e2 w' ao cap hs m:=
 h.ext a (fun k _ b=>by simp[noY]at b) (fun _ _ h=>h)
theorem MO.upd(h:MO X base e1 e2 w ao cap hs m){i:Nat}(hi:i<hs.length){l:List Rat}(d:ExtX (ob hs[i].1) w w')(n:∀g:i<m.length,l.length=m[i].length)(o:OL QC 3 (cut (mz X ao hs) hs[i].1) base e2 w' hs[i].1 hs[i].2.2 l):MO X base e1 e2 w' ao cap hs (m.set i l):=by
 refine⟨h.outer.frame HdR.pure d (fun k b=>?_) h.outer.1,by rw[List.length_set];exact h.len,fun j c a=>?_,fun j c a=>?_,h.sep,h.dis⟩
 ·cases f:ob hs[i].1 k
  ·rfl
  ·have:=(h.sep i hi k f).2;rw[b]at this;simp at this
 ·rw[List.getElem_set]
  split
  ·subst_vars;rw[n (by have:=h.len;omega)];exact h.rlen _ c (by have:=h.len;omega)
  ·exact h.rlen j c (by simpa using a)
 ·rw[List.getElem_set]
  split
  ·subst_vars;exact o
  ·rename_i e
   exact(h.row j c (by simpa using a)).ext QC.elem d (fun k _ b=>a4G (h.mz_sub hi k b) (h.dis i j hi c e k b)) (fun _ _ b=>b)
theorem MO.perm(h:MO X base e1 e2 w ao cap hs m){b:List Hdr}{s:List (List Rat)}(f:Nat->Nat)(n:∀i,i<hs.length->f i<hs.length)(p:∀i j,i<hs.length->j<hs.length->f i=f j->i=j)(l:∀i,i<hs.length->∃j,j<hs.length/\f j=i)(C:b.length=hs.length)(A:s.length=m.length)(g:∀i (hi:i<b.length) (d:f i<hs.length),b[i]=hs[f i])(x:∀i (hi:i<s.length) (d:f i<m.length),s[i]=m[f i])(y:ExtX (ob ao) w w')(B:OL HdR 1 X base e1 w' ao cap b):MO X base e1 e2 w' ao cap b s:=by
 have v:=h.len;have q:∀k,obs b k=true↔obs hs k=true:=fun k=>by
  constructor
  ·intro c
   obtain⟨i,hi,r⟩:=a4a c;have a:=n i (by omega);rw[g i hi a]at r;exact a1h a r
  ·intro c
   obtain⟨i,hi,r⟩:=a4a c;obtain⟨j,u,rfl⟩:=l i hi;refine a1h (i:=j) (by omega) ?_;rw[g j (by omega) hi];exact r
 have hz:mz X ao b=mz X ao hs:=by
  funext k
  rw[Bool.eq_iff_iff,a1Y,a1Y,q]
 refine⟨B,by omega,fun i hi d=>?_,fun i hi d=>?_,fun i hi k c=>?_,fun i j hi u t k c=>?_⟩
 ·have a:=n i (by omega)
  rw[g i hi a,x i d (by omega)];exact h.rlen _ a (by omega)
 ·have a:=n i (by omega)
  rw[hz,g i hi a,x i d (by omega)];exact(h.row _ a (by omega)).ext QC.elem y (fun k _ c=>a4G (a1Y.2 (.inr (.inl c))) (by
   cases z:ob hs[f i].1 k
   ·rfl
   ·have:=(h.sep _ a k z).2;rw[c]at this;simp at this)) (fun _ _ c=>c)
 ·have a:=n i (by omega)
  rw[g i hi a]at c;exact h.sep _ a k c
 ·have a:=n i (by omega)
  have o:=n j (by omega);rw[g i hi a]at c;rw[g j u o];exact h.dis _ _ a o (fun e=>t (p i j (by omega) (by omega) e)) k c
theorem MO.put(h:MO X base e1 e2 w ao cap hs m){i:Nat}(hi:i<hs.length)(H:hs[i].1=none){a:Option Addr}{c:Nat}{l:List Rat}{E:World}(B:Ext w E)(n:∀k,ob a k=true->w.heap.size<=k)(J:OL QC 3 (mz X ao hs) base e2 E a c l)(G:HX X w)(F:ExtX (ob ao) E w')(I:OL HdR 1 X base e1 w' ao cap (hs.set i (a,l.length,c))):MO X base e1 e2 w' ao cap (hs.set i (a,l.length,c)) (m.set i l):=by
 have u:=h.len;have A:ExtX (ob ao) w w':=(ExtX.of B).trans F;have x:∀k,obs (hs.set i (a,l.length,c)) k=true↔obs hs k=true\/ob a k=true:=fun k=>by
  constructor
  ·intro b
   obtain⟨j,f,d⟩:=a4a b;rw[List.getElem_set]at d;split at d
   ·exact .inr d
   ·exact .inl (a1h (by simpa using f) d)
  ·rintro (b|b)
   ·obtain⟨j,f,d⟩:=a4a b
    refine a1h (i:=j) (by simpa using f) ?_;rw[List.getElem_set];split
    ·subst_vars;rw[H]at d;simp[ob]at d
    ·exact d
   ·refine a1h (i:=i) (by simpa using hi) ?_
    rw[List.getElem_set];simpa using b
 have v:∀k,mz X ao (hs.set i (a,l.length,c)) k=true↔mz X ao hs k=true\/ob a k=true:=fun k=>by
  rw[a1Y,a1Y,x];constructor
  ·rintro (h|h|h|h)
   ·exact .inl (.inl h)
   ·exact .inl (.inr (.inl h))
   ·exact .inl (.inr (.inr h))
   ·exact .inr h
  ·rintro ((h|h|h)|h)
   ·exact .inl h
   ·exact .inr (.inl h)
   ·exact .inr (.inr (.inl h))
   ·exact .inr (.inr (.inr h))
 have o:∀k,mb ao hs k=true->ob a k=false:=fun k b=>by
  cases p:ob a k
  ·rfl
  ·have:=n k p;have:=(h.mb_block b).2;omega
 have t:∀k,ob a k=true->ob ao k=false:=fun k b=>by
  cases p:ob ao k
  ·rfl
  ·have:=o k (a2B.2 (.inl p));rw[b]at this;simp at this
 refine⟨I,by simp[u],fun j f s=>?_,fun j f s=>?_,fun j f k b=>?_,fun j q f hq D k b=>?_⟩
 ·rw[List.getElem_set,List.getElem_set]
  split
  ·rfl
  ·exact h.rlen j (by simpa using f) (by simpa using s)
 ·have g:j<hs.length:=by simpa using f
  have C:j<m.length:=by simpa using s
  by_cases e:i=j
  ·subst e
   simp only[List.getElem_set_self];refine J.ext QC.elem F (fun k _ b=>a1Y.2 (.inr (.inl b))) (fun k b hz=>?_);obtain⟨z,d⟩:=b0E hz;rcases(v k).1 z with r|r
   ·exact r
   ·rw[d]at r;simp at r
  ·simp only[List.getElem_set_ne e]
   refine(h.row j g C).ext QC.elem A (fun k _ b=>a4G (a1Y.2 (.inr (.inl b))) ?_) (fun k b hz=>?_)
   ·cases p:ob hs[j].1 k
    ·rfl
    ·have:=(h.sep j g k p).2;rw[b]at this;simp at this
   ·obtain⟨z,d⟩:=b0E hz
    rcases(v k).1 z with r|r
    ·exact a4G r d
    ·have:=n k r;omega
 ·rw[List.getElem_set]at b
  split at b
  ·exact⟨by
    cases p:X k
    ·rfl
    ·have:=G k p;have:=n k b;omega,t k b⟩
  ·exact h.sep j (by simpa using f) k b
 ·have g:j<hs.length:=by simpa using f
  have y:q<hs.length:=by simpa using hq
  rw[List.getElem_set]at b |-;split at b
  ·rw[if_neg (by omega)]
   cases p:ob hs[q].1 k
   ·rfl
   ·have:=o k (a2B.2 (.inr (a1h y p)));dsimp only at b;rw[b]at this;simp at this
  ·split
   ·exact o k (a2B.2 (.inr (a1h g b)))
   ·exact h.dis j q g y D k b
theorem MO.hdr(h:MO X base e1 e2 w ao cap hs m)(i:Nat)(hi:i<hs.length):w.cell? (adr ao i)=some (.slice hs[i].1 hs[i].2.1 hs[i].2.2)/\w.frozen? (adr ao i)=false:=by
 obtain⟨u,a,b,rfl⟩:=h.outer.cell HdR.one i hi;exact⟨a,b⟩
theorem MO.rowS(h:MO X base e1 e2 w ao cap hs m){i:Nat}(hi:i<hs.length)(a:i<m.length):Sl QC 3 (_root_.Go.Rep.mk (cut (mz X ao hs) hs[i].1) w) hs[i].1 m[i]:=(h.row i hi a).sl QC.elem
theorem MO.rowX(h:MO X base e1 e2 w ao cap hs m){i:Nat}(hi:i<hs.length)(a:i<m.length):Sl QC 3 (_root_.Go.Rep.mk X w) hs[i].1 m[i]:=(h.rowS hi a).mono QC.mono (a2T fun k _ b=>a4G (a1Y.2 (.inl b)) (by
 cases c:ob hs[i].1 k
 ·rfl
 ·have:=(h.sep i hi k c).1;rw[b]at this;simp at this))
theorem MO.capLen(h:MO X base e1 e2 w ao cap hs m):m.length<=cap:=by rw[<-h.len];exact h.outer.lenCap
theorem MO.mc(h:MO X base e1 e2 w ao cap hs m):MC (_root_.Go.Rep.mk X w) (.slice ao m.length cap) m:=by
 have f:=h.len;refine⟨ao,cap,rfl,h.capLen,fun g=>?_,fun i hi=>?_⟩
 ·have:=h.outer.hd;rw[f]at this;exact this g
 ·obtain⟨c,_⟩:=h.hdr i (by omega)
  have k:=h.rowX (i:=i) (by omega) hi;refine⟨.slice hs[i].1 hs[i].2.1 hs[i].2.2,rfl,fun j e=>?_,?_⟩
  ·have a:j=0:=by simp[Value.cells]at e;omega
   subst a;unfold _root_.Go.Rep.mk;have d:X (adr ao (i*1+0)).block=false:=by
    obtain⟨b,l,rfl⟩:=h.outer.hd (by omega);exact h.outer.1 _ (by simp[ob,adr])
   rw[d];simpa[Value.cells]using c
  ·rw[h.rlen i (by omega) hi]
   exact⟨_,_,rfl,by have:=(h.row i (by omega) hi).lenCap;exact this,k⟩
theorem MO.start{n:Nat}(d:OL HdR 1 X base e1 w ao cap (List.replicate n (none,0,0)))(e2:TypeId):MO X base e1 e2 w ao cap (List.replicate n (none,0,0)) (List.replicate n []):=by
 refine⟨d,by simp,fun i hi a=>by simp,fun i hi a=>?_,fun i hi k b=>?_,fun i j hi e c k b=>?_⟩
 ·simp only[List.getElem_replicate];exact OL.nil _ _ _ _ _ _
 ·simp[ob]at b
 ·simp[ob]at b
end
end Go.Rep
namespace Go.Rep
open Go.RowKit Go.Lim
section
variable {P:Program} {α:Type} {R:Mem->Value->α->Prop} {X:Nat->Bool} {base:Nat} {e:TypeId} {w:World} {ao:Option Addr} {cap:Nat} {l:List α}
theorem OL.cell3(h:OL R 3 X base e w ao cap l)(i:Nat)(hi:i<l.length){g o:Nat}(hg:adr ao (i*3)=⟨g,o,none⟩):∃u v0 v1 v2,a0g u= [v0,v1,v2]/\(w.cell? ⟨g,o,none⟩=some v0/\w.frozen? ⟨g,o,none⟩=false)/\(w.cell? ⟨g,o+1,none⟩=some v1/\w.frozen? ⟨g,o+1,none⟩=false)/\(w.cell? ⟨g,o+2,none⟩=some v2/\w.frozen? ⟨g,o+2,none⟩=false)/\R (mk (un X ao) w) u l[i]:=by
 obtain⟨us,h1,h2,_,h3,h5⟩:=h.cells;have hi':i<us.length:=by omega
 have hsz:us[i].cells.size=3:=h2 _ (List.getElem_mem _);have hlen:(a0g us[i]).length=3:=by simp[a0g,hsz]
 obtain⟨v0,v1,v2,hv⟩:∃v0 v1 v2,a0g us[i]= [v0,v1,v2]:=by
  match hc:a0g us[i],hlen with
  | [a,b,c],_=>exact⟨a,b,c,rfl⟩
 have ha:∀j,adr ao (i*3+j)=⟨g,o+j,none⟩:=fun j=>by rw[<-a6c,hg,Addr.add_lit]
 have key:∀j v,j<3->(a0g us[i])[j]? =some v->w.cell? ⟨g,o+j,none⟩=some v/\w.frozen? ⟨g,o+j,none⟩=false:=fun j v hj hjv=>by
  have hget:=a2p us i j hi' h2 hj;rw[hjv]at hget;have:=h3 _ _ hget;rwa[ha]at this
 exact⟨us[i],v0,v1,v2,hv,key 0 v0 (by omega) (by rw[hv];rfl),key 1 v1 (by omega) (by rw[hv];rfl),key 2 v2 (by omega) (by rw[hv];rfl),h5 i hi' hi⟩
theorem a4r{P:Program}{w:World}{a:Addr}{u v:Value}(b:v.oneCell'=true)(c:w.cell? a=some u)(d:w.frozen? a=false):(store a v).run P w= .ok () (w.setCell a v):=by
 rw[run_store P w a v _ b,c];simp[d]
theorem OL.set3{t:TypeId}(E:TyI P t 3)(d:Elem R 3)(h:OL R 3 X base e w ao cap l)(i:Nat)(hi:i<l.length){g o:Nat}(f:adr ao (i*3)=⟨g,o,none⟩){v0 v1 v2:Value}{x:α}(k:R (mk (un X ao) w) (.agg #[v0,v1,v2]) x):OL R 3 X base e (((w.setCell ⟨g,o,none⟩ v0).setCell ⟨g,o+1,none⟩ v1).setCell ⟨g,o+2,none⟩ v2) ao cap (l.set i x)/\ExtX (ob ao) w (((w.setCell ⟨g,o,none⟩ v0).setCell ⟨g,o+1,none⟩ v1).setCell ⟨g,o+2,none⟩ v2):=by
 obtain⟨ti,j,b⟩:=E;obtain⟨_,M,r,s,_,⟨z,u⟩,⟨A,v⟩,⟨B,y⟩,_⟩:=h.cell3 i hi f;obtain⟨w',c,C,D⟩:=h.run_store (P:=P) j b d i hi _ x k;have a:=d.one _ _ _ k;rw[f]at c;have G:v0.oneCell'=true:=a v0 (by simp[a0g,Value.cells]);have H:v1.oneCell'=true:=a v1 (by simp[a0g,Value.cells]);have I:v2.oneCell'=true:=a v2 (by simp[a0g,Value.cells]);have m:(w.setCell ⟨g,o,none⟩ v0).cell? ⟨g,o+1,none⟩=some r:=by rw[World.cell?_setCell_other (h:=by simp)];exact A
 have n:((w.setCell ⟨g,o,none⟩ v0).setCell ⟨g,o+1,none⟩ v1).cell? ⟨g,o+2,none⟩=some s:=by rw[World.cell?_setCell_other (h:=by simp),World.cell?_setCell_other (h:=by simp)];exact B
 have p:(w.setCell ⟨g,o,none⟩ v0).frozen? ⟨g,o+1,none⟩=false:=by rw[World.frozen?_setCell];exact v
 have q:((w.setCell ⟨g,o,none⟩ v0).setCell ⟨g,o+1,none⟩ v1).frozen? ⟨g,o+2,none⟩=false:=by rw[World.frozen?_setCell,World.frozen?_setCell];exact y
 have F:w'=((w.setCell ⟨g,o,none⟩ v0).setCell ⟨g,o+1,none⟩ v1).setCell ⟨g,o+2,none⟩ v2:=by
  have J:=a4r (P:=P) G z u;have K:=a4r (P:=P) H m p;have L:=a4r (P:=P) I n q;simp[storeVar,sizeOf,typeInfo,j,b,Value.cells,storeCells,Addr.add_lit,J,K,L]at c;exact c.symm
 subst F;exact⟨C,D⟩
end
section
variable {X:Nat->Bool} {base:Nat} {e1 e2:TypeId} {w w':World} {ao:Option Addr} {cap:Nat} {hs:List Hdr} {m:List (List Rat)}
theorem MO.old{α:Type}{R:Mem->Value->α->Prop}(f:a2Q R){u:Value}{x:α}{d:Nat->Bool}{b:World}(h:MO X base e1 e2 w ao cap hs m)(i:R (_root_.Go.Rep.mk d b) u x)(e:Ext b w)(j:b.heap.size<=base)(g:∀k,k<b.heap.size->X k=true->d k=true):R (_root_.Go.Rep.mk (mz X ao hs) w) u x:=
 f _ _ _ _ (a0Z e (fun k _ c=>by simp[noY]at c) fun k c hz=>by
  rcases a1Y.1 hz with a|a
  ·exact g k c a
  ·have:=(h.mb_block (a2B.2 a)).1;omega) i
theorem MO.less{α:Type}{R:Mem->Value->α->Prop}(a:a2Q R){u:Value}{x:α}(_:MO X base e1 e2 w ao cap hs m)(c:R (_root_.Go.Rep.mk (mz X ao hs) w) u x):R (_root_.Go.Rep.mk X w) u x:=
 a _ _ _ _ (a2T fun _ _ b=>a1Y.2 (.inl b)) c
theorem MO.ext_from{b:World}(h:MO X base e1 e2 w ao cap hs m)(c:Ext b w)(e:b.heap.size<=base)(a:ExtX (mb ao hs) w w'):Ext b w':=
 c.then_ a fun i hi _=>by
  cases d:mb ao hs i
  ·rfl
  ·have:=(h.mb_block d).1;omega
theorem b4K{ao:Option Addr}{hs:List Hdr}{k:Nat}(h:mb ao hs k=false):ob ao k=false/\∀i (hi:i<hs.length),ob hs[i].1 k=false:=by
 refine⟨?_,fun i hi=>?_⟩
 ·cases a:ob ao k
  ·rfl
  ·rw[a2B.2 (.inl a)]at h;simp at h
 ·cases a:ob hs[i].1 k
  ·rfl
  ·rw[a2B.2 (.inr (a1h hi a))]at h;simp at h
theorem ExtX.row{i:Nat}(hi:i<hs.length)(h:ExtX (ob hs[i].1) w w'):ExtX (mb ao hs) w w':=h.weaken fun _ _ a=>(b4K a).2 i hi
theorem ExtX.outer(h:ExtX (ob ao) w w'):ExtX (mb ao hs) w w':=h.weaken fun _ _ a=>(b4K a).1
theorem b0F{hs a:List Hdr}(h:∀k,obs hs k=obs a k):mb ao hs=mb ao a/\mz X ao hs=mz X ao a:=by
 constructor<;>(funext k;simp[mb,mz,h])
def b7E(X:Nat->Bool)(e1 e2:TypeId)(w:World)(m:List (List Rat))(e:Ending)(w':World):Prop:=Ext w w'/\∃ao cap hs,e= .returned (.slice ao m.length cap)/\MO X w.heap.size e1 e2 w' ao cap hs m
end
end Go.Rep
namespace Go.Proofs.YtnnpfhoigmegcaaGreat
open Go.RowKit Go.Rep Go.Lim Go.Lin
theorem b2w{α:Type}(r i:Nat)(z:α)(x:α)(hi:i<r):((List.range r).map fun q=>if q<i then z else x).set i z=(List.range r).map fun q=>if q<i+1 then z else x:=by
 refine List.ext_getElem (by simp) fun q b c=>?_;simp at b;rw[List.getElem_set];simp only[List.getElem_map,List.getElem_range];split
 ·subst_vars;simp
 ·by_cases a:q<i
  ·simp[a,show q<i+1 by omega]
  ·simp[a,show¬q<i+1 by omega]
theorem a4b{α:Type}(r:Nat)(z x:α):((List.range r).map fun q=>if q<0 then z else x)=List.replicate r x:=by
 refine List.ext_getElem (by simp) fun q a b=>by simp
theorem b0G{α:Type}(r:Nat)(z x:α):((List.range r).map fun q=>if q<r then z else x)=List.replicate r z:=by
 refine List.ext_getElem (by simp) fun q a b=>?_;simp at a;simp[a]
theorem b2x(X:Nat->Bool)(w:World)(r c:Nat)(E:HX X w)(M:r<=1000)(L:c<=1000):Calls Tryz.prog 302 #[.int .i64 (r:Int), .int .i64 (c:Int)] w (b7E X 26 41 w (List.replicate r (List.replicate c 0))):=by
 go_enter Tryz.func302,Tryz.ntmps302
 go_wp2_with ((with_reducible show wpList _ _ _ (⟨_, .makeSlice _ _ _,_,_,_,_⟩::_) _ _);refine a1S (R:=HdR) a0L HdR.elem (none,0,0) (fun _=>rfl) X E w.heap.size (Nat.le_refl _) r rfl rfl rfl (by omega) (by omega) ?_;intro ao N e v)
 have j:=MO.start e 41;have H:=e.hd;simp only[List.length_replicate]at H;have D:List.replicate r ([]:List Rat)=(List.range r).map fun q=>if q<0 then List.replicate c 0 else[]:=(a4b r _ _).symm
 rw[D]at j;clear e D;go_loopw [11] (fun k wr=>∃(i:Nat) (hs:List Hdr),k= .int .i64 i/\i<=r/\Hid (∀q (hq:q<hs.length),i<=q->hs[q].1=none)/\MO X w.heap.size 26 41 wr ao r hs ((List.range r).map fun q=>if q<i then List.replicate c 0 else[])/\Ext w wr) (fun k _=>r - (intOf k).toNat)
 case atStart=>exact⟨0,_,rfl,Nat.zero_le _,hid (fun q hq _=>by simp),j,v⟩
 case round=>
  obtain⟨i,hs,rfl,hi,a,d,u⟩:=hrel;have o:HX X wr:=E.ext u;have z:=d.hz o;have p:=hid d.len;have B:Hid (((List.range r).map fun q=>if q<i then List.replicate c (0:Rat)else[]).length=r):=hid (by simp);by_cases s:i<r
  ·have f:i<hs.length:=by rw[p.out,B.out];exact s
   have C:=hid (b2w r i (List.replicate c (0:Rat)) [] s);have J:=a.out i f (Nat.le_refl _);go_wp2_with (first|(with_reducible refine a0n a0L (by omega) (by assumption) ?_)|((with_reducible show wpList _ _ _ (⟨_, .makeSlice _ _ _,_,_,_,_⟩::_) _ _);refine a1S (R:=QC) a1b QC.elem (0:Rat) (fun _=>QC.zero _) (mz X ao hs) z wr.heap.size (Nat.le_refl _) c rfl rfl rfl (by omega) (by omega) ?_;intro t O n b)|((with_reducible show wpList _ _ _ (⟨_, .store _ _ _,_,_,_,_⟩::_) _ _);refine a1O a8w HdR.elem i rfl (by simp) (d.outer.ext0 HdR.elem b) f (.slice t c c) (t,c,c) rfl rfl ?_;intro K y h))
   have m:=d.put (l:=List.replicate c 0) f J b (fun k F=>(n.block F).1) (n.base_le u.size) o h (by simpa using y);rw[C.out]at m;have x:Ext w K:=(u.trans b).then_ h fun k F _=>by
    cases G:ob ao k
    ·rfl
    ·have:=(d.outer.block G).1;omega
   have g:Hid (∀q (hq:q<(hs.set i (t,(List.replicate c (0:Rat)).length,c)).length),i+1<=q->(hs.set i (t,(List.replicate c (0:Rat)).length,c))[q].1=none):=hid fun q hq I=>by
    rw[List.getElem_set_ne (by omega)];exact a.out q (by simpa using hq) (by omega)
   go_roundw
   case rel=>exact⟨i+1,_,by go_num,by omega,g,m,x⟩
   case measure=>simp[intOf];omega
  ·have A:i=r:=by omega
   subst A;rw[b0G]at d;go_wp2_with fail
   go_ret
   exact⟨u,ao,i,hs,by simp,d⟩
end Go.Proofs.YtnnpfhoigmegcaaGreat
namespace Go.Lin
def mix{α:Type}(a b:List α)(i:Nat):List α:=a.take i++b.drop i
theorem a1V{α:Type}{a b:List α}(h:a.length=b.length)(i:Nat):(mix a b i).length=a.length:=by simp[mix];omega
theorem a4K{α:Type}(a b:List α):mix a b 0=b:=by simp[mix]
theorem a4L{α:Type}{a b:List α}{i:Nat}(c:a.length<=i)(d:b.length<=i):mix a b i=a:=by simp[mix,List.take_of_length_le c,List.drop_of_length_le d]
theorem a1N{α:Type}{a b:List α}(h:a.length=b.length)(i q:Nat)(hq:q<(mix a b i).length):(mix a b i)[q]=if q<i then a[q]'(by rw[a1V h]at hq;exact hq)else b[q]'(by rw[a1V h]at hq;omega):=by
 have c:=hq;rw[a1V h]at c;have d:q<(a.take i++b.drop i).length:=hq
 show(a.take i++b.drop i)[q]'d=_
 rw[List.getElem_append];by_cases e:q<i
 ·rw[dif_pos (by simp;omega),if_pos e,List.getElem_take]
 ·rw[dif_neg (by simp;omega),if_neg e,List.getElem_drop]
  congr 1
  simp;omega
theorem a6z{α:Type}{a b:List α}(h:a.length=b.length){i:Nat}(hi:i<a.length):(mix a b i).set i a[i]=mix a b (i+1):=by
 refine List.ext_getElem (by simp[a1V h]) fun q d e=>?_;rw[List.getElem_set];split
 ·subst_vars;rw[a1N h,if_pos (by omega)]
 ·rw[a1N h,a1N h]
  by_cases c:q<i
  ·rw[if_pos c,if_pos (by omega)]
  ·rw[if_neg c,if_neg (by omega)]
theorem b6e{α:Type}{a b:List α}(h:a.length=b.length){i:Nat}(hi:i<b.length):(mix a b i).set i b[i]=mix a b i:=by
 refine List.ext_getElem (by simp) fun q c d=>?_;rw[List.getElem_set];split
 ·subst_vars;rw[a1N h,if_neg (by omega)]
 ·rfl
end Go.Lin
namespace Go.Proofs.YtnnpfhoigmegcaaGreat
open Go.RowKit Go.Rep Go.Lim Go.Lin
theorem a5V(X:Nat->Bool)(w:World)(u:Value)(m:List (List Rat))(n c:Nat)(hX:HX X w)(hu:MV (mk X w) u m)(V:Shp n c m)(hc:a0u m=c)(hn:n<=1000)(e8:c<=1000):Calls Tryz.prog 271 #[u] w (b7E X 26 41 w m):=by
 have t:=a3H X w u m hu;obtain⟨h2,ca,rfl,e7,c2⟩:=hu;have f3:=c2.hd;rw[hc]at t;have H:=hid V.1;have g3:=hid V.2;rw[H.out]at e7 f3 t |-;obtain⟨A,hA⟩:∃A,List.replicate n (List.replicate c (0:Rat))=A:=⟨_,rfl⟩;have p:Hid (A.length=n):=hid (by rw[<-hA];simp);have a4:Hid (∀i (hi:i<A.length),A[i]=List.replicate c (0:Rat)):=hid fun i hi=>by subst hA;simp
 have U:Hid (m.length=A.length):=hid (by rw[H.out,p.out]);have a2:=b2x X w n c hX hn e8;rw[hA]at a2;clear hA V hc;go_enter Tryz.func271,Tryz.ntmps271
 go_wp2_with fail
 refine t.mono ?_;rintro e w1 ⟨rfl,rfl⟩;go_wp2_with fail
 refine a2.mono ?_;rintro e w2 ⟨d4,ao,cap,hs,rfl,D⟩;rw[p.out];have G:=hid (D.len.trans p.out);have h0:n<=cap:=by have:=D.capLen;rw[p.out]at this;exact this
 have b6:Hd ao n:=by have:=D.outer.hd;rw[G.out]at this;exact this
 have b9:Hid (∀i (hi:i<hs.length),hs[i].2.1=c):=hid fun i hi=>by
  have h1:i<A.length:=by rw[p.out,<-G.out];exact hi
  rw[D.rlen i hi h1,a4.out i h1];simp
 clear t a2;go_wp2_with fail
 go_loopw [15] (fun k wr=>∃(i:Nat),k= .int .i64 i/\i<=n/\MO X w1.heap.size 26 41 wr ao cap hs (mix m A i)/\Ext w1 wr) (fun k _=>n - (intOf k).toNat)
 case atStart=>exact⟨0,rfl,Nat.zero_le _,by rw[a4K];exact D,d4⟩
 case round=>
  obtain⟨i,rfl,hi,r,L⟩:=hrel;by_cases T:i<n
  ·have Q:i<m.length:=by rw[H.out];exact T
   have b7:i<A.length:=by rw[p.out];exact T
   have s:i<hs.length:=by rw[G.out];exact T
   obtain⟨a1,c1,h4,b3,F,J⟩:=c2.row i Q;have a3:=b3.out noY wr L rfl;obtain⟨x,hx⟩:∃x,m[i]=x:=⟨_,rfl⟩;obtain⟨z,hz⟩:∃z,A[i]=z:=⟨_,rfl⟩;rw[hx]at a3 F J;have f:Hid (x.length=c):=hid (by rw[<-hx];exact g3.out _ (List.getElem_mem _));have c8:Hid (z.length=c):=hid (by rw[<-hz,a4.out i b7];simp);have K:Hid (x.length=z.length):=hid (by rw[f.out,c8.out]);rw[f.out]at a3 F;have g4:Hid ((mix m A i).set i z=mix m A i):=hid (by rw[<-hz];exact b6e U.out b7);have b5:Hid ((mix m A i).set i x=mix m A (i+1)):=hid (by rw[<-hx];exact a6z U.out Q);have f7:Hid (i<(mix m A i).length):=hid (by rw[a1V U.out];exact Q);have h5:Hd a1 c:=by have:=J.hd;rw[f.out]at this;exact this
   have c0:RV (mk X w1) (.slice a1 c c1) x:=⟨a1,c1,by rw[f.out],by rw[f.out];exact F,J⟩;obtain⟨a,C,cr,P⟩:∃a C cr,hs[i]=(a,C,cr):=⟨_,_,_,rfl⟩;have f9:C=c:=by have:=b9.out i s;rw[P]at this;exact this
   subst f9;have d:=hid P;rw[<-g4.out]at r;have d8:MO X w1.heap.size 26 41 wr ao cap hs ((mix m A i).set i (mix x z 0)):=by rw[a4K];exact r
   clear hx hz b3 J P r;obtain⟨wo,g5⟩:∃wo,wo=wr:=⟨_,rfl⟩;subst g5;go_wp2_with (with_reducible refine a0n a0L (by omega) (by assumption) ?_)
   go_loopw [22] (fun k wr=>∃(j:Nat),k= .int .i64 j/\j<=C/\MO X w1.heap.size 26 41 wr ao cap hs ((mix m A i).set i (mix x z j))/\Ext w1 wr) (fun k _=>C - (intOf k).toNat)
   case atStart=>exact⟨0,rfl,Nat.zero_le _,d8,L⟩
   case round=>
    obtain⟨j,rfl,hj,r,L⟩:=hrel;by_cases S:j<C
    ·have b8:j<x.length:=by rw[f.out];exact S
     have e2:HX X wr:=hX.ext L;have b2:=r.hz e2;have c3:Sl QV 3 (mk (mz X ao hs) wr) a1 x:=by
      obtain⟨_,_,b4,_,h3⟩:=r.old RV.mono c0 L (Nat.le_refl _) (fun _ _ h=>h);simp only[Value.slice.injEq]at b4;obtain⟨rfl,_,rfl⟩:=b4;exact h3
     have f8:Hid (i<((mix m A i).set i (mix x z j)).length):=hid (by rw[List.length_set];exact f7.out);have R:Hid ((mix x z j).length=C):=hid (by rw[a1V K.out,f.out]);have B:=r.row i s f8.out;rw[List.getElem_set_self]at B;simp only[d.out]at B;have e9:Hd a C:=by have:=B.hd;rw[R.out]at this;exact this
     have c7:Hid (un (cut (mz X ao hs) a) a=mz X ao hs):=hid (a8F fun k hk=>by have:=r.mz_sub s k;rw[d.out]at this;exact this hk);have O:Hid (ob a (adr ao i).block=false):=hid (by
      cases hb:ob a (adr ao i).block
      ·rfl
      ·have h1:=(r.sep i s (adr ao i).block (by rw[d.out];exact hb)).2
       obtain⟨b0,o0,rfl⟩:=b6 (by omega);simp[ob,adr]at h1)
     have E:Hid (ob a wr.heap.size=false):=hid (B.ob_ge (Nat.le_refl _));obtain⟨g,o,hg⟩:∃g o,adr a (j*3)=⟨g,o,none⟩:=⟨_,_,rfl⟩;have i2:∀W,(Instr.indexAt 25 (.slice ao n cap) (.int .i64 (i:Int))).run Tryz.prog W= .ok (.pointer (some (adr ao i))) W:=a1f a0L ao n cap .i64 i b6 (by omega) rfl;have i3:∀W,(Instr.indexAt 26 (.slice a C cr) (.int .i64 (j:Int))).run Tryz.prog W= .ok (.pointer (some ⟨g,o,none⟩)) W:=by rw[<-hg];exact a0o a1b a C cr .i64 j e9 (by omega)
     have bx:=Bx.new wr #[.bool false, .slice none 0 0, .slice none 0 0] 41;obtain⟨Z,hZ⟩:∃Z,mz X ao hs=Z:=⟨_,rfl⟩;have e3:=hid hZ;rw[hZ]at b2 c3 B c7;have f6:Hid ((mix x z j).set j x[j]=mix x z (j+1)):=hid (a6z K.out b8);have N:Hid (x[j]+0=x[j]):=hid (Rat.add_zero _);have v:=(r.hdr i s).1;rw[d.out]at v
     dsimp only at v
     clear hZ a3;go_wp2_with (first|(with_reducible refine a1E a1b (by omega) (by assumption) ?_)|((with_reducible show wpList _ _ _ (⟨_, .load _ _,_,_,_,_⟩::_) _ _);refine a1g a0j j c3 b8 rfl (by simp) QV.agg ?_;intro u5 c4;obtain⟨s5,a5,n5,c5,d5,k5,e5,rfl⟩:=c4.shape)|((with_reducible show wpList _ _ _ (⟨_, .store _ _ _,_,_,_,_⟩::_) _ _);refine a0a a0j rfl rfl bx rfl rfl (a1q _ _ _ _ _ _ _) ?_;intro I r1 r2))
     have y:Ext wr I:=ExtX.box ((ExtX.refl wr).alloc _) r2 (Nat.le_refl _);have q:Ext I I.drew:=(ExtX.refl I).drew;have d9:=r.ext0 y;have e0:=B.ext0 QC.elem y;have g6:QV (mk Z I.drew) (.agg #[.bool s5, .slice a5 n5 c5, .slice d5 k5 e5]) x[j]:=mkx QV.mono c4 (y.trans q);have d3:QV (mk Z I.drew) (.agg #[.bool false, .slice none 0 0, .slice none 0 0]) 0:=(QC.zero _).qv (by rw[a1J];decide);have e1:HX Z I.drew:=b2.ext (y.trans q);have hS:Hid (∀Y W',ExtX Y I.drew W'->Y (adr ao i).block=false->Y wr.heap.size=false->W'.cell? (adr ao i)=some (.slice a C cr)/\W'.cell? ⟨wr.heap.size,0,none⟩=some (.bool s5)/\W'.cell? ⟨wr.heap.size,1,none⟩=some (.slice a5 n5 c5)/\W'.cell? ⟨wr.heap.size,2,none⟩=some (.slice d5 k5 e5)):=hid fun Y W' h g7 g8=>by
      have b1:=(r1.ext0 q).ext h g8;exact⟨h.cellY ((y.trans q).cell v) g7,b1.cell 0 rfl,b1.cell 1 rfl,b1.cell 2 rfl⟩
     obtain⟨g9,c9,d0,d1⟩:=hS.out noY I.drew (ExtX.refl _) rfl rfl;obtain⟨bw,e4⟩:∃bw,wr.heap.size=bw:=⟨_,rfl⟩;rw[e4]at hS c9 d0 d1 E |-;clear v r1 bx;go_wp2_with fail
     go_region_held3 (fun w'=>w'.cell? (adr ao i)=some (.slice a C cr)/\w'.cell? ⟨bw,0,none⟩=some (.bool s5)/\w'.cell? ⟨bw,1,none⟩=some (.slice a5 n5 c5)/\w'.cell? ⟨bw,2,none⟩=some (.slice d5 k5 e5))
      (first|exact hS.out noY _ t1 rfl rfl|exact hS.out (ob a) _ ((ExtX.of t1).trans M.2) O.out E.out|go_keep)
      ((go_at_call 182;(with_reducible refine(b5B Z I.drew _ _ _ 0 e1 g6 d3).mono ?_);rintro ee w6 ⟨t1,u6,rfl,a0⟩;obtain⟨s6,a6,n6,c6,d6,k6,e6,rfl⟩:=a0.shape;rw[N.out]at a0;have a9:=e0.ext0 QC.elem (q.trans t1);obtain⟨_,v0,v1,v2,_,⟨g0,f0⟩,⟨g1,f1⟩,⟨g2,f2⟩,_⟩:=a9.cell3 j (by rw[R.out];exact S) hg;have M:=a9.set3 a6S QC.elem j (by rw[R.out];exact S) hg (v0:= .bool s6) (v1:= .slice a6 n6 c6) (v2:= .slice d6 k6 e6) (x:=x[j]) (by rw[c7.out];exact a0)))
     obtain⟨q1,q2⟩:=M;rw[f6.out]at q1;have d2:ExtX (ob hs[i].1) w6 (((w6.setCell ⟨g,o,none⟩ (.bool s6)).setCell ⟨g,o+1,none⟩ (.slice a6 n6 c6)).setCell ⟨g,o+2,none⟩ (.slice d6 k6 e6)):=by rw[d.out];exact q2
     have a7:=d9.ext0 (q.trans t1);have a8:=a7.upd s (l:=mix x z (j+1)) d2 (fun h6=>by rw[List.getElem_set_self,a1V K.out,a1V K.out]) (by rw[e3.out,d.out];exact q1);rw[List.set_set]at a8;have d7:=a7.ext_from ((L.trans y).trans (q.trans t1)) (Nat.le_refl _) (ExtX.row s d2);clear g9 c9 d0 d1 g0 g1 g2 f0 f1 f2 i2 i3;go_wp2_with fail
     go_roundw
     case rel=>exact⟨j+1,by go_num,by omega,a8,d7⟩
     case measure=>simp[intOf];omega
    ·have f5:j=C:=by omega
     subst f5;rw[a4L (a:=x) (b:=z) (by rw[f.out];exact Nat.le_refl _) (by rw[c8.out];exact Nat.le_refl _),b5.out]at r;go_wp2_with fail
     go_roundw
     case rel=>exact⟨i+1,by go_num,by omega,r,L⟩
     case measure=>simp[intOf];omega
  ·have f4:i=n:=by omega
   subst f4;rw[a4L (by rw[H.out];exact Nat.le_refl _) (by rw[p.out];exact Nat.le_refl _)]at r;go_wp2_with fail
   go_ret
   exact⟨L,ao,cap,hs,by rw[H.out];rfl,r⟩
end Go.Proofs.YtnnpfhoigmegcaaGreat
namespace Go.Rep
open Go.RowKit Go.Lim
section
variable {P:Program} {ops:Array Oper} {Q:Exit->Act->World->Prop} {rest:List Oper} {a:Act} {w:World}
variable {α:Type} {R:Mem->Value->α->Prop} {sz:Nat} {X:Nat->Bool} {base:Nat} {e:TypeId} {ao:Option Addr} {cap:Nat} {l:List α}
variable {d:Option Tmp} {ty:TypeId} {ps:String} {af:Array Edge}
theorem a4c{t:TypeId}{x:Operand}{k:Nat}(E:a1H P t sz)(i:Nat)(h:OL R sz X base e w ao cap l)(hi:i<l.length)(hx:a.eval x= .pointer (some (adr ao k)))(F:k=i*sz)(p:∀h u y,R h u y->∃f,u= .agg f)(K:∀u,R (mk (un X ao) w) u l[i]->wpList P ops Q rest (a.put d u) w):wpList P ops Q (⟨d, .load t x,ty,ps,af,none⟩::rest) a w:=by
 refine wpList_plain rfl fun I o=>?_;subst F;obtain⟨J,ti,B,C,D⟩:=E;obtain⟨us,L,A,_,G,H⟩:=h.cells;have g:i<us.length:=by omega
 have n:=H i g hi;obtain⟨f,c⟩:=p _ _ _ n;have m:f.toList.length=sz:=by have:=A us[i] (List.getElem_mem _);rw[c]at this;simpa[Value.cells]using this
 have z:=run_loadCells_list (P:=P) w (adr ao (i*sz)) f.toList (fun j v s=>by
  rw[a6c];have q:j<sz:=by rw[<-m];exact(List.getElem?_eq_some_iff.1 s).1
  have b:=a2p us i j g A q;rw[c]at b;have r:(a0g (.agg f))[j]? =some v:=by simpa[a0g,Value.cells]using s
  rw[r]at b;exact(G _ _ b).1)
 rw[m]at z;unfold Oper.wp;simp[execOp,hx,Instr.loadAt,Instr.sureAddr,loadVar,isAgg,run_underlying B,sizeOf,typeInfo,C,D,z,Result.andThen];rw[c]at n;exact o _ _ (K _ n)
end
theorem OL.rat{R:Mem->Value->Rat->Prop}(x:a8v R){X:Nat->Bool}{base:Nat}{e:TypeId}{w:World}{ao:Option Addr}{cap:Nat}{l:List Rat}(h:OL R 3 X base e w ao cap l)(i:Nat)(hi:i<l.length):∃g o sg a n c d k e,adr ao (i*3)=⟨g,o,none⟩/\ob ao g=true/\Hid (∀Y W',ExtX Y w W'->Y g=false->W'.cell? ⟨g,o,none⟩=some (.bool sg)/\W'.cell? ⟨g,o+1,none⟩=some (.slice a n c)/\W'.cell? ⟨g,o+2,none⟩=some (.slice d k e))/\R (mk (un X ao) w) (.agg #[.bool sg, .slice a n c, .slice d k e]) l[i]:=by
 obtain⟨r,y,b⟩:=h.hd (by omega);have p:adr ao (i*3)=⟨r,y+i*3,none⟩:=by rw[b];rfl
 obtain⟨u,v0,v1,v2,q,⟨s,_⟩,⟨t,_⟩,⟨v,_⟩,m⟩:=h.cell3 i hi p;obtain⟨sg,a,n,c,d,k,e,rfl⟩:=x _ _ _ m;simp only[a0g,Value.cells,List.cons.injEq,and_true]at q;obtain⟨rfl,rfl,rfl⟩:=q;exact⟨_,_,sg,a,n,c,d,k,e,p,by rw[b];simp[ob],hid fun Y W' f j=>⟨f.cellY s j,f.cellY t j,f.cellY v j⟩,m⟩
end Go.Rep
namespace Go.Proofs.YtnnpfhoigmegcaaGreat
open Go.RowKit Go.Rep Go.Lim Go.Lin
def b7e(X:Nat->Bool)(w:World)(m:List (List Rat))(e:Ending)(w':World):Prop:=Ext w w'/\∃u,e= .returned (.tuple #[u, .int .i64 0])/\MC (mk X w') u m
end Go.Proofs.YtnnpfhoigmegcaaGreat
namespace Go.Lin
open Go.Lim
theorem a9n{B:Nat}{m:Mat}(h:Go.Rep.BM B m)(a:1<=B):HB B m:=fun i j=>by
 unfold ent;by_cases hi:i<m.length
 ·have e:m.getD i []=m[i]:=by simp[List.getD_eq_getElem?_getD,hi]
  rw[e];by_cases b:j<(m[i]).length
  ·have:=h m[i] (List.getElem_mem _) (m[i])[j] (List.getElem_mem _)
   simpa[List.getD_eq_getElem?_getD,b]using this
  ·rw[List.getD_eq_getElem?_getD,List.getElem?_eq_none (by omega)]
   show hq 0<=B
   rw[a1J];exact a
 ·rw[List.getD_eq_getElem?_getD (l:=m),List.getElem?_eq_none (by omega)]
  show hq 0<=B
  rw[a1J];exact a
theorem b6f{B:Nat}{m:Mat}(h:HB B m):Go.Rep.BM B m:=fun r b q hq=>by
 obtain⟨i,hi,rfl⟩:=List.getElem_of_mem b;obtain⟨j,a,rfl⟩:=List.getElem_of_mem hq;have:=h i j;simpa[ent,List.getD_eq_getElem?_getD,hi,a]using this
end Go.Lin
namespace Go.Proofs.YtnnpfhoigmegcaaGreat
open Go.RowKit Go.Rep Go.Lim Go.Lin
end Go.Proofs.YtnnpfhoigmegcaaGreat
namespace Go.Lin
open Go.Lim Go.Rep Go.Proofs.YtnnpfhoigmegcaaGreat
theorem a5W{n c:Nat}{m:Mat}(hs:Shp n c m)(f:n<=96)(e:1<=c)(b:c<=96)(d:0<n):a1M m=true/\a0u m=c:=by
 have a:a0u m=c:=by
  unfold a0u;rw[List.getD_eq_getElem?_getD,List.getElem?_eq_getElem (by rw[hs.1];exact d)];exact hs.2 _ (List.getElem_mem _)
 refine⟨a1Q.2 ⟨by rw[hs.1];exact f,fun i hi=>?_⟩,a⟩;rw[a,hs.2 _ (List.getElem_mem _)];exact⟨e,b,rfl⟩
end Go.Lin
namespace Go.Proofs.YtnnpfhoigmegcaaGreat
open Go.RowKit Go.Rep Go.Lim Go.Lin
theorem a8G(X:Nat->Bool)(w:World)(s:Bool)(a:Option Addr)(n c:Nat)(d:Option Addr)(k e:Nat)(x:Rat)(t:TypeId)(b:HX X w)(h:QC (mk X w) (.agg #[.bool s, .slice a n c, .slice d k e]) x):OL QC 3 X w.heap.size t (w.alloc (.cells #[.bool s, .slice a n c, .slice d k e] t)) (some ⟨w.heap.size,0,none⟩) 1 [x]:=
 OL.lit QC.elem b (Nat.le_refl _) [.agg #[.bool s, .slice a n c, .slice d k e]] [x] _ (by simp[a0g,Value.cells]) rfl (fun i hi _=>by
  have:i=0:=by simpa using hi
  subst this;exact h) (by simp)
theorem BM.sub{B:Nat}{m l:List (List Rat)}(h:BM B m)(hs:∀r∈l,r∈m):BM B l:=fun r a=>h r (hs r a)
end Go.Proofs.YtnnpfhoigmegcaaGreat
namespace Go.Lin
def app(c:Nat)(f:F2)(x:Nat->Rat)(i:Nat):Rat:=sm c fun j=>f i j*x j
def gr(n:Nat)(f:F2):F2:=fun i j=>sm n fun r=>f r i*f r j
def gy(n:Nat)(f:F2)(y:Nat->Rat):Nat->Rat:=fun i=>sm n fun r=>f r i*y r
def NS(n c:Nat)(f:F2)(y b:Nat->Rat):Prop:=∀i,i<c->sm c (fun j=>gr n f i j*b j)=gy n f y i
theorem Rref.drop{n c:Nat}{f:F2}{p:List Nat}(h:Rref n (c+1) f p)(d:c∉p):Rref n c f p:=
 ⟨h.le,fun i hi=>by
  have a:=h.lt i hi;have b:p[i]≠c:=by rintro rfl;exact d (List.getElem_mem _)
  omega,h.inc,h.left,h.one,h.zero,fun i a b j e=>h.below i a b j (by omega)⟩
def Inv(m:Nat)(G v:F2):Prop:=(∀a,a<m->∀b,b<m->sm m (fun k=>G a k*v k b)=if a=b then 1 else 0)/\∀a,a<m->∀b,b<m->sm m (fun k=>v a k*G k b)=if a=b then 1 else 0
def hat(m:Nat)(u v:F2):F2:=fun i j=>sm m fun a=>u i a*sm m fun b=>v a b*u j b
open Go.Lim
noncomputable def b4L(m:Mat)(c:Nat):Nat:=(eN m c).2.1.length
theorem b0H(m:Mat)(c:Nat):b4L m c=(a1P m c).2.length:=rfl
end Go.Lin
namespace Go.Proofs.YtnnpfhoigmegcaaGreat
open Go.RowKit Go.Rep Go.Lim Go.Lin
def b7V(Z:Nat->Bool)(base:Nat)(e:TypeId)(w:World)(a:Option Addr)(cap:Nat)(l:List Rat)(ee:Ending)(w':World):Prop:=ee= .returned (.tuple #[])/\ExtX (ob a) w w'/\OL QC 3 (cut Z a) base e w' a cap l
theorem a4d(Z:Nat->Bool)(base:Nat)(w:World)(m I:Option Addr)(c1 c2 n b:Nat)(row g:List Rat)(hX:HX Z w)(h1:OL QC 3 (cut Z m) base 41 w m c1 row)(h2:OL QC 3 (cut Z I) base 41 w I c2 g)(f5:∀k,ob m k=true->Z k=true)(n9:∀k,ob I k=true->Z k=true)(c4:∀k,ob m k=true->ob I k=false)(a8:row.length=n)(a9:g.length=n)(hn:n<=1000)(c3:b<n)(g8:BR 68719476736 row)(g9:BR 68719476736 g)(c9:hq (row.getD b 0/g.getD b 0)<=68719476736)(d0:∀x∈g,hq (row.getD b 0/g.getD b 0*x)<=68719476736):Calls Tryz.prog 321 #[.slice m n c1, .slice I n c2, .int .i64 (b:Int)] w (b7V Z base 41 w m c1 (a2A row g b)):=by
 have e4:=hid (a8F f5);have j6:=hid (a8F n9);have l7:∀k,ob I k=true->ob m k=false:=fun k C=>by
  cases hb:ob m k
  ·rfl
  ·rw[c4 k hb]at C;simp at C
 have i0:Hd m n:=by have:=h1.hd;rw[a8]at this;exact this
 have l6:Hd I n:=by have:=h2.hd;rw[a9]at this;exact this
 have b3:b<row.length:=by omega
 have b4:b<g.length:=by omega
 have g1:Hid (row.getD b 0=row[b]):=hid (by simp[List.getD_eq_getElem?_getD,b3]);have g2:Hid (g.getD b 0=g[b]):=hid (by simp[List.getD_eq_getElem?_getD,b4]);obtain⟨E,V⟩:∃E,a2A row g b=E:=⟨_,rfl⟩;have a0:Hid (E.length=n):=hid (by rw[<-V,a3f _ _ _ (by omega)];exact a9);have g3:Hid (∀j (hj:j<row.length) (l9:j<g.length) (m3:j<E.length),E[j]=row[j] - (row.getD b 0/g.getD b 0)*g[j]):=hid fun j hj l9 m3=>by subst V;simp[a2A]
 have f8:Hid (row.getD b 0/g.getD b 0=0->E=row):=hid fun h=>by rw[<-V];exact a9k _ _ _ (by omega) h
 have e3:Hid (E.length=row.length):=hid (by rw[a0.out,a8]);have c8:=hid a8;have j0:=hid a9;have b1:=hid g8;have b2:=hid g9;obtain⟨f,hf⟩:∃f,row.getD b 0/g.getD b 0=f:=⟨_,rfl⟩;rw[hf]at c9 f8 g3 d0;have h3:=hid c9;have h4:=hid d0;have i4:Hid (row[b]/g[b]=f):=hid (by rw[<-g1.out,<-g2.out];exact hf);rw[V];obtain⟨o,u,s1,p1,n1,q1,d1,k1,e1,i5,o5,b9,d9⟩:=h1.rat QC.shaped b b3;obtain⟨p,z,s2,p2,n2,q2,d2,k2,e2,i6,o6,c0,e0⟩:=h2.rat QC.shaped b b4;rw[e4.out]at d9;rw[j6.out]at e0;have i1:∀W,(Instr.indexAt 26 (.slice m n c1) (.int .i64 (b:Int))).run Tryz.prog W= .ok (.pointer (some ⟨o,u,none⟩)) W:=by rw[<-i5];exact a0o a1b m n c1 .i64 b i0 c3
 have i2:∀W,(Instr.indexAt 26 (.slice I n c2) (.int .i64 (b:Int))).run Tryz.prog W= .ok (.pointer (some ⟨p,z,none⟩)) W:=by rw[<-i6];exact a0o a1b I n c2 .i64 b l6 c3
 have q:Ext w w.drew:=(ExtX.refl w).drew;have M:Hid (∀Y W',ExtX Y w.drew W'->Y o=false->Y p=false->W'.cell? ⟨o,u,none⟩=some (.bool s1)/\W'.cell? ⟨o,u+1,none⟩=some (.slice p1 n1 q1)/\W'.cell? ⟨o,u+2,none⟩=some (.slice d1 k1 e1)/\W'.cell? ⟨p,z,none⟩=some (.bool s2)/\W'.cell? ⟨p,z+1,none⟩=some (.slice p2 n2 q2)/\W'.cell? ⟨p,z+2,none⟩=some (.slice d2 k2 e2)):=hid fun Y W' h f3 f4=>by
  have z1:=b9.out Y W' ((ExtX.of q).trans h) f3;have z2:=c0.out Y W' ((ExtX.of q).trans h) f4;exact⟨z1.1,z1.2.1,z1.2.2,z2.1,z2.2.1,z2.2.2⟩
 obtain⟨F,P,Q,G,R,S⟩:=M.out noY w.drew (ExtX.refl _) rfl rfl;have o3:o<w.heap.size:=a4h F;have o4:p<w.heap.size:=a4h G;have a3:HX Z w.drew:=hX;have j7:QV (mk Z w.drew) (.agg #[.bool s1, .slice p1 n1 q1, .slice d1 k1 e1]) row[b]:=d9.qv (b1.out _ (List.getElem_mem _));have j8:QV (mk Z w.drew) (.agg #[.bool s2, .slice p2 n2 q2, .slice d2 k2 e2]) g[b]:=e0.qv (b2.out _ (List.getElem_mem _));obtain⟨ec,d4⟩:∃ec,e5 (decide (g[b]=0))=ec:=⟨_,rfl⟩;have qd:=b6I Z w.drew _ _ _ _ a3 j7 j8;rw[d4,i4.out]at qd;have K:Ext w.drew (w.alloc (.cells #[.bool false, .slice none 0 0, .slice none 0 0] 41)).drew:=⟨rfl,rfl,rfl,((ExtX.refl (Y:=noY) w).alloc _).size,((ExtX.refl (Y:=noY) w).alloc _).block⟩;have bA:Bx (w.alloc (.cells #[.bool false, .slice none 0 0, .slice none 0 0] 41)).drew w.heap.size #[.bool false, .slice none 0 0, .slice none 0 0] 41:=Bx.new w _ _;have A:Ext w (w.alloc (.cells #[.bool false, .slice none 0 0, .slice none 0 0] 41)).drew:=q.trans K;have l3:HX (un Z (some ⟨w.heap.size,0,none⟩)) (w.alloc (.cells #[.bool false, .slice none 0 0, .slice none 0 0] 41)).drew:=fun k C=>by
  have h9:(w.alloc (.cells #[.bool false, .slice none 0 0, .slice none 0 0] 41)).drew.heap.size=w.heap.size+1:=by show(w.alloc _).heap.size=_;simp
  rw[h9];by_cases hz:Z k=true
  ·have:=hX k hz;omega
  ·have:w.heap.size=k:=by simpa[un,hz,ob]using C
   omega
 have N:∀j,j<w.heap.size->ob (some ⟨w.heap.size,0,none⟩) j=false:=fun j hj=>a0b (by omega);have f6:=b6I (un Z (some ⟨w.heap.size,0,none⟩)) (w.alloc (.cells #[.bool false, .slice none 0 0, .slice none 0 0] 41)).drew _ _ _ _ l3 (a8x (w:=w) QV.mono j7 A N) (a8x (w:=w) QV.mono j8 A N);rw[d4,i4.out]at f6;clear i5 i6 b9 c0 d9 e0 hf V a8 a9 g8 g9 c9 d0 d4;go_enter Tryz.func321,Tryz.ntmps321
 go_upto_region 0 with(fail)
 go_cut [6,7]from 10 to 21 (fun b6 _ wx=>∃J s a n' c d k e,b6= .pointer (some ⟨J,0,none⟩)/\Bx wx J #[.bool s, .slice a n' c, .slice d k e] 41/\w.heap.size<=J/\QC (mk Z wx) (.agg #[.bool s, .slice a n' c, .slice d k e]) f/\Ext w wx)
 case first=>
  go_region_held3 (fun w'=>w'.cell? ⟨o,u,none⟩=some (.bool s1)/\w'.cell? ⟨o,u+1,none⟩=some (.slice p1 n1 q1)/\w'.cell? ⟨o,u+2,none⟩=some (.slice d1 k1 e1)/\w'.cell? ⟨p,z,none⟩=some (.bool s2)/\w'.cell? ⟨p,z+1,none⟩=some (.slice p2 n2 q2)/\w'.cell? ⟨p,z+2,none⟩=some (.slice d2 k2 e2))
   (first|exact M.out noY _ H rfl rfl|exact M.out noY _ (ExtX.alloc H _) rfl rfl|exact M.out noY _ K rfl rfl|exact M.out noY _ (K.trans U) rfl rfl|exact M.out (ob (some ⟨w.heap.size,0,none⟩)) _ ((ExtX.of (K.trans U)).trans D.2) (a0b (by omega)) (a0b (by omega))|exact M.out (ob (some ⟨w6.heap.size,0,none⟩)) _ ((ExtX.of (H.alloc _)).trans D.2) (a0b (by have:=H.size;have h9:w.drew.heap.size=w.heap.size:=rfl;omega)) (a0b (by have:=H.size;have h9:w.drew.heap.size=w.heap.size:=rfl;omega))|go_keep)
   (first|(go_at_call 236;(with_reducible refine qd.mono ?_);rintro ee w6 ⟨H,u6,rfl,t⟩;obtain⟨s6,a6,n6,c6,d6,k6,e6,rfl⟩:=t.shape;have D:=(Bx.new w6 #[.bool false, .slice none 0 0, .slice none 0 0] 41).set3 (.bool s6) (.slice a6 n6 c6) (.slice d6 k6 e6))|(go_at_call 236;(with_reducible refine f6.mono ?_);rintro ee w6 ⟨U,u6,rfl,t⟩;obtain⟨s6,a6,n6,c6,d6,k6,e6,rfl⟩:=t.shape;have bb:=bA.ext0 U;have y0:=bb.cell 0 rfl;have y1:=bb.cell 1 rfl;have y2:=bb.cell 2 rfl;have z0:=bb.frozen 0;have z1:=bb.frozen 1;have z2:=bb.frozen 2;have D:=bb.set3 (.bool s6) (.slice a6 n6 c6) (.slice d6 k6 e6)))
  ·clear F P Q G R S
   go_wp2_with fail
   go_meet
   case rel=>exact⟨w6.heap.size,_,_,_,_,_,_,_,rfl,Bx.new w6 _ _,(q.trans H).size,QC.mono _ _ _ _ (a0k ((ExtX.refl w6).alloc _)) t,(q.trans H).alloc _⟩
  ·have m7:=QC.mono _ _ _ _ (a2T (X:=Z) fun k _ C=>a0v C) (QC.mono _ _ _ _ (a0E D.2 fun k C=>a0A C) t)
   have l:Ext w _:=ExtX.box (A.trans U) D.2 (Nat.le_refl _);clear F P Q G R S y0 y1 y2 z0 z1 z2;go_wp2_with fail
   go_meet
   case rel=>exact⟨w.heap.size,_,_,_,_,_,_,_,rfl,D.1,Nat.le_refl _,m7,l⟩
 case rest=>
  obtain⟨J,sf,af,nf,cf,df,kf,ef,rfl,b6,o9,m8,L⟩:=hcut;clear F P Q G R S i1 i2 qd f6 M bA K A;have g7:=hX.ext L;have f7:=h1.ext0 QC.elem L;have k3:=h2.ext0 QC.elem L;have f0:=b6.cell 0 rfl;have f1:=b6.cell 1 rfl;have f2:=b6.cell 2 rfl;have d8:=m8.qv h3.out;by_cases h0:f=0
  ·have hr:=hid (f8.out h0)
   have j4:Hid (f.num.sign=0):=hid (by rw[h0];rfl);clear h0;go_wp2_with fail
   refine(a7D Z wc _ f g7 d8).mono ?_;rintro e w7 ⟨l,rfl⟩;rw[j4.out];clear f0 f1 f2;go_wp2_with fail
   refine bodyPost_ret (results_none rfl _ _ _) rfl ?_;exact⟨rfl,ExtX.of (L.trans l),by rw[hr.out];exact f7.ext0 QC.elem l⟩
  ·have j4:((f.num.sign:Int)==0)=false:=a2S (by intro h;exact h0 (Rat.num_eq_zero.1 (Int.sign_eq_zero_iff_zero.1 h)))
   clear h0;go_wp2_with fail
   refine(a7D Z wc _ f g7 d8).mono ?_;rintro e w7 ⟨l,rfl⟩;have b7:=b6.ext0 l;have O:=mkx QV.mono d8 l;have f9:=L.trans l;have j9:=f7.ext0 QC.elem l;have k0:=k3.ext0 QC.elem l;clear f0 f1 f2 b6;go_wp2_with fail
   go_loopw [27] (fun k wr=>∃(j:Nat),k= .int .i64 j/\j<=n/\OL QC 3 (cut Z m) base 41 wr m c1 (mix E row j)/\OL QC 3 (cut Z I) base 41 wr I c2 g/\Bx wr J #[.bool sf, .slice af nf cf, .slice df kf ef] 41/\QV (mk Z wr) (.agg #[.bool sf, .slice af nf cf, .slice df kf ef]) f/\ExtX (ob m) w wr) (fun k _=>n - (intOf k).toNat)
   case atStart=>exact⟨0,rfl,Nat.zero_le _,by rw[a4K];exact j9,k0,b7,O,ExtX.of f9⟩
   case round=>
    obtain⟨j,rfl,hj,B,g5,b7,O,V⟩:=hrel;have l4:=hX.ext V;by_cases b0:j<n
    ·have m5:j<row.length:=by rw[c8.out];exact b0
     have i8:j<g.length:=by rw[j0.out];exact b0
     have i7:j<E.length:=by rw[a0.out];exact b0
     have j2:Hid ((mix E row j).length=n):=hid (by rw[a1V e3.out,a0.out]);have a4:j<(mix E row j).length:=by rw[j2.out];exact b0
     have j1:Hid ((mix E row j)[j]=row[j]):=hid (by rw[a1N e3.out,if_neg (by omega)]);have i9:Hid ((mix E row j).set j E[j]=mix E row (j+1)):=hid (a6z e3.out i7);have g4:Hid (row[j] - f*g[j]=E[j]):=hid (g3.out j m5 i8 i7).symm;have h6:=hid (b2.out g[j] (List.getElem_mem _));have h7:=hid (b1.out row[j] (List.getElem_mem _));have h5:=hid (h4.out g[j] (List.getElem_mem _));obtain⟨x,hx⟩:∃x,g[j]=x:=⟨_,rfl⟩;obtain⟨y,hy⟩:∃y,row[j]=y:=⟨_,rfl⟩;obtain⟨v,hv⟩:∃v,E[j]=v:=⟨_,rfl⟩;obtain⟨r,hr⟩:∃r,mix E row j=r:=⟨_,rfl⟩;obtain⟨gg,oo,sg,ap,np,cp,dp,kp,ep,hg,p0,h8,j3⟩:=B.rat QC.shaped j a4;rw[j1.out,hy,e4.out]at j3;rw[hx,hy,hv]at g4;rw[hx]at h6 h5;rw[hy]at h7;rw[hv,hr]at i9;rw[hr]at B a4 j2;have n0:=hid hx;have i1:∀W,(Instr.indexAt 26 (.slice m n c1) (.int .i64 (j:Int))).run Tryz.prog W= .ok (.pointer (some ⟨gg,oo,none⟩)) W:=by rw[<-hg];exact a0o a1b m n c1 .i64 j i0 (by omega)
     have bx:=Bx.new wr #[.bool false, .slice none 0 0, .slice none 0 0] 41;clear hx hy hv hr j1;go_wp2_with (first|(with_reducible refine a1E a1b (by omega) (by assumption) ?_)|((with_reducible show wpList _ _ _ (⟨_, .load _ _,_,_,_,_⟩::_) _ _);refine a4c a0j j g5 i8 rfl (by simp) QC.agg ?_;intro u5 e8;rw[n0.out,j6.out]at e8;obtain⟨s5,a5,n5,c5,d5,k5,e5,rfl⟩:=e8.shape)|((with_reducible show wpList _ _ _ (⟨_, .store _ _ _,_,_,_,_⟩::_) _ _);refine a0a a0j rfl rfl bx rfl rfl (a1q _ _ _ _ _ _ _) ?_;intro T r1 r2))
     have k4:Ext wr T:=ExtX.box ((ExtX.refl wr).alloc _) r2 (Nat.le_refl _);have q:Ext T T.drew:=(ExtX.refl T).drew;have i:=k4.trans q;have k9:=B.ext0 QC.elem i;have l0:=g5.ext0 QC.elem i;have b5:=b7.ext0 i;have m9:QV (mk Z T.drew) (.agg #[.bool s5, .slice a5 n5 c5, .slice d5 k5 e5]) x:=(mkx QC.mono e8 i).qv h6.out;have n4:QV (mk Z T.drew) (.agg #[.bool sg, .slice ap np cp, .slice dp kp ep]) y:=(mkx QC.mono j3 i).qv h7.out;have i3:QV (mk Z T.drew) (.agg #[.bool sf, .slice af nf cf, .slice df kf ef]) f:=mkx QV.mono O i;have a3:HX Z T.drew:=l4.ext i;obtain⟨bw,d3⟩:∃bw,wr.heap.size=bw:=⟨_,rfl⟩;have o8:Hid (ob m bw=false):=hid (by rw[<-d3];exact B.ob_ge (Nat.le_refl _));have l5:Hid (ob m J=false):=hid (by
      cases hb:ob m J
      ·rfl
      ·have:=(h1.block hb).2;omega)
     rw[d3]at r1;have M:Hid (∀Y W',ExtX Y T.drew W'->Y gg=false->Y J=false->Y bw=false->W'.cell? ⟨gg,oo,none⟩=some (.bool sg)/\W'.cell? ⟨gg,oo+1,none⟩=some (.slice ap np cp)/\W'.cell? ⟨gg,oo+2,none⟩=some (.slice dp kp ep)/\W'.cell? ⟨J,0,none⟩=some (.bool sf)/\W'.cell? ⟨J,1,none⟩=some (.slice af nf cf)/\W'.cell? ⟨J,2,none⟩=some (.slice df kf ef)/\W'.cell? ⟨bw,0,none⟩=some (.bool s5)/\W'.cell? ⟨bw,1,none⟩=some (.slice a5 n5 c5)/\W'.cell? ⟨bw,2,none⟩=some (.slice d5 k5 e5)):=hid fun Y W' h f3 f4 n3=>by
      have z1:=h8.out Y W' ((ExtX.of i).trans h) f3;have z2:=b5.ext h f4;have z3:=(r1.ext0 q).ext h n3;exact⟨z1.1,z1.2.1,z1.2.2,z2.cell 0 rfl,z2.cell 1 rfl,z2.cell 2 rfl,z3.cell 0 rfl,z3.cell 1 rfl,z3.cell 2 rfl⟩
     obtain⟨F,P,Q,G,R,S,o0,o1,o2⟩:=M.out noY T.drew (ExtX.refl _) rfl rfl rfl;have o7:=r1.ext0 q;clear r1 bx h8;rw[d3];go_wp2_with fail
     go_region_with (first|(go_at_call 151;(with_reducible refine(b7D Z T.drew _ _ _ _ a3 i3 m9).mono ?_);rintro ee w6 ⟨H,u6,rfl,t⟩;obtain⟨s6,a6,n6,c6,d6,k6,e6,rfl⟩:=t.shape;have l2:=a3.ext H;have n8:=mkx QV.mono n4 H;have m6:=t.qv h5.out;obtain⟨m0,m1,m2,_⟩:=M.out noY w6 H rfl rfl rfl)|(go_at_call 153;(with_reducible refine(b7T Z w6 _ _ _ _ l2 n8 m6).mono ?_);rintro ee w7 ⟨t7,u7,rfl,e9⟩;obtain⟨s7,a7,n7,c7,d7,k7,e7,rfl⟩:=e9.shape;rw[g4.out]at e9;have U:=H.trans t7;have g6:=k9.ext0 QC.elem U;obtain⟨_,v0,v1,v2,_,⟨g0,f0⟩,⟨g1,f1⟩,⟨g2,f2⟩,_⟩:=g6.cell3 j a4 hg;have j5:=g6.set3 a6S QC.elem j a4 hg (v0:= .bool s7) (v1:= .slice a7 n7 c7) (v2:= .slice d7 k7 e7) (x:=v) (by rw[e4.out];exact e9)))
     all_goals
      obtain⟨q1,q2⟩:=j5;rw[i9.out]at q1;have l1:=(l0.ext0 QC.elem U).ext QC.elem q2 (fun k _ C=>a4G (f5 k C) (c4 k C)) (fun _ _ C=>C);have b8:=(b5.ext0 U).ext q2 l5.out;have l8:QV (mk Z _) _ _:=QV.mono _ _ _ _ (a0E q2 f5) (mkx QV.mono i3 U);have k8:=(V.trans (ExtX.of (i.trans U))).trans q2;clear F P Q G R S o0 o1 o2 m0 m1 m2 g0 g1 g2 f0 f1 f2 i1;go_wp2_with fail
      go_roundw
      case rel=>exact⟨j+1,by go_num,by omega,q1,l1,b8,l8,k8⟩
      case measure=>simp[intOf];omega
    ·have m4:j=n:=by omega
     subst m4;rw[a4L (by rw[a0.out];exact Nat.le_refl _) (by rw[c8.out];exact Nat.le_refl _)]at B;go_wp2_with fail
     go_end0
     exact⟨rfl,V,B⟩
end Go.Proofs.YtnnpfhoigmegcaaGreat
namespace Go.Lin
def b7f:Option Nat->Int
 |none=> -1
 |some k=>k
end Go.Lin
namespace Go.Proofs.YtnnpfhoigmegcaaGreat
open Go.RowKit Go.Rep Go.Lim Go.Lin
theorem a7O(X:Nat->Bool)(w:World)(a:Option Addr)(l:List Rat)(n c d b:Nat)(r:HX X w)(hs:Sl QC 3 (mk X w) a l)(t:l.length=n)(s:d<n)(q:BR 68719476736 l)(F:w.cell? ⟨b,0,none⟩=some (.int .i64 (d:Int))):Calls Tryz.prog 320 #[.slice a n c, .pointer (some ⟨b,0,none⟩)] w (b3s w (decide (l.getD d 0≠0))):=by
 have G:Hd a n:=by have:=hs.hd;rw[t]at this;exact this
 have i:d<l.length:=by omega
 have m:=hs.qv q;obtain⟨x,hx⟩:∃x,l[d]=x:=⟨_,rfl⟩;have z:Hid (l.getD d 0=x):=hid (by simp[List.getD_eq_getElem?_getD,i,hx]);have o:=hid hx;clear t q hx;rw[z.out];by_cases k:x=0
 ·have p:Hid (decide (x≠0)=false):=hid (by simp[k])
  have j:Hid (x.num.sign=0):=hid (by rw[k];rfl);rw[p.out];clear k;go_enter Tryz.func320,Tryz.ntmps320
  go_wp2_with (first|(with_reducible refine a1E a1b (by omega) (by assumption) ?_)|((with_reducible show wpList _ _ _ (⟨_, .load 41 _,_,_,_,_⟩::_) _ _);refine a1g a0j d m i rfl (by simp) QV.agg ?_;intro D f;rw[o.out]at f;obtain⟨C,u,B,v,y,A,e5,rfl⟩:=f.shape))
  refine(a7D X w _ x r f).mono ?_;rintro e E ⟨g,rfl⟩;rw[j.out];go_wp2_with fail
  go_ret
  exact⟨g,rfl⟩
 ·have p:Hid (decide (x≠0)=true):=hid (by simp[k])
  have j:((x.num.sign:Int) !=0)=true:=a9E (by intro h;exact k (Rat.num_eq_zero.1 (Int.sign_eq_zero_iff_zero.1 h)));rw[p.out];clear k;go_enter Tryz.func320,Tryz.ntmps320
  go_wp2_with (first|(with_reducible refine a1E a1b (by omega) (by assumption) ?_)|((with_reducible show wpList _ _ _ (⟨_, .load 41 _,_,_,_,_⟩::_) _ _);refine a1g a0j d m i rfl (by simp) QV.agg ?_;intro D f;rw[o.out]at f;obtain⟨C,u,B,v,y,A,e5,rfl⟩:=f.shape))
  refine(a7D X w _ x r f).mono ?_;rintro e E ⟨g,rfl⟩;generalize x.num.sign=sg at j;go_wp2_with fail
  go_ret
  exact⟨g,rfl⟩
theorem a6A(X:Nat->Bool)(w:World)(a:Option Addr)(l:List (List Rat))(n c N d b:Nat)(T:HX X w)(hs:Sl RC 1 (mk X w) a l)(K:l.length=n)(Z:n<=1000000)(E:∀r∈l,r.length=N)(y:d<N)(O:BM 68719476736 l)(V:w.cell? ⟨b,0,none⟩=some (.int .i64 (d:Int))):Calls Tryz.prog 319 #[.slice a n c, .func (.func 320) #[] #[.pointer (some ⟨b,0,none⟩)]] w (fun e w'=>Ext w w'/\e= .returned (.int .i64 (b7f (l.findIdx? fun r=>decide (r.getD d 0≠0))))):=by
 have Y:Hd a n:=by have:=hs.hd;rw[K]at this;exact this
 have A:=hid K;have M:=hid E;have H:=hid O;have g:Hid (∀i (hi:i<l.length),(∀q (hq:q<l.length),q<i->l[q].getD d 0=0)->l[i].getD d 0≠0->l.findIdx? (fun r=>decide (r.getD d 0≠0))=some i):=hid fun i hi G S=>by
  rw[List.findIdx?_eq_some_iff_getElem];exact⟨hi,by simpa using S,fun q hq=>by simpa using G q (by omega) hq⟩
 have j:Hid ((∀q (hq:q<l.length),l[q].getD d 0=0)->l.findIdx? (fun r=>decide (r.getD d 0≠0))=none):=hid fun G=>by
  rw[List.findIdx?_eq_none_iff];intro r E;obtain⟨q,hq,rfl⟩:=List.getElem_of_mem E;simpa using G q hq
 obtain⟨F,hF⟩:∃F,l.findIdx? (fun r=>decide (r.getD d 0≠0))=F:=⟨_,rfl⟩;rw[hF]at g j |-;clear K E O hF;go_enter Tryz.func319,Tryz.ntmps319
 go_wp2_with fail
 go_loopw [8] (fun k wr=>∃(i:Nat),k= .int .i64 i/\i<=n/\Hid (∀q (hq:q<l.length),q<i->l[q].getD d 0=0)/\Ext w wr) (fun k _=>n - (intOf k).toNat)
 case atStart=>exact⟨0,rfl,Nat.zero_le _,hid (fun q hq h=>by omega),ExtX.refl _⟩
 case round=>
  obtain⟨i,rfl,hi,s,x⟩:=hrel;by_cases L:i<n
  ·have z:i<l.length:=by rw[A.out];exact L
   obtain⟨Q,R,U,o,P,t⟩:=(hs.mono RC.mono (a0k x)).row i z;have u:=o.out noY wr (ExtX.refl _) rfl;have D:=hid (M.out l[i] (List.getElem_mem _));have I:=hid (H.out l[i] (List.getElem_mem _));rw[D.out]at u;have p:=x.cell V;have f:=a7O X wr Q l[i] N R d b (T.ext x) t D.out y I.out p;by_cases v:l[i].getD d 0=0
   ·have hd:Hid (decide (l[i].getD d 0≠0)=false):=hid (decide_eq_false (fun h=>h v))
    rw[hd.out]at f;have B:Hid (∀q (hq:q<l.length),q<i+1->l[q].getD d 0=0):=hid fun q hq C=>by
     by_cases e:q=i
     ·subst e;exact v
     ·exact s.out q hq (by omega)
    clear v o t;go_wp2_with (with_reducible refine a0n a0L (by omega) (by assumption) ?_)
    refine f.mono ?_;rintro e W ⟨m,rfl⟩;clear u;go_wp2_with fail
    go_roundw
    case rel=>exact⟨i+1,by go_num,by omega,B,x.trans m⟩
    case measure=>simp[intOf];omega
   ·have hd:Hid (decide (l[i].getD d 0≠0)=true):=hid (decide_eq_true v)
    rw[hd.out]at f;have J:=hid (g.out i z (fun q hq C=>s.out q hq C) v);clear v o t;go_wp2_with (with_reducible refine a0n a0L (by omega) (by assumption) ?_)
    refine f.mono ?_;rintro e W ⟨m,rfl⟩;clear u;go_wp2_with fail
    go_ret
    exact⟨x.trans m,a0y (by rw[J.out];rfl)⟩
  ·have J:=hid (j.out fun q hq=>s.out q hq (by rw[A.out]at hq;omega))
   go_wp2_with fail
   go_ret
   exact⟨x,a0y (by rw[J.out];rfl)⟩
end Go.Proofs.YtnnpfhoigmegcaaGreat
