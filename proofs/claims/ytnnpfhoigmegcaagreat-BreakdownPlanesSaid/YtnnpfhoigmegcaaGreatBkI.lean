/- Parts of a proof: each theorem states what it proves, and its conditions. -/
import Derived.Test.YtnnpfhoigmegcaaGreatBkH
import Derived.OrdersHeld
import Derived.StillTail
import Derived.Deep.RegionHeld
import Derived.WalkKit
import Derived.Sort.WalkA
import Derived.Shelf.Abstract
import Derived.Lib.ReflectliteSwap
import Derived.Lib.ReflectliteSlice
import Derived.WalkMore
import Derived.ArgAppend
set_option maxRecDepth 100000
set_option maxHeartbeats 2000000
namespace Go.Lin
open Go.Lim
def a3o(q:Rat):Rat:=if q<0 then -q else q
theorem a2j{q:Rat}(h:0<=q):a3o q=q:=by unfold a3o;rw[if_neg (by grind)]
theorem a2k{q:Rat}(h:q<=0):a3o q= -q:=by
 unfold a3o;split
 ·rfl
 ·have:q=0:=by grind
  rw[this];decide+kernel
theorem b6c(q:Rat):0<=a3o q:=by unfold a3o;split<;>grind
theorem a7X:a3o 0=0:=by decide+kernel
theorem b3H(a b:Rat):a3o (a*b)=a3o a*a3o b:=by
 rcases Rat.le_total (a:=0) (b:=a)with c|c<;>rcases Rat.le_total (a:=0) (b:=b)with d|d
 ·rw[a2j c,a2j d,a2j (Rat.mul_nonneg c d)]
 ·have h:=Rat.mul_nonneg c (show 0<= -b by grind)
  rw[a2j c,a2k d,a2k (show a*b<=0 by grind)];grind
 ·have h:=Rat.mul_nonneg (show 0<= -a by grind) d
  rw[a2k c,a2j d,a2k (show a*b<=0 by grind)];grind
 ·have h:=Rat.mul_nonneg (show 0<= -a by grind) (show 0<= -b by grind)
  rw[a2k c,a2k d,a2j (show 0<=a*b by grind)];grind
theorem b1N{q:Rat}(h:q≠0):0<a3o q:=by unfold a3o;split<;>grind
def GW(c:Nat)(w:Nat->Rat)(z:List Vec)(d:Vec):Rat:=sm z.length fun i=>w i*a3o (dot c d (z.getD i z0))
theorem b3I{c:Nat}{w:Nat->Rat}{z:List Vec}{d e:Vec}{t:Rat}(h:∀j,j<c->d j=t*e j):GW c w z d=a3o t*GW c w z e:=by
 unfold GW;rw[<-a2G];refine a0s fun i _=>?_;rw[a5G h,b0S,b3H];grind
theorem b6d{c:Nat}{w:Nat->Rat}{z:List Vec}{d:Vec}(h:∀v∈z,dot c d v=0):GW c w z d=0:=a3p fun i hi=>by
 rw[h _ (by rw[b6R hi];exact List.getElem_mem _),a7X];grind
theorem b9g{c:Nat}{w:Nat->Rat}{z:List Vec}(hD:Dirs c z (Ort c []))(hv:∀x,b0V c (Ort c []) z x->GW c w z x<=0):∀(n:Nat) (d:Vec),z.countP (fun v=>decide (dot c d v≠0))=n->GW c w z d<=0:=by
 intro n
 induction n using Nat.strongRecOn with
 |_ n ih=>
  intro d hd;by_cases hz:∀v∈z,dot c d v=0
  ·rw[b6d hz];exact Rat.le_refl
  ·obtain⟨v0,hv0,hne0⟩:∃v∈z,dot c d v≠0:=by
    apply Classical.byContradiction;intro h;exact hz fun v hv=>Classical.byContradiction fun e=>h ⟨v,hv,e⟩
   obtain⟨x,hx,hs⟩:=a7H hD _ d (by simp[Ort]) (b4z hne0) rfl;obtain⟨v1,hv1,hne1⟩:∃v∈z,dot c x v≠0:=by
    apply Classical.byContradiction;intro h;exact hx.2.1.not (hD.zero x hx.1 fun v hv=>Classical.byContradiction fun e=>h ⟨v,hv,e⟩)
   obtain⟨u,hu,hune,hmin⟩:=b4A (P:=fun v=>dot c x v≠0) (fun v=>dot c d v/dot c x v) z ⟨v1,hv1,hne1⟩;obtain⟨s,hse⟩:∃s,dot c d u/dot c x u=s:=⟨_,rfl⟩;rw[hse]at hmin;have hlin:∀v,dot c (fun j=>d j+(-s)*x j) v=dot c d v+(-s)*dot c x v:=fun v=>a2C c d x _ v;have hrat:∀v∈z,dot c x v≠0->(0<dot c x v/\s*dot c x v<=dot c d v/\0<dot c d v)\/(dot c x v<0/\dot c d v<=s*dot c x v/\dot c d v<0):=fun v hvz hvn=>by
    obtain⟨s1,s2,s3⟩:=hs v hvz;have hm:=hmin v hvz hvn;have he:dot c d v/dot c x v*dot c x v=dot c d v:=Rat.div_mul_cancel hvn;rcases Rat.le_total (a:=0) (b:=dot c x v)with h|h
    ·left
     have hp:0<dot c x v:=by grind
     have hdp:0<dot c d v:=by
      apply Classical.byContradiction;intro hn;by_cases h0:dot c d v=0
      ·exact hvn (s3 h0)
      ·have:=s2 (by grind);grind
     refine⟨hp,?_,hdp⟩;have:=Rat.mul_le_mul_of_nonneg_right hm h;rw[he]at this;exact this
    ·right
     have hp:dot c x v<0:=by grind
     have hdp:dot c d v<0:=by
      apply Classical.byContradiction;intro hn;by_cases h0:dot c d v=0
      ·exact hvn (s3 h0)
      ·have:=s1 (by grind);grind
     refine⟨hp,?_,hdp⟩;have:=Rat.mul_le_mul_of_nonneg_right hm (show 0<= -dot c x v by grind);grind
   have hs0:0<=s:=by
    rcases hrat u hu hune with⟨a,_,b⟩|⟨a,_,b⟩
    ·have he:s*dot c x u=dot c d u:=by rw[<-hse];exact Rat.div_mul_cancel hune
     apply Classical.byContradiction;intro hn;have:=Rat.mul_nonneg (show 0<= -s by grind) (Rat.le_of_lt a);grind
    ·have he:s*dot c x u=dot c d u:=by rw[<-hse];exact Rat.div_mul_cancel hune
     apply Classical.byContradiction;intro hn;have:=Rat.mul_nonneg (show 0<= -s by grind) (show 0<= -dot c x u by grind);grind
   have habs:∀v∈z,a3o (dot c d v)=a3o (dot c (fun j=>d j+(-s)*x j) v)+s*a3o (dot c x v):=fun v hvz=>by
    rw[hlin];by_cases hvn:dot c x v=0
    ·rw[hvn,a7X]
     rw[show dot c d v+ -s*0=dot c d v by grind];grind
    ·rcases hrat v hvz hvn with⟨a,b,e⟩|⟨a,b,e⟩
     ·rw[a2j (Rat.le_of_lt e),a2j (Rat.le_of_lt a),a2j (show 0<=dot c d v+ -s*dot c x v by grind)];grind
     ·rw[a2k (Rat.le_of_lt e),a2k (Rat.le_of_lt a),a2k (show dot c d v+ -s*dot c x v<=0 by grind)];grind
   have hG:GW c w z d=GW c w z (fun j=>d j+(-s)*x j)+s*GW c w z x:=by
    unfold GW;rw[<-a2G,<-a5g];refine a0s fun i hi=>?_;rw[habs _ (by rw[b6R hi];exact List.getElem_mem _)];grind
   have hcl:z.countP (fun v=>decide (dot c (fun j=>d j+(-s)*x j) v≠0))<n:=by
    rw[<-hd];refine a7G (a:=u) (fun v hvz h=>?_) hu ?_ ?_
    ·have h:dot c (fun j=>d j+(-s)*x j) v≠0:=by simpa using h
     rw[hlin]at h;simp only[decide_eq_true_eq,ne_eq];intro h0;have:=(hs v hvz).2.2 h0;rw[h0,this]at h;exact h (by grind)
    ·have he:s*dot c x u=dot c d u:=by rw[<-hse];exact Rat.div_mul_cancel hune
     simp only[decide_eq_false_iff_not,ne_eq,Classical.not_not];rw[hlin];grind
    ·rcases hrat u hu hune with⟨_,_,b⟩|⟨_,_,b⟩
     ·simp only[decide_eq_true_eq,ne_eq];grind
     ·simp only[decide_eq_true_eq,ne_eq];grind
   have h1:=ih _ hcl _ rfl;have h2:=Rat.mul_nonneg hs0 (show 0<= -GW c w z x by have:=hv x hx;grind);rw[hG];grind
def a7Y(l:List Rat)(m:Nat):Rat:=a1K ((srt l).drop (l.length - m))
theorem b1O{l:List Rat}(h:∀x∈l,0<=x):0<=a1K l:=by
 induction l with
 |nil=>rw[a3d];exact Rat.le_refl
 |cons a l ih=>
  rw[a0X];have h1:=h a List.mem_cons_self;have h2:=ih fun x hx=>h x (List.mem_cons_of_mem _ hx);grind
theorem b1P:∀(k:Nat) (s a r:List Rat) (m:Nat),s.length=k->s.Pairwise (· <= ·)->(∀x∈s,0<=x)->(a++r).Perm s->a.length<=m->a1K a<=a1K (s.drop (s.length - m))
 |k,s,[],r,m,hk,hs,hn,hp,hm=>by
  rw[a3d];exact b1O fun x hx=>hn x (List.mem_of_mem_drop hx)
 |0,s,a::t,r,m,hk,hs,hn,hp,hm=>by have:=hp.length_eq;simp[hk]at this
 |k+1,s,a::t,r,m,hk,hs,hn,hp,hm=>by
  rcases List.eq_nil_or_concat s with rfl|⟨s',v,rfl⟩
  ·simp at hk
  ·rw[List.concat_eq_append]at*
   obtain⟨m,rfl⟩:∃q,m=q+1:=⟨m - 1,by simp at hm;omega⟩;have hk':s'.length=k:=by simpa using hk
   have hle:∀x∈s',x<=v:=fun x hx=>(List.pairwise_append.1 hs).2.2 x hx v (by simp);have hs':=(List.pairwise_append.1 hs).1;have hn':∀x∈s',0<=x:=fun x hx=>hn x (List.mem_append_left _ hx);have hdr:a1K ((s'++[v]).drop ((s'++[v]).length - (m+1)))=a1K (s'.drop (s'.length - m))+v:=by
    rw[List.length_append,List.length_singleton,show s'.length+1 - (m+1)=s'.length - m by omega,List.drop_append_of_le_length (by omega),a9H,a0X,a3d];grind
   rw[hdr,a0X];by_cases hva:v∈a::t
   ·obtain⟨t',ht'⟩:∃t',(a::t).Perm (v::t'):=⟨_,List.perm_cons_erase hva⟩
    have hsum:a+a1K t=v+a1K t':=by rw[<-a0X,<-a0X];exact a3J ht'
    have hp2:(t'++r).Perm s':=by
     have h1:(v::(t'++r)).Perm (v::s'):=((ht'.symm.append_right r).trans hp).trans (List.perm_append_comm);exact h1.cons_inv
    have hl:t'.length<=m:=by have:=ht'.length_eq;simp at this hm;omega
    have:=b1P k s' t' r m hk' hs' hn' hp2 hl;rw[hsum];grind
   ·have hvr:v∈r:=by
     have:v∈(a::t)++r:=hp.mem_iff.2 (by simp);rcases List.mem_append.1 this with h|h
     ·exact absurd h hva
     ·exact h
    obtain⟨r',hr'⟩:∃r',r.Perm (v::r'):=⟨_,List.perm_cons_erase hvr⟩;have hp2:(t++(a::r')).Perm s':=by
     have h1:(v::(t++(a::r'))).Perm (v::s'):=by
      refine List.Perm.trans ?_ (hp.trans List.perm_append_comm);have h2:((a::t)++r).Perm ((a::t)++(v::r')):=hr'.append_left _;refine List.Perm.trans ?_ h2.symm;have h3:((a::t)++(v::r')).Perm (v::((a::t)++r')):=List.perm_middle;refine List.Perm.trans ?_ h3.symm;refine List.Perm.cons v ?_;exact List.perm_middle
     exact h1.cons_inv
    have hav:a<=v:=hle a (hp2.mem_iff.1 (by simp));have:=b1P k s' t (a::r') m hk' hs' hn' hp2 (by simp at hm;omega);grind
theorem b6e{l a r:List Rat}{m:Nat}(c:∀x∈l,0<=x)(d:(a++r).Perm l)(b:a.length<=m):a1K a<=a7Y l m:=by
 have:=b1P _ (srt l) a r m rfl (a9I l) (fun x hx=>c x ((a1Q l).mem_iff.1 hx)) (d.trans (a1Q l).symm) b;rw[a4Z]at this;exact this
theorem b3J(l:List Rat):a7Y l l.length=a1K l:=by
 unfold a7Y;rw[Nat.sub_self,List.drop_zero];exact a3J (a1Q l)
theorem b1Q(l:List Rat):a7Y l 0=0:=by
 unfold a7Y;rw[List.drop_of_length_le (by rw[a4Z];omega),a3d]
def a2l(x:Mat)(c:Nat)(d:List Rat):List Rat:=x.map fun r=>a3o (dot c (vec d) (vec r))
theorem b1R{x:Mat}{c:Nat}{d:List Rat}:∀q∈a2l x c d,0<=q:=fun q hq=>by
 obtain⟨r,_,rfl⟩:=List.mem_map.1 hq;exact b6c _
theorem a1X(x:Mat)(c:Nat)(d:List Rat):(a2l x c d).length=x.length:=by simp[a2l]
def a1g(x:Mat)(c:Nat)(d:List Rat)(m:Nat):Rat:=a7Y (a2l x c d) m/a1K (a2l x c d)
def a4H(a b:Rat):Rat:=if a<b then b else a
noncomputable def a0x(x:Mat)(c m:Nat):Rat:=((a0R x c).map fun d=>a1g x c d m).foldl a4H 0
theorem a7u(l:List Rat):∀a,a<=l.foldl a4H a/\(∀k∈l,k<=l.foldl a4H a)/\(l.foldl a4H a=a\/l.foldl a4H a∈l):=by
 induction l with
 |nil=>intro a;simp
 |cons b l ih=>
  intro a;obtain⟨h1,h2,h3⟩:=ih (a4H a b);have ha:a<=a4H a b:=by unfold a4H;split<;>grind
  have hb:b<=a4H a b:=by unfold a4H;split<;>grind
  refine⟨by simp only[List.foldl_cons];exact Rat.le_trans ha h1,fun k hk=>?_,?_⟩
  ·simp only[List.foldl_cons]
   rcases List.mem_cons.1 hk with rfl|hk
   ·exact Rat.le_trans hb h1
   ·exact h2 k hk
  ·simp only[List.foldl_cons]
   rcases h3 with h3|h3
   ·rw[h3]
    unfold a4H;split
    ·exact Or.inr List.mem_cons_self
    ·exact Or.inl rfl
   ·exact Or.inr (List.mem_cons_of_mem _ h3)
theorem a9K{x:Mat}{c m:Nat}{d:List Rat}(h:d∈a0R x c):a1g x c d m<=a0x x c m:=(a7u _ 0).2.1 _ (List.mem_map.2 ⟨d,h,rfl⟩)
theorem b3K{x:Mat}{c m:Nat}{b:Rat}(f:0<=b)(h:∀d∈a0R x c,a1g x c d m<=b):a0x x c m<=b:=by
 rcases(a7u ((a0R x c).map fun d=>a1g x c d m) 0).2.2 with e|e
 ·unfold a0x;rw[e];exact f
 ·unfold a0x
  obtain⟨d,hd,a⟩:=List.mem_map.1 e;rw[<-a];exact h d hd
theorem a8L{z:Mat}{p:List Rat->Bool}{q:Vec->Bool}(h:∀r∈z,p r=q (vec r)):a1R (z.filter p)=(a1R z).filter q:=by
 unfold a1R;rw[List.filter_map];exact congrArg _ (List.filter_congr fun r a=>h r a)
def b1S(r:List Rat):Bool:=r.all fun x=>decide (x=0)
theorem b4S{c:Nat}{r:List Rat}(d:r.length=c):nz c (vec r)↔b1S r=false:=by
 constructor
 ·rintro ⟨j,b,hne⟩
  rw[<-Bool.not_eq_true];intro h;unfold b1S at h;rw[List.all_eq_true]at h;have a:j<r.length:=by omega
  have:=h r[j] (List.getElem_mem a);apply hne;unfold vec;rw[List.getD_eq_getElem?_getD,List.getElem?_eq_getElem a];simpa using this
 ·intro h
  apply b2U;intro hz;rw[<-Bool.not_eq_true]at h;apply h;unfold b1S;rw[List.all_eq_true];intro x hx;obtain⟨j,b,rfl⟩:=List.getElem_of_mem hx;have:=hz j (by omega);unfold vec at this;rw[List.getD_eq_getElem?_getD,List.getElem?_eq_getElem b]at this;simpa using this
def a6I(z:Mat):Mat:=z.filter fun r=> !b1S r
theorem a6a{n c:Nat}{z:Mat}(hs:Shp n c z):a1R (a6I z)=nzL c (a1R z):=a8L fun r a=>by
 by_cases h:b1S r=false
 ·rw[h];have:=(b4S (hs.2 r a)).2 h;simp[this]
 ·have b:¬nz c (vec r):=fun k=>h ((b4S (hs.2 r a)).1 k)
  simp[b];simpa using h
def b6f(c:Nat)(z:Mat)(cnt:Nat)(us:Mat):Prop:=(cnt=z.length+1/\us= [])\/Wit c (a1R z) cnt (a1R us)
section
variable {n c:Nat} {z:Mat} (hs:Shp n c z) (hz:∀v∈a1R z,nz c v) (hne:z≠[])
include hs hz hne
end
theorem b9l{n c a:Nat}{z us:Mat}(hs:Shp n c z)(h:a3n c (a1R (a6I z)) a)(b:Wit c (a1R (a6I z)) a (a1R us)):a3n c (a1R z) (a+(z.length - (a6I z).length))/\Wit c (a1R z) (a+(z.length - (a6I z).length)) (a1R us):=by
 have e:(a6I z).length=(nzL c (a1R z)).length:=by rw[<-a6a hs];simp[a1R]
 have i:z.length=(a1R z).length:=by simp[a1R]
 rw[e,i];rw[a6a hs]at h b;refine⟨h.nzL,b.head,by rw[b2Z,b.cnt],fun k m=>b.few k (m.iff fun y=>⟨fun f v d=>f v (List.mem_filter.1 d).1,fun f v d=>?_⟩)⟩;by_cases g:nz c v
 ·exact f v (List.mem_filter.2 ⟨d,by simpa using g⟩)
 ·exact a2U fun j l=>Classical.byContradiction fun e=>g ⟨j,l,e⟩
end Go.Lin
namespace Go.Lin
open Go.Lim
theorem a8M(m:Mat)(k:Nat):(eN m k).2.1.length<=(eN m (k+1)).2.1.length:=by
 show _<=(a4P (eN m k) k).2.1.length
 unfold a4P;split
 ·exact Nat.le_refl _
 ·split
  ·exact Nat.le_refl _
  ·simp
theorem a8N(m:Mat){j:Nat}:∀{c:Nat},j<=c->(eN m j).2.1.length<=(eN m c).2.1.length:=by
 intro c
 induction c with
 |zero=>
      intro h;obtain rfl:j=0:=by omega
      exact Nat.le_refl _
 |succ c ih=>
  intro h;rcases Nat.lt_or_ge j (c+1)with h1|h1
  ·exact Nat.le_trans (ih (by omega)) (a8M m c)
  ·obtain rfl:j=c+1:=by omega
   exact Nat.le_refl _
theorem a9L(m:Mat)(c:Nat):(a1C m c).2=(eN m c).2.1:=rfl
theorem a7Z{n c B k:Nat}{m:Mat}(hs:Shp n c m)(h:HB B m)(a:(a1C m c).2.length<=k)(f:7*(35^k*B)<=68719476736):b2M m c:=by
 rw[a9L]at a;have d:∀j,j<=c->(eN m j).2.1.length<=k:=fun j b=>Nat.le_trans (a8N m b) a;refine⟨35^k*B,f,fun j b=>(h.eN hs j).mono (Nat.mul_le_mul_right _ ?_),fun t e=>(((h.eN hs c).dN (a5y hs c).shp (a5y hs c).ech t e)).mono ?_⟩
 ·exact Nat.le_trans (a5m 5 (by omega) (d j b)) (Nat.pow_le_pow_left (by omega) k)
 ·rw[<-Nat.mul_assoc]
  refine Nat.mul_le_mul_right _ ?_;rw[show(35:Nat)=7*5 from rfl,Nat.mul_pow];exact Nat.mul_le_mul (a5m 7 (by omega) (Nat.le_trans e a)) (a5m 5 (by omega) a)
theorem a8a{n c B k:Nat}{m:Mat}(h:HB B m)(hs:Shp n c m)(a:(a1C m c).2.length<=k):HB (35^k*B) (a1C m c).1:=by
 rw[a9L]at a;refine((h.eN hs c).dN (a5y hs c).shp (a5y hs c).ech _ (Nat.le_refl _)).mono ?_;rw[<-Nat.mul_assoc];refine Nat.mul_le_mul_right _ ?_;rw[show(35:Nat)=7*5 from rfl,Nat.mul_pow];exact Nat.mul_le_mul (a5m 7 (by omega) a) (a5m 5 (by omega) a)
theorem a4g{n c:Nat}{m:Mat}(hs:Shp n c m):(a1C m c).2.length<=c:=by
 have hr:=(a2a hs).2.1;have hlt:=hr.lt;have hinc:=hr.inc;generalize (a1C m c).2=p at hlt hinc;have key:∀i (hi:i<p.length),i<=p[i]:=by
  intro i
  induction i with
  |zero=>intro _;exact Nat.zero_le _
  |succ i ih=>intro hi;have:=ih (by omega);have:=hinc i (i+1) (by omega) hi;omega
 rcases Nat.eq_zero_or_pos p.length with h|h
 ·omega
 ·have:=key (p.length - 1) (by omega)
  have:=hlt (p.length - 1) (by omega);omega
theorem a4h{n c:Nat}{m:Mat}(hs:Shp n c m):(a1C m c).2.length<=n:=(a2a hs).2.1.le
theorem b3L{n c B k:Nat}{m:Mat}(h:HB B m)(hs:Shp n c m)(g:(a1C m c).2.length<=k):HB (35^k*B) (a1j m c):=by
 have o:=(a2a hs).2.1;have d:=a8a h hs g;have b:=d.pos;intro i j;unfold ent;by_cases hi:i<(a1j m c).length
 ·rw[show(a1j m c).getD i []=(a1j m c)[i]by simp[List.getD_eq_getElem?_getD,hi]]
  by_cases f:j<c
  ·obtain⟨q,a⟩:∃q,(a1j m c)[i]=(List.range c).map (nv (ent (a1C m c).1) (a1C m c).2 q):=by
    have e:(a1j m c)[i]∈a1j m c:=List.getElem_mem _;unfold a1j a1Y at e;obtain⟨q,_,a⟩:=List.mem_map.1 e;exact⟨q,a.symm⟩
   rw[a];have:(List.map (nv (ent (a1C m c).1) (a1C m c).2 q) (List.range c)).getD j 0=nv (ent (a1C m c).1) (a1C m c).2 q j:=by
    simp[List.getD_eq_getElem?_getD,f]
   rw[this];unfold nv;split
   ·have:hq (1:Rat)<=1:=by decide+kernel
    omega
   ·split
    ·rw[a3j];exact d _ _
    ·rw[a1r];exact b
  ·have l:(a1j m c)[i].length=c:=a4n _ (List.getElem_mem _)
   have:(a1j m c)[i].getD j 0=0:=by rw[List.getD_eq_getElem?_getD,List.getElem?_eq_none (by omega)];rfl
   rw[this,a1r];exact b
 ·have:(a1j m c).getD i []= []:=by rw[List.getD_eq_getElem?_getD,List.getElem?_eq_none (by omega)];rfl
  rw[this];have:([]:List Rat).getD j 0=0:=rfl;rw[this,a1r];exact b
theorem HB.app{B:Nat}{a b:Mat}(c:HB B a)(d:HB B b):HB B (a++b):=by
 intro i j;unfold ent;by_cases hi:i<a.length
 ·rw[show(a++b).getD i []=a.getD i []by simp[List.getD_eq_getElem?_getD,List.getElem?_append_left hi]];exact c i j
 ·rw[show(a++b).getD i []=b.getD (i - a.length) []by simp[List.getD_eq_getElem?_getD,List.getElem?_append_right (Nat.le_of_not_lt hi)]];exact d _ j
open Go.Rep
def a6b{α:Type}(m:List (List α))(lo hi:Nat):Bool:=decide (∀i (h:i<m.length),m[i].length=a0n m/\lo<=m[i].length/\m[i].length<=hi)
theorem a2N{α:Type}{m:List (List α)}{lo hi:Nat}:a6b m lo hi=true↔∀i (h:i<m.length),m[i].length=a0n m/\lo<=m[i].length/\m[i].length<=hi:=by unfold a6b;simp
theorem a8O{α:Type}{m:List (List α)}{lo hi:Nat}(i:Nat)(h:i<m.length)(a:¬(m[i].length=a0n m/\lo<=m[i].length/\m[i].length<=hi)):false=a6b m lo hi:=by
 symm;cases hs:a6b m lo hi
 ·rfl
 ·exact absurd (a2N.1 hs i h) a
end Go.Lin
namespace Go.Proofs.YtnnpfhoigmegcaaGreat
open Go.RowKit Go.Rep Go.Lim Go.Lin
theorem b1T{R:Mem->Value->Rat->Prop}(X:Nat->Bool)(w:World)(u:Value)(m:List (List Rat))(lo hi:Nat)(L:SlV (SlV R 3) 1 (mk X w) u m)(U:m.length<=1099511627776):Calls Tryz.prog 172 #[u, .int .i64 (lo:Int), .int .i64 (hi:Int)] w (fun e w'=>w'=w/\e= .returned (.bool (a6b m lo hi))):=by
 obtain⟨ao,T,rfl,I,f⟩:=L;have J:=f.hd;go_enter Tryz.func172,Tryz.ntmps172
 go_wp2_with fail
 go_loop [11] (fun c=>∃(i:Nat),c= .int .i64 i/\i<=m.length/\Hid (∀q,q<i->∀hq:q<m.length,m[q].length=a0n m/\lo<=m[q].length/\m[q].length<=hi)) (fun c=>m.length - (intOf c).toNat)
 case atStart=>exact⟨0,rfl,Nat.zero_le _,fun q hq=>by omega⟩
 case round=>
  obtain⟨i,rfl,K,p⟩:=hrel;by_cases o:i<m.length
  ·have C:0<m.length:=by omega
   obtain⟨O,Q,G,j,l,t⟩:=f.row i o;obtain⟨P,S,H,k,n,v⟩:=f.row 0 C;have B:=j.out noY w (ExtX.refl _) rfl;have s:=k.out noY w (ExtX.refl _) rfl;have d:=a1x C;have a:=hid (a8O (lo:=lo) (hi:=hi) i o);rw[<-d]at s;obtain⟨x,hx⟩:∃x,m[i].length=x:=⟨_,rfl⟩;obtain⟨y,A⟩:∃y,a0n m=y:=⟨_,rfl⟩;rw[hx]at B a;rw[A]at s a;have z:Hid (x=y/\lo<=x/\x<=hi->∀hq:i<m.length,m[i].length=a0n m/\lo<=m[i].length/\m[i].length<=hi):=hid fun h hq=>by rw[hx,A];exact h
   clear hx A d j k t v l n;by_cases b:x=y
   ·have F:((x:Int) !=(y:Int))=false:=b2N (by omega)
    by_cases M:x<lo
    ·have D:(x:Int)<(lo:Int):=by omega
     have g:=hid (a.out (by omega));clear b;go_wp2_with (with_reducible refine a0m a0q (by omega) (by assumption) ?_)
     go_ret
     exact⟨rfl,a0p g.out⟩
    ·have D:¬(x:Int)<(lo:Int):=by omega
     by_cases N:hi<x
     ·have E:(hi:Int)<(x:Int):=by omega
      have g:=hid (a.out (by omega));clear b;go_wp2_with (with_reducible refine a0m a0q (by omega) (by assumption) ?_)
      go_ret
      exact⟨rfl,a0p g.out⟩
     ·have E:¬(hi:Int)<(x:Int):=by omega
      have r:=hid (z.out ⟨b,by omega,by omega⟩);clear b;go_wp2_with (with_reducible refine a0m a0q (by omega) (by assumption) ?_)
      go_round
      case rel=>exact⟨i+1,by go_num,by omega,a4r p.out r.out⟩
      case measure=>simp[intOf];omega
   ·have F:((x:Int) !=(y:Int))=true:=a7B (by omega)
    have g:=hid (a.out (by omega));clear b;go_wp2_with (with_reducible refine a0m a0q (by omega) (by assumption) ?_)
    go_ret
    exact⟨rfl,a0p g.out⟩
  ·have g:Hid (true=a6b m lo hi):=hid (by
    symm;exact a2N.2 fun q hq=>p.out q (by omega) hq)
   go_wp2_with fail
   go_ret
   exact⟨rfl,a0p g.out⟩
end Go.Proofs.YtnnpfhoigmegcaaGreat
namespace Go.Lin
open Go.Lim Go.Rep
end Go.Lin
namespace Go.Proofs.YtnnpfhoigmegcaaGreat
open Go.RowKit Go.Rep Go.Lim Go.Lin
end Go.Proofs.YtnnpfhoigmegcaaGreat
namespace Go.Lin
open Go.Lim Go.Rep
def a1p(z:Mat)(s:List Int):Mat:=s.map fun i=>z.getD i.toNat []
theorem a2O(z:Mat)(s:List Int):(a1p z s).length=s.length:=by simp[a1p]
theorem a8b{z:Mat}{s:List Int}{j:Nat}(a:j<(a1p z s).length)(hs:j<s.length){i:Nat}(hi:i<z.length)(h:s[j]=(i:Int)):(a1p z s)[j]=z[i]:=by
 simp[a1p,h,List.getD_eq_getElem?_getD,hi]
theorem a8c{z:Mat}{s:List Int}(b:∀x∈s,0<=x/\x<(z.length:Int)):∀r∈a1p z s,r∈z:=fun r a=>by
 unfold a1p at a;obtain⟨x,hx,rfl⟩:=List.mem_map.1 a;have:=b x hx;have c:x.toNat<z.length:=by omega
 rw[show z.getD x.toNat []=z[x.toNat]by simp[List.getD_eq_getElem?_getD,c]];exact List.getElem_mem _
end Go.Lin
namespace Go.Proofs.YtnnpfhoigmegcaaGreat
open Go.RowKit Go.Rep Go.Lim Go.Lin
def b1U(X:Nat->Bool)(w:World)(m:Mat)(e:Ending)(w':World):Prop:=Ext w w'/\∃(ao:Option Addr) (cap:Nat),e= .returned (.slice ao m.length cap)/\OL RV 1 X w.heap.size 26 w' ao cap m
theorem b1V(X:Nat->Bool)(w:World)(u:Value)(z:Mat)(ro:Option Addr)(s:List Int)(rc:Nat)(hX:HX X w)(hu:MV (mk X w) u z)(hs:Sl (a0v .i64) 1 w.cell? ro s)(hb:∀x∈s,0<=x/\x<(z.length:Int))(hl:s.length<=1000):Calls Tryz.prog 92 #[u, .slice ro s.length rc] w (b1U X w (a1p z s)):=by
 rw[<-a3k]at hs;obtain⟨ao,ca,rfl,hca,hsa⟩:=hu;have hha:=hsa.hd;have hhs:=hs.hd;obtain⟨M,hM⟩:∃M,a1p z s=M:=⟨_,rfl⟩;have hMl:M.length=s.length:=by rw[<-hM];exact a2O z s
 have hMi:=hid (show∀j (h1:j<M.length) (h2:j<s.length) (i:Nat) (h3:i<z.length),s[j]=(i:Int)->M[j]=z[i]from fun j h1 h2 i h3 h=>by subst hM;exact a8b h1 h2 h3 h);rw[hM];have hb':=hid hb;obtain⟨n,hn⟩:∃n,z.length=n:=⟨_,rfl⟩;have hn':=hid hn;obtain⟨k,hk⟩:∃k,s.length=k:=⟨_,rfl⟩;have hk':=hid hk;rw[hk]at hhs hl hMl |-;rw[hn]at hha hca |-;have hMl':=hid hMl;have hMl1:M.length<=k:=by omega
 have hMl2:k<=M.length:=by omega
 clear hM hb hn hk hMl;go_enter Tryz.func92,Tryz.ntmps92
 go_wp2_with fail
 go_loopw [5,10] (fun o cc wr=>∃(i:Nat) (oo:Option Addr) (co:Nat),cc= .int .i64 i/\o= .slice oo i co/\i<=k/\OL RV 1 X w.heap.size 26 wr oo co (M.take i)/\Ext w wr) (fun _ cc _=>k - (intOf cc).toNat)
 case atStart=>exact⟨0,none,0,rfl,rfl,Nat.zero_le _,OL.nil _ _ _ _ _ _,ExtX.refl _⟩
 case round=>
  obtain⟨i,oo,co,rfl,rfl,hi,hO,hE⟩:=hrel;have hXr:HX X wr:=hX.ext hE;have hbase:=hE.size;by_cases hlt:i<k
  ·have his:i<s.length:=by rw[hk'.out];exact hlt
   have hiM:i<M.length:=by omega
   have htk:=hid (a2L M i hiM);have hln:=hid (a3P (l:=M) (i:=i) (by omega));have hc:=(hs.mono (a0v.mono _) (a0l hE)).int i his;obtain⟨h1,h2⟩:=hb'.out s[i] (List.getElem_mem _);obtain⟨q,hq⟩:=Int.eq_ofNat_of_zero_le h1;rw[hn'.out]at h2;have hqn:q<n:=by omega
   have hqz:q<z.length:=by rw[hn'.out];exact hqn
   have hMq:=hMi.out i hiM his q hqz hq;rw[hq]at hc;have hsr:Sl RV 1 (mk (un X oo) wr) ao z:=hsa.old RV.mono hE (fun j hj=>hO.ob_lt hj);obtain⟨a1,c1,hX1,hc1,hcl1,hq1⟩:=hsr.row q hqz;have k00:=hc1.out noY wr (ExtX.refl _) rfl;obtain⟨r,hr⟩:∃r,z[q]=r:=⟨_,rfl⟩;rw[hr]at k00 hcl1 hq1 hMq;rw[hMq]at htk;have hRV:RV (mk (un X oo) wr) (.slice a1 r.length c1) r:=⟨a1,c1,rfl,hcl1,hq1⟩;obtain⟨d,hd⟩:∃d,r.length=d:=⟨_,rfl⟩;rw[hd]at k00 hRV;clear hr hc1 hcl1 hq1 hMq hd h1 h2 hq;go_wp2_with (first
    |(with_reducible refine a0m a2b (by omega) (by assumption) ?_)
    |(with_reducible refine a0m a0q (by omega) (by assumption) ?_)
    |(at_builtin;refine a0H (l:=M.take i) a0q rfl RV.elem hbase hXr i hln.out rfl rfl hO (.slice a1 d c1) r rfl hRV (by omega) (by omega) ?_;intro oo2 co2 w7 hO7 hE7 hor))
   have hE8:=hE.own hO (Nat.le_refl _) hE7;rw[htk.out]at hO7;go_roundw
   case rel=>exact⟨i+1,oo2,co2,by go_num,by go_num,by omega,hO7,hE8⟩
   case measure=>simp[intOf];omega
  ·have hil:i=k:=by omega
   subst hil;rw[List.take_of_length_le (by omega)]at hO;go_wp2_with fail
   go_ret
   exact⟨hE,oo,co,by rw[hMl'.out];rfl,hO⟩
end Go.Proofs.YtnnpfhoigmegcaaGreat
namespace Go.Lim
end Go.Lim
namespace Go.Lin
open Go.Lim Go.Rep
def Bd(c:Nat)(z:Mat)(cnt:Nat)(x:Vec):Prop:=∀l,a3n c (onL c x (a1R z)) l->cnt<=a8s c x (a1R z)+l
theorem Bd.le{c a n:Nat}{z:Mat}{x:Vec}(h:Bd c z a x)(d:n<=a):Bd c z n x:=fun l b=>Nat.le_trans d (h l b)
theorem Bd.congr{c a:Nat}{z:Mat}{x y:Vec}(h:Bd c z a x)(e:∀j,j<c->x j=y j):Bd c z a y:=fun l f=>by
 obtain⟨b,d,_⟩:=b0Y e (a1R z);have:=h l (by rw[d];exact f);rwa[b]at this
section
variable {n c:Nat} {z:Mat} (hs:Shp n c z)
include hs
end
theorem b6f.le{c a:Nat}{z us:Mat}(h:b6f c z a us):a<=z.length+1:=by
 rcases h with⟨rfl,_⟩|h
 ·exact Nat.le_refl _
 ·have:a=b0o c (a1R us) (a1R z):=h.cnt.symm
  rw[this];have:=List.countP_le_length (p:=fun v=>a5H c (a1R us) v) (l:=a1R z);unfold b0o;simp[a1R]at this |-;omega
end Go.Lin
namespace Go.Proofs.YtnnpfhoigmegcaaGreat
open Go.RowKit Go.Rep Go.Lim Go.Lin
theorem a9M(X:Nat->Bool)(w:World)(u v:Value)(l m:List Rat)(hX:HX X w)(hu:RV (mk X w) u l)(hv:RV (mk X w) v m)(hn:l.length<=1000000)(q:m.length=l.length)(A:∀k,k<=l.length->hq (a5B l m k)<=68719476736)(B:∀k,k<l.length->hq (l.getD k 0*m.getD k 0)<=68719476736):Calls Tryz.prog 98 #[u,v] w (a1F X w QC (a8G l m)):=by
 obtain⟨ao,ca,rfl,c2,a4⟩:=hu;obtain⟨bo,cb,rfl,c3,a5⟩:=hv;have T:=a4.hd;have U:=a5.hd;obtain⟨W,hW,hE,G,t,hz⟩:=a1a w #[.bool false, .slice none 0 0, .slice none 0 0] #[.bool false, .slice none 0 0, .slice none 0 0] 41 41;have J:HX (a0e X w.heap.size 2) W:=hX.boxes hz;have h0:QC (mk (a0e X w.heap.size 2) W) (.agg #[.bool false, .slice none 0 0, .slice none 0 0]) (a5B l m 0):=QC.zero _;obtain⟨n,p⟩:∃n,l.length=n:=⟨_,rfl⟩;rw[p]at hn q A B c2 T |-;rw[q]at c3 U |-;have a0:=hid p;have a1:=hid q;have L:=hid A;have M:=hid B;have Q:Hid (a5B l m n=a8G l m):=hid (by unfold a8G;rw[p]);clear p q A B;go_enter Tryz.func98,Tryz.ntmps98
 go_wp2_with fail
 obtain⟨b,hb⟩:∃b,w.heap.size=b:=⟨_,rfl⟩;have Z:Hid (∀wr,Ext w wr->Le (mk X w) (mk (a0e X b 2) wr)):=hid fun wr h=>by rw[<-hb];exact a0i h
 have f3:w.heap.size<=b:=by omega
 rw[hb]at G t J h0 |-;clear hW;go_loopw [9] (fun k wr=>∃(i:Nat) (s:Bool) (a:Option Addr) (n' c':Nat) (d:Option Addr) (kk e:Nat),k= .int .i64 i/\i<=n/\Bx wr b #[.bool false, .slice none 0 0, .slice none 0 0] 41/\Bx wr (b+1) #[.bool s, .slice a n' c', .slice d kk e] 41/\QC (mk (a0e X b 2) wr) (.agg #[.bool s, .slice a n' c', .slice d kk e]) (a5B l m i)/\HX (a0e X b 2) wr/\Ext w wr) (fun k _=>n - (intOf k).toNat)
 case atStart=>exact⟨0,_,_,_,_,_,_,_,rfl,Nat.zero_le _,G,t,h0,J,hE⟩
 case round=>
  obtain⟨i,s,a,n',c',d,kk,e,rfl,hi,G,t,hq,c1,o⟩:=hrel;by_cases E:i<n
  ·have V:i<l.length:=by rw[a0.out];exact E
   have Y:i<m.length:=by rw[a1.out];exact E
   have d0:=a4.mono QV.mono (Z.out wr o);have a8:=a5.mono QV.mono (Z.out wr o);obtain⟨g1,o1,s1,p1,n1,q1,d1,k1,e1,R,e8,O,a2⟩:=d0.rat QV.shaped i V;obtain⟨g2,o2,s2,p2,n2,q2,d2,k2,e2,S,e9,P,a3⟩:=a8.rat QV.shaped i Y;have gl:Hid (l.getD i 0=l[i]):=hid (by simp[List.getD_eq_getElem?_getD,V]);have gm:Hid (m.getD i 0=m[i]):=hid (by simp[List.getD_eq_getElem?_getD,Y]);have r:Hid (a5B l m i+l[i]*m[i]=a5B l m (i+1)):=hid (by rw[<-gl.out,<-gm.out];rfl);have N:=hid (L.out i hi);have C:=hid (M.out i E);rw[gl.out,gm.out]at C;obtain⟨x,hx⟩:∃x,l[i]=x:=⟨_,rfl⟩;obtain⟨y,hy⟩:∃y,m[i]=y:=⟨_,rfl⟩;rw[hx,hy]at r C;rw[hx]at a2;rw[hy]at a3;have i1:∀W,(Instr.indexAt 26 (.slice ao n ca) (.int .i64 (i:Int))).run Tryz.prog W= .ok (.pointer (some ⟨g1,o1,none⟩)) W:=by rw[<-R];exact a0j a0J ao n ca .i64 i T (by omega)
   have i2:∀W,(Instr.indexAt 26 (.slice bo n cb) (.int .i64 (i:Int))).run Tryz.prog W= .ok (.pointer (some ⟨g2,o2,none⟩)) W:=by rw[<-S];exact a0j a0J bo n cb .i64 i U (by omega)
   obtain⟨D,hD⟩:∃D,a5B l m i=D:=⟨_,rfl⟩;obtain⟨D2,z⟩:∃D2,a5B l m (i+1)=D2:=⟨_,rfl⟩;rw[hD]at hq r N;rw[z]at r;have H:=hid z;clear hx hy R S hD z;have c:Ext wr wr.drew:=(ExtX.refl wr).drew;have b5:=G.ext0 c;have g:=t.ext0 c;have b2:=g.cell 0 rfl;have b3:=g.cell 1 rfl;have b4:=g.cell 2 rfl;obtain⟨d5,d8,d9⟩:=O.out noY wr.drew c rfl;obtain⟨e0,e3,e4⟩:=P.out noY wr.drew c rfl;have K:=c1.ext c;have d3:QV (mk (a0e X b 2) wr.drew) (.agg #[.bool s1, .slice p1 n1 q1, .slice d1 k1 e1]) x:=mkx QV.mono a2 c;have d4:QV (mk (a0e X b 2) wr.drew) (.agg #[.bool s2, .slice p2 n2 q2, .slice d2 k2 e2]) y:=mkx QV.mono a3 c;have c8:QV (mk (a0e X b 2) wr.drew) (.agg #[.bool s, .slice a n' c', .slice d kk e]) D:=(mkx QC.mono hq c).qv N.out;clear O P;go_wp2_with fail
   go_region_with (first|(go_at_call 151;(with_reducible refine(b8R (a0e X b 2) wr.drew _ _ _ _ K d3 d4).mono ?_);rintro ee w6 ⟨t1,u6,rfl,a9⟩;obtain⟨s6,a6,n6,c6,d6,k6,e6,rfl⟩:=a9.shape;have I:=K.ext t1;have c9:=mkx QV.mono c8 t1;have c5:=a9.qv C.out;have j:=g.ext0 t1;have m0:=j.cell 0 rfl;have m1:=j.cell 1 rfl;have m2:=j.cell 2 rfl)|(go_at_call 182;(with_reducible refine(b6S (a0e X b 2) w6 _ _ _ _ I c9 c5).mono ?_);rintro ee w7 ⟨t7,u7,rfl,F⟩;obtain⟨s7,a7,n7,c7,d7,k7,e7,rfl⟩:=F.shape;rw[r.out]at F;have f:=j.ext0 t7;have g0:=f.cell 0 rfl;have b7:=f.cell 1 rfl;have b8:=f.cell 2 rfl;have f0:=f.frozen 0;have f1:=f.frozen 1;have f2:=f.frozen 2))
   all_goals
    obtain⟨z1,z2⟩:=f.set3 (.bool s7) (.slice a7 n7 c7) (.slice d7 k7 e7);have h8:=QC.mono _ _ _ _ (a0f (lo:=b) (nb:=2) z2 (by omega) (by omega)) F;have b6:=((b5.ext0 t1).ext0 t7).ext z2 (a0c (by omega));have b9:Ext w _:=ExtX.box (o.trans (c.trans (t1.trans t7))) z2 (by omega);have c0:=(I.ext t7).ext z2;rw[<-H.out]at h8;clear b2 b3 b4 d5 d8 d9 e0 e3 e4 m0 m1 m2 g0 b7 b8 f0 f1 f2 i1 i2;go_wp2_with fail
    go_roundw
    case rel=>exact⟨i+1,_,_,_,_,_,_,_,by go_num,by omega,b6,z1,h8,c0,b9⟩
    case measure=>simp[intOf];omega
  ·have c4:i=n:=by omega
   subst c4;rw[Q.out]at hq;have b2:=t.cell 0 rfl;have b3:=t.cell 1 rfl;have b4:=t.cell 2 rfl;go_wp2_with ((with_reducible show wpList _ _ _ (⟨_, .store _ _ _,_,_,_,_⟩::_) _ _);refine a0a a0k rfl rfl G rfl rfl (a1n _ _ _ _ _ _ _) ?_;intro w7 r1 r2)
   have h7:=QC.mono _ _ _ _ a0h (QC.mono _ _ _ _ (a0f r2 (by omega) (by omega)) hq);exact bodyPost_ret (a0d rfl rfl a0k r1 rfl) rfl ⟨ExtX.box o r2 (by omega),_,rfl,h7⟩
end Go.Proofs.YtnnpfhoigmegcaaGreat
namespace Go.Rep
open Go.RowKit Go.Lim
abbrev a8P(X:Nat->Bool)(fb:Nat):Nat->Bool:=un X (some ⟨fb,0,none⟩)
abbrev a6c(X:Nat->Bool)(fb:Nat)(po oo:Option Addr):Nat->Bool:=un (un (a8P X fb) po) oo
structure RS (X:Nat->Bool) (w0:World) (b fb base:Nat) (T1 T2 T3:TypeId) (w:World) (oo:Option Addr) (co:Nat) (po:Option Addr) (pc:Nat) (M:List (List Rat)) (p:List Nat) (f:Rat):Prop where
 rows:OL RC 1 (un (a8P X fb) po) base T1 w oo co M
 piv:OL (a0b .i64) 1 (un (a8P X fb) oo) base T3 w po pc p
 fac:∃s a n c d k e,Bx w fb #[.bool s, .slice a n c, .slice d k e] T2/\QC (mk (a6c X fb po oo) w) (.agg #[.bool s, .slice a n c, .slice d k e]) f
 hx:HX X w
 res:Bx w b #[.bool false, .slice none 0 0, .slice none 0 0] T2
 rb:X b=true
 fb0:fb≠b
 ext:Ext w0 w
 low:w0.heap.size<=base
 lowf:w0.heap.size<=fb
section
variable {X:Nat->Bool} {w0 w w':World} {b fb base:Nat} {T1 T2 T3:TypeId} {oo po:Option Addr} {co pc:Nat} {M M':List (List Rat)} {p:List Nat} {f f':Rat}
theorem RS.oF(h:RS X w0 b fb base T1 T2 T3 w oo co po pc M p f):ob oo fb=false:=by
 cases a:ob oo fb
 ·rfl
 ·have:=h.rows.1 fb a;rw[a0o (a0t (a8E fb))]at this;simp at this
theorem RS.pF(h:RS X w0 b fb base T1 T2 T3 w oo co po pc M p f):ob po fb=false:=by
 cases a:ob po fb
 ·rfl
 ·have:=h.piv.1 fb a;rw[a0o (a0t (a8E fb))]at this;simp at this
theorem RS.oB(h:RS X w0 b fb base T1 T2 T3 w oo co po pc M p f):ob oo b=false:=by
 cases a:ob oo b
 ·rfl
 ·have:=h.rows.1 b a;rw[a0o (a0o h.rb)]at this;simp at this
theorem RS.pB(h:RS X w0 b fb base T1 T2 T3 w oo co po pc M p f):ob po b=false:=by
 cases a:ob po b
 ·rfl
 ·have:=h.piv.1 b a;rw[a0o (a0o h.rb)]at this;simp at this
theorem RS.po_oo(h:RS X w0 b fb base T1 T2 T3 w oo co po pc M p f)(k:Nat)(a:ob po k=true):ob oo k=false:=(a1E (h.piv.1 k a)).2
theorem RS.flt(h:RS X w0 b fb base T1 T2 T3 w oo co po pc M p f):fb<w.heap.size:=by
 obtain⟨_,_,_,_,_,_,_,a,_⟩:=h.fac;exact a.lt
theorem RS.hz(h:RS X w0 b fb base T1 T2 T3 w oo co po pc M p f):HX (a6c X fb po oo) w:=fun k l=>by
 by_cases e:ob oo k=true
 ·exact(h.rows.block e).2
 ·by_cases g:ob po k=true
  ·exact(h.piv.block g).2
  ·by_cases i:X k=true
   ·exact h.hx k i
   ·have a:ob oo k=false:=by simpa using e
    have c:ob po k=false:=by simpa using g
    have d:X k=false:=by simpa using i
    have j:ob (some ⟨fb,0,none⟩) k=true:=by simpa[a6c,a8P,un,a,c,d]using l
    have:fb=k:=by simpa[ob]using j
    rw[<-this];exact h.flt
theorem RS.row(h:RS X w0 b fb base T1 T2 T3 w oo co po pc M p f)(i:Nat)(hi:i<M.length):∃a c,w.cell? (adr oo i)=some (.slice a M[i].length c)/\w.frozen? (adr oo i)=false/\M[i].length<=c/\Sl QC 3 (_root_.Go.Rep.mk (a6c X fb po oo) w) a M[i]:=by
 obtain⟨u,d,e,a,c,rfl,g,j⟩:=h.rows.cell SlV.one i hi;exact⟨a,c,d,e,g,j⟩
theorem RS.ext0(h:RS X w0 b fb base T1 T2 T3 w oo co po pc M p f)(g:Ext w w'):RS X w0 b fb base T1 T2 T3 w' oo co po pc M p f:=by
 obtain⟨s,a,n,c,d,k,e,i,j⟩:=h.fac;exact⟨h.rows.ext0 RC.elem g,h.piv.ext0 (a0b.elem _) g,⟨s,a,n,c,d,k,e,i.ext0 g,mkx QC.mono j g⟩,h.hx.ext g,h.res.ext0 g,h.rb,h.fb0,h.ext.trans g,h.low,h.lowf⟩
theorem RS.setRows(h:RS X w0 b fb base T1 T2 T3 w oo co po pc M p f)(g:ExtX (ob oo) w w')(m:OL RC 1 (un (a8P X fb) po) base T1 w' oo co M'):RS X w0 b fb base T1 T2 T3 w' oo co po pc M' p f:=by
 obtain⟨s,a,n,c,d,k,e,j,l⟩:=h.fac;exact⟨m,h.piv.frame (a0b.pure _) g (fun k i=>h.po_oo k i) h.piv.1,⟨s,a,n,c,d,k,e,j.ext g h.oF,QC.mono _ _ _ _ (a0r g fun k i=>a0t i) l⟩,h.hx.ext g,h.res.ext g h.oB,h.rb,h.fb0,h.ext.own h.rows h.low g,h.low,h.lowf⟩
theorem RS.setFac(h:RS X w0 b fb base T1 T2 T3 w oo co po pc M p f)(i:ExtX (ob (some ⟨fb,0,none⟩)) w w'){s:Bool}{a:Option Addr}{n c:Nat}{d:Option Addr}{k e:Nat}(m:Bx w' fb #[.bool s, .slice a n c, .slice d k e] T2)(hq:QC (_root_.Go.Rep.mk (a6c X fb po oo) w') (.agg #[.bool s, .slice a n c, .slice d k e]) f'):RS X w0 b fb base T1 T2 T3 w' oo co po pc M p f':=by
 have l:∀k,ob (some ⟨fb,0,none⟩) k=true->k=fb:=fun k g=>by
  have:fb=k:=by simpa[ob]using g
  exact this.symm
 refine⟨h.rows.ext RC.elem i (fun k _ g=>a0o (a0t g)) (fun _ _ h=>h),h.piv.frame (a0b.pure _) i (fun k g=>?_) h.piv.1,⟨s,a,n,c,d,k,e,m,hq⟩,h.hx.ext i,h.res.ext i (a0c (Ne.symm h.fb0)),h.rb,h.fb0,h.ext.then_ i fun k g _=>?_,h.low,h.lowf⟩
 ·cases j:ob (some ⟨fb,0,none⟩) k
  ·rfl
  ·have:=l k j;subst this;rw[h.pF]at g;simp at g
 ·cases j:ob (some ⟨fb,0,none⟩) k
  ·rfl
  ·have:=l k j;have:=h.lowf;omega
theorem RS.push(h:RS X w0 b fb base T1 T2 T3 w oo co po pc M p f){i:Option Addr}{q j:Nat}(m:ExtX (ob po) w w')(y:OL (a0b .i64) 1 (un (a8P X fb) oo) base T3 w' i q (p++[j]))(r:i=po\/∃g,i=some ⟨g,0,none⟩/\w.heap.size<=g):RS X w0 b fb base T1 T2 T3 w' oo co i q M (p++[j]) f:=by
 obtain⟨s,a,n,c,d,k,e,v,x⟩:=h.fac;have o:∀k,k<w.heap.size->ob i k=true->ob po k=true:=fun k l t=>by
  rcases r with rfl|⟨g,rfl,z⟩
  ·exact t
  ·have:g=k:=by simpa[ob]using t
   omega
 have hF:∀k,k<w.heap.size->un (a8P X fb) i k=true->un (a8P X fb) po k=true:=fun k l hz=>by
  by_cases hx:a8P X fb k=true
  ·exact a0o hx
  ·exact a0t (o k l (by simpa[un,hx]using hz))
 refine⟨h.rows.ext RC.elem m (fun k _ l=>a0t l) hF,y,⟨s,a,n,c,d,k,e,v.ext m h.pF,QC.mono _ _ _ _ (a0T m (fun k _ l=>a0o (a0t l)) fun k l hz=>?_) x⟩,h.hx.ext m,h.res.ext m h.pB,h.rb,h.fb0,h.ext.own h.piv h.low m,h.low,h.lowf⟩;by_cases u:ob oo k=true
 ·exact a0t u
 ·exact a0o (hF k l (by simpa[un,u]using hz))
end
end Go.Rep
namespace Go.Lin
open Go.Lim
def a7v(m:Mat)(c:Nat):Prop:=∃B,6*B<=68719476736/\∀j,j<=c->HB B (rN m j).1/\hq (rN m j).2.2<=B
theorem b1W(m:Mat)(k:Nat):rN m (k+1)=a5F (rN m k) k:=rfl
theorem a3K{m:Mat}{i:Nat}(h:i<m.length):m.getD i []=m[i]:=by simp[List.getD_eq_getElem?_getD,h]
theorem a8Q{m:Mat}{i:Nat}(h:i<m.length)(j:Nat):ent m i j=(m[i]).getD j 0:=by unfold ent;rw[a3K h]
theorem b6g{m:Mat}{n t col:Nat}(b:m.length=n)(h:∀q,t<=q->q<n->ent m q col=0):b0P m t col=none:=by
 unfold b0P;rw[List.findIdx?_eq_none_iff];intro r a;obtain⟨i,hi,rfl⟩:=List.getElem_of_mem a;rw[List.length_drop]at hi;have:=h (t+i) (by omega) (by omega);rw[a8Q (by omega)]at this;simpa using this
theorem b6h{m:Mat}{n t col a:Nat}(d:m.length=n)(h:∀q,t<=q->q<t+a->ent m q col=0)(b:t+a<n)(hne:ent m (t+a) col≠0):b0P m t col=some a:=by
 unfold b0P;rw[List.findIdx?_eq_some_iff_getElem];refine⟨by rw[List.length_drop];omega,?_,fun j c=>?_⟩
 ·rw[List.getElem_drop,<-a8Q (by omega)];simpa using hne
 ·rw[List.getElem_drop,<-a8Q (by omega)];simpa using h (t+j) (by omega) (by omega)
theorem b3M(m:Mat)(t col:Nat):out m t col 0=m:=by
 unfold out rows;refine List.ext_getElem (by simp) fun q a b=>?_;rw[List.getElem_mapIdx,if_neg (by omega)]
theorem a4i(m:Mat)(t col s:Nat):(out m t col s).length=m.length:=by simp[out,rows]
theorem a5a{m:Mat}{t col s i:Nat}(h:i<(out m t col s).length)(a:i<m.length):(out m t col s)[i]=if i≠t/\i<s then List.zipWith (· + ·) m[i] ((m.getD t []).map (· * - m[i].getD col 0))else m[i]:=by
 show(m.mapIdx _)[i]'(by simpa using a)=_
 rw[List.getElem_mapIdx]
theorem b6i{m:Mat}{t col s:Nat}(h:s<m.length)(c:s≠t):(out m t col s).set s (List.zipWith (· + ·) m[s] ((m.getD t []).map (· * - m[s].getD col 0)))=out m t col (s+1):=by
 refine List.ext_getElem (by simp[a4i]) fun q d b=>?_;have hq:q<m.length:=by rw[a4i]at b;exact b
 rw[List.getElem_set,a5a b hq];split
 ·subst_vars;rw[if_pos ⟨c,by omega⟩]
 ·rw[a5a (by simpa[a4i]using hq) hq]
  by_cases a:q≠t/\q<s
  ·rw[if_pos a,if_pos ⟨a.1,by omega⟩]
  ·rw[if_neg a,if_neg (by omega)]
theorem b3N{m:Mat}{t col:Nat}:out m t col t=out m t col (t+1):=by
 refine List.ext_getElem (by simp[a4i]) fun q c b=>?_;have hq:q<m.length:=by rw[a4i]at b;exact b
 rw[a5a c hq,a5a b hq];by_cases a:q≠t/\q<t
 ·rw[if_pos a,if_pos ⟨a.1,by omega⟩]
 ·rw[if_neg a,if_neg (by omega)]
theorem b1X{m:Mat}{i k:Nat}(hi:i<m.length)(a:k<m.length):(m.set i m[k]).set k m[i]=a0S m i k:=by
 unfold a0S;rw[a3K hi,a3K a]
theorem b7w{n c:Nat}{m M:Mat}{P:List Nat}{f:Rat}{j b a:Nat}(hs:Shp n c m)(d:rN m j=(M,P,f))(e:P.length=b)(hz:∀q,b<=q->q<b+a->ent M q j=0)(h:b+a<n)(hne:ent M (b+a) j≠0):rN m (j+1)=(out (pv (a0S M (b+a) b) b j) b j n,P++[j],(if a=0 then f else - f)*ent (a0S M (b+a) b) b j):=by
 have g:Shp n c M:=by have:=(a8p hs j).shp;rw[d]at this;exact this
 subst e;rw[b1W,d];unfold a5F
 dsimp only
 rw[b6h g.1 hz h hne]
 dsimp only
 rw[g.1]
theorem b6j{n c:Nat}{m M:Mat}{P:List Nat}{f:Rat}{j d:Nat}(hs:Shp n c m)(a:rN m j=(M,P,f))(b:P.length=d)(hz:∀q,d<=q->q<n->ent M q j=0):rN m (j+1)=(M,P,f):=by
 have e:Shp n c M:=by have:=(a8p hs j).shp;rw[a]at this;exact this
 subst b;rw[b1W,a];unfold a5F
 dsimp only
 rw[b6g e.1 hz]
end Go.Lin
namespace Go.Rep
open Go.RowKit
theorem b1Y{X:Nat->Bool}{b k:Nat}(h:X b=true)(a:ob (some ⟨b,0,none⟩) k=true):X k=true:=by
 have:b=k:=by simpa[ob]using a
 subst this;exact h
section
variable {P:Program} {w:World}
theorem a8R{fn:Func}{a:Array Value}{c d e:Tmp}{t:TypeId}{n b:Nat}{f:Array Value}{T:TypeId}(h:fn.results=#[.tmp d, .tmp e, .cell c t])(i:a.getD c undef= .pointer (some ⟨b,0,none⟩))(j:a2e P t n)(k:Bx w b f T)(g:f.size=n):(results fn a).run P w= .ok (.tuple #[a.getD d undef,a.getD e undef, .agg f]) w:=by
 have l:=a2o (P:=P) j k g;rw[Array.getD_eq_getD_getElem?]at i;simp[results,h,i,asAddr,l]
end
end Go.Rep
namespace Go.Lin
open Go.Lim Go.Rep
theorem b1Z{p:List Nat}{c:Nat}(g:∀i (hi:i<p.length),p[i]<c)(l:∀i k (n:i<k) (f:k<p.length),p[i]<p[k]):p.length<=c:=by
 have e:p.Pairwise (· < ·):=List.pairwise_iff_getElem.2 fun i j hi b a=>l i j a b;have d:p.Nodup:=e.imp fun h=>Nat.ne_of_lt h;have m:p.length<=(List.range c).length:=d.length_le_of_subset fun j b=>by
  obtain⟨k,f,rfl⟩:=List.getElem_of_mem b;exact List.mem_range.2 (g k f)
 rwa[List.length_range]at m
theorem a5b{n c B:Nat}{m:Mat}(hs:Shp n c m)(h:HB B m)(s:c<=4)(p:B<=6541):b2M m c/\a7v m c:=by
 have a:∀j,j<=c->(eN m j).2.1.length<=4:=fun j b=>Nat.le_trans (b1Z (a5y hs j).ech.lt (a5y hs j).ech.inc) (by omega);have e:∀j,j<=c->(rN m j).2.1.length<=4:=fun j b=>Nat.le_trans (b1Z (a8p hs j).ref.lt (a8p hs j).ref.inc) (by omega);have i:∀k,k<=4->5^k<=625:=fun k d=>Nat.le_trans (a5m 5 (by omega) d) (by decide);have r:∀k,k<=4->7^k<=2401:=fun k d=>Nat.le_trans (a5m 7 (by omega) d) (by decide);have q:∀k,k<=4->6^k<=1296:=fun k d=>Nat.le_trans (a5m 6 (by omega) d) (by decide);refine⟨⟨1500625*B,by omega,fun j b=>(h.eN hs j).mono (Nat.mul_le_mul_right _ (Nat.le_trans (i _ (a j b)) (by decide))),fun t g=>(((h.eN hs c).dN (a5y hs c).shp (a5y hs c).ech t g)).mono ?_⟩,⟨1296*B,by omega,fun j b=>?_⟩⟩
 ·rw[<-Nat.mul_assoc]
  refine Nat.mul_le_mul_right _ ?_;exact Nat.mul_le_mul (r t (Nat.le_trans g (a c (Nat.le_refl _)))) (i _ (a c (Nat.le_refl _)))
 ·obtain⟨l,o⟩:=h.rN hs j
  have f:=Nat.mul_le_mul_right B (q _ (e j b));exact⟨l.mono f,Nat.le_trans o f⟩
theorem b7x{n B:Nat}{f:Nat->Rat}(h:∀i,i<n->hq (f i)<=B):hq (sm n f)<=1+n*(B+1):=by
 induction n with
 |zero=>unfold sm;rw[a1r];omega
 |succ n ih=>
  unfold sm;have h1:=ih fun i hi=>h i (by omega);have h2:=b1g (sm n f) (f n);have h3:=h n (by omega);have e:(n+1)*(B+1)=n*(B+1)+(B+1):=Nat.succ_mul _ _;omega
theorem a8S{B:Nat}{z:Mat}{s:List Int}(a:HB B z)(b:∀x∈s,0<=x/\x<(z.length:Int)):HB B (a1p z s):=fun i j=>by
 unfold ent;by_cases hi:i<(a1p z s).length
 ·have d:=a8c b _ (List.getElem_mem hi)
  obtain⟨q,hq,c⟩:=List.getElem_of_mem d;rw[show(a1p z s).getD i []=(a1p z s)[i]by simp[List.getD_eq_getElem?_getD,hi],<-c];have:=a q j;unfold ent at this;rwa[show z.getD q []=z[q]by simp[List.getD_eq_getElem?_getD,hq]]at this
 ·rw[show(a1p z s).getD i []= []by rw[List.getD_eq_getElem?_getD,List.getElem?_eq_none (by omega)];rfl]
  have:([]:List Rat).getD j 0=0:=rfl;rw[this,a1r];exact a.pos
theorem a6d{n c:Nat}{z:Mat}(hs:Shp n c z){s:List Int}(a:∀x∈s,0<=x/\x<(z.length:Int)):Shp s.length c (a1p z s):=⟨a2O z s,fun r b=>hs.2 r (a8c a r b)⟩
theorem a9N{n c B:Nat}{x:Mat}{s:List Int}(hs:Shp n c x)(g:HB B x)(b:B<=1000)(h:c<=4)(f:∀i∈s,0<=i/\i<(x.length:Int))(j:s.length+1=c):b2M (a1p x s) c/\HB (42875*B) (a1j (a1p x s) c):=by
 have d:=a6d hs f;have k:=a4h d;have a:(a1C (a1p x s) c).2.length<=3:=by omega
 refine⟨a7Z d (a8S g f) a ?_,(b3L (a8S g f) d a).mono (by simp)⟩;have e:7*(35^3*1000)=300125000:=by decide
 have:=Nat.mul_le_mul_left (35^3) b;omega
theorem b2a{n c B:Nat}{x:Mat}(hs:Shp n c x)(b:HB B x)(a:B<=1000)(d:c<=4):b2M x c:=by
 have f:=a4g hs;refine a7Z hs b (k:=4) (by omega) ?_;have e:7*(35^4*1000)=10504375000:=by decide
 have:=Nat.mul_le_mul_left (35^4) a;omega
theorem a2B{n c B:Nat}{x:Mat}(hs:Shp n c x)(w:x.length=n)(v:1<=c)(f:c<=4)(l:HB B x)(b:B<=1000){d:List Rat}(h:d∈a0R x c):d.length=c/\BR (42875*B) d:=by
 unfold a0R at h;have u:=l.pos;split at h
 ·rename_i e
  subst e;obtain rfl:d= [1]:=by simpa using h
  refine⟨rfl,fun q g=>?_⟩;obtain rfl:=List.mem_singleton.1 g;have:hq (1:Rat)<=1:=by decide+kernel
  omega
 ·obtain⟨s,j,a⟩:=List.mem_filterMap.1 h
  obtain⟨t,o,_⟩:=a1M _ _ _ _ j;have p:∀i∈s,0<=i/\i<(x.length:Int):=fun i hi=>by have:=o i hi;omega
  unfold a4c at a;split at a
  ·rename_i k r
   obtain rfl:k=d:=by simpa using a
   have m:k∈a1j (a1p x s) c:=by rw[show a1p x s=s.map fun i=>x.getD i.toNat []from rfl,r];simp
   refine⟨a4n _ m,?_⟩;exact b1G (a9N hs l b f p (by omega)).2 _ m
  ·cases a
theorem a4j{c:Nat}{d r:List Rat}(h:r.length=c):a8G r d=dot c (vec d) (vec r):=by
 rw[a1m];unfold a8G dot;rw[b1y,h];rfl
theorem a6e{c B C:Nat}{d r:List Rat}(u:r.length=c)(s:c<=4)(b:BR B r)(e:BR C d)(p:C<=50000000)(o:B<=1000):(∀k,k<=r.length->hq (a5B r d k)<=200004013)/\(∀k,k<r.length->hq (r.getD k 0*d.getD k 0)<=50001002):=by
 have g:∀{l:List Rat} {B},BR B l->∀q,hq (l.getD q 0)<=B+1:=fun{l} {B} j q=>by
  rw[List.getD_eq_getElem?_getD];by_cases h:q<l.length
  ·rw[List.getElem?_eq_getElem h,Option.getD_some];exact Nat.le_succ_of_le (j _ (List.getElem_mem _))
  ·rw[List.getElem?_eq_none (by omega),Option.getD_none,a1r];omega
 have a:∀k,hq (r.getD k 0*d.getD k 0)<=B+1+(C+1):=fun k=>by
  have:=hq_mul (r.getD k 0) (d.getD k 0);have:=g b k;have:=g e k;omega
 refine⟨fun k t=>?_,fun k _=>by have:=a k;omega⟩;rw[b1y];have:=b7x (n:=k) (B:=50001002) (f:=fun q=>r.getD q 0*d.getD q 0) fun i _=>by have:=a i;omega
 have m:k*(50001002+1)<=4*50001003:=Nat.mul_le_mul (by omega) (by omega);omega
end Go.Lin
namespace Go
section
variable {P:Program} {ops:Array Oper} {Q:Exit->Act->World->Prop} {md:Region.Mode} {S:World->Prop} {n:Nat}
def a1q(P:Program)(md:Region.Mode)(ops:Array Oper)(Q:Exit->Act->World->Prop)(S:World->Prop)(n:Nat):Nat->Array Bool->Act->World->Prop
 |0,listed,a,w=>Region.ready md ops listed= []/\Q .normal a w
 |fuel+1,listed,a,w=>
  (Region.ready md ops listed= []->Q .normal a w)/\
  ∀i∈Region.ready md ops listed,wpOp P ops Q i (fun a' w'=>(i<n->S w')/\a1q P md ops Q S n fuel (listed.setIfInBounds i true) a' w') a w
theorem a6J:∀(fuel:Nat) (listed:Array Bool) (a:Act) (w:World),a1q P md ops Q S n fuel listed a w->wpAny P md ops Q fuel listed a w
 |0,_,_,_,h=>h
 |fuel+1,_,_,_,h=>⟨h.1,fun i hi=>wpOp_mono (fun a' w' h'=>a6J fuel _ a' w' h'.2) (h.2 i hi)⟩
theorem a5u{i:Nat}{oi:Oper}{v:Value}(hs:Region.sinkB md ops n=true)(hc:Region.chainB md ops n=true)(hn:n<ops.size)(hin:i<n)(hi:ops[i]? =some oi)(hsel:∀(j:Nat) (o:Oper) cs b,ops[j]? =some o->o.op≠ .select cs b)(hQ:∀c a w,Q (.panic c) (a.put oi.dst v) w->Q (.panic c) a w):∀(fuel:Nat) (listed:Array Bool) (a:Act) (w:World),HeadInv md ops n listed-> (∀j oj,ops[j]? =some oj->j≠i->listed.getD j true=false->(∀e∈oj.after,Region.binds md e=true->e.on≠i)->oi.apart ops oj=true)-> i∈Region.ready md ops listed->YieldsIf P ops S oi v a->S w-> a1q P md ops Q S n fuel (listed.setIfInBounds i true) (a.put oi.dst v) w->a1q P md ops Q S n (fuel+1) listed a w:=by
 intro fuel
 induction fuel with
 |zero=>
  intro listed a w _ _ hr hy hS H;refine⟨fun h=>(by rw[h]at hr;cases hr),fun j hj=>?_⟩;by_cases hji:j=i
  ·subst hji;exact hy.wpOp hi hS ⟨fun _=>hS,H⟩
  ·have:=ready_mono hj hji
   rw[H.1]at this;cases this
 |succ fuel ih=>
  intro listed a w inv hfree hr hy hS H;refine⟨fun h=>(by rw[h]at hr;cases hr),fun j hj=>?_⟩;by_cases hji:j=i
  ·subst hji;exact hy.wpOp hi hS ⟨fun _=>hS,H⟩
  ·have hjn:j<n:=by
    rcases Nat.lt_or_ge j n with h|h
    ·exact h
    ·exact absurd hj (tail_waits hs hc hn inv (n - i) i rfl hin (mem_ready.1 hr).1 j h)
   have h1:=H.2 j (ready_mono hj hji);obtain⟨hjun,oj,hoj,hall⟩:=mem_ready.1 hj;have hnot:∀e∈oj.after,Region.binds md e=true->e.on≠i:=fun e he hb heq=>by
    have h1:=hall e he hb;have h0:=(mem_ready.1 hr).1;rw[heq]at h1;rcases Nat.lt_or_ge i listed.size with h'|h'
    ·simp[h']at h0 h1;rw[h0]at h1;cases h1
    ·simp[Array.getElem?_eq_none h']at h1
   have h2:=wpOp_putIf hoj (hfree j oj hoj hji hjun hnot) (fun cs b=>hsel i oi cs b hi) (fun cs b=>hsel j oj cs b hoj) hQ hy h1;have hfree':∀k ok,ops[k]? =some ok->k≠i->(listed.setIfInBounds j true).getD k true=false->
     (∀e∈ok.after,Region.binds md e=true->e.on≠i)->oi.apart ops ok=true:=fun k ok hk hki hun hno=>by
    refine hfree k ok hk hki ?_ hno;by_cases hjk:j=k
    ·subst hjk;exact hjun
    ·rw[getD_set_ne true hjk]at hun;exact hun
   refine wpOp_mono (fun a' w' h3=>⟨h3.2.1,ih (listed.setIfInBounds j true) a' w' (inv.set hj hjn) hfree' (ready_mono hr (Ne.symm hji)) h3.1 (h3.2.1 hjn) ?_⟩) h2;rw[Array.setIfInBounds_comm _ _ hji];exact h3.2.2
def b6k(md:Region.Mode)(ops:Array Oper)(n:Nat)(listed:Array Bool):Bool:=
 decide (listed.size=ops.size)&&
 ((List.range ops.size).all fun j=> !listed.getD j false||(match ops[j]? with|some o=>o.after.all fun e=> !Region.binds md e||listed.getD e.on false|none=>true))&&
 ((List.range ops.size).all fun t=>decide (t<n)|| !listed.getD t true)
theorem a8d{a:Array Bool}(h:b6k md ops n a=true):HeadInv md ops n a:=by
 unfold b6k at h;simp only[Bool.and_eq_true,decide_eq_true_eq]at h;obtain⟨⟨i,k⟩,l⟩:=h;refine⟨i,fun j r g p e o m=>?_,fun t q d=>?_⟩
 ·have c:j<ops.size:=(Array.getElem?_eq_some_iff.1 g).1
  have b:=List.all_eq_true.1 k j (List.mem_range.2 c);rw[p,g]at b;simp only[Bool.not_true,Bool.false_or]at b;have f:=Array.all_eq_true_iff_forall_mem.1 b e o;rw[m]at f;simpa using f
 ·have b:=List.all_eq_true.1 l t (List.mem_range.2 d)
  simp only[Bool.or_eq_true,decide_eq_true_eq,Bool.not_eq_true']at b;rcases b with b|b
  ·omega
  ·exact b
def b0z(md:Region.Mode)(ops:Array Oper)(n i:Nat)(listed:Array Bool):Bool:=
 decide (i<n)&&b6k md ops n listed&&Region.free md ops listed i&&(Region.ready md ops listed).contains i
def a8e(md:Region.Mode)(ops:Array Oper)(n:Nat):Bool:=Region.sinkB md ops n&&Region.chainB md ops n&&decide (n<ops.size)&&Region.noSelect ops
theorem a8T{i:Nat}{f:Oper}{v:Value}{d:Nat}{b:Array Bool}{a:Act}{w:World}(e:Shut (a8e md ops n=true))(hi:ops[i]? =some f)(g:b0z md ops n i b=true)(s:∀c a w,Q (.panic c) (a.put f.dst v) w->Q (.panic c) a w)(t:S w)(u:Region.wanted f (yielded ops a.tmps)=true)(x:∀w,S w->(execOp a.eval f).run P w= .ok (.value v) w)(h:a1q P md ops Q S n d (b.setIfInBounds i true) (a.put f.dst v) w):a1q P md ops Q S n (d+1) b a w:=by
 unfold b0z at g;simp only[Bool.and_eq_true,decide_eq_true_eq]at g;obtain⟨⟨⟨m,o⟩,q⟩,r⟩:=g;have e:=e.out;unfold a8e at e;simp only[Bool.and_eq_true,decide_eq_true_eq]at e;obtain⟨⟨⟨j,k⟩,l⟩,p⟩:=e;exact a5u j k l m hi (Region.noSelect_spec p) s d b a w (a8d o) (Region.free_spec hi q) (by simpa using r) (.inl ⟨u,x⟩) t h
theorem a8U{i:Nat}{o:Oper}{c:Nat}{b:Array Bool}{a:Act}{w:World}(k:Region.ready md ops b= [i])(p:ops[i]? =some o)(h:∀d:Act->World->Prop,Shut (∀a w,S w->(S w->a1q P md ops Q S n c (b.setIfInBounds i true) a w)->d a w)->if Region.wanted o (yielded ops a.tmps)=true then Oper.wp P o a w d Q else d (a.put o.dst undef) w):a1q P md ops Q S n (c+1) b a w:=by
 refine⟨fun e=>(by rw[k]at e;cases e),fun j g=>?_⟩;rw[k]at g;have:j=i:=by simpa using g
 subst this;exact wpOp_step p (fun d l=>h d (fun a w f m=>l a w ⟨fun _=>f,m f⟩))
theorem a8V{i:Nat}{o:Oper}{fuel:Nat}{listed:Array Bool}{a:Act}{w:World}(hr:Region.ready md ops listed= [i])(ho:ops[i]? =some o)(hin:n<=i)(hd:Region.ready md ops (listed.setIfInBounds i true)= [])(h:∀K':Act->World->Prop,Shut (∀a w,Q .normal a w->K' a w)->if Region.wanted o (yielded ops a.tmps)=true then Oper.wp P o a w K' Q else K' (a.put o.dst undef) w):a1q P md ops Q S n (fuel+1) listed a w:=by
 refine⟨fun h0=>(by rw[hr]at h0;cases h0),fun j hj=>?_⟩;rw[hr]at hj;have:j=i:=by simpa using hj
 subst this;refine wpOp_step ho (fun K' hK=>h K' (fun a w hq=>hK a w ⟨fun hlt=>absurd hlt (Nat.not_lt.2 hin),?_⟩));cases fuel with
 |zero=>exact⟨hd,hq⟩
 |succ f=>exact⟨fun _=>hq,by rw[hd];simp⟩
theorem ks(i:Nat){d:Option Tmp}{f:Op}{ty:TypeId}{ps:String}{af:Array Edge}{g:Option (Nat×Bool)}{c:Nat}{b:Array Bool}{a:Act}{w:World}(h:∀e:Act->World->Prop,Shut (∀a w,S w->(S w->a1q P md ops Q S n c (b.setIfInBounds i true) a w)->e a w)->if Region.wanted ⟨d,f,ty,ps,af,g⟩ (yielded ops a.tmps)=true then Oper.wp P ⟨d,f,ty,ps,af,g⟩ a w e Q else e (a.put d undef) w)(j:ops[i]? =some ⟨d,f,ty,ps,af,g⟩:=by rfl)(k:Region.ready md ops b= [i]:=by kernel_rfl):a1q P md ops Q S n (c+1) b a w:=a8U k j h
theorem kl(i:Nat){d:Option Tmp}{j:Op}{ty:TypeId}{ps:String}{af:Array Edge}{g:Option (Nat×Bool)}{c:Nat}{b:Array Bool}{a:Act}{w:World}(h:∀e:Act->World->Prop,Shut (∀a w,Q .normal a w->e a w)->if Region.wanted ⟨d,j,ty,ps,af,g⟩ (yielded ops a.tmps)=true then Oper.wp P ⟨d,j,ty,ps,af,g⟩ a w e Q else e (a.put d undef) w)(k:ops[i]? =some ⟨d,j,ty,ps,af,g⟩:=by rfl)(l:Region.ready md ops b= [i]:=by kernel_rfl)(f:n<=i:=by decide)(hd:Region.ready md ops (b.setIfInBounds i true)= []:=by kernel_rfl):a1q P md ops Q S n (c+1) b a w:=a8V l k f hd h
theorem kcn{K:Act->World->Prop}{c:Nat}{b e:Array Bool}{a d:Act}{w:World}(g:Shut (∀a w,S w->(S w->a1q P md ops Q S n c b a w)->K a w))(i:S w)(h:S w->a1q P md ops Q S n c e d w)(k:b=e:=by first|(simp only[List.setIfInBounds_toArray,List.set_cons_zero,List.set_cons_succ];rfl)|rfl)(j:a=d:=by first|(simp only[Act.put,List.setIfInBounds_toArray,List.set_cons_zero,List.set_cons_succ];rfl)|rfl):K a w:=
 g.out _ _ i fun f=>by rw[k,j];exact h f
theorem a0K{id:Nat}{a:Act}{w:World}(n:Nat)(S:World->Prop)(d:P.follows .mixedOrders=true)(b:a8e .any ops n=true)(c:S w.drew)(h:S w.drew->Shut (a8e .any ops n=true)->a1q P .any ops Q S n ops.size (Array.replicate ops.size false) a w.drew):(Code.region id ops true).wp P Q a w:=
 wp_region_any d (a6J _ _ _ _ (h c b))
end
end Go
namespace Go
section
variable {P:Program} {ops:Array Oper} {Q:Exit->Act->World->Prop} {md:Region.Mode} {S:World->Prop} {n:Nat}
theorem a8W{i:Nat}{f:Oper}{d:Nat}{b:Array Bool}{a:Act}{w:World}(e:Shut (a8e md ops n=true))(hi:ops[i]? =some f)(g:b0z md ops n i b=true)(s:∀c a w,Q (.panic c) (a.put f.dst undef) w->Q (.panic c) a w)(t:S w)(u:Region.wanted f (yielded ops a.tmps)=false)(h:a1q P md ops Q S n d (b.setIfInBounds i true) (a.put f.dst undef) w):a1q P md ops Q S n (d+1) b a w:=by
 unfold b0z at g;simp only[Bool.and_eq_true,decide_eq_true_eq]at g;obtain⟨⟨⟨m,o⟩,q⟩,r⟩:=g;have e:=e.out;unfold a8e at e;simp only[Bool.and_eq_true,decide_eq_true_eq]at e;obtain⟨⟨⟨j,k⟩,l⟩,p⟩:=e;exact a5u j k l m hi (Region.noSelect_spec p) s d b a w (a8d o) (Region.free_spec hi q) (by simpa using r) (.inr ⟨u,rfl⟩) t h
end
end Go
namespace Go
section
variable {P:Program} {ops:Array Oper} {Q:Exit->Act->World->Prop} {md:Region.Mode} {S:World->Prop} {n:Nat}
theorem kt(i:Nat){d:Option Tmp}{j:Op}{ty:TypeId}{ps:String}{af:Array Edge}{g:Option (Nat×Bool)}{v:Value}{e:Nat}{b l:Array Bool}{a k:Act}{w:World}(o:Shut (a8e md ops n=true))(h:a1q P md ops Q S n e l k w)(hi:ops[i]? =some ⟨d,j,ty,ps,af,g⟩:=by rfl)(m:b0z md ops n i b=true:=by kernel_rfl)(q:S w:=by assumption)(t:Region.wanted ⟨d,j,ty,ps,af,g⟩ (yielded ops a.tmps)=true:=by rfl)(u:∀w,S w->(execOp a.eval ⟨d,j,ty,ps,af,g⟩).run P w= .ok (.value v) w:=by
   intro w f
   (try dsimp only at f)
   go_simp
   all_goals with_reducible rfl)
  (p:∀c a w,Q (.panic c) (a.put d v) w->Q (.panic c) a w:=by exact fun _ _ _ h=>h)
  (s:b.setIfInBounds i true=l:=by first|(simp only[List.setIfInBounds_toArray,List.set_cons_zero,List.set_cons_succ];rfl)|rfl)
  (r:a.put d v=k:=by simp only[Act.put,List.setIfInBounds_toArray,List.set_cons_zero,List.set_cons_succ];rfl):a1q P md ops Q S n (e+1) b a w:=
 a8T o hi m p q t u (by rw[s,r];exact h)
theorem ku(i:Nat){d:Option Tmp}{k:Op}{ty:TypeId}{ps:String}{af:Array Edge}{g:Option (Nat×Bool)}{e:Nat}{b j:Array Bool}{a f:Act}{w:World}(m:Shut (a8e md ops n=true))(h:a1q P md ops Q S n e j f w)(hi:ops[i]? =some ⟨d,k,ty,ps,af,g⟩:=by rfl)(l:b0z md ops n i b=true:=by kernel_rfl)(p:S w:=by assumption)(s:Region.wanted ⟨d,k,ty,ps,af,g⟩ (yielded ops a.tmps)=false:=by rfl)(o:∀c a w,Q (.panic c) (a.put d undef) w->Q (.panic c) a w:=by exact fun _ _ _ h=>h)(r:b.setIfInBounds i true=j:=by first|(simp only[List.setIfInBounds_toArray,List.set_cons_zero,List.set_cons_succ];rfl)|rfl)(q:a.put d undef=f:=by simp only[Act.put,List.setIfInBounds_toArray,List.set_cons_zero,List.set_cons_succ];rfl):a1q P md ops Q S n (e+1) b a w:=
 a8W m hi l o p s (by rw[r,q];exact h)
end
end Go
namespace Go.Lin
def a3m(k t:Int):Bool:=decide (1<=k)&&decide (k<=5)&&decide (0<=t)&&(decide (k=5)||decide (t=0))
def a7w(k t n:Int):Bool:=decide (1<=n)&&(decide (k≠5)||decide (t<=(n - 1)/2))
theorem b0A{k t:Int}:a3m k t=true↔a9J k t:=by
 unfold a3m a9J;simp only[Bool.and_eq_true,Bool.or_eq_true,decide_eq_true_eq,and_assoc]
theorem b2b{k t:Int}{n:Nat}:a7w k t n=true↔b3G k t n:=by
 unfold a7w b3G;simp only[Bool.and_eq_true,Bool.or_eq_true,decide_eq_true_eq];constructor
 ·rintro ⟨b,a⟩;exact⟨by omega,a.imp id fun h=>by omega⟩
 ·rintro ⟨b,a⟩;exact⟨by omega,a.imp id fun h=>by omega⟩
end Go.Lin
namespace Go.Proofs.YtnnpfhoigmegcaaGreat
open Go.RowKit Go.Rep Go.Lim Go.Lin
theorem b8x(w:World)(k t n:Int)(p: -9223372036854775808<=n)(q:n<=9223372036854775807):Calls Tryz.prog 100 #[.agg #[.int .i64 k, .int .i64 t], .int .i64 n] w (fun e w'=>Ext w w'/\e= .returned (.tuple #[.bool (a3m k t), .bool (a7w k t n)])):=by
 obtain⟨W,y,h,i,hz⟩:=a0Q w #[.int .i64 k, .int .i64 t] 53;obtain⟨b,o⟩:∃b,w.heap.size=b:=⟨_,rfl⟩;rw[o]at i hz;have z:W.cell? ⟨b,0,none⟩=some (.int .i64 k):=i.cell 0 rfl;have A:W.cell? ⟨b,1,none⟩=some (.int .i64 t):=i.cell 1 rfl;go_enter Tryz.func100,Tryz.ntmps100
 go_upto_region 1 with fail
 (try simp only[Act.put])
 go_cut [4]from 6 to 28 (fun v r=>v= .bool (a3m k t)/\r=W)
 case first=>
  by_cases f:1<=k
  ·by_cases g:k<=5
   ·by_cases j:0<=t
    ·by_cases x:k=5
     ·go_wp2_with fail
      go_meet
      case rel=>exact⟨congrArg Value.bool (by rw[Bool.eq_iff_iff];simp[a3m];try omega),rfl⟩
     ·go_wp2_with fail
      go_meet
      case rel=>exact⟨congrArg Value.bool (by rw[Bool.eq_iff_iff];simp[a3m];try omega),rfl⟩
    ·go_wp2_with fail
     go_meet
     case rel=>exact⟨congrArg Value.bool (by rw[Bool.eq_iff_iff];simp[a3m];try omega),rfl⟩
   ·go_wp2_with fail
    go_meet
    case rel=>exact⟨congrArg Value.bool (by rw[Bool.eq_iff_iff];simp[a3m];try omega),rfl⟩
  ·go_wp2_with fail
   go_meet
   case rel=>exact⟨congrArg Value.bool (by rw[Bool.eq_iff_iff];simp[a3m];try omega),rfl⟩
 case rest=>
  obtain⟨rfl,rfl⟩:=hcut;have c:Ext wc wc.drew:=(ExtX.refl wc).drew;obtain⟨l,d⟩:∃l,a3m k t=l:=⟨_,rfl⟩;rw[d];have a:=hid d;clear d;by_cases f:1<=n
  ·have u:IntKind.i64.wrap (n - 1)=n - 1:=IntWalk.i64_in _ (by omega)
   by_cases g:k=5
   ·subst g
    have s:Int.tdiv (n - 1) 2=(n - 1)/2:=Int.tdiv_eq_ediv_of_nonneg (by omega);by_cases j:t<=(n - 1)/2
    ·go_upto_region 2 with fail
     go_region
     go_wp2_with fail
     go_ret2
     exact⟨h.trans c,by rw[a.out];simp[a7w,f,j]⟩
    ·go_upto_region 2 with fail
     go_region
     go_wp2_with fail
     go_ret2
     exact⟨h.trans c,by rw[a.out];simp[a7w,f,j]⟩
   ·have m:(k !=(5:Int))=true:=by simpa using g
    go_upto_region 2 with fail
    go_region
    go_wp2_with fail
    go_ret2
    exact⟨h.trans c,by rw[a.out];simp[a7w,f,g]⟩
  ·go_upto_region 2 with fail
   go_region
   go_wp2_with fail
   go_ret2
   exact⟨h.trans c,by rw[a.out];simp[a7w];omega⟩
theorem b7y(w:World)(k t:Int)(n:Nat)(B:n<=1000000)(p:a9J k t)(o:b3G k t n):Calls Tryz.prog 101 #[.agg #[.int .i64 k, .int .i64 t], .int .i64 (n:Int)] w (fun e w'=>Ext w w'/\e= .returned (.tuple #[.int .i64 ((rkA k t n:Int)+1), .int .i64 (rkB k t n:Int)])):=by
 obtain⟨W,A,a,c,hz⟩:=a0Q w #[.int .i64 k, .int .i64 t] 53;obtain⟨b,l⟩:∃b,w.heap.size=b:=⟨_,rfl⟩;rw[l]at c hz;have C:W.cell? ⟨b,0,none⟩=some (.int .i64 k):=c.cell 0 rfl;have D:W.cell? ⟨b,1,none⟩=some (.int .i64 t):=c.cell 1 rfl;obtain⟨v,x,y,z⟩:=p;obtain⟨r,s⟩:=o;have q:IntKind.i64.wrap ((n:Int)+1)=(n:Int)+1:=IntWalk.i64_in _ (by omega);have f:Int.tdiv ((n:Int)+1) 2=((n:Int)+1)/2:=Int.tdiv_eq_ediv_of_nonneg (by omega);have g:Int.tdiv (n:Int) 2=(n:Int)/2:=Int.tdiv_eq_ediv_of_nonneg (by omega);have h:IntKind.i64.wrap ((n:Int)/2+1)=(n:Int)/2+1:=IntWalk.i64_in _ (by omega);have m:k=1\/k=2\/k=3\/k=4\/k=5:=by omega
 rcases m with rfl|rfl|rfl|rfl|rfl
 ·go_enter Tryz.func101,Tryz.ntmps101
  go_wp2_with fail
  go_ret2
  exact⟨a,by simp[rkA,rkB]⟩
 ·go_enter Tryz.func101,Tryz.ntmps101
  go_wp2_with fail
  go_ret2
  exact⟨a,by simp[rkA,rkB];omega⟩
 ·go_enter Tryz.func101,Tryz.ntmps101
  go_wp2_with fail
  go_ret2
  exact⟨a,by simp[rkA,rkB]⟩
 ·go_enter Tryz.func101,Tryz.ntmps101
  go_wp2_with fail
  go_ret2
  exact⟨a,by simp[rkA,rkB];omega⟩
 ·have u:t<=((n - 1)/2:Nat):=by omega
  have i:IntKind.i64.wrap (t+1)=t+1:=IntWalk.i64_in _ (by omega);have j:IntKind.i64.wrap ((n:Int) - t)=(n:Int) - t:=IntWalk.i64_in _ (by omega);have d:Ext W W.drew:=(ExtX.refl W).drew;go_enter Tryz.func101,Tryz.ntmps101
  go_upto_region 9 with fail
  go_region
  go_wp2_with fail
  go_ret2
  exact⟨a.trans d,by simp[rkA,rkB];omega⟩
open Go.Sort Go.Lib
variable {α:Type} [Inhabited α]
structure SortBy (lt:α->α->Bool) (g:Nat) (lb:Array Value) (sf:Nat) (sb:Array Value) (Y:Nat->Bool) (n:Nat) (I:Array α->World->Prop):Prop where
 enter:∀args w,(callFunc g args).run Tryz.prog w= .ok (.enter g args) w
 ext:∀d w w',I d w->Ext w w'->I d w'
 low:∀d w,I d w->∀k,Y k=true->k<w.heap.size
 less:∀d w,I d w->d.size=n->∀i j:Nat,i<n->j<n->Calls Tryz.prog g (#[.int .i64 i, .int .i64 j]++lb) w fun e w'=>e= .returned (.bool (lt d[i]! d[j]!))/\Ext w w'
 swap:∀d w,I d w->d.size=n->∀i j:Nat,i<n->j<n->i≠j->∃w',(callFunc sf (#[.int .i64 i, .int .i64 j]++sb)).run Tryz.prog w= .ok (.value (.tuple #[])) w'/\I (swp d i j) w'/\ExtX Y w w'
theorem a6K{lt:α->α->Bool}{g:Nat}{lb:Array Value}{sf:Nat}{sb:Array Value}{Y:Nat->Bool}{n:Nat}{I:Array α->World->Prop}(S:SortBy lt g lb sf sb Y n I)(d:Array α)(w:World)(hI:I d w)(hn:d.size=n)(a b:Nat)(hab:a<=b)(hb:b<=n)(hsz:n<4611686018427387904):Calls Tryz.prog 317 #[.agg #[.func (.func g) #[] lb, .func (.func sf) #[] sb], .int .i64 a, .int .i64 b] w fun e w'=>e= .returned (.tuple #[])/\I (Sort.insertionSort lt d a b) w'/\(Sort.insertionSort lt d a b).size=n/\ExtX Y w w':=by
 obtain⟨W1,hW1⟩:∃W1,w.alloc (.cells #[.func (.func g) #[] lb, .func (.func sf) #[] sb] 232)=W1:=⟨_,rfl⟩;have hE1:Ext w W1:=by rw[<-hW1];exact(ExtX.refl w).alloc _
 have hI1:=S.ext _ _ _ hI hE1;have hY:Y w.heap.size=false:=by
  cases h:Y w.heap.size with
  |false=>rfl
  |true=>exact absurd (S.low _ _ hI _ h) (Nat.lt_irrefl _)
 have c0:W1.cell? ⟨w.heap.size,0,none⟩=some (.func (.func g) #[] lb):=by rw[<-hW1];exact a4t 0 rfl
 have c1:W1.cell? ⟨w.heap.size,1,none⟩=some (.func (.func sf) #[] sb):=by rw[<-hW1];exact a4t 1 rfl
 obtain⟨B,hB⟩:∃B,w.heap.size=B:=⟨_,rfl⟩;have cc:Hid (∀wr,ExtX Y W1 wr->wr.cell? ⟨B,0,none⟩=some (.func (.func g) #[] lb)/\wr.cell? ⟨B,1,none⟩=some (.func (.func sf) #[] sb)):=hid fun wr h=>by
  rw[hB]at c0 c1 hY;exact⟨h.cellY c0 hY,h.cellY c1 hY⟩
 have HE1:=hid hE1;have eg:=S.enter;clear c0 c1 hY hI hE1;go_enter Tryz.func317,Tryz.ntmps317
 go_wp2
 (try rw[hW1])
 (try rw[hB])
 go_loopw [6] (fun vi wr=>∃(i:Nat) (dk:Array α),vi= .int .i64 i/\a<i/\i<=b+1/\dk.size=n/\I dk wr/\ExtX Y W1 wr/\insOuter lt a b i dk=insOuter lt a b (a+1) d) (fun vi _=>b+1 - (intOf vi).toNat)
 case atStart=>exact⟨a+1,d,by go_num,by omega,by omega,hn,hI1,ExtX.refl _,rfl⟩
 case round=>
  obtain⟨i,dk,rfl,hai,hib,hsk,hIk,hEk,hO⟩:=hrel;have HO:Hid (insOuter lt a b i dk=insOuter lt a b (a+1) d):=hO;clear hO
  go_wp2
  ·go_loopw [7] (fun vj wr2=>∃(j:Nat) (dj:Array α),vj= .int .i64 j/\a<=j/\j<=i/\dj.size=n/\I dj wr2/\ExtX Y W1 wr2/\insInner lt a j dj=insInner lt a i dk) (fun vj _=>(intOf vj).toNat)
   case atStart=>exact⟨i,dk,rfl,by omega,Nat.le_refl _,hsk,hIk,hEk,rfl⟩
   case round=>
    rename_i wr0 _ _ wr
    obtain⟨j,dj,rfl,haj,hji,hsj,hIj,hEj,hIn⟩:=hrel;have hlt:i<b:=by assumption
    obtain⟨c0,c1⟩:=cc.out wr hEj;have HI:Hid (insInner lt a j dj=insInner lt a i dk):=hIn;clear hIn;have out:(j<=a\/lt dj[j]! dj[j - 1]! =false)->∀w',Ext wr w'->∃(i':Nat) (dk':Array α),Value.int .i64 ((i:Int)+1)= .int .i64 (i':Nat)/\a<i'/\i'<=b+1/\dk'.size=n/\I dk' w'/\ExtX Y W1 w'/\insOuter lt a b i' dk'=insOuter lt a b (a+1) d:=fun hs w' hE'=>
     ⟨i+1,dj,by go_num,by omega,by omega,hsj,S.ext _ _ _ hIj hE',hEj.trans (ExtX.of hE'),by rw[<-HO.out,insOuter_go _ _ _ _ _ hlt,<-HI.out,insInner_stop _ _ _ _ hs]⟩
    have OUT:Hid _:=out;clear out;by_cases hja:a<j
    ·have hl:=S.less dj wr hIj hsj j (j - 1) (by omega) (by omega)
     rw[show(((j - 1:Nat):Int))=(j:Int) - 1 by omega]at hl;cases hlv:lt dj[j]! dj[j - 1]! with
     |true=>
      rw[hlv]at hl;go_wp2_with (go_at_fn g;refine hl.mono ?_;rintro e w' ⟨rfl,hE'⟩;have c2:=hE'.cell c0;have c3:=hE'.cell c1)
      obtain⟨ws,hs,hIs,hEs⟩:=S.swap dj w' (S.ext _ _ _ hIj hE') hsj j (j - 1) (by omega) (by omega) (by omega);rw[show(((j - 1:Nat):Int))=(j:Int) - 1 by omega]at hs;rw[hs,Oper.upon_value]
      go_wp2
      go_roundw
      case rel=>
       (repeat apply Exists.intro)
       refine⟨⟨j - 1,swp dj j (j - 1),by congr 1<;>omega,by omega,by omega,by rw[size_swp];exact hsj,hIs,(hEj.trans (ExtX.of hE')).trans hEs,?_⟩,by rw[decide_eq_true hlt,show((j - 1:Nat):Int)=(j:Int) - 1 by omega]⟩;rw[<-HI.out,insInner_go lt a j dj hja hlv]
      case measure=>simp[intOf];omega
     |false=>
      rw[hlv]at hl;go_wp2_with (go_at_fn g;refine hl.mono ?_;rintro e w' ⟨rfl,hE'⟩)
      go_roundw
      case rel=>exact OUT.out (Or.inr hlv) _ hE'
      case measure=>simp[intOf];omega
    ·go_wp2
     go_roundw
     case rel=>exact OUT.out (Or.inl (by omega)) _ (ExtX.refl _)
     case measure=>simp[intOf];omega
  ·have hge:¬i<b:=by assumption
   go_end0
   have hfin:Sort.insertionSort lt d a b=dk:=by unfold Sort.insertionSort;rw[<-HO.out,insOuter_stop _ _ _ _ _ hge]
   exact⟨rfl,by rw[hfin];exact hIk,by rw[hfin];exact hsk,(ExtX.of HE1.out).trans hEk⟩
end Go.Proofs.YtnnpfhoigmegcaaGreat
namespace Go.Proofs.YtnnpfhoigmegcaaGreat
open Go.RowKit Go.Rep Go.Sort Go.Lib
variable {α:Type} [Inhabited α]
theorem b0B{lt:α->α->Bool}{g:Nat}{lb:Array Value}{sf:Nat}{sb:Array Value}{Y:Nat->Bool}{n:Nat}{I:Array α->World->Prop}(S:SortBy lt g lb sf sb Y n I)(d:Array α)(w:World)(hI:I d w)(hn:d.size=n)(h20:n<=20):Calls Tryz.prog 267 #[.agg #[.func (.func g) #[] lb, .func (.func sf) #[] sb], .int .i64 n] w fun e w'=>e= .returned (.tuple #[])/\I (Sort.insertionSort lt d 0 n) w'/\(Sort.insertionSort lt d 0 n).size=n/\ExtX Y w w':=by
 obtain⟨W1,hW1⟩:∃W1,w.alloc (.cells #[.func (.func g) #[] lb, .func (.func sf) #[] sb] 232)=W1:=⟨_,rfl⟩;have hE1:Ext w W1:=by rw[<-hW1];exact(ExtX.refl w).alloc _
 have hI1:=S.ext _ _ _ hI hE1;have hY:Y w.heap.size=false:=by
  cases h:Y w.heap.size with
  |false=>rfl
  |true=>exact absurd (S.low _ _ hI _ h) (Nat.lt_irrefl _)
 have c0:W1.cell? ⟨w.heap.size,0,none⟩=some (.func (.func g) #[] lb):=by rw[<-hW1];exact a4t 0 rfl
 have c1:W1.cell? ⟨w.heap.size,1,none⟩=some (.func (.func sf) #[] sb):=by rw[<-hW1];exact a4t 1 rfl
 obtain⟨B,hB⟩:∃B,w.heap.size=B:=⟨_,rfl⟩;have HE1:=hid hE1;have hi:=a6K S d W1 hI1 hn 0 n (Nat.zero_le _) (Nat.le_refl _) (by omega);rw[hB]at c0 c1 hY;clear hI hE1 hI1;go_enter Tryz.func267,Tryz.ntmps267
 go_wp2
 (try rw[hW1])
 (try rw[hB])
 rcases Nat.lt_or_ge n 20 with h|h
 ·refine wp_loop_rounds 1 ?_
  rw[rounds_succ];go_wp2_with (go_at_call 317;refine hi.mono ?_;rintro e w1 ⟨rfl,hI2,hs2,hE2⟩)
  refine wp_loop_rounds 1 ?_;rw[rounds_succ]
  go_wp2
  all_goals first|(exfalso;omega)|(go_end0;exact⟨rfl,hI2,hs2,(ExtX.of HE1.out).trans hE2⟩)
 ·have hn20:n=20:=by omega
  subst hn20;refine wp_loop_rounds 2 ?_;rw[rounds_succ];go_wp2_with (go_at_call 317;refine hi.mono ?_;rintro e w1 ⟨rfl,hI2,hs2,hE2⟩;have c2:=hE2.cellY c0 hY;have c3:=hE2.cellY c1 hY)
  have hi2:=a6K S _ w1 hI2 hs2 20 20 (Nat.le_refl _) (Nat.le_refl _) (by omega);rw[rounds_succ];go_wp2_with (go_at_call 317;refine hi2.mono ?_;rintro e w2 ⟨rfl,hI3,hs3,hE3⟩)
  refine wp_loop_rounds 1 ?_;rw[rounds_succ]
  go_wp2
  have hst:Sort.insertionSort lt (Sort.insertionSort lt d 0 20) 20 20=Sort.insertionSort lt d 0 20:=by
   rw[show Sort.insertionSort lt (Sort.insertionSort lt d 0 20) 20 20=insOuter lt 20 20 21 (Sort.insertionSort lt d 0 20)from rfl,insOuter_stop _ _ _ _ _ (by omega)]
  rw[hst]at hI3
  all_goals first|(exfalso;omega)|(go_end0;exact⟨rfl,hI3,hs2,(ExtX.of HE1.out).trans (hE2.trans hE3)⟩)
theorem a2r(t e:TypeId)(i d:TypeInfo)(hi:Tryz.prog.info? t=some i)(hd:i.desc= .slice e)(m:Tryz.prog.packed t=false)(j:Tryz.prog.info? e=some d)(h:Nat)(k:∀w,(Extern.Rtype.kind e).run Tryz.prog w= .ok h w)(p:Option Addr)(n c:Nat)(_:n<4611686018427387904)(f:Nat)(x:Tryz.prog.funcs.findIdx? (·.name== "internal/reflectlite" ++ ".Swapper$" ++toString (swapperK n d h))=some f)(g:Nat)(r:Array Value)(w:World)(R:World->Prop)(o:∀w1,Ext w w1->Calls Tryz.prog 267 #[.agg #[.func (.func g) #[] r, .func (.func f) #[] (if swapperK n d h<=2 then#[]else#[.slice p n c,typeHandle Tryz.prog e])], .int .i64 n] w1 fun e w'=>e= .returned (.tuple #[])/\R w'):Calls Tryz.prog 186 #[.iface t (.slice p n c), .func (.func g) #[] r] w fun e w'=>e= .returned (.tuple #[])/\R w':=by
 have q:=run_valueOf_slice (P:=Tryz.prog) t e i hi hd p n c w;have hs:=fun w=>run_swapper_slice (P:=Tryz.prog) t e i d hi hd j h k p n c f x w;have b:=fun a w v=>run_valueLen_slice (P:=Tryz.prog) t e i hi hd m a p n c w v;generalize (if swapperK n d h<=2 then(#[]:Array Value)else#[.slice p n c,typeHandle Tryz.prog e])=B at hs o;simp only[typeHandle]at q b
 (first|rw[show Tryz.prog.globals.size=1 by kernel_rfl]at b|rw[show Tryz.prog.globals.size=0 by kernel_rfl]at b|rw[show Tryz.prog.globals.size=2 by kernel_rfl]at b|rw[show Tryz.prog.globals.size=3 by kernel_rfl]at b)
 have s:Ext w ((w.alloc (.cells #[.slice p n c] t)).alloc (.cells #[.pointer (some ⟨Tryz.prog.globals.size,t,none⟩), .pointer (some ⟨w.heap.size,0,none⟩), .int .u64 151] 226)):=((ExtX.refl w).alloc _).alloc _;have l:=o _ s;go_enter Tryz.func186,Tryz.ntmps186
 go_wp2
 rw[run_callFunc_extern Tryz.func265 (by kernel_rfl) (by kernel_rfl) (by kernel_rfl) (e:=fun args=>Extern.ReflectliteValue.unpack (args.getD 0 (.tuple #[]))) (by kernel_rfl),
  show Sem.run Tryz.prog ((fun args:Array Value=>Extern.ReflectliteValue.unpack (args.getD 0 (.tuple #[]))) #[.iface t (.slice p n c)]) w=_ from q]
 simp only[Result.andThen];rw[Oper.upon_value]
 go_wp2
 rw[run_callFunc_extern Tryz.func266 (by kernel_rfl) (by kernel_rfl) (by kernel_rfl) (e:=Extern.ReflectliteSwapper.swapper "internal/reflectlite" (Extern.ReflectliteValue.valueError "Swapper")) (by kernel_rfl),hs];simp only[Result.andThen];rw[Oper.upon_value]
 go_wp2
 rw[run_callFunc_extern Tryz.func268 (by kernel_rfl) (by kernel_rfl) (by kernel_rfl) (e:=Extern.ReflectliteValue.method (Extern.ReflectliteValue.valueError "reflectlite.Value.Len" 0) Extern.ReflectliteValue.len) (by kernel_rfl),
  b _ _ (by simp)]
 simp only[Result.andThen];rw[Oper.upon_value];go_wp2_with (go_at_call 267;refine l.mono ?_;rintro e w' ⟨rfl,u⟩)
 go_end0
 exact⟨rfl,u⟩
end Go.Proofs.YtnnpfhoigmegcaaGreat
namespace Go.Rep
open Go.RowKit Go.Lim Go.Extern Go.Extern.Rtype Go.Lib
section
variable {P:Program} {α:Type} {R:Mem->Value->α->Prop} {sz:Nat} {X:Nat->Bool} {base:Nat} {e:TypeId} {w:World} {ao:Option Addr} {cap:Nat} {l:List α}
theorem OL.run_load{t:TypeId}{ti:TypeInfo}(z:P.info? t=some ti)(n:ti.size=sz)(f:∀w,(isAgg t).run P w= .ok true w)(_:Elem R sz)(y:∀h u x,R h u x->∃d,u= .agg d)(h:OL R sz X base e w ao cap l)(i:Nat)(hi:i<l.length):∃u,(loadVar t (adr ao (i*sz))).run P w= .ok u w/\R (mk (un X ao) w) u l[i]:=by
 obtain⟨us,A,o,_,s,p⟩:=h.cells;have b:i<us.length:=by omega
 obtain⟨d,c⟩:=y _ _ _ (p i b hi);have g:d.size=sz:=by have:=o _ (List.getElem_mem b);rw[c]at this;exact this
 have r:=run_loadCells_list (P:=P) w (adr ao (i*sz)) d.toList (fun j v q=>by
  rw[a7c];have k:j<sz:=by rw[<-g];exact(List.getElem?_eq_some_iff.1 q).1
  have a:=a2x us i j b o k;rw[c]at a;have m:(a0g (.agg d))[j]? =some v:=by simpa[a0g,Value.cells]using q
  rw[m]at a;exact(s _ _ a).1)
 refine⟨us[i],?_,p i b hi⟩;rw[c];simp only[Array.length_toList,g,Array.toArray_toList]at r;simp[loadVar,f,sizeOf,typeInfo,z,n,r,Result.andThen]
theorem OL.run_swap{t:TypeId}{ti:TypeInfo}(g:Bool)(k:P.info? t=some ti)(a:ti.size=sz)(d:∀w,(isAgg t).run P w= .ok true w)(f:Elem R sz)(o:∀h u x,R h u x->∃z,u= .agg z)(h:OL R sz X base e w ao cap l)(i j:Nat)(hi:i<l.length)(p:j<l.length)(c:Nat):∃w',(ReflectliteSwapper.swap g #[.int .i64 i, .int .i64 j, .slice ao l.length c,typeHandle P t]).run P w= .ok (.tuple #[]) w'/\OL R sz X base e w' ao cap ((l.set i l[j]).set j l[i])/\ExtX (ob ao) w w':=by
 obtain⟨u,q,I⟩:=h.run_load (P:=P) k a d f o i hi;obtain⟨v,r,rv⟩:=h.run_load (P:=P) k a d f o j p;obtain⟨w1,s,G,n⟩:=h.run_store (P:=P) k a f i hi v l[j] rv;have m:=f.mono _ _ _ _ (a2n n (.inl rfl)) I;obtain⟨J,y,H,B⟩:=G.run_store (P:=P) k a f j (by simpa using p) u l[i] m;refine⟨J,?_,H,n.trans B⟩;rcases h.form with⟨rfl,rfl,rfl⟩|⟨b,A,rfl,_⟩
 ·simp at hi
 have C:¬((i:Int)<0):=by omega
 have D:¬((i:Int)>=l.length):=by omega
 have E:¬((j:Int)<0):=by omega
 have F:¬((j:Int)>=l.length):=by omega
 simp only[adr,Option.getD_some,Nat.zero_add]at q r s y;rw[rl_swap];cases g<;>simp[C,D,E,F,ofHandle,handleType,typeHandle,ReflectliteSwapper.exchange,sizeOf,typeInfo,k,a,Addr.add_lit,q,r,s,y,Result.andThen]
end
theorem a6L{α:Type}[Inhabited α](d:Array α)(i j:Nat)(hi:i<d.toList.length)(c:j<d.toList.length):(Go.Sort.swp d i j).toList=(d.toList.set i d.toList[j]).set j d.toList[i]:=by
 have a:i<d.size:=by simpa using hi
 have b:j<d.size:=by simpa using c
 unfold Go.Sort.swp;simp[a,b]
end Go.Rep
namespace Go.Lin
open Go.Lim Go.Rep
end Go.Lin
namespace Go.Proofs.YtnnpfhoigmegcaaGreat
open Go.RowKit Go.Rep Go.Lim
open Go.Lin
end Go.Proofs.YtnnpfhoigmegcaaGreat
namespace Go.Rep
open Go.RowKit
section
variable {P:Program} {ops:Array Oper} {Q:Exit->Act->World->Prop} {rest:List Oper} {a:Act} {w:World}
variable {α:Type} {R:Mem->Value->α->Prop} {sz:Nat} {X:Nat->Bool} {base:Nat} {e:TypeId} {ao:Option Addr} {cap:Nat} {l:List α}
variable {d:Option Tmp} {ty:TypeId} {ps:String} {af:Array Edge}
theorem OL.field(C:Elem R sz)(h:OL R sz X base e w ao cap l)(i j:Nat)(hi:i<l.length)(A:j<sz)(v:Value)(y:α)(N:∀u,R (mk (un X ao) w) u l[i]->∃u',a0g u'=(a0g u).set j v/\R (mk (un X ao) w) u' y):(∃v0,w.cell? (adr ao (i*sz+j))=some v0)/\w.frozen? (adr ao (i*sz+j))=false/\Sl R sz (mk X (w.setCell (adr ao (i*sz+j)) v)) ao (l.set i y)/\ExtX (ob ao) w (w.setCell (adr ao (i*sz+j)) v):=by
 obtain⟨us,K,m,L,M,G⟩:=h.cells;have t:(i+1)*sz<=us.length*sz:=Nat.mul_le_mul_right _ (by omega);rw[Nat.succ_mul]at t;have a:∀k (d:k<us.length) q (hq:q<sz),w.cell? (adr ao (k*sz+q))=some (us[k].cells[q]'(by rw[m _ (List.getElem_mem _)];exact hq))/\w.frozen? (adr ao (k*sz+q))=false:=by
  intro k d q hq;have hz:us[k].cells.size=sz:=m _ (List.getElem_mem _);have J:=a2x us k q d m hq;have n:(a0g us[k])[q]? =some (us[k].cells[q]'(by rw[hz];exact hq)):=by simp[a0g,hz,hq]
  rw[n]at J;exact M _ _ J
 have H:ExtX (ob ao) w (w.setCell (adr ao (i*sz+j)) v):=
  ⟨rfl,rfl,rfl,by simp[World.setCell],fun k d O=>Below.heap_setCell _ _ _ _ (fun e=>by
   have D:=h.form;rcases D with⟨_,_,rfl⟩|⟨g,B,rfl,_⟩
   ·simp at hi
   ·subst e;simp[ob]at O)⟩
 have I:∀q,X (adr ao q).block=false:=by
  intro q;have D:=h.form;have hx:=h.1;rcases D with⟨_,_,rfl⟩|⟨g,B,rfl,_⟩
  ·simp at hi
  ·exact hx _ (by simp[ob,adr])
 have o:i<us.length:=by omega
 refine⟨⟨_,(a i o j A).1⟩,(a i o j A).2,⟨by simpa using h.hd,fun k d=>?_⟩,H⟩;have c:k<us.length:=by simpa[K]using d
 have p:Le (mk (un X ao) w) (mk X (w.setCell (adr ao (i*sz+j)) v)):=a0T H (fun k _ d=>a0t d) fun k _ d=>a0o d;by_cases f:k=i
 ·subst f
  obtain⟨u',F,z⟩:=N us[k] (G k c (by omega));have x:=C.size _ _ _ z;refine⟨u',x,fun q hq=>?_,by simpa using C.mono _ _ _ _ p z⟩;have r:q<sz:=by omega
  have b:(a0g u')[q]? =some u'.cells[q]:=by simp[a0g,hq]
  rw[F,List.getElem?_set]at b;unfold mk;rw[I];by_cases s:j=q
  ·subst s
   rw[if_pos rfl,if_pos (by simp[a0g,m _ (List.getElem_mem c),A])]at b;have:u'.cells[j]=v:=by simpa using b.symm
   rw[this];exact World.cell?_setCell_same' w _ v (by rw[(a k c j A).1];rfl)
  ·rw[if_neg s]at b
   have n:=(a k c q r).1;have:us[k].cells[q]'(by rw[m _ (List.getElem_mem _)];exact r)=u'.cells[q]:=by
    simpa[a0g]using(List.getElem?_eq_some_iff.1 b).2
   rw[this]at n;rw[<-n];exact World.cell?_setCell_other w _ _ v (by simp[adr])
 ·have hz:us[k].cells.size=sz:=m _ (List.getElem_mem _)
  refine⟨us[k],hz,fun q hq=>?_,by simpa[List.getElem_set,Ne.symm f]using C.mono _ _ _ _ p (G k c (by simpa using d))⟩;have n:=(a k c q (by omega)).1;unfold mk;rw[I,<-n];refine World.cell?_setCell_other w _ _ v ?_;have hne:k*sz+q≠i*sz+j:=by
   intro P;rcases Nat.lt_or_gt_of_ne f with E|E
   ·have:=Nat.mul_le_mul_right sz (show k+1<=i by omega)
    rw[Nat.succ_mul]at this;omega
   ·have:=Nat.mul_le_mul_right sz (show i+1<=k by omega)
    rw[Nat.succ_mul]at this;omega
  simp[adr]
theorem b2c{t:TypeId}{x y:Operand}{A:Addr}{v v0:Value}(g:TyI P t 1)(hx:a.eval x= .pointer (some A))(l:a.eval y=v)(k:v.cells=#[v])(b:v.oneCell'=true)(h:w.cell? A=some v0)(i:w.frozen? A=false)(K:wpList P ops Q rest (a.put d undef) (w.setCell A v)):wpList P ops Q (⟨d, .store t x y,ty,ps,af,none⟩::rest) a w:=by
 refine wpList_plain rfl fun m c=>?_;obtain⟨ti,j,f⟩:=g;unfold Oper.wp;subst l;have e:=run_store P w A (a.eval y) .plain b;rw[h,i]at e;simp only[Bool.false_eq_true,if_false]at e;simp[execOp,hx,Instr.storeAt,Instr.sureAddr,storeVar,sizeOf,typeInfo,j,f,k,Result.andThen,storeCells,Addr.add_zero',e];exact c _ _ K
end
end Go.Rep
namespace Go.Rep
open Go.RowKit
section
variable {P:Program} {ops:Array Oper} {Q:Exit->Act->World->Prop} {rest:List Oper} {a:Act} {w:World}
variable {α:Type} {R:Mem->Value->α->Prop} {sz:Nat} {X:Nat->Bool} {e:TypeId}
variable {d:Option Tmp} {ty:TypeId} {ps:String} {af:Array Edge}
theorem a8X{t h:Nat}{z:Value}{s x:Operand}{g:Option Addr}{p m:Nat}(T:SliceT P t e sz h z)(o:z.cells.size=sz)(y:Elem R sz)(A:∀k,X k=true->k<w.heap.size)(j:List α)(hs:a.eval s= .slice none 0 0)(hx:a.eval x= .slice g m p)(B:m=j.length)(hxs:Sl R sz (mk X w) g j)(f:m*h<=140737488355328)(i:m<=9223372036854775807)(K:∀c b w',OL R sz X w.heap.size e w' c b j->Ext w w'->wpList P ops Q rest (a.put d (.slice c m b)) w'):wpList P ops Q (⟨d, .call {callee:= .builtin .append,args:=#[s,x],argTypes:=#[t,t]},ty,ps,af,none⟩::rest) a w:=by
 subst B;have q:OL R sz X w.heap.size e w none 0 []:=OL.nil _ _ _ _ _ _;have n:un X none=X:=by funext k;simp[un,ob]
 refine a2K (l:=[]) T o y (Nat.le_refl _) A j hs hx q (by rw[n];exact hxs) (by simpa using f) (by simpa using i) ?_;intro c b w' r u C;have v:Ext w w':=u.weaken fun k _ _=>by simp[ob]
 exact K c b w' r v
theorem OL.rehide{base cap:Nat}{ao:Option Addr}{l:List α}(n:Elem R sz)(a:∀h c u x,R h u x->R c u x)(h:OL R sz X base e w ao cap l){Z:Nat->Bool}(hz:∀k,ob ao k=true->Z k=false):Sl R sz (mk Z w) ao l:=by
 have o:=h.form;have hs:=h.sl n;rcases o with⟨rfl,_,rfl⟩|⟨g,b,rfl,_⟩
 ·exact Sl.nil _ _ _ _
 ·refine⟨hs.1,fun i hi=>?_⟩
  obtain⟨u,d,f,m⟩:=hs.2 i hi;refine⟨u,d,fun j p=>?_,a _ _ _ _ m⟩;have:=a1i (f j p);unfold mk;rw[hz _ (by simp[ob,adr])];simpa using this
theorem OL.beside{base cap:Nat}{ao oo a:Option Addr}{l:List α}{w':World}(d:Elem R sz)(h:OL R sz (un X oo) base e w ao cap l)(c:ExtX (ob oo) w w')(f:a=oo\/∃g,a=some ⟨g,0,none⟩/\w.heap.size<=g):OL R sz (un X a) base e w' ao cap l:=
 h.ext d c (fun k _ b=>a0t b) fun k b hz=>by
  rcases f with rfl|⟨g,rfl,i⟩
  ·exact hz
  ·by_cases hx:X k=true
   ·exact a0o hx
   ·have:g=k:=by simpa[un,hx,ob]using hz
    omega
end
end Go.Rep
namespace Go.Rep
open Go.RowKit
section
variable {P:Program} {ops:Array Oper} {Q:Exit->Act->World->Prop} {rest:List Oper} {a:Act} {w:World}
variable {α:Type} {R:Mem->Value->α->Prop} {sz:Nat} {X:Nat->Bool} {base:Nat} {e:TypeId} {ao:Option Addr} {cap:Nat} {l:List α}
variable {d:Option Tmp} {ty:TypeId} {ps:String} {af:Array Edge}
theorem OL.take(h:OL R sz X base e w ao cap l)(_:∀m u x,R m u x->u.cells.size=sz)(n:Nat):OL R sz X base e w ao cap (l.take n):=by
 have F:=h.form;obtain⟨hx,us,f,t,j,⟨E,v⟩,y⟩:=h;have a:∀u∈us.take n,u.cells.size=sz:=fun u o=>t u (List.mem_of_mem_take o);refine⟨hx,us.take n,by simp[f],a,fun u o=>j u (List.mem_of_mem_take o),⟨by rw[a0N _ a];simp[f],?_⟩,fun i hi k=>?_⟩
 ·rcases v with⟨b,G⟩|⟨g,c,d,b,z,A,H,B,C,D⟩
  ·simp at b
   obtain⟨rfl,p,rfl⟩:=b;refine .inl ⟨by simp[p],by simp[p]⟩
  ·simp at b
   obtain⟨rfl,rfl⟩:=b;refine .inr ⟨g,cap,d,by simp,z,A,by simp;omega,B,C,?_⟩;have q:(us.take n).flatMap a0g=(us.flatMap a0g).take ((l.take n).length*sz):=by
    have r:us.flatMap a0g=(us.take n).flatMap a0g++(us.drop n).flatMap a0g:=by
     rw[<-List.flatMap_append,List.take_append_drop]
    rw[r];have s:(l.take n).length*sz=((us.take n).flatMap a0g).length:=by rw[a0N _ a];simp[f]
    rw[s,List.take_left]
   rw[q,<-D,List.take_take]
   congr 1
   have:(l.take n).length<=l.length:=by simp;omega
   exact(Nat.min_eq_left (Nat.mul_le_mul_right _ this)).symm
 ·simp only[List.getElem_take]
  exact y i (by simp at hi;omega) (by simp at k;omega)
theorem a6n{t a0:Nat}{z:Value}{m:Array Value}{s x:Operand}{g n:Nat}(T:SliceT P t e sz a0 z)(E:Elem R sz)(hs:a.eval s= .slice (some ⟨g,0,none⟩) n cap)(hn:l.length=n)(hx:a.eval x= .slice (some ⟨w.heap.size,0,none⟩) 1 1)(h:OL R sz X base e w (some ⟨g,0,none⟩) cap l)(u:Value)(y:α)(I:m=u.cells)(hu:R (mk (un X (some ⟨g,0,none⟩)) w) u y)(o:n+1<=cap)(K:∀w',OL R sz X base e w' (some ⟨g,0,none⟩) cap (l++[y])->ExtX (ob (some ⟨g,0,none⟩)) w w'->wpList P ops Q rest (a.put d (.slice (some ⟨g,0,none⟩) (n+1) cap)) w'):wpList P ops Q (⟨d, .call {callee:= .builtin .append,args:=#[s,x],argTypes:=#[t,t]},ty,ps,af,none⟩::rest) a (w.alloc (.cells m e)):=by
 subst hn;refine wpList_plain rfl fun K' a4=>?_;have Z:Ext w (w.alloc (.cells m e)):=(ExtX.refl w).alloc _;have h':=h.ext0 E Z;obtain⟨i,hi,hz,p,a8⟩:=info_parts T.info;have hat:=b1h w m e u I;have B:=E.size _ _ _ hu;have U:=E.one _ _ _ hu;have V:R (mk (un X (some ⟨g,0,none⟩)) (w.alloc (.cells m e))) u y:=E.mono _ _ _ _ (a0l Z) hu;have A:(a0g u).length=1*i.size:=by simp[a0g,B,p]
 have r:∀j v,(a0g u)[j]? =some v->(w.alloc (.cells m e)).cell? ((⟨w.heap.size,0,none⟩:Addr).add j)=some v:=by
  intro j v hj;rw[<-a9z rfl];exact hat.2 j v (by simpa using hj)
 have q:=h'.form;generalize hW:w.alloc (.cells m e)=W at Z h' V r q;obtain⟨a7,us,h1,h2,a3,h3,h5⟩:=h';rcases q with⟨b,_⟩|⟨g',f,b,h6,h7,h8,h9,a1⟩
 ·simp at b
 simp at b;subst b;have Y:(us.flatMap a0g).length=l.length*i.size:=by rw[a0N us h2,h1,p]
 have L:(us++[u]).flatMap a0g=us.flatMap a0g++a0g u:=by simp
 have S:∀v∈us++[u],v.cells.size=sz:=by
  intro v b;rcases List.mem_append.1 b with b|b
  ·exact h2 v b
  ·rw[List.mem_singleton.1 b];exact B
 have D:∀v∈us++[u],∀c∈a0g v,c.oneCell'=true:=by
  intro v b c hc;rcases List.mem_append.1 b with b|b
  ·exact a3 v b c hc
  ·rw[List.mem_singleton.1 b]at hc;exact U c hc
 have J:l.length*i.size+(a0g u).length<=f.size:=by rw[A,a1,<-p,<-Nat.add_mul];exact Nat.mul_le_mul_right _ o
 have hr:=run_append_room (P:=P) W t ty e i T.und hi g l.length cap f h7 ⟨w.heap.size,0,none⟩ 1 1 (a0g u) A r U o J;have H:ExtX (ob (some ⟨g,0,none⟩)) W (W.setRow g (f.toList.take (l.length*i.size)++a0g u++f.toList.drop (l.length*i.size+(a0g u).length)).toArray):=
  ⟨rfl,rfl,rfl,by simp,fun k _ hk=>setRow_other W g k _ (fun ek=>by subst ek;simp[ob]at hk)⟩
 have C:(l++[y]).length=l.length+1:=by simp
 have a5:OL R sz X base e (W.setRow g (f.toList.take (l.length*i.size)++a0g u++f.toList.drop (l.length*i.size+(a0g u).length)).toArray) (some ⟨g,0,none⟩) cap (l++[y]):=by
  refine⟨a7,us++[u],by simp[h1],S,D,⟨by rw[L];simp[Y,A,p,Nat.add_mul], .inr ⟨g,cap,_,by rw[C],h6,setRow_heap W g f _ e _ h7,by rw[C];exact o,h9,?_,?_⟩⟩,?_⟩
  ·simp only[List.size_toArray,List.length_append,List.length_take,List.length_drop,Array.length_toList];omega
  ·rw[L,C]
   rcases h3.2 with⟨b,_⟩|⟨g',c',F,b,_,G,_,_,_,a2⟩
   ·simp at b
   simp at b;obtain⟨rfl,rfl⟩:=b;rw[h7]at G;obtain rfl:f=F:=by simpa using G
   have e1:f.toList.take (l.length*i.size)=us.flatMap a0g:=by rw[p];exact a2
   rw[e1];have N:(l.length+1)*sz=(us.flatMap a0g++a0g u).length:=by simp only[List.length_append,Y,A,p,Nat.add_mul]
   rw[N];exact List.take_left
  ·intro k hk a9
   have M:Le (mk (un X (some ⟨g,0,none⟩)) W) (mk (un X (some ⟨g,0,none⟩)) _):=a2n H (.inl rfl);by_cases O:k<us.length
   ·simpa[List.getElem_append_left O,List.getElem_append_left (show k<l.length by omega)]using E.mono _ _ _ _ M (h5 k O (by omega))
   ·have a6:k=us.length:=by simp at hk;omega
    subst a6;have:=E.mono _ _ _ _ M V;simpa[List.getElem_append_right,h1]using this
 unfold Oper.wp execOp;simp only[resolve,invoke,builtin,Sem.run_bind,Sem.run_pure,Result.andThen_ok,List.map_toArray,List.map_cons,List.map_nil,hs,hx];rw[hr];exact a4 _ _ (K _ a5 ((ExtX.of Z).trans H))
theorem b3O{t c:Nat}{z:Value}{x y:Operand}{kl r:IntKind}{m s:Int}(T:SliceT P t e sz c z)(_:z.cells.size=sz)(X:Nat->Bool)(u:∀k,X k=true->k<w.heap.size)(base:Nat)(b:base<=w.heap.size)(n:Nat)(C:a.eval x= .int kl s)(l:s=0)(v:a.eval y= .int r m)(D:m=(n:Int))(o:c*n<=281474976710656)(f:n<=9223372036854775807)(K:∀w',OL R sz X base e w' (some ⟨w.heap.size,0,none⟩) n []->Ext w w'->w'.heap.size=w.heap.size+1->wpList P ops Q rest (a.put d (.slice (some ⟨w.heap.size,0,none⟩) 0 n)) w'):wpList P ops Q (⟨d, .makeSlice t x y,ty,ps,af,none⟩::rest) a w:=by
 refine wpList_plain rfl fun E g=>?_;subst D;subst l;obtain⟨i,hi,j,p,h⟩:=info_parts T.info;have q:=Go.run_make (P:=P) w t e i z T.und hi j kl r 0 n (by omega) (by omega) (by rw[h,<-Int.natCast_mul];omega) (by omega);simp only[Int.toNat_natCast,Int.toNat_zero]at q;unfold Oper.wp;simp[execOp,C,v,q,Result.andThen];refine g _ _ (K _ ⟨fun k B=>?_,[],rfl,by simp,by simp,⟨by simp, .inr ⟨w.heap.size,n,_,by simp,b,heap_alloc_new w _,by simp,by simpa[maxLen]using f,by rw[size_madeCells,p],by simp⟩⟩,fun i hi=>by simp at hi⟩ ((ExtX.refl w).alloc _) (by simp));have:w.heap.size=k:=by simpa[ob]using B
 cases A:X k
 ·rfl
 ·have:=u k A;omega
end
end Go.Rep
