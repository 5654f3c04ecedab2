/- Parts of a proof: each theorem states what it proves, and its conditions. -/
import Derived.Test.YtnnpfhoigmegcaaGreatBcI
set_option maxRecDepth 100000
set_option maxHeartbeats 3200000
namespace Go.Lin
open Go.Lim
def a2m(q:Rat):Rat:=if q<0 then -q else q
theorem a2d{q:Rat}(h:0<=q):a2m q=q:=by unfold a2m;rw[if_neg (by grind)]
theorem a2e{q:Rat}(h:q<=0):a2m q= -q:=by
 unfold a2m;split
 ·rfl
 ·have:q=0:=by grind
  rw[this];decide+kernel
theorem b5g(q:Rat):0<=a2m q:=by unfold a2m;split<;>grind
theorem a7q:a2m 0=0:=by decide+kernel
theorem b2L(a b:Rat):a2m (a*b)=a2m a*a2m b:=by
 rcases Rat.le_total (a:=0) (b:=a)with c|c<;>rcases Rat.le_total (a:=0) (b:=b)with d|d
 ·rw[a2d c,a2d d,a2d (Rat.mul_nonneg c d)]
 ·have h:=Rat.mul_nonneg c (show 0<= -b by grind)
  rw[a2d c,a2e d,a2e (show a*b<=0 by grind)];grind
 ·have h:=Rat.mul_nonneg (show 0<= -a by grind) d
  rw[a2e c,a2d d,a2e (show a*b<=0 by grind)];grind
 ·have h:=Rat.mul_nonneg (show 0<= -a by grind) (show 0<= -b by grind)
  rw[a2e c,a2e d,a2d (show 0<=a*b by grind)];grind
theorem b0S{q:Rat}(h:q≠0):0<a2m q:=by unfold a2m;split<;>grind
def GW(c:Nat)(w:Nat->Rat)(z:List Vec)(d:Vec):Rat:=sm z.length fun i=>w i*a2m (dot c d (z.getD i z0))
theorem b2M{c:Nat}{w:Nat->Rat}{z:List Vec}{d e:Vec}{t:Rat}(h:∀j,j<c->d j=t*e j):GW c w z d=a2m t*GW c w z e:=by
 unfold GW;rw[<-a2z];refine a0l fun i _=>?_;rw[a4Y h,b0p,b2L];grind
theorem b5h{c:Nat}{w:Nat->Rat}{z:List Vec}{d:Vec}(h:∀v∈z,dot c d v=0):GW c w z d=0:=a3e fun i hi=>by
 rw[h _ (by rw[b5C hi];exact List.getElem_mem _),a7q];grind
theorem b7Y{c:Nat}{w:Nat->Rat}{z:List Vec}(hD:Dirs c z (Ort c []))(hv:∀x,b0t c (Ort c []) z x->GW c w z x<=0):∀(n:Nat) (d:Vec),z.countP (fun v=>decide (dot c d v≠0))=n->GW c w z d<=0:=by
 intro n
 induction n using Nat.strongRecOn with
 |_ n ih=>
  intro d hd;by_cases hz:∀v∈z,dot c d v=0
  ·rw[b5h hz];exact Rat.le_refl
  ·obtain⟨v0,hv0,hne0⟩:∃v∈z,dot c d v≠0:=by
    apply Classical.byContradiction;intro h;exact hz fun v hv=>Classical.byContradiction fun e=>h ⟨v,hv,e⟩
   obtain⟨x,hx,hs⟩:=a7a hD _ d (by simp[Ort]) (b3C hne0) rfl;obtain⟨v1,hv1,hne1⟩:∃v∈z,dot c x v≠0:=by
    apply Classical.byContradiction;intro h;exact hx.2.1.not (hD.zero x hx.1 fun v hv=>Classical.byContradiction fun e=>h ⟨v,hv,e⟩)
   obtain⟨u,hu,hune,hmin⟩:=b3D (P:=fun v=>dot c x v≠0) (fun v=>dot c d v/dot c x v) z ⟨v1,hv1,hne1⟩;obtain⟨s,hse⟩:∃s,dot c d u/dot c x u=s:=⟨_,rfl⟩;rw[hse]at hmin;have hlin:∀v,dot c (fun j=>d j+(-s)*x j) v=dot c d v+(-s)*dot c x v:=fun v=>a2y c d x _ v;have hrat:∀v∈z,dot c x v≠0->(0<dot c x v/\s*dot c x v<=dot c d v/\0<dot c d v)\/(dot c x v<0/\dot c d v<=s*dot c x v/\dot c d v<0):=fun v hvz hvn=>by
    obtain⟨s1,s2,s3⟩:=hs v hvz;have hm:=hmin v hvz hvn;have he:dot c d v/dot c x v*dot c x v=dot c d v:=Rat.div_mul_cancel hvn;rcases Rat.le_total (a:=0) (b:=dot c x v)with h|h
    ·left
     have hp:0<dot c x v:=by grind
     have hdp:0<dot c d v:=by
      apply Classical.byContradiction;intro hn;by_cases h0:dot c d v=0
      ·exact hvn (s3 h0)
      ·have:=s2 (by grind);grind
     refine⟨hp,?_,hdp⟩;have:=Rat.mul_le_mul_of_nonneg_right hm h;rw[he]at this;exact this
    ·right
     have hp:dot c x v<0:=by grind
     have hdp:dot c d v<0:=by
      apply Classical.byContradiction;intro hn;by_cases h0:dot c d v=0
      ·exact hvn (s3 h0)
      ·have:=s1 (by grind);grind
     refine⟨hp,?_,hdp⟩;have:=Rat.mul_le_mul_of_nonneg_right hm (show 0<= -dot c x v by grind);grind
   have hs0:0<=s:=by
    rcases hrat u hu hune with⟨a,_,b⟩|⟨a,_,b⟩
    ·have he:s*dot c x u=dot c d u:=by rw[<-hse];exact Rat.div_mul_cancel hune
     apply Classical.byContradiction;intro hn;have:=Rat.mul_nonneg (show 0<= -s by grind) (Rat.le_of_lt a);grind
    ·have he:s*dot c x u=dot c d u:=by rw[<-hse];exact Rat.div_mul_cancel hune
     apply Classical.byContradiction;intro hn;have:=Rat.mul_nonneg (show 0<= -s by grind) (show 0<= -dot c x u by grind);grind
   have habs:∀v∈z,a2m (dot c d v)=a2m (dot c (fun j=>d j+(-s)*x j) v)+s*a2m (dot c x v):=fun v hvz=>by
    rw[hlin];by_cases hvn:dot c x v=0
    ·rw[hvn,a7q]
     rw[show dot c d v+ -s*0=dot c d v by grind];grind
    ·rcases hrat v hvz hvn with⟨a,b,e⟩|⟨a,b,e⟩
     ·rw[a2d (Rat.le_of_lt e),a2d (Rat.le_of_lt a),a2d (show 0<=dot c d v+ -s*dot c x v by grind)];grind
     ·rw[a2e (Rat.le_of_lt e),a2e (Rat.le_of_lt a),a2e (show dot c d v+ -s*dot c x v<=0 by grind)];grind
   have hG:GW c w z d=GW c w z (fun j=>d j+(-s)*x j)+s*GW c w z x:=by
    unfold GW;rw[<-a2z,<-a4E];refine a0l fun i hi=>?_;rw[habs _ (by rw[b5C hi];exact List.getElem_mem _)];grind
   have hcl:z.countP (fun v=>decide (dot c (fun j=>d j+(-s)*x j) v≠0))<n:=by
    rw[<-hd];refine a6Z (a:=u) (fun v hvz h=>?_) hu ?_ ?_
    ·have h:dot c (fun j=>d j+(-s)*x j) v≠0:=by simpa using h
     rw[hlin]at h;simp only[decide_eq_true_eq,ne_eq];intro h0;have:=(hs v hvz).2.2 h0;rw[h0,this]at h;exact h (by grind)
    ·have he:s*dot c x u=dot c d u:=by rw[<-hse];exact Rat.div_mul_cancel hune
     simp only[decide_eq_false_iff_not,ne_eq,Classical.not_not];rw[hlin];grind
    ·rcases hrat u hu hune with⟨_,_,b⟩|⟨_,_,b⟩
     ·simp only[decide_eq_true_eq,ne_eq];grind
     ·simp only[decide_eq_true_eq,ne_eq];grind
   have h1:=ih _ hcl _ rfl;have h2:=Rat.mul_nonneg hs0 (show 0<= -GW c w z x by have:=hv x hx;grind);rw[hG];grind
def a7w(l:List Rat)(m:Nat):Rat:=a1n ((srt l).drop (l.length - m))
theorem b0T{l:List Rat}(h:∀x∈l,0<=x):0<=a1n l:=by
 induction l with
 |nil=>rw[a2c];exact Rat.le_refl
 |cons a l ih=>
  rw[a0D];have h1:=h a List.mem_cons_self;have h2:=ih fun x hx=>h x (List.mem_cons_of_mem _ hx);grind
theorem b0U:∀(k:Nat) (s a r:List Rat) (m:Nat),s.length=k->s.Pairwise (· <= ·)->(∀x∈s,0<=x)->(a++r).Perm s->a.length<=m->a1n a<=a1n (s.drop (s.length - m))
 |k,s,[],r,m,hk,hs,hn,hp,hm=>by
  rw[a2c];exact b0T fun x hx=>hn x (List.mem_of_mem_drop hx)
 |0,s,a::t,r,m,hk,hs,hn,hp,hm=>by have:=hp.length_eq;simp[hk]at this
 |k+1,s,a::t,r,m,hk,hs,hn,hp,hm=>by
  rcases List.eq_nil_or_concat s with rfl|⟨s',v,rfl⟩
  ·simp at hk
  ·rw[List.concat_eq_append]at*
   obtain⟨m,rfl⟩:∃q,m=q+1:=⟨m - 1,by simp at hm;omega⟩;have hk':s'.length=k:=by simpa using hk
   have hle:∀x∈s',x<=v:=fun x hx=>(List.pairwise_append.1 hs).2.2 x hx v (by simp);have hs':=(List.pairwise_append.1 hs).1;have hn':∀x∈s',0<=x:=fun x hx=>hn x (List.mem_append_left _ hx);have hdr:a1n ((s'++[v]).drop ((s'++[v]).length - (m+1)))=a1n (s'.drop (s'.length - m))+v:=by
    rw[List.length_append,List.length_singleton,show s'.length+1 - (m+1)=s'.length - m by omega,List.drop_append_of_le_length (by omega),a8I,a0D,a2c];grind
   rw[hdr,a0D];by_cases hva:v∈a::t
   ·obtain⟨t',ht'⟩:∃t',(a::t).Perm (v::t'):=⟨_,List.perm_cons_erase hva⟩
    have hsum:a+a1n t=v+a1n t':=by rw[<-a0D,<-a0D];exact a3m ht'
    have hp2:(t'++r).Perm s':=by
     have h1:(v::(t'++r)).Perm (v::s'):=((ht'.symm.append_right r).trans hp).trans (List.perm_append_comm);exact h1.cons_inv
    have hl:t'.length<=m:=by have:=ht'.length_eq;simp at this hm;omega
    have:=b0U k s' t' r m hk' hs' hn' hp2 hl;rw[hsum];grind
   ·have hvr:v∈r:=by
     have:v∈(a::t)++r:=hp.mem_iff.2 (by simp);rcases List.mem_append.1 this with h|h
     ·exact absurd h hva
     ·exact h
    obtain⟨r',hr'⟩:∃r',r.Perm (v::r'):=⟨_,List.perm_cons_erase hvr⟩;have hp2:(t++(a::r')).Perm s':=by
     have h1:(v::(t++(a::r'))).Perm (v::s'):=by
      refine List.Perm.trans ?_ (hp.trans List.perm_append_comm);have h2:((a::t)++r).Perm ((a::t)++(v::r')):=hr'.append_left _;refine List.Perm.trans ?_ h2.symm;have h3:((a::t)++(v::r')).Perm (v::((a::t)++r')):=List.perm_middle;refine List.Perm.trans ?_ h3.symm;refine List.Perm.cons v ?_;exact List.perm_middle
     exact h1.cons_inv
    have hav:a<=v:=hle a (hp2.mem_iff.1 (by simp));have:=b0U k s' t (a::r') m hk' hs' hn' hp2 (by simp at hm;omega);grind
theorem b5i{l a r:List Rat}{m:Nat}(c:∀x∈l,0<=x)(d:(a++r).Perm l)(b:a.length<=m):a1n a<=a7w l m:=by
 have:=b0U _ (srt l) a r m rfl (a5X l) (fun x hx=>c x ((a1l l).mem_iff.1 hx)) (d.trans (a1l l).symm) b;rw[a1W]at this;exact this
theorem b2N(l:List Rat):a7w l l.length=a1n l:=by
 unfold a7w;rw[Nat.sub_self,List.drop_zero];exact a3m (a1l l)
theorem b0V(l:List Rat):a7w l 0=0:=by
 unfold a7w;rw[List.drop_of_length_le (by rw[a1W];omega),a2c]
def a2P(x:Mat)(c:Nat)(d:List Rat):List Rat:=x.map fun r=>a2m (dot c (vec d) (vec r))
theorem b0W{x:Mat}{c:Nat}{d:List Rat}:∀q∈a2P x c d,0<=q:=fun q hq=>by
 obtain⟨r,_,rfl⟩:=List.mem_map.1 hq;exact b5g _
theorem a2t(x:Mat)(c:Nat)(d:List Rat):(a2P x c d).length=x.length:=by simp[a2P]
def a1t(x:Mat)(c:Nat)(d:List Rat)(m:Nat):Rat:=a7w (a2P x c d) m/a1n (a2P x c d)
def a5E(a b:Rat):Rat:=if a<b then b else a
noncomputable def a0B(x:Mat)(c m:Nat):Rat:=((a1m x c).map fun d=>a1t x c d m).foldl a5E 0
theorem a9y(l:List Rat):∀a,a<=l.foldl a5E a/\(∀k∈l,k<=l.foldl a5E a)/\(l.foldl a5E a=a\/l.foldl a5E a∈l):=by
 induction l with
 |nil=>intro a;simp
 |cons b l ih=>
  intro a;obtain⟨h1,h2,h3⟩:=ih (a5E a b);have ha:a<=a5E a b:=by unfold a5E;split<;>grind
  have hb:b<=a5E a b:=by unfold a5E;split<;>grind
  refine⟨by simp only[List.foldl_cons];exact Rat.le_trans ha h1,fun k hk=>?_,?_⟩
  ·simp only[List.foldl_cons]
   rcases List.mem_cons.1 hk with rfl|hk
   ·exact Rat.le_trans hb h1
   ·exact h2 k hk
  ·simp only[List.foldl_cons]
   rcases h3 with h3|h3
   ·rw[h3]
    unfold a5E;split
    ·exact Or.inr List.mem_cons_self
    ·exact Or.inl rfl
   ·exact Or.inr (List.mem_cons_of_mem _ h3)
theorem a8O{x:Mat}{c m:Nat}{d:List Rat}(h:d∈a1m x c):a1t x c d m<=a0B x c m:=(a9y _ 0).2.1 _ (List.mem_map.2 ⟨d,h,rfl⟩)
theorem b2O{x:Mat}{c m:Nat}{b:Rat}(f:0<=b)(h:∀d∈a1m x c,a1t x c d m<=b):a0B x c m<=b:=by
 rcases(a9y ((a1m x c).map fun d=>a1t x c d m) 0).2.2 with e|e
 ·unfold a0B;rw[e];exact f
 ·unfold a0B
  obtain⟨d,hd,a⟩:=List.mem_map.1 e;rw[<-a];exact h d hd
def SmQ(q:Rat):Prop:=hq q<=2/\ -1000<=q/\q<=1000
def SmL(l:List Rat):Prop:=∀q∈l,SmQ q
def a1Z(l:List Rat)(j:Nat)(z:Rat):List Rat:=List.replicate j z++l.drop j
theorem a2u{l:List Rat}{j:Nat}{z:Rat}(h:j<=l.length):(a1Z l j z).length=l.length:=by simp[a1Z];omega
theorem b0X(l:List Rat)(z:Rat):a1Z l 0 z=l:=by simp[a1Z]
theorem b2P{l:List Rat}{j:Nat}{z:Rat}(h:j<l.length):(a1Z l j z).set j z=a1Z l (j+1) z:=by
 unfold a1Z;rw[List.set_append_right _ _ (by simp),List.length_replicate,Nat.sub_self,List.drop_eq_getElem_cons h,List.set_cons_zero,List.replicate_succ',List.append_assoc];rfl
theorem a6H{l:List Rat}{j:Nat}{z q:Rat}(h:q∈a1Z l j z):q=z\/q∈l:=by
 unfold a1Z at h;rcases List.mem_append.1 h with h|h
 ·exact .inl (List.eq_of_mem_replicate h)
 ·exact .inr (List.mem_of_mem_drop h)
theorem b3I{L:List Rat}{i j:Nat}{p:Rat}(f:L.countP (fun q=>decide (p<q))<=j)(hi:i<(srt L).length)(h:j<L.length - i):(srt L)[i]<=p:=by
 apply Classical.byContradiction;intro g;have a:p<(srt L)[i]:=by grind
 have b:((srt L).drop i).countP (fun q=>decide (p<q))=((srt L).drop i).length:=List.countP_eq_length.2 fun q hq=>by
  obtain⟨r,d,rfl⟩:=List.getElem_of_mem hq;simp only[List.length_drop]at d;rw[List.getElem_drop,decide_eq_true_eq];by_cases e:r=0
  ·subst e;simpa using a
  ·have:=List.pairwise_iff_getElem.1 (a5X L) i (i+r) hi (by omega) (by omega)
   grind
 have c:=(List.drop_sublist i (srt L)).countP_le (p:=fun q=>decide (p<q));rw[b,(a1l L).countP_eq,List.length_drop,a1W]at c;omega
theorem b3J{L:List Rat}{i j:Nat}{p:Rat}(f:L.countP (fun q=>decide (q<p))<=j)(hi:i<(srt L).length)(h:j<=i):p<=(srt L)[i]:=by
 apply Classical.byContradiction;intro g;have a:(srt L)[i]<p:=by grind
 have b:((srt L).take (i+1)).countP (fun q=>decide (q<p))=((srt L).take (i+1)).length:=List.countP_eq_length.2 fun q hq=>by
  obtain⟨r,d,rfl⟩:=List.getElem_of_mem hq;simp only[List.length_take]at d;rw[List.getElem_take,decide_eq_true_eq];by_cases e:r=i
  ·subst e;exact a
  ·have:=List.pairwise_iff_getElem.1 (a5X L) r i (by omega) hi (by omega)
   grind
 have c:=(List.take_sublist (i+1) (srt L)).countP_le (p:=fun q=>decide (q<p));rw[b,(a1l L).countP_eq,List.length_take]at c;omega
theorem a8P{L:List Rat}{P Q:Rat->Bool}{j:Nat}(h:j<=L.countP P)(b:∀q,Q q=true->P q=false):L.countP Q<=L.length - j:=by
 have c:=List.length_eq_countP_add_countP P (l:=L);have d:L.countP Q<=L.countP (fun a=>decide ¬P a=true):=List.countP_mono_left fun q _ hq=>by simp[b q hq]
 omega
theorem b0Y{l:List Rat}{j:Nat}{z:Rat}{P:Rat->Bool}(h:P z=true):j<=(a1Z l j z).countP P:=by
 unfold a1Z;rw[List.countP_append,List.countP_replicate,if_pos h];omega
theorem b0Z{l:List Rat}{j:Nat}{z:Rat}{P:Rat->Bool}(h:∀q∈l,P q=false):(a1Z l j z).countP P<=j:=by
 unfold a1Z;have a:(l.drop j).countP P=0:=List.countP_eq_zero.2 fun q hq=>by rw[h q (List.mem_of_mem_drop hq)];decide
 rw[List.countP_append,a,Nat.add_zero];have:=List.countP_le_length (p:=P) (l:=List.replicate j z);simpa using this
theorem a8a{W:List Rat}{lo:Rat}(h:∀q∈W,lo<=q):lo*((W.length:Int):Rat)<=a1n W:=by
 induction W with
 |nil=>rw[a2c];simp
 |cons a W ih=>
  have h1:=ih fun q hq=>h q (List.mem_cons_of_mem _ hq);have h2:=h a List.mem_cons_self;rw[a0D,show(((a::W).length:Int):Rat)=((W.length:Int):Rat)+1 by simp[Rat.intCast_add]];grind
theorem a8Q(W:List Rat):a1n (W.map fun q=> -q)= - a1n W:=by
 induction W with
 |nil=>simp[a2c]
 |cons a W ih=>rw[List.map_cons,a0D,a0D,ih];grind
theorem b2Q{W:List Rat}{hi:Rat}(h:∀q∈W,q<=hi):a1n W<=hi*((W.length:Int):Rat):=by
 have:=a8a (W:=W.map fun q=> -q) (lo:= -hi) fun q hq=>by
  obtain⟨r,a,rfl⟩:=List.mem_map.1 hq;have:=h r a;grind
 rw[a8Q,List.length_map]at this;grind
theorem a5k{W:List Rat}{e lo:Rat}(c:e∈W)(h:∀q∈W,lo<=q):e+lo*((W.length:Int):Rat) - lo<=a1n W:=by
 have b:=List.perm_cons_erase c;rw[a3m b,a0D];have d:=a8a (W:=W.erase e) fun q hq=>h q (List.mem_of_mem_erase hq);have a:=b.length_eq;rw[List.length_cons]at a;rw[a,show(((W.erase e).length+1:Nat):Int)=((W.erase e).length:Int)+1 by omega,Rat.intCast_add];grind
theorem a8b{W:List Rat}{e hi:Rat}(a:e∈W)(h:∀q∈W,q<=hi):a1n W<=e+hi*((W.length:Int):Rat) - hi:=by
 have:=a5k (W:=W.map fun q=> -q) (e:= -e) (lo:= -hi) (List.mem_map.2 ⟨e,a,rfl⟩) fun q hq=>by
  obtain⟨r,b,rfl⟩:=List.mem_map.1 hq;have:=h r b;grind
 rw[a8Q,List.length_map]at this;grind
theorem a6I{s:List Rat}{a b:Nat}{q:Rat}(d:b<=s.length)(h:q∈a5h s a b):∃i,a<=i/\i<b/\∃hi:i<s.length,q=s[i]:=by
 unfold a5h at h;obtain⟨r,c,rfl⟩:=List.getElem_of_mem h;simp only[List.length_take,List.length_drop]at c;exact⟨a+r,by omega,by omega,by omega,by rw[List.getElem_take,List.getElem_drop]⟩
theorem a8R{s:List Rat}{a b i:Nat}(c:a<=i)(hi:i<b)(d:b<=s.length):s[i]'(by omega)∈a5h s a b:=by
 unfold a5h;refine List.mem_iff_getElem.2 ⟨i - a,by simp;omega,?_⟩;rw[List.getElem_take,List.getElem_drop]
 congr 1;omega
theorem b1a{a d b:Rat}(hd:0<d)(h:a<b*d):a/d<b:=by
 apply Classical.byContradiction;intro f;have c:b<=a/d:=by grind
 have e:=Rat.mul_le_mul_of_nonneg_right c (Rat.le_of_lt hd);rw[Rat.div_mul_cancel (by grind)]at e;grind
theorem b1b{a d b:Rat}(hd:0<d)(h:b*d<a):b<a/d:=by
 apply Classical.byContradiction;intro f;have c:a/d<=b:=by grind
 have e:=Rat.mul_le_mul_of_nonneg_right c (Rat.le_of_lt hd);rw[Rat.div_mul_cancel (by grind)]at e;grind
theorem a8S{d:Nat}(a:1<=d)(b:d<=9):(1:Rat)<=((d:Int):Rat)/\((d:Int):Rat)<=9:=by
 refine⟨?_,?_⟩
 ·have:=Rat.intCast_le_intCast.2 (show(1:Int)<=(d:Int)by omega)
  simpa using this
 ·have:=Rat.intCast_le_intCast.2 (show(d:Int)<=(9:Int)by omega)
  simpa using this
def a8T(k t:Int)(n:Nat):Nat:=min (rkA k t n+1) (n - rkB k t n+1)
theorem a6J{k t:Int}{n:Nat}(b:a1B k t)(a:a2J k t n):1<=a8T k t n/\a8T k t n<=n:=by
 have:=a7R b a;unfold a8T;omega
theorem b2R{k t:Int}{l:List Rat}{j:Nat}{z:Rat}(n:a1B k t)(h:a2J k t l.length)(y:l.length<=9)(g:SmL l)(m:j+1<=a8T k t l.length):a2m (a5u k t (a1Z l j z))<4096:=by
 obtain⟨G,r⟩:=a7R n h;obtain⟨_,C⟩:=a6J n h;have b:=a2u (l:=l) (j:=j) (z:=z) (by omega);have A:j<=rkA k t l.length:=by unfold a8T at m;omega
 have B:j<=l.length - rkB k t l.length:=by unfold a8T at m;omega
 have c:rkB k t l.length<=(srt (a1Z l j z)).length:=by rw[a1W,b];exact r
 have o:∀q∈a5h (srt (a1Z l j z)) (rkA k t l.length) (rkB k t l.length),-1000<=q/\q<=1000:=fun q hq=>by
  obtain⟨i,E,F,p,rfl⟩:=a6I c hq;refine⟨b3J (j:=j) (b0Z fun q hq=>?_) p (by omega),b3I (j:=j) (b0Z fun q hq=>?_) p (by rw[b];omega)⟩
  ·have:=(g q hq).2.1
   simp;grind
  ·have:=(g q hq).2.2
   simp;grind
 have f:=a4e (s:=srt (a1Z l j z)) (a:=rkA k t l.length) c;obtain⟨w,x⟩:=a8S (d:=rkB k t l.length - rkA k t l.length) (by omega) (by omega);have u:=a8a fun q hq=>(o q hq).1;have v:=b2Q fun q hq=>(o q hq).2;rw[f]at u v;have e:a5u k t (a1Z l j z)=a1n (a5h (srt (a1Z l j z)) (rkA k t l.length) (rkB k t l.length))/(((rkB k t l.length - rkA k t l.length:Nat):Int):Rat):=by unfold a5u;rw[b]
 rw[e];generalize ((rkB k t l.length - rkA k t l.length:Nat):Int)=D at*;generalize a1n (a5h (srt (a1Z l j z)) (rkA k t l.length) (rkB k t l.length))=s at*;have hd:(0:Rat)<(D:Rat):=by grind
 have H:s/(D:Rat)<4096:=b1a hd (by grind);have I: -4096<s/(D:Rat):=b1b hd (by grind);unfold a2m;split<;>grind
theorem b1c{k t:Int}{l:List Rat}(A:a1B k t)(x:a2J k t l.length)(K:l.length<=9)(w:SmL l):4096<a2m (a5u k t (a1Z l (a8T k t l.length) 1073741824))\/4096<a2m (a5u k t (a1Z l (a8T k t l.length) (-1073741824))):=by
 obtain⟨G,B⟩:=a7R A x;obtain⟨p,o⟩:=a6J A x;obtain⟨j,y⟩:∃j,a8T k t l.length=j:=⟨_,rfl⟩;have g:j=rkA k t l.length+1\/j=l.length - rkB k t l.length+1:=by rw[<-y];unfold a8T;omega
 rw[y]at p o |-;obtain⟨I,J⟩:=a8S (d:=rkB k t l.length - rkA k t l.length) (by omega) (by omega);rcases g with M|N
 ·right
  have c:=a2u (l:=l) (j:=j) (z:= -1073741824) o;have f:rkB k t l.length<=(srt (a1Z l j (-1073741824))).length:=by rw[a1W,c];exact B
  have n:=a4e (s:=srt (a1Z l j (-1073741824))) (a:=rkA k t l.length) f;have r:∀q∈a5h (srt (a1Z l j (-1073741824))) (rkA k t l.length) (rkB k t l.length),q<=1000:=fun q hq=>by
   obtain⟨i,E,F,u,rfl⟩:=a6I f hq;rcases a6H ((a1l _).mem_iff.1 (List.getElem_mem u))with e|e
   ·rw[e];decide+kernel
   ·exact(w _ e).2.2
  have m:=a8R (s:=srt (a1Z l j (-1073741824))) (Nat.le_refl (rkA k t l.length)) G f;have C:(srt (a1Z l j (-1073741824)))[rkA k t l.length]'(by omega)<= -1073741824:=by
   refine b3I (j:=l.length - j) ?_ (by omega) (by rw[c];omega);have:=a8P (L:=a1Z l j (-1073741824)) (P:=fun q=>decide (q<= -1073741824)) (Q:=fun q=>decide (-1073741824<q)) (b0Y (by decide+kernel)) fun q h=>by
    simp at h |-;grind
   rwa[c]at this
  have v:=a8b m r;rw[n]at v;have e:a5u k t (a1Z l j (-1073741824))=a1n (a5h (srt (a1Z l j (-1073741824))) (rkA k t l.length) (rkB k t l.length))/(((rkB k t l.length - rkA k t l.length:Nat):Int):Rat):=by unfold a5u;rw[c]
  rw[e];generalize ((rkB k t l.length - rkA k t l.length:Nat):Int)=D at*;generalize a1n (a5h (srt (a1Z l j (-1073741824))) (rkA k t l.length) (rkB k t l.length))=s at*;have hd:(0:Rat)<(D:Rat):=by grind
  have H:s/(D:Rat)< -4096:=b1a hd (by grind);unfold a2m;split<;>grind
 ·left
  have c:=a2u (l:=l) (j:=j) (z:=1073741824) o;have f:rkB k t l.length<=(srt (a1Z l j 1073741824)).length:=by rw[a1W,c];exact B
  have n:=a4e (s:=srt (a1Z l j 1073741824)) (a:=rkA k t l.length) f;have r:∀q∈a5h (srt (a1Z l j 1073741824)) (rkA k t l.length) (rkB k t l.length),-1000<=q:=fun q hq=>by
   obtain⟨i,E,F,u,rfl⟩:=a6I f hq;rcases a6H ((a1l _).mem_iff.1 (List.getElem_mem u))with e|e
   ·rw[e];decide+kernel
   ·exact(w _ e).2.1
  have m:=a8R (s:=srt (a1Z l j 1073741824)) (a:=rkA k t l.length) (b:=rkB k t l.length) (i:=rkB k t l.length - 1) (by omega) (by omega) f;have C:1073741824<=(srt (a1Z l j 1073741824))[rkB k t l.length - 1]'(by omega):=by
   refine b3J (j:=l.length - j) ?_ (by omega) (by omega);have:=a8P (L:=a1Z l j 1073741824) (P:=fun q=>decide (1073741824<=q)) (Q:=fun q=>decide (q<1073741824)) (b0Y (by decide+kernel)) fun q h=>by
    simp at h |-;grind
   rwa[c]at this
  have v:=a5k m r;rw[n]at v;have e:a5u k t (a1Z l j 1073741824)=a1n (a5h (srt (a1Z l j 1073741824)) (rkA k t l.length) (rkB k t l.length))/(((rkB k t l.length - rkA k t l.length:Nat):Int):Rat):=by unfold a5u;rw[c]
  rw[e];generalize ((rkB k t l.length - rkA k t l.length:Nat):Int)=D at*;generalize a1n (a5h (srt (a1Z l j 1073741824)) (rkA k t l.length) (rkB k t l.length))=s at*;have hd:(0:Rat)<(D:Rat):=by grind
  have H:4096<s/(D:Rat):=b1b hd (by grind);unfold a2m;split<;>grind
open Go.Rep
theorem b1d{a:Int}(b: -1000<=a)(c:a<=1000):(-1000:Rat)<=(a:Rat)/\(a:Rat)<=1000:=by
 refine⟨?_,?_⟩
 ·have:=Rat.intCast_le_intCast.2 b;simpa using this
 ·have:=Rat.intCast_le_intCast.2 c;simpa using this
theorem b2S{a k:Int}(e: -1000<=a)(f:a<=1000)(g:1<=k):(-1000:Rat)<=(a:Rat)/(k:Rat)/\(a:Rat)/(k:Rat)<=1000:=by
 obtain⟨i,j⟩:=b1d e f;have d:(1:Rat)<=(k:Rat):=by have:=Rat.intCast_le_intCast.2 g;simpa using this
 have hd:(0:Rat)<(k:Rat):=by grind
 have l:=Rat.mul_le_mul_of_nonneg_left d (show(0:Rat)<=1000 by decide+kernel);refine⟨?_,?_⟩
 ·apply Classical.byContradiction
  intro h;have b:(a:Rat)/(k:Rat)< -1000:=by grind
  have c:=Rat.mul_lt_mul_of_pos_right b hd;rw[Rat.div_mul_cancel (by grind)]at c;grind
 ·apply Classical.byContradiction
  intro h;have b:1000<(a:Rat)/(k:Rat):=by grind
  have c:=Rat.mul_lt_mul_of_pos_right b hd;rw[Rat.div_mul_cancel (by grind)]at c;grind
end Go.Lin
namespace Go.Proofs.YtnnpfhoigmegcaaGreat
open Go.RowKit Go.Rep Go.Lim Go.Lin
theorem b1e{a k:Int}(b: -1000<=a)(c:a<=1000)(d:1<=k)(e:k<=1000):SmQ ((a:Rat)/(k:Rat)):=⟨b4s (by omega) (by omega) (by omega) (by omega),b2S b c d⟩
theorem b6o{a:Int}(b: -1000<=a)(c:a<=1000):SmQ (a:Rat):=⟨Nat.le_trans (a4U _ 1 (lgI (by omega) (by omega)) (by omega)) (by omega),b1d b c⟩
def b7o(X:Nat->Bool)(tb:Nat)(w:World)(e:Ending)(w':World):Prop:=ExtX (tbm tb) w w'/\a0G X tb w'/\∃u q,e= .returned u/\QC (mk X w') u q/\SmQ q
def b2T(X:Nat->Bool)(tb n:Nat)(w:World)(e:Ending)(w':World):Prop:=ExtX (tbm tb) w w'/\∃(ao:Option Addr) (l:List Rat) (cap:Nat),e= .returned (.slice ao l.length cap)/\l.length<=cap/\1<=l.length/\l.length<=n/\SmL l/\a0G (un X ao) tb w'/\OL QC 3 X w.heap.size 41 w' ao cap l
theorem a7r(X:Nat->Bool)(i:Nat)(w:World)(R:a0G X i w)(hX:HX X w):Calls Tryz.prog 61 #[.pointer (some ⟨i,0,none⟩)] w (b7o X i w):=by
 have a0:=R.lt;have D:=R.1;obtain⟨W,hW,P,M,hz⟩:=a0J w #[.bool false, .slice none 0 0, .slice none 0 0] 41;have y:HX (a0e X w.heap.size 1) W:=hX.boxes hz;have C:a0G (a0e X w.heap.size 1) i W:=R.box P;obtain⟨b,hb⟩:∃b,w.heap.size=b:=⟨_,rfl⟩;have z:w.heap.size<=b:=by omega
 have o:i≠b:=by omega
 have h:b≠i:=by omega
 rw[hb]at M hz y C;have G:ExtX (tbm i) w W:=ExtX.of P;clear P;go_enter Tryz.func61,Tryz.ntmps61
 go_wp2_with fail
 refine(a1A (a0e X b 1) i 8 _ C (by omega)).mono ?_;rintro e w1 ⟨q,A,m,rfl,hm⟩;have N:=M.ext q (a2N h);have v:=y.ext q;have t:=G.trans q;clear M y C G q;by_cases h6:m=6
 ·subst h6
  go_wp2_with fail
  refine(a1A (a0e X b 1) i 13 _ A (by omega)).mono ?_;rintro e L ⟨a,l,J,rfl,H⟩;have r:J<13:=by omega
  have E:=N.ext a (a2N h);have g:=v.ext a;have j:=t.trans a;go_wp2_with fail
  refine(a1A (a0e X b 1) i 6 _ l (by omega)).mono ?_;rintro e S ⟨f,B,m3,rfl,Q⟩;have I:m3<6:=by omega
  have O:=E.ext f (a2N h);have x:=g.ext f;have u:=j.trans f;go_wp2_with fail
  refine(a5N (a0e X b 1) S _ _ x (by omega) (by omega) (by omega) (by omega) (by omega) (Nat.le_trans (lgI (by omega) (by omega)) (by omega)) (Nat.le_trans (lgI (by omega) (by omega)) (by omega))).mono ?_;rintro e w4 ⟨c,u4,rfl,d⟩;obtain⟨s6,T,n6,U,V,Z,Y,rfl⟩:=d.shape;have F:=O.ext0 c;have n:=B.ext c;have k:=u.trans (ExtX.of c);go_wp2_with ((with_reducible show wpList _ _ _ (⟨_, .store _ _ _,_,_,_,_⟩::_) _ _);refine a0a a0j rfl rfl F rfl rfl (a1q _ _ _ _ _ _ _) ?_;intro w7 K p)
  have s:=QC.mono _ _ _ _ a0h (QC.mono _ _ _ _ (a0f p (by omega) (by omega)) d);exact bodyPost_ret (a0d rfl rfl a0j K rfl) rfl ⟨k.tbox p z,(n.store p (by omega) o).unbox D,_,_,rfl,s,b1e (by omega) (by omega) (by omega) (by omega)⟩
 ·by_cases s:m=7
  ·subst s
   go_wp2_with fail
   refine(a1A (a0e X b 1) i 2001 _ A (by omega)).mono ?_;rintro e L ⟨a,l,J,rfl,H⟩;have r:J<2001:=by omega
   have E:=N.ext a (a2N h);have g:=v.ext a;have j:=t.trans a;go_wp2_with fail
   refine(b1L (a0e X b 1) i [1,1,7] _ _ _ L 1 7 l g rfl rfl (by simp) (by simp) (hid (by simp))).mono ?_;rintro e S ⟨f,B,m3,rfl,Q,I⟩;have O:=E.ext f (a2N h);have x:=g.ext f;have u:=j.trans f;go_wp2_with fail
   refine(a5N (a0e X b 1) S _ _ x (by omega) (by omega) (by omega) (by omega) (by omega) (Nat.le_trans (lgI (by omega) (by omega)) (by omega)) (Nat.le_trans (lgI (by omega) (by omega)) (by omega))).mono ?_;rintro e w4 ⟨c,u4,rfl,d⟩;obtain⟨s6,T,n6,U,V,Z,Y,rfl⟩:=d.shape;have F:=O.ext0 c;have n:=B.ext c;have k:=u.trans (ExtX.of c);go_wp2_with ((with_reducible show wpList _ _ _ (⟨_, .store _ _ _,_,_,_,_⟩::_) _ _);refine a0a a0j rfl rfl F rfl rfl (a1q _ _ _ _ _ _ _) ?_;intro w7 K p)
   have s:=QC.mono _ _ _ _ a0h (QC.mono _ _ _ _ (a0f p (by omega) (by omega)) d);exact bodyPost_ret (a0d rfl rfl a0j K rfl) rfl ⟨k.tbox p z,(n.store p (by omega) o).unbox D,_,_,rfl,s,b1e (by omega) (by omega) (by omega) (by omega)⟩
  ·have t6:((m:Int)==6)=false:=a2S (by omega)
   have t7:((m:Int)==7)=false:=a2S (by omega);go_wp2_with fail
   refine(a1A (a0e X b 1) i 9 _ A (by omega)).mono ?_;rintro e L ⟨a,l,J,rfl,H⟩;have r:J<9:=by omega
   have E:=N.ext a (a2N h);have g:=v.ext a;have j:=t.trans a;go_wp2_with fail
   refine(a5M (a0e X b 1) L _ g (by omega) (by omega)).mono ?_;rintro e w4 ⟨c,u4,rfl,d⟩;obtain⟨s6,T,n6,U,V,Z,Y,rfl⟩:=d.shape;have F:=E.ext0 c;have n:=l.ext c;have k:=j.trans (ExtX.of c);go_wp2_with ((with_reducible show wpList _ _ _ (⟨_, .store _ _ _,_,_,_,_⟩::_) _ _);refine a0a a0j rfl rfl F rfl rfl (a1q _ _ _ _ _ _ _) ?_;intro w7 K p)
   have s:=QC.mono _ _ _ _ a0h (QC.mono _ _ _ _ (a0f p (by omega) (by omega)) d);exact bodyPost_ret (a0d rfl rfl a0j K rfl) rfl ⟨k.tbox p z,(n.store p (by omega) o).unbox D,_,_,rfl,s,b6o (by omega) (by omega)⟩
theorem a7s(X:Nat->Bool)(tb n:Nat)(w:World)(ht:a0G X tb w)(hX:HX X w)(hn1:1<=n)(hn:n<=64):Calls Tryz.prog 52 #[.pointer (some ⟨tb,0,none⟩), .int .i64 (n:Int)] w (b2T X tb n w):=by
 have hsub:=a6h ht.1;have htX:=ht.1;go_enter Tryz.func52,Tryz.ntmps52
 go_wp2_with fail
 refine(a7r X tb w ht hX).mono ?_;rintro e w1 ⟨hE1,ht1,u1,q1,rfl,hu1,hq1⟩;obtain⟨s1,a1,n1,c1,d1,k1,e1,rfl⟩:=hu1.shape;have hX1:=hX.ext hE1;have hL:=(a8G X w1 s1 a1 n1 c1 d1 k1 e1 q1 41 hX1 hu1).base_le (b':=w.heap.size) hE1.size;have ht1X:=ht1.old (oo:=some ⟨w1.heap.size,0,none⟩) ((ExtX.refl (Y:=noY) w1).alloc (.cells #[.bool s1, .slice a1 n1 c1, .slice d1 k1 e1] 41)) (b5N w1);have hF1:ExtX (tbm tb) w (w1.alloc (.cells #[.bool s1, .slice a1 n1 c1, .slice d1 k1 e1] 41)):=hE1.alloc _;obtain⟨w2,hw2⟩:∃w2,w1.alloc (.cells #[.bool s1, .slice a1 n1 c1, .slice d1 k1 e1] 41)=w2:=⟨_,rfl⟩;obtain⟨g1,hg1⟩:∃g1:Option Addr,some ⟨w1.heap.size,0,none⟩=g1:=⟨_,rfl⟩;rw[hg1]at hL ht1X;rw[hw2]at hL ht1X hF1;go_wp2_with fail
 have hX2:HX X w2:=hX.ext hF1;refine(a1A (un X g1) tb n _ ht1X (by omega)).mono ?_;rintro e w3 ⟨hE3,ht3,m3,rfl,hm3⟩;have hO3:=hL.ext QC.elem hE3 (fun k _ hk=>hsub k hk) (fun _ _ h=>h);have hF3:=hF1.trans hE3;clear hL ht1X hF1 hE3 hX2 hX1 ht1 hE1 hw2 hg1;go_wp2_with fail
 go_loopw [5,6] (fun s c wr=>∃(i k:Nat) (oo:Option Addr) (co:Nat) (l:List Rat),c= .int .i64 i/\s= .slice oo k co/\l.length=k/\1<=k/\i+k<=n/\SmL l/\OL QC 3 X w.heap.size 41 wr oo co l/\a0G (un X oo) tb wr/\ExtX (tbm tb) w wr) (fun _ c _=>(intOf c).toNat)
 case atStart=>exact⟨m3,1,_,_,[q1],rfl,rfl,rfl,Nat.le_refl _,by omega,fun q hq=>by rw[List.mem_singleton.1 hq];exact hq1,hO3,ht3,hF3⟩
 case round=>
  clear hO3 ht3 hF3;obtain⟨i,k,oo,co,l,rfl,rfl,hlk,hk1,hik,hB,hO,htr,hE⟩:=hrel;have hXr:HX X wr:=hX.ext hE;by_cases hlt:0<i
  ·have hXu:HX (un X oo) wr:=hO.unX hXr
   have hlk':=hid hlk;obtain⟨i,rfl⟩:∃j,i=j+1:=⟨i - 1,by omega⟩;clear hlk;go_wp2_with fail
   refine(a7r (un X oo) tb wr htr hXu).mono ?_;rintro e w2 ⟨hE2,ht2,u6,q,rfl,hu6,hq6⟩;obtain⟨s6,a6,n6,c6,d6,k6,e6,rfl⟩:=hu6.shape;have hO2:=hO.ext QC.elem hE2 (fun k _ hk=>hsub k hk) (fun _ _ h=>h);have hX2:=hXu.ext hE2;have hF2:=hE.trans hE2;have hF2s:=hid hF2.size;have bx:=Bx.new w2 #[.bool false, .slice none 0 0, .slice none 0 0] 41;obtain⟨bo,hbo⟩:∃bo,w2.heap.size=bo:=⟨_,rfl⟩;rw[hbo]at bx;have hbnew:∀j,j<w2.heap.size->ob (some ⟨bo,0,none⟩) j=false:=fun j hj=>a0b (by omega);have htbo:tb<bo:=by have:=ht2.lt;omega
   go_wp2_with ((with_reducible show wpList _ _ _ (⟨_, .store _ _ _,_,_,_,_⟩::_) _ _);refine a0a a0j rfl rfl bx rfl rfl (a1q _ _ _ _ _ _ _) ?_;intro w4 r1 r2)
   have hE4:Ext w2 w4:=ExtX.box ((ExtX.refl w2).alloc _) r2 (by omega);obtain⟨Xb,hXb⟩:∃Xb,un X (some ⟨bo,0,none⟩)=Xb:=⟨_,rfl⟩;have hXbu:un (un X oo) (some ⟨bo,0,none⟩)=un Xb oo:=by rw[a6C,hXb]
   have ht4:a0G (un Xb oo) tb w4:=by rw[<-hXbu];exact ht2.old hE4 hbnew
   have hu4:QC (mk (un Xb oo) w4) (.agg #[.bool s6, .slice a6 n6 c6, .slice d6 k6 e6]) q:=by rw[<-hXbu];exact a8x QC.mono hu6 hE4 hbnew
   have hX4:HX Xb w4:=fun k hk=>by
    rw[<-hXb]at hk;by_cases hx:X k=true
    ·exact(hX.ext hF2).ext hE4 k hx
    ·have:bo=k:=by simpa[un,hx,ob]using hk
     have:=r1.lt;omega
   have hO4:OL QC 3 Xb w.heap.size 41 w4 oo co l:=hO2.ext QC.elem hE4 (fun k _ hk=>by simp[noY]at hk) (fun k hk hz=>by
    rw[<-hXb]at hz;rcases Bool.or_eq_true_iff.1 hz with h|h
    ·exact h
    ·rw[hbnew k hk]at h;exact absurd h (by decide))
   have hF4:ExtX (tbm tb) w w4:=hF2.trans (ExtX.of hE4);have hbX:Xb bo=true:=by rw[<-hXb];simp[un,ob]
   have hsubX:∀k,X k=true->Xb k=true:=fun k hk=>by rw[<-hXb];exact a0v hk
   clear hO2 hu6 ht2 bx hE4 hX2 hO hXu hXr hE2 hF2 r2;refine(a9L (un Xb oo) tb 4 w4 ht4 (by decide) (by decide)).mono ?_;rintro e w5 ⟨hE5,ht5,bb,rfl⟩;have hX5:HX Xb w5:=hX4.ext hE5;have hO5:=hO4.ext QC.elem hE5 (fun k _ hk=>hsubX k (hsub k hk)) (fun _ _ h=>h);have hu5:=QC.mono _ _ _ _ (a0E hE5 (fun k hk=>a0v (hsubX k (hsub k hk)))) hu4;have hF5:=hF4.trans hE5;have r5:=r1.ext hE5 (a2N (by omega));clear hO4 hu4 hF4 ht4 hX4 hE5;cases bb
   ·have hsz5:=hF5.size
    go_wp2_with (first|((with_reducible show wpList _ _ _ (⟨_, .load 41 _,_,_,_,_⟩::_) _ _);refine a3r a0j rfl r5 rfl ?_)|(at_builtin;refine a1I (l:=l) a1b rfl QC.elem hsz5 hX5 k hlk'.out rfl rfl hO5 (.agg #[.bool s6, .slice a6 n6 c6, .slice d6 k6 e6]) q rfl hu5 (by omega) (by omega) ?_;intro oo2 co2 w7 hO7 hE7 hor))
    have hE8:=hF5.own hO5 (Nat.le_refl _) hE7;have ht8:=(ht5.unstep (hO5.not_ob (hsubX _ htX)) hE7 hor);have ht9:a0G (un X oo2) tb w7:=by
     rw[<-hXb,a6C]at ht8;exact ht8.unX (a0v htX)
    have hO9:OL QC 3 X w.heap.size 41 w7 oo2 co2 (l++[q]):=hO7.ext QC.elem (ExtX.refl (Y:=noY) w7) (fun k _ hk=>by simp[noY]at hk) (fun k _ hk=>hsubX k hk);have hB2:SmL (l++[q]):=fun x hx=>by
     rcases List.mem_append.1 hx with h|h
     ·exact hB x h
     ·rw[List.mem_singleton.1 h];exact hq6
    have hl2:(l++[q]).length=k+1:=by rw[List.length_append,hlk'.out];rfl
    go_roundw
    case rel=>exact⟨i,k+1,oo2,co2,_,by go_num,by go_num,hl2,by omega,by omega,hB2,hO9,ht9,hE8⟩
    case measure=>simp[intOf]
   ·go_wp2_with fail
    refine(a1A (un Xb oo) tb k w5 ht5 (by omega)).mono ?_;rintro e w6 ⟨hE6,ht6,m6,rfl,hm6⟩;have hm6k:m6<k:=by omega
    have hm6':m6<l.length:=by rw[hlk'.out];exact hm6k
    have hX6:HX Xb w6:=hX5.ext hE6;have hO6:=hO5.ext QC.elem hE6 (fun k _ hk=>hsubX k (hsub k hk)) (fun _ _ h=>h);have hF6:=hF5.trans hE6;have r6:=r5.ext hE6 (a2N (by omega));have hh6:=hO6.hd;rw[hlk'.out]at hh6;have hqm:=hB l[m6] (List.getElem_mem _);obtain⟨x,hx⟩:∃x,l[m6]=x:=⟨_,rfl⟩;rw[hx]at hqm;have hx':=hid hx;clear hx hO5 ht5 hX5 r5 hu5 hF5 hE6 r1;go_wp2_with (first
     |(with_reducible refine a1E a1b (by omega) (by assumption) ?_)
     |((with_reducible show wpList _ _ _ (⟨_, .load 41 _,_,_,_,_⟩::_) _ _);refine a4c a0j m6 hO6 hm6' rfl (by simp) QC.agg ?_;intro u7 hu7;rw[hx'.out]at hu7;obtain⟨s7,a7,n7,c7,d7,k7,e7,rfl⟩:=hu7.shape)
     |((with_reducible show wpList _ _ _ (⟨_, .store _ _ _,_,_,_,_⟩::_) _ _);refine a0a a0j rfl rfl r6 rfl rfl (a1q _ _ _ _ _ _ _) ?_;intro w8 r8 r9;have hO8:=hO6.ext QC.elem r9 (fun k _ hk=>by have:bo=k:=by{simpa[ob]using hk};rw[<-this];exact hbX) (fun _ _ h=>h);have hu8:=QC.mono _ _ _ _ (a0E r9 (fun k hk=>a0v (by have:bo=k:=by{simpa[ob]using hk};rw[<-this];exact hbX))) hu7;have hX8:=hX6.ext r9)
     |((with_reducible show wpList _ _ _ (⟨_, .load 41 _,_,_,_,_⟩::_) _ _);refine a3r a0j rfl r8 rfl ?_)
     |(at_builtin;refine a1I (l:=l) a1b rfl QC.elem (Nat.le_trans hF6.size r9.size) hX8 k hlk'.out rfl rfl hO8 (.agg #[.bool s7, .slice a7 n7 c7, .slice d7 k7 e7]) x rfl hu8 (by omega) (by omega) ?_;intro oo2 co2 wa hOa hEa hor))
    have hbs:w.heap.size<=bo:=by have:=hF2s.out;omega
    have hF8:ExtX (tbm tb) w w8:=hF6.then_ r9 fun i hi _=>a0b (by omega);have hE9:=hF8.own hO8 (Nat.le_refl _) hEa;have ht7:a0G (un Xb oo) tb w8:=ht6.extY r9 (fun k hk=>a0v (by
     have:bo=k:=by simpa[ob]using hk
     rw[<-this];exact hbX)) (a0b (by omega))
    have ht8:=ht7.unstep (hO8.not_ob (hsubX _ htX)) hEa hor;have ht9:a0G (un X oo2) tb wa:=by
     rw[<-hXb,a6C]at ht8;exact ht8.unX (a0v htX)
    have hO9:OL QC 3 X w.heap.size 41 wa oo2 co2 (l++[x]):=hOa.ext QC.elem (ExtX.refl (Y:=noY) wa) (fun k _ hk=>by simp[noY]at hk) (fun k _ hk=>hsubX k hk);have hB2:SmL (l++[x]):=fun y hy=>by
     rcases List.mem_append.1 hy with h|h
     ·exact hB y h
     ·rw[List.mem_singleton.1 h];exact hqm
    have hl2:(l++[x]).length=k+1:=by rw[List.length_append,hlk'.out];rfl
    go_roundw
    case rel=>exact⟨i,k+1,oo2,co2,_,by go_num,by go_num,hl2,by omega,by omega,hB2,hO9,ht9,hE9⟩
    case measure=>simp[intOf]
  ·have hil:i=0:=by omega
   subst hil hlk;have hc:=hO.lenCap;go_wp2_with fail
   go_ret
   exact⟨hE,oo,l,co,rfl,hc,hk1,by omega,hB,htr,hO⟩
end Go.Proofs.YtnnpfhoigmegcaaGreat
namespace Go.Lin
open Go.Lim Go.Rep
theorem b1f{B:Nat}{z:Mat}{s:List Int}(a:HB B z)(b:∀x∈s,0<=x/\x<(z.length:Int)):HB B (a1v z s):=fun i j=>by
 unfold ent;by_cases hi:i<(a1v z s).length
 ·have d:=a7h b _ (List.getElem_mem hi)
  obtain⟨q,hq,c⟩:=List.getElem_of_mem d;rw[show(a1v z s).getD i []=(a1v z s)[i]by simp[List.getD_eq_getElem?_getD,hi],<-c];have:=a q j;unfold ent at this;rwa[show z.getD q []=z[q]by simp[List.getD_eq_getElem?_getD,hq]]at this
 ·rw[show(a1v z s).getD i []= []by rw[List.getD_eq_getElem?_getD,List.getElem?_eq_none (by omega)];rfl]
  have:([]:List Rat).getD j 0=0:=rfl;rw[this,a1J];exact a.pos
theorem a8c{n c:Nat}{z:Mat}(d:Shp n c z){s:List Int}(a:∀x∈s,0<=x/\x<(z.length:Int)):Shp s.length c (a1v z s):=⟨a3j z s,fun r b=>d.2 r (a7h a r b)⟩
theorem a8U{n c B:Nat}{x:Mat}{s:List Int}(j:Shp n c x)(g:HB B x)(b:B<=1000)(h:c<=4)(f:∀i∈s,0<=i/\i<(x.length:Int))(k:s.length+1=c):b2s (a1v x s) c/\HB (42875*B) (a1j (a1v x s) c):=by
 have d:=a8c j f;have l:=a7L d;have a:(a1P (a1v x s) c).2.length<=3:=by omega
 refine⟨a7f d (b1f g f) a ?_,(b2t (b1f g f) d a).mono (by simp)⟩;have e:7*(35^3*1000)=300125000:=by decide
 have:=Nat.mul_le_mul_left (35^3) b;omega
theorem b1g{n c B:Nat}{x:Mat}(b:Shp n c x)(d:HB B x)(a:B<=1000)(f:c<=4):b2s x c:=by
 have g:=a5d b;refine a7f b d (k:=4) (by omega) ?_;have e:7*(35^4*1000)=10504375000:=by decide
 have:=Nat.mul_le_mul_left (35^4) a;omega
theorem a4M{n c B:Nat}{x:Mat}(t:Shp n c x)(y:x.length=n)(w:1<=c)(f:c<=4)(l:HB B x)(b:B<=1000){d:List Rat}(h:d∈a1m x c):d.length=c/\BR (42875*B) d:=by
 unfold a1m at h;have v:=l.pos;split at h
 ·rename_i e
  subst e;obtain rfl:d= [1]:=by simpa using h
  refine⟨rfl,fun q g=>?_⟩;obtain rfl:=List.mem_singleton.1 g;have:hq (1:Rat)<=1:=by decide+kernel
  omega
 ·obtain⟨s,j,a⟩:=List.mem_filterMap.1 h
  obtain⟨u,o,_⟩:=a3i _ _ _ _ j;have p:∀i∈s,0<=i/\i<(x.length:Int):=fun i hi=>by have:=o i hi;omega
  unfold a5D at a;split at a
  ·rename_i k r
   obtain rfl:k=d:=by simpa using a
   have m:k∈a1j (a1v x s) c:=by rw[show a1v x s=s.map fun i=>x.getD i.toNat []from rfl,r];simp
   refine⟨a3Z _ m,?_⟩;exact b6f (a8U t l b f p (by omega)).2 _ m
  ·cases a
theorem a6K{c:Nat}{d r:List Rat}(h:r.length=c):b2v r d=dot c (vec d) (vec r):=by
 rw[a1d];unfold b2v dot;rw[b0A,h];rfl
theorem a8V{c B C:Nat}{d r:List Rat}(u:r.length=c)(s:c<=4)(b:BR B r)(e:BR C d)(p:C<=50000000)(o:B<=1000):(∀k,k<=r.length->hq (a7N r d k)<=200004013)/\(∀k,k<r.length->hq (r.getD k 0*d.getD k 0)<=50001002):=by
 have g:∀{l:List Rat} {B},BR B l->∀q,hq (l.getD q 0)<=B+1:=fun{l} {B} j q=>by
  rw[List.getD_eq_getElem?_getD];by_cases h:q<l.length
  ·rw[List.getElem?_eq_getElem h,Option.getD_some];exact Nat.le_succ_of_le (j _ (List.getElem_mem _))
  ·rw[List.getElem?_eq_none (by omega),Option.getD_none,a1J];omega
 have a:∀k,hq (r.getD k 0*d.getD k 0)<=B+1+(C+1):=fun k=>by
  have:=hq_mul (r.getD k 0) (d.getD k 0);have:=g b k;have:=g e k;omega
 refine⟨fun k t=>?_,fun k _=>by have:=a k;omega⟩;rw[b0A];have:=b6m (n:=k) (B:=50001002) (f:=fun q=>r.getD q 0*d.getD q 0) fun i _=>by have:=a i;omega
 have m:k*(50001002+1)<=4*50001003:=Nat.mul_le_mul (by omega) (by omega);omega
def a9D(k t n:Int):Int:=if a1C k t=false\/n<1\/64<n then 1 else if a2K k t n=false then 10 else 0
def b1z(k t n:Int):Int:=if a9D k t n=0 then min ((rkA k t n.toNat:Int)+1) (n - (rkB k t n.toNat:Int)+1)else 0
def a5l(m:List (List Rat)):Bool:=decide (1<=m.length)&&decide (m.length<=64)&&a5y m 1 4
theorem a5m{m:List (List Rat)}(h:a5l m=true):Shp m.length (a0u m) m/\1<=m.length/\m.length<=64/\1<=a0u m/\a0u m<=4:=by
 unfold a5l a5y at h;simp only[Bool.and_eq_true,decide_eq_true_eq]at h;obtain⟨⟨b,c⟩,a⟩:=h;have e:=a 0 (by omega);refine⟨⟨rfl,fun r d=>?_⟩,b,c,by omega,by omega⟩;obtain⟨i,hi,rfl⟩:=List.getElem_of_mem d;exact(a i hi).1
end Go.Lin
namespace Go.Proofs.YtnnpfhoigmegcaaGreat
open Go.RowKit Go.Rep Go.Lim Go.Lin
theorem a7t(w:World)(k t n:Int)(hn1: -9223372036854775808<=n)(hn2:n<=9223372036854775807):Calls Tryz.prog 31 #[.agg #[.int .i64 k, .int .i64 t], .int .i64 n] w (fun e w'=>Ext w w'/\e= .returned (.tuple #[.int .i64 (b1z k t n), .int .i64 (a9D k t n)])):=by
 obtain⟨W,hW,hE,b0,hz⟩:=a0J w #[.int .i64 k, .int .i64 t] 53;obtain⟨b,hb⟩:∃b,w.heap.size=b:=⟨_,rfl⟩;rw[hb]at b0 hz;have hfi:=b7j W k t n hn1 hn2;have k0:W.cell? ⟨b,0,none⟩=some (.int .i64 k):=b0.cell 0 rfl;have k1:W.cell? ⟨b,1,none⟩=some (.int .i64 t):=b0.cell 1 rfl;obtain⟨kb,hkb⟩:∃kb,a1C k t=kb:=⟨_,rfl⟩;obtain⟨fb,hfb⟩:∃fb,a2K k t n=fb:=⟨_,rfl⟩;rw[hkb,hfb]at hfi;by_cases hbad:kb=false\/n<1\/64<n
 ·have e1:a9D k t n=1:=by unfold a9D;rw[hkb,if_pos hbad]
  have e2:b1z k t n=0:=by unfold b1z;rw[e1,if_neg (by decide)]
  rw[e1,e2];clear e1 e2 hkb hfb;rcases hbad with rfl|h|h
  ·go_enter Tryz.func31,Tryz.ntmps31
   go_wp2_with (first|(go_at_call 100;refine hfi.mono ?_;rintro ee w1 ⟨hE1,rfl⟩))
   go_ret2
   exact⟨hE.trans hE1,rfl⟩
  ·have h1:decide (n<1)=true:=decide_eq_true h
   cases kb
   all_goals
    go_enter Tryz.func31,Tryz.ntmps31
    go_wp2_with (first|(go_at_call 100;refine hfi.mono ?_;rintro ee w1 ⟨hE1,rfl⟩))
    go_ret2
    exact⟨hE.trans hE1,rfl⟩
  ·have h1:decide (n<1)=false:=decide_eq_false (by omega)
   have h2:decide (64<n)=true:=decide_eq_true h;cases kb
   all_goals
    go_enter Tryz.func31,Tryz.ntmps31
    go_wp2_with (first|(go_at_call 100;refine hfi.mono ?_;rintro ee w1 ⟨hE1,rfl⟩))
    go_ret2
    exact⟨hE.trans hE1,rfl⟩
 ·have hkt:kb=true:=by cases kb<;>simp_all
  subst hkt;have h1:decide (n<1)=false:=decide_eq_false (by omega);have h2:decide (64<n)=false:=decide_eq_false (by omega);obtain⟨m,rfl⟩:=Int.eq_ofNat_of_zero_le (show 0<=n by omega);cases hfc:fb with
  |false=>
   subst hfc;have e1:a9D k t m=10:=by unfold a9D;rw[hkb,hfb,if_neg hbad,if_pos rfl]
   have e2:b1z k t m=0:=by unfold b1z;rw[e1,if_neg (by decide)]
   rw[e1,e2];clear e1 e2 hkb hfb;go_enter Tryz.func31,Tryz.ntmps31
   go_wp2_with (first|(go_at_call 100;refine hfi.mono ?_;rintro ee w1 ⟨hE1,rfl⟩))
   go_ret2
   exact⟨hE.trans hE1,rfl⟩
  |true=>
   subst hfc;have hk:=a1s.1 hkb;have hf:=a5i.1 hfb;have hrk:=a7R hk hf;have e1:a9D k t m=0:=by unfold a9D;rw[hkb,hfb,if_neg hbad,if_neg (by decide)]
   have e2:b1z k t m=min ((rkA k t m:Int)+1) ((m:Int) - (rkB k t m:Int)+1):=by unfold b1z;rw[e1,if_pos rfl];rfl
   rw[e1,e2];have hra:=hid fun w'=>b6i w' k t m (by omega) hk hf;obtain⟨A,hA⟩:∃A,rkA k t m=A:=⟨_,rfl⟩;obtain⟨C,hC⟩:∃C,rkB k t m=C:=⟨_,rfl⟩;rw[hA,hC]at hra hrk |-;have w1':IntKind.i64.wrap ((m:Int) - (C:Int))=(m:Int) - (C:Int):=IntWalk.i64_in _ (by omega);have w2':IntKind.i64.wrap ((m:Int) - (C:Int)+1)=(m:Int) - (C:Int)+1:=IntWalk.i64_in _ (by omega);clear e1 e2 hkb hfb hA hC hk hf;go_enter Tryz.func31,Tryz.ntmps31
   go_wp2_with (first|(go_at_call 100;refine hfi.mono ?_;rintro ee w1 ⟨hE1,rfl⟩;have k2:w1.cell? ⟨b,0,none⟩=some (.int .i64 k):=hE1.cell k0;have k3:w1.cell? ⟨b,1,none⟩=some (.int .i64 t):=hE1.cell k1)|(go_at_call 101;refine(hra.out w1).mono ?_;rintro ee w2 ⟨hE2,rfl⟩))
   go_ret2
   refine⟨hE.trans (hE1.trans hE2),?_⟩
   show Ending.returned (.tuple #[.int .i64 (min (A:Int) ((m:Int) - (C:Int))+1), .int .i64 0])=_
   rw[show min (A:Int) ((m:Int) - (C:Int))+1=min ((A:Int)+1) ((m:Int) - (C:Int)+1)by omega]
theorem b1h(X:Nat->Bool)(w:World)(u:Value)(m:List (List Rat))(l:MV (mk X w) u m)(k:m.length<=1099511627776):Calls Tryz.prog 107 #[u] w (fun e o=>o=w/\e= .returned (.bool (a5l m))):=by
 have f:=hid fun(_:Unit)=>b0z (R:=QV) X w u m 1 4 l k;obtain⟨ao,p,rfl,c,g⟩:=l;have b:Hid (a5l m=(decide (1<=m.length)&&decide (m.length<=64)&&a5y m 1 4)):=hid rfl;obtain⟨h,a⟩:∃h,a5y m 1 4=h:=⟨_,rfl⟩;obtain⟨n,d⟩:∃n,m.length=n:=⟨_,rfl⟩;rw[a,d]at b;rw[d]at f |-;rw[a]at f;clear a d g c k;by_cases i:1<=n
 ·by_cases j:n<=64
  ·have e:Hid (a5l m=h):=hid (by rw[b.out,decide_eq_true i,decide_eq_true j];simp)
   rw[e.out];go_enter Tryz.func107,Tryz.ntmps107
   go_wp2_with (first|(go_at_call 172;refine(f.out ()).mono ?_;rintro q r ⟨rfl,rfl⟩))
   go_ret
   exact⟨rfl,rfl⟩
  ·have e:Hid (a5l m=false):=hid (by rw[b.out,decide_eq_false j];simp)
   rw[e.out];go_enter Tryz.func107,Tryz.ntmps107
   go_wp2_with fail
   go_ret
   exact⟨rfl,rfl⟩
 ·have e:Hid (a5l m=false):=hid (by rw[b.out,decide_eq_false i];simp)
  rw[e.out];go_enter Tryz.func107,Tryz.ntmps107
  go_wp2_with fail
  go_ret
  exact⟨rfl,rfl⟩
theorem b6p(X:Nat->Bool)(w:World)(u:Value)(m:List (List Rat))(B:Nat)(G:HX X w)(C:MV (mk X w) u m)(hd:a5l m=true)(F:BM B m)(o:1<=B)(p:B<=1000):Calls Tryz.prog 108 #[u] w (b3s w (decide ((a1P m (a0u m)).2.length=a0u m))):=by
 obtain⟨l,D,E,q,s⟩:=a5m hd;obtain⟨z,_⟩:=a5W l (by omega) q (by omega) (by omega);have k:=b4W X w u m G C z (b1g l (a9n F o) p s).e;rw[b0H]at k;obtain⟨ao,N,rfl,I,j⟩:=C;obtain⟨L,M,H,d,x,t⟩:=j.row 0 (by omega);have a:m[0].length=a0u m:=l.2 _ (List.getElem_mem _);have J:=j.hd;rw[a]at d;obtain⟨r,f⟩:∃r,(a1P m (a0u m)).2.length=r:=⟨_,rfl⟩;obtain⟨c,b⟩:∃c,a0u m=c:=⟨_,rfl⟩;obtain⟨n,A⟩:∃n,m.length=n:=⟨_,rfl⟩;rw[f]at k;rw[b]at d;rw[f,b];rw[A]at J D k |-;have i:Hid (((r:Int)==(c:Int))=decide (r=c)):=hid (by rw[Bool.eq_iff_iff];simp;omega);obtain⟨v,h⟩:∃v,decide (r=c)=v:=⟨_,rfl⟩;rw[h]at i |-;have y:=i.out;clear f b A a t z l h;go_enter Tryz.func108,Tryz.ntmps108
 go_wp2_with (first|(go_at_call 189;refine k.mono ?_;rintro O K ⟨g,rfl⟩;have P:=d.out noY K g rfl)|(with_reducible refine a0n a0L (by omega) (by assumption) ?_))
 go_ret
 exact⟨g,rfl⟩
def a2C(b nb:Nat):Nat->Bool:=fun k=>decide (b<=k)&&decide (k<b+nb)
def a8d(b nb:Nat)(W W':World):Prop:=W.heap.size<=W'.heap.size/\∀k,a2C b nb k=true->W'.heap[k]? =W.heap[k]?
theorem a0O{b nb k:Nat}:a2C b nb k=true↔b<=k/\k<b+nb:=by simp[a2C]
theorem a8d.of{b nb:Nat}{Y:Nat->Bool}{W W':World}(c:ExtX Y W W')(d:∀k,Y k=true->a2C b nb k=false)(e:b+nb<=W.heap.size):a8d b nb W W':=⟨c.size,fun k a=>c.block k (by have:=a0O.1 a;omega) (by
 cases h:Y k
 ·rfl
 ·rw[d k h]at a;simp at a)⟩
section
variable (cb:Nat) (caps:Array Value) (Inv:List (List Rat)->World->Prop)
def b3K(b c:Nat)(x:Mat)(ao:Option Addr)(n ca:Nat)(D:List (List Int))(W:World):Prop:=Inv (D.filterMap (a5D x c)) W/\Bx W b #[.slice ao n ca] 25/\Bx W (b+1) #[.func (.func cb) #[] caps] 137/\b+2<=W.heap.size
theorem b7p(H:Nat->Bool)(w0:World)(b c n B:Nat)(x:Mat)(ao:Option Addr)(ca:Nat)(D:List (List Int))(s:List Int)(W:World)(hcf:∀(args:Array Value) (W:World),Sem.run Tryz.prog (callFunc cb args) W= .ok (.enter cb args) W)(_hb:w0.heap.size=b)(hH:∀k,H k=true->k<b+8)(_hH8:∀k,a2C b 8 k=true->H k=true)(hx:MV (mk H w0) (.slice ao n ca) x)(hs:Shp n c x)(_hn64:n<=64)(hc2:2<=c)(hc4:c<=4)(hB:BM B x)(hB1:1<=B)(hBB:B<=1000)(hIE:∀done W,Inv done W->ExtX H w0 W)(hInv:∀done W W',Inv done W->ExtX (a2C b 8) W W'->Inv done W')(hCB:∀done d W vd,Inv done W->(∃rest,done++[d]++rest=a1m x c)->RV (mk H W) vd d->d.length=c->b+8<=W.heap.size->Calls Tryz.prog cb (#[vd]++caps) W (fun e W'=>e= .returned (.tuple #[])/\Inv (done++[d]) W'/\a8d b 8 W W'))(hi:b3K cb caps Inv b c x ao n ca D W)(hss:∃rest,D++[s]++rest=a1e n (c - 1) 0)(hsl:Sl (a0M .i64) 1 W.cell? (some ⟨b+2+3,0,none⟩) s)(hW:b+2+6<=W.heap.size):Calls Tryz.prog 204 #[.slice (some ⟨b+2+3,0,none⟩) s.length (c - 1), .pointer (some ⟨b,0,none⟩), .pointer (some ⟨b+1,0,none⟩)] W (fun e W'=>e= .returned (.tuple #[])/\b3K cb caps Inv b c x ao n ca (D++[s]) W'/\b2C (b+2) W W'):=by
 obtain⟨hiv,bx,bf,_⟩:=hi;obtain⟨rest,hrest⟩:=hss;have hmem:s∈a1e n (c - 1) 0:=by rw[<-hrest];simp
 obtain⟨m1,m2,_⟩:=a3i n (c - 1) 0 s hmem;have hxl:x.length=n:=hs.1;have hsb:∀i∈s,0<=i/\i<(x.length:Int):=fun i hi=>by have:=m2 i hi;omega
 have hXW:HX H W:=fun k hk=>by have:=hH k hk;omega
 have hxW:MV (mk H W) (.slice ao n ca) x:=MV.mono _ _ _ _ (a0E (hIE _ _ hiv) fun _ h=>h) hx;have hT:=a8U hs (a9n hB hB1) hBB hc4 hsb (by omega);have hrs:=a8c hs hsb;obtain⟨hf,hcl⟩:=a5W hrs (by omega) (by omega) (by omega) (by omega);have hNB:=b6f hT.2;have hNr:∀r∈a1j (a1v x s) c,r.length=c:=fun r hr=>a3Z r hr;have hfm:(D++[s]).filterMap (a5D x c)=D.filterMap (a5D x c)++(match a5D x c s with|some d=>[d]|none=>[]):=by
  rw[List.filterMap_append];cases h:a5D x c s<;>simp[h]
 have hro:a5D x c s=match a1j (a1v x s) c with| [d]=>some d|_=>none:=rfl
 have hrr:a1m x c=(a1e n (c - 1) 0).filterMap (a5D x c):=by unfold a1m;rw[if_neg (by omega),hxl]
 have hpre:∀d,a5D x c s=some d->∃rest',D.filterMap (a5D x c)++[d]++rest'=a1m x c:=fun d hd=>by
  refine⟨rest.filterMap (a5D x c),?_⟩;rw[hrr,<-hrest,List.filterMap_append,hfm,hd]
 have kx:W.cell? ⟨b,0,none⟩=some (.slice ao n ca):=bx.cell 0 rfl;have hrow:=b0D H W (.slice ao n ca) x (some ⟨b+2+3,0,none⟩) s s.length hXW hxW hsl hsb (by omega);unfold b0C at hrow;rw[a3j]at hrow;have hnull:=hid fun w1 ra rc (h1:HX H w1) (h2:MV (mk H w1) (.slice ra s.length rc) (a1v x s))=>b4P H w1 (.slice ra s.length rc) (a1v x s) s.length c h1 h2 hf (a3j x s) hcl hT.1;obtain⟨N,hN⟩:∃N,a1j (a1v x s) c=N:=⟨_,rfl⟩;rw[show a2b (ent (a1P (a1v x s) c).1) (a1P (a1v x s) c).2 c=a1j (a1v x s) c from rfl,hN]at hnull;rw[hN]at hNB hNr hro;have hrl:=hid (a3j x s);have hfm':=hid hfm;have hro':=hid hro;have hpre':=hid hpre;have hNB':=hid hNB;have hNr':=hid hNr;have hW':=hid hW;have hiv':=hid hiv;have hbx:=hid bx;have hbf:=hid bf;rw[m1]at hrow hrl hnull |-;clear hfm hro hpre hNB hNr hT hrs hf hcl hrest hmem m1 m2 hsb hrr hN hiv bx bf hxW hx;have hnone:=hid fun(h:N.length≠1)=>(by
  rw[hro'.out];split
  ·exact absurd rfl h
  ·rfl:a5D x c s=none)
 have hsome:=hid fun d (h:N= [d])=>(by rw[hro'.out,h]:a5D x c s=some d);by_cases hk:N.length=1
 ·obtain⟨d,rfl⟩:=List.length_eq_one_iff.1 hk
  have hsd:=hsome.out d rfl;obtain⟨rest',hrest'⟩:=hpre'.out d hsd;have hdl:d.length=c:=hNr'.out d (by simp);have hdB:BR 68719476736 d:=fun q hq=>by
   have:=hNB'.out d (by simp) q hq;have h2:=Nat.mul_le_mul_left 42875 hBB;omega
  have hdl':=hid hdl;have hdB':=hid hdB;clear hnone hsome hro' hNr' hNB' hk hpre' hdl hdB;go_enter Tryz.func204,Tryz.ntmps204
  go_upto_region 2 with(first
   |(go_at_call 92;refine hrow.mono ?_;rintro ee w1 ⟨t1,ra,rc,rfl,hO1⟩;have hM1:MV (mk H w1) (.slice ra (c - 1) rc) (a1v x s):=⟨ra,rc,by rw[hrl.out],by have:=hO1.lenCap;rw[hrl.out]at this;rw[hrl.out];exact this,hO1.sl RV.elem⟩)
   |(go_at_call 205;refine(hnull.out w1 ra rc (hXW.ext t1) hM1).mono ?_;rintro ee w2 ⟨t2,u2,rfl,na,nc,rfl,hnc,hns⟩))
  have tW2:=t1.trans t2;have hX2:HX H w2:=hXW.ext tW2;have hEd:Ext w2 w2.drew:=(ExtX.refl w2).drew;obtain⟨a1,c1,hX1,hc1,hcl1,hq1⟩:=hns.row 0 (by simp);have hh:Hd na 1:=hns.hd;have hc1':Hid (∀Y W',ExtX Y w2 W'->Y (adr na 0).block=false->W'.cell? (adr na 0)=some (.slice a1 c c1)):=hid fun Y W' h1 h2=>by have:=hc1.out Y W' h1 h2;simpa[hdl'.out]using this
  have hq1':Sl QC 3 (mk H w2) a1 d:=hq1;have hcc:d.length<=c1:=hcl1;have hvd:RV (mk H w2.drew) (.slice a1 c c1) d:=⟨a1,c1,by rw[hdl'.out],hcc,(hq1'.mono QC.mono (a0k hEd)).qv hdB'.out⟩;have i0:∀W,(Instr.indexAt 25 (.slice na 1 nc) (.int .i64 0)).run Tryz.prog W= .ok (.pointer (some (adr na 0))) W:=a1f a0L na 1 nc .i64 0 hh (by decide) rfl;have hwS:w2.drew.cell? ⟨b+1,0,none⟩=some (.func (.func cb) #[] caps)/\w2.drew.cell? (adr na 0)=some (.slice a1 c c1):=⟨(hbf.out.ext0 (tW2.trans hEd)).cell 0 rfl,hc1'.out noY _ hEd rfl⟩;have hiv2:=hInv _ _ _ hiv'.out (ExtX.of (tW2.trans hEd));have hcal:=hCB _ d w2.drew (.slice a1 c c1) hiv2 ⟨rest',hrest'⟩ hvd hdl'.out (by have:=(tW2.trans hEd).size;have:=hW'.out;omega);have hfin:=hid fun w3 (h1:Inv (D.filterMap (a5D x c)++[d]) w3) (h2:a8d b 8 w2.drew w3)=>(by
   have hks:∀k,a2C b 8 k=true->w3.heap[k]? =W.heap[k]?:=fun k hk=>by
    rw[h2.2 k hk];exact(tW2.trans hEd).block k (by have:=a0O.1 hk;have:=hW'.out;omega) rfl
   have hsz:W.heap.size<=w3.heap.size:=Nat.le_trans (tW2.trans hEd).size h2.1;refine⟨rfl,⟨?_,?_,?_,by have:=hW'.out;omega⟩,hsz,fun k hk=>hks k ?_⟩
   ·rw[hfm'.out,hsd];exact h1
   ·show w3.heap[b]? =_
    rw[hks b (a0O.2 (by omega))];exact hbx.out
   ·show w3.heap[b+1]? =_
    rw[hks (b+1) (a0O.2 (by omega))];exact hbf.out
   ·have:b+2<=k/\k<b+2+6:=by simpa[a5v]using hk
    exact a0O.2 (by omega):Ending.returned (.tuple #[])= .returned (.tuple #[])/\b3K cb caps Inv b c x ao n ca (D++[s]) w3/\b2C (b+2) W w3)
  clear hrow hnull hO1 hM1 hns hc1 hc1' hq1 hq1' hcl1 hnc hvd hiv2 t1 t2 tW2 hX2 hcc hrest' hiv' hX1
  (try simp only[Act.put])
  refine a0K 4 (fun w'=>w'.cell? ⟨b+1,0,none⟩=some (.func (.func cb) #[] caps)/\w'.cell? (adr na 0)=some (.slice a1 c c1)) (by kernel_rfl) (by kernel_rfl) hwS (fun hHeld hOnce=>?_);refine kt 0 hOnce ?_;refine kt 1 hOnce ?_;refine kt 2 hOnce ?_;refine kt 3 hOnce ?_;refine kl 4 (fun K hK=>?_);go_simp
  refine hcal.mono ?_;rintro ee w3 ⟨rfl,hiv3,hkp⟩;refine hK.out _ _ ?_;clear hK K;go_wp2_with fail
  go_end0
  exact⟨rfl,(hfin.out w3 hiv3 hkp).2⟩
 ·have hk1:((N.length:Int)==1)=false:=a2S (by omega)
  have hsd:=hnone.out hk;obtain⟨m,hm⟩:∃m,N.length=m:=⟨_,rfl⟩;rw[hm]at hk1;clear hnone hsome hk;go_enter Tryz.func204,Tryz.ntmps204
  go_wp2_with (first
   |(go_at_call 92;refine hrow.mono ?_;rintro ee w1 ⟨t1,ra,rc,rfl,hO1⟩;have hM1:MV (mk H w1) (.slice ra (c - 1) rc) (a1v x s):=⟨ra,rc,by rw[hrl.out],by have:=hO1.lenCap;rw[hrl.out]at this;rw[hrl.out];exact this,hO1.sl RV.elem⟩)
   |(go_at_call 205;refine(hnull.out w1 ra rc (hXW.ext t1) hM1).mono ?_;rintro ee w2 ⟨t2,u2,rfl,na,nc,rfl,hnc,hns⟩;rw[hm]))
  go_end0
  have tW2:=t1.trans t2;refine⟨rfl,⟨?_,hbx.out.ext0 tW2,hbf.out.ext0 tW2,by have:=tW2.size;have:=hW'.out;omega⟩,tW2.size,fun k hk=>tW2.block k (by have:b+2<=k/\k<b+2+6:=(by simpa[a5v]using hk);have:=hW'.out;omega) rfl⟩;rw[hfm'.out,hsd,List.append_nil];exact hInv _ _ _ hiv'.out (ExtX.of tW2)
theorem b3K.own{b c n f:Nat}{x:Mat}{ao:Option Addr}{D:List (List Int)}{W W':World}(a:∀done W W',Inv done W->ExtX (a2C b 8) W W'->Inv done W')(h:b3K cb caps Inv b c x ao n f D W)(d:ExtX (a5v (b+2)) W W'):b3K cb caps Inv b c x ao n f D W':=by
 obtain⟨i,j,l,m⟩:=h;have g:∀k,k<b+2->a5v (b+2) k=false:=fun k e=>by
  cases h:a5v (b+2) k
  ·rfl
  ·have:b+2<=k/\k<b+2+6:=by simpa[a5v]using h
   omega
 exact⟨a _ _ _ i (d.weaken fun k _ e=>by
  cases h:a5v (b+2) k
  ·rfl
  ·have:b+2<=k/\k<b+2+6:=by simpa[a5v]using h
   rw[a0O.2 (by omega)]at e;exact absurd e (by decide)),j.ext d (g _ (by omega)),l.ext d (g _ (by omega)),Nat.le_trans m d.size⟩
theorem b6q(H:Nat->Bool)(w:World)(u:Value)(x:Mat)(n c B nb:Nat)(i:nb=if c=1 then 2 else 8)(b2:∀(args:Array Value) (W:World),Sem.run Tryz.prog (callFunc cb args) W= .ok (.enter cb args) W)(Y:∀k,H k=true->k<w.heap.size+nb)(y:∀k,a2C w.heap.size nb k=true->H k=true)(hx:MV (mk H w) u x)(hs:Shp n c x)(c6:1<=n)(o:n<=64)(c2:1<=c)(a8:c<=4)(hB:BM B x)(a1:1<=B)(a2:B<=1000)(G:∀done W,Inv done W->ExtX H w W)(a:∀done W W',Inv done W->ExtX (a2C w.heap.size nb) W W'->Inv done W')(h:∀done d W vd,Inv done W->(∃V,done++[d]++V=a1m x c)->RV (mk H W) vd d->d.length=c->w.heap.size+nb<=W.heap.size->Calls Tryz.prog cb (#[vd]++caps) W (fun e W'=>e= .returned (.tuple #[])/\Inv (done++[d]) W'/\a8d w.heap.size nb W W'))(h0:Inv [] w):Calls Tryz.prog 123 #[u, .func (.func cb) #[] caps] w (fun e W'=>e= .returned (.tuple #[])/\Inv (a1m x c) W'):=by
 have c5:∀(fn:Fn) (first D:Array Value) (w:World),(Instr.makeFunc fn first D).run Tryz.prog w= .ok (.func fn first D) w:=fun _ _ _ _=>rfl;obtain⟨ao,t,rfl,a9,j⟩:=hx;have l:x.length=n:=hs.1;obtain⟨W,hW,E,C,X,hz⟩:=a0W w #[.slice ao x.length t] #[.func (.func cb) #[] caps] 25 137;have p:=j.mono RV.mono (a0k E);obtain⟨a0,c0,a3,A,L,b4⟩:=p.row 0 (by omega);have P:x[0].length=c:=hs.2 _ (List.getElem_mem _);have b3:=j.hd;rw[P]at A;have k0:=A.out noY W (ExtX.refl _) rfl;have g:=a _ _ _ h0 (ExtX.of E);have U:MV (mk H w) (.slice ao n t) x:=⟨ao,t,by rw[l],a9,j⟩;rw[l]at C b3 |-;obtain⟨b,hb⟩:∃b,w.heap.size=b:=⟨_,rfl⟩;have a6:=hid hb;rw[hb]at C X hz Y y a h;rw[l]at hW;have kx:W.cell? ⟨b,0,none⟩=some (.slice ao n t):=C.cell 0 rfl;have a7:b+2<=W.heap.size:=by omega
 clear A b4 j p P L a3;by_cases hc:c=1
 ·subst hc
  rw[if_pos rfl]at i;subst i;have a5:HX H W:=fun k hk=>by have:=Y k hk;omega
  have v:Ext W W.drew:=(ExtX.refl W).drew;have I:=a5.ext v;have O:a1m x 1= [[1]]:=by simp[a1m]
  have b6:W.drew.cell? ⟨b+1,0,none⟩=some (.func (.func cb) #[] caps):=v.cell (X.cell 0 rfl);go_enter Tryz.func123,Tryz.ntmps123
  go_upto_region 3 with(with_reducible refine a0n a0L (by omega) (by assumption) ?_)
  (try simp only[Act.put])
  refine a0K 3 (fun w'=>w'.cell? ⟨b+1,0,none⟩=some (.func (.func cb) #[] caps)) (by kernel_rfl) (by kernel_rfl) b6 (fun f z=>?_);refine kt 0 z ?_;refine ks 1 (fun K m=>?_);go_simp
  ((with_reducible refine(b1X H W.drew 1 I (by decide) (by decide)).mono ?_);rintro ee Z ⟨ga,ua,rfl,S⟩;obtain⟨s4,a4,n4,c4,d4,k4,e4,rfl⟩:=S.shape)
  refine kcn m (ga.cell f) (fun f=>?_);clear m K;have hL:=(a8G H Z s4 a4 n4 c4 d4 k4 e4 _ 41 (I.ext ga) S).sl QC.elem;obtain⟨wb,b7,gb,bq,b8⟩:=a0J Z #[.bool s4, .slice a4 n4 c4, .slice d4 k4 e4] 41;rw[b7]at hL;have T:RV (mk H wb) (.slice (some ⟨Z.heap.size,0,none⟩) 1 1) [1]:=⟨_,1,rfl,Nat.le_refl _,hL.qv fun q hq=>by
   have:q=(((1:Int)):Rat):=by simpa using hq
   rw[this];decide+kernel⟩
  have F:Ext W wb:=v.trans (ga.trans gb);have J:=h [] [1] wb (.slice (some ⟨Z.heap.size,0,none⟩) 1 1) (a _ _ _ g (ExtX.of F)) ⟨[],by rw[O];rfl⟩ T rfl (by have:=F.size;omega);clear hL T bq b8;refine ks 2 (fun K m=>?_);go_simp
  skip
  refine kcn m (gb.cell f) (fun f=>?_);clear m K;refine kl 3 (fun K m=>?_);go_simp
  refine J.mono ?_;rintro ee w3 ⟨rfl,M,c3⟩;refine m.out _ _ ?_;clear m K;go_wp2_with fail
  refine bodyPost_ret (results_none rfl _ _ _) rfl ?_;exact⟨rfl,by rw[O];exact M⟩
 ·rw[if_neg hc]at i
  subst i;have b9:((c:Int)==1)=false:=a2S (by omega);have c1:IntKind.i64.wrap ((c:Int) - 1)=((c - 1:Nat):Int):=by rw[IntWalk.i64_in _ (by omega)];omega
  have N:b3K cb caps Inv b c x ao n t [] W:=⟨g,C,X,a7⟩;have r:=a7W 204 n (c - 1) #[.pointer (some ⟨b,0,none⟩), .pointer (some ⟨b+1,0,none⟩)] (b3K cb caps Inv b c x ao n t) W (fun _ _=>rfl) o (by omega)
   (fun done W1 W2 hi E=>hi.own cb caps Inv a (by rw[hz]at E;exact E))
   (fun done s W1 hi b5 R h9=>by
    rw[hz]at R h9 |-;exact b7p cb caps Inv H w b c n B x ao t done s W1 b2 a6.out Y y U hs o (by omega) a8 hB a1 a2 G a h hi b5 R h9) N
  clear N g h a G Y y U C X;go_enter Tryz.func123,Tryz.ntmps123
  go_wp2_with (first|(with_reducible refine a0n a0L (by omega) (by assumption) ?_))
  refine r.mono ?_;rintro ee w3 ⟨rfl,hr,_⟩;have Q:a1m x c=(a1e n (c - 1) 0).filterMap (a5D x c):=by unfold a1m;rw[if_neg hc,l]
  rw[<-Q]at hr;clear r Q;go_wp2_with fail
  go_end0
  exact⟨rfl,hr⟩
end
end Go.Proofs.YtnnpfhoigmegcaaGreat
namespace Go.Lin
open Go.Lim Go.Rep
theorem a6L{q:Rat}:q.num.sign=0↔q=0:=by
 rw[Int.sign_eq_zero_iff_zero];exact Rat.num_eq_zero
def a4I(x:Mat)(c:Nat)(d:List Rat)(i:Nat):Nat:=a4t (x.take i) c d
theorem a9z{x:Mat}{c:Nat}{d:List Rat}{i:Nat}(h:i<x.length):a4I x c d (i+1)=a4I x c d i+(if dot c (vec d) (vec x[i])=0 then 1 else 0):=by
 unfold a4I a4t;rw[List.take_succ_eq_append_getElem h,List.countP_append,List.countP_singleton];by_cases a:dot c (vec d) (vec x[i])=0<;>simp[a]
theorem b1i(x:Mat)(c:Nat)(d:List Rat):a4I x c d x.length=a4t x c d:=by unfold a4I;rw[List.take_length]
theorem b2U(x:Mat)(c:Nat)(d:List Rat)(i:Nat):a4I x c d i<=i:=by
 have:=a6F (x.take i) c d;unfold a4I;simp at this;omega
theorem b1j(l:List Nat)(k:Nat):b0Q (l++[k])=max (b0Q l) k:=by unfold b0Q;rw[List.foldl_append];rfl
noncomputable def plE(m:List (List Rat)):Int:=if a5l m=true then 0 else 6
noncomputable def plN(m:List (List Rat)):Nat:=if a5l m=true then a4g m (a0u m)else 0
end Go.Lin
namespace Go.Proofs.YtnnpfhoigmegcaaGreat
open Go.RowKit Go.Rep Go.Lim Go.Lin
theorem b5j(H:Nat->Bool)(W:World)(vd:Value)(d:List Rat)(x:Mat)(n c B bx bm k:Nat)(ao:Option Addr)(ca:Nat)(E:HX H W)(hx:MV (mk H W) (.slice ao n ca) x)(hd:RV (mk H W) vd d)(O:d.length=c)(hs:Shp n c x)(a9:n<=64)(a3:c<=4)(hB:BM B x)(a2:B<=1000)(a4:BR 42875000 d)(a0:Bx W bx #[.slice ao n ca] 25)(Z:Bx W bm #[.int .i64 (k:Int)] 3)(_:k<=64):Calls Tryz.prog 124 #[vd, .pointer (some ⟨bx,0,none⟩), .pointer (some ⟨bm,0,none⟩)] W (fun e W'=>e= .returned (.tuple #[])/\ExtX (ob (some ⟨bm,0,none⟩)) W W'/\Bx W' bm #[.int .i64 ((max k (a4t x c d):Nat):Int)] 3):=by
 obtain⟨C,dc,rfl,N,P⟩:=hd;have U:Sl RV 1 (mk H W) ao x:=by
  obtain⟨_,_,he,_,h⟩:=hx;simp only[Value.slice.injEq]at he;obtain⟨rfl,_,rfl⟩:=he;exact h
 have w:x.length=n:=hs.1;have a6:=U.hd;rw[w]at a6;have Q:=hid (show RV (mk H W) (.slice C d.length dc) d from⟨C,dc,rfl,N,P⟩);have kx:W.cell? ⟨bx,0,none⟩=some (.slice ao n ca):=a0.cell 0 rfl;have z:=hid w;have a8:=hid hs;have y:=hid (b1i x c d);rw[w]at y;obtain⟨m,X⟩:∃m,d.length=m:=⟨_,rfl⟩;rw[X]at Q;have b1:Hid (m=c):=hid (by rw[<-X,O]);rw[X];clear X w hs hx P N;go_enter Tryz.func124,Tryz.ntmps124
 go_wp2_with fail
 go_loopw [4,9] (fun q cc wr=>∃i:Nat,cc= .int .i64 i/\q= .int .i64 (a4I x c d i:Int)/\i<=n/\Ext W wr) (fun _ cc _=>n - (intOf cc).toNat)
 case atStart=>exact⟨0,rfl,by simp[a4I,a4t],Nat.zero_le _,ExtX.refl _⟩
 case round=>
  obtain⟨i,rfl,rfl,hi,p⟩:=hrel;by_cases a7:i<n
  ·have I:i<x.length:=by rw[z.out];exact a7
   have t:=b2U x c d i;have v:=hid (a9z (c:=c) (d:=d) I);obtain⟨Y,c1,b0,F,l,R⟩:=(U.mono RV.mono (a0k p)).row i I;have b:x[i].length=c:=a8.out.2 _ (List.getElem_mem _);have S:=hB _ (List.getElem_mem I);have r:=a8V b a3 S a4 (by decide) a2;have T:RV (mk H wr) (.slice Y c c1) x[i]:=⟨Y,c1,by rw[b],by rw[b]at l;rw[b];exact l,R⟩;have g:=hid (a8J H wr (.slice Y c c1) (.slice C m dc) x[i] d (E.ext p) T (mkx RV.mono Q.out p) (by omega) (by rw[b,O]) (fun q hq=>Nat.le_trans (r.1 q hq) (by decide)) (fun q hq=>Nat.le_trans (r.2 q hq) (by decide)));have s:Hid (hq (b2v x[i] d)<=68719476736):=hid (Nat.le_trans (r.1 _ (Nat.le_refl _)) (by decide));rw[a6K b]at g s;rw[b]at F;have k1:=F.out noY wr (ExtX.refl _) rfl;obtain⟨D,hD⟩:∃D,dot c (vec d) (vec x[i])=D:=⟨_,rfl⟩;rw[hD]at g s v;obtain⟨f,G⟩:∃f,a4I x c d i=f:=⟨_,rfl⟩;rw[G]at t v |-;have ef:IntKind.i64.wrap ((f:Int)+1)=(f:Int)+1:=IntWalk.i64_in _ (by omega);clear F R l b S r T hD G;by_cases M:D=0
   ·have J:(D.num.sign==(0:Int))=true:=by rw[a6L.2 M];rfl
    have o:Hid (a4I x c d (i+1)=f+1):=hid (by rw[v.out,if_pos M]);obtain⟨sg,a⟩:∃sg,D.num.sign=sg:=⟨_,rfl⟩;have K:=hid fun j u (h1:HX H j) (h2:QC (mk H j) u D)=>(by have:=a7D H j u D h1 (h2.qv s.out);rw[a]at this;exact this:Calls Tryz.prog 125 #[u] j (a2L j sg));rw[a]at J;clear a M;go_wp2_with (first|(with_reducible refine a0n a0L (by omega) (by assumption) ?_)|(go_at_call 98;refine g.out.mono ?_;rintro ee w1 ⟨V,u1,rfl,L⟩)|(go_at_call 125;refine(K.out w1 u1 ((E.ext p).ext V) L).mono ?_;rintro ee j ⟨t2,rfl⟩))
    go_roundw
    case rel=>exact⟨i+1,by go_num,by rw[o.out];go_num,by omega,p.trans (V.trans t2)⟩
    case measure=>simp[intOf];omega
   ·have J:(D.num.sign==(0:Int))=false:=a2S (fun h=>M (a6L.1 h))
    have o:Hid (a4I x c d (i+1)=f):=hid (by rw[v.out,if_neg M];rfl);obtain⟨sg,a⟩:∃sg,D.num.sign=sg:=⟨_,rfl⟩;have K:=hid fun j u (h1:HX H j) (h2:QC (mk H j) u D)=>(by have:=a7D H j u D h1 (h2.qv s.out);rw[a]at this;exact this:Calls Tryz.prog 125 #[u] j (a2L j sg));rw[a]at J;clear a M;go_wp2_with (first|(with_reducible refine a0n a0L (by omega) (by assumption) ?_)|(go_at_call 98;refine g.out.mono ?_;rintro ee w1 ⟨V,u1,rfl,L⟩)|(go_at_call 125;refine(K.out w1 u1 ((E.ext p).ext V) L).mono ?_;rintro ee j ⟨t2,rfl⟩))
    go_roundw
    case rel=>exact⟨i+1,by go_num,by rw[o.out],by omega,p.trans (V.trans t2)⟩
    case measure=>simp[intOf];omega
  ·obtain rfl:n=i:=by omega
   rw[y.out];have t:=a6F x c d;rw[z.out]at t;obtain⟨f,G⟩:∃f,a4t x c d=f:=⟨_,rfl⟩;rw[G]at t
   (try rw[G])
   have A:=Z.ext0 p;have km:wr.cell? ⟨bm,0,none⟩=some (.int .i64 (k:Int)):=A.cell 0 rfl;have a5:=hid G;clear G kx;have fm:wr.frozen? ⟨bm,0,none⟩=false:=A.frozen 0;obtain⟨r4,y4⟩:=a0x A (.int .i64 (max (k:Int) (f:Int))) (i:=0) (by simp);go_wp2_with fail
   go_end0
   refine⟨rfl,(ExtX.of p).trans y4,?_⟩;rw[a5.out,show((max k f:Nat):Int)=max (k:Int) (f:Int)by omega];exact r4
theorem b6r(X:Nat->Bool)(w:World)(u:Value)(x:List (List Rat))(B:Nat)(hX:HX X w)(hu:MV (mk X w) u x)(hl:x.length<=1099511627776)(hB:BM B x)(hB1:1<=B)(hBB:B<=1000):Calls Tryz.prog 50 #[u] w (fun e w'=>Ext w w'/\e= .returned (.tuple #[.int .i64 (plN x:Int), .int .i64 (plE x)])):=by
 have hmf:∀(fn:Fn) (first cap:Array Value) (w:World),(Instr.makeFunc fn first cap).run Tryz.prog w= .ok (.func fn first cap) w:=fun _ _ _ _=>rfl;obtain⟨ao,ca,rfl,hca,hsa⟩:=hu;obtain⟨n,hn⟩:∃n,x.length=n:=⟨_,rfl⟩;have hn':=hid hn;rw[hn]at hca hl |-;obtain⟨W,hW,hE,b0,hz⟩:=a0J w #[.slice ao n ca] 25;have hsW:=hsa.mono RV.mono (a0k hE);have hXW:HX X W:=hX.ext hE;have huW:MV (mk X W) (.slice ao n ca) x:=⟨ao,ca,by rw[hn],by rw[hn];exact hca,hsW⟩;have hdes:=b1h X W (.slice ao n ca) x huW (by rw[hn];exact hl);obtain⟨b,hb⟩:∃b,w.heap.size=b:=⟨_,rfl⟩;rw[hb]at b0 hz;have k0:W.cell? ⟨b,0,none⟩=some (.slice ao n ca):=b0.cell 0 rfl;cases hd:a5l x with
 |false=>
  have e1:plE x=6:=by unfold plE;rw[hd,if_neg (by decide)]
  have e2:(plN x:Int)=0:=by unfold plN;rw[hd,if_neg (by decide)];rfl
  rw[hd]at hdes;rw[e1,e2];clear hd e1 e2 hsW huW hXW;go_enter Tryz.func50,Tryz.ntmps50
  go_wp2_with (first|(go_at_call 107;refine hdes.mono ?_;rintro ee w1 ⟨hw1,rfl⟩;obtain rfl:=hw1.symm))
  go_ret2
  exact⟨hE,rfl⟩
 |true=>
  obtain⟨hs,h1,h64,hc1,hc4⟩:=a5m hd;rw[hn]at hs h1 h64;have e1:plE x=0:=by unfold plE;rw[hd,if_pos rfl]
  have e2:plN x=a4g x (a0u x):=by unfold plN;rw[hd,if_pos rfl]
  rw[hd]at hdes;rw[e1,e2];have hfu:=hid fun w1 (h:Ext W w1)=>b6p X w1 (.slice ao n ca) x B (hXW.ext h) (mkx MV.mono huW h) hd hB hB1 hBB;have hpl:=hid (b2K x (a0u x));obtain⟨c,hc⟩:∃c,a0u x=c:=⟨_,rfl⟩;rw[hc]at hs hc1 hc4 hfu hpl |-;by_cases hr:(a1P x c).2.length=c
  ·have hpe:a4g x c=b0Q ((a1m x c).map (a4t x c)):=by unfold a4g;rw[if_neg (by omega)]
   rw[decide_eq_true hr]at hfu;rw[hpe];have hpe':=hid hpe;clear hpl hr hd e1 e2 hc hpe;go_enter Tryz.func50,Tryz.ntmps50
   go_wp2_with (first|(go_at_call 107;refine hdes.mono ?_;rintro ee w1 ⟨hw1,rfl⟩;obtain rfl:=hw1.symm)|(go_at_call 108;refine(hfu.out W (ExtX.refl _)).mono ?_;rintro ee w2 ⟨t2,rfl⟩;have k2:=t2.cell k0;obtain⟨w3,hw3,t3,b3,hz3⟩:=a0J w2 #[.int .i64 0] 3;have k3:(w2.alloc (.cells #[.int .i64 0] 3)).cell? ⟨b,0,none⟩=some (.slice ao n ca):=by{rw[hw3];exact t3.cell k2};have hw3':=hid hw3;clear hw3))
   rw[hw3'.out];obtain⟨bm,hbm⟩:∃bm,w2.heap.size=bm:=⟨_,rfl⟩;rw[hbm]at b3 hz3
   (try rw[hbm])
   obtain⟨nb,hnb⟩:∃nb,nb=if c=1 then 2 else 8:=⟨_,rfl⟩
   have hE3:Ext W w3:=t2.trans t3;have hbbm:b<bm:=by have:=t2.size;omega
   have b03:=b0.ext0 hE3;have hwX:∀k,X k=true->k<w.heap.size:=hX;have hHm:∀k,(X k||((k==bm)||a2C (bm+1) nb k))=true↔X k=true\/k=bm\/(bm+1<=k/\k<bm+1+nb):=fun k=>by
    simp only[Bool.or_eq_true,beq_iff_eq,a0O]
   have hy:∀k,((k==bm)||a2C (bm+1) nb k)=true↔k=bm\/(bm+1<=k/\k<bm+1+nb):=fun k=>by
    simp only[Bool.or_eq_true,beq_iff_eq,a0O]
   have hHX:Le (mk X w2) (mk (fun k=>X k||((k==bm)||a2C (bm+1) nb k)) w3):=a0Z t3 (fun k _ hk=>by simp[noY]at hk) fun k hk hz=>by
    rcases(hHm k).1 hz with h|h|h
    ·exact h
    ·omega
    ·omega
   have hx3:MV (mk (fun k=>X k||((k==bm)||a2C (bm+1) nb k)) w3) (.slice ao n ca) x:=MV.mono _ _ _ _ hHX (mkx MV.mono huW t2);have hnb2:2<=nb:=by rw[hnb];split<;>decide
   have hray:=b6q 124 #[.pointer (some ⟨b,0,none⟩), .pointer (some ⟨bm,0,none⟩)]
    (fun done W'=>ExtX (fun k=>(k==bm)||a2C (bm+1) nb k) w3 W'/\Bx W' b #[.slice ao n ca] 25/\Bx W' bm #[.int .i64 ((b0Q (done.map (a4t x c)):Nat):Int)] 3/\(∀d∈done,True))
    (fun k=>X k||((k==bm)||a2C (bm+1) nb k)) w3 (.slice ao n ca) x n c B nb hnb (fun _ _=>rfl)
    (fun k hk=>by
     rcases(hHm k).1 hk with h|h|h
     ·have:=hwX k h;have:=hE.size;have:=hE3.size;omega
     ·omega
     ·omega)
    (fun k hk=>by rw[hz3]at hk;exact(hHm k).2 (Or.inr (Or.inr (a0O.1 hk)))) hx3 hs h1 h64 hc1 hc4 hB hB1 hBB
    (fun done W' hi=>hi.1.weaken fun k _ hk=>by
     cases h:((k==bm)||a2C (bm+1) nb k)
     ·rfl
     ·rw[(hHm k).2 (Or.inr ((hy k).1 h))]at hk;exact absurd hk (by decide))
    (fun done W' W'' hi hE9=>by
     rw[hz3]at hE9;have hob:∀k,k<=bm->a2C (bm+1) nb k=false:=fun k hk=>by
      cases h:a2C (bm+1) nb k
      ·rfl
      ·have:=a0O.1 h;omega
     exact⟨hi.1.trans (hE9.weaken fun k _ hk=>by
      cases h:a2C (bm+1) nb k
      ·rfl
      ·rw[(hy k).2 (Or.inr (a0O.1 h))]at hk;exact absurd hk (by decide)),hi.2.1.ext hE9 (hob _ (by omega)),hi.2.2.1.ext hE9 (hob _ (Nat.le_refl _)),hi.2.2.2⟩)
    (fun done d W' vd hi hpre hvd hdl hsz=>by
     obtain⟨rest,hrest⟩:=hpre;have hmem:∀q∈done++[d],q∈a1m x c:=fun q hq=>by rw[<-hrest];exact List.mem_append_left _ hq
     have hdm:=a4M hs hn'.out hc1 hc4 (a9n hB hB1) hBB (hmem d (by simp));have hdB:BR 42875000 d:=fun q hq=>by
      have:=hdm.2 q hq;have h2:=Nat.mul_le_mul_left 42875 hBB;omega
     have hXW':HX (fun k=>X k||((k==bm)||a2C (bm+1) nb k)) W':=fun k hk=>by
      rcases(hHm k).1 hk with h|h|h
      ·have:=hwX k h;have:=hE.size;have:=hE3.size;omega
      ·omega
      ·omega
     have hxW':MV (mk (fun k=>X k||((k==bm)||a2C (bm+1) nb k)) W') (.slice ao n ca) x:=MV.mono _ _ _ _ (a0E hi.1 fun k hk=>(hHm k).2 (Or.inr ((hy k).1 hk))) hx3;have hkm:b0Q (done.map (a4t x c))<=64:=b0R fun q hq=>by
      obtain⟨r,_,rfl⟩:=List.mem_map.1 hq;have:=a6F x c r;rw[hn'.out]at this;omega
     refine(b5j _ W' vd d x n c B b bm _ ao ca hXW' hxW' hvd hdl hs h64 hc4 hB hBB hdB hi.2.1 hi.2.2.1 hkm).mono ?_;rintro e W'' ⟨rfl,hE9,bm9⟩;have hobm:∀k,ob (some ⟨bm,0,none⟩) k=true->k=bm:=fun k hk=>by
      have:bm=k:=by simpa[ob]using hk
      exact this.symm
     refine⟨rfl,⟨hi.1.trans (hE9.weaken fun k _ hk=>?_),hi.2.1.ext hE9 (a0b (by omega)),?_,fun _ _=>trivial⟩,?_⟩
     ·cases h:ob (some ⟨bm,0,none⟩) k
      ·rfl
      ·rw[(hy k).2 (Or.inl (hobm k h))]at hk;exact absurd hk (by decide)
     ·rw[List.map_append,List.map_singleton,b1j];exact bm9
     ·rw[hz3]
      exact a8d.of hE9 (fun k hk=>by
       rw[hobm k hk];cases h:a2C (bm+1) nb bm
       ·rfl
       ·have:=a0O.1 h;omega) (by rw[hz3]at hsz;exact hsz))
    ⟨ExtX.refl _,b03,b3,fun _ _=>trivial⟩
   refine hray.mono ?_;rintro ee w4 ⟨rfl,hE4,bx4,bm4,_⟩;have km:w4.cell? ⟨bm,0,none⟩=some (.int .i64 ((b0Q ((a1m x c).map (a4t x c)):Nat):Int)):=bm4.cell 0 rfl;obtain⟨R,hR⟩:∃R,b0Q ((a1m x c).map (a4t x c))=R:=⟨_,rfl⟩;rw[hR]at km;have hR':=hid hR;clear hR;have hEw:Ext w w4:=(hE.trans hE3).then_ hE4 fun k hk _=>by
    cases h:((k==bm)||a2C (bm+1) nb k)
    ·rfl
    ·have:=(hy k).1 h;have:=hE.size;omega
   clear hray bm4 bx4;go_wp2_with fail
   go_ret2
   refine⟨hEw,?_⟩;rw[hR'.out];rfl
  ·have hlt:(a1P x c).2.length<c:=by have:=a5d hs;omega
   have hpe:a4g x c=n:=by unfold a4g;rw[if_pos hlt,hn]
   rw[decide_eq_false hr]at hfu;rw[hpe];clear hpl hr hd e1 e2 hc hpe;go_enter Tryz.func50,Tryz.ntmps50
   go_wp2_with (first|(go_at_call 107;refine hdes.mono ?_;rintro ee w1 ⟨hw1,rfl⟩;obtain rfl:=hw1.symm)|(go_at_call 108;refine(hfu.out W (ExtX.refl _)).mono ?_;rintro ee w2 ⟨t2,rfl⟩;have k2:=t2.cell k0))
   go_ret2
   exact⟨hE.trans t2,rfl⟩
end Go.Proofs.YtnnpfhoigmegcaaGreat
namespace Go.Lin
open Go.Lim
def a3B(l:List Rat):List Rat:=(srt l).reverse
theorem a8W(l:List Rat):(a3B l).length=l.length:=by unfold a3B;rw[List.length_reverse,a1W]
theorem a8X{l:List Rat}{x:Rat}:x∈a3B l↔x∈l:=by unfold a3B;rw[List.mem_reverse];exact(a1l l).mem_iff
theorem b2V{s l:List Rat}(c:s.Perm l)(d:s.Pairwise fun a b=>b<=a):s=a3B l:=by
 have h:=a6B (s:=s.reverse) (l:=l) ((List.reverse_perm s).trans c) (List.pairwise_reverse.2 d);unfold a3B;rw[<-h,List.reverse_reverse]
theorem b5k(l:List Rat):a1n (a3B l)=a1n l:=a3m ((List.reverse_perm _).trans (a1l l))
theorem b1k(l:List Rat)(m:Nat):a1n ((a3B l).take m)=a7w l m:=by
 unfold a7w a3B;rw[List.take_reverse,a1W];exact a3m (List.reverse_perm _)
end Go.Lin
namespace Go.Proofs.YtnnpfhoigmegcaaGreat
open Go.RowKit Go.Rep Go.Lim Go.Lin Go.Sort Go.Lib Go.Extern
def gtQ(x y:Rat):Bool:=ltQ y x
theorem b5l{x y:Rat}:gtQ x y=false↔x<=y:=a3n
theorem b5m:SWO gtQ:=
 ⟨fun x=>b4Y.irrefl x,fun x y z a b=>a2l.2 (by have:=a2l.1 a;have:=a2l.1 b;grind),fun x y z a b=>a3n.2 (Rat.le_trans (a3n.1 a) (a3n.1 b))⟩
theorem b5n(d:Array Rat):(Go.Sort.insertionSort gtQ d 0 d.size).toList=a3B d.toList:=by
 obtain⟨⟨b,_,a⟩,h⟩:=Go.Sort.insertionSort_holds b5m d 0 d.size (Nat.zero_le _) (Nat.le_refl _);obtain⟨D,k⟩:∃D,Go.Sort.insertionSort gtQ d 0 d.size=D:=⟨_,rfl⟩;rw[k]at b a h |-;refine b2V ?_ (List.pairwise_iff_getElem.2 fun i j hi l f=>?_)
 ·rw[<-b]at a
  have e:D.size=d.size:=b;rw[show D.extract 0 D.size=D by simp,show d.extract 0 D.size=d by rw[e];simp]at a;exact a
 ·have c:i<D.size:=by simpa using hi
  have g:j<D.size:=by simpa using l
  have:=b5l.1 (h i j (Nat.zero_le _) f (by omega));simpa[getElem!_pos,c,g]using this
theorem a8Y{X:Nat->Bool}{B:Nat}{ao:Option Addr}{e n b:Nat}{d:Array Rat}{w:World}(h:Sorting X B ao e n b d w)(i j:Nat)(hi:i<n)(hj:j<n):Calls Tryz.prog 187 #[.int .i64 i, .int .i64 j, .pointer (some ⟨b,0,none⟩)] w (b3s w (gtQ d[i]! d[j]!)):=by
 have hl:d.toList.length=n:=by simpa using h.size
 have u:i<d.toList.length:=by omega
 have v:j<d.toList.length:=by omega
 obtain⟨q,z,s1,P,n1,R,T,k1,V,F,N,l,o⟩:=h.own.rat QC.shaped i u;obtain⟨s,A,s2,Q,n2,S,U,k2,Y,G,O,m,p⟩:=h.own.rat QC.shaped j v;have C:d.toList[i]=d[i]! :=by simp[getElem!_pos,show i<d.size by rw[h.size];exact hi]
 have D:d.toList[j]=d[j]! :=by simp[getElem!_pos,show j<d.size by rw[h.size];exact hj]
 have H:=h.br _ (List.getElem_mem u);have I:=h.br _ (List.getElem_mem v);rw[C]at o H;rw[D]at p I;have t:=h.own.hd;rw[hl]at t;have M:=h.own.unX h.hid;have hv:=h.var;obtain⟨x,hx⟩:∃x,d[i]! =x:=⟨_,rfl⟩;obtain⟨y,hy⟩:∃y,d[j]! =y:=⟨_,rfl⟩;rw[hx]at o H |-;rw[hy]at p I |-;have f:Ext w w.drew:=(ExtX.refl w).drew;have L:Hid (∀c,Ext w c->c.cell? ⟨b,0,none⟩=some (.slice ao n e)/\c.cell? ⟨q,z,none⟩=some (.bool s1)/\c.cell? ⟨q,z+1,none⟩=some (.slice P n1 R)/\c.cell? ⟨q,z+2,none⟩=some (.slice T k1 V)/\c.cell? ⟨s,A,none⟩=some (.bool s2)/\c.cell? ⟨s,A+1,none⟩=some (.slice Q n2 S)/\c.cell? ⟨s,A+2,none⟩=some (.slice U k2 Y)):=
  Go.Rep.hid fun c h=>⟨h.cell hv,(l.out _ _ h rfl).1,(l.out _ _ h rfl).2.1,(l.out _ _ h rfl).2.2,(m.out _ _ h rfl).1,(m.out _ _ h rfl).2.1,(m.out _ _ h rfl).2.2⟩
 have k:=Go.Rep.hid (b4X (un X ao) w.drew _ _ y x (HX.ext (w:=w) M f) ((mkx QC.mono p f).qv I) ((mkx QC.mono o f).qv H));have i1:∀W,(Instr.indexAt 26 (.slice ao n e) (.int .i64 (i:Int))).run Tryz.prog W= .ok (.pointer (some ⟨q,z,none⟩)) W:=by rw[<-F];exact a0o a1b ao n e .i64 i t hi
 have i2:∀W,(Instr.indexAt 26 (.slice ao n e) (.int .i64 (j:Int))).run Tryz.prog W= .ok (.pointer (some ⟨s,A,none⟩)) W:=by rw[<-G];exact a0o a1b ao n e .i64 j t hj
 unfold gtQ ltQ;obtain⟨r,hr⟩:∃r,decide (b0g y x<0)=r:=⟨_,rfl⟩;rw[hr]at k |-;clear o p l m F G N O h hx hy hr C D H I u v hl hv;go_enter Tryz.func187,Tryz.ntmps187
 go_upto_region 1 with fail
 refine a0K 9 (fun c=>c.cell? ⟨b,0,none⟩=some (.slice ao n e)/\c.cell? ⟨q,z,none⟩=some (.bool s1)/\c.cell? ⟨q,z+1,none⟩=some (.slice P n1 R)/\c.cell? ⟨q,z+2,none⟩=some (.slice T k1 V)/\c.cell? ⟨s,A,none⟩=some (.bool s2)/\c.cell? ⟨s,A+1,none⟩=some (.slice Q n2 S)/\c.cell? ⟨s,A+2,none⟩=some (.slice U k2 Y)) (by kernel_rfl) (by kernel_rfl) (L.out _ f) (fun g a=>?_);refine kt 0 a ?_;refine kt 1 a ?_;refine kt 2 a ?_;refine kt 3 a ?_;refine kt 4 a ?_;refine kt 5 a ?_;refine kt 6 a ?_;refine kt 7 a ?_;refine ks 8 (fun K E=>?_);go_simp
 ((with_reducible refine k.out.mono ?_);rintro ee wa ⟨Z,rfl⟩)
 refine kcn E (L.out _ (f.trans Z)) (fun g=>?_);clear E K;refine kl 9 (fun K E=>?_);go_simp
 refine E.out _ _ ?_;clear E K;have J:=f.trans Z;clear g L k;go_wp2_with fail
 go_ret
 exact⟨J,rfl⟩
theorem b1l(X:Nat->Bool)(base:Nat)(ao:Option Addr)(cap n b:Nat):SortBy gtQ 187 #[.pointer (some ⟨b,0,none⟩)] 316 #[.slice ao n cap,typeHandle Tryz.prog 41] (ob ao) n (Sorting X base ao cap n b) where
 enter:=Go.Proofs.enters_of Tryz.func187 (by kernel_rfl) rfl
 ext _ _ _ h hE:=h.ext hE
 low d w h k hk:=(h.own.block hk).2
 less d w h _ i j hi hj:=(a8Y h i j hi hj).mono fun _ _ ⟨hE,he⟩=>⟨he,hE⟩
 swap d w h hn i j hi hj _:=by
  have hl:d.toList.length=n:=by simpa using h.size
  obtain⟨w',h1,h3,h4⟩:=h.own.run_swap (P:=Tryz.prog) (t:=41) (ti:=a5B) false (by kernel_rfl) (by kernel_rfl) (fun _=>by kernel_rfl) QC.elem (fun _ _ _ h=>by obtain⟨_,_,_,_,_,_,_,rfl⟩:=h.shape;exact⟨_,rfl⟩) i j (by omega) (by omega) cap;rw[hl]at h1;refine⟨w',?_,⟨?_,by rw[size_swp];exact h.size,h4.cellY h.var h.off,h.off,fun k hk=>Nat.lt_of_lt_of_le (h.hid k hk) h4.size,?_⟩,h4⟩
  ·rw[run_callFunc_extern Tryz.func316 (by kernel_rfl) (by kernel_rfl) (by kernel_rfl) (e:=Extern.ReflectliteSwapper.swap false) (by kernel_rfl)]
   rw[show(#[Value.int .i64 (i:Int),Value.int .i64 (j:Int)]++#[Value.slice ao n cap,typeHandle Tryz.prog 41])=#[.int .i64 i, .int .i64 j, .slice ao n cap,typeHandle Tryz.prog 41]from rfl,h1];rfl
  ·rw[a6a d i j (by omega) (by omega)];exact h3
  ·rw[a6a d i j (by omega) (by omega)]
   intro x hx;rcases List.mem_or_eq_of_mem_set hx with hx|rfl
   ·rcases List.mem_or_eq_of_mem_set hx with hx|rfl
    ·exact h.br x hx
    ·exact h.br _ (List.getElem_mem _)
   ·exact h.br _ (List.getElem_mem _)
theorem b5o(X:Nat->Bool)(a:Nat)(ao:Option Addr)(c b:Nat)(l:List Rat)(w:World)(h:Sorting X a ao c l.length b l.toArray w)(C:l.length<=20):Calls Tryz.prog 186 #[.iface 26 (.slice ao l.length c), .func (.func 187) #[] #[.pointer (some ⟨b,0,none⟩)]] w fun e m=> e= .returned (.tuple #[])/\(Sorting X a ao c l.length b (a3B l).toArray m/\ExtX (ob ao) w m):=by
 obtain⟨n,t⟩:∃n,l.length=n:=⟨_,rfl⟩;rw[t]at h C |-;have u:l.toArray.size=n:=by simpa using t
 have s:∀m,Sorting X a ao c n b (Go.Sort.insertionSort gtQ l.toArray 0 n) m->Sorting X a ao c n b (a3B l).toArray m:=fun m D=>by
  have:=b5n l.toArray;rw[u]at this;rw[show(a3B l).toArray=Go.Sort.insertionSort gtQ l.toArray 0 n by rw[<-this]];exact D
 have p:∀(f:Nat) (r:Array Value),SortBy gtQ 187 #[.pointer (some ⟨b,0,none⟩)] f r (ob ao) n (Sorting X a ao c n b)->∀x,Ext w x->
   Calls Tryz.prog 267 #[.agg #[.func (.func 187) #[] #[.pointer (some ⟨b,0,none⟩)], .func (.func f) #[] r], .int .i64 n] x fun e m=>e= .returned (.tuple #[])/\(Sorting X a ao c n b (a3B l).toArray m/\ExtX (ob ao) w m):=fun f r S x q=>
  (a9v S l.toArray x (h.ext q) u C).mono fun _ _ ⟨z,E,_,y⟩=>⟨z,s _ E,(ExtX.of q).trans y⟩
 have g:n<2->∀f r,SortBy gtQ 187 #[.pointer (some ⟨b,0,none⟩)] f r (ob ao) n (Sorting X a ao c n b):=fun v f r=>
  ⟨Go.Proofs.enters_of Tryz.func187 (by kernel_rfl) rfl,fun _ _ _ h q=>h.ext q,fun d w h k G=>(h.own.block G).2,fun d w h _ i j hi B=>(a8Y h i j hi B).mono fun _ _ ⟨q,z⟩=>⟨z,q⟩,fun d w h _ i j hi B F=>by omega⟩
 rcases Nat.lt_or_ge n 2 with v|v
 ·rcases Nat.eq_zero_or_pos n with A|A
  ·have o:swapperK n a5B 25=1:=by rw[swK,if_pos A]
   refine a2k 26 41 b0O a5B (by kernel_rfl) (by kernel_rfl) (by kernel_rfl) (by kernel_rfl) 25 (fun _=>by kernel_rfl) ao n c (by omega) 308 (by rw[o];kernel_rfl) _ _ w _ ?_;rw[o];exact p _ _ (g v _ _)
  ·have o:swapperK n a5B 25=2:=by rw[swK,if_neg (by omega),if_pos (by omega)]
   refine a2k 26 41 b0O a5B (by kernel_rfl) (by kernel_rfl) (by kernel_rfl) (by kernel_rfl) 25 (fun _=>by kernel_rfl) ao n c (by omega) 309 (by rw[o];kernel_rfl) _ _ w _ ?_;rw[o];exact p _ _ (g v _ _)
 ·have o:swapperK n a5B 25=9:=by rw[swK,if_neg (by omega),if_neg (by omega)]
  refine a2k 26 41 b0O a5B (by kernel_rfl) (by kernel_rfl) (by kernel_rfl) (by kernel_rfl) 25 (fun _=>by kernel_rfl) ao n c (by omega) 316 (by rw[o];kernel_rfl) _ _ w _ ?_;rw[o];exact p _ _ (b1l X a ao c n b)
end Go.Proofs.YtnnpfhoigmegcaaGreat
namespace Go.Lin
open Go.Lim Go.Rep
theorem a5n{q:Rat}:q.num.sign<0↔q<0:=by
 constructor
 ·intro h
  have a:q.num<0:=by
   rcases Int.lt_trichotomy q.num 0 with a|a|a
   ·exact a
   ·rw[a]at h;exact absurd h (by decide)
   ·rw[Int.sign_eq_one_of_pos a]at h;exact absurd h (by decide)
  apply Classical.byContradiction;intro b;have:=Rat.num_nonneg.2 (show 0<=q by grind);omega
 ·intro h
  have a:q.num<0:=by
   apply Classical.byContradiction;intro b;have:=Rat.num_nonneg.1 (show 0<=q.num by omega);grind
  rw[Int.sign_eq_neg_one_of_neg a];decide
theorem a5o{q:Rat}:hq (a2m q)<=hq q:=by
 unfold a2m;split
 ·exact Nat.le_of_eq (a3U q)
 ·exact Nat.le_refl _
end Go.Lin
namespace Go.Proofs.YtnnpfhoigmegcaaGreat
open Go.RowKit Go.Rep Go.Lim Go.Lin
theorem b7Z(X:Nat->Bool)(w:World)(u:Value)(x:Rat)(Z:HX X w)(A:QV (mk X w) u x):Calls Tryz.prog 185 #[u] w (a1u X w QC (a2m x)):=by
 have F:=hid A.hq;obtain⟨s1,O,n1,Q,S,k1,U,rfl⟩:=A.shape;obtain⟨W,hW,D,p,B,hz⟩:=a0W w #[.bool s1, .slice O n1 Q, .slice S k1 U] #[.bool false, .slice none 0 0, .slice none 0 0] 41 41;have l:HX (a0e X w.heap.size 2) W:=Z.boxes hz;have j:=QV.mono _ _ _ _ (a0i (nb:=2) D) A;obtain⟨b,hb⟩:∃b,w.heap.size=b:=⟨_,rfl⟩;have a0:w.heap.size<=b:=by omega
 rw[hb]at p B hz l j;have a4:=p.cell 0 rfl;have a5:=p.cell 1 rfl;have a6:=p.cell 2 rfl;have i:=a7D (a0e X b 2) W _ x l j;have f:=hid fun t u y (h:Ext W t) (Y:QV (mk (a0e X b 2) t) u y)=>b6Z (a0e X b 2) t u y (l.ext h) Y;have r:=hid fun t (h:Ext W t)=>mkx QV.mono j h;have H:Hid (hq (-x)<=68719476736):=hid (by rw[a3U];exact F.out);have m:=hid fun(h:x<0)=>(by unfold a2m;rw[if_pos h]:a2m x= -x);have n:=hid fun(h:¬x<0)=>(by unfold a2m;rw[if_neg h]:a2m x=x);clear A j;by_cases d:x<0
 ·have hd:=a5n.2 d
  rw[m.out d];obtain⟨sg,a⟩:∃sg,x.num.sign=sg:=⟨_,rfl⟩;rw[a]at i hd;have E:decide (sg<0)=true:=decide_eq_true hd;clear a d m n;go_enter Tryz.func185,Tryz.ntmps185
  go_wp2_with (first|(go_at_call 125;refine i.mono ?_;rintro z v ⟨e,rfl⟩;have c:=p.ext0 e;have I:=c.cell 0 rfl;have J:=c.cell 1 rfl;have K:=c.cell 2 rfl)|(go_at_call 237;(with_reducible refine(f.out v _ x e (r.out v e)).mono ?_);rintro z N ⟨q,u2,rfl,g⟩;obtain⟨s2,P,n2,R,T,k2,V,rfl⟩:=g.shape;have k:=B.ext0 (e.trans q))|((with_reducible show wpList _ _ _ (⟨_, .store 41 _ _,_,_,_,_⟩::_) _ _);refine a0a a0j rfl rfl k rfl rfl (a1q _ _ _ _ _ _ _) ?_;intro w7 L s))
  have C:=QC.mono _ _ _ _ a0h (QC.mono _ _ _ _ (a0f s (by omega) (by omega)) g);exact bodyPost_ret (a0d rfl rfl a0j L rfl) rfl ⟨ExtX.box (D.trans (e.trans q)) s (by omega),_,rfl,C⟩
 ·have hd:¬x.num.sign<0:=fun h=>d (a5n.1 h)
  rw[n.out d];obtain⟨sg,a⟩:∃sg,x.num.sign=sg:=⟨_,rfl⟩;rw[a]at i hd;have E:decide (sg<0)=false:=decide_eq_false hd;clear a d m n;have G:Hid (- -x=x):=hid (by grind);go_enter Tryz.func185,Tryz.ntmps185
  go_wp2_with (first|(go_at_call 125;refine i.mono ?_;rintro z v ⟨e,rfl⟩;have c:=p.ext0 e;have I:=c.cell 0 rfl;have J:=c.cell 1 rfl;have K:=c.cell 2 rfl)|(go_at_call 237;(with_reducible refine(f.out v _ x e (r.out v e)).mono ?_);rintro z N ⟨q,u2,rfl,g⟩;obtain⟨s2,P,n2,R,T,k2,V,rfl⟩:=g.shape)|(go_at_call 237;(with_reducible refine(f.out N _ (-x) (e.trans q) (g.qv H.out)).mono ?_);rintro z w3 ⟨M,u3,rfl,o⟩;rw[G.out]at o;obtain⟨s3,a3,n3,c3,d3,k3,e3,rfl⟩:=o.shape;have k:=B.ext0 (e.trans (q.trans M)))|((with_reducible show wpList _ _ _ (⟨_, .store 41 _ _,_,_,_,_⟩::_) _ _);refine a0a a0j rfl rfl k rfl rfl (a1q _ _ _ _ _ _ _) ?_;intro w7 L s))
  have C:=QC.mono _ _ _ _ a0h (QC.mono _ _ _ _ (a0f s (by omega) (by omega)) o);exact bodyPost_ret (a0d rfl rfl a0j L rfl) rfl ⟨ExtX.box (D.trans (e.trans (q.trans M))) s (by omega),_,rfl,C⟩
theorem b7q(X:Nat->Bool)(w:World)(u:Value)(x:Rat)(P:HX X w)(t:QV (mk X w) u x):Calls Tryz.prog 46 #[u] w (a1u X w QC (a2m x)):=by
 have S:=hid t.hq;obtain⟨s1,H,n1,J,L,Y,N,rfl⟩:=t.shape;obtain⟨W,hW,A,n,v,hz⟩:=a0W w #[.bool s1, .slice H n1 J, .slice L Y N] #[.bool false, .slice none 0 0, .slice none 0 0] 41 41;have g:HX (a0e X w.heap.size 2) W:=P.boxes hz;have e:=QV.mono _ _ _ _ (a0i (nb:=2) A) t;obtain⟨b,Q⟩:∃b,w.heap.size=b:=⟨_,rfl⟩;have R:w.heap.size<=b:=by omega
 rw[Q]at n v hz g e;have T:=n.cell 0 rfl;have U:=n.cell 1 rfl;have V:=n.cell 2 rfl;have i:=b0j (a0e X b 2) W _ x g e;have o:=hid fun s (h:Ext W s)=>b2b (a0e X b 2) s _ x (g.ext h) (mkx QV.mono e h);have p:=hid fun s (h:Ext W s)=>a4W (a0e X b 2) s _ x (g.ext h) (mkx QV.mono e h);have l:=hid fun(h:x<0)=>(by unfold a2m;rw[if_pos h]:a2m x= -x);have m:=hid fun(h:¬x<0)=>(by unfold a2m;rw[if_neg h]:a2m x=x);clear t e;by_cases d:x<0
 ·have hd:=a5n.2 d
  rw[l.out d];obtain⟨sg,a⟩:∃sg,x.num.sign=sg:=⟨_,rfl⟩;rw[a]at i hd;have B:decide (sg<0)=true:=decide_eq_true hd;clear a d l m;go_enter Tryz.func46,Tryz.ntmps46
  go_wp2_with (first|(go_at_call 42;refine i.mono ?_;rintro y G ⟨j,rfl⟩;have c:=n.ext0 j;have C:=c.cell 0 rfl;have D:=c.cell 1 rfl;have E:=c.cell 2 rfl)|(go_at_call 56;(with_reducible refine(o.out G j).mono ?_);rintro y w2 ⟨r,u2,rfl,f⟩;obtain⟨s2,I,n2,K,M,Z,O,rfl⟩:=f.shape;have k:=v.ext0 (j.trans r))|((with_reducible show wpList _ _ _ (⟨_, .store 41 _ _,_,_,_,_⟩::_) _ _);refine a0a a0j rfl rfl k rfl rfl (a1q _ _ _ _ _ _ _) ?_;intro w7 F q))
  have z:=QC.mono _ _ _ _ a0h (QC.mono _ _ _ _ (a0f q (by omega) (by omega)) f);exact bodyPost_ret (a0d rfl rfl a0j F rfl) rfl ⟨ExtX.box (A.trans (j.trans r)) q (by omega),_,rfl,z⟩
 ·have hd:¬x.num.sign<0:=fun h=>d (a5n.1 h)
  rw[m.out d];obtain⟨sg,a⟩:∃sg,x.num.sign=sg:=⟨_,rfl⟩;rw[a]at i hd;have B:decide (sg<0)=false:=decide_eq_false hd;clear a d l m;go_enter Tryz.func46,Tryz.ntmps46
  go_wp2_with (first|(go_at_call 42;refine i.mono ?_;rintro y G ⟨j,rfl⟩;have c:=n.ext0 j;have C:=c.cell 0 rfl;have D:=c.cell 1 rfl;have E:=c.cell 2 rfl)|(go_at_call 118;(with_reducible refine(p.out G j).mono ?_);rintro y w2 ⟨r,u2,rfl,f⟩;obtain⟨s2,I,n2,K,M,Z,O,rfl⟩:=f.shape;have k:=v.ext0 (j.trans r))|((with_reducible show wpList _ _ _ (⟨_, .store 41 _ _,_,_,_,_⟩::_) _ _);refine a0a a0j rfl rfl k rfl rfl (a1q _ _ _ _ _ _ _) ?_;intro w7 F q))
  have z:=QC.mono _ _ _ _ a0h (QC.mono _ _ _ _ (a0f q (by omega) (by omega)) f);exact bodyPost_ret (a0d rfl rfl a0j F rfl) rfl ⟨ExtX.box (A.trans (j.trans r)) q (by omega),_,rfl,z⟩
end Go.Proofs.YtnnpfhoigmegcaaGreat
