/- Directions one behind the other, and the end of a search for the depth. Conditions: none. The search for the depth over lists: null spaces, pivot columns. Conditions: none. What a search for the depth keeps from round to round, and what it ends with. Conditions: none. Depth and maps of the plane; depth and equal points; counts of directions by rows. Conditions: none. Simplices: a point's weights and directions that part it from the corners; Helly's theorem for open half-spaces. Conditions: none. Natural numbers as lists of digits to the base 2^32, lowest first. Plain mathematics. Conditions: none. Integers and rational numbers as a sign and lists of digits, their only form, and their size. Conditions: none. How large the numbers of an elimination grow. Conditions: none. Matrices whose elimination stays small: those of small numbers, and those that are reduced. Conditions: none. Readings of Go values as lists: what a slice's cells hold, what a call leaves as it was; rules for the walk over them. Conditions: none. -/
import Derived.Test.YtoibhmjjhgaimaaGreatSaA
import Derived.WalkKit
import Derived.WalkSpells
import Derived.WalkLawsBesides
import Derived.Deep.DeepCutAuto
namespace Go.Lin
def a6z (c:Nat):List Vec->Vec->Bool
 | [],_=>true
 |u::us,v=>decide (0<dot c u v)||(decide (dot c u v=0)&&a6z c us v)
def b0w (c:Nat) (us:List Vec) (z:List Vec):Nat:=z.countP fun v=>a6z c us v
theorem b5k (c:Nat) (z:List Vec):b0w c [] z=z.length:=by simp[b0w,a6z]
theorem a5c (c:Nat) (u:Vec) (us z:List Vec):b0w c (u::us) z=a5a c u z+b0w c us (onL c u z):=by
 induction z with
 |nil=>rfl
 |cons v z ih=>
  unfold b0w a5a onL at*;rw[List.countP_cons,List.countP_cons,List.filter_cons,ih];by_cases a:0<dot c u v
  ·rw[if_pos (by simp[a6z,a]),if_pos (by simpa using a),if_neg (by simp;grind)];omega
  ·by_cases b:dot c u v=0
   ·rw[if_neg (c:=decide (0<dot c u v)=true) (by simpa using a),if_pos (c:=decide (dot c u v=0)=true) (by simpa using b),List.countP_cons]
    have e:a6z c (u::us) v=a6z c us v:=by simp[a6z,b]
    rw[e];omega
   ·rw[if_neg (by simp[a6z,a,b]),if_neg (by simpa using a),if_neg (by simpa using b)];omega
theorem b0x {c:Nat} {u:Vec} (h:¬nz c u) (z:List Vec):a5a c u z=0/\onL c u z=z:=by
 have h0:∀j,j<c->u j=0:=fun j hj=>Classical.byContradiction fun e=>h ⟨j,hj,e⟩;have hd:∀v,dot c u v=0:=fun v=>a1N h0;unfold a5a onL;simp only[hd];refine⟨?_,List.filter_eq_self.2 fun _ _=>by simp⟩;rw[List.countP_eq_zero];intro a _;simp
theorem a8T (c:Nat):∀(us z:List Vec),(∀u∈us,¬nz c u)->b0w c us z=z.length
 | [],z,_=>b5k c z
 |u::us,z,h=>by
  obtain⟨h1,h2⟩:=b0x (h u List.mem_cons_self) z;rw[a5c,h1,h2,a8T c us z fun u hu=>h u (List.mem_cons_of_mem _ hu)];omega
theorem a5H {c:Nat}:∀(us z:List Vec) (k:Nat),a0M c z k->(∃u∈us,nz c u)->k<=b0w c us z
 | [],_,_,_,h=>by obtain⟨_,h,_⟩:=h;simp at h
 |u::us,z,k,hk,h=>by
  rw[a5c];by_cases hu:nz c u
  ·obtain⟨l,hl⟩:=a7l (c:=c) (by obtain⟨j,hj,_⟩:=hu;omega) (onL c u z)
   have h1:=hk.lower hu hl;have h2:l<=b0w c us (onL c u z):=by
    by_cases hs:∃u∈us,nz c u
    ·exact a5H us _ l hl hs
    ·rw[a8T c us _ fun u hu hn=>hs ⟨u,hu,hn⟩];exact hl.le
   omega
  ·obtain⟨h1,h2⟩:=b0x hu z
   rw[h1,h2];have:=a5H us z k hk (by
    obtain⟨x,hx,hn⟩:=h;rcases List.mem_cons.1 hx with rfl|hx
    ·exact absurd hn hu
    ·exact⟨x,hx,hn⟩)
   omega
theorem a7n {c:Nat} {v:Vec} (h:¬nz c v):∀us:List Vec,a6z c us v=true
 | []=>rfl
 |u::us=>by
  have h0:dot c u v=0:=by
   rw[a0C];exact a1N fun j hj=>Classical.byContradiction fun e=>h ⟨j,hj,e⟩
  simp[a6z,h0,a7n h us]
open Classical in
noncomputable def nzL (c:Nat) (z:List Vec):List Vec:=z.filter fun v=>decide (nz c v)
open Classical in
theorem a7o {c:Nat} {p:Vec->Bool} (hp:∀v,¬nz c v->p v=true) (z:List Vec):z.countP p=(nzL c z).countP p+(z.length - (nzL c z).length):=by
 induction z with
 |nil=>rfl
 |cons v z ih=>
  have hle:(nzL c z).length<=z.length:=List.length_filter_le ..;unfold nzL at*;rw[List.filter_cons,List.countP_cons];by_cases h:nz c v
  ·rw[if_pos (c:=decide (nz c v)=true) (by simpa using h),List.countP_cons,List.length_cons,List.length_cons,ih];omega
  ·rw[if_neg (c:=decide (nz c v)=true) (by simpa using h),List.length_cons,if_pos (hp v h),ih];omega
theorem b5l (c:Nat) (us z:List Vec):b0w c us z=b0w c us (nzL c z)+(z.length - (nzL c z).length):=a7o (fun _ h=>a7n h us) z
theorem a6A (c:Nat) (u:Vec) (z:List Vec):a1C c u z=a1C c u (nzL c z)+(z.length - (nzL c z).length):=a7o (fun v h=>by
 have h0:dot c u v=0:=by rw[a0C];exact a1N fun j hj=>Classical.byContradiction fun e=>h ⟨j,hj,e⟩
 simp[h0]) z
theorem a0M.nzL {c k:Nat} {z:List Vec} (h:a0M c (nzL c z) k):a0M c z (k+(z.length - (nzL c z).length)):=by
 obtain⟨⟨u,h1,h2⟩,h3⟩:=h;refine⟨⟨u,h1,by rw[a6A,h2]⟩,fun v hv=>?_⟩;rw[a6A];have:=h3 v hv;omega
theorem b2T {c:Nat} (hc:0<c):a0M c [] 0:=⟨⟨fun _=>1,⟨0,hc,by grind⟩,rfl⟩,fun _ _=>Nat.zero_le _⟩
theorem b5m {c k:Nat} {z:List Vec} (h:a0M c z k):z.length - (nzL c z).length<=k:=by
 obtain⟨⟨u,_,h2⟩,_⟩:=h;rw[<-h2,a6A];omega
structure Wit (c:Nat) (z:List Vec) (n:Nat) (us:List Vec):Prop where
 head:∃u t,us=u::t/\nz c u
 cnt:b0w c us z=n
 few:∀k,Dim c z k->us.length+k<=c\/us.length=1
theorem Wit.least {c n k:Nat} {z us:List Vec} (h:Wit c z n us) (hk:a0M c z k):k<=n:=by
 obtain⟨u,t,rfl,hu⟩:=h.head;rw[<-h.cnt];exact a5H _ _ _ hk ⟨u,List.mem_cons_self,hu⟩
theorem Wit.one {c:Nat} {z:List Vec} {u:Vec} (hu:nz c u) (ho:onL c u z= []):Wit c z (a5a c u z) [u]:=
 ⟨⟨u,[],rfl,hu⟩,by rw[a5c,ho];rfl,fun _ _=>Or.inr rfl⟩
theorem Dim.lt {c k m:Nat} {z L:List Vec} {u:Vec} (h:Dim c z k) (h':Dim c L m) (hs:∀v∈L,v∈z) (hu:Ort c L u) (hn:∃v∈z,dot c v u≠0):k<m:=by
 obtain⟨v,hv,hne⟩:=hn;rcases m with _|m
 ·obtain⟨f,hf⟩:=h'
  obtain⟨a,ha⟩:=hf.span u hu;exact absurd (by rw[a0C];exact a1N fun j hj=>by rw[ha j hj];rfl) hne
 ·obtain⟨g,hg⟩:=h'.more hu hne
  obtain⟨f,hf⟩:=h;have:=hf.le hg fun y hy=>Ort.app.2 ⟨fun x hx=>hy x (hs x hx),fun x hx=>by simp at hx;subst hx;exact hy _ hv⟩;omega
theorem Dim.lt_c {c k:Nat} {z:List Vec} (h:Dim c z k) (hz:∃v∈z,nz c v):k<c:=by
 obtain⟨v,hv,hn⟩:=hz;obtain⟨m,hm⟩:=b0v c [];have h1:=h.lt hm (by simp) (u:=v) (by simp[Ort]) ⟨v,hv,fun e=>hn.not (a7U e)⟩;obtain⟨f,hf⟩:=hm;have:=b2R (m:=c) (g:=fun i j=>if j=i then 1 else 0) hf.li fun i _=>⟨f i,fun j hj=>by unfold cmb;rw[a1m j hj fun i _ hi=>by simp[Ne.symm hi]];simp⟩;omega
theorem Wit.more {c l:Nat} {z us:List Vec} {u:Vec} (hu:nz c u) (h:Wit c (onL c u z) l us) (ho:∃v∈onL c u z,nz c v) (hn:∃v∈z,dot c v u≠0):Wit c z (a5a c u z+l) (u::us):=
 ⟨⟨u,us,rfl,hu⟩,by rw[a5c,h.cnt],fun k hk=>by
  obtain⟨m,hm⟩:=b0v c (onL c u z);have h1:=hk.lt hm (fun v hv=>(List.mem_filter.1 hv).1) (u:=u) (fun v hv=>by rw[a0C];simpa using(List.mem_filter.1 hv).2) hn;have h2:=hm.lt_c ho;rcases h.few m hm with h3|h3
  ·left;simp;omega
  ·left;simp;omega⟩
def a2c (c:Nat) (z O:List Vec) (cnt:Nat) (I:List Nat):Prop:=Dim c (a2I z I++O) 1->∀x,nz c x->Ort c (a2I z I++O) x->∀l,a0M c (onL c x z) l->cnt<=a5a c x z+l
theorem a2c.le {c:Nat} {z O:List Vec} {m n:Nat} {I:List Nat} (h:a2c c z O n I) (hm:m<=n):a2c c z O m I:=fun h1 x h2 h3 l h4=>Nat.le_trans hm (h h1 x h2 h3 l h4)
theorem b0y {c:Nat} {z O:List Vec} {n k:Nat} {I:List Nat} (hd:Dim c (a2I z I++O) k) (hk:k≠1):a2c c z O n I:=fun h=>absurd (hd.uniq h) hk
theorem b0z {c:Nat} {z O:List Vec} {n:Nat} {I:List Nat} {x:Vec} (hn:nz c x) (hx:Ort c (a2I z I++O) x)
  (h1:∀l,a0M c (onL c x z) l->n<=a5a c x z+l) (h2:∀l,a0M c (onL c (fun j=> -1*x j) z) l->n<=a5a c (fun j=> -1*x j) z+l):a2c c z O n I:=fun hd y hy hyo l hl=>by
 obtain⟨t,ht⟩:=hd.one hx hn y hyo;have ht0:t≠0:=fun e=>hy.not fun j hj=>by rw[ht j hj,e];grind
 by_cases hp:0<t
 ·obtain⟨a1,a2,_⟩:=a3H ht z
  obtain⟨b1,b2,_⟩:=a5b (c:=c) (u:=x) hp z;rw[a1,b1];rw[a2,b2]at hl;exact h1 l hl
 ·have hy':∀j,j<c->y j= -t*(-1*x j):=fun j hj=>by rw[ht j hj];grind
  obtain⟨a1,a2,_⟩:=a3H hy' z;obtain⟨b1,b2,_⟩:=a5b (c:=c) (u:=fun j=> -1*x j) (t:= -t) (by grind) z;rw[a1,b1];rw[a2,b2]at hl;exact h2 l hl
theorem a6B {c r k cnt:Nat} {z O:List Vec} (hD:Dirs c z (Ort c O)) (hd:Dim c O (r+1)) (h:a0M c z k)
  (ht:∀I:List Nat,I.length=r->I.Pairwise (· < ·)->(∀i∈I,i<z.length)->a2c c z O cnt I):cnt<=k:=by
 obtain⟨I,h1,h2,h3,h4,x,h5,h6,h7⟩:=b1Y hD hd h;obtain⟨l,hl⟩:=a7l (c:=c) (by obtain⟨j,hj,_⟩:=h5;omega) (onL c x z);exact Nat.le_trans (ht I h1 h2 h3 h4 x h5 h6 l hl) (h7 l hl)
def vec (l:List Rat):Vec:=fun j=>l.getD j 0
def a0t (m:Mat):List Vec:=m.map vec
noncomputable def a0D (m:Mat) (c:Nat):Mat:=a2q (ent (a0N m c).1) (a0N m c).2 c
theorem b7J (m:Mat):∀i j,fL (a0t m) i j=ent m i j:=fun i j=>by
 unfold fL a0t ent;rw[List.getD_eq_getElem?_getD,List.getElem?_map,List.getD_eq_getElem?_getD];rcases h:m[i]? with _|r
 ·simp[h]
 ·simp[vec,h]
theorem b0A {n c:Nat} {m:Mat} (hs:Shp n c m) (y:Vec):Ort c (a0t m) y↔Nul n c (ent m) y:=by
 rw[b2S,show(a0t m).length=n by simp[a0t,hs.1]];unfold Nul;simp only[b7J]
theorem a4n {n c:Nat} {m:Mat} (hs:Shp n c m):Basis c (Ort c (a0t m)) (a0D m c).length (ent (a0D m c)):=by
 obtain⟨_,h2,d,h3⟩:=a0Z hs;exact(a7m h2 h3).of_iff fun y=>(b0A hs y).symm
theorem a5d {n c:Nat} {m:Mat} (hs:Shp n c m):Dim c (a0t m) (a0D m c).length:=⟨_,a4n hs⟩
theorem a2s {m:Mat} {c:Nat}:∀l∈a0D m c,l.length=c:=fun l hl=>by
 unfold a0D a2q at hl;obtain⟨j,_,rfl⟩:=List.mem_map.1 hl;simp
theorem a6C (m:Mat) (c:Nat):Shp (a0D m c).length c (a0D m c):=⟨rfl,a2s⟩
theorem a3I {n c:Nat} {m:Mat} (hs:Shp n c m):(a0D m c).length=c - (a0N m c).2.length:=b2M (a0Z hs).2.1
theorem b0B (a b:Mat):a0t (a++b)=a0t a++a0t b:=by simp[a0t]
theorem b0C (m:Mat) (i:Nat) (hi:i<m.length):ent m i=(a0t m)[i]'(by simpa[a0t]using hi):=by
 have e:(a0t m)[i]'(by simpa[a0t]using hi)=vec m[i]:=List.getElem_map ..;rw[e];funext j
 simp[ent,vec,List.getD_eq_getElem?_getD,hi]
theorem a8U (c:Nat) (m:Mat) (y:Vec):Ort c (a0t m) y↔∀i,i<m.length->dot c (ent m i) y=0:=by
 constructor
 ·intro h i hi
  rw[b0C m i hi];exact h _ (List.getElem_mem _)
 ·intro h v hv
  obtain⟨i,hi,rfl⟩:=List.getElem_of_mem hv;have hi':i<m.length:=by simpa[a0t]using hi
  rw[<-b0C m i hi'];exact h i hi'
theorem a8V {n c:Nat} {m:Mat} (hs:Shp n c m) (hz:∃v∈a0t m,nz c v):Dirs c (a0t m) (Ort c (a0t (a0D m c))):=
 b7I (a4n hs) (fun y=>a8U c _ y) hz
theorem b0D {n c:Nat} {m:Mat} (hs:Shp n c m):Dim c (a0t (a0D m c)) (a0N m c).2.length:=by
 have h1:=a5d (a6C m c);have h2:=a3I (a6C m c);have h3:=a3I hs;have h4:(a0N m c).2.length<=c:=by
  have hr:=(a0Z hs).2.1;have h7:(a0N m c).2.Nodup:=(hr.pw).imp (fun h=>Nat.ne_of_lt h);have h8:(a0N m c).2.length<=(List.range c).length:=h7.length_le_of_subset fun x hx=>by
   obtain⟨k,hk,rfl⟩:=List.getElem_of_mem hx;exact List.mem_range.2 (hr.lt k hk)
  simpa using h8
 have h5:(a0N (a0D m c) c).2.length=(a0D m c).length:=by
  obtain⟨_,a,d,b⟩:=a0Z (a6C m c);exact(b0s _ _ _).full a b
 rw[h2,h5,h3]at h1;rwa[show c - (c - (a0N m c).2.length)=(a0N m c).2.length by omega]at h1
theorem b5n (c:Nat):Dim c [] c:=by
 have:=b0D (n:=0) (c:=c) (m:=[]) ⟨rfl,by simp⟩;refine⟨fun i j=>if j=i then 1 else 0,⟨fun i _=>by simp[Ort],fun y h i hi=>?_,fun y _=>⟨y,fun j hj=>?_⟩⟩⟩
 ·have:=h i hi
  unfold cmb at this;rw[a1m i hi fun k _ hk=>by simp[Ne.symm hk]]at this;simpa using this
 ·unfold cmb;rw[a1m j hj fun k _ hk=>by simp[Ne.symm hk]];simp
theorem b2U {c:Nat} {z:List Vec} (hc:0<c) (h:∀y,(∀v∈z,dot c y v=0)->∀j,j<c->y j=0):Dirs c z (Ort c []):=
 ⟨fun _ _ _ _ _=>by simp[Ort],fun y _ hy=>h y hy,fun u=>⟨u,by simp[Ort],fun _ _=>rfl⟩,⟨fun _=>1,by simp[Ort],0,hc,by grind⟩⟩
def a1T (m:Mat) (p:List Nat):Mat:=m.map fun r=>p.map fun c=>r.getD c 0
theorem b2V (m:Mat) (p:List Nat):Shp m.length p.length (a1T m p):=⟨by simp[a1T],fun r hr=>by
 obtain⟨l,_,rfl⟩:=List.mem_map.1 hr;simp⟩
theorem b0E (r:List Rat) (p:List Nat) (k:Nat) (hk:k<p.length):vec (p.map fun c=>r.getD c 0) k=vec r (p.getD k 0):=by
 simp[vec,List.getD_eq_getElem?_getD,hk]
section
variable {n c:Nat} {m:Mat} (hs:Shp n c m)
include hs
theorem a5I (r:List Rat) (hr:r∈m) (j:Nat) (hj:j<c):vec r j=sm (a0N m c).2.length fun k=>vec r ((a0N m c).2.getD k 0)*ent (a0N m c).1 k j:=by
 obtain⟨_,h2,d,h3⟩:=a0Z hs;obtain⟨i,hi,rfl⟩:=List.getElem_of_mem hr;have:=b1V h2 h3 i (by rw[<-hs.1];exact hi) j hj;have e:∀j,ent m i j=vec m[i] j:=fun j=>by simp[ent,vec,List.getD_eq_getElem?_getD,hi]
 rw[e]at this;rw[this];unfold mul;exact a0j fun k _=>congrArg (· *_) (e _)
theorem b7K (u:Vec) (r:List Rat) (hr:r∈m):dot c u (vec r)=dot (a0N m c).2.length (fun k=>sm c fun j=>u j*ent (a0N m c).1 k j) (vec ((a0N m c).2.map fun c=>r.getD c 0)):=by
 unfold dot;rw[a0j fun j hj=>by rw[a5I hs r hr j hj,<-a1l],a2W];refine a0j fun k hk=>?_;rw[b0E r _ k hk,Rat.mul_comm,<-a1l];exact a0j fun j _=>by grind
theorem b0F (u:Vec) (r:List Rat):dot c (fun j=>sm (a0N m c).2.length fun k=>if j=(a0N m c).2.getD k 0 then u k else 0) (vec r)=dot (a0N m c).2.length u (vec ((a0N m c).2.map fun c=>r.getD c 0)):=by
 obtain⟨_,h2,d,h3⟩:=a0Z hs;unfold dot;rw[a0j fun j hj=>by rw[Rat.mul_comm,<-a1l],a2W];refine a0j fun k hk=>?_;have hlt:(a0N m c).2.getD k 0<c:=by
  rw[List.getD_eq_getElem?_getD,List.getElem?_eq_getElem hk];exact h2.lt k hk
 rw[b0E r _ k hk,a1m _ hlt fun j _ hj=>by rw[if_neg hj];grind,if_pos rfl,Rat.mul_comm]
theorem b0G (u:Vec) (k:Nat) (hk:k<(a0N m c).2.length):(sm (a0N m c).2.length fun i=>if(a0N m c).2.getD k 0=(a0N m c).2.getD i 0 then u i else 0)=u k:=by
 obtain⟨_,h2,d,h3⟩:=a0Z hs;rw[a1m k hk fun i hi hik=>if_neg ?_,if_pos rfl];rw[List.getD_eq_getElem?_getD,List.getElem?_eq_getElem hk,List.getD_eq_getElem?_getD,List.getElem?_eq_getElem hi];simp only[Option.getD_some];rcases Nat.lt_or_gt_of_ne hik with a|a
 ·have:=h2.inc i k a hk;omega
 ·have:=h2.inc k i a hi;omega
theorem b0H (y:Vec) (hy:∀v∈a0t (a1T m (a0N m c).2),dot (a0N m c).2.length y v=0):∀k,k<(a0N m c).2.length->y k=0:=by
 obtain⟨_,h2,d,h3⟩:=a0Z hs;have h4:Nul n c (ent m) (fun j=>sm (a0N m c).2.length fun k=>if j=(a0N m c).2.getD k 0 then y k else 0):=by
  rw[<-b0A hs];intro v hv;obtain⟨r,hr,rfl⟩:=List.mem_map.1 hv;rw[a0C,b0F hs];exact hy _ (List.mem_map.2 ⟨_,List.mem_map.2 ⟨r,hr,rfl⟩,rfl⟩)
 have h5:=(h3.nul _).1 h4;intro k hk;have h6:=h5 k (Nat.lt_of_lt_of_le hk h2.le);rw[h2.row k hk,a1V (n:=c) fun j hj=>?_]at h6
 ·have h7:=b0G hs y k hk
  rw[show(a0N m c).2.getD k 0=(a0N m c).2[k]by rw[List.getD_eq_getElem?_getD,List.getElem?_eq_getElem hk];rfl]at h7;rw[h7]at h6;grind
 ·by_cases hp:j∈(a0N m c).2
  ·rw[if_pos hp]
  ·rw[if_neg hp,a1V fun i hi=>if_neg ?_]; · grind
   rintro rfl;rw[List.getD_eq_getElem?_getD,List.getElem?_eq_getElem hi]at hp;exact hp (List.getElem_mem _)
theorem b2W {k:Nat} (h:a0M (a0N m c).2.length (a0t (a1T m (a0N m c).2)) k):a0M c (a0t m) k:=by
 have cnt:∀u u':Vec,(∀r∈m,dot c u (vec r)=dot (a0N m c).2.length u' (vec ((a0N m c).2.map fun c=>r.getD c 0)))->a1C c u (a0t m)=a1C (a0N m c).2.length u' (a0t (a1T m (a0N m c).2)):=fun u u' hu=>by
  unfold a1C a0t a1T;rw[List.countP_map,List.map_map,List.countP_map];exact List.countP_congr fun r hr=>by simp only[Function.comp_def];rw[hu r hr]
 have hle:=h.le;obtain⟨⟨u,h1,h2⟩,h3⟩:=h;refine⟨⟨_,?_,(cnt _ u fun r _=>b0F hs u r).trans h2⟩,fun v hv=>?_⟩
 ·obtain⟨j,hj,hne⟩:=h1
  refine⟨(a0N m c).2.getD j 0,?_,fun e=>hne ((b0G hs u j hj).symm.trans e)⟩;rw[List.getD_eq_getElem?_getD,List.getElem?_eq_getElem hj];exact(a0Z hs).2.1.lt j hj
 ·rw[cnt v _ fun r hr=>b7K hs v r hr]
  by_cases hn:nz (a0N m c).2.length (fun k=>sm c fun j=>v j*ent (a0N m c).1 k j)
  ·exact h3 _ hn
  ·have:a1C (a0N m c).2.length (fun k=>sm c fun j=>v j*ent (a0N m c).1 k j) (a0t (a1T m (a0N m c).2))=(a0t (a1T m (a0N m c).2)).length:=by
    unfold a1C;rw[List.countP_eq_length];intro x _;rw[a1N fun j hj=>Classical.byContradiction fun e=>hn ⟨j,hj,e⟩];simp
   rw[this];exact hle
theorem b5o (hc:0<c) (h:(a0N m c).2.length=0):a0M c (a0t m) m.length:=by
 have h0:∀v∈a0t m,∀u,dot c u v=0:=fun v hv u=>by
  obtain⟨r,hr,rfl⟩:=List.mem_map.1 hv;rw[a0C];refine a1N fun j hj=>?_;rw[a5I hs r hr j hj,h];rfl
 have:∀u,a1C c u (a0t m)=m.length:=fun u=>by
  unfold a1C;rw[List.countP_eq_length.2 fun v hv=>by rw[h0 v hv];simp];simp[a0t]
 exact⟨⟨fun _=>1,⟨0,hc,by grind⟩,this _⟩,fun u _=>by rw[this];exact Nat.le_refl _⟩
end
end Go.Lin
namespace Go.Lin
theorem a6D {z:Mat} {p:List Rat->Bool} {q:Vec->Bool} (h:∀r∈z,p r=q (vec r)):a0t (z.filter p)=(a0t z).filter q:=by
 unfold a0t;rw[List.filter_map];exact congrArg _ (List.filter_congr fun r hr=>h r hr)
def a5e (r:List Rat):Bool:=r.all fun x=>decide (x=0)
theorem b2X {c:Nat} {r:List Rat} (hr:r.length=c):nz c (vec r)↔a5e r=false:=by
 constructor
 ·rintro ⟨j,hj,hne⟩
  rw[<-Bool.not_eq_true];intro h;unfold a5e at h;rw[List.all_eq_true]at h;have hj':j<r.length:=by omega
  have:=h r[j] (List.getElem_mem hj');apply hne;unfold vec;rw[List.getD_eq_getElem?_getD,List.getElem?_eq_getElem hj'];simpa using this
 ·intro h
  apply b2N;intro hz;rw[<-Bool.not_eq_true]at h;apply h;unfold a5e;rw[List.all_eq_true];intro x hx;obtain⟨j,hj,rfl⟩:=List.getElem_of_mem hx;have:=hz j (by omega);unfold vec at this;rw[List.getD_eq_getElem?_getD,List.getElem?_eq_getElem hj]at this;simpa using this
def a2d (z:Mat):Mat:=z.filter fun r=> !a5e r
theorem a4K {n c:Nat} {z:Mat} (hs:Shp n c z):a0t (a2d z)=nzL c (a0t z):=a6D fun r hr=>by
 by_cases h:a5e r=false
 ·rw[h];have:=(b2X (hs.2 r hr)).2 h;simp[this]
 ·have h2:¬nz c (vec r):=fun k=>h ((b2X (hs.2 r hr)).1 k)
  simp[h2];simpa using h
theorem b2Y {n c:Nat} {z:Mat} (hs:Shp n c z):∀v∈a0t (a2d z),nz c v:=fun v hv=>by
 rw[a4K hs]at hv;simpa using(List.mem_filter.1 hv).2
theorem b1Z {n c:Nat} {z:Mat} (hs:Shp n c z):Shp (a2d z).length c (a2d z):=⟨rfl,fun r hr=>hs.2 r (List.mem_filter.1 hr).1⟩
def onM (c:Nat) (u:List Rat) (z:Mat):Mat:=z.filter fun r=>decide (dot c (vec u) (vec r)=0)
theorem a4o (c:Nat) (u:List Rat) (z:Mat):a0t (onM c u z)=onL c (vec u) (a0t z):=a6D fun _ _=>rfl
def a2P (c:Nat) (u:List Rat) (z:Mat):Nat:=z.countP fun r=>decide (0<dot c (vec u) (vec r))
theorem a3b (c:Nat) (u:List Rat) (z:Mat):a2P c u z=a5a c (vec u) (a0t z):=by
 unfold a2P a5a a0t;rw[List.countP_map];rfl
def a3J (c:Nat) (z:Mat) (cnt:Nat) (us:Mat):Prop:=(cnt=z.length+1/\us= [])\/Wit c (a0t z) cnt (a0t us)
theorem b6W {c:Nat} {z:Mat} {u:List Rat} (hu:nz c (vec u)) (h:onM c u z= []):Wit c (a0t z) (a2P c u z) (a0t [u])/\∀l,a0M c (onL c (vec u) (a0t z)) l->a2P c u z<=a5a c (vec u) (a0t z)+l:=by
 rw[a3b];exact⟨Wit.one hu (by rw[<-a4o,h];rfl),fun l _=>by omega⟩
section
variable {n c:Nat} {z:Mat} (hs:Shp n c z) (hz:∀v∈a0t z,nz c v) (hne:z≠[])
include hs hz hne
theorem a7V:∃v∈a0t z,nz c v:=by
 obtain⟨r,l,rfl⟩:=List.exists_cons_of_ne_nil hne;exact⟨vec r,by simp[a0t],hz _ (by simp[a0t])⟩
theorem b0I {u:Vec} (hu:nz c u) (ho:Ort c (a0t (a0D z c)) u):∃v∈a0t z,dot c v u≠0:=by
 apply Classical.byContradiction;intro h;exact hu.not ((a8V hs (a7V hs hz hne)).zero u ho fun v hv=>Classical.byContradiction fun e=>h ⟨v,hv,fun k=>e (by rw[a0C];exact k)⟩)
theorem b7L {u:List Rat} (hu:nz c (vec u)) (ho:Ort c (a0t (a0D z c)) (vec u)):(onM c u z).length<z.length:=by
 obtain⟨v,hv,hd⟩:=b0I hs hz hne hu ho;obtain⟨r,hr,rfl⟩:=List.mem_map.1 hv;have h1:(onM c u z).length<=z.length:=List.length_filter_le ..;rcases Nat.lt_or_eq_of_le h1 with h2|h2
 ·exact h2
 ·have h3:=(List.length_filter_eq_length_iff.1 h2) r hr
  exact absurd (by rw[a0C];simpa using h3) hd
theorem b7M {u:List Rat} {l0:Nat} {us:Mat} (hu:nz c (vec u)) (ho:Ort c (a0t (a0D z c)) (vec u)) (h:onM c u z≠[]) (hw:Wit c (a0t (onM c u z)) l0 (a0t us)) (hd:a0M c (a0t (onM c u z)) l0):
  Wit c (a0t z) (a2P c u z+l0) (a0t (u::us))/\∀l,a0M c (onL c (vec u) (a0t z)) l->a2P c u z+l0<=a5a c (vec u) (a0t z)+l:=by
 rw[a4o]at hw hd;rw[a3b];refine⟨Wit.more hu hw ?_ (b0I hs hz hne hu ho),fun l hl=>by have:=hd.uniq hl;omega⟩;obtain⟨r,t,e⟩:=List.exists_cons_of_ne_nil h;have:vec r∈onL c (vec u) (a0t z):=by rw[<-a4o,e];simp[a0t]
 exact⟨_,this,hz _ (List.mem_filter.1 this).1⟩
theorem b2Z {r cnt:Nat} {us:Mat} (hr:(a0N z c).2.length=r+1) (h:a3J c z cnt us)
  (ht:∀I:List Nat,I.length=r->I.Pairwise (· < ·)->(∀i∈I,i<z.length)->a2c c (a0t z) (a0t (a0D z c)) cnt I):a0M c (a0t z) cnt/\Wit c (a0t z) cnt (a0t us):=by
 have hc:0<c:=by obtain⟨v,_,j,hj,_⟩:=a7V hs hz hne;omega
 obtain⟨k,hk⟩:=a7l hc (a0t z);have h1:=a6B (a8V hs (a7V hs hz hne)) (hr▸b0D hs) hk fun I h1 h2 h3=>ht I h1 h2 (by simpa[a0t]using h3);have h2:=hk.le;rcases h with⟨e,_⟩|h
 ·have:(a0t z).length=z.length:=by simp[a0t]
  omega
 ·have:=h.least hk
  have e:k=cnt:=by omega
  exact⟨e▸hk,h⟩
theorem b0J:0<(a0N z c).2.length:=by
 rcases Nat.eq_zero_or_pos (a0N z c).2.length with h|h
 ·have hc:0<c:=by obtain⟨v,_,j,hj,_⟩:=a7V hs hz hne;omega
  obtain⟨r,l,rfl⟩:=List.exists_cons_of_ne_nil hne;obtain⟨j,hj,e⟩:=hz (vec r) (by simp[a0t]);rw[a5I hs r (by simp) j hj,h]at e;exact absurd rfl e
 ·exact h
end
theorem c1z {n c cnt:Nat} {z us:Mat} (hs:Shp n c z) (h:a0M c (a0t (a2d z)) cnt) (hw:Wit c (a0t (a2d z)) cnt (a0t us)):
  a0M c (a0t z) (cnt+(z.length - (a2d z).length))/\Wit c (a0t z) (cnt+(z.length - (a2d z).length)) (a0t us):=by
 have e:(a2d z).length=(nzL c (a0t z)).length:=by rw[<-a4K hs];simp[a0t]
 have e2:z.length=(a0t z).length:=by simp[a0t]
 rw[e,e2];rw[a4K hs]at h hw;refine⟨h.nzL,hw.head,by rw[b5l,hw.cnt],fun k hk=>hw.few k (hk.iff fun y=>⟨fun hy v hv=>hy v (List.mem_filter.1 hv).1,fun hy v hv=>?_⟩)⟩;by_cases hn:nz c v
 ·exact hy v (List.mem_filter.2 ⟨hv,by simpa using hn⟩)
 ·exact a1N fun j hj=>Classical.byContradiction fun e=>hn ⟨j,hj,e⟩
theorem b3a {n c:Nat} {z:Mat} {u:List Rat} (hs:Shp n c z) (h:a2d z= []) (hu:nz c (vec u)):a0M c (a0t z) z.length/\Wit c (a0t z) z.length (a0t [u]):=by
 have hc:0<c:=by obtain⟨j,hj,_⟩:=hu;omega
 have h1:a0t (a2d z)= []:=by rw[h];rfl
 have h2:=c1z (us:=[u]) hs (h1▸b2T hc) (h1▸(Wit.one (z:=[]) hu rfl:Wit c [] 0 [vec u]));rw[h]at h2;simpa using h2
theorem Wit.short {n c cnt:Nat} {z us:Mat} (hs:Shp n c z) (hc:0<c) (h:Wit c (a0t z) cnt (a0t us)):1<=us.length/\us.length<=c:=by
 obtain⟨u,t,e,_⟩:=h.head;have e2:(a0t us).length=us.length:=by simp[a0t]
 have h1:=h.few _ (a5d hs);rw[e2]at h1;have h3:=congrArg List.length e;simp at h3;omega
theorem b5p {n c r cnt k:Nat} {z:Mat} (hs:Shp n c z) (hr:(a0N z c).2.length=r+1) (hd:a0M (r+1) (a0t (a1T z (a0N z c).2)) k) (hk:k<=cnt)
  (ht:∀I:List Nat,I.length=r->I.Pairwise (· < ·)->(∀i∈I,i<z.length)->a2c (r+1) (a0t (a1T z (a0N z c).2)) [] cnt I):a0M c (a0t z) cnt:=by
 have hD:Dirs (r+1) (a0t (a1T z (a0N z c).2)) (Ort (r+1) []):=b2U (by omega) fun y hy=>by
  have:=b0H hs y (by rw[hr];exact hy);rwa[hr]at this
 have h1:=a6B hD (b5n _) hd fun I h1 h2 h3=>ht I h1 h2 (by simpa[a0t,a1T]using h3);have e:k=cnt:=by omega
 refine b2W hs ?_;rw[hr,<-e];exact hd
end Go.Lin
namespace Go.Lin
def a1a (c:Nat) (p:Mat) (x:List Rat):Mat:=p.map fun r=>(List.range c).map fun j=>r.getD j 0 - x.getD j 0
theorem b3b (c:Nat) (p:Mat) (x:List Rat):Shp p.length c (a1a c p x):=⟨by simp[a1a],fun r hr=>by obtain⟨_,_,rfl⟩:=List.mem_map.1 hr;simp⟩
theorem b0K (c:Nat) (r x:List Rat) (j:Nat) (hj:j<c):vec ((List.range c).map fun j=>r.getD j 0 - x.getD j 0) j=vec r j - vec x j:=by
 unfold vec;rw[List.getD_eq_getElem?_getD,List.getElem?_map,List.getElem?_range hj];rfl
theorem b0L {c:Nat} {p:Mat} {x:List Rat} (hs:∀r∈p,r.length=c) (hx:x.length=c) (j:Nat) (hj:j<p.length) (h:j<(a1a c p x).length):(a1a c p x)[j]=List.zipWith (· - ·) p[j] x:=by
 have hr:=hs _ (List.getElem_mem hj);have e:(a1a c p x)[j]=(List.range c).map fun i=>p[j].getD i 0 - x.getD i 0:=by simp[a1a]
 rw[e];refine List.ext_getElem (by simp;omega) fun i h1 h2=>?_;have hi:i<c:=by simpa using h1
 simp[List.getD_eq_getElem?_getD,show i<p[j].length by omega,show i<x.length by omega]
theorem b3c {c k:Nat} {p:Mat} {x:List Rat} (h:a0M c (a0t (a1a c p x)) k):(p.countP fun r=>decide (r=x))<=k:=by
 have h1:=b5m h;have h2:(p.countP fun r=>decide (r=x))+(nzL c (a0t (a1a c p x))).length<=p.length:=by
  clear h h1
  induction p with
  |nil=>simp[nzL,a0t,a1a]
  |cons r p ih=>
   unfold nzL a0t a1a at*;simp only[List.map_cons,List.filter_cons,List.countP_cons,List.length_cons];by_cases e:r=x
   ·have hn:¬nz c (vec ((List.range c).map fun j=>r.getD j 0 - x.getD j 0)):=by
     rintro ⟨j,hj,hne⟩;rw[b0K c r x j hj,e]at hne;exact hne (by grind)
    rw[if_pos (by simpa using e),if_neg (by simpa using hn)];omega
   ·rw[if_neg (c:=decide (r=x)=true) (by simpa using e)]
    split
    ·rw[List.length_cons];omega
    ·omega
 have h3:(a0t (a1a c p x)).length=p.length:=by simp[a0t,a1a]
 omega
theorem a5f (c:Nat) (u x y:Vec):dot c u (fun j=>x j - y j)=dot c u x - dot c u y:=by
 unfold dot;rw[<-a6u];exact a0j fun j _=>by grind
theorem a7W {c k:Nat} {z:List Vec} (hz:z≠[]) (h:a0M c z k):k=0↔∃u,∀v∈z,dot c u v<0:=by
 obtain⟨⟨u,h1,h2⟩,h3⟩:=h;constructor
 ·intro hk
  subst hk;refine⟨u,fun v hv=>?_⟩;have:=List.countP_eq_zero.1 h2 v hv;rw[decide_eq_true_eq]at this;exact Rat.not_le.1 this
 ·rintro ⟨v,hv⟩
  have hn:nz c v:=by
   cases z with
   |nil=>exact absurd rfl hz
   |cons a z=>
    have:=hv a (by simp);exact b6V (v:=a) (by grind)
  have h4:=h3 v hn;have h5:a1C c v z=0:=List.countP_eq_zero.2 fun a ha=>by
   rw[decide_eq_true_eq];exact Rat.not_le.2 (hv a ha)
  omega
section
variable {c:Nat} {p B:F2} {x w:Vec}
theorem c0R (hw:∀j,j<c->sm c (fun i=>(p (i+1) j - p 0 j)*w i)=x j - p 0 j) (u:Vec):
  dot c u (fun j=>p 0 j - x j)+sm c (fun i=>w i*dot c u (fun j=>p (i+1) j - p 0 j))=0:=by
 have e1:sm c (fun i=>w i*dot c u (fun j=>p (i+1) j - p 0 j))=dot c u (fun j=>x j - p 0 j):=by
  rw[a0j (g:=fun i=>sm c fun j=>u j*((p (i+1) j - p 0 j)*w i)) fun i _=>by
   unfold dot;rw[<-a1l];exact a0j fun j _=>by grind]
  rw[a2W];unfold dot;exact a0j fun j hj=>by rw[a1l,hw j hj]
 rw[e1,a5f,a5f];grind
theorem b3d (u:Vec) (i:Nat):dot c u (fun j=>p (i+1) j - x j)=dot c u (fun j=>p 0 j - x j)+dot c u (fun j=>p (i+1) j - p 0 j):=by
 rw[a5f,a5f,a5f];grind
theorem c0S {n:Nat} {f g:Nat->Rat} (h:∀i,i<n->f i<=g i):sm n f<=sm n g:=by
 have:=a6w (n:=n) (f:=fun i=>g i - f i) fun i hi=>by have:=h i hi;grind
 rw[a6u]at this;grind
theorem b7N (hw:∀j,j<c->sm c (fun i=>(p (i+1) j - p 0 j)*w i)=x j - p 0 j) (h1:∀i,i<c->0<=w i) (h2:0<=1 - sm c w) (u:Vec):
  ¬(dot c u (fun j=>p 0 j - x j)<0/\∀i,i<c->dot c u (fun j=>p (i+1) j - x j)<0):=by
 rintro ⟨ha,hb⟩;have e:=c0R hw u;obtain⟨a,hA⟩:∃a,dot c u (fun j=>p 0 j - x j)=a:=⟨_,rfl⟩;rw[hA]at ha e;have hs:∀i,i<c->dot c u (fun j=>p (i+1) j - p 0 j)< - a:=fun i hi=>by
  have:=hb i hi;rw[b3d,hA]at this;grind
 have hl:sm c (fun i=>w i*dot c u (fun j=>p (i+1) j - p 0 j))<=sm c (fun i=>(-a)*w i):=c0S fun i hi=>by
  have:=Rat.mul_nonneg (h1 i hi) (show 0<= -a - dot c u (fun j=>p (i+1) j - p 0 j)by have:=hs i hi;grind);grind
 rw[a1l]at hl;have hS:0<=(-a)*(1 - sm c w):=Rat.mul_nonneg (by grind) h2;have hS0:(-a)*(1 - sm c w)=0:=by grind
 have hS1:sm c w=1:=by
  rcases Rat.mul_eq_zero.1 hS0 with e|e<;>grind
 have hz:sm c (fun i=>(-a)*w i - w i*dot c u (fun j=>p (i+1) j - p 0 j))=0:=by
  rw[a6u,a1l];grind
 have h0:=a3j (fun i hi=>by
  have:=Rat.mul_nonneg (h1 i hi) (show 0<= -a - dot c u (fun j=>p (i+1) j - p 0 j)by have:=hs i hi;grind)
  show 0<=(-a)*w i - w i*dot c u (fun j=>p (i+1) j - p 0 j)
  grind) hz
 have hw0:sm c w=0:=a1V fun i hi=>by
  have e1:=h0 i hi;have e2:w i*(-a - dot c u (fun j=>p (i+1) j - p 0 j))=0:=by grind
  rcases Rat.mul_eq_zero.1 e2 with e|e
  ·exact e
  ·have:=hs i hi;grind
 grind
theorem c1A (hB:∀i,i<c->∀k,k<c->sm c (fun j=>B i j*(p (k+1) j - p 0 j))=if i=k then 1 else 0) (s:Vec) (k:Nat) (hk:k<c):
  dot c (fun j=>sm c fun i=>s i*B i j) (fun j=>p (k+1) j - p 0 j)=s k:=by
 unfold dot;rw[a0j (g:=fun j=>sm c fun i=>s i*(B i j*(p (k+1) j - p 0 j))) fun j _=>by
  rw[Rat.mul_comm,<-a1l];exact a0j fun i _=>by grind]
 rw[a2W,a1m k hk fun i hi hik=>by rw[a1l,hB i hi k hk,if_neg hik];grind];rw[a1l,hB k hk k hk,if_pos rfl];grind
theorem b5q (hw:∀j,j<c->sm c (fun i=>(p (i+1) j - p 0 j)*w i)=x j - p 0 j)
  (hB:∀i,i<c->∀k,k<c->sm c (fun j=>B i j*(p (k+1) j - p 0 j))=if i=k then 1 else 0) (h:(∃i,i<c/\w i<0)\/1 - sm c w<0):
  ∃u,dot c u (fun j=>p 0 j - x j)<0/\∀i,i<c->dot c u (fun j=>p (i+1) j - x j)<0:=by
 rcases h with⟨k,hk,hneg⟩|hS
 ·refine⟨fun j=>sm c fun i=>(if i=k then 1/w k else 0)*B i j,?_⟩
  have e:=c0R hw (fun j=>sm c fun i=>(if i=k then 1/w k else 0)*B i j);have hd:=fun i hi=>c1A hB (fun i=>if i=k then 1/w k else 0) i hi;rw[a1m k hk fun i hi hik=>by rw[hd i hi,if_neg hik];grind,hd k hk,if_pos rfl]at e;have hwk:w k*(1/w k)=1:=by
   rw[Rat.div_def,Rat.one_mul,Rat.mul_inv_cancel _ (by grind)]
  have ha:dot c (fun j=>sm c fun i=>(if i=k then 1/w k else 0)*B i j) (fun j=>p 0 j - x j)= -1:=by grind
  refine⟨by rw[ha];decide,fun i hi=>?_⟩;rw[b3d,ha,hd i hi];by_cases hik:i=k
  ·rw[if_pos hik]
   have:1/w k<0:=by
    apply Classical.byContradiction;intro hn;have h1:=Rat.mul_nonneg (show 0<= - w k by grind) (Rat.not_lt.1 hn);grind
   grind
  ·rw[if_neg hik];grind
 ·obtain⟨S,hSe⟩:∃S,sm c w=S:=⟨_,rfl⟩
  rw[hSe]at hS;refine⟨fun j=>sm c fun i=>(1/(S - 1))*B i j,?_⟩;have e:=c0R hw (fun j=>sm c fun i=>(1/(S - 1))*B i j);have hd:=fun i hi=>c1A hB (fun _=>1/(S - 1)) i hi;rw[a0j (g:=fun i=>(1/(S - 1))*w i) fun i hi=>by rw[hd i hi];grind,a1l,hSe]at e;have hq:(S - 1)*(1/(S - 1))=1:=by
   rw[Rat.div_def,Rat.one_mul,Rat.mul_inv_cancel _ (by grind)]
  obtain⟨q,hqe⟩:∃q,1/(S - 1)=q:=⟨_,rfl⟩;rw[hqe]at hq;simp only[hqe]at e hd |-;have hq0:0<q:=by
   apply Classical.byContradiction;intro hn;have h1:=Rat.mul_nonneg (show 0<=S - 1 by grind) (show 0<= - q by have:=Rat.not_lt.1 hn;grind);grind
  have ha:dot c (fun j=>sm c fun i=>q*B i j) (fun j=>p 0 j - x j)= - (q*S):=by grind
  have hqS:q*S=1+q:=by grind
  refine⟨by rw[ha];grind,fun i hi=>?_⟩;rw[b3d,ha,hd i hi];grind
end
theorem b6X {n:Nat} {f:Nat->Rat} (h:∀i,i<n->f i<=0) (k:Nat) (hk:k<n) (hf:f k<0):sm n f<0:=by
 have h1:=a6w (n:=n) (f:=fun i=> - f i) fun i hi=>by have:=h i hi;grind
 have e:sm n (fun i=> - f i)= - sm n f:=by
  have:=a1l n (-1) f;rw[a0j (g:=fun i=> -1*f i) fun i _=>by grind,this];grind
 apply Classical.byContradiction;intro hn;have h2:sm n (fun i=> - f i)=0:=by grind
 have:=a3j (n:=n) (f:=fun i=> - f i) (fun i hi=>by have:=h i hi;grind) h2 k hk;grind
theorem b9C (c:Nat) (U:F2):∃a:Vec,(∀j,j<c->sm (c+2) (fun i=>a i*U i j)=0)/\sm (c+2) a=0/\∃i,i<c+2/\a i≠0:=by
 obtain⟨r,p,d,hr,hd⟩:=a7S (c+1) (c+2) (fun j i=>if j<c then U i j else 1);have hp:p.length<=c+1:=hr.le;have hex:∃j,j<c+2/\j∉p:=by
  apply Classical.byContradiction;intro hn;have hall:∀j,j<c+2->j∈p:=fun j hj=>Classical.byContradiction fun e=>hn ⟨j,hj,e⟩;have he:p=List.range (c+2):=b0n _ _ hr.pw List.pairwise_lt_range fun j=>⟨fun h=>by obtain⟨k,hk,rfl⟩:=List.getElem_of_mem h;exact List.mem_range.2 (hr.lt k hk),fun h=>hall j (List.mem_range.1 h)⟩;rw[he,List.length_range]at hp;omega
 obtain⟨j,hj,hjp⟩:=hex;have hn:=(hd.nul _).2 (hr.nv_nul hjp hj);refine⟨nv r p j,fun k hk=>?_,?_,j,hj,by rw[a4J];decide⟩
 ·have:=hn k (by omega)
  rw[a0j (g:=fun i=>nv r p j i*U i k) fun i _=>by show(if k<c then U i k else 1)*_=_;rw[if_pos hk];grind]at this;exact this
 ·have:=hn c (by omega)
  rw[a0j (g:=nv r p j) fun i _=>by show(if c<c then U i c else 1)*_=_;rw[if_neg (by omega)];grind]at this;exact this
def ps (a:Vec):Vec:=fun i=>if 0<a i then a i else 0
theorem a7p {c n:Nat} {z:List Vec} {U:F2} {a:Vec} (hU:∀i,i<n->∀j (hj:j<z.length),j≠i->dot c (U i) z[j]<0) (hn:c+2<=n)
  (hpos:∃i,i<c+2/\0<a i) (j:Nat) (hj:j<z.length) (hja:¬(j<c+2/\0<a j)):dot c (fun q=>sm (c+2) fun i=>ps a i*U i q) z[j]<0:=by
 obtain⟨k,hk,hak⟩:=hpos;have e:dot c (fun q=>sm (c+2) fun i=>ps a i*U i q) z[j]=sm (c+2) fun i=>ps a i*dot c (U i) z[j]:=by
  unfold dot;rw[a0j (g:=fun q=>sm (c+2) fun i=>ps a i*(U i q*z[j] q)) fun q _=>by
   rw[Rat.mul_comm,<-a1l];exact a0j fun i _=>by grind]
  rw[a2W];exact a0j fun i _=>by rw[a1l]
 rw[e];refine b6X (fun i hi=>?_) k hk ?_
 ·unfold ps
  split
  ·rename_i h0
   have h1:=hU i (by omega) j hj (fun e=>hja ⟨e▸hi,e▸h0⟩);have:=Rat.mul_nonneg (show 0<=a i by grind) (show 0<= - dot c (U i) z[j]by grind);grind
  ·grind
 ·unfold ps
  rw[if_pos hak];have h1:=hU k (by omega) j hj (fun e=>hja ⟨e▸hk,e▸hak⟩);have:=Rat.mul_pos hak (show 0< - dot c (U k) z[j]by grind);grind
theorem b9D (c:Nat):∀(n:Nat) (z:List Vec),z.length=n->c+1<=n->(∀y:List Vec,y.Sublist z->y.length=c+1->∃u,∀v∈y,dot c u v<0)->∃u,∀v∈z,dot c u v<0
 |0,_,_,h,_=>by omega
 |n+1,z,hz,hn,h=>by
  by_cases he:n=c
  ·exact h z (List.Sublist.refl z) (by omega)
  have hU:∀i,∃u,i<n+1->∀j (hj:j<z.length),j≠i->dot c u z[j]<0:=fun i=>by
   by_cases hi:i<n+1
   ·obtain⟨u,hu⟩:=b9D c n (z.eraseIdx i) (by rw[List.length_eraseIdx_of_lt (by omega)];omega) (by omega) fun y hy hl=>h y (hy.trans (List.eraseIdx_sublist z i)) hl
    refine⟨u,fun _ j hj hji=>hu _ ?_⟩;rw[List.mem_eraseIdx_iff_getElem];exact⟨j,hj,hji,rfl⟩
   ·exact⟨z0,fun h=>absurd h hi⟩
  obtain⟨U,hU⟩:∃U:Nat->Vec,∀i,i<n+1->∀j (hj:j<z.length),j≠i->dot c (U i) z[j]<0:=⟨fun i=>(hU i).choose,fun i=>(hU i).choose_spec⟩;obtain⟨a,ha1,ha2,i0,hi0,hne⟩:=b9C c U;have hex:(∃i,i<c+2/\0<a i)/\∃i,i<c+2/\0< - a i:=by
   constructor
   ·apply Classical.byContradiction
    intro hc;have h1:∀i,i<c+2->a i<=0:=fun i hi=>Rat.not_lt.1 fun e=>hc ⟨i,hi,e⟩;have:=b6X h1 i0 hi0 (by have:=h1 i0 hi0;grind);grind
   ·apply Classical.byContradiction
    intro hc;have h1:∀i,i<c+2->0<=a i:=fun i hi=>by
     have:=Rat.not_lt.1 fun e=>hc ⟨i,hi,e⟩;grind
    exact hne (a3j h1 ha2 i0 hi0)
  have heq:∀q,q<c->(sm (c+2) fun i=>ps a i*U i q)=sm (c+2) fun i=>ps (fun i=> - a i) i*U i q:=fun q hq=>by
   have h1:=ha1 q hq;have h2:(sm (c+2) fun i=>ps a i*U i q - ps (fun i=> - a i) i*U i q)=0:=by
    rw[<-h1];refine a0j fun i _=>?_;unfold ps;split<;>split<;>grind
   rw[a6u]at h2;grind
  refine⟨fun q=>sm (c+2) fun i=>ps a i*U i q,fun v hv=>?_⟩;obtain⟨j,hj,rfl⟩:=List.getElem_of_mem hv;by_cases hja:j<c+2/\0<a j
  ·rw[a2r heq]
   exact a7p (a:=fun i=> - a i) hU (by omega) hex.2 j hj fun hh=>by have:=hh.2;have:=hja.2;grind
  ·exact a7p hU (by omega) hex.1 j hj hja
theorem b5r {z y:List Vec} (h:y.Sublist z):∃I:List Nat,I.length=y.length/\I.Pairwise (· < ·)/\(∀i∈I,i<z.length)/\a2I z I=y:=by
 obtain⟨is,h1,h2⟩:=List.sublist_eq_map_getElem h;refine⟨is.map fun i=>i.1,by rw[h1];simp,?_,?_,?_⟩
 ·rw[List.pairwise_map];exact h2
 ·intro i hi
  obtain⟨k,_,rfl⟩:=List.mem_map.1 hi;exact k.2
 ·rw[h1]
  unfold a2I;rw[List.map_map];exact List.map_congr_left fun i _=>by show z.getD i.1 z0=_;rw[b9t i.2];rfl
theorem b2a {c:Nat} {z:List Vec} (hn:c+1<=z.length) (h:∀I:List Nat,I.length=c+1->I.Pairwise (· < ·)->(∀i∈I,i<z.length)->∃u,∀v∈a2I z I,dot c u v<0):∃u,∀v∈z,dot c u v<0:=
 b9D c z.length z rfl hn fun y hy hl=>by
  obtain⟨I,h1,h2,h3,h4⟩:=b5r hy;rw[<-h4];exact h I (by omega) h2 h3
end Go.Lin
namespace Go.Lim
theorem c1B:∃n:Nat,n=4294967296:=⟨_,rfl⟩
noncomputable def B:Nat:=Classical.choose c1B
theorem a1j:B=4294967296:=Classical.choose_spec c1B
theorem a2l:0<B:=by rw[a1j];decide
noncomputable def nv:List Nat->Nat
 | []=>0
 |d::l=>d+B*nv l
def Dig (l:List Nat):Prop:=∀d∈l,d<B
def a1x (l:List Nat):Bool:= !(l.getLast?==some 0)
def vl (l:List Nat):List Nat:=if a1x l then l else[]
noncomputable def val (l:List Nat):Nat:=nv (vl l)
def a0K (l:List Nat) (n:Nat):Prop:=Dig l/\a1x l=true/\nv l=n
theorem a3K (a b:List Nat):nv (a++b)=nv a+B^a.length*nv b:=by
 induction a with
 |nil=>simp[nv]
 |cons d a ih=>simp only[List.cons_append,nv,ih,List.length_cons,Nat.pow_succ,Nat.mul_add];rw[Nat.mul_comm (B^a.length) B,Nat.mul_assoc,Nat.add_assoc]
theorem a1R (a:List Nat) (d:Nat):nv (a++[d])=nv a+B^a.length*d:=by rw[a3K];simp[nv]
theorem b0M (n:Nat):nv (List.replicate n 0)=0:=by
 induction n with
 |zero=>rfl
 |succ n ih=>simp[List.replicate_succ,nv,ih]
theorem Dig.nil:Dig []:=by intro d h;simp at h
theorem Dig.cons {d:Nat} {l:List Nat} (hd:d<B) (h:Dig l):Dig (d::l):=by
 intro x hx;rcases List.mem_cons.1 hx with rfl|hx
 ·exact hd
 ·exact h x hx
theorem Dig.append {a b:List Nat} (ha:Dig a) (hb:Dig b):Dig (a++b):=by
 intro x hx;rcases List.mem_append.1 hx with h|h
 ·exact ha x h
 ·exact hb x h
theorem Dig.take {a:List Nat} (ha:Dig a) (n:Nat):Dig (a.take n):=fun x hx=>ha x (List.mem_of_mem_take hx)
theorem Dig.drop {a:List Nat} (ha:Dig a) (n:Nat):Dig (a.drop n):=fun x hx=>ha x (List.mem_of_mem_drop hx)
theorem Dig.get {a:List Nat} (ha:Dig a) (i:Nat) (h:i<a.length):a[i]<B:=ha _ (List.getElem_mem h)
theorem Dig.set {a:List Nat} (ha:Dig a) (i d:Nat) (hd:d<B):Dig (a.set i d):=by
 intro x hx;rcases List.mem_or_eq_of_mem_set hx with h|rfl
 ·exact ha x h
 ·exact hd
theorem Dig.zeros (n:Nat):Dig (List.replicate n 0):=by intro x hx;rw[List.eq_of_mem_replicate hx];exact a2l
theorem a5g {l:List Nat} (h:Dig l):nv l<B^l.length:=by
 induction l with
 |nil=>simp[nv]
 |cons d l ih=>
  have h1:=ih (fun x hx=>h x (List.mem_cons_of_mem _ hx));have h2:=h d (List.mem_cons_self ..);simp only[nv,List.length_cons,Nat.pow_succ];have:B*nv l+B<=B^l.length*B:=by rw[<-Nat.mul_succ,Nat.mul_comm];exact Nat.mul_le_mul_right _ h1
  omega
theorem a4L (l:List Nat) (d:Nat):a1x (l++[d])=(d !=0):=by simp[a1x,bne]
theorem a3k {l:List Nat} (h:0<l.length):a1x l=(l[l.length - 1] !=0):=by
 unfold a1x;rw[List.getLast?_eq_getElem?,List.getElem?_eq_getElem (by omega)];simp[bne]
theorem b5s (l:List Nat):a1x (vl l)=true:=by
 unfold vl;split
 ·assumption
 ·rfl
theorem b9E {l:List Nat} (h:Dig l):Dig (vl l):=by
 unfold vl;split
 ·exact h
 ·exact Dig.nil
theorem b9F (l:List Nat):(vl l).length<=l.length:=by unfold vl;split<;>simp
theorem a5h {l:List Nat} (h:Dig l):a0K (vl l) (val l):=⟨b9E h,b5s l,rfl⟩
theorem a0K.vl {l:List Nat} {n:Nat} (h:a0K l n):vl l=l:=by unfold Lim.vl;rw[h.2.1];rfl
theorem a0K.val {l:List Nat} {n:Nat} (h:a0K l n):val l=n:=by unfold Lim.val;rw[h.vl];exact h.2.2
theorem a0K.nil:a0K [] 0:=⟨Dig.nil,rfl,rfl⟩
theorem a9E {P:List Nat->Prop} (h0:P []) (hs:∀l d,P l->P (l++[d])) (l:List Nat):P l:=by
 have:∀m:List Nat,P m.reverse:=by
  intro m
  induction m with
  |nil=>exact h0
  |cons d m ih=>rw[List.reverse_cons];exact hs _ _ ih
 simpa using this l.reverse
def Cut (l:List Nat) (k:Nat):Prop:=k<=l.length/\nv (l.take k)=nv l
theorem Cut.all (l:List Nat):Cut l l.length:=⟨Nat.le_refl _,by rw[List.take_length]⟩
theorem Cut.less {l:List Nat} {k:Nat} (h:Cut l k) (hk:0<k) (h0:l[k - 1]'(by have:=h.1;omega)=0):Cut l (k - 1):=by
 refine⟨by have:=h.1;omega,?_⟩;have h1:=h.1;have e:l.take k=l.take (k - 1)++[l[k - 1]'(by omega)]:=by
  conv=>lhs;rw[show k=(k - 1)+1 from by omega]
  exact List.take_succ_eq_append_getElem (by omega)
 rw[<-h.2,e,a1R,h0];simp
theorem Cut.canon {l:List Nat} {k:Nat} (h:Cut l k) (hd:Dig l) (hv:k=0\/∃h':k - 1<l.length,l[k - 1]≠0):a0K (l.take k) (nv l):=by
 refine⟨hd.take k,?_,h.2⟩;have h1:=h.1;rcases hv with rfl|⟨h',h2⟩
 ·rfl
 ·by_cases hk:k=0
  ·subst hk;rfl
  rw[a3k (by simp;omega)];have:(l.take k).length=k:=by simp;omega
  simp[this,h2]
theorem a0K.unique {a b:List Nat} {n:Nat} (ha:a0K a n) (hb:a0K b n):a=b:=by
 induction a generalizing b n with
 |nil=>
  obtain⟨h1,h2,h3⟩:=hb;have hn:n=0:=ha.2.2.symm;subst hn;clear ha
  induction b using a9E with
  |h0=>rfl
  |hs l d ih=>
   rw[a1R]at h3;rw[a4L]at h2;have:0<B^l.length:=Nat.pow_pos a2l;have hd:0<d:=by simp at h2;omega
   have:=Nat.mul_pos this hd;omega
 |cons d a ih=>
  have cv:∀{d:Nat} {l:List Nat},a1x (d::l)=true->a1x l=true:=by
   intro d l h;cases l with
   |nil=>rfl
   |cons x l=>simpa[a1x]using h
  obtain⟨h1,h2,h3⟩:=ha;obtain⟨g1,g2,g3⟩:=hb;cases b with
  |nil=>
   have hn:n=0:=g3.symm;have:a0K (d::a) 0:=⟨h1,h2,by rw[h3,hn]⟩;clear ih
   exfalso
   have key:∀l:List Nat,a0K l 0->l= []:=by
    intro l
    induction l using a9E with
    |h0=>intro _;rfl
    |hs l d _=>
     rintro ⟨_,k2,k3⟩;rw[a1R]at k3;rw[a4L]at k2;have p1:0<B^l.length:=Nat.pow_pos a2l;have hd:0<d:=by simp at k2;omega
     have:=Nat.mul_pos p1 hd;omega
   simpa using key _ this
  |cons c b=>
   have hd:=h1 d (List.mem_cons_self ..);have hc:=g1 c (List.mem_cons_self ..);simp only[nv]at h3 g3;have e:d+B*nv a=c+B*nv b:=by omega
   have hdc:d=c:=by
    have:=congrArg (· %B) e;simpa[Nat.add_mul_mod_self_left,Nat.mod_eq_of_lt hd,Nat.mod_eq_of_lt hc]using this
   subst hdc;have:B*nv a=B*nv b:=by omega
   have hab:nv a=nv b:=Nat.eq_of_mul_eq_mul_left a2l this;rw[ih (n:=nv a) (b:=b) ⟨fun x hx=>h1 x (List.mem_cons_of_mem _ hx),cv h2,rfl⟩ ⟨fun x hx=>g1 x (List.mem_cons_of_mem _ hx),cv g2,hab.symm⟩]
def a5i (a b o:List Nat) (i c:Nat):Prop:=o.length=a.length+1/\Dig o/\c<=1/\nv (o.take i)+B^i*c=nv (a.take i)+nv (b.take i)
theorem a1v (o:List Nat) (i d:Nat) (h:i<o.length):(o.set i d).take (i+1)=o.take i++[d]:=by
 rw[List.take_succ_eq_append_getElem (by simpa using h),List.take_set,List.getElem_set_self]
 congr 1
 rw[List.set_eq_of_length_le (by simp;omega)]
theorem a0E (a:List Nat) (i:Nat) (h:i<a.length):nv (a.take (i+1))=nv (a.take i)+B^i*a[i]:=by
 rw[List.take_succ_eq_append_getElem h,a1R];congr 3;simp;omega
theorem a7q (a:List Nat) (i:Nat) (h:a.length<=i):nv (a.take (i+1))=nv (a.take i):=by
 rw[List.take_of_length_le (by omega),List.take_of_length_le h]
theorem a5i.start (a b:List Nat):a5i a b (List.replicate (a.length+1) 0) 0 0:=⟨by simp,Dig.zeros _,by omega,by simp[nv]⟩
theorem a5i.step {a b o:List Nat} {i c y:Nat} (h:a5i a b o i c) (hi:i<a.length) (hy:(∃h:i<b.length,b[i]=y)\/(b.length<=i/\y=0)) (ha:Dig a) (hb:Dig b):
  a5i a b (o.set i ((a[i]+y+c)%4294967296)) (i+1) ((a[i]+y+c)/4294967296):=by
 obtain⟨h1,h2,h3,h4⟩:=h;have hai:=ha.get i hi;have hyB:y<B:=by
  rcases hy with⟨h,rfl⟩|⟨_,rfl⟩
  ·exact hb.get i h
  ·exact a2l
 rw[a1j]at hai hyB;refine⟨by simpa using h1,h2.set _ _ (by rw[a1j];exact Nat.mod_lt _ (by decide)),by omega,?_⟩;have hb2:nv (b.take (i+1))=nv (b.take i)+B^i*y:=by
  rcases hy with⟨h,rfl⟩|⟨h,rfl⟩
  ·exact a0E b i h
  ·rw[a7q b i h];simp
 rw[a1v o i _ (by omega),a1R,a0E a i hi,hb2,List.length_take,Nat.min_eq_left (by omega),Nat.pow_succ,Nat.mul_assoc];have e:(a[i]+y+c)%4294967296+B*((a[i]+y+c)/4294967296)=a[i]+y+c:=by rw[a1j];omega
 have e2:B^i*((a[i]+y+c)%4294967296)+B^i*(B*((a[i]+y+c)/4294967296))=B^i*a[i]+B^i*y+B^i*c:=by rw[<-Nat.mul_add,e,Nat.mul_add,Nat.mul_add]
 omega
theorem a5i.done {a b o:List Nat} {c:Nat} (h:a5i a b o a.length c) (hab:b.length<=a.length):Dig (o.set a.length c)/\nv (o.set a.length c)=nv a+nv b/\(o.set a.length c).length=a.length+1:=by
 obtain⟨h1,h2,h3,h4⟩:=h;refine⟨h2.set _ _ (by rw[a1j];omega),?_,by simpa using h1⟩;have e:o.set a.length c=(o.set a.length c).take (a.length+1):=by rw[List.take_of_length_le (by simp;omega)]
 rw[e,a1v o _ _ (by omega),a1R,List.length_take,Nat.min_eq_left (by omega),h4,List.take_of_length_le (Nat.le_refl _),List.take_of_length_le hab]
def lg (n:Nat):Nat:=if n=0 then 0 else Nat.log2 n/32+1
theorem b5t (m:Nat):B^m=2^(32*m):=by rw[Nat.pow_mul,a1j]
theorem a2Q {n m:Nat}:lg n<=m↔n<B^m:=by
 unfold lg;by_cases h:n=0
 ·subst h;simp[Nat.pow_pos a2l]
 ·rw[if_neg h,b5t,<-Nat.log2_lt h];omega
theorem a0K.len {l:List Nat} {n:Nat} (h:a0K l n):l.length=lg n:=by
 have h1:lg n<=l.length:=a2Q.2 (by rw[<-h.2.2];exact a5g h.1);obtain⟨hd,hv,rfl⟩:=h
 induction l using a9E with
 |h0=>rfl
 |hs l d _=>
  rw[a4L]at hv;have hd:0<d:=by simp at hv;omega
  have:¬lg (nv (l++[d]))<=l.length:=by
   rw[a2Q,a1R];have:=Nat.mul_le_mul_left (B^l.length) hd;omega
  simp at h1 |-;omega
theorem a5J:lg 0=0:=rfl
theorem a1f {a b:Nat} (h:a<=b):lg a<=lg b:=a2Q.2 (Nat.lt_of_le_of_lt h (a2Q.1 (Nat.le_refl _)))
theorem b0N (a b:Nat):lg (a+b)<=max (lg a) (lg b)+1:=by
 rw[a2Q];have h1:=(a2Q (n:=a) (m:=max (lg a) (lg b))).1 (Nat.le_max_left _ _);have h2:=(a2Q (n:=b) (m:=max (lg a) (lg b))).1 (Nat.le_max_right _ _);rw[Nat.pow_succ];have:0<B^max (lg a) (lg b):=Nat.pow_pos a2l;have:=a1j;generalize B^max (lg a) (lg b)=p at*;rw[a1j];omega
theorem a1c (a b:Nat):lg (a*b)<=lg a+lg b:=by
 rw[a2Q,Nat.pow_add];exact Nat.mul_lt_mul'' (a2Q.1 (Nat.le_refl _)) (a2Q.1 (Nat.le_refl _))
theorem b6Y {a:Nat} (h:0<a):0<lg a:=by unfold lg;rw[if_neg (by omega)];omega
theorem b3e (l:List Nat) (h:Dig l):lg (val l)<=l.length:=by
 have:=(a5h h).len;have:=b9F l;omega
def a3C (a b:Nat):Int:=if a<b then -1 else if b<a then 1 else 0
theorem a4B {a b:List Nat} {m n:Nat} (ha:a0K a m) (hb:a0K b n) (h:a.length<b.length):a3C m n= -1:=by
 have:m<n:=by
  rcases Nat.lt_or_ge m n with h1|h1
  ·exact h1
  ·have:=a1f h1;rw[<-ha.len,<-hb.len]at this;omega
 simp[a3C,this]
theorem a4C {a b:List Nat} {m n:Nat} (ha:a0K a m) (hb:a0K b n) (h:b.length<a.length):a3C m n=1:=by
 have:n<m:=by
  rcases Nat.lt_or_ge n m with h1|h1
  ·exact h1
  ·have:=a1f h1;rw[<-ha.len,<-hb.len]at this;omega
 simp[a3C,this,Nat.lt_asymm this]
theorem a2e (a:List Nat) (k:Nat) (hk:k<=a.length):nv a=nv (a.take k)+B^k*nv (a.drop k):=by
 have:=a3K (a.take k) (a.drop k);rw[List.take_append_drop,List.length_take,Nat.min_eq_left hk]at this;exact this
theorem a6E {a b:List Nat} (ha:Dig a) {k:Nat} (hl:a.length=b.length) (h0:0<k) (hk:k<=a.length) (hd:a.drop k=b.drop k) (h:a[k - 1]'(by omega)<b[k - 1]'(by omega)):nv a<nv b:=by
 rw[a2e a k hk,a2e b k (by omega),hd];have ha1:=a0E a (k - 1) (by omega);have hb1:=a0E b (k - 1) (by omega);rw[show k - 1+1=k from by omega]at ha1 hb1;have h1:=a5g (ha.take (k - 1));rw[List.length_take,Nat.min_eq_left (by omega)]at h1;have h2:B^(k - 1)*a[k - 1]'(by omega)+B^(k - 1)<=B^(k - 1)*b[k - 1]'(by omega):=by rw[<-Nat.mul_succ];exact Nat.mul_le_mul_left _ h
 omega
theorem a7r {a b:List Nat} {m n k:Nat} (ha:a0K a m) (hb:a0K b n) (hl:a.length=b.length) (h0:0<k) (hk:k<=a.length) (hd:a.drop k=b.drop k) (h:a[k - 1]'(by omega)<b[k - 1]'(by omega)):a3C m n= -1:=by
 have:=a6E ha.1 hl h0 hk hd h;rw[ha.2.2,hb.2.2]at this;simp[a3C,this]
theorem a7s {a b:List Nat} {m n k:Nat} (ha:a0K a m) (hb:a0K b n) (hl:a.length=b.length) (h0:0<k) (hk:k<=a.length) (hd:a.drop k=b.drop k) (h:b[k - 1]'(by omega)<a[k - 1]'(by omega)):a3C m n=1:=by
 have:=a6E hb.1 hl.symm h0 (by omega) hd.symm h;rw[ha.2.2,hb.2.2]at this;simp[a3C,this,Nat.lt_asymm this]
theorem a5Z {a b:List Nat} {k:Nat} (hl:a.length=b.length) (h0:0<k) (hk:k<=a.length) (hd:a.drop k=b.drop k) (h:a[k - 1]'(by omega)=b[k - 1]'(by omega)):a.drop (k - 1)=b.drop (k - 1):=by
 have h1:=List.drop_eq_getElem_cons (l:=a) (i:=k - 1) (by omega);have h2:=List.drop_eq_getElem_cons (l:=b) (i:=k - 1) (by omega);rw[h1,h2,show k - 1+1=k from by omega,hd,h]
theorem a7t {a b:List Nat} {m n k:Nat} (ha:a0K a m) (hb:a0K b n) (hk:k=0) (hd:a.drop k=b.drop k):a3C m n=0:=by
 subst hk;have:a=b:=by simpa using hd
 have:m=n:=by rw[<-ha.2.2,<-hb.2.2,this]
 simp[a3C,this]
theorem a3L (a b:Nat):a3C a b<0↔a<b:=by unfold a3C;split<;>(try split)<;>simp_all
theorem b7O (a b:Nat):a3C a b=0↔a=b:=by unfold a3C;split<;>(try split)<;>simp_all<;>omega
def a2D (l q:List Nat) (d k r:Nat):Prop:=q.length=l.length/\Dig q/\r<d/\nv (l.drop k)=d*nv (q.drop k)+r
theorem a2D.start (l:List Nat) (d:Nat) (hd:0<d):a2D l (List.replicate l.length 0) d l.length 0:=
 ⟨by simp,Dig.zeros _,hd,by simp[nv]⟩
theorem a7X (q:List Nat) (k x:Nat) (h0:0<k) (hk:k<=q.length):(q.set (k - 1) x).drop (k - 1)=x::q.drop k:=by
 rw[List.drop_eq_getElem_cons (by simp;omega),List.getElem_set_self,show k - 1+1=k from by omega,List.drop_set_of_lt (by omega)]
theorem a2D.step {l q:List Nat} {d k r:Nat} (h:a2D l q d k r) (h0:0<k) (hk:k<=l.length) (hl:Dig l):
  a2D l (q.set (k - 1) ((r*4294967296+l[k - 1])/d)) d (k - 1) ((r*4294967296+l[k - 1])%d):=by
 obtain⟨h1,h2,h3,h4⟩:=h;have hlk:=hl.get (k - 1) (by omega);rw[a1j]at hlk;have hx:(r*4294967296+l[k - 1])/d<4294967296:=by
  rw[Nat.div_lt_iff_lt_mul (by omega)];have:(r+1)*4294967296<=d*4294967296:=Nat.mul_le_mul_right _ h3;rw[Nat.mul_comm 4294967296 d];omega
 refine⟨by simpa using h1,h2.set _ _ (by rw[a1j];exact hx),Nat.mod_lt _ (by omega),?_⟩;rw[a7X q k _ h0 (by omega),List.drop_eq_getElem_cons (l:=l) (i:=k - 1) (by omega),show k - 1+1=k from by omega];simp only[nv];rw[h4];have e:=Nat.div_add_mod (r*4294967296+l[k - 1]) d;rw[a1j];generalize (r*4294967296+l[k - 1])/d=x at*;generalize (r*4294967296+l[k - 1])%d=y at*;generalize nv (q.drop k)=z at*;have e2:4294967296*(d*z+r)=d*(4294967296*z)+r*4294967296:=by rw[Nat.mul_add,<-Nat.mul_assoc,<-Nat.mul_assoc,Nat.mul_comm 4294967296 d,Nat.mul_comm 4294967296 r]
 rw[e2,Nat.mul_add];omega
theorem a2D.done {l q:List Nat} {d r:Nat} (h:a2D l q d 0 r):nv q=nv l/d/\r=nv l%d:=by
 obtain⟨h1,h2,h3,h4⟩:=h;simp only[List.drop_zero]at h4;rw[h4,Nat.mul_add_div (by omega),Nat.div_eq_of_lt h3,Nat.mul_add_mod,Nat.mod_eq_of_lt h3];exact⟨rfl,rfl⟩
theorem b6Z (o:List Nat) (k d:Nat) (h:k<o.length):nv (o.set k d)+B^k*o[k]=nv o+B^k*d:=by
 induction o generalizing k with
 |nil=>simp at h
 |cons x o ih=>
  match k with
  |0=>simp[nv];omega
  |k+1=>
   have:=ih k (by simpa using h);simp only[List.set_cons_succ,nv,List.getElem_cons_succ,Nat.pow_succ];have e1:B^k*B*o[k]'(by simpa using h)=B*(B^k*o[k]'(by simpa using h)):=by rw[Nat.mul_comm (B^k) B,Nat.mul_assoc]
   have e2:B^k*B*d=B*(B^k*d):=by rw[Nat.mul_comm (B^k) B,Nat.mul_assoc]
   rw[e1,e2,Nat.add_assoc,<-Nat.mul_add,this,Nat.mul_add,Nat.add_assoc]
def a2A (a b o:List Nat) (i j c:Nat):Prop:=o.length=a.length+b.length/\Dig o/\c<B/\(∀p (h:p<o.length),i+b.length<=p->o[p]=0)/\
 nv o+B^(i+j)*c=nv (a.take i)*nv b+(a.getD i 0)*B^i*nv (b.take j)
theorem a2A.start (a b:List Nat):a2A a b (List.replicate (a.length+b.length) 0) 0 0 0:=
 ⟨by simp,Dig.zeros _,a2l,by simp,by simp[nv,b0M]⟩
theorem a2A.step {a b o:List Nat} {i j c:Nat} (h:a2A a b o i j c) (hi:i<a.length) (hj:j<b.length) (ha:Dig a) (hb:Dig b) (hij:i+j<o.length):
  a2A a b (o.set (i+j) ((c+(a[i]*b[j]+o[i+j]))%4294967296)) i (j+1) ((c+(a[i]*b[j]+o[i+j]))/4294967296)/\c+(a[i]*b[j]+o[i+j])<18446744073709551616/\a[i]*b[j]+o[i+j]<18446744073709551616/\a[i]*b[j]<18446744073709551616:=by
 obtain⟨h1,h2,h3,h4,h5⟩:=h;have hai:=ha.get i hi;have hbj:=hb.get j hj;have hoj:=h2.get (i+j) hij;rw[a1j]at hai hbj hoj h3;have hm:a[i]*b[j]<=4294967295*4294967295:=Nat.mul_le_mul (by omega) (by omega);have hs:=b6Z o (i+j) ((c+(a[i]*b[j]+o[i+j]))%4294967296) hij;have hD:a.getD i 0=a[i]:=by simp[List.getD,hi]
 refine⟨⟨by simpa using h1,h2.set _ _ (by rw[a1j];exact Nat.mod_lt _ (by decide)),by rw[a1j];omega,?_,?_⟩,by omega,by omega,by omega⟩
 ·intro p hp hpp
  rw[List.getElem_set,if_neg (by omega)];exact h4 p (by simpa using hp) hpp
 ·rw[hD]at h5 |-
  rw[a0E b j hj,show i+(j+1)=(i+j)+1 from rfl,Nat.pow_succ];have e:=Nat.div_add_mod (c+(a[i]*b[j]+o[i+j])) 4294967296;generalize (c+(a[i]*b[j]+o[i+j]))/4294967296=x at*;generalize (c+(a[i]*b[j]+o[i+j]))%4294967296=y at*;generalize nv (o.set (i+j) y)=no at*;have e3:B^(i+j)*B*x=B^(i+j)*(4294967296*x):=by rw[a1j,Nat.mul_assoc]
  have e4:a[i]*B^i*(nv (b.take j)+B^j*b[j])=a[i]*B^i*nv (b.take j)+B^(i+j)*(a[i]*b[j]):=by
   rw[Nat.mul_add,Nat.pow_add]
   congr 1
   ac_rfl
  rw[e3,e4];have e5:B^(i+j)*(4294967296*x)+B^(i+j)*y=B^(i+j)*c+(B^(i+j)*(a[i]*b[j])+B^(i+j)*o[i+j]):=by
   rw[<-Nat.mul_add,e,Nat.mul_add,Nat.mul_add]
  omega
theorem a2A.row {a b o:List Nat} {i c:Nat} (h:a2A a b o i b.length c) (hi:i<a.length):a2A a b (o.set (i+b.length) c) (i+1) 0 0:=by
 obtain⟨h1,h2,h3,h4,h5⟩:=h;have hs:=b6Z o (i+b.length) c (by omega);have hz:=h4 (i+b.length) (by omega) (by omega);rw[hz,Nat.mul_zero,Nat.add_zero]at hs;have hD:a.getD i 0=a[i]:=by simp[List.getD,hi]
 refine⟨by simpa using h1,h2.set _ _ h3,a2l,?_,?_⟩
 ·intro p hp hpp
  rw[List.getElem_set,if_neg (by omega)];exact h4 p (by simpa using hp) (by omega)
 ·rw[List.take_zero,show nv []=0 from rfl,Nat.mul_zero,Nat.mul_zero,Nat.add_zero,Nat.add_zero,hs,h5,hD,List.take_of_length_le (Nat.le_refl b.length),a0E a i hi,Nat.add_mul,Nat.mul_comm (B^i) a[i]]
theorem a2A.done {a b o:List Nat} {c:Nat} (h:a2A a b o a.length 0 c) (hc:c=0):nv o=nv a*nv b:=by
 obtain⟨h1,h2,h3,h4,h5⟩:=h;subst hc;simpa[nv]using h5
theorem a2F {n:Nat} (h0:0<n) (h:n<4294967296):lg n=1:=by
 have h1:lg n<=1:=a2Q.2 (by rw[Nat.pow_one,a1j];exact h);have:=b6Y h0;omega
theorem b3f {l:List Nat} {n:Nat} (h:a0K l n) (h0:0<n) (h1:n<4294967296):l= [n]:=by
 have h2:=h.len;rw[a2F h0 h1]at h2
 match l,h2 with
 | [d],_=>have:=h.2.2;simp[nv]at this;rw[this]
theorem b0O {n:Nat} (h0:0<n) (h1:n<4294967296):a0K [n] n:=⟨Dig.cons (by rw[a1j];exact h1) Dig.nil,by simp[a1x];omega,by simp[nv]⟩
theorem a7Y {l:List Nat} {n:Nat} (h:a0K l n):l= []↔n=0:=by
 constructor
 ·rintro rfl;exact h.2.2.symm
 ·intro hn;have:=h.len;rw[hn]at this;exact List.eq_nil_of_length_eq_zero this
theorem a2A.step' {a b o:List Nat} {i j c x y z:Nat} (h:a2A a b o i j c) (hi:i<a.length) (hj:j<b.length) (ha:Dig a) (hb:Dig b) (hij:i+j<o.length) (hx:a[i]=x) (hy:b[j]=y) (hz:o[i+j]=z):
  a2A a b (o.set (i+j) ((c+(x*y+z))%4294967296)) i (j+1) ((c+(x*y+z))/4294967296)/\c+(x*y+z)<18446744073709551616:=by
 subst hx;subst hy;subst hz;exact⟨(h.step hi hj ha hb hij).1,(h.step hi hj ha hb hij).2.1⟩
def a2Y (a b o:List Nat) (i c:Nat):Prop:=o.length=i/\Dig o/\c<=1/\nv o+B^i*c=nv (a.take i)+nv (b.take i)
theorem a2Y.start (a b:List Nat):a2Y a b [] 0 0:=⟨rfl,Dig.nil,by omega,by simp[nv]⟩
theorem a1i (a:List Nat) (i:Nat):nv (a.take (i+1))=nv (a.take i)+B^i*a.getD i 0:=by
 by_cases h:i<a.length
 ·rw[a0E a i h];simp[List.getD,h]
 ·rw[a7q a i (by omega)];simp[List.getD,h]
theorem Dig.getD {a:List Nat} (ha:Dig a) (i:Nat):a.getD i 0<B:=by
 by_cases h:i<a.length
 ·simpa[List.getD,h]using ha.get i h
 ·simpa[List.getD,h]using a2l
theorem a2Y.step {a b o:List Nat} {i c:Nat} (h:a2Y a b o i c) (ha:Dig a) (hb:Dig b):
  a2Y a b (o++[(a.getD i 0+b.getD i 0+c)%4294967296]) (i+1) ((a.getD i 0+b.getD i 0+c)/4294967296):=by
 obtain⟨h1,h2,h3,h4⟩:=h;have hx:=ha.getD i;have hy:=hb.getD i;have ea:=a1i a i;have eb:=a1i b i;unfold a2Y;rw[ea,eb];clear ea eb;generalize a.getD i 0=x at*;generalize b.getD i 0=y at*;rw[a1j]at hx hy;refine⟨by simp[h1],h2.append (Dig.cons (by rw[a1j];exact Nat.mod_lt _ (by decide)) Dig.nil),by omega,?_⟩;rw[a1R,h1,Nat.pow_succ,Nat.mul_assoc];have e:(x+y+c)%4294967296+B*((x+y+c)/4294967296)=x+y+c:=by rw[a1j];omega
 have e2:B^i*((x+y+c)%4294967296)+B^i*(B*((x+y+c)/4294967296))=B^i*x+B^i*y+B^i*c:=by rw[<-Nat.mul_add,e,Nat.mul_add,Nat.mul_add]
 omega
theorem a2Y.done {a b o:List Nat} {c m:Nat} (h:a2Y a b o (m+1) c) (ha:Dig a) (hb:Dig b) (hal:a.length<=m) (hbl:b.length<=m):nv o=nv a+nv b:=by
 obtain⟨h1,h2,h3,h4⟩:=h;rw[List.take_of_length_le (by omega),List.take_of_length_le (by omega)]at h4;have ha1:=Nat.lt_of_lt_of_le (a5g ha) (Nat.pow_le_pow_right a2l hal);have hb1:=Nat.lt_of_lt_of_le (a5g hb) (Nat.pow_le_pow_right a2l hbl);rw[Nat.pow_succ]at h4;have hc:c=0:=by
  rcases Nat.eq_zero_or_pos c with h|h
  ·exact h
  ·exfalso
   have h5:B^m*B<=B^m*B*c:=Nat.le_mul_of_pos_right _ h;generalize B^m=p at*;rw[a1j]at h5 h4;omega
 subst hc;simpa using h4
theorem a1k {l:List Nat} {n:Nat} (h:a0K l n):l.length=0↔n=0:=by
 rw[<-a7Y h];exact List.length_eq_zero_iff
def a1o (s:Bool) (m:List Nat):Bool:=a1x m&&(decide (0<m.length)|| !s)
noncomputable def a7Z (s:Bool) (m:List Nat):Int:=if a1o s m then(if s then -(nv m:Int)else nv m)else 0
def a6a (s:Bool) (m:List Nat) (z:Int):Prop:=s=decide (z<0)/\a0K m z.natAbs
theorem a6a.of_valid {s:Bool} {m:List Nat} (hd:Dig m) (h:a1o s m=true):a6a s m (a7Z s m):=by
 have hv:a1x m=true:=by unfold a1o at h;simp at h;exact h.1
 have hc:a0K m (nv m):=⟨hd,hv,rfl⟩;have h0:=a1k hc;unfold a7Z;rw[if_pos h];cases s
 ·simp only[Bool.false_eq_true,if_false]
  exact⟨by simp,by simpa using hc⟩
 ·have hm:0<m.length:=by unfold a1o at h;simpa[hv]using h
  simp only[if_true];refine⟨?_,by simpa using hc⟩;have:nv m≠0:=fun e=>by rw[e]at h0;simp at h0;simp[h0]at hm
  symm;rw[decide_eq_true_eq];omega
theorem a6a.valid {s:Bool} {m:List Nat} {z:Int} (h:a6a s m z):a1o s m=true:=by
 obtain⟨hs,hm⟩:=h;have h0:=a1k hm;unfold a1o;rw[hm.2.1];by_cases hz:z<0
 ·have:0<m.length:=by omega
  simp[this]
 ·simp[hs,hz]
theorem a6a.val {s:Bool} {m:List Nat} {z:Int} (h:a6a s m z):a7Z s m=z:=by
 unfold a7Z;rw[if_pos h.valid];obtain⟨hs,hm⟩:=h;rw[hm.2.2];by_cases hz:z<0
 ·simp only[hs,hz,decide_true,if_true];omega
 ·simp only[hs,hz,decide_false,Bool.false_eq_true,if_false];omega
theorem a6a.zero:a6a false [] 0:=⟨rfl,a0K.nil⟩
theorem a6a.len {s:Bool} {m:List Nat} {z:Int} (h:a6a s m z):m.length=lg z.natAbs:=h.2.len
theorem a6a.len0 {s:Bool} {m:List Nat} {z:Int} (h:a6a s m z):m.length=0↔z=0:=by
 have:=a1k h.2;omega
theorem b7P (s:Bool) (m:List Nat) (h:Dig m):lg (a7Z s m).natAbs<=m.length:=by
 cases hv:a1o s m
 ·unfold a7Z;rw[hv];simp[a5J]
 ·exact Nat.le_of_eq (a6a.of_valid h hv).len.symm
theorem a6b {s:Bool} {m:List Nat} (h:a1o s m=false):a7Z s m=0:=by unfold a7Z;rw[h];rfl
def dn (q:Rat):Nat:=if q.den=1 then 0 else q.den
def a6i (s:Bool) (m d:List Nat) (q:Rat):Prop:=a6a s m q.num/\a0K d (dn q)
noncomputable def a1t (s:Bool) (m d:List Nat):Bool:=a1o s m&&a1x d&&(decide (d.length=0)||(decide (0<m.length)&& !(nv d==1)&&(Nat.gcd (nv m) (nv d)==1)))
noncomputable def b3g (s:Bool) (m d:List Nat):Rat:=if a1t s m d then mkRat (a7Z s m) (if d.length=0 then 1 else nv d)else 0
theorem a6i.of_valid {s:Bool} {m d:List Nat} (hm:Dig m) (hd:Dig d) (h:a1t s m d=true):a6i s m d (b3g s m d):=by
 have h':=h;unfold a1t at h';simp only[Bool.and_eq_true]at h';obtain⟨⟨h1,h2⟩,h3⟩:=h';have hz:=a6a.of_valid hm h1;have hcd:a0K d (nv d):=⟨hd,h2,rfl⟩;have h0:=a1k hcd;unfold b3g;rw[if_pos h];by_cases hl:d.length=0
 ·rw[if_pos hl]
  have e:mkRat (a7Z s m) 1=((a7Z s m:Int):Rat):=by rw[<-Rat.mk_den_one];rw[Rat.mk_eq_mkRat]
  rw[e];refine⟨by simpa using hz,?_⟩;have:nv d=0:=h0.1 hl;simp only[dn,Rat.den_intCast,if_true];rw[this]at hcd;exact hcd
 ·rw[if_neg hl]
  have hne:nv d≠0:=fun e=>hl (h0.2 e);simp[hl]at h3;obtain⟨⟨h4,h5⟩,h6⟩:=h3;have habs:(a7Z s m).natAbs=nv m:=by have:=hz.2.2.2;omega
  have hg:(nv d).gcd (a7Z s m).natAbs=1:=by rw[habs,Nat.gcd_comm];exact h6
  have e1:(mkRat (a7Z s m) (nv d)).num=a7Z s m:=by rw[Rat.num_mkRat,if_neg hne,hg];simp
  have e2:(mkRat (a7Z s m) (nv d)).den=nv d:=by rw[Rat.den_mkRat,if_neg hne,hg];simp
  exact⟨by rw[e1];exact hz,by unfold dn;rw[e2,if_neg h5];exact hcd⟩
theorem a6i.valid {s:Bool} {m d:List Nat} {q:Rat} (h:a6i s m d q):a1t s m d=true:=by
 obtain⟨h1,h2⟩:=h;have h3:=a1k h2;have h4:=h1.len0;have h5:=q.reduced;have h6:=q.den_nz;unfold a1t;rw[h1.valid,h2.2.1,h2.2.2,h1.2.2.2];by_cases hd:q.den=1
 ·have:d.length=0:=by rw[h3];unfold dn;rw[if_pos hd]
  simp[this]
 ·have e:dn q=q.den:=by unfold dn;rw[if_neg hd]
  rw[e]at h3 |-;have hn:q.num≠0:=fun e=>by rw[e]at h5;simp[Nat.Coprime]at h5;exact hd h5
  have hm:0<m.length:=by omega
  have hg:q.num.natAbs.gcd q.den=1:=h5;simp[hm,hd,hg]
theorem a6i.val {s:Bool} {m d:List Nat} {q:Rat} (h:a6i s m d q):b3g s m d=q:=by
 unfold b3g;rw[if_pos h.valid];obtain⟨h1,h2⟩:=h;have h3:=a1k h2;rw[h1.val,h2.2.2];by_cases hd:q.den=1
 ·have:d.length=0:=by rw[h3];unfold dn;rw[if_pos hd]
  rw[if_pos this]
  conv=>rhs;rw[<-Rat.mkRat_self q]
  rw[hd]
 ·have e:dn q=q.den:=by unfold dn;rw[if_neg hd]
  have hl:d.length≠0:=by rw[e]at h3;have:=q.den_nz;omega
  rw[if_neg hl,e,Rat.mkRat_self]
theorem a6i.unique {s s':Bool} {m d m' d':List Nat} {q:Rat} (h:a6i s m d q) (h':a6i s' m' d' q):s=s'/\m=m'/\d=d':=
 ⟨h.1.1.trans h'.1.1.symm,h.1.2.unique h'.1.2,h.2.unique h'.2⟩
theorem a6i.zero:a6i false [] [] 0:=⟨a6a.zero,by simp[dn];exact a0K.nil⟩
theorem a6i.ofInt {s:Bool} {m:List Nat} {z:Int} (h:a6a s m z):a6i s m [] (z:Rat):=⟨by simpa using h,by simp[dn];exact a0K.nil⟩
theorem a3M {s:Bool} {m d:List Nat} (h:a1t s m d=false):b3g s m d=0:=by unfold b3g;rw[h];rfl
def hq (q:Rat):Nat:=max (lg q.num.natAbs) (lg q.den)
theorem a0F (q:Rat):lg q.num.natAbs<=hq q:=Nat.le_max_left _ _
theorem a0I (q:Rat):lg q.den<=hq q:=Nat.le_max_right _ _
theorem b7Q (q:Rat):lg (dn q)<=hq q:=by
 unfold dn;split
 ·simp[a5J]
 ·exact a0I q
theorem a3z:lg 1=1:=a2F (by omega) (by omega)
theorem a8a {n:Nat} (h:0<n):1<=lg n:=b6Y h
theorem a7u (q:Rat):1<=hq q:=Nat.le_trans (a8a q.den_pos) (a0I q)
theorem b0P (z:Int) (d k:Nat) (h1:lg z.natAbs<=k) (h2:lg d<=k) (hk:1<=k):hq (mkRat z d)<=k:=by
 by_cases hd:d=0
 ·subst hd;rw[Rat.mkRat_zero];unfold hq;simp[a5J,a3z];exact hk
 ·unfold hq
  rw[Rat.num_mkRat,Rat.den_mkRat,if_neg hd,if_neg hd];refine Nat.max_le.2 ⟨Nat.le_trans (a1f ?_) h1,Nat.le_trans (a1f (Nat.div_le_self _ _)) h2⟩;exact Int.natAbs_ediv_le_natAbs _ _
theorem b0Q (x y:Rat):hq (x+y)<=hq x+hq y+1:=by
 rw[Rat.add_def'];refine b0P _ _ _ ?_ (Nat.le_trans (a1c _ _) (by have:=a0I x;have:=a0I y;omega)) (by omega);refine Nat.le_trans (a1f (Int.natAbs_add_le _ _)) ?_;refine Nat.le_trans (b0N _ _) ?_;rw[Int.natAbs_mul,Int.natAbs_mul,Int.natAbs_natCast,Int.natAbs_natCast];have a1:=a1c x.num.natAbs y.den;have a2:=a1c y.num.natAbs x.den;have:=a0F x;have:=a0F y;have:=a0I x;have:=a0I y;omega
theorem hq_mul (x y:Rat):hq (x*y)<=hq x+hq y:=by
 rw[Rat.mul_def'];refine b0P _ _ _ ?_ (Nat.le_trans (a1c _ _) (by have:=a0I x;have:=a0I y;omega)) (by have:=a7u x;omega);rw[Int.natAbs_mul];have:=a1c x.num.natAbs y.num.natAbs;have:=a0F x;have:=a0F y;omega
theorem a4D (x:Rat):hq (-x)=hq x:=by unfold hq;simp
theorem a6F (x y:Rat):hq (x - y)<=hq x+hq y+1:=by
 rw[Rat.sub_eq_add_neg,<-a4D y];exact b0Q _ _
theorem a1p:hq 0=1:=by unfold hq;simp[a5J,a3z]
theorem b9G (x:Rat):hq x⁻¹<=hq x:=by
 by_cases h:x=0
 ·subst h;simp
 ·have hn:x.num≠0:=fun e=>h (Rat.num_eq_zero.1 e)
  unfold hq;rw[Rat.num_inv,Rat.den_inv,if_neg hn,Int.natAbs_mul,Int.natAbs_sign_of_ne_zero hn,Nat.one_mul,Int.natAbs_natCast,Nat.max_comm];exact Nat.le_refl _
theorem hq_div (x y:Rat):hq (x/y)<=hq x+hq y:=by
 rw[Rat.div_def];exact Nat.le_trans (hq_mul _ _) (by have:=b9G y;omega)
theorem a6G (z:Int) (k:Nat) (h:lg z.natAbs<=k) (hk:1<=k):hq (z:Rat)<=k:=by
 unfold hq;rw[Rat.num_intCast,Rat.den_intCast,a3z];exact Nat.max_le.2 ⟨h,hk⟩
theorem a9F (s:Bool) (m d:List Nat) (k:Nat) (hm:Dig m) (hd:Dig d) (h1:m.length<=k) (h2:d.length<=k) (hk:1<=k):hq (b3g s m d)<=k:=by
 cases hv:a1t s m d
 ·rw[a3M hv,a1p];exact hk
 ·have hc:=a6i.of_valid hm hd hv
  have e1:=hc.1.len;have e2:=hc.2.len;unfold hq;refine Nat.max_le.2 ⟨by omega,?_⟩;unfold dn at e2;split at e2
  ·rename_i h;rw[h,a3z];exact hk
  ·omega
theorem a6i.lowest {s:Bool} {n d:List Nat} {z:Int} {k:Nat} (hk:k≠0) (hs:s=decide (z<0)) (hn:a0K n (z.natAbs/Nat.gcd z.natAbs k)) (hd:a0K d (k/Nat.gcd z.natAbs k)):a6i s n (if k/Nat.gcd z.natAbs k=1 then[]else d) (mkRat z k):=by
 have hg:0<Nat.gcd z.natAbs k:=Nat.gcd_pos_of_pos_right _ (by omega);have e1:(mkRat z k).num=z/(Nat.gcd z.natAbs k:Nat):=by rw[Rat.num_mkRat,if_neg hk,Nat.gcd_comm]
 have e2:(mkRat z k).den=k/Nat.gcd z.natAbs k:=by rw[Rat.den_mkRat,if_neg hk,Nat.gcd_comm]
 have hdv:((Nat.gcd z.natAbs k:Nat):Int)∣z:=Int.ofNat_dvd_left.2 (Nat.gcd_dvd_left _ _);have e3:(mkRat z k).num.natAbs=z.natAbs/Nat.gcd z.natAbs k:=by rw[e1,Int.natAbs_ediv_of_dvd hdv,Int.natAbs_natCast]
 refine⟨⟨?_,by rw[e3];exact hn⟩,?_⟩
 ·rw[hs,Bool.eq_iff_iff]
  simp only[decide_eq_true_eq];rw[e1];obtain⟨g,hgg⟩:∃g,Nat.gcd z.natAbs k=g:=⟨_,rfl⟩;rw[hgg]at hdv hg |-;obtain⟨c,rfl⟩:=hdv;rw[Int.mul_ediv_cancel_left _ (by omega)];constructor
  ·intro h
   by_cases h0:c<0
   ·exact h0
   ·have:=Int.mul_nonneg (Int.natCast_nonneg g) (show 0<=c by omega);omega
  ·intro h
   exact Int.mul_neg_of_pos_of_neg (by omega) h
 ·unfold dn
  rw[e2];split
  ·exact a0K.nil
  ·exact hd
end Go.Lim
namespace Go.Lin
open Go.Lim
def HB (B:Nat) (m:Mat):Prop:=∀i j,hq (ent m i j)<=B
theorem HB.pos {B:Nat} {m:Mat} (h:HB B m):1<=B:=Nat.le_trans (a7u _) (h 0 0)
theorem HB.mono {B C:Nat} {m:Mat} (h:HB B m) (hBC:B<=C):HB C m:=fun i j=>Nat.le_trans (h i j) hBC
theorem HB.swap {n c B:Nat} {m:Mat} (h:HB B m) (hs:Shp n c m) {i k:Nat} (hi:i<n) (hk:k<n):HB B (a1b m i k):=fun r j=>by
 rw[a3h hs hi hk];split
 ·exact h _ _
 ·split
  ·exact h _ _
  ·exact h _ _
theorem b7R {x y z u:Rat} {B:Nat} (hx:hq x<=B) (hy:hq y<=B) (hz:hq z<=B) (hu:hq u<=B):hq (y/z)<=2*B/\hq (y/z*u)<=3*B/\hq (x - y/z*u)<=5*B:=by
 have h1:=hq_div y z;have h2:=hq_mul (y/z) u;have h3:=a6F x (y/z*u);have h4:=a7u x;omega
theorem HB.clear {n c B:Nat} {m:Mat} (h:HB B m) (hs:Shp n c m) {t:Nat} (ht:t<n) (col s:Nat):HB (5*B) (clear m t col s):=fun i j=>by
 rw[a4Y hs ht];split
 ·exact(b7R (h _ _) (h _ _) (h _ _) (h _ _)).2.2
 ·have:=h i j;omega
theorem HB.eN {n c B:Nat} {m:Mat} (h:HB B m) (hs:Shp n c m) (k:Nat):HB (5^(eN m k).2.1.length*B) (eN m k).1:=by
 induction k with
 |zero=>simpa[Lin.eN]using h
 |succ k ih=>
  have hk:=a4z hs k
  show HB (5^(a5E (Lin.eN m k) k).2.1.length*B) (a5E (Lin.eN m k) k).1
  generalize Lin.eN m k=s at ih hk |-;obtain⟨M,p,odd⟩:=s;have hM:Shp n c M:=hk.shp;have hl:=hM.1;have hle:p.length<=n:=hk.ech.le;unfold a5E
  dsimp only at ih |-
  split
  ·exact ih
  ·split
   ·exact ih
   ·rename_i e _ q hz
    obtain⟨h1,h2⟩:=a3G hz;have:=(ih.swap hM (show p.length<n by omega) (show p.length+q<n by omega)).clear (hM.swap (by omega) (by omega)) (show p.length<n by omega) k M.length;refine this.mono ?_;rw[List.length_append,List.length_singleton,Nat.pow_succ,Nat.mul_comm _ 5,Nat.mul_assoc];exact Nat.le_refl _
theorem HB.divL {n c B:Nat} {m:Mat} (h:HB B m) (hs:Shp n c m) {i:Nat} (hi:i<n) (col:Nat):HB (2*B) (divL m i col):=fun k j=>by
 rw[a3i hs hi];split
 ·have:=hq_div (ent m i j) (ent m i col);have:=h i j;have:=h i col;omega
 ·have:=h k j;omega
theorem b5u {x y z u:Rat} {B:Nat} (hx:hq x<=B) (hy:hq y<=B) (hz:hq z<=2*B) (hu:hq u<=2*B):hq (y/z)<=3*B/\hq (y/z*u)<=5*B/\hq (x - y/z*u)<=7*B:=by
 have h1:=hq_div y z;have h2:=hq_mul (y/z) u;have h3:=a6F x (y/z*u);have h4:=a7u x;omega
theorem HB.dStep {n c B:Nat} {m:Mat} (h:HB B m) (hs:Shp n c m) {t:Nat} (ht:t<n) (col s:Nat):HB (7*B) (above (Lin.divL m t col) t col s):=fun i j=>by
 have hd:=hs.divL ht col;have h2:=h.divL hs ht col;rw[a4Z hd ht];split
 ·refine(b5u ?_ ?_ (h2 _ _) (h2 _ _)).2.2
  ·rw[a3i hs ht,if_neg (by omega)];exact h _ _
  ·rw[a3i hs ht,if_neg (by omega)];exact h _ _
 ·have:=h2 i j;omega
theorem HB.dN {n c B:Nat} {m:Mat} {p:List Nat} (h:HB B m) (hs:Shp n c m) (he:Ech n c (ent m) p) (t:Nat) (ht:t<=p.length):HB (7^t*B) (dN m p t):=by
 induction t with
 |zero=>simpa[Lin.dN]using h
 |succ t ih=>
  have hk:=b7B hs he t (by omega);have hle:=he.le;refine((ih (by omega)).dStep hk.shp (show t<n by omega) (p.getD t 0) t).mono ?_;rw[Nat.pow_succ,Nat.mul_comm _ 7,Nat.mul_assoc];exact Nat.le_refl _
theorem HB.pv {n c B:Nat} {m:Mat} (h:HB B m) (hs:Shp n c m) {i:Nat} (hi:i<n) (col:Nat):HB (3*B) (pv m i col):=fun k j=>by
 rw[b2E hs hi];split
 ·have h1:=hq_mul (ent m i j) (1/ent m i col);have h2:=hq_div 1 (ent m i col);have:=h i j;have:=h i col;have:=a7u (ent m i j)
  have h3:hq 1=1:=by decide+kernel
  omega
 ·have:=h k j;omega
theorem HB.out {n c B:Nat} {m:Mat} (h:HB B m) (hs:Shp n c m) {t:Nat} (ht:t<n) (col s:Nat):HB (6*B) (Lin.out (Lin.pv m t col) t col s):=fun i j=>by
 have hd:=hs.pv ht col;have h2:=h.pv hs ht col;rw[b0p hd ht];split
 ·rename_i a
  have e:∀j,ent (Lin.pv m t col) i j=ent m i j:=fun j=>by rw[b2E hs ht,if_neg a.1]
  rw[e,e];have h3:=hq_mul (ent (Lin.pv m t col) t j) (- ent m i col);have h4:=b0Q (ent m i j) (ent (Lin.pv m t col) t j* - ent m i col);rw[a4D]at h3;have:=h2 t j;have:=h i j;have:=h i col;have:=h.pos;omega
 ·have:=h2 i j;omega
theorem HB.rN {n c B:Nat} {m:Mat} (h:HB B m) (hs:Shp n c m) (k:Nat):HB (6^(rN m k).2.1.length*B) (rN m k).1/\hq (rN m k).2.2<=6^(rN m k).2.1.length*B:=by
 induction k with
 |zero=>exact⟨by simpa[Lin.rN]using h,by simp[Lin.rN];exact h.pos⟩
 |succ k ih=>
  have hk:=b1Q hs k
  show HB (6^(a5F (Lin.rN m k) k).2.1.length*B) (a5F (Lin.rN m k) k).1/\hq (a5F (Lin.rN m k) k).2.2<=6^(a5F (Lin.rN m k) k).2.1.length*B
  generalize Lin.rN m k=s at ih hk |-;obtain⟨M,p,fac⟩:=s;have hM:Shp n c M:=hk.shp;have hl:=hM.1;have hle:p.length<=n:=hk.ref.le;unfold a5F
  dsimp only at ih |-
  split
  ·exact ih
  ·rename_i e q hz
   obtain⟨h1,h2⟩:=a3G hz;have hsw:=(ih.1.swap hM (show p.length+q<n by omega) (show p.length<n by omega));have:=hsw.out (hM.swap (by omega) (by omega)) (show p.length<n by omega) k M.length;have he:6*(6^p.length*B)=6^(p++[k]).length*B:=by
    rw[List.length_append,List.length_singleton,Nat.pow_succ,Nat.mul_comm _ 6,Nat.mul_assoc]
   refine⟨this.mono (Nat.le_of_eq he),?_⟩
   dsimp only
   rw[<-he];have h3:=hsw p.length k;have h4:hq (if q=0 then fac else -fac)<=6^p.length*B:=by
    split
    ·exact ih.2
    ·rw[a4D];exact ih.2
   have h5:=hq_mul (if q=0 then fac else -fac) (ent (a1b M (p.length+q) p.length) p.length k);omega
def a9C (m:Mat) (c:Nat):Prop:=∃B,7*B<=68719476736/\(∀j,j<=c->HB B (eN m j).1)/\∀t,t<=(eN m c).2.1.length->HB B (dN (eN m c).1 (eN m c).2.1 t)
theorem a4E (a:Nat) {i n:Nat} (ha:0<a) (h:i<=n):a^i<=a^n:=Nat.pow_le_pow_right ha h
theorem b3h {n c B:Nat} {m:Mat} (hs:Shp n c m) (h:HB B m) (hB:7*(35^n*B)<=68719476736):a9C m c:=by
 have hle:∀j,(eN m j).2.1.length<=n:=fun j=>(a4z hs j).ech.le;refine⟨35^n*B,hB,fun j _=>(h.eN hs j).mono (Nat.mul_le_mul_right _ ?_),fun t ht=>(((h.eN hs c).dN (a4z hs c).shp (a4z hs c).ech t ht)).mono ?_⟩
 ·exact Nat.le_trans (a4E 5 (by omega) (hle j)) (Nat.pow_le_pow_left (by omega) n)
 ·rw[<-Nat.mul_assoc]
  refine Nat.mul_le_mul_right _ ?_;rw[show(35:Nat)=7*5 from rfl,Nat.mul_pow];exact Nat.mul_le_mul (a4E 7 (by omega) (Nat.le_trans ht (hle c))) (a4E 5 (by omega) (hle c))
def b3i (m:Mat) (c:Nat):Prop:=∃B,7*B<=68719476736/\∀j,j<=c->HB B (eN m j).1
theorem a9C.e {m:Mat} {c:Nat} (h:a9C m c):b3i m c:=let ⟨B,h1,h2,_⟩:=h;⟨B,h1,h2⟩
theorem b7S {n c B:Nat} {m:Mat} (h:HB B m) (hs:Shp n c m):HB (35^n*B) (a0N m c).1:=by
 have hle:(eN m c).2.1.length<=n:=(a4z hs c).ech.le;refine((h.eN hs c).dN (a4z hs c).shp (a4z hs c).ech _ (Nat.le_refl _)).mono ?_;rw[<-Nat.mul_assoc];refine Nat.mul_le_mul_right _ ?_;rw[show(35:Nat)=7*5 from rfl,Nat.mul_pow];exact Nat.mul_le_mul (a4E 7 (by omega) hle) (a4E 5 (by omega) hle)
end Go.Lin
namespace Go.Rep
open Go.RowKit
def lenOf:Value->Nat| .slice _ n _=>n|_=>0
theorem hid {p:Prop} (h:p):Hid p:=h
theorem a3N {a:Option Addr} {n m c:Nat} (h:n=m):Ending.returned (.slice a n c)= .returned (.slice a m c):=by rw[h]
theorem a0U {k:IntKind} {a b:Int} (h:a=b):Ending.returned (.int k a)= .returned (.int k b):=by rw[h]
theorem a0p {a b:Bool} (h:a=b):Ending.returned (.bool a)= .returned (.bool b):=by rw[h]
theorem a8W (n:Nat):((n:Int) !=0)=(n !=0):=by rw[Bool.eq_iff_iff];simp
theorem a7v (n:Nat) (h:n<4294967296):(n:Int)%4294967296=n:=by omega
theorem a1S {a b:Int} (h:a≠b):(a==b)=false:=by simpa using h
theorem a6k {a b:Int} (h:a=b):(a !=b)=false:=by simpa using h
theorem a7w {a b:Int} (h:a=b):(a==b)=true:=by simpa using h
theorem a5C {a b:Int} (h:a≠b):(a !=b)=true:=by simpa using h
abbrev Mem:=Addr->Option Value
def Le (h h':Mem):Prop:=∀a u,h a=some u->h' a=some u
theorem Le.refl (h:Mem):Le h h:=fun _ _ x=>x
theorem Le.trans {a b c:Mem} (h:Le a b) (k:Le b c):Le a c:=fun x u e=>k x u (h x u e)
theorem a4M {w:World} {a:Addr} {u:Value} (h:w.cell? a=some u):a.block<w.heap.size:=by
 unfold World.cell? at h;by_cases hl:a.block<w.heap.size
 ·exact hl
 ·rw[Array.getElem?_eq_none (by omega)]at h;simp at h
structure ExtX (Y:Nat->Bool) (w w':World):Prop where
 os:w'.os=w.os
 tape:w'.tape=w.tape
 output:w'.output=w.output
 size:w.heap.size<=w'.heap.size
 block:∀k,k<w.heap.size->Y k=false->w'.heap[k]? =w.heap[k]?
def noY:Nat->Bool:=fun _=>false
abbrev Ext (w w':World):Prop:=ExtX noY w w'
theorem ExtX.refl {Y:Nat->Bool} (w:World):ExtX Y w w:=⟨rfl,rfl,rfl,Nat.le_refl _,fun _ _ _=>rfl⟩
theorem ExtX.trans {Y:Nat->Bool} {a b c:World} (h:ExtX Y a b) (k:ExtX Y b c):ExtX Y a c:=
 ⟨k.os.trans h.os,k.tape.trans h.tape,k.output.trans h.output,Nat.le_trans h.size k.size,fun i hi hy=>(k.block i (Nat.lt_of_lt_of_le hi h.size) hy).trans (h.block i hi hy)⟩
theorem ExtX.weaken {Y Z:Nat->Bool} {a b:World} (h:ExtX Y a b) (hz:∀k,k<a.heap.size->Z k=false->Y k=false):ExtX Z a b:=
 ⟨h.os,h.tape,h.output,h.size,fun k hk hy=>h.block k hk (hz k hk hy)⟩
theorem ExtX.of {Y:Nat->Bool} {a b:World} (h:Ext a b):ExtX Y a b:=h.weaken fun _ _ _=>rfl
theorem ExtX.alloc {Y:Nat->Bool} {a w:World} (h:ExtX Y a w) (o:Obj):ExtX Y a (w.alloc o):=
 h.trans ⟨rfl,rfl,rfl,by simp,fun k hk _=>Below.heap_alloc _ _ _ hk⟩
theorem ExtX.drew {Y:Nat->Bool} {a w:World} (h:ExtX Y a w):ExtX Y a w.drew:=⟨h.os,h.tape,h.output,h.size,h.block⟩
theorem ExtX.drewN {Y:Nat->Bool} {a w:World} (h:ExtX Y a w) (n:Nat):ExtX Y a (w.drewN n):=⟨h.os,h.tape,h.output,h.size,h.block⟩
theorem ExtX.then_ {Y Z:Nat->Bool} {a b c:World} (h:ExtX Y a b) (k:ExtX Z b c) (hz:∀i,i<a.heap.size->Y i=false->Z i=false):ExtX Y a c:=
 ⟨k.os.trans h.os,k.tape.trans h.tape,k.output.trans h.output,Nat.le_trans h.size k.size,fun i hi hy=>(k.block i (Nat.lt_of_lt_of_le hi h.size) (hz i hi hy)).trans (h.block i hi hy)⟩
theorem ExtX.below {w w':World} (h:Ext w w'):Below w.heap.size w w':=⟨h.os,h.tape,h.output,h.size,fun k hk=>h.block k hk rfl⟩
def mk (X:Nat->Bool) (w:World):Mem:=fun a=>if X a.block then none else w.cell? a
theorem a1u {X:Nat->Bool} {w:World} {a:Addr} {u:Value} (h:mk X w a=some u):w.cell? a=some u:=by
 unfold mk at h;split at h
 ·simp at h
 ·exact h
theorem b9H (X:Nat->Bool) (w:World):Le (mk X w) w.cell?:=fun _ _ h=>a1u h
theorem a2T (w:World):mk noY w=w.cell?:=by funext a;simp[mk,noY]
theorem a0u {X Y:Nat->Bool} {w w':World} (h:ExtX Y w w') (hY:∀k,Y k=true->X k=true):Le (mk X w) (mk X w'):=by
 intro a u e;have hc:=a1u e;have hl:=a4M hc;unfold mk at e |-;by_cases hx:X a.block=true
 ·simp[hx]at e
 ·rw[if_neg hx]
  have hy:Y a.block=false:=by
   cases hh:Y a.block
   ·rfl
   ·exact absurd (hY _ hh) hx
  rw[World.cell?_of_block (h.block a.block hl hy)];exact hc
theorem a0m {X:Nat->Bool} {w w':World} (h:Ext w w'):Le (mk X w) (mk X w'):=a0u h (fun k hk=>by simp[noY]at hk)
theorem a1U {X Z:Nat->Bool} {w:World} (h:∀k,k<w.heap.size->X k=true->Z k=true):Le (mk Z w) (mk X w):=by
 intro a u e;have hl:=a4M (a1u e);have hc:=a1u e;unfold mk at e |-;by_cases hx:X a.block=true
 ·simp[h _ hl hx]at e
 ·rw[if_neg hx];exact hc
theorem a1g {X Y Z:Nat->Bool} {w w':World} (h:ExtX Y w w') (hY:∀k,k<w.heap.size->Y k=true->X k=true) (hZ:∀k,k<w.heap.size->Z k=true->X k=true):Le (mk X w) (mk Z w'):=by
 intro a u e;have hc:=a1u e;have hl:=a4M hc;unfold mk at e |-;by_cases hx:X a.block=true
 ·simp[hx]at e
 ·have hz:¬Z a.block=true:=fun hz=>hx (hZ _ hl hz)
  rw[if_neg hz];have hy:Y a.block=false:=by
   cases hh:Y a.block
   ·rfl
   ·exact absurd (hY _ hl hh) hx
  rw[World.cell?_of_block (h.block a.block hl hy)];exact hc
theorem ExtX.cell {w w':World} (h:Ext w w') {a:Addr} {u:Value} (hc:w.cell? a=some u):w'.cell? a=some u:=by
 have:=a0m (X:=noY) h a u (by rw[a2T];exact hc);rwa[a2T]at this
theorem ExtX.cellY {Y:Nat->Bool} {w w':World} (h:ExtX Y w w') {a:Addr} {u:Value} (hc:w.cell? a=some u) (hy:Y a.block=false):w'.cell? a=some u:=by
 rw[World.cell?_of_block (h.block a.block (a4M hc) hy)];exact hc
theorem b5v {w:World} {cs:Array Value} {e:TypeId} (j:Nat) {u:Value} (h:cs[j]? =some u):(w.alloc (.cells cs e)).cell? ⟨w.heap.size,j,none⟩=some u:=by
 unfold World.cell?;rw[heap_alloc_new w];simpa using h
def ob (ao:Option Addr):Nat->Bool:=fun k=>match ao with|some a=>a.block==k|none=>false
def un (X:Nat->Bool) (ao:Option Addr):Nat->Bool:=fun k=>X k||ob ao k
theorem a0v {X:Nat->Bool} {ao:Option Addr} {k:Nat} (h:X k=true):un X ao k=true:=by simp[un,h]
theorem a0y {X:Nat->Bool} {ao:Option Addr} {k:Nat} (h:ob ao k=true):un X ao k=true:=by simp[un,h]
theorem a0P {X:Nat->Bool} {ao:Option Addr} {k:Nat} (h:un X ao k=false):X k=false/\ob ao k=false:=by simpa[un]using h
def adr (ao:Option Addr) (k:Nat):Addr:=⟨(ao.getD ⟨0,0,none⟩).block,(ao.getD ⟨0,0,none⟩).off+k,none⟩
@[go_sem] theorem a9G (ao:Option Addr) (k j:Nat):(adr ao k).add j=adr ao (k+j):=by
 unfold adr;rw[Addr.add_lit,Nat.add_assoc]
theorem a1d (b o k:Nat):adr (some ⟨b,o,none⟩) k=⟨b,o+k,none⟩:=rfl
def Hd (ao:Option Addr) (n:Nat):Prop:=0<n->∃b off,ao=some ⟨b,off,none⟩
def Sl {α:Type} (R:Mem->Value->α->Prop) (sz:Nat) (h:Mem) (ao:Option Addr) (l:List α):Prop:=
 Hd ao l.length/\∀i (hi:i<l.length),∃u:Value,u.cells.size=sz/\(∀j (hj:j<u.cells.size),h (adr ao (i*sz+j))=some u.cells[j])/\R h u l[i]
def a4N {α:Type} (R:Mem->Value->α->Prop):Prop:=∀(h h':Mem) (u:Value) (x:α),Le h h'->R h u x->R h' u x
def a3O {α:Type} (R:Mem->Value->α->Prop):Prop:=∀(h:Mem) (u:Value) (x:α),R h u x->u.cells=#[u]
theorem Sl.hd {α:Type} {R:Mem->Value->α->Prop} {sz:Nat} {h:Mem} {ao:Option Addr} {l:List α} (s:Sl R sz h ao l):Hd ao l.length:=s.1
theorem Sl.mono {α:Type} {R:Mem->Value->α->Prop} (hR:a4N R) {sz:Nat} {h h':Mem} {ao:Option Addr} {l:List α} (hl:Le h h') (s:Sl R sz h ao l):Sl R sz h' ao l:=by
 refine⟨s.1,fun i hi=>?_⟩;obtain⟨u,h1,h2,h3⟩:=s.2 i hi;exact⟨u,h1,fun j hj=>hl _ _ (h2 j hj),hR _ _ _ _ hl h3⟩
theorem Sl.nil {α:Type} (R:Mem->Value->α->Prop) (sz:Nat) (h:Mem) (ao:Option Addr):Sl R sz h ao []:=
 ⟨fun h=>by simp at h,fun i hi=>by simp at hi⟩
theorem Sl.take {α:Type} {R:Mem->Value->α->Prop} {sz:Nat} {h:Mem} {ao:Option Addr} {l:List α} (s:Sl R sz h ao l) (n:Nat):Sl R sz h ao (l.take n):=by
 refine⟨fun hn=>s.1 (by simp at hn;omega),fun i hi=>?_⟩;have hi':i<l.length:=by simp at hi;omega
 obtain⟨u,h1,h2,h3⟩:=s.2 i hi';exact⟨u,h1,h2,by simpa using h3⟩
def SlV {α:Type} (R:Mem->Value->α->Prop) (sz:Nat) (h:Mem) (v:Value) (l:List α):Prop:=
 ∃ao cap,v= .slice ao l.length cap/\l.length<=cap/\Sl R sz h ao l
theorem SlV.mono {α:Type} {R:Mem->Value->α->Prop} (hR:a4N R) (sz:Nat):a4N (SlV R sz):=by
 rintro h h' u x hl ⟨ao,cap,rfl,hc,hs⟩;exact⟨ao,cap,rfl,hc,hs.mono hR hl⟩
theorem SlV.one {α:Type} {R:Mem->Value->α->Prop} {sz:Nat}:a3O (SlV R sz):=by
 rintro h u x ⟨ao,cap,rfl,_⟩;rfl
theorem SlV.zero {α:Type} (R:Mem->Value->α->Prop) (sz:Nat) (h:Mem):SlV R sz h (.slice none 0 0) []:=
 ⟨none,0,rfl,Nat.le_refl _,Sl.nil _ _ _ _⟩
def a0a (k:IntKind):Mem->Value->Nat->Prop:=fun _ u x=>u= .int k (x:Int)
theorem a0a.mono (k:IntKind):a4N (a0a k):=fun _ _ _ _ _ h=>h
theorem a0a.one (k:IntKind):a3O (a0a k):=by rintro h u x rfl;rfl
def a0x (k:IntKind):Mem->Value->Int->Prop:=fun _ u x=>u= .int k x
theorem a0x.mono (k:IntKind):a4N (a0x k):=fun _ _ _ _ _ h=>h
theorem a0x.one (k:IntKind):a3O (a0x k):=by rintro h u x rfl;rfl
theorem Sl.cell {α:Type} {R:Mem->Value->α->Prop} {h:Mem} {ao:Option Addr} {l:List α} (s:Sl R 1 h ao l) (h1:a3O R) (i:Nat) (hi:i<l.length):
  ∃u,h (adr ao i)=some u/\R h u l[i]:=by
 obtain⟨u,_,h2,h3⟩:=s.2 i hi;have hc:=h1 _ _ _ h3;have h4:=h2 0 (by rw[hc];exact Nat.one_pos);refine⟨u,?_,h3⟩;rw[Nat.mul_one,Nat.add_zero]at h4;rw[h4];simp[hc]
theorem Sl.nat {k:IntKind} {X:Nat->Bool} {w:World} {ao:Option Addr} {l:List Nat} (s:Sl (a0a k) 1 (mk X w) ao l) (i:Nat) (hi:i<l.length):w.cell? (adr ao i)=some (.int k (l[i]:Int)):=by
 obtain⟨u,h1,rfl⟩:=s.cell (a0a.one k) i hi;exact a1u h1
theorem Sl.int {k:IntKind} {X:Nat->Bool} {w:World} {ao:Option Addr} {l:List Int} (s:Sl (a0x k) 1 (mk X w) ao l) (i:Nat) (hi:i<l.length):w.cell? (adr ao i)=some (.int k l[i]):=by
 obtain⟨u,h1,rfl⟩:=s.cell (a0x.one k) i hi;exact a1u h1
theorem Sl.slice {α:Type} {R:Mem->Value->α->Prop} {sz:Nat} {X:Nat->Bool} {w:World} {ao:Option Addr} {l:List (List α)} (s:Sl (SlV R sz) 1 (mk X w) ao l) (i:Nat) (hi:i<l.length):
  ∃a c,w.cell? (adr ao i)=some (.slice a l[i].length c)/\l[i].length<=c/\Sl R sz (mk X w) a l[i]:=by
 obtain⟨u,h1,a,c,rfl,h2,h3⟩:=s.cell SlV.one i hi;exact⟨a,c,a1u h1,h2,h3⟩
structure SliceT (P:Program) (t e sz by_:Nat) (z:Value):Prop where
 und:P.underlying t=some (.slice e)
 info:(P.info? e).map (fun i=>(i.zero,i.size,i.bytes))=some (some z,sz,by_)
def TyI (P:Program) (t sz:Nat):Prop:=∃ti,P.info? t=some ti/\ti.size=sz
section
variable {P:Program} {ops:Array Oper} {Q:Exit->Act->World->Prop} {rest:List Oper} {a:Act} {w:World}
theorem a0h {t e sz by_:Nat} {z:Value} (T:SliceT P t e sz by_ z) (ao:Option Addr) (len cap:Nat) (k:IntKind) (n:Nat)
  (hb:Hd ao len) (hn:n<len) (w:World):
  (Instr.indexAt t (.slice ao len cap) (.int k (n:Int))).run P w= .ok (.pointer (some (adr ao (n*sz)))) w:=by
 obtain⟨i,hi,hz,hsz,hby⟩:=info_parts T.info;obtain⟨b,off,rfl⟩:=hb (by omega);subst hsz;have e:(⟨b,off,none⟩:Addr).add (n*i.size)=⟨b,off+n*i.size,none⟩:=Addr.add_lit _ _ _;simp[Instr.indexAt,asIntOf,Sem.run_bind,run_underlying T.und,Result.andThen,hn,sizeOf,typeInfo,hi,adr,e]
theorem a0A {t e by_:Nat} {z:Value} (T:SliceT P t e 1 by_ z) (ao:Option Addr) (len cap:Nat) (k:IntKind) (n:Nat) {m:Int} (hb:Hd ao len) (hn:n<len) (hm:m=(n:Int)) (w:World):
  (Instr.indexAt t (.slice ao len cap) (.int k m)).run P w= .ok (.pointer (some (adr ao n))) w:=by
 subst hm;rw[a0h (P:=P) T ao len cap k n hb hn w,Nat.mul_one]
theorem a0n {o:Oper} {K:Act->World->Prop} {t e by_:Nat} {z:Value} (T:SliceT P t e 1 by_ z) {ao:Option Addr} {len cap:Nat} {k:IntKind} {m:Int}
  (h0:0<=m/\m<(len:Int)) (hb:Hd ao len) (h:K (a.put o.dst (.pointer (some (adr ao m.toNat)))) w):
  o.upon P a K Q ((Sem.run P (Instr.indexAt t (.slice ao len cap) (.int k m)) w).andThen fun v w=> .ok (.value v) w):=by
 obtain⟨n,rfl⟩:=Int.eq_ofNat_of_zero_le h0.1;rw[a0h (P:=P) T ao len cap k n hb (by omega) w,Nat.mul_one];exact h
theorem a1E {o:Oper} {K:Act->World->Prop} {t e sz by_:Nat} {z:Value} (T:SliceT P t e sz by_ z) {ao:Option Addr} {len cap:Nat} {k:IntKind} {m:Int}
  (h0:0<=m/\m<(len:Int)) (hb:Hd ao len) (h:K (a.put o.dst (.pointer (some (adr ao (m.toNat*sz))))) w):
  o.upon P a K Q ((Sem.run P (Instr.indexAt t (.slice ao len cap) (.int k m)) w).andThen fun v w=> .ok (.value v) w):=by
 obtain⟨n,rfl⟩:=Int.eq_ofNat_of_zero_le h0.1;rw[a0h (P:=P) T ao len cap k n hb (by omega) w];exact h
end
end Go.Rep
