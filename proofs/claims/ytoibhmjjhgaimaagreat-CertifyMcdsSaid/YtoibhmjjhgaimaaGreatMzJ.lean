/- mcd: scatter. Conditions: at most 6 rows and 3 columns, numbers of few digits. Depth of a point: vectors, products, counts; a direction turned a little. Conditions: none. Depth of a point: a direction can be turned till only its multiples keep its boundary. Conditions: none. Bases and dimensions of what is orthogonal to some vectors; the rows that leave but one direction. Conditions: none. Depth of a point: the search over the directions that are orthogonal to some of the vectors. Conditions: none. Directions one behind the other, and the end of a search for the depth. Conditions: none. The search for the depth over lists: null spaces, pivot columns. Conditions: none. What a search for the depth keeps from round to round, and what it ends with. Conditions: none. Growth of the numbers of an elimination by the number of its pivots. Conditions: none. Depth and maps of the plane; depth and equal points; counts of directions by rows. Conditions: none. exact: Same, Points. halfspace: fits. Conditions: lengths far below any machine's. -/
import Derived.Test.YtoibhmjjhgaimaaGreatMzI
namespace Go.Lin
open Go.Lim Go.Rep
def a7H (p:Mat) (rows:List Nat) (d j:Nat):List Rat:=(List.range d).map fun q=>if q<j then a4d p rows q rows.length/((rows.length:Int):Rat)else 0
theorem a7I (p:Mat) (rows:List Nat) (d:Nat):a7H p rows d 0=List.replicate d 0:=by
 unfold a7H;refine List.ext_getElem (by simp) fun i h1 h2=>by simp
theorem a9r (p:Mat) (rows:List Nat) (d j:Nat):(a7H p rows d j).length=d:=by simp[a7H]
theorem a7J (p:Mat) (rows:List Nat) (d:Nat):a7H p rows d d=a4c p rows d:=by
 unfold a7H a4c;refine List.map_congr_left fun q hq=>?_;rw[if_pos (List.mem_range.1 hq)]
def pfN (d:Nat) (F G:F2) (j k:Nat):Mat:=ofF d d fun a b=>F a b+if a<j\/(a=j/\b<k)then G a b else 0
theorem a8A {p q:Prop} [Decidable p] [Decidable q] (h:p↔q) (x y:Rat):(if p then x else y)=if q then x else y:=by
 by_cases hp:p
 ·rw[if_pos hp,if_pos (h.1 hp)]
 ·rw[if_neg hp,if_neg fun hq=>hp (h.2 hq)]
theorem b1p (d:Nat) (F G:F2):pfN d F G 0 0=ofF d d F:=a5M fun a _ b _=>by
 rw[if_neg (by omega)];grind
theorem b5h (d:Nat) (F G:F2) (j:Nat):pfN d F G j d=pfN d F G (j+1) 0:=a5M fun a _ b hb=>by
 by_cases h:a<j+1
 ·rw[if_pos (by omega),if_pos (by omega)]
 ·rw[if_neg (by omega),if_neg (by omega)]
theorem b5i (d:Nat) (F G:F2):pfN d F G d 0=ofF d d fun a b=>F a b+G a b:=a5M fun a ha b _=>by
 rw[if_pos (by omega)]
theorem b1q (d:Nat) (F G:F2) (j k:Nat):(pfN d F G j k).length=d:=by simp[pfN,ofF]
theorem b3c (d:Nat) (F G:F2) (j k a:Nat) (h:a<(pfN d F G j k).length):(pfN d F G j k)[a].length=d:=by simp[pfN,ofF]
theorem b5j (d:Nat) (F G:F2) (j k:Nat) (h:j<(pfN d F G j k).length) (h2:k<(pfN d F G j k)[j].length):(pfN d F G j k)[j][k]=F j k:=by
 simp[pfN,ofF];grind
theorem b5k (d:Nat) (F G:F2) (j k:Nat) (h:j<(pfN d F G j k).length):(pfN d F G j k).set j ((pfN d F G j k)[j].set k (F j k+G j k))=pfN d F G j (k+1):=by
 refine List.ext_getElem (by simp[b1q]) fun a h1 h2=>?_;rw[List.getElem_set];split
 ·subst_vars
  refine List.ext_getElem (by simp[pfN,ofF]) fun b g1 g2=>?_;rw[List.getElem_set];simp only[pfN,ofF,List.getElem_map,List.getElem_range];by_cases e:k=b
  ·subst e;rw[if_pos rfl,if_pos (by simp)]
  ·rw[if_neg e]
   congr 1
   exact a8A (by simp;omega) _ _
 ·rename_i hne
  refine List.ext_getElem (by simp[pfN,ofF]) fun b g1 g2=>?_;simp only[pfN,ofF,List.getElem_map,List.getElem_range]
  congr 1
  exact a8A (by omega) _ _
def a9s (p:Mat) (rows:List Nat) (d t:Nat):F2:=fun j k=>sm t fun i=>fn (a5p p (a4c p rows d) (rows.getD i 0)) j*fn (a5p p (a4c p rows d) (rows.getD i 0)) k
def a6v (z:List Rat):F2:=fun j k=>fn z j*fn z k
theorem b0a (p:Mat) (rows:List Nat) (d t:Nat):pfN d (a9s p rows d t) (a6v (a5p p (a4c p rows d) (rows.getD t 0))) 0 0=a5l p rows d t:=b1p _ _ _
theorem b1r (p:Mat) (rows:List Nat) (d t:Nat):pfN d (a9s p rows d t) (a6v (a5p p (a4c p rows d) (rows.getD t 0))) d 0=a5l p rows d (t+1):=b5i _ _ _
theorem b1s {p:Mat} {rows:List Nat} {d t Z:Nat} (hd:∀r,BR Z (a5p p (a4c p rows d) r)) (hZ:1<=Z) (j k:Nat):hq (a9s p rows d t j k)<=1+t*(2*Z+1):=b5c fun r _=>by
 have:=hq_mul (fn (a5p p (a4c p rows d) (rows.getD r 0)) j) (fn (a5p p (a4c p rows d) (rows.getD r 0)) k);have:=b2Y (hd (rows.getD r 0)) hZ j;have:=b2Y (hd (rows.getD r 0)) hZ k;omega
theorem b1t (p:Mat) (rows:List Nat) (d:Nat):a5l p rows d 0=List.replicate d (List.replicate d 0):=by
 unfold a5l ofF;refine List.ext_getElem (by simp) fun a h1 h2=>?_;simp only[List.getElem_map,List.getElem_replicate];refine List.ext_getElem (by simp) fun b g1 g2=>?_;simp only[List.getElem_map,List.getElem_replicate];rfl
theorem a9t (p:Mat) (rows:List Nat) (d j:Nat):(a7H p rows d j).set j (a4d p rows j rows.length/((rows.length:Int):Rat))=a7H p rows d (j+1):=by
 unfold a7H;refine List.ext_getElem (by simp) fun q h1 h2=>?_;rw[List.getElem_set];simp only[List.getElem_map,List.getElem_range];by_cases e:j=q
 ·subst e;rw[if_pos rfl,if_pos (by omega)]
 ·rw[if_neg e]
  by_cases a:q<j
  ·rw[if_pos a,if_pos (by omega)]
  ·rw[if_neg a,if_neg (by omega)]
end Go.Lin
namespace Go.Proofs.YtoibhmjjhgaimaaGreat
open Go.RowKit Go.Rep Go.Lim Go.Lin
theorem qc0 {h h':Mem} {u:Value} (hq:QC h u 0):QC h' u 0:=by
 obtain⟨s,ao,c,m,bo,e,d,rfl,h1,h2,h3,h4,h5⟩:=hq;obtain⟨_,rfl,rfl⟩:=h3.unique a5d.zero;exact⟨s,ao,c,[],bo,e,[],rfl,h1,h2,h3,⟨fun hp=>absurd hp (by simp),fun i hi=>absurd hi (by simp)⟩,⟨fun hp=>absurd hp (by simp),fun i hi=>absurd hi (by simp)⟩⟩
theorem OL.remask {α:Type} {R:Mem->Value->α->Prop} {sz base:Nat} {e:TypeId} {X Z:Nat->Bool} {w:World} {ao:Option Addr} {cap:Nat} {l:List α} (hp:∀x∈l,∀h h' u,R h u x->R h' u x) (h:OL R sz X base e w ao cap l) (hZ:∀k,ob ao k=true->Z k=false):OL R sz Z base e w ao cap l:=by
 obtain⟨_,us,h1,h2,h3,h4,h5⟩:=h;exact⟨hZ,us,h1,h2,h3,h4,fun i hi hi'=>hp _ (List.getElem_mem hi') _ _ _ (h5 i hi hi')⟩
theorem b5l {α:Type} {R:Mem->Value->α->Prop} {sz base:Nat} {e:TypeId} {X:Nat->Bool} {w:World} {ao:Option Addr} {cap:Nat} {l:List α} (h:OL R sz X base e w ao cap l):l.length<=cap:=h.lenCap
theorem b1Z (a1:Option Addr) (n1 c1:Nat) (a2:Option Addr) (n2 c2:Nat) (a3:Option Addr) (n3 c3:Nat) (s:Bool) (a4:Option Addr) (n4 c4:Nat) (a5:Option Addr) (n5 c5:Nat):∀v∈(#[Value.slice a1 n1 c1, .slice a2 n2 c2, .slice a3 n3 c3, .bool s, .slice a4 n4 c4, .slice a5 n5 c5]:Array Value).toList,v.oneCell'=true:=by
 intro v hv;simp at hv;rcases hv with rfl|rfl|rfl|rfl|rfl|rfl<;>rfl
theorem _root_.Go.Rep.Bx.set345 {w:World} {b:Nat} {x0 x1 x2 x3 x4 x5:Value} {T:TypeId} (h:Bx w b #[x0,x1,x2,x3,x4,x5] T) (v0 v1 v2:Value):Bx (((w.setCell ⟨b,3,none⟩ v0).setCell ⟨b,4,none⟩ v1).setCell ⟨b,5,none⟩ v2) b #[x0,x1,x2,v0,v1,v2] T/\ExtX (ob (some ⟨b,0,none⟩)) w (((w.setCell ⟨b,3,none⟩ v0).setCell ⟨b,4,none⟩ v1).setCell ⟨b,5,none⟩ v2):=by
 obtain⟨h1,h2⟩:=a0D h v0 (i:=3) (by simp);obtain⟨h3,h4⟩:=a0D h1 v1 (i:=4) (by simp);obtain⟨h5,h6⟩:=a0D h3 v2 (i:=5) (by simp);exact⟨by simpa using h5,(h2.trans h4).trans h6⟩
abbrev b4e:Array Value:=#[.slice none 0 0, .slice none 0 0, .slice none 0 0, .bool false, .slice none 0 0, .slice none 0 0]
theorem a2S:a1L Tryz.prog 105 6:=by
 have h:(Tryz.prog.info? 105).map (fun i=>(i.zero,i.size,i.bytes))=some (some (.agg #[.slice none 0 0, .slice none 0 0, .slice none 0 0, .bool false, .slice none 0 0, .slice none 0 0]),6,128):=by kernel_rfl
 obtain⟨ti,h1,_,h2,_⟩:=info_parts h;exact⟨_,ti,Tryz.underlying105,h1,h2⟩
abbrev TJ:=Bool×Bool×Bool×Bool×Bool
def b7B:List TJ:=[true,false].flatMap fun b7=>([true,false].flatMap fun b1=>[true,false].flatMap fun b3=>[true,false].map fun b5=>(b1,b3,b5,false,b7))++[(true,true,true,true,b7)]
def lJ (s:TJ):Array Bool:=#[true,s.1,true,s.2.1,true,s.2.2.1,s.2.2.2.1,s.2.2.2.2,false]
def b6s (s:TJ) (i:Nat):Option TJ:=
 if i=1/\s.1=false then some (true,s.2)else if i=3/\s.2.1=false then some (s.1,true,s.2.2)else if i=5/\s.2.2.1=false then some (s.1,s.2.1,true,s.2.2.2)
 else if i=6/\s.2.2.2.1=false/\s.1=true/\s.2.1=true/\s.2.2.1=true then some (s.1,s.2.1,s.2.2.1,true,s.2.2.2.2)else if i=7/\s.2.2.2.2=false then some (s.1,s.2.1,s.2.2.1,s.2.2.2.1,true)else none
def b7O (s:TJ):Bool:=s.2.2.2.1&&s.2.2.2.2
def a7K (a:Act) (v1 v3 v5 v6 v7:Value):Act:=((((a.put (some 22) v1).put (some 24) v3).put (some 26) v5).put (some 27) v6).put (some 6) v7
theorem a9u:∀s∈b7B,s.2.2.2.1=true->s.1=true/\s.2.1=true/\s.2.2.1=true:=by decide
theorem a7L {P:Program} {ops:Array Oper} {Q:Exit->Act->World->Prop} {md:Region.Mode} {S:World->Prop} {n f:Nat} {l:Array Bool} {a:Act} {w:World} (h:∀a0,a0=a->a2q P md ops Q S n f l a0 w):a2q P md ops Q S n f l a w:=h a rfl
def b6t (X:Nat->Bool) (w:World) (q:Rat) (e:Ending) (w':World):Prop:=Ext w w'/\∃ro rl rc co cl cc mo ml mc s a n c d k f,e= .returned (.agg #[.slice ro rl rc, .slice co cl cc, .slice mo ml mc, .bool s, .slice a n c, .slice d k f])/\QC (mk X w') (.agg #[.bool s, .slice a n c, .slice d k f]) q
set_option maxRecDepth 100000 in
set_option maxHeartbeats 1600000 in
theorem b0b (X:Nat->Bool) (w:World) (u:Value) (ro:Option Addr) (rows:List Int) (rc:Nat) (p:Mat) (n d B:Nat) (hX:HX X w) (hu:MV (mk X w) u p) (hr:Sl (a0i .i64) 1 (mk X w) ro rows) (hsh:Shp n d p) (hn1:1<=n) (hn:n<=6) (hd1:1<=d) (hd3:d<=3) (hlt:∀r∈rows,0<=r/\r<(n:Int)) (hrl:rows.length<=6) (hpB:BM B p) (hB1:1<=B) (hB:B<=510):
  Calls Tryz.prog 126 #[u, .slice ro rows.length rc] w (b6t X w (b5g p (rows.map Int.toNat) d)):=by
 obtain⟨W,hW,hE,b0,hz⟩:=a1m w b4e 105;have hXW:HX (a0f X w.heap.size 1) W:=hX.boxes hz;have hle:Hid (∀w',Ext W w'->Le (mk X w) (mk (a0f X w.heap.size 1) w')):=hid fun w' h=>a0m (hE.trans h);obtain⟨b,hb⟩:∃b,w.heap.size=b:=⟨_,rfl⟩;rw[hb]at b0 hz hXW hle;have hbw:w.heap.size<=b:=by omega
 obtain⟨ua,uc,rfl,huc,hus⟩:=hu;obtain⟨a0,c0,hX0',hc0,hcl0,hq0⟩:=hus.row 0 (by rw[hsh.1];omega);rw[hsh.2 (p[0]'(by rw[hsh.1];omega)) (List.getElem_mem _)]at hc0 hcl0;have hhu:=hus.hd;rw[hsh.1]at hhu huc |-;have k00:=hc0.out noY W hE rfl;clear hc0 hq0;go_enter Tryz.func126,Tryz.ntmps126
 go_upto_region 2 with((with_reducible refine a0o a0A (by omega) (by assumption) ?_))
 refine a0P 8 (fun _=>True) (by kernel_rfl) (by kernel_rfl) trivial (fun hHeld hOnce=>?_);have hE0:Ext W W.drew:=(ExtX.refl W).drew;have hX0:HX (a0f X b 1) W.drew:=hXW.ext hE0;have hrr:=hid (fun w' (h:Ext W.drew w')=>(hr.mono (a0i.mono _) (hle.out w' (hE0.trans h)):Sl (a0i .i64) 1 (mk (a0f X b 1) w') ro rows));obtain⟨Z0,hZ0⟩:∃Z0,a0f X b 1=Z0:=⟨_,rfl⟩;have hZb:Z0 b=true:=by rw[<-hZ0];exact a3v (Nat.le_refl _) (by omega)
 have hZX:=hid (fun k (h:X k=true)=>(by rw[<-hZ0];exact a5I h:Z0 k=true));rw[hZ0]at hX0 hrr hle hXW;obtain⟨W0,hW0⟩:∃W0,W.drew=W0:=⟨_,rfl⟩;rw[hW0]at hX0 hE0 hrr |-;clear k00;refine a0a hOnce (i:=0) (oi:=⟨_,_,_,_,_,_⟩) (v:=?_) rfl (by kernel_rfl) (fun _ _ _ h=>h) (by assumption) (by rfl) (fun w hSw=>?_) ?_
 rotate_left
 ·(try dsimp only at hSw)
  go_simp
  all_goals with_reducible rfl
 (try simp only[Act.put,List.setIfInBounds_toArray,List.set_cons_zero,List.set_cons_succ])
 refine a0a hOnce (i:=2) (oi:=⟨_,_,_,_,_,_⟩) (v:=?_) rfl (by kernel_rfl) (fun _ _ _ h=>h) (by assumption) (by rfl) (fun w hSw=>?_) ?_
 rotate_left
 ·(try dsimp only at hSw)
  go_simp
  all_goals with_reducible rfl
 (try simp only[Act.put,List.setIfInBounds_toArray,List.set_cons_zero,List.set_cons_succ])
 refine a0a hOnce (i:=4) (oi:=⟨_,_,_,_,_,_⟩) (v:=?_) rfl (by kernel_rfl) (fun _ _ _ h=>h) (by assumption) (by rfl) (fun w hSw=>?_) ?_
 rotate_left
 ·(try dsimp only at hSw)
  go_simp
  all_goals with_reducible rfl
 (try simp only[Act.put,List.setIfInBounds_toArray,List.set_cons_zero,List.set_cons_succ])
 refine a7L fun a0 ha0=>?_;refine a6u (I:=fun s a w'=>∃v1 v3 v5 v6 v7 so sc co mo g,a=a7K a0 v1 v3 v5 v6 v7/\Ext W0 w'/\(s.1=true->v1= .slice so rows.length sc)/\(s.2.1=true->v3= .slice co d d/\OL QC 3 Z0 W0.heap.size 32 w' co d (List.replicate d 0))/\(s.2.2.1=true->v5= .slice mo d d/\OL HdR 1 Z0 W0.heap.size 45 w' mo d (List.replicate d (none,0,0)))/\(s.2.2.2.1=true->v6= .agg #[v1,v3,v5, .bool false, .slice none 0 0, .slice none 0 0])/\(s.2.2.2.2=true->v7= .pointer (some ⟨g,0,none⟩)/\Bx w' g b4e 105/\W0.heap.size<=g)/\(s.2.1=true->s.2.2.1=true->∀k,ob co k=true->ob mo k=false)/\(s.2.1=true->s.2.2.2.2=true->ob co g=false)/\(s.2.2.1=true->s.2.2.2.2=true->ob mo g=false))
  b7B lJ b6s b7O (by kernel_rfl) ?st ?ex 6 (false,false,false,false,false) a0 W0 (by decide) (by decide) ?hi
 case hi=>
  subst ha0;exact⟨undef,undef,undef,undef,undef,none,0,none,none,0,by simp only[a7K,Act.put,List.setIfInBounds_toArray,List.set_cons_zero,List.set_cons_succ],ExtX.refl _,fun h=>(by cases h),fun h=>(by cases h),fun h=>(by cases h),fun h=>(by cases h),fun h=>(by cases h),fun h=>(by cases h),fun h=>(by cases h),fun h=>(by cases h)⟩
 case st=>
  rintro ⟨b1,b3,b5,b6,b7⟩ i t a w' hs ht ⟨v1,v3,v5,v6,v7,so,sc,co,mo,g,rfl,hEx,f1,f3,f5,f6,f7,d1,d2,d3⟩;have h6:=a9u _ hs
  dsimp only at f1 f3 f5 f6 f7 d1 d2 d3 h6
  subst ha0;unfold b6s at ht
  dsimp only at ht
  split at ht
  ·rename_i hc
   obtain⟨rfl,rfl⟩:=hc;cases ht
   simp only[a7K,Act.put,List.setIfInBounds_toArray,List.set_cons_zero,List.set_cons_succ];refine a1C (o:=⟨_,_,_,_,_,_⟩) rfl (fun K hK=>?_);go_simp
   go_at_call 84
   have hXw:∀k,Z0 k=true->k<w'.heap.size:=hX0.ext hEx
   (with_reducible refine(a8z Z0 ro rows rc w' (hrr.out w' hEx) (by omega) hXw).mono ?_)
   rintro ee w2 ⟨hE2,so2,sc2,rfl,_,_⟩;refine hK.out _ _ ⟨trivial, .slice so2 rows.length sc2,v3,v5,v6,v7,so2,sc2,co,mo,g,rfl,hEx.trans hE2,fun _=>rfl,fun h=>⟨(f3 h).1,(f3 h).2.ext0 QC.elem hE2⟩,fun h=>⟨(f5 h).1,(f5 h).2.ext0 HdR.elem hE2⟩,fun h=>absurd (h6 h).1 (by decide),fun h=>⟨(f7 h).1,(f7 h).2.1.ext0 hE2,(f7 h).2.2⟩,d1,d2,d3⟩
  ·split at ht
   ·rename_i hc
    obtain⟨rfl,rfl⟩:=hc;cases ht
    simp only[a7K,Act.put,List.setIfInBounds_toArray,List.set_cons_zero,List.set_cons_succ];refine a1C (o:=⟨_,_,_,_,_,_⟩) rfl (fun K hK=>?_);refine a4B (R:=QC) rfl rfl a1c QC.elem (0:Rat) (fun _=>QC.zero _) Z0 (hX0.ext hEx) w'.heap.size (Nat.le_refl _) d rfl rfl rfl (by omega) (by omega) ?_;intro co2 w2 hO2 hE2;have nw:∀k,ob co2 k=true->w'.heap.size<=k:=fun k hk=>(hO2.block hk).1;have hO3:=hO2.base_le (b':=W0.heap.size) hEx.size;refine hK.out _ _ ⟨trivial,v1, .slice co2 d d,v5,v6,v7,so,sc,co2,mo,g,by simp only[Act.put,List.setIfInBounds_toArray,List.set_cons_zero,List.set_cons_succ],hEx.trans hE2,f1,fun _=>⟨rfl,hO3⟩,fun h=>⟨(f5 h).1,(f5 h).2.ext0 HdR.elem hE2⟩,fun h=>absurd (h6 h).2.1 (by decide),fun h=>⟨(f7 h).1,(f7 h).2.1.ext0 hE2,(f7 h).2.2⟩,fun _ h k hk=>?_,fun _ h=>?_,d3⟩
    ·cases hm:ob mo k
     ·rfl
     ·have h1:=nw k hk;have h2:=((f5 h).2.block hm).2;omega
    ·cases hm:ob co2 g
     ·rfl
     ·have h1:=nw g hm;have h2:=(f7 h).2.1.lt;omega
   ·split at ht
    ·rename_i hc
     obtain⟨rfl,rfl⟩:=hc;cases ht
     simp only[a7K,Act.put,List.setIfInBounds_toArray,List.set_cons_zero,List.set_cons_succ];refine a1C (o:=⟨_,_,_,_,_,_⟩) rfl (fun K hK=>?_);refine a4B (R:=HdR) rfl rfl a0A HdR.elem (none,0,0) (fun _=>rfl) Z0 (hX0.ext hEx) w'.heap.size (Nat.le_refl _) d rfl rfl rfl (by omega) (by omega) ?_;intro mo2 w2 hO2 hE2;have nw:∀k,ob mo2 k=true->w'.heap.size<=k:=fun k hk=>(hO2.block hk).1;have hO3:=hO2.base_le (b':=W0.heap.size) hEx.size;refine hK.out _ _ ⟨trivial,v1,v3, .slice mo2 d d,v6,v7,so,sc,co,mo2,g,by simp only[Act.put,List.setIfInBounds_toArray,List.set_cons_zero,List.set_cons_succ],hEx.trans hE2,f1,fun h=>⟨(f3 h).1,(f3 h).2.ext0 QC.elem hE2⟩,fun _=>⟨rfl,hO3⟩,fun h=>absurd (h6 h).2.2 (by decide),fun h=>⟨(f7 h).1,(f7 h).2.1.ext0 hE2,(f7 h).2.2⟩,fun h _ k hk=>?_,d2,fun _ h=>?_⟩
     ·cases hm:ob mo2 k
      ·rfl
      ·have h1:=nw k hm;have h2:=((f3 h).2.block hk).2;omega
     ·cases hm:ob mo2 g
      ·rfl
      ·have h1:=nw g hm;have h2:=(f7 h).2.1.lt;omega
    ·split at ht
     ·rename_i hc
      obtain⟨rfl,rfl,rfl,rfl,rfl⟩:=hc;cases ht
      obtain rfl:=f1 rfl;obtain⟨rfl,hO3⟩:=f3 rfl;obtain⟨rfl,hO5⟩:=f5 rfl;simp only[a7K,Act.put,List.setIfInBounds_toArray,List.set_cons_zero,List.set_cons_succ];refine a1C (o:=⟨_,_,_,_,_,_⟩) rfl (fun K hK=>?_);go_simp
      refine hK.out _ _ ⟨trivial,_,_,_,_,v7,so,sc,co,mo,g,rfl,hEx,fun _=>rfl,fun _=>⟨rfl,hO3⟩,fun _=>⟨rfl,hO5⟩,fun _=>rfl,f7,fun _ _=>d1 rfl rfl,fun _ h=>d2 rfl h,fun _ h=>d3 rfl h⟩
     ·split at ht
      ·rename_i hc
       obtain⟨rfl,rfl⟩:=hc;cases ht
       simp only[a7K,Act.put,List.setIfInBounds_toArray,List.set_cons_zero,List.set_cons_succ];refine a1C (o:=⟨_,_,_,_,_,_⟩) rfl (fun K hK=>?_);go_simp
       have hE2:Ext w' (w'.alloc (.cells b4e 105)):=(ExtX.refl _).alloc _;refine hK.out _ _ ⟨trivial,v1,v3,v5,v6, .pointer (some ⟨w'.heap.size,0,none⟩),so,sc,co,mo,w'.heap.size,rfl,hEx.trans hE2,f1,fun h=>⟨(f3 h).1,(f3 h).2.ext0 QC.elem hE2⟩,fun h=>⟨(f5 h).1,(f5 h).2.ext0 HdR.elem hE2⟩,f6,fun _=>⟨rfl,Bx.new w' _ _,hEx.size⟩,d1,fun h _=>?_,fun h _=>?_⟩
       ·cases hm:ob co w'.heap.size
        ·rfl
        ·have h2:=((f3 h).2.block hm).2;omega
       ·cases hm:ob mo w'.heap.size
        ·rfl
        ·have h2:=((f5 h).2.block hm).2;omega
      ·cases ht
 case ex=>
  rintro ⟨b1,b3,b5,b6,b7⟩ a w' hs hf ⟨v1,v3,v5,v6,v7,so,sc,co,mo,g,rfl,hEx,f1,f3,f5,f6,f7,d1,d2,d3⟩;obtain⟨rfl,rfl⟩:=(Bool.and_eq_true _ _).mp hf;obtain⟨h1,h3,h5⟩:=a9u _ hs rfl
  dsimp only at f1 f3 f5 f6 f7 d1 d2 d3 h1 h3 h5
  subst h1 h3 h5 ha0;obtain rfl:=f1 rfl;obtain⟨rfl,hO3⟩:=f3 rfl;obtain⟨rfl,hO5⟩:=f5 rfl;obtain rfl:=f6 rfl;obtain⟨rfl,bg,hg⟩:=f7 rfl;have e1:=d1 rfl rfl;have e2:=d2 rfl rfl;have e3:=d3 rfl rfl;clear f1 f3 f5 f6 f7 d1 d2 d3 hs hf
  show a2q _ _ _ _ _ _ 1 #[true,true,true,true,true,true,true,true,false] _ _
  simp only[a7K,Act.put,List.setIfInBounds_toArray,List.set_cons_zero,List.set_cons_succ];refine a0O (i:=8) (o:=⟨_,_,_,_,_,_⟩) (by kernel_rfl) rfl (by decide) (by kernel_rfl) (fun K hK=>?_)
  (refine a3b rfl rfl a2S rfl rfl bg rfl rfl (by intro v hv;simp at hv;rcases hv with rfl|rfl|rfl|rfl|rfl|rfl<;>rfl) ?_;intro w9 y1 y2)
  refine hK.out _ _ ?_;clear hK K
  (try simp only[Act.put])
  have hE9:Ext W0 w9:=ExtX.box hEx y2 hg;have hC:OL QC 3 (un (un Z0 (some ⟨g,0,none⟩)) mo) W0.heap.size 32 w9 co d (List.replicate d 0):=by
   have h:=(OL.remask (Z:=un (un Z0 (some ⟨g,0,none⟩)) mo) (fun x hx h h' u hq=>by obtain rfl:=List.eq_of_mem_replicate hx;exact qc0 hq) hO3 (fun k hk=>by
    have h1:=e1 k hk;have h2:ob (some ⟨g,0,none⟩) k=false:=by
     cases hh:ob (some ⟨g,0,none⟩) k
     ·rfl
     ·have:g=k:=by simpa[ob]using hh
      subst this;rw[e2]at hk;cases hk
    have h3:=hO3.1 k hk;simp[un,h1,h2,h3]))
   exact h.ext QC.elem y2 (fun q _ hq=>a0p (a0q hq)) (fun _ _ h=>h)
  have hM:OL HdR 1 (un (un Z0 (some ⟨g,0,none⟩)) co) W0.heap.size 45 w9 mo d (List.replicate d (none,0,0)):=by
   have h:=(OL.remask (R:=HdR) (Z:=un (un Z0 (some ⟨g,0,none⟩)) co) (fun x _ h h' u hq=>HdR.pure h h' u x hq) hO5 (fun k hk=>by
    have h1:ob co k=false:=by
     cases hh:ob co k
     ·rfl
     ·rw[e1 k hh]at hk;cases hk
    have h2:ob (some ⟨g,0,none⟩) k=false:=by
     cases hh:ob (some ⟨g,0,none⟩) k
     ·rfl
     ·have:g=k:=by simpa[ob]using hh
      subst this;rw[e3]at hk;cases hk
    have h3:=hO5.1 k hk;simp[un,h1,h2,h3]))
   exact h.ext HdR.elem y2 (fun q _ hq=>a0p (a0q hq)) (fun _ _ h=>h)
  have hgl:g<w9.heap.size:=Nat.lt_of_lt_of_le bg.lt y2.size;clear y2 bg e1 e2 e3 hO3 hO5;have hb1:W0.heap.size<=g:=hg;obtain⟨Y,hY⟩:∃Y,un Z0 (some ⟨g,0,none⟩)=Y:=⟨_,rfl⟩;have hYof:=hid (fun k (hk:Y k=true)=>(by rw[<-hY]at hk;simp[un]at hk;exact hk:Z0 k=true\/ob (some ⟨g,0,none⟩) k=true));have hYZ:=hid (fun k (hk:Z0 k=true)=>(by rw[<-hY];exact a0p hk:Y k=true));have hYg:Y g=true:=by rw[<-hY];exact a0q (a5H g)
  rw[hY]at hC hM;have hcc:=b5l hC;have hcz:=hid (a7I p (rows.map Int.toNat) d);rw[<-hcz.out]at hC;obtain⟨R,hR⟩:∃R,rows.map Int.toNat=R:=⟨_,rfl⟩;have hRl:Hid (R.length=rows.length):=hid (by rw[<-hR];simp);have hRg:Hid (∀t (h:t<rows.length),R.getD t 0=rows[t].toNat):=hid fun t h=>by rw[<-hR];simp[List.getD_eq_getElem?_getD,h]
  have hRe:=hid hR;rw[hR]at hC;have hcs:=hid (a9t p R d);have hcl:=hid (fun j=>a9r p R d j);have hhc:Hd co d:=by have:=hC.hd;rw[hcl.out]at this;exact this
  have hhm:Hd mo d:=by have:=hM.hd;rw[List.length_replicate]at this;exact this
  have hB0:W0.heap.size<=w9.heap.size:=hE9.size;have hlt':=hid hlt;have hpH:=hid (b2Q hpB hB1);have hpB':=hpB;have hpl:=hid hsh.1;have hpr:=hid hsh.2;have hhr:Hd ro rows.length:=hr.hd;have hEw:=hid (fun w' (h:Ext W0 w')=>(hE.trans (hE0.trans h):Ext w w'));clear hY hR hcz hcc;have k1:w9.cell? ⟨g,1,none⟩=some (.slice co d d):=y1.cell 1 rfl;go_wp2_with fail
  clear k1;go_loopw [31] (fun q wr=>∃j:Nat,q= .int .i64 j/\j<=d/\Bx wr g #[.slice so rows.length sc, .slice co d d, .slice mo d d, .bool false, .slice none 0 0, .slice none 0 0] 105/\OL QC 3 (un Y mo) W0.heap.size 32 wr co d (a7H p R d j)/\OL HdR 1 (un Y co) W0.heap.size 45 wr mo d (List.replicate d (none,0,0))/\Ext W0 wr) (fun q _=>d - (intOf q).toNat)
  case atStart=>exact⟨0,rfl,Nat.zero_le _,y1,hC,hM,hE9⟩
  case round=>
   clear y1 hC hM hE9;obtain⟨j,rfl,hj,yg,hC,hM,hE⟩:=hrel;by_cases hlj:j<d
   ·have bx:=Bx.new wr #[.bool false, .slice none 0 0, .slice none 0 0] 32
    have hEa:Ext wr (wr.alloc (.cells #[.bool false, .slice none 0 0, .slice none 0 0] 32)):=(ExtX.refl wr).alloc _;have hza:(wr.alloc (.cells #[.bool false, .slice none 0 0, .slice none 0 0] 32)).heap.size=wr.heap.size+1:=by simp
    obtain⟨wo,hwo⟩:∃wo,wr.alloc (.cells #[.bool false, .slice none 0 0, .slice none 0 0] 32)=wo:=⟨_,rfl⟩;obtain⟨g8,hg8⟩:∃g8,wr.heap.size=g8:=⟨_,rfl⟩;rw[hwo]at bx hEa hza;rw[hg8]at bx hza;have hg8':W0.heap.size<=g8:=by have:=hE.size;omega
    have hgg:=yg.lt;have hE1:=hE.trans hEa;obtain⟨V,hV⟩:∃V,a0f Z0 W0.heap.size (wo.heap.size - W0.heap.size)=V:=⟨_,rfl⟩;have hVof:=hid (fun k (hk:V k=true)=>(by rw[<-hV]at hk;simpa[a0f]using hk:Z0 k=true\/(W0.heap.size<=k/\k<W0.heap.size+(wo.heap.size - W0.heap.size))));have hVin:=hid (fun k (h1:W0.heap.size<=k) (h2:k<wo.heap.size)=>(by rw[<-hV];exact a3v h1 (by omega):V k=true));have hVZ:=hid (fun k (h:Z0 k=true)=>(by rw[<-hV];exact a5I h:V k=true));have hVX:HX V wo:=fun k hk=>by
     rcases hVof.out k hk with h|h
     ·exact hX0.ext hE1 k h
     ·omega
    have hVle:=hid (fun w' (h:Ext W0 w')=>(a0N h (fun k _ hk=>by simp[noY]at hk) (fun k hk hz=>by
     rcases hVof.out k hz with h|h
     ·exact h
     ·omega):Le (mk Z0 W0) (mk V w')))
    have hVg8:V g8=true:=hVin.out g8 hg8' (by omega);have hmoV:=hid (fun k (h:ob mo k=true)=>(hM.block h:W0.heap.size<=k/\k<wr.heap.size));have hcoV:=hid (fun k (h:ob co k=true)=>(hC.block h:W0.heap.size<=k/\k<wr.heap.size));obtain⟨wj,hwj⟩:∃wj,wj=wr:=⟨_,rfl⟩;subst hwj;clear hV;go_wp2_with fail
    clear hwo;go_loopw [36] (fun q wx=>∃(t:Nat) (s:Bool) (a:Option Addr) (n' c':Nat) (dd:Option Addr) (kk e:Nat),q= .int .i64 t/\t<=rows.length/\Bx wx g8 #[.bool s, .slice a n' c', .slice dd kk e] 32/\QC (mk V wx) (.agg #[.bool s, .slice a n' c', .slice dd kk e]) (a4d p R j t)/\HX V wx/\ExtX (ob (some ⟨g8,0,none⟩)) wo wx) (fun q _=>rows.length - (intOf q).toNat)
    case atStart=>exact⟨0,_,_,_,_,_,_,_,rfl,Nat.zero_le _,bx,QC.zero _,hVX,ExtX.refl _⟩
    case round=>
     clear bx hVX;obtain⟨t,s,a,n',c',dd,kk,e,rfl,ht,b8,hq,hXr,hEr⟩:=hrel;have hE0r:Ext W0 wr:=ExtX.box hE1 hEr hg8';have hqv:=hq.qv (Nat.le_trans (a8v hpH.out) (by
      have:=Nat.mul_le_mul (show t<=6 by omega) (show B+1<=511 by omega);omega))
     by_cases hlt2:t<rows.length
     ·have hri:=(hrr.out wr hE0r).int t hlt2
      obtain⟨h1,h2⟩:=hlt'.out rows[t] (List.getElem_mem _);obtain⟨r,hrr2⟩:=Int.eq_ofNat_of_zero_le h1;rw[hrr2]at hri h2;have hrn:r<n:=by omega
      have hrp:r<p.length:=by rw[hpl.out];exact hrn
      have hRt:R.getD t 0=r:=by rw[hRg.out t hlt2,hrr2];rfl
      obtain⟨a1,c1,hX1,hc1,hcl1,hq1⟩:=hus.row r hrp;have hrl1:=hpr.out p[r] (List.getElem_mem _);have hj1:j<p[r].length:=by rw[hrl1];exact hlj
      have hh1:Hd a1 d:=by have:=hq1.hd;rw[hrl1]at this;exact this
      rw[hrl1]at hc1;obtain⟨g1,o1,s1,p1,n1,q1,d1,m1,e1,hg1,hXg1,hcg1,hv1⟩:=((hq1.mono QV.mono (hle.out W0 hE0)).mono QV.mono (hVle.out wr hE0r)).rat QV.shaped j hj1;have hsum:Hid (a4d p R j t+p[r][j]=a4d p R j (t+1)):=hid (by
       show _=a4d p R j t+ent p (R.getD t 0) j
       rw[hRt,a9o hrp hj1])
      obtain⟨S0,hS0⟩:∃S0,a4d p R j t=S0:=⟨_,rfl⟩;obtain⟨S1,hS1⟩:∃S1,a4d p R j (t+1)=S1:=⟨_,rfl⟩;obtain⟨y,hy⟩:∃y,p[r][j]=y:=⟨_,rfl⟩;rw[hS0,hy,hS1]at hsum;rw[hS0]at hqv hq;rw[hy]at hv1;have hS1':=hid hS1;have hEd:Ext wr wr.drew:=(ExtX.refl wr).drew;have hS:Hid (∀w',Ext wr.drew w'->w'.cell? (adr ua r)=some (.slice a1 d c1)/\(w'.cell? ⟨g1,o1,none⟩=some (.bool s1)/\w'.cell? ⟨g1,o1+1,none⟩=some (.slice p1 n1 q1)/\w'.cell? ⟨g1,o1+2,none⟩=some (.slice d1 m1 e1))/\w'.cell? ⟨g8,0,none⟩=some (.bool s)/\w'.cell? ⟨g8,0+1,none⟩=some (.slice a n' c')/\w'.cell? ⟨g8,0+2,none⟩=some (.slice dd kk e)):=hid fun w' h=>
       have z:=b8.ext0 (hEd.trans h)
       ⟨hc1.out noY w' (hEw.out _ (hE0r.trans (hEd.trans h))) rfl,hcg1.out noY w' (hEd.trans h) rfl,z.cell 0 rfl,z.cell 1 rfl,z.cell 2 rfl⟩
      have i3:∀W,(Instr.indexAt 25 (.slice ua n uc) (.int .i64 (r:Int))).run Tryz.prog W= .ok (.pointer (some (adr ua r))) W:=a0I a0A ua n uc .i64 r hhu (by omega) rfl;have i6:∀W,(Instr.indexAt 45 (.slice a1 d c1) (.int .i64 (j:Int))).run Tryz.prog W= .ok (.pointer (some ⟨g1,o1,none⟩)) W:=by rw[<-hg1];exact a0k a1c a1 d c1 .i64 j hh1 (by omega)
      have hXd:HX V wr.drew:=hXr.ext hEd;have hqd:=mkx QV.mono hqv hEd;have hvd:=mkx QV.mono hv1 hEd;clear hc1 hcg1 hg1 hq1 hrl1 hS0 hS1 hy hRt hrr2 hcl1 hj1 hv1 hqv hq h1 h2;go_wp2_with (with_reducible refine a0o a0S (by omega) (by assumption) ?_)
      refine a0P 9 (fun w'=>w'.cell? (adr ua r)=some (.slice a1 d c1)/\(w'.cell? ⟨g1,o1,none⟩=some (.bool s1)/\w'.cell? ⟨g1,o1+1,none⟩=some (.slice p1 n1 q1)/\w'.cell? ⟨g1,o1+2,none⟩=some (.slice d1 m1 e1))/\w'.cell? ⟨g8,0,none⟩=some (.bool s)/\w'.cell? ⟨g8,0+1,none⟩=some (.slice a n' c')/\w'.cell? ⟨g8,0+2,none⟩=some (.slice dd kk e)) (by kernel_rfl) (by kernel_rfl) (hS.out _ (ExtX.refl _)) (fun hHeld hOnce=>?_);refine a0a hOnce (i:=0) (oi:=⟨_,_,_,_,_,_⟩) (v:=?_) rfl (by kernel_rfl) (fun _ _ _ h=>h) (by assumption) (by rfl) (fun w hSw=>?_) ?_
      rotate_left
      ·(try dsimp only at hSw)
       go_simp
       all_goals with_reducible rfl
      (try simp only[Act.put,List.setIfInBounds_toArray,List.set_cons_zero,List.set_cons_succ])
      refine a0a hOnce (i:=1) (oi:=⟨_,_,_,_,_,_⟩) (v:=?_) rfl (by kernel_rfl) (fun _ _ _ h=>h) (by assumption) (by rfl) (fun w hSw=>?_) ?_
      rotate_left
      ·(try dsimp only at hSw)
       go_simp
       all_goals with_reducible rfl
      (try simp only[Act.put,List.setIfInBounds_toArray,List.set_cons_zero,List.set_cons_succ])
      refine a0a hOnce (i:=2) (oi:=⟨_,_,_,_,_,_⟩) (v:=?_) rfl (by kernel_rfl) (fun _ _ _ h=>h) (by assumption) (by rfl) (fun w hSw=>?_) ?_
      rotate_left
      ·(try dsimp only at hSw)
       go_simp
       all_goals with_reducible rfl
      (try simp only[Act.put,List.setIfInBounds_toArray,List.set_cons_zero,List.set_cons_succ])
      refine a0a hOnce (i:=3) (oi:=⟨_,_,_,_,_,_⟩) (v:=?_) rfl (by kernel_rfl) (fun _ _ _ h=>h) (by assumption) (by rfl) (fun w hSw=>?_) ?_
      rotate_left
      ·(try dsimp only at hSw)
       go_simp
       all_goals with_reducible rfl
      (try simp only[Act.put,List.setIfInBounds_toArray,List.set_cons_zero,List.set_cons_succ])
      refine a0a hOnce (i:=4) (oi:=⟨_,_,_,_,_,_⟩) (v:=?_) rfl (by kernel_rfl) (fun _ _ _ h=>h) (by assumption) (by rfl) (fun w hSw=>?_) ?_
      rotate_left
      ·(try dsimp only at hSw)
       go_simp
       all_goals with_reducible rfl
      (try simp only[Act.put,List.setIfInBounds_toArray,List.set_cons_zero,List.set_cons_succ])
      refine a0a hOnce (i:=5) (oi:=⟨_,_,_,_,_,_⟩) (v:=?_) rfl (by kernel_rfl) (fun _ _ _ h=>h) (by assumption) (by rfl) (fun w hSw=>?_) ?_
      rotate_left
      ·(try dsimp only at hSw)
       go_simp
       all_goals with_reducible rfl
      (try simp only[Act.put,List.setIfInBounds_toArray,List.set_cons_zero,List.set_cons_succ])
      refine a0a hOnce (i:=6) (oi:=⟨_,_,_,_,_,_⟩) (v:=?_) rfl (by kernel_rfl) (fun _ _ _ h=>h) (by assumption) (by rfl) (fun w hSw=>?_) ?_
      rotate_left
      ·(try dsimp only at hSw)
       go_simp
       all_goals with_reducible rfl
      (try simp only[Act.put,List.setIfInBounds_toArray,List.set_cons_zero,List.set_cons_succ])
      refine a0a hOnce (i:=7) (oi:=⟨_,_,_,_,_,_⟩) (v:=?_) rfl (by kernel_rfl) (fun _ _ _ h=>h) (by assumption) (by rfl) (fun w hSw=>?_) ?_
      rotate_left
      ·(try dsimp only at hSw)
       go_simp
       all_goals with_reducible rfl
      (try simp only[Act.put,List.setIfInBounds_toArray,List.set_cons_zero,List.set_cons_succ])
      refine a0v (i:=8) (o:=⟨_,_,_,_,_,_⟩) (by kernel_rfl) rfl (fun K hK=>?_);go_simp
      (go_at_call 112;(with_reducible refine(b6i V wr.drew _ _ _ _ hXd hqd hvd).mono ?_);rintro ee w6 ⟨t1,u6,rfl,hu6⟩;obtain⟨s6,a6,n6,c6,d6,m6,e6,rfl⟩:=hu6.shape)
      refine hK.out _ _ (hS.out _ t1) (fun hHeld=>?_);clear hK K
      (try simp only[Act.put,List.setIfInBounds_toArray,List.set_cons_zero,List.set_cons_succ])
      have b86:=b8.ext0 (hEd.trans t1);refine a0O (i:=9) (o:=⟨_,_,_,_,_,_⟩) (by kernel_rfl) rfl (by decide) (by kernel_rfl) (fun K hK=>?_)
      (refine a3b rfl rfl a0s rfl rfl b86 rfl rfl (a2n _ _ _ _ _ _ _) ?_;intro w8 z1 z2)
      refine hK.out _ _ ?_;clear hK K
      (try simp only[Act.put])
      have hu8:=QC.mono _ _ _ _ (a0w (X:=V) z2 (fun k hk=>(by
       have:g8=k:=by simpa[ob]using hk
       rw[<-this];exact hVg8))) hu6
      rw[hsum.out,<-hS1'.out]at hu8;have hE8:=(hEr.trans (ExtX.of (hEd.trans t1))).trans z2;have hX8:=(hXd.ext t1).ext z2;clear i3 i6 hri;go_wp2_with fail
      go_roundw
      case rel=>exact⟨t+1,_,_,_,_,_,_,_,by go_num,by omega,z1,hu8,hX8,hE8⟩
      case measure=>simp[intOf];omega
     ·have hEo:Ext wj wr:=ExtX.box hEa hEr (Nat.le_of_eq hg8)
      have hE0j:=hE0r;have ygr:=yg.ext0 hEo;have hCr:=hC.ext0 QC.elem hEo;have hMr:=hM.ext0 HdR.elem hEo;have hjC:j<(a7H p R d j).length:=by rw[hcl.out];exact hlj
      have hcs2:=hid (hcs.out j);have hxe:Hid (a4d p R j t/((rows.length:Int):Rat)=a4d p R j R.length/((R.length:Int):Rat)):=hid (by rw[hRl.out,show t=rows.length by omega]);obtain⟨S0,hS0⟩:∃S0,a4d p R j t=S0:=⟨_,rfl⟩;obtain⟨S1,hS1⟩:∃S1,a4d p R j R.length/((R.length:Int):Rat)=S1:=⟨_,rfl⟩;rw[hS0,hS1]at hxe;rw[hS1]at hcs2;rw[hS0]at hqv;obtain⟨gc,oc,hgc⟩:∃g o,adr co (j*3)=⟨g,o,none⟩:=⟨_,_,rfl⟩;have hgc':=hid hgc;have hEd:Ext wr wr.drew:=(ExtX.refl wr).drew;have hS:Hid (∀w',Ext wr.drew w'->w'.cell? ⟨g,1,none⟩=some (.slice co d d)/\w'.cell? ⟨g8,0,none⟩=some (.bool s)/\w'.cell? ⟨g8,0+1,none⟩=some (.slice a n' c')/\w'.cell? ⟨g8,0+2,none⟩=some (.slice dd kk e)):=hid fun w' h=>
       have z:=b8.ext0 (hEd.trans h);have z2:=ygr.ext0 (hEd.trans h)
       ⟨z2.cell 1 rfl,z.cell 0 rfl,z.cell 1 rfl,z.cell 2 rfl⟩
      have i8:∀W,(Instr.indexAt 45 (.slice co d d) (.int .i64 (j:Int))).run Tryz.prog W= .ok (.pointer (some ⟨gc,oc,none⟩)) W:=by rw[<-hgc];exact a0k a1c co d d .i64 j hhc (by omega)
      have hXd:HX V wr.drew:=hXr.ext hEd;have hqd:=mkx QV.mono hqv hEd;have hiq:=hid (b1j (n:=rows.length) (by omega));have hcog:ob co g=false:=by
       cases hh:ob co g
       ·rfl
       ·have:=(a1p (hC.1 g hh)).1;rw[hYg]at this;cases this
      clear hS0 hS1 hgc hqv hq;go_wp2_with fail
      refine a0P 9 (fun w'=>w'.cell? ⟨g,1,none⟩=some (.slice co d d)/\w'.cell? ⟨g8,0,none⟩=some (.bool s)/\w'.cell? ⟨g8,0+1,none⟩=some (.slice a n' c')/\w'.cell? ⟨g8,0+2,none⟩=some (.slice dd kk e)) (by kernel_rfl) (by kernel_rfl) (hS.out _ (ExtX.refl _)) (fun hHeld hOnce=>?_);refine a0a hOnce (i:=0) (oi:=⟨_,_,_,_,_,_⟩) (v:=?_) rfl (by kernel_rfl) (fun _ _ _ h=>h) (by assumption) (by rfl) (fun w hSw=>?_) ?_
      rotate_left
      ·(try dsimp only at hSw)
       go_simp
       all_goals with_reducible rfl
      (try simp only[Act.put,List.setIfInBounds_toArray,List.set_cons_zero,List.set_cons_succ])
      refine a0a hOnce (i:=1) (oi:=⟨_,_,_,_,_,_⟩) (v:=?_) rfl (by kernel_rfl) (fun _ _ _ h=>h) (by assumption) (by rfl) (fun w hSw=>?_) ?_
      rotate_left
      ·(try dsimp only at hSw)
       go_simp
       all_goals with_reducible rfl
      (try simp only[Act.put,List.setIfInBounds_toArray,List.set_cons_zero,List.set_cons_succ])
      refine a0a hOnce (i:=2) (oi:=⟨_,_,_,_,_,_⟩) (v:=?_) rfl (by kernel_rfl) (fun _ _ _ h=>h) (by assumption) (by rfl) (fun w hSw=>?_) ?_
      rotate_left
      ·(try dsimp only at hSw)
       go_simp
       all_goals with_reducible rfl
      (try simp only[Act.put,List.setIfInBounds_toArray,List.set_cons_zero,List.set_cons_succ])
      refine a0a hOnce (i:=3) (oi:=⟨_,_,_,_,_,_⟩) (v:=?_) rfl (by kernel_rfl) (fun _ _ _ h=>h) (by assumption) (by rfl) (fun w hSw=>?_) ?_
      rotate_left
      ·(try dsimp only at hSw)
       go_simp
       all_goals with_reducible rfl
      (try simp only[Act.put,List.setIfInBounds_toArray,List.set_cons_zero,List.set_cons_succ])
      refine a0a hOnce (i:=4) (oi:=⟨_,_,_,_,_,_⟩) (v:=?_) rfl (by kernel_rfl) (fun _ _ _ h=>h) (by assumption) (by rfl) (fun w hSw=>?_) ?_
      rotate_left
      ·(try dsimp only at hSw)
       go_simp
       all_goals with_reducible rfl
      (try simp only[Act.put,List.setIfInBounds_toArray,List.set_cons_zero,List.set_cons_succ])
      refine a0a hOnce (i:=5) (oi:=⟨_,_,_,_,_,_⟩) (v:=?_) rfl (by kernel_rfl) (fun _ _ _ h=>h) (by assumption) (by rfl) (fun w hSw=>?_) ?_
      rotate_left
      ·(try dsimp only at hSw)
       go_simp
       all_goals with_reducible rfl
      (try simp only[Act.put,List.setIfInBounds_toArray,List.set_cons_zero,List.set_cons_succ])
      refine a0v (i:=6) (o:=⟨_,_,_,_,_,_⟩) (by kernel_rfl) rfl (fun K hK=>?_);go_simp
      (go_at_call 109;(with_reducible refine(b6h V wr.drew (rows.length:Int) hXd (by omega) (by omega)).mono ?_);rintro ee w6 ⟨t1,u6,rfl,hu6⟩;obtain⟨s6,a6,n6,c6,d6,m6,e6,rfl⟩:=hu6.shape)
      refine hK.out _ _ (hS.out _ t1) (fun hHeld=>?_);clear hK K
      (try simp only[Act.put,List.setIfInBounds_toArray,List.set_cons_zero,List.set_cons_succ])
      have hqd6:=mkx QV.mono hqd t1;have hu6v:=hu6.qv (Nat.le_trans hiq.out (by decide));refine a0v (i:=7) (o:=⟨_,_,_,_,_,_⟩) (by kernel_rfl) rfl (fun K hK=>?_);go_simp
      (go_at_call 168;(with_reducible refine(b7f V w6 _ _ _ _ (hXd.ext t1) hqd6 hu6v).mono ?_);rintro ee w7 ⟨t2,u7,rfl,hu7⟩;obtain⟨s7,a7,n7,c7,d7,m7,e7,rfl⟩:=hu7.shape)
      refine hK.out _ _ (hS.out _ (t1.trans t2)) (fun hHeld=>?_);clear hK K
      (try simp only[Act.put,List.setIfInBounds_toArray,List.set_cons_zero,List.set_cons_succ])
      have t12:=hEd.trans (t1.trans t2);rw[hxe.out]at hu7;have hC7:=hCr.ext0 QC.elem t12;have hu7m:=QC.mono _ _ _ _ (a1N (X:=un (un Y mo) co) (Z:=V) fun k _ hk=>(by
       by_cases h1:ob co k=true
       ·have:=hcoV.out k h1;exact hVin.out k this.1 (by omega)
       ·by_cases h2:ob mo k=true
        ·have:=hmoV.out k h2;exact hVin.out k this.1 (by omega)
        ·have h3:Y k=true:=by simpa[un,h1,h2]using hk
         rcases hYof.out k h3 with h|h
         ·exact hVZ.out k h
         ·have:g=k:=by simpa[ob]using h
          rw[<-this];exact hVin.out g hb1 (by omega))) hu7
      obtain⟨_,v0,v1,v2,_,⟨g0,f0⟩,⟨gg1,f1⟩,⟨gg2,f2⟩,_⟩:=hC7.cell3 j hjC hgc'.out;have hset:=hC7.set3 (P:=Tryz.prog) a7z QC.elem j hjC hgc'.out (v0:= .bool s7) (v1:= .slice a7 n7 c7) (v2:= .slice d7 m7 e7) (x:=S1) hu7m;refine a0a hOnce (i:=8) (oi:=⟨_,_,_,_,_,_⟩) (v:=?_) rfl (by kernel_rfl) (fun _ _ _ h=>h) (by assumption) (by rfl) (fun w hSw=>?_) ?_
      rotate_left
      ·(try dsimp only at hSw)
       go_simp
       all_goals with_reducible rfl
      (try simp only[Act.put,List.setIfInBounds_toArray,List.set_cons_zero,List.set_cons_succ])
      refine a0O (i:=9) (o:=⟨_,_,_,_,_,_⟩) (by kernel_rfl) rfl (by decide) (by kernel_rfl) (fun K hK=>?_);go_simp
      refine hK.out _ _ ?_;clear hK K;obtain⟨q1,q2⟩:=hset;rw[hcs2.out]at q1;have yg9:=(ygr.ext0 t12).ext q2 hcog;have hM9:=(hMr.ext0 HdR.elem t12).ext HdR.elem q2 (fun k _ hk=>a0q hk) (fun _ _ h=>h);have hE9:=(hE.trans (hEo.trans t12)).own hC7 (Nat.le_refl _) q2;clear i8 g0 gg1 gg2 f0 f1 f2;go_wp2_with fail
      go_roundw
      case rel=>exact⟨j+1,by go_num,by omega,yg9,q1,hM9,hE9⟩
      case measure=>simp[intOf];omega
   ·have hcf:=hid (a7J p R d)
    rw[show j=d by omega,hcf.out]at hC;have k2:wr.cell? ⟨g,2,none⟩=some (.slice mo d d):=yg.cell 2 rfl;have hM0:OL HdR 1 Y W0.heap.size 45 wr mo d (List.replicate d (none,0,0)):=OL.remask (R:=HdR) (fun x _ h h' u hq=>HdR.pure h h' u x hq) hM (fun k hk=>(a1p (hM.1 k hk)).1);have hMO:=MO.start hM0 32;rw[show List.replicate d ([]:List Rat)=(List.range d).map fun q=>if q<0 then List.replicate d 0 else[]from(a7D d _ _).symm]at hMO;have hCs:=hC.sl QC.elem;obtain⟨w1,hw1⟩:∃w1,w1=wr:=⟨_,rfl⟩;subst hw1;have hmog:ob mo g=false:=by
     cases hh:ob mo g
     ·rfl
     ·have:=hM0.1 g hh;rw[hYg]at this;cases this
    have hmoW:=hid (fun k (h:ob mo k=true)=>(hM0.block h:W0.heap.size<=k/\k<w1.heap.size));have hE01:Ext W0 w1:=hE;have hE0w:=hid (fun w' (h:ExtX (ob mo) w1 w')=>(hE01.then_ h (fun i hi _=>by
     cases hh:ob mo i
     ·rfl
     ·have:=(hmoW.out i hh).1;omega):Ext W0 w'))
    have hYX:HX Y w1:=fun k hk=>by
     rcases hYof.out k hk with h|h
     ·exact hX0.ext hE01 k h
     ·have:g=k:=by simpa[ob]using h
      rw[<-this];exact yg.lt
    clear hC hM hM0 hE;go_wp2_with fail
    clear k2;go_loopw [63] (fun q wr=>∃(i:Nat) (hs:List Hdr),q= .int .i64 i/\i<=d/\Hid (∀q (hq:q<hs.length),i<=q->hs[q].1=none)/\Hid (∀k,obs hs k=true->w1.heap.size<=k)/\MO Y W0.heap.size 45 32 wr mo d hs ((List.range d).map fun q=>if q<i then List.replicate d 0 else[])/\ExtX (ob mo) w1 wr) (fun q _=>d - (intOf q).toNat)
    case atStart=>exact⟨0,_,rfl,Nat.zero_le _,hid (fun q hq _=>by simp),hid (fun k hk=>by obtain⟨i,hi,h⟩:=a3x hk;simp[ob]at h),hMO,ExtX.refl _⟩
    case round=>
     clear hMO;obtain⟨i,hs,rfl,hi,hnil,hob,hM,hE⟩:=hrel;have ygr:=yg.ext hE hmog;have hE0r:=hE0w.out wr hE;have hXr:HX Y wr:=hYX.ext hE;have hXz:=hM.hz hXr;have hlen:=hid hM.len;have hml:Hid (((List.range d).map fun q=>if q<i then List.replicate d (0:Rat)else[]).length=d):=hid (by simp);by_cases hli:i<d
     ·have hih:i<hs.length:=by rw[hlen.out,hml.out];exact hli
      have hps:=hid (a9m d i (List.replicate d (0:Rat)) [] hli);have hn0:=hnil.out i hih (Nat.le_refl _);have hEd:Ext wr wr.drew:=(ExtX.refl wr).drew;have hS:Hid (∀w',Ext wr.drew w'->w'.cell? ⟨g,2,none⟩=some (.slice mo d d)):=hid fun w' h=>(ygr.ext0 (hEd.trans h)).cell 2 rfl;have i5:∀W,(Instr.indexAt 25 (.slice mo d d) (.int .i64 (i:Int))).run Tryz.prog W= .ok (.pointer (some (adr mo i))) W:=a0I a0A mo d d .i64 i hhm (by omega) rfl;go_wp2_with fail
      refine a0P 6 (fun w'=>w'.cell? ⟨g,2,none⟩=some (.slice mo d d)) (by kernel_rfl) (by kernel_rfl) (hS.out _ (ExtX.refl _)) (fun hHeld hOnce=>?_);refine a0a hOnce (i:=0) (oi:=⟨_,_,_,_,_,_⟩) (v:=?_) rfl (by kernel_rfl) (fun _ _ _ h=>h) (by assumption) (by rfl) (fun w hSw=>?_) ?_
      rotate_left
      ·(try dsimp only at hSw)
       go_simp
       all_goals with_reducible rfl
      (try simp only[Act.put,List.setIfInBounds_toArray,List.set_cons_zero,List.set_cons_succ])
      refine a0a hOnce (i:=1) (oi:=⟨_,_,_,_,_,_⟩) (v:=?_) rfl (by kernel_rfl) (fun _ _ _ h=>h) (by assumption) (by rfl) (fun w hSw=>?_) ?_
      rotate_left
      ·(try dsimp only at hSw)
       go_simp
       all_goals with_reducible rfl
      (try simp only[Act.put,List.setIfInBounds_toArray,List.set_cons_zero,List.set_cons_succ])
      refine a0a hOnce (i:=2) (oi:=⟨_,_,_,_,_,_⟩) (v:=?_) rfl (by kernel_rfl) (fun _ _ _ h=>h) (by assumption) (by rfl) (fun w hSw=>?_) ?_
      rotate_left
      ·(try dsimp only at hSw)
       go_simp
       all_goals with_reducible rfl
      (try simp only[Act.put,List.setIfInBounds_toArray,List.set_cons_zero,List.set_cons_succ])
      refine a0a hOnce (i:=3) (oi:=⟨_,_,_,_,_,_⟩) (v:=?_) rfl (by kernel_rfl) (fun _ _ _ h=>h) (by assumption) (by rfl) (fun w hSw=>?_) ?_
      rotate_left
      ·(try dsimp only at hSw)
       go_simp
       all_goals with_reducible rfl
      (try simp only[Act.put,List.setIfInBounds_toArray,List.set_cons_zero,List.set_cons_succ])
      refine a0v (i:=4) (o:=⟨_,_,_,_,_,_⟩) (by kernel_rfl) rfl (fun K hK=>?_)
      (refine a4B (R:=QC) rfl rfl a1c QC.elem (0:Rat) (fun _=>QC.zero _) (mz Y mo hs) (fun k hk=>hXz k hk) wr.heap.size (Nat.le_refl _) d rfl rfl rfl (by omega) (by omega) ?_;intro a1 w2 hO2 t1)
      refine hK.out _ _ (hS.out _ t1) (fun hHeld=>?_);clear hK K
      (try simp only[Act.put,List.setIfInBounds_toArray,List.set_cons_zero,List.set_cons_succ])
      have hE2:=hEd.trans t1;have hO7:=hM.outer.ext0 HdR.elem hE2;obtain⟨_,p0,f0,_⟩:=hO7.cell HdR.one i hih;refine a0a hOnce (i:=5) (oi:=⟨_,_,_,_,_,_⟩) (v:=?_) rfl (by kernel_rfl) (fun _ _ _ h=>h) (by assumption) (by rfl) (fun w hSw=>?_) ?_
      rotate_left
      ·(try dsimp only at hSw)
       go_simp
       all_goals with_reducible rfl
      (try simp only[Act.put,List.setIfInBounds_toArray,List.set_cons_zero,List.set_cons_succ])
      refine a0O (i:=6) (o:=⟨_,_,_,_,_,_⟩) (by kernel_rfl) rfl (by decide) (by kernel_rfl) (fun K hK=>?_);go_simp
      refine hK.out _ _ ?_;clear hK K;obtain⟨hO8,hE8⟩:=hO7.set1 a3R HdR.elem HdR.one i hih (.slice a1 d d) (a1,d,d) rfl;have hnew:∀k,ob a1 k=true->wr.heap.size<=k:=fun k hk=>(hO2.block hk).1;have hM3:=hM.put (l:=List.replicate d 0) hih hn0 hE2 hnew (hO2.base_le hE0r.size) hXr hE8 (by simpa using hO8);rw[hps.out]at hM3;have hE9:ExtX (ob mo) w1 _:=(hE.then_ hE2 (fun _ _ _=>rfl)).trans hE8;have hsz:=hE.size;have hnil2:Hid (∀q (hq:q<(hs.set i (a1,(List.replicate d (0:Rat)).length,d)).length),i+1<=q->(hs.set i (a1,(List.replicate d (0:Rat)).length,d))[q].1=none):=hid fun q hq hiq=>by
       rw[List.getElem_set_ne (by omega)];exact hnil.out q (by simpa using hq) (by omega)
      have hob2:Hid (∀k,obs (hs.set i (a1,(List.replicate d (0:Rat)).length,d)) k=true->w1.heap.size<=k):=hid fun k hk=>by
       obtain⟨q,hq,h⟩:=a3x hk;rw[List.getElem_set]at h;split at h
       ·have:=hnew k h;omega
       ·exact hob.out k (a1s (by simpa using hq) h)
      clear i5 p0 f0;go_wp2_with fail
      go_roundw
      case rel=>exact⟨i+1,_,by go_num,by omega,hnil2,hob2,hM3,hE9⟩
      case measure=>simp[intOf];omega
     ·rw[show i=d by omega,a7E]at hM
      rw[<-b1t p R d]at hM;clear hml hnil hlen;obtain⟨U,hU⟩:∃U,mz Y mo hs=U:=⟨_,rfl⟩;have hU':=hid hU;have hUof:=hid (fun k (hk:U k=true)=>(a2h.1 (by rw[hU];exact hk):Y k=true\/ob mo k=true\/obs hs k=true));have hUobs:=hid (fun k (hk:obs hs k=true)=>(by rw[<-hU];exact a2h.2 (.inr (.inr hk)):U k=true));have hUX3:HX U wr:=by rw[<-hU];exact hXz
      have hPU:=hid (fun w' (h:Ext W0 w')=>(a0N h (fun k _ hk=>by simp[noY]at hk) (fun k hk hz=>by
       rcases hUof.out k hz with h|h|h
       ·rcases hYof.out k h with h|h
        ·exact h
        ·have:g=k:=by simpa[ob]using h
         omega
       ·have:=(hmoW.out k h).1;omega
       ·have:=hob.out k h;have:=hE01.size;omega):Le (mk Z0 W0) (mk U w')))
      have hCU:=hid (fun w' (h:ExtX (ob mo) w1 w')=>(a0N h (fun k _ hk=>a0q hk) (fun k hk hz=>by
       rcases hUof.out k hz with h|h|h
       ·exact a0p h
       ·exact a0q h
       ·have:=hob.out k h;omega):Le (mk (un Y mo) w1) (mk U w')))
      have hhl:=hM.len;rw[(a3a p R d 0).1]at hhl;have hhl':=hid hhl;obtain⟨w3,hw3⟩:∃w3,w3=wr:=⟨_,rfl⟩;subst hw3;have hE13:=hid (fun w' (h:ExtX (obs hs) w3 w')=>(hE.then_ h (fun i hi _=>by
       cases hh:obs hs i
       ·rfl
       ·have:=hob.out i hh;omega):ExtX (ob mo) w1 w'))
      have hcenB:=hid (a6Z (rows:=R) (d:=d) hpH.out (by rw[hRl.out];omega));have hcenl:=hid (a9n p R d);clear hU hhl hXz hXr hE0r ygr;go_wp2_with fail
      go_loopw [75] (fun q wr=>∃t:Nat,q= .int .i64 t/\t<=rows.length/\MO Y W0.heap.size 45 32 wr mo d hs (a5l p R d t)/\ExtX (obs hs) w3 wr) (fun q _=>rows.length - (intOf q).toNat)
      case atStart=>exact⟨0,rfl,Nat.zero_le _,hM,ExtX.refl _⟩
      case round=>
       clear hM;obtain⟨t,rfl,ht,hM,hE4⟩:=hrel;have hE14:=hE13.out wr hE4;have hE04:=hE0w.out wr hE14;have ygr:=yg.ext hE14 hmog;have hXY:HX Y wr:=hYX.ext hE14;have hXU:HX U wr:=hUX3.ext hE4;by_cases hlt2:t<rows.length
       ·have hri:=(hrr.out wr hE04).int t hlt2
        obtain⟨h1,h2⟩:=hlt'.out rows[t] (List.getElem_mem _);obtain⟨r,hrr2⟩:=Int.eq_ofNat_of_zero_le h1;rw[hrr2]at hri h2;have hrn:r<n:=by omega
        have hrp:r<p.length:=by rw[hpl.out];exact hrn
        have hRt:R.getD t 0=r:=by rw[hRg.out t hlt2,hrr2];rfl
        obtain⟨a1,c1,hX1,hc1,hcl1,hq1⟩:=hus.row r hrp;have hrl1:=hpr.out p[r] (List.getElem_mem _);have hqU:=(hq1.mono QV.mono (hle.out W0 hE0)).mono QV.mono (hPU.out wr hE04);have hpRV:RV (mk U wr) (.slice a1 d c1) p[r]:=⟨a1,c1,by rw[hrl1],hcl1,hqU⟩;have hcRV:RV (mk U wr) (.slice co d d) (a4c p R d):=⟨co,d,by rw[hcenl.out],by rw[hcenl.out];exact Nat.le_refl _,(hCs.mono QC.mono (hCU.out wr hE14)).qv fun q hq=>Nat.le_trans (hcenB.out q hq) (by
         rw[hRl.out];have:=Nat.mul_le_mul (show rows.length<=6 by omega) (show B+1<=511 by omega);omega)⟩
        have hdv:List.zipWith (· - ·) p[r] (a4c p R d)=a5p p (a4c p R d) (R.getD t 0):=by
         unfold a5p;rw[hRt];simp[List.getD_eq_getElem?_getD,hrp]
        have hst:=hid (b0a p R d t);have hsp:=hid (b1r p R d t);have hZB:=hid (a3z (r:=R.getD t 0) hpB' hcenB.out);have hzl0:Hid ((a5p p (a4c p R d) (R.getD t 0)).length=d):=hid (by rw[<-hdv,List.length_zipWith,hrl1,hcenl.out,Nat.min_self]);have hFB:=hid (fun j k=>b1s (p:=p) (rows:=R) (d:=d) (t:=t) (fun r=>a3z (r:=r) hpB' hcenB.out) (by omega) j k);have hEd0:Ext wr wr.drew:=(ExtX.refl wr).drew;have hem:=b6r U wr.drew (.slice a1 d c1) (.slice co d d) p[r] (a4c p R d) (hXU.ext hEd0) (mkx RV.mono hpRV hEd0) (mkx RV.mono hcRV hEd0) (by rw[hrl1];omega) (by rw[hcenl.out,hrl1]);rw[hdv]at hem;rw[hrl1]at hc1;have hZ3:B+(2+R.length*(B+1))+1<=3579:=by
         rw[hRl.out];have:=Nat.mul_le_mul (show rows.length<=6 by omega) (show B+1<=511 by omega);omega
        have hZ2:=hid (fun q hq=>Nat.le_trans (hZB.out q hq) hZ3);have hF2:=hid (fun j k=>(Nat.le_trans (hFB.out j k) (by
         have:=Nat.mul_le_mul (show t<=6 by omega) (show 2*(B+(2+R.length*(B+1))+1)+1<=7159 by omega);omega):hq (a9s p R d t j k)<=42955))
        obtain⟨z,hz⟩:∃z,a5p p (a4c p R d) (R.getD t 0)=z:=⟨_,rfl⟩;obtain⟨F,hF⟩:∃F,a9s p R d t=F:=⟨_,rfl⟩;rw[hz]at hem hst hsp hZ2 hzl0;rw[hF]at hst hsp hF2;clear hZB hFB;have hEd:Ext wr wr.drew:=(ExtX.refl wr).drew;have hS:Hid (∀w',Ext wr.drew w'->w'.cell? (adr ua r)=some (.slice a1 d c1)/\w'.cell? ⟨g,1,none⟩=some (.slice co d d)):=hid fun w' h=>
         ⟨hc1.out noY w' (hEw.out _ (hE04.trans (hEd.trans h))) rfl,(ygr.ext0 (hEd.trans h)).cell 1 rfl⟩
        have i2:∀W,(Instr.indexAt 25 (.slice ua n uc) (.int .i64 (r:Int))).run Tryz.prog W= .ok (.pointer (some (adr ua r))) W:=a0I a0A ua n uc .i64 r hhu (by omega) rfl;clear hc1 hcl1 hq1 hrl1 hqU hpRV hcRV hdv hRt hrr2 h1 h2 hz hF;go_wp2_with (with_reducible refine a0o a0S (by omega) (by assumption) ?_)
        refine a0P 7 (fun w'=>w'.cell? (adr ua r)=some (.slice a1 d c1)/\w'.cell? ⟨g,1,none⟩=some (.slice co d d)) (by kernel_rfl) (by kernel_rfl) (hS.out _ (ExtX.refl _)) (fun hHeld hOnce=>?_);refine a0a hOnce (i:=0) (oi:=⟨_,_,_,_,_,_⟩) (v:=?_) rfl (by kernel_rfl) (fun _ _ _ h=>h) (by assumption) (by rfl) (fun w hSw=>?_) ?_
        rotate_left
        ·(try dsimp only at hSw)
         go_simp
         all_goals with_reducible rfl
        (try simp only[Act.put,List.setIfInBounds_toArray,List.set_cons_zero,List.set_cons_succ])
        refine a0a hOnce (i:=1) (oi:=⟨_,_,_,_,_,_⟩) (v:=?_) rfl (by kernel_rfl) (fun _ _ _ h=>h) (by assumption) (by rfl) (fun w hSw=>?_) ?_
        rotate_left
        ·(try dsimp only at hSw)
         go_simp
         all_goals with_reducible rfl
        (try simp only[Act.put,List.setIfInBounds_toArray,List.set_cons_zero,List.set_cons_succ])
        refine a0a hOnce (i:=2) (oi:=⟨_,_,_,_,_,_⟩) (v:=?_) rfl (by kernel_rfl) (fun _ _ _ h=>h) (by assumption) (by rfl) (fun w hSw=>?_) ?_
        rotate_left
        ·(try dsimp only at hSw)
         go_simp
         all_goals with_reducible rfl
        (try simp only[Act.put,List.setIfInBounds_toArray,List.set_cons_zero,List.set_cons_succ])
        refine a0a hOnce (i:=3) (oi:=⟨_,_,_,_,_,_⟩) (v:=?_) rfl (by kernel_rfl) (fun _ _ _ h=>h) (by assumption) (by rfl) (fun w hSw=>?_) ?_
        rotate_left
        ·(try dsimp only at hSw)
         go_simp
         all_goals with_reducible rfl
        (try simp only[Act.put,List.setIfInBounds_toArray,List.set_cons_zero,List.set_cons_succ])
        refine a0a hOnce (i:=4) (oi:=⟨_,_,_,_,_,_⟩) (v:=?_) rfl (by kernel_rfl) (fun _ _ _ h=>h) (by assumption) (by rfl) (fun w hSw=>?_) ?_
        rotate_left
        ·(try dsimp only at hSw)
         go_simp
         all_goals with_reducible rfl
        (try simp only[Act.put,List.setIfInBounds_toArray,List.set_cons_zero,List.set_cons_succ])
        refine a0a hOnce (i:=5) (oi:=⟨_,_,_,_,_,_⟩) (v:=?_) rfl (by kernel_rfl) (fun _ _ _ h=>h) (by assumption) (by rfl) (fun w hSw=>?_) ?_
        rotate_left
        ·(try dsimp only at hSw)
         go_simp
         all_goals with_reducible rfl
        (try simp only[Act.put,List.setIfInBounds_toArray,List.set_cons_zero,List.set_cons_succ])
        refine a0v (i:=6) (o:=⟨_,_,_,_,_,_⟩) (by kernel_rfl) rfl (fun K hK=>?_);go_simp
        (go_at_call 157;(with_reducible refine hem.mono ?_);rintro ee w5 ⟨t1,u6,rfl,hu6⟩;obtain⟨zo,zc,rfl,hzc,hzs⟩:=hu6)
        refine hK.out _ _ (hS.out _ t1) (fun hHeld=>?_);clear hK K
        (try simp only[Act.put,List.setIfInBounds_toArray,List.set_cons_zero,List.set_cons_succ])
        refine a0O (i:=7) (o:=⟨_,_,_,_,_,_⟩) (by kernel_rfl) rfl (by decide) (by kernel_rfl) (fun K hK=>?_);go_simp
        refine hK.out _ _ ?_;clear hK K;rw[hzl0.out]at hzc |-;have hhz:Hd zo d:=by have:=hzs.hd;rw[hzl0.out]at this;exact this
        have hE45:=hEd.trans t1;have hM5:=hM.ext0 hE45;rw[<-hst.out]at hM5;have hX5:HX U w5:=hXU.ext hE45;have yg5:=ygr.ext0 hE45;clear hem hri i2 hM;go_wp2_with fail
        go_loopw [88] (fun q wx=>∃j:Nat,q= .int .i64 j/\j<=d/\MO Y W0.heap.size 45 32 wx mo d hs (pfN d F (a6v z) j 0)/\ExtX (obs hs) w5 wx) (fun q _=>d - (intOf q).toNat)
        case atStart=>exact⟨0,rfl,Nat.zero_le _,hM5,ExtX.refl _⟩
        case round=>
         clear hM5;obtain⟨j,rfl,hj5,hM,hE5⟩:=hrel;by_cases hlj5:j<d
         ·go_wp2_with fail
          go_loopw [93] (fun q wx=>∃k:Nat,q= .int .i64 k/\k<=d/\MO Y W0.heap.size 45 32 wx mo d hs (pfN d F (a6v z) j k)/\ExtX (obs hs) w5 wx) (fun q _=>d - (intOf q).toNat)
          case atStart=>exact⟨0,rfl,Nat.zero_le _,hM,hE5⟩
          case round=>
           clear hM hE5;obtain⟨k,rfl,hk,hM,hE5⟩:=hrel;by_cases hlk:k<d
           ·have hih:j<hs.length:=by rw[hhl'.out];exact hlj5
            have hmj:j<(pfN d F (a6v z) j k).length:=by rw[b1q];exact hlj5
            have hrlen:=b3c d F (a6v z) j k j hmj;have hkr:k<(pfN d F (a6v z) j k)[j].length:=by rw[hrlen];exact hlk
            have hget:=b5j d F (a6v z) j k hmj hkr;have hset0:=b5k d F (a6v z) j k hmj;have hjz:j<z.length:=by rw[hzl0.out];exact hlj5
            have hkz:k<z.length:=by rw[hzl0.out];exact hlk
            have hpd:a6v z j k=z[j]*z[k]:=by unfold a6v fn;simp[List.getD_eq_getElem?_getD,hjz,hkz]
            rw[hpd]at hset0;have hset:=hid hset0;obtain⟨a,na,cr,hhd⟩:∃a na cr,hs[j]=(a,na,cr):=⟨_,_,_,rfl⟩;have hna:na=d:=by
             have:=hM.rlen j hih hmj;rw[hhd,hrlen]at this;exact this
            subst hna;have hR:=hM.row j hih hmj;simp only[hhd]at hR;have hz1:=fun k (hk:ob a k=true)=>hM.mz_sub hih k (by rw[hhd];exact hk);have hun:Hid (un (cut (mz Y mo hs) a) a=U):=hid (by rw[a9l hz1];exact hU'.out);obtain⟨gr,o0,sr,ar,nr,cr2,dr,kr,er,hgr,hobr,hcr,hqr⟩:=hR.rat QC.shaped k hkr;rw[hun.out,hget]at hqr;have hda:Hd a na:=by have:=hR.hd;rw[hrlen]at this;exact this
            have yh:wr.cell? (adr mo j)=some (.slice a na cr):=by
             have:=(hM.hdr j hih).1;rw[hhd]at this;exact this
            have hzk:=hzs.mono QC.mono (a0w hE5 hUobs.out);obtain⟨g1,o1,s1,p1,n1,q1,d1,m1,e1,hg1,hXg1,hcg1,hv1⟩:=hzk.rat QC.shaped j hjz;obtain⟨g2,o2,s2,p2,n2,q2,d2,m2,e2,hg2,hXg2,hcg2,hv2⟩:=hzk.rat QC.shaped k hkz;have hqz1:=hZ2.out z[j] (List.getElem_mem _);have hqz2:=hZ2.out z[k] (List.getElem_mem _);have hqp:=Nat.le_trans (hq_mul z[j] z[k]) (show _<=68719476736 by omega);have hv1q:=hv1.qv (by omega);have hv2q:=hv2.qv (by omega);have hvrq:=hqr.qv (Nat.le_trans (hF2.out j k) (by decide));obtain⟨zj,hzj⟩:∃y,z[j]=y:=⟨_,rfl⟩;obtain⟨zk,hzk2⟩:∃y,z[k]=y:=⟨_,rfl⟩;obtain⟨xf,hxf⟩:∃y,F j k=y:=⟨_,rfl⟩;simp only[hzj,hzk2,hxf]at hset hv1q hv2q hvrq hqp;have hEd:Ext wr wr.drew:=(ExtX.refl wr).drew;have ygx:=yg5.ext hE5 (by
             cases hh:obs hs g
             ·rfl
             ·have:=hob.out g hh;have:=yg.lt;omega)
            have hgr':=hid hgr;have hhd':=hid hhd;have hS:Hid (∀w',Ext wr.drew w'->w'.cell? ⟨g,2,none⟩=some (.slice mo na na)/\w'.cell? (adr mo j)=some (.slice a na cr)/\(w'.cell? ⟨gr,o0,none⟩=some (.bool sr)/\w'.cell? ⟨gr,o0+1,none⟩=some (.slice ar nr cr2)/\w'.cell? ⟨gr,o0+2,none⟩=some (.slice dr kr er))/\(w'.cell? ⟨g1,o1,none⟩=some (.bool s1)/\w'.cell? ⟨g1,o1+1,none⟩=some (.slice p1 n1 q1)/\w'.cell? ⟨g1,o1+2,none⟩=some (.slice d1 m1 e1))/\w'.cell? ⟨g2,o2,none⟩=some (.bool s2)/\w'.cell? ⟨g2,o2+1,none⟩=some (.slice p2 n2 q2)/\w'.cell? ⟨g2,o2+2,none⟩=some (.slice d2 m2 e2)):=hid fun w' h=>
             have h':=hEd.trans h
             ⟨(ygx.ext0 h').cell 2 rfl,h'.cell yh,hcr.out noY w' h' rfl,hcg1.out noY w' h' rfl,hcg2.out noY w' h' rfl⟩
            have i3:∀W,(Instr.indexAt 25 (.slice mo na na) (.int .i64 (j:Int))).run Tryz.prog W= .ok (.pointer (some (adr mo j))) W:=a0I a0A mo na na .i64 j hhm (by omega) rfl;have i12:∀W,(Instr.indexAt 45 (.slice a na cr) (.int .i64 (k:Int))).run Tryz.prog W= .ok (.pointer (some ⟨gr,o0,none⟩)) W:=by rw[<-hgr];exact a0k a1c a na cr .i64 k hda (by omega)
            have i16:∀W,(Instr.indexAt 45 (.slice zo na zc) (.int .i64 (j:Int))).run Tryz.prog W= .ok (.pointer (some ⟨g1,o1,none⟩)) W:=by rw[<-hg1];exact a0k a1c zo na zc .i64 j hhz (by omega)
            have i20:∀W,(Instr.indexAt 45 (.slice zo na zc) (.int .i64 (k:Int))).run Tryz.prog W= .ok (.pointer (some ⟨g2,o2,none⟩)) W:=by rw[<-hg2];exact a0k a1c zo na zc .i64 k hhz (by omega)
            have hXx:HX U wr:=hX5.ext hE5;have hXd:HX U wr.drew:=hXx.ext hEd;have hv1d:=mkx QV.mono hv1q hEd;have hv2d:=mkx QV.mono hv2q hEd;have hvrd:=mkx QV.mono hvrq hEd;have hqp':=hid hqp;clear hcr hcg1 hcg2 hg1 hg2 hgr hhd hqr hv1 hv2 hzj hzk2 hxf hget hset0 hpd hqz1 hqz2 hv1q hv2q hvrq hqp yh;go_wp2_with fail
            refine a0P 25 (fun w'=>w'.cell? ⟨g,2,none⟩=some (.slice mo na na)/\w'.cell? (adr mo j)=some (.slice a na cr)/\(w'.cell? ⟨gr,o0,none⟩=some (.bool sr)/\w'.cell? ⟨gr,o0+1,none⟩=some (.slice ar nr cr2)/\w'.cell? ⟨gr,o0+2,none⟩=some (.slice dr kr er))/\(w'.cell? ⟨g1,o1,none⟩=some (.bool s1)/\w'.cell? ⟨g1,o1+1,none⟩=some (.slice p1 n1 q1)/\w'.cell? ⟨g1,o1+2,none⟩=some (.slice d1 m1 e1))/\w'.cell? ⟨g2,o2,none⟩=some (.bool s2)/\w'.cell? ⟨g2,o2+1,none⟩=some (.slice p2 n2 q2)/\w'.cell? ⟨g2,o2+2,none⟩=some (.slice d2 m2 e2)) (by kernel_rfl) (by kernel_rfl) (hS.out _ (ExtX.refl _)) (fun hHeld hOnce=>?_);refine a0a hOnce (i:=0) (oi:=⟨_,_,_,_,_,_⟩) (v:=?_) rfl (by kernel_rfl) (fun _ _ _ h=>h) (by assumption) (by rfl) (fun w hSw=>?_) ?_
            rotate_left
            ·(try dsimp only at hSw)
             go_simp
             all_goals with_reducible rfl
            (try simp only[Act.put,List.setIfInBounds_toArray,List.set_cons_zero,List.set_cons_succ])
            refine a0a hOnce (i:=1) (oi:=⟨_,_,_,_,_,_⟩) (v:=?_) rfl (by kernel_rfl) (fun _ _ _ h=>h) (by assumption) (by rfl) (fun w hSw=>?_) ?_
            rotate_left
            ·(try dsimp only at hSw)
             go_simp
             all_goals with_reducible rfl
            (try simp only[Act.put,List.setIfInBounds_toArray,List.set_cons_zero,List.set_cons_succ])
            refine a0a hOnce (i:=2) (oi:=⟨_,_,_,_,_,_⟩) (v:=?_) rfl (by kernel_rfl) (fun _ _ _ h=>h) (by assumption) (by rfl) (fun w hSw=>?_) ?_
            rotate_left
            ·(try dsimp only at hSw)
             go_simp
             all_goals with_reducible rfl
            (try simp only[Act.put,List.setIfInBounds_toArray,List.set_cons_zero,List.set_cons_succ])
            refine a0a hOnce (i:=3) (oi:=⟨_,_,_,_,_,_⟩) (v:=?_) rfl (by kernel_rfl) (fun _ _ _ h=>h) (by assumption) (by rfl) (fun w hSw=>?_) ?_
            rotate_left
            ·(try dsimp only at hSw)
             go_simp
             all_goals with_reducible rfl
            (try simp only[Act.put,List.setIfInBounds_toArray,List.set_cons_zero,List.set_cons_succ])
            refine a0a hOnce (i:=4) (oi:=⟨_,_,_,_,_,_⟩) (v:=?_) rfl (by kernel_rfl) (fun _ _ _ h=>h) (by assumption) (by rfl) (fun w hSw=>?_) ?_
            rotate_left
            ·(try dsimp only at hSw)
             go_simp
             all_goals with_reducible rfl
            (try simp only[Act.put,List.setIfInBounds_toArray,List.set_cons_zero,List.set_cons_succ])
            refine a0a hOnce (i:=5) (oi:=⟨_,_,_,_,_,_⟩) (v:=?_) rfl (by kernel_rfl) (fun _ _ _ h=>h) (by assumption) (by rfl) (fun w hSw=>?_) ?_
            rotate_left
            ·(try dsimp only at hSw)
             go_simp
             all_goals with_reducible rfl
            (try simp only[Act.put,List.setIfInBounds_toArray,List.set_cons_zero,List.set_cons_succ])
            refine a0a hOnce (i:=6) (oi:=⟨_,_,_,_,_,_⟩) (v:=?_) rfl (by kernel_rfl) (fun _ _ _ h=>h) (by assumption) (by rfl) (fun w hSw=>?_) ?_
            rotate_left
            ·(try dsimp only at hSw)
             go_simp
             all_goals with_reducible rfl
            (try simp only[Act.put,List.setIfInBounds_toArray,List.set_cons_zero,List.set_cons_succ])
            refine a0a hOnce (i:=7) (oi:=⟨_,_,_,_,_,_⟩) (v:=?_) rfl (by kernel_rfl) (fun _ _ _ h=>h) (by assumption) (by rfl) (fun w hSw=>?_) ?_
            rotate_left
            ·(try dsimp only at hSw)
             go_simp
             all_goals with_reducible rfl
            (try simp only[Act.put,List.setIfInBounds_toArray,List.set_cons_zero,List.set_cons_succ])
            refine a0a hOnce (i:=8) (oi:=⟨_,_,_,_,_,_⟩) (v:=?_) rfl (by kernel_rfl) (fun _ _ _ h=>h) (by assumption) (by rfl) (fun w hSw=>?_) ?_
            rotate_left
            ·(try dsimp only at hSw)
             go_simp
             all_goals with_reducible rfl
            (try simp only[Act.put,List.setIfInBounds_toArray,List.set_cons_zero,List.set_cons_succ])
            refine a0a hOnce (i:=9) (oi:=⟨_,_,_,_,_,_⟩) (v:=?_) rfl (by kernel_rfl) (fun _ _ _ h=>h) (by assumption) (by rfl) (fun w hSw=>?_) ?_
            rotate_left
            ·(try dsimp only at hSw)
             go_simp
             all_goals with_reducible rfl
            (try simp only[Act.put,List.setIfInBounds_toArray,List.set_cons_zero,List.set_cons_succ])
            refine a0a hOnce (i:=10) (oi:=⟨_,_,_,_,_,_⟩) (v:=?_) rfl (by kernel_rfl) (fun _ _ _ h=>h) (by assumption) (by rfl) (fun w hSw=>?_) ?_
            rotate_left
            ·(try dsimp only at hSw)
             go_simp
             all_goals with_reducible rfl
            (try simp only[Act.put,List.setIfInBounds_toArray,List.set_cons_zero,List.set_cons_succ])
            refine a0a hOnce (i:=11) (oi:=⟨_,_,_,_,_,_⟩) (v:=?_) rfl (by kernel_rfl) (fun _ _ _ h=>h) (by assumption) (by rfl) (fun w hSw=>?_) ?_
            rotate_left
            ·(try dsimp only at hSw)
             go_simp
             all_goals with_reducible rfl
            (try simp only[Act.put,List.setIfInBounds_toArray,List.set_cons_zero,List.set_cons_succ])
            refine a0a hOnce (i:=12) (oi:=⟨_,_,_,_,_,_⟩) (v:=?_) rfl (by kernel_rfl) (fun _ _ _ h=>h) (by assumption) (by rfl) (fun w hSw=>?_) ?_
            rotate_left
            ·(try dsimp only at hSw)
             go_simp
             all_goals with_reducible rfl
            (try simp only[Act.put,List.setIfInBounds_toArray,List.set_cons_zero,List.set_cons_succ])
            refine a0a hOnce (i:=13) (oi:=⟨_,_,_,_,_,_⟩) (v:=?_) rfl (by kernel_rfl) (fun _ _ _ h=>h) (by assumption) (by rfl) (fun w hSw=>?_) ?_
            rotate_left
            ·(try dsimp only at hSw)
             go_simp
             all_goals with_reducible rfl
            (try simp only[Act.put,List.setIfInBounds_toArray,List.set_cons_zero,List.set_cons_succ])
            refine a0a hOnce (i:=14) (oi:=⟨_,_,_,_,_,_⟩) (v:=?_) rfl (by kernel_rfl) (fun _ _ _ h=>h) (by assumption) (by rfl) (fun w hSw=>?_) ?_
            rotate_left
            ·(try dsimp only at hSw)
             go_simp
             all_goals with_reducible rfl
            (try simp only[Act.put,List.setIfInBounds_toArray,List.set_cons_zero,List.set_cons_succ])
            refine a0a hOnce (i:=15) (oi:=⟨_,_,_,_,_,_⟩) (v:=?_) rfl (by kernel_rfl) (fun _ _ _ h=>h) (by assumption) (by rfl) (fun w hSw=>?_) ?_
            rotate_left
            ·(try dsimp only at hSw)
             go_simp
             all_goals with_reducible rfl
            (try simp only[Act.put,List.setIfInBounds_toArray,List.set_cons_zero,List.set_cons_succ])
            refine a0a hOnce (i:=16) (oi:=⟨_,_,_,_,_,_⟩) (v:=?_) rfl (by kernel_rfl) (fun _ _ _ h=>h) (by assumption) (by rfl) (fun w hSw=>?_) ?_
            rotate_left
            ·(try dsimp only at hSw)
             go_simp
             all_goals with_reducible rfl
            (try simp only[Act.put,List.setIfInBounds_toArray,List.set_cons_zero,List.set_cons_succ])
            refine a0a hOnce (i:=17) (oi:=⟨_,_,_,_,_,_⟩) (v:=?_) rfl (by kernel_rfl) (fun _ _ _ h=>h) (by assumption) (by rfl) (fun w hSw=>?_) ?_
            rotate_left
            ·(try dsimp only at hSw)
             go_simp
             all_goals with_reducible rfl
            (try simp only[Act.put,List.setIfInBounds_toArray,List.set_cons_zero,List.set_cons_succ])
            refine a0a hOnce (i:=18) (oi:=⟨_,_,_,_,_,_⟩) (v:=?_) rfl (by kernel_rfl) (fun _ _ _ h=>h) (by assumption) (by rfl) (fun w hSw=>?_) ?_
            rotate_left
            ·(try dsimp only at hSw)
             go_simp
             all_goals with_reducible rfl
            (try simp only[Act.put,List.setIfInBounds_toArray,List.set_cons_zero,List.set_cons_succ])
            refine a0a hOnce (i:=19) (oi:=⟨_,_,_,_,_,_⟩) (v:=?_) rfl (by kernel_rfl) (fun _ _ _ h=>h) (by assumption) (by rfl) (fun w hSw=>?_) ?_
            rotate_left
            ·(try dsimp only at hSw)
             go_simp
             all_goals with_reducible rfl
            (try simp only[Act.put,List.setIfInBounds_toArray,List.set_cons_zero,List.set_cons_succ])
            refine a0a hOnce (i:=20) (oi:=⟨_,_,_,_,_,_⟩) (v:=?_) rfl (by kernel_rfl) (fun _ _ _ h=>h) (by assumption) (by rfl) (fun w hSw=>?_) ?_
            rotate_left
            ·(try dsimp only at hSw)
             go_simp
             all_goals with_reducible rfl
            (try simp only[Act.put,List.setIfInBounds_toArray,List.set_cons_zero,List.set_cons_succ])
            refine a0a hOnce (i:=21) (oi:=⟨_,_,_,_,_,_⟩) (v:=?_) rfl (by kernel_rfl) (fun _ _ _ h=>h) (by assumption) (by rfl) (fun w hSw=>?_) ?_
            rotate_left
            ·(try dsimp only at hSw)
             go_simp
             all_goals with_reducible rfl
            (try simp only[Act.put,List.setIfInBounds_toArray,List.set_cons_zero,List.set_cons_succ])
            refine a0v (i:=22) (o:=⟨_,_,_,_,_,_⟩) (by kernel_rfl) rfl (fun K hK=>?_);go_simp
            (go_at_call 169;(with_reducible refine(b6V U wr.drew _ _ _ _ hXd hv1d hv2d).mono ?_);rintro ee w6 ⟨t1,u6,rfl,hu6⟩;obtain⟨s6,a6,n6,c6,d6,m6,e6,rfl⟩:=hu6.shape)
            refine hK.out _ _ (hS.out _ t1) (fun hHeld=>?_);clear hK K
            (try simp only[Act.put,List.setIfInBounds_toArray,List.set_cons_zero,List.set_cons_succ])
            refine a0v (i:=23) (o:=⟨_,_,_,_,_,_⟩) (by kernel_rfl) rfl (fun K hK=>?_);go_simp
            (go_at_call 112;(with_reducible refine(b6i U w6 _ _ _ _ (hXd.ext t1) (mkx QV.mono hvrd t1) (hu6.qv hqp'.out)).mono ?_);rintro ee w7 ⟨t2,u7,rfl,hu7⟩;obtain⟨s7,a7,n7,c7,d7,m7,e7,rfl⟩:=hu7.shape)
            refine hK.out _ _ (hS.out _ (t1.trans t2)) (fun hHeld=>?_);clear hK K
            (try simp only[Act.put,List.setIfInBounds_toArray,List.set_cons_zero,List.set_cons_succ])
            have t12:=hEd.trans (t1.trans t2);have hR7:=hR.ext0 QC.elem t12;obtain⟨_,v0,v1,v2,_,⟨g0,f0⟩,⟨gg1,f1⟩,⟨gg2,f2⟩,_⟩:=hR7.cell3 k hkr hgr'.out;have hsw:=hR7.set3 (P:=Tryz.prog) a7z QC.elem k hkr hgr'.out (v0:= .bool s7) (v1:= .slice a7 n7 c7) (v2:= .slice d7 m7 e7) (x:=xf+zj*zk) (by rw[hun.out];exact hu7);refine a0a hOnce (i:=24) (oi:=⟨_,_,_,_,_,_⟩) (v:=?_) rfl (by kernel_rfl) (fun _ _ _ h=>h) (by assumption) (by rfl) (fun w hSw=>?_) ?_
            rotate_left
            ·(try dsimp only at hSw)
             go_simp
             all_goals with_reducible rfl
            (try simp only[Act.put,List.setIfInBounds_toArray,List.set_cons_zero,List.set_cons_succ])
            refine a0O (i:=25) (o:=⟨_,_,_,_,_,_⟩) (by kernel_rfl) rfl (by decide) (by kernel_rfl) (fun K hK=>?_);go_simp
            refine hK.out _ _ ?_;clear hK K;obtain⟨x1,x2⟩:=hsw;have hM8:=(hM.ext0 t12).upd hih (l:=(pfN na F (a6v z) j k)[j].set k (xf+zj*zk)) (show ExtX (ob hs[j].1) _ _ by rw[hhd'.out];exact x2) (fun _=>List.length_set) (by rw[hhd'.out];exact x1);rw[hset.out]at hM8;have hE9:=(hE5.then_ t12 (fun _ _ _=>rfl)).trans (x2.weaken (Z:=obs hs) fun q _ hq=>(by
             cases hh:ob a q
             ·rfl
             ·rw[a1s hih (by rw[hhd'.out];exact hh)]at hq;cases hq))
            clear i3 i12 i16 i20 g0 gg1 gg2 f0 f1 f2;go_wp2_with fail
            go_roundw
            case rel=>exact⟨k+1,by go_num,by omega,hM8,hE9⟩
            case measure=>simp[intOf];omega
           ·have hM2:=hM
            rw[show k=d by omega,b5h]at hM2;go_wp2_with fail
            go_roundw
            case rel=>exact⟨j+1,by go_num,by omega,hM2,hE5⟩
            case measure=>simp[intOf];omega
         ·have hM2:=hM
          rw[show j=d by omega,hsp.out]at hM2;have hE9:=(hE4.then_ hE45 (fun _ _ _=>rfl)).trans hE5;go_wp2_with fail
          go_roundw
          case rel=>exact⟨t+1,by go_num,by omega,hM2,hE9⟩
          case measure=>simp[intOf];omega
       ·rw[show t=R.length by rw[hRl.out];omega]at hM
        have hml:=(a3a p R d R.length);obtain⟨hMf,hMc⟩:=sqf hml (by omega);have hZ3:B+(2+R.length*(B+1))+1<=3579:=by
         rw[hRl.out];have:=Nat.mul_le_mul (show rows.length<=6 by omega) (show B+1<=511 by omega);omega
        have hHB:HB 60000 (a5l p R d R.length):=fun i j=>Nat.le_trans (a7a (fun r=>a3z (r:=r) hpB' hcenB.out) (by omega) i j) (by
         have:=Nat.mul_le_mul (show R.length<=6 by rw[hRl.out];omega) (show 2*(B+(2+R.length*(B+1))+1)+1<=7159 by omega);omega)
        have hmc:=hM.mc;rw[hml.1]at hmc;have hdet:=b6p Y wr (.slice mo d d) _ d hXY (hmc.mv (b2R (fun i j=>Nat.le_trans (hHB i j) (by decide)))) hMf hml.1 hMc (by omega) (a4z hml hd3 hHB).1;have hsd:a9g (a5l p R d R.length) d=b5g p R d:=rfl;rw[hsd]at hdet;have k2:wr.cell? ⟨g,2,none⟩=some (.slice mo d d):=ygr.cell 2 rfl;clear hmc hM hMf hMc hHB hml hsd;go_wp2_with fail
        refine hdet.mono ?_;rintro e w5 ⟨hE5,ud,rfl,hud⟩;obtain⟨s5,a5,n5,c5,d5,m5,e5,rfl⟩:=hud.shape;have yg5:=ygr.ext0 hE5;have hE05:=hE04.trans hE5;have k3:w5.cell? ⟨g,3,none⟩=some (.bool false):=yg5.cell 3 rfl;have k4:w5.cell? ⟨g,3+1,none⟩=some (.slice none 0 0):=yg5.cell 4 rfl;have k5:w5.cell? ⟨g,3+2,none⟩=some (.slice none 0 0):=yg5.cell 5 rfl;have f3:=yg5.frozen 3;have f4:w5.frozen? ⟨g,3+1,none⟩=false:=yg5.frozen 4;have f5:w5.frozen? ⟨g,3+2,none⟩=false:=yg5.frozen 5;clear hdet k2;go_upto_region 34 with fail
        obtain⟨x1,x2⟩:=yg5.set345 (.bool s5) (.slice a5 n5 c5) (.slice d5 m5 e5);obtain⟨w6,hw6⟩:∃w6,(((w5.setCell ⟨g,3,none⟩ (.bool s5)).setCell ⟨g,4,none⟩ (.slice a5 n5 c5)).setCell ⟨g,5,none⟩ (.slice d5 m5 e5))=w6:=⟨_,rfl⟩;rw[hw6]at x1 x2 |-;have hbg:b≠g:=by have:=hE0.size;have:=b0.lt;omega
        have b6:=(b0.ext0 (hE0.trans hE05)).ext x2 (a0c hbg);have hE06:Ext W0 w6:=ExtX.box hE05 x2 hb1;clear k3 k4 k5 f3 f4 f5 hw6;go_wp2_with (first|((with_reducible show wpList _ _ _ (⟨_, .load 105 _,_,_,_,_⟩::_) _ _);refine a6p a2S rfl x1 rfl ?_)|((with_reducible show wpList _ _ _ (⟨_, .store 105 _ _,_,_,_,_⟩::_) _ _);refine a0d a2S rfl rfl b6 rfl rfl (b1Z _ _ _ _ _ _ _ _ _ _ _ _ _ _ _ _) ?_;intro w7 r1 r2))
        have hgo:∀q,ob (some ⟨g,0,none⟩) q=true->Y q=true:=fun q hq=>by
         have:g=q:=by simpa[ob]using hq
         rw[<-this];exact hYg
        have hbo:∀q,ob (some ⟨b,0,none⟩) q=true->Y q=true:=fun q hq=>by
         have:b=q:=by simpa[ob]using hq
         rw[<-this];exact hYZ.out b hZb
        have hud7:=QC.mono _ _ _ _ (a1N (X:=X) fun q _ hq=>hYZ.out q (hZX.out q hq)) (QC.mono _ _ _ _ (a0w (X:=Y) r2 hbo) (QC.mono _ _ _ _ (a0w (X:=Y) x2 hgo) hud));rw[<-hRe.out]at hud7;exact bodyPost_ret (a0e rfl rfl a2S r1 rfl) rfl ⟨ExtX.box (hEw.out w6 hE06) r2 hbw,_,_,_,_,_,_,_,_,_,_,_,_,_,_,_,_,rfl,hud7⟩
end Go.Proofs.YtoibhmjjhgaimaaGreat
namespace Go.Lin
abbrev Vec:=Nat->Rat
def dot (c:Nat) (u v:Vec):Rat:=sm c fun j=>u j*v j
def nz (c:Nat) (u:Vec):Prop:=∃j,j<c/\u j≠0
theorem a2e (c:Nat) (u v:Vec):dot c u v=dot c v u:=a0r fun j _=>by grind
theorem b5m (c:Nat) (u v x:Vec):dot c (fun j=>u j+v j) x=dot c u x+dot c v x:=by
 unfold dot;rw[<-a6c];exact a0r fun j _=>by grind
theorem b5n (c:Nat) (a:Rat) (u x:Vec):dot c (fun j=>a*u j) x=a*dot c u x:=by
 unfold dot;rw[<-a3M];exact a0r fun j _=>by grind
theorem a5Q (c:Nat) (u v:Vec) (t:Rat) (x:Vec):dot c (fun j=>u j+t*v j) x=dot c u x+t*dot c v x:=by
 rw[b5m c u (fun j=>t*v j),b5n]
theorem a7M {c:Nat} {u u' v:Vec} (h:∀j,j<c->u j=u' j):dot c u v=dot c u' v:=a0r fun j hj=>by rw[h j hj]
theorem a3H {c:Nat} {u v:Vec} (h:∀j,j<c->u j=0):dot c u v=0:=a4G fun j hj=>by rw[h j hj];grind
theorem b1u {n:Nat} {f:Nat->Rat} (h:∀i,i<n->0<=f i):0<=sm n f:=by
 induction n with
 |zero=>exact Rat.le_refl
 |succ n ih=>unfold sm;have:=ih fun i hi=>h i (by omega);have:=h n (by omega);grind
theorem a8B {n:Nat} {f:Nat->Rat} (h:∀i,i<n->0<=f i) (h0:sm n f=0):∀i,i<n->f i=0:=by
 induction n with
 |zero=>intro i hi;omega
 |succ n ih=>
  unfold sm at h0;have h1:=b1u (n:=n) fun i hi=>h i (by omega);have h2:=h n (by omega);have h3:sm n f=0:=by grind
  have h4:f n=0:=by grind
  intro i hi;by_cases e:i=n
  ·subst e;exact h4
  ·exact ih (fun i hi=>h i (by omega)) h3 i (by omega)
theorem b1v (a:Rat):0<=a*a:=by
 rcases Rat.le_total (a:=0) (b:=a)with h|h
 ·exact Rat.mul_nonneg h h
 ·have:0<=(-a)*(-a):=Rat.mul_nonneg (by grind) (by grind)
  grind
theorem b3d {c:Nat} {u:Vec} (h:dot c u u=0):∀j,j<c->u j=0:=fun j hj=>by
 have:=a8B (fun i _=>b1v (u i)) h j hj;rcases Rat.mul_eq_zero.1 this with e|e<;>exact e
theorem b6u {c:Nat} {u:Vec} (h:¬∀j,j<c->u j=0):nz c u:=by
 apply Classical.byContradiction;intro hn;exact h fun j hj=>Classical.byContradiction fun e=>hn ⟨j,hj,e⟩
theorem nz.not {c:Nat} {u:Vec} (h:nz c u):¬∀j,j<c->u j=0:=fun k=>let ⟨j,hj,e⟩:=h;e (k j hj)
theorem b6v {c:Nat} {u v:Vec} (h:dot c u v≠0):nz c u:=b6u fun k=>h (a3H k)
def a4T (c:Nat) (u:Vec) (z:List Vec):Nat:=z.countP fun v=>decide (0<=dot c u v)
def b0m (c:Nat) (u:Vec) (z:List Vec):Nat:=z.countP fun v=>decide (0<dot c u v)
def onL (c:Nat) (u:Vec) (z:List Vec):List Vec:=z.filter fun v=>decide (dot c u v=0)
def a6a (c:Nat) (z:List Vec) (k:Nat):Prop:=(∃u,nz c u/\a4T c u z=k)/\∀u,nz c u->k<=a4T c u z
theorem b3e (c:Nat) (u:Vec) (z:List Vec):a4T c u z<=z.length:=List.countP_le_length
theorem a6a.le {c:Nat} {z:List Vec} {k:Nat} (h:a6a c z k):k<=z.length:=by
 obtain⟨⟨u,_,h2⟩,_⟩:=h;rw[<-h2];exact b3e _ _ _
def b6N (c:Nat) (u y:Vec) (z:List Vec) (e:Rat):Prop:=∀v∈z,(0<dot c u v->∀t,0<t->t<=e->0<dot c u v+t*dot c y v)/\(dot c u v<0->∀t,0<t->t<=e->dot c u v+t*dot c y v<0)
theorem b6w (a b:Rat):∃e,0<e/\(0<a->∀t,0<t->t<=e->0<a+t*b):=by
 by_cases ha:0<a
 ·by_cases hb:0<=b
  ·exact⟨1,by decide,fun _ t h1 _=>by have:=Rat.mul_nonneg (a:=t) (b:=b) (by grind) hb;grind⟩
  ·have hb':0< -b:=by grind
   refine⟨a/(2* -b),?_,fun _ t h1 h2=>?_⟩
   ·rw[Rat.div_def];exact Rat.mul_pos ha (Rat.inv_pos.2 (by grind))
   ·have h3:t*(2* -b)<=a/(2* -b)*(2* -b):=Rat.mul_le_mul_of_nonneg_right h2 (by grind)
    rw[Rat.div_mul_cancel (by grind)]at h3;have h4:=Rat.mul_pos h1 hb';grind
 ·exact⟨1,by decide,fun h=>absurd h ha⟩
theorem b6N.le {c:Nat} {u y:Vec} {z:List Vec} {e d:Rat} (h:b6N c u y z e) (hd:d<=e):b6N c u y z d:=fun v hv=>
 ⟨fun h1 t h2 h3=>(h v hv).1 h1 t h2 (Rat.le_trans h3 hd),fun h1 t h2 h3=>(h v hv).2 h1 t h2 (Rat.le_trans h3 hd)⟩
theorem b5o (c:Nat) (u y:Vec) (z:List Vec):∃e,0<e/\b6N c u y z e:=by
 induction z with
 |nil=>exact⟨1,by decide,fun v hv=>by simp at hv⟩
 |cons v z ih=>
  obtain⟨e1,h1,h2⟩:=ih;obtain⟨e2,h3,h4⟩:=b6w (dot c u v) (dot c y v);obtain⟨e3,h5,h6⟩:=b6w (-dot c u v) (-dot c y v);obtain⟨e,he,l1,l2,l3⟩:∃e,0<e/\e<=e1/\e<=e2/\e<=e3:=by
   by_cases a:e1<=e2
   ·by_cases b:e1<=e3
    ·exact⟨e1,h1,Rat.le_refl,a,b⟩
    ·exact⟨e3,h5,by grind,by grind,Rat.le_refl⟩
   ·by_cases b:e2<=e3
    ·exact⟨e2,h3,by grind,Rat.le_refl,b⟩
    ·exact⟨e3,h5,by grind,by grind,Rat.le_refl⟩
  refine⟨e,he,fun w hw=>?_⟩;rcases List.mem_cons.1 hw with rfl|hw
  ·refine⟨fun g t g1 g2=>h4 g t g1 (Rat.le_trans g2 l2),fun g t g1 g2=>?_⟩
   have:=h6 (by grind) t g1 (Rat.le_trans g2 l3);grind
  ·exact(h2.le l1) w hw
theorem b1w (c:Nat) (u u' u2:Vec) (z:List Vec) (h:∀v∈z,(0<dot c u v->0<dot c u2 v)/\(dot c u v<0->dot c u2 v<0)/\(dot c u v=0->(0<=dot c u2 v↔0<=dot c u' v))):a4T c u2 z=b0m c u z+a4T c u' (onL c u z):=by
 induction z with
 |nil=>rfl
 |cons v z ih=>
  have ih:=ih fun w hw=>h w (List.mem_cons_of_mem _ hw);obtain⟨h1,h2,h3⟩:=h v List.mem_cons_self;unfold a4T b0m onL at*;rw[List.countP_cons,List.countP_cons,List.filter_cons,ih];by_cases a:0<dot c u v
  ·have b:=h1 a
   rw[if_pos (by simp;grind),if_pos (by simpa using a),if_neg (by simp;grind)];omega
  ·by_cases b:dot c u v=0
   ·have k:=h3 b
    rw[if_neg (c:=decide (0<dot c u v)=true) (by simpa using a),if_pos (c:=decide (dot c u v=0)=true) (by simpa using b),List.countP_cons];by_cases g:0<=dot c u2 v
    ·rw[if_pos (by simpa using g),if_pos (by simpa using k.1 g)];omega
    ·rw[if_neg (by simpa using g),if_neg (by simpa using fun x=>g (k.2 x))];omega
   ·have k:=h2 (by grind)
    rw[if_neg (by simp;grind),if_neg (by simpa using a),if_neg (by simpa using b)];omega
theorem b7Y {c:Nat} {u u':Vec} (hu:nz c u) (z:List Vec):∃u2,nz c u2/\a4T c u2 z=b0m c u z+a4T c u' (onL c u z):=by
 obtain⟨j,hj,hne⟩:=hu;have hun:dot c u (fun i=>if i=j then 1 else 0)=u j:=by
  unfold dot;rw[a3e j hj (fun i _ h=>by simp[h])];simp
 obtain⟨e,he,hc⟩:=b5o c u u' ((fun i=>if i=j then 1 else 0)::z);refine⟨fun i=>u i+e*u' i,?_,b1w c u u' _ z fun v hv=>⟨fun h=>?_,fun h=>?_,fun h=>?_⟩⟩
 ·have hh:=hc _ List.mem_cons_self
  rw[hun]at hh;apply b6v (v:=fun i=>if i=j then 1 else 0);rw[a5Q,hun];by_cases h:0<u j
  ·have:=hh.1 h e he Rat.le_refl;grind
  ·have:=hh.2 (by grind) e he Rat.le_refl;grind
 ·rw[a5Q];exact(hc v (List.mem_cons_of_mem _ hv)).1 h e he Rat.le_refl
 ·rw[a5Q];exact(hc v (List.mem_cons_of_mem _ hv)).2 h e he Rat.le_refl
 ·rw[a5Q,h]
  constructor
  ·intro h2
   apply Classical.byContradiction;intro h3;have:=Rat.mul_pos he (show 0< - dot c u' v by grind);grind
  ·intro h2;have:=Rat.mul_nonneg (Rat.le_of_lt he) h2;grind
def Ort (c:Nat) (M:List Vec) (y:Vec):Prop:=∀v∈M,dot c v y=0
theorem Ort.app {c:Nat} {M L:List Vec} {y:Vec}:Ort c (M++L) y↔Ort c M y/\Ort c L y:=by
 constructor
 ·exact fun h=>⟨fun v hv=>h v (List.mem_append_left _ hv),fun v hv=>h v (List.mem_append_right _ hv)⟩
 ·rintro ⟨h1,h2⟩ v hv
  rcases List.mem_append.1 hv with hv|hv
  ·exact h1 v hv
  ·exact h2 v hv
theorem a7e (c:Nat) (v u y:Vec) (t:Rat):dot c v (fun j=>u j+t*y j)=dot c v u+t*dot c v y:=by
 rw[a2e,a5Q,a2e c u v,a2e c y v]
theorem Ort.lin {c:Nat} {M:List Vec} {u y:Vec} (t:Rat) (hu:Ort c M u) (hy:Ort c M y):Ort c M (fun j=>u j+t*y j):=fun v hv=>by
 rw[a7e,hu v hv,hy v hv];grind
theorem Ort.congr {c:Nat} {M:List Vec} {u y:Vec} (h:∀j,j<c->u j=y j) (hu:Ort c M u):Ort c M y:=fun v hv=>by
 rw[a2e,<-a7M h,a2e];exact hu v hv
theorem b5p (c k:Nat) (f:F2) (a:Vec) (v:Vec):dot c v (fun j=>cmb k f a j)=sm k fun i=>a i*dot c v (f i):=by
 unfold dot cmb;rw[a0r (g:=fun j=>sm k fun i=>v j*(a i*f i j)) fun j _=>(a3M k (v j) _).symm,b0n];exact a0r fun i _=>by rw[<-a3M];exact a0r fun j _=>by grind
structure Basis (c:Nat) (P:Vec->Prop) (k:Nat) (f:F2):Prop where
 mem:∀i,i<k->P (f i)
 li:LI k c f
 span:∀y,P y->∃a:Vec,∀j,j<c->y j=cmb k f a j
theorem b1x {k m c:Nat} {f g:F2} (hf:LI k c f) (h:∀i,i<k->∃a:Vec,∀j,j<c->f i j=cmb m g a j):k<=m:=by
 obtain⟨r,p,d,hr,h1⟩:=a7Z k c f;have h2:=hf.full hr h1;have h3:∀i,∃a:Vec,i<k->∀j,j<c->f i j=cmb m g a j:=fun i=>by
  by_cases hi:i<k
  ·obtain⟨a,ha⟩:=h i hi;exact⟨a,fun _=>ha⟩
  ·exact⟨fun _=>0,fun h=>absurd h hi⟩
 have:=b4p hr h1 (fun i=>(h3 i).choose) g fun i hi j hj=>(h3 i).choose_spec hi j hj;omega
theorem Basis.le {c:Nat} {P Q:Vec->Prop} {k m:Nat} {f g:F2} (h:Basis c P k f) (h':Basis c Q m g) (hPQ:∀y,P y->Q y):k<=m:=
 b1x h.li fun i hi=>h'.span _ (hPQ _ (h.mem i hi))
theorem b3f {n c:Nat} {r:F2} {p:List Nat} (h:Rref n c r p) {x:Vec} (hx:Nul n c r x) (j:Nat) (hj:j<c):x j=cmb (a3K r p c).length (ent (a3K r p c)) (fun i=>x (((List.range c).filter (· ∉p)).getD i 0)) j:=by
 obtain⟨F,hF⟩:∃F,(List.range c).filter (· ∉p)=F:=⟨_,rfl⟩;have hlen:(a3K r p c).length=F.length:=by rw[<-hF];simp[a3K]
 have he:∀i (hi:i<F.length),ent (a3K r p c) i j=nv r p F[i] j:=fun i hi=>by
  unfold ent a3K;rw[hF,List.getD_eq_getElem?_getD (l:=List.map _ _),List.getElem?_map,List.getElem?_eq_getElem hi];simp only[Option.map_some,Option.getD_some];rw[List.getD_eq_getElem?_getD,List.getElem?_map,List.getElem?_range hj];rfl
 have hFm:∀q,q∈F↔q<c/\q∉p:=fun q=>by rw[<-hF];simp
 have hnd:F.Pairwise (· < ·):=by rw[<-hF];exact List.Pairwise.filter _ List.pairwise_lt_range
 have hgd:∀i (hi:i<F.length),F.getD i 0=F[i]:=fun i hi=>by simp[List.getD_eq_getElem?_getD,hi]
 rw[hF,hlen];unfold cmb;rw[a0r (g:=fun i=>x (F.getD i 0)*nv r p (F.getD i 0) j) fun i hi=>by rw[he i hi];dsimp only;rw[hgd i hi]];by_cases hjp:j∈p
 ·obtain⟨i0,hi0,rfl⟩:=List.getElem_of_mem hjp
  have hn:∀q,q∉p->nv r p q p[i0]= - r i0 q:=fun q hq=>h.nv_piv hq i0 hi0;have hrow:=h.row i0 hi0 x;have h0:=hx i0 (by have:=h.le;omega);rw[hrow]at h0;have key:∀(g:Nat->Rat),sm F.length (fun i=>g (F.getD i 0))=sm c (fun q=>if q∈p then 0 else g q):=fun g=>by
   have gen:∀(k:Nat) (G:List Nat),G=(List.range k).filter (· ∉p)->sm G.length (fun i=>g (G.getD i 0))=sm k (fun q=>if q∈p then 0 else g q):=by
    intro k
    induction k with
    |zero=>intro G hG;subst hG;rfl
    |succ k ih=>
     intro G hG;rw[List.range_succ,List.filter_append]at hG;have ih:=ih _ rfl
     show _=sm k _+_
     by_cases hk:k∈p
     ·have:(List.filter (· ∉p) [k])= []:=by simp[hk]
      rw[this,List.append_nil]at hG;subst hG;rw[ih];simp[hk];grind
     ·have:(List.filter (· ∉p) [k])= [k]:=by simp[hk]
      rw[this]at hG;subst hG;obtain⟨H,hH⟩:∃H,List.filter (· ∉p) (List.range k)=H:=⟨_,rfl⟩;rw[hH]at ih |-;rw[List.length_append,<-ih]
      show sm H.length _+_=_
      congr 1
      ·exact a0r fun i hi=>by simp[List.getD_eq_getElem?_getD,List.getElem?_append_left hi]
      ·simp[hk,List.getD_eq_getElem?_getD]
   exact gen c F hF.symm
  have k1:=key (fun q=>x q* - r i0 q);have k2:sm c (fun q=>if q∈p then 0 else x q* - r i0 q)= - sm c (fun q=>if q∈p then 0 else r i0 q*x q):=by
   have:=a3M c (-1) (fun q=>if q∈p then 0 else r i0 q*x q);rw[show -sm c (fun q=>if q∈p then 0 else r i0 q*x q)= -1*sm c (fun q=>if q∈p then 0 else r i0 q*x q)by grind,<-this];exact a0r fun q _=>by split<;>grind
  have k3:sm F.length (fun i=>x (F.getD i 0)*nv r p (F.getD i 0) p[i0])=sm F.length (fun i=>x (F.getD i 0)* - r i0 (F.getD i 0)):=a0r fun i hi=>by
   rw[hgd i hi,hn _ ((hFm _).1 (List.getElem_mem hi)).2]
  rw[k3,k1,k2];grind
 ·obtain⟨i0,hi0,hij⟩:=List.getElem_of_mem ((hFm j).2 ⟨hj,hjp⟩)
  rw[a3e i0 hi0 fun i hi hne=>by
   rw[hgd i hi];have:F[i]≠j:=fun e=>by
    rw[List.pairwise_iff_getElem]at hnd;rcases Nat.lt_or_gt_of_ne hne with a|a
    ·have:=hnd i i0 hi hi0 a;omega
    ·have:=hnd i0 i hi0 hi a;omega
   rw[a5u hjp (Ne.symm this)];grind]
  rw[hgd i0 hi0,hij,a4H];grind
theorem b0c {n c:Nat} {f r:F2} {p:List Nat} {d:Rat} (hr:Rref n c r p) (h:RE n c f r d):Basis c (Nul n c f) (a3K r p c).length (ent (a3K r p c)):=by
 refine⟨fun i hi=>?_,b2p r p c,fun y hy=>⟨_,fun j hj=>b3f hr ((h.nul y).1 hy) j hj⟩⟩;have hi':i<((List.range c).filter (· ∉p)).length:=by simpa[a3K]using hi
 have hm:=List.getElem_mem hi';rw[List.mem_filter,List.mem_range]at hm;have hnp:((List.range c).filter (· ∉p))[i]∉p:=by simpa using hm.2
 have h1:=(h.nul _).2 (hr.nv_nul hnp hm.1);intro q hq;rw[<-h1 q hq];refine a0r fun j hj=>?_
 congr 1
 unfold ent a3K;rw[List.getD_eq_getElem?_getD (l:=List.map _ _),List.getElem?_map,List.getElem?_eq_getElem hi'];simp only[Option.map_some,Option.getD_some];rw[List.getD_eq_getElem?_getD,List.getElem?_map,List.getElem?_range hj];rfl
def fL (M:List Vec):F2:=fun i=>M.getD i fun _=>0
theorem b5q (c:Nat) (M:List Vec) (y:Vec):Ort c M y↔Nul M.length c (fL M) y:=by
 constructor
 ·intro h i hi
  have:=h M[i] (List.getElem_mem hi);unfold dot at this;rw[<-this];exact a0r fun j _=>by simp[fL,List.getD_eq_getElem?_getD,hi]
 ·intro h v hv
  obtain⟨i,hi,rfl⟩:=List.getElem_of_mem hv;have:=h i hi;unfold dot;rw[<-this];exact a0r fun j _=>by simp[fL,List.getD_eq_getElem?_getD,hi]
def Dim (c:Nat) (M:List Vec) (k:Nat):Prop:=∃f,Basis c (Ort c M) k f
theorem Basis.of_iff {c:Nat} {P Q:Vec->Prop} {k:Nat} {f:F2} (h:Basis c P k f) (hPQ:∀y,P y↔Q y):Basis c Q k f:=
 ⟨fun i hi=>(hPQ _).1 (h.mem i hi),h.li,fun y hy=>h.span y ((hPQ y).2 hy)⟩
theorem b1y (c:Nat) (M:List Vec):∃k,Dim c M k:=by
 obtain⟨r,p,d,hr,h⟩:=a7Z M.length c (fL M);exact⟨_,_,(b0c hr h).of_iff fun y=>(b5q c M y).symm⟩
theorem Dim.iff {c:Nat} {M L:List Vec} {k:Nat} (h:Dim c M k) (hML:∀y,Ort c M y↔Ort c L y):Dim c L k:=let ⟨f,hf⟩:=h;⟨f,hf.of_iff hML⟩
theorem Dim.more {c:Nat} {M:List Vec} {k:Nat} (h:Dim c M (k+1)) {v y:Vec} (hy:Ort c M y) (hv:dot c v y≠0):Dim c (M++[v]) k:=by
 obtain⟨f,hf⟩:=h;obtain⟨m,g,hg⟩:=b1y c (M++[v]);have hext:∀a j,cmb (m+1) (fun i=>if i<m then g i else y) a j=cmb m g a j+a m*y j:=fun a j=>by
  unfold cmb
  show sm m _+_=_
  congr 1
  ·exact a0r fun i hi=>by simp[hi]
  ·simp
 have hgo:∀i,i<m->Ort c M (g i)/\dot c v (g i)=0:=fun i hi=>by
  have:=Ort.app.1 (hg.mem i hi);exact⟨this.1,this.2 v (by simp)⟩
 have h1:m+1<=k+1:=by
  refine b1x (c:=c) (f:=fun i=>if i<m then g i else y) (g:=f) (fun a ha=>?_) fun i hi=>?_
  ·have h0:dot c v (fun j=>cmb m g a j+a m*y j)=0:=by
    rw[a2e];exact a3H fun j hj=>by rw[<-hext];exact ha j hj
   rw[a7e c v (fun j=>cmb m g a j) y (a m),b5p,a4G fun i hi=>by rw[(hgo i hi).2];grind]at h0;have ham:a m=0:=by
    have:a m*dot c v y=0:=by grind
    rcases Rat.mul_eq_zero.1 this with e|e
    ·exact e
    ·contradiction
   have h2:=hg.li a fun j hj=>by have:=ha j hj;rw[hext,ham]at this;grind
   intro i hi;by_cases e:i=m
   ·subst e;exact ham
   ·exact h2 i (by omega)
  ·by_cases hi':i<m
   ·obtain⟨a,ha⟩:=hf.span _ (hgo i hi').1
    exact⟨a,fun j hj=>by simp only[hi',if_true];exact ha j hj⟩
   ·obtain⟨a,ha⟩:=hf.span _ hy
    exact⟨a,fun j hj=>by simp only[hi',if_false];exact ha j hj⟩
 have h2:k+1<=m+1:=by
  refine b1x (c:=c) (f:=f) (g:=fun i=>if i<m then g i else y) hf.li fun i hi=>?_;have hfi:=hf.mem i hi;obtain⟨t,ht⟩:∃t,dot c v (f i)/dot c v y=t:=⟨_,rfl⟩;have ht2:t*dot c v y=dot c v (f i):=by rw[<-ht];exact Rat.div_mul_cancel hv
  obtain⟨a,ha⟩:=hg.span (fun j=>f i j+ -t*y j) (Ort.app.2 ⟨hfi.lin (-t) hy,fun w hw=>by
   have:w=v:=by simpa using hw
   subst this;rw[a7e];grind⟩)
  refine⟨fun q=>if q<m then a q else t,fun j hj=>?_⟩;rw[hext];have h3:=ha j hj;have h4:cmb m g (fun q=>if q<m then a q else t) j=cmb m g a j:=a0r fun q hq=>by simp[hq]
  simp only[Nat.lt_irrefl,if_false];rw[h4];grind
 have:m=k:=by omega
 subst this;exact⟨g,hg⟩
theorem Dim.one {c:Nat} {M:List Vec} (h:Dim c M 1) {x:Vec} (hx:Ort c M x) (hn:nz c x) (y:Vec) (hy:Ort c M y):∃t:Rat,∀j,j<c->y j=t*x j:=by
 obtain⟨f,hf⟩:=h;obtain⟨a,ha⟩:=hf.span x hx;obtain⟨b,hb⟩:=hf.span y hy;have h1:∀(a:Vec) j,cmb 1 f a j=a 0*f 0 j:=fun a j=>by unfold cmb sm sm;grind
 have ha0:a 0≠0:=fun e=>hn.not fun j hj=>by rw[ha j hj,h1,e];grind
 refine⟨b 0/a 0,fun j hj=>?_⟩;rw[hb j hj,ha j hj,h1,h1,<-Rat.mul_assoc,Rat.div_mul_cancel ha0]
theorem Dim.two {c k:Nat} {M:List Vec} (h:Dim c M (k+2)) (x:Vec):∃y,Ort c M y/\∀t:Rat,¬∀j,j<c->y j=t*x j:=by
 apply Classical.byContradiction;intro hn;have hall:∀y,Ort c M y->∃t:Rat,∀j,j<c->y j=t*x j:=fun y hy=>Classical.byContradiction fun h2=>hn ⟨y,hy,fun t ht=>h2 ⟨t,ht⟩⟩;obtain⟨f,hf⟩:=h;have:=b1x (m:=1) (g:=fun _=>x) hf.li fun i hi=>by
  obtain⟨t,ht⟩:=hall _ (hf.mem i hi);exact⟨fun _=>t,fun j hj=>by rw[ht j hj];unfold cmb sm sm;grind⟩
 omega
def z0:Vec:=fun _=>0
def b6x (z:List Vec) (I:List Nat):List Vec:=I.map fun i=>z.getD i z0
theorem b1z {c:Nat} {u x:Vec} (h:∀j,j<c->u j=x j) (z:List Vec):b0m c u z=b0m c x z/\onL c u z=onL c x z/\a4T c u z=a4T c x z:=by
 have:∀v,dot c u v=dot c x v:=fun v=>a7M h;unfold b0m onL a4T;simp only[this];exact⟨trivial,trivial,trivial⟩
def a6b (c:Nat):List Vec->Vec->Bool
 | [],_=>true
 |u::us,v=>decide (0<dot c u v)||(decide (dot c u v=0)&&a6b c us v)
def b4f (c:Nat) (us:List Vec) (z:List Vec):Nat:=z.countP fun v=>a6b c us v
theorem a7N (c:Nat) (u:Vec) (us z:List Vec):b4f c (u::us) z=b0m c u z+b4f c us (onL c u z):=by
 induction z with
 |nil=>rfl
 |cons v z ih=>
  unfold b4f b0m onL at*;rw[List.countP_cons,List.countP_cons,List.filter_cons,ih];by_cases a:0<dot c u v
  ·rw[if_pos (by simp[a6b,a]),if_pos (by simpa using a),if_neg (by simp;grind)];omega
  ·by_cases b:dot c u v=0
   ·rw[if_neg (c:=decide (0<dot c u v)=true) (by simpa using a),if_pos (c:=decide (dot c u v=0)=true) (by simpa using b),List.countP_cons]
    have e:a6b c (u::us) v=a6b c us v:=by simp[a6b,b]
    rw[e];omega
   ·rw[if_neg (by simp[a6b,a,b]),if_neg (by simpa using a),if_neg (by simpa using b)];omega
theorem a6w {c:Nat} {v:Vec} (h:¬nz c v):∀us:List Vec,a6b c us v=true
 | []=>rfl
 |u::us=>by
  have h0:dot c u v=0:=by
   rw[a2e];exact a3H fun j hj=>Classical.byContradiction fun e=>h ⟨j,hj,e⟩
  simp[a6b,h0,a6w h us]
open Classical in
noncomputable def nzL (c:Nat) (z:List Vec):List Vec:=z.filter fun v=>decide (nz c v)
open Classical in
theorem a6x {c:Nat} {p:Vec->Bool} (hp:∀v,¬nz c v->p v=true) (z:List Vec):z.countP p=(nzL c z).countP p+(z.length - (nzL c z).length):=by
 induction z with
 |nil=>rfl
 |cons v z ih=>
  have hle:(nzL c z).length<=z.length:=List.length_filter_le ..;unfold nzL at*;rw[List.filter_cons,List.countP_cons];by_cases h:nz c v
  ·rw[if_pos (c:=decide (nz c v)=true) (by simpa using h),List.countP_cons,List.length_cons,List.length_cons,ih];omega
  ·rw[if_neg (c:=decide (nz c v)=true) (by simpa using h),List.length_cons,if_pos (hp v h),ih];omega
theorem b3g (c:Nat) (us z:List Vec):b4f c us z=b4f c us (nzL c z)+(z.length - (nzL c z).length):=a6x (fun _ h=>a6w h us) z
theorem a7O (c:Nat) (u:Vec) (z:List Vec):a4T c u z=a4T c u (nzL c z)+(z.length - (nzL c z).length):=a6x (fun v h=>by
 have h0:dot c u v=0:=by rw[a2e];exact a3H fun j hj=>Classical.byContradiction fun e=>h ⟨j,hj,e⟩
 simp[h0]) z
theorem a6a.nzL {c k:Nat} {z:List Vec} (h:a6a c (nzL c z) k):a6a c z (k+(z.length - (nzL c z).length)):=by
 obtain⟨⟨u,h1,h2⟩,h3⟩:=h;refine⟨⟨u,h1,by rw[a7O,h2]⟩,fun v hv=>?_⟩;rw[a7O];have:=h3 v hv;omega
structure Wit (c:Nat) (z:List Vec) (n:Nat) (us:List Vec):Prop where
 head:∃u t,us=u::t/\nz c u
 cnt:b4f c us z=n
 few:∀k,Dim c z k->us.length+k<=c\/us.length=1
theorem Wit.one {c:Nat} {z:List Vec} {u:Vec} (hu:nz c u) (ho:onL c u z= []):Wit c z (b0m c u z) [u]:=
 ⟨⟨u,[],rfl,hu⟩,by rw[a7N,ho];rfl,fun _ _=>Or.inr rfl⟩
theorem Dim.lt {c k m:Nat} {z L:List Vec} {u:Vec} (h:Dim c z k) (h':Dim c L m) (hs:∀v∈L,v∈z) (hu:Ort c L u) (hn:∃v∈z,dot c v u≠0):k<m:=by
 obtain⟨v,hv,hne⟩:=hn;rcases m with _|m
 ·obtain⟨f,hf⟩:=h'
  obtain⟨a,ha⟩:=hf.span u hu;exact absurd (by rw[a2e];exact a3H fun j hj=>by rw[ha j hj];rfl) hne
 ·obtain⟨g,hg⟩:=h'.more hu hne
  obtain⟨f,hf⟩:=h;have:=hf.le hg fun y hy=>Ort.app.2 ⟨fun x hx=>hy x (hs x hx),fun x hx=>by simp at hx;subst hx;exact hy _ hv⟩;omega
theorem Dim.lt_c {c k:Nat} {z:List Vec} (h:Dim c z k) (hz:∃v∈z,nz c v):k<c:=by
 obtain⟨v,hv,hn⟩:=hz;obtain⟨m,hm⟩:=b1y c [];have h1:=h.lt hm (by simp) (u:=v) (by simp[Ort]) ⟨v,hv,fun e=>hn.not (b3d e)⟩;obtain⟨f,hf⟩:=hm;have:=b1x (m:=c) (g:=fun i j=>if j=i then 1 else 0) hf.li fun i _=>⟨f i,fun j hj=>by unfold cmb;rw[a3e j hj fun i _ hi=>by simp[Ne.symm hi]];simp⟩;omega
theorem Wit.more {c l:Nat} {z us:List Vec} {u:Vec} (hu:nz c u) (h:Wit c (onL c u z) l us) (ho:∃v∈onL c u z,nz c v) (hn:∃v∈z,dot c v u≠0):Wit c z (b0m c u z+l) (u::us):=
 ⟨⟨u,us,rfl,hu⟩,by rw[a7N,h.cnt],fun k hk=>by
  obtain⟨m,hm⟩:=b1y c (onL c u z);have h1:=hk.lt hm (fun v hv=>(List.mem_filter.1 hv).1) (u:=u) (fun v hv=>by rw[a2e];simpa using(List.mem_filter.1 hv).2) hn;have h2:=hm.lt_c ho;rcases h.few m hm with h3|h3
  ·left;simp;omega
  ·left;simp;omega⟩
def b3h (c:Nat) (z O:List Vec) (cnt:Nat) (I:List Nat):Prop:=Dim c (b6x z I++O) 1->∀x,nz c x->Ort c (b6x z I++O) x->∀l,a6a c (onL c x z) l->cnt<=b0m c x z+l
theorem b3h.le {c:Nat} {z O:List Vec} {m n:Nat} {I:List Nat} (h:b3h c z O n I) (hm:m<=n):b3h c z O m I:=fun h1 x h2 h3 l h4=>Nat.le_trans hm (h h1 x h2 h3 l h4)
def vec (l:List Rat):Vec:=fun j=>l.getD j 0
def a4C (m:Mat):List Vec:=m.map vec
section
variable {n c:Nat} {m:Mat} (hs:Shp n c m)
include hs
end
end Go.Lin
namespace Go.Lin
theorem a8C {z:Mat} {p:List Rat->Bool} {q:Vec->Bool} (h:∀r∈z,p r=q (vec r)):a4C (z.filter p)=(a4C z).filter q:=by
 unfold a4C;rw[List.filter_map];exact congrArg _ (List.filter_congr fun r hr=>h r hr)
def b1A (r:List Rat):Bool:=r.all fun x=>decide (x=0)
theorem b4g {c:Nat} {r:List Rat} (hr:r.length=c):nz c (vec r)↔b1A r=false:=by
 constructor
 ·rintro ⟨j,hj,hne⟩
  rw[<-Bool.not_eq_true];intro h;unfold b1A at h;rw[List.all_eq_true]at h;have hj':j<r.length:=by omega
  have:=h r[j] (List.getElem_mem hj');apply hne;unfold vec;rw[List.getD_eq_getElem?_getD,List.getElem?_eq_getElem hj'];simpa using this
 ·intro h
  apply b6u;intro hz;rw[<-Bool.not_eq_true]at h;apply h;unfold b1A;rw[List.all_eq_true];intro x hx;obtain⟨j,hj,rfl⟩:=List.getElem_of_mem hx;have:=hz j (by omega);unfold vec at this;rw[List.getD_eq_getElem?_getD,List.getElem?_eq_getElem hj]at this;simpa using this
def a6y (z:Mat):Mat:=z.filter fun r=> !b1A r
theorem a5R {n c:Nat} {z:Mat} (hs:Shp n c z):a4C (a6y z)=nzL c (a4C z):=a8C fun r hr=>by
 by_cases h:b1A r=false
 ·rw[h];have:=(b4g (hs.2 r hr)).2 h;simp[this]
 ·have h2:¬nz c (vec r):=fun k=>h ((b4g (hs.2 r hr)).1 k)
  simp[h2];simpa using h
def b5r (c:Nat) (z:Mat) (cnt:Nat) (us:Mat):Prop:=(cnt=z.length+1/\us= [])\/Wit c (a4C z) cnt (a4C us)
section
variable {n c:Nat} {z:Mat} (hs:Shp n c z) (hz:∀v∈a4C z,nz c v) (hne:z≠[])
include hs hz hne
end
theorem b7Z {n c cnt:Nat} {z us:Mat} (hs:Shp n c z) (h:a6a c (a4C (a6y z)) cnt) (hw:Wit c (a4C (a6y z)) cnt (a4C us)):
  a6a c (a4C z) (cnt+(z.length - (a6y z).length))/\Wit c (a4C z) (cnt+(z.length - (a6y z).length)) (a4C us):=by
 have e:(a6y z).length=(nzL c (a4C z)).length:=by rw[<-a5R hs];simp[a4C]
 have e2:z.length=(a4C z).length:=by simp[a4C]
 rw[e,e2];rw[a5R hs]at h hw;refine⟨h.nzL,hw.head,by rw[b3g,hw.cnt],fun k hk=>hw.few k (hk.iff fun y=>⟨fun hy v hv=>hy v (List.mem_filter.1 hv).1,fun hy v hv=>?_⟩)⟩;by_cases hn:nz c v
 ·exact hy v (List.mem_filter.2 ⟨hv,by simpa using hn⟩)
 ·exact a3H fun j hj=>Classical.byContradiction fun e=>hn ⟨j,hj,e⟩
end Go.Lin
namespace Go.Lin
open Go.Lim
theorem HB.app {B:Nat} {a b:Mat} (ha:HB B a) (hb:HB B b):HB B (a++b):=by
 intro i j;unfold ent;by_cases hi:i<a.length
 ·rw[show(a++b).getD i []=a.getD i []by simp[List.getD_eq_getElem?_getD,List.getElem?_append_left hi]];exact ha i j
 ·rw[show(a++b).getD i []=b.getD (i - a.length) []by simp[List.getD_eq_getElem?_getD,List.getElem?_append_right (Nat.le_of_not_lt hi)]];exact hb _ j
def b7g (c:Nat) (p:Mat) (x:List Rat):Mat:=p.map fun r=>(List.range c).map fun j=>r.getD j 0 - x.getD j 0
open Go.Rep
def a7P {α:Type} (m:List (List α)) (lo hi:Nat):Bool:=decide (∀i (h:i<m.length),m[i].length=a0L m/\lo<=m[i].length/\m[i].length<=hi)
theorem a4U {α:Type} {m:List (List α)} {lo hi:Nat}:a7P m lo hi=true↔∀i (h:i<m.length),m[i].length=a0L m/\lo<=m[i].length/\m[i].length<=hi:=by unfold a7P;simp
theorem a8D {α:Type} {m:List (List α)} {lo hi:Nat} (i:Nat) (h:i<m.length) (hn:¬(m[i].length=a0L m/\lo<=m[i].length/\m[i].length<=hi)):false=a7P m lo hi:=by
 symm;cases hs:a7P m lo hi
 ·rfl
 ·exact absurd (a4U.1 hs i h) hn
def a3B {α:Type} (m:List (List α)):Bool:=decide (1<=m.length)&&(decide (m.length<=64)&&a7P m 1 3)
theorem a1J {α:Type} {m:List (List α)}:a3B m=true↔1<=m.length/\m.length<=64/\1<=a0L m/\a0L m<=3/\∀i (h:i<m.length),m[i].length=a0L m:=by
 unfold a3B;simp only[Bool.and_eq_true,decide_eq_true_eq,a4U];constructor
 ·rintro ⟨h1,h2,h3⟩
  have h4:=h3 0 (by omega);exact⟨h1,h2,by omega,by omega,fun i h=>(h3 i h).1⟩
 ·rintro ⟨h1,h2,h3,h4,h5⟩
  exact⟨h1,h2,fun i h=>⟨h5 i h,by rw[h5 i h];exact h3,by rw[h5 i h];exact h4⟩⟩
theorem a9v {m:Mat} (h:a3B m=true):Shp m.length (a0L m) m:=by
 refine⟨rfl,fun r hr=>?_⟩;obtain⟨i,hi,rfl⟩:=List.getElem_of_mem hr;exact(a1J.1 h).2.2.2.2 i hi
end Go.Lin
namespace Go.Proofs.YtoibhmjjhgaimaaGreat
open Go.RowKit Go.Rep Go.Lim Go.Lin
set_option maxRecDepth 100000 in
theorem b1B {R:Mem->Value->Rat->Prop} (X:Nat->Bool) (w:World) (u:Value) (m:List (List Rat)) (lo hi:Nat) (hu:SlV (SlV R 3) 1 (mk X w) u m) (hl:m.length<=1099511627776):Calls Tryz.prog 105 #[u, .int .i64 (lo:Int), .int .i64 (hi:Int)] w (fun e w'=>w'=w/\e= .returned (.bool (a7P m lo hi))):=by
 obtain⟨ao,ca,rfl,hca,hsa⟩:=hu;have hha:=hsa.hd;go_enter Tryz.func105,Tryz.ntmps105
 go_wp2_with fail
 go_loop [11] (fun c=>∃(i:Nat),c= .int .i64 i/\i<=m.length/\Hid (∀q,q<i->∀hq:q<m.length,m[q].length=a0L m/\lo<=m[q].length/\m[q].length<=hi)) (fun c=>m.length - (intOf c).toNat)
 case atStart=>exact⟨0,rfl,Nat.zero_le _,fun q hq=>by omega⟩
 case round=>
  obtain⟨i,rfl,hi',hok⟩:=hrel;by_cases hlt:i<m.length
  ·have h0:0<m.length:=by omega
   obtain⟨a1,c1,hX1,hc1,hcl1,hq1⟩:=hsa.row i hlt;obtain⟨a2,c2,hX2,hc2,hcl2,hq2⟩:=hsa.row 0 h0;have k00:=hc1.out noY w (ExtX.refl _) rfl;have k10:=hc2.out noY w (ExtX.refl _) rfl;have hcol:=a2g h0;have hno:=hid (a8D (lo:=lo) (hi:=hi) i hlt);rw[<-hcol]at k10;obtain⟨x,hx⟩:∃x,m[i].length=x:=⟨_,rfl⟩;obtain⟨y,hy⟩:∃y,a0L m=y:=⟨_,rfl⟩;rw[hx]at k00 hno;rw[hy]at k10 hno;have hst:Hid (x=y/\lo<=x/\x<=hi->∀hq:i<m.length,m[i].length=a0L m/\lo<=m[i].length/\m[i].length<=hi):=hid fun h hq=>by rw[hx,hy];exact h
   clear hx hy hcol hc1 hc2 hq1 hq2 hcl1 hcl2;by_cases hxy:x=y
   ·have d2:((x:Int) !=(y:Int))=false:=b2t (by omega)
    by_cases hx0:x<lo
    ·have d0:(x:Int)<(lo:Int):=by omega
     have hv:=hid (hno.out (by omega));clear hxy;go_wp2_with (with_reducible refine a0o a0A (by omega) (by assumption) ?_)
     go_ret
     exact⟨rfl,a0j hv.out⟩
    ·have d0:¬(x:Int)<(lo:Int):=by omega
     by_cases hx1:hi<x
     ·have d1:(hi:Int)<(x:Int):=by omega
      have hv:=hid (hno.out (by omega));clear hxy;go_wp2_with (with_reducible refine a0o a0A (by omega) (by assumption) ?_)
      go_ret
      exact⟨rfl,a0j hv.out⟩
     ·have d1:¬(hi:Int)<(x:Int):=by omega
      have hst2:=hid (hst.out ⟨hxy,by omega,by omega⟩);clear hxy;go_wp2_with (with_reducible refine a0o a0A (by omega) (by assumption) ?_)
      go_round
      case rel=>exact⟨i+1,by go_num,by omega,a0Y hok.out hst2.out⟩
      case measure=>simp[intOf];omega
   ·have d2:((x:Int) !=(y:Int))=true:=a7i (by omega)
    have hv:=hid (hno.out (by omega));clear hxy;go_wp2_with (with_reducible refine a0o a0A (by omega) (by assumption) ?_)
    go_ret
    exact⟨rfl,a0j hv.out⟩
  ·have hv:Hid (true=a7P m lo hi):=hid (by
    symm;exact a4U.2 fun q hq=>hok.out q (by omega) hq)
   go_wp2_with fail
   go_ret
   exact⟨rfl,a0j hv.out⟩
theorem a5S {R:Mem->Value->Rat->Prop} (X:Nat->Bool) (w:World) (u:Value) (m:List (List Rat)) (hu:SlV (SlV R 3) 1 (mk X w) u m) (hl:m.length<=1099511627776):Calls Tryz.prog 61 #[u] w (fun e w'=>w'=w/\e= .returned (.bool (a3B m))):=by
 have hsa:=b1B X w u m 1 3 hu hl;obtain⟨ao,ca,rfl,hca,_⟩:=hu;by_cases h1:m.length<1
 ·have d1:¬(1:Int)<=(m.length:Int):=by omega
  have hv:Hid (false=a3B m):=hid (by unfold a3B;rw[decide_eq_false (by omega)];rfl);go_enter Tryz.func61,Tryz.ntmps61
  go_wp2_with fail
  go_ret
  exact⟨rfl,a0j hv.out⟩
 ·have d1:(1:Int)<=(m.length:Int):=by omega
  by_cases h2:m.length<=64
  ·have d2:(m.length:Int)<=64:=by omega
   have hv:Hid (a7P m 1 3=a3B m):=hid (by unfold a3B;rw[decide_eq_true h2,decide_eq_true (by omega)];rfl);go_enter Tryz.func61,Tryz.ntmps61
   go_wp2_with fail
   refine hsa.mono ?_;rintro e w1 ⟨rfl,rfl⟩;go_wp2_with fail
   go_ret
   exact⟨rfl,a0j hv.out⟩
  ·have d2:¬(m.length:Int)<=64:=by omega
   have hv:Hid (false=a3B m):=hid (by unfold a3B;rw[decide_eq_false h2,Bool.false_and,Bool.and_false]);go_enter Tryz.func61,Tryz.ntmps61
   go_wp2_with fail
   go_ret
   exact⟨rfl,a0j hv.out⟩
end Go.Proofs.YtoibhmjjhgaimaaGreat
