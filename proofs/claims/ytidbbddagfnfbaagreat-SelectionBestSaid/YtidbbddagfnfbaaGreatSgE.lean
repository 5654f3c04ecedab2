/- Parts of a proof: each theorem states what it proves, and its conditions. -/
import Derived.Test.YtidbbddagfnfbaaGreatSgD
import Derived.Deep.RegionHeld3
import Derived.Deep.RegionWith
namespace Go.Rep
open Go.RowKit Go.Lim
def ZV (h:Mem) (u:Value) (z:Int):Prop:=∃s ao c l,u= .agg #[.bool s, .slice ao l.length c]/\l.length<=c/\Dig l/\l.length<=549755813888/\Sl (a0c .u32) 1 h ao l/\a7K s l=z
def ZC (h:Mem) (u:Value) (z:Int):Prop:=∃s ao c l,u= .agg #[.bool s, .slice ao l.length c]/\l.length<=c/\a5K s l z/\Sl (a0c .u32) 1 h ao l
theorem ZV.mono:a3E ZV:=by rintro h i u x a ⟨s,ao,c,l,rfl,g,e,f,d,b⟩;exact⟨s,ao,c,l,rfl,g,e,f,d.mono (a0c.mono _) a,b⟩
theorem ZC.mono:a3E ZC:=by rintro h f u x a ⟨s,ao,c,l,rfl,e,b,d⟩;exact⟨s,ao,c,l,rfl,e,b,d.mono (a0c.mono _) a⟩
theorem ZC.zv {h:Mem} {u:Value} {z:Int} (d:ZC h u z) (b:lg z.natAbs<=549755813888):ZV h u z:=by
 obtain⟨s,ao,c,l,rfl,f,a,e⟩:=d;exact⟨s,ao,c,l,rfl,f,a.2.1,by rw[a.len];exact b,e,a.val⟩
theorem ZC.zero (h:Mem):ZC h (.agg #[.bool false, .slice none 0 0]) 0:=⟨false,none,0,[],rfl,Nat.le_refl _,a5K.zero,Sl.nil _ _ _ _⟩
theorem ZV.lg {h:Mem} {u:Value} {z:Int} (b:ZV h u z):lg z.natAbs<=549755813888:=by
 obtain⟨s,ao,c,l,rfl,f,a,d,e,rfl⟩:=b;exact Nat.le_trans (b8d s l a) d
end Go.Rep
namespace Go.Proofs.YtidbbddagfnfbaaGreat
open Go.RowKit Go.Rep Go.Lim
theorem a7r (X:Nat->Bool) (w:World) (s:Bool) (ao:Option Addr) (c:Nat) (l:List Nat) (m:Sl (a0c .u32) 1 (mk X w) ao l) (n:l.length<=549755813888):Calls Tryz.prog 278 #[.agg #[.bool s, .slice ao l.length c]] w fun e j=>Ext w j/\e= .returned (.bool (a1r s l)):=by
 have h:Ext w (w.alloc (.cells #[.bool s, .slice ao l.length c] 43)):=(ExtX.refl w).alloc _;have a:=m.mono (a0c.mono _) (a0l h);have d:Hid (a1r s l=(a1B l&&(decide (0<l.length)|| !s))):=hid rfl;cases g:a1B l
 ·have i:Hid (a1r s l=false):=hid (by rw[d.out,g];rfl)
  have b:=hid g;clear g;go_enter Tryz.func278,Tryz.ntmps278
  go_wp2_with fail
  refine(a2k X _ _ _ _ a (by omega)).mono ?_;rintro e j ⟨rfl,rfl⟩;rw[b.out];go_wp2_with fail
  go_ret
  exact⟨h,a0j i.out.symm⟩
 ·have i:Hid (a1r s l=(decide (0<l.length)|| !s)):=hid (by rw[d.out,g];rfl)
  have b:=hid g;clear g;by_cases k:0<l.length
  ·have o:(0:Int)<(l.length:Int):=by omega
   have f:Hid (a1r s l=true):=hid (by rw[i.out,decide_eq_true k];rfl);go_enter Tryz.func278,Tryz.ntmps278
   go_wp2_with fail
   refine(a2k X _ _ _ _ a (by omega)).mono ?_;rintro e j ⟨rfl,rfl⟩;rw[b.out];go_wp2_with fail
   go_ret
   exact⟨h,a0j f.out.symm⟩
  ·have f:Hid (a1r s l= !s):=hid (by rw[i.out,decide_eq_false k];rfl)
   obtain rfl:l= []:=List.eq_nil_of_length_eq_zero (by omega);clear k i;simp only[List.length_nil]at h a |-;go_enter Tryz.func278,Tryz.ntmps278
   go_wp2_with fail
   refine(a2k X _ [] _ _ a (by simp)).mono ?_;rintro e j ⟨rfl,rfl⟩;rw[b.out];go_wp2_with fail
   go_ret
   exact⟨h,a0j f.out.symm⟩
theorem a0I:a1D Tryz.prog 43 2:=by
 have h:(Tryz.prog.info? 43).map (fun i=>(i.zero,i.size,i.bytes))=some (some (.agg #[.bool false, .slice none 0 0]),2,32):=by kernel_rfl
 obtain⟨b,c,_,a,_⟩:=info_parts h;exact⟨_,b,Tryz.underlying43,c,a⟩
theorem a2U (s:Bool) (ao:Option Addr) (n c:Nat):∀v∈(#[Value.bool s, .slice ao n c]:Array Value).toList,v.oneCell'=true:=by
 intro v a;simp at a;rcases a with rfl|rfl<;>rfl
def a0e (X:Nat->Bool) (lo nb:Nat):Nat->Bool:=fun k=>X k||(decide (lo<=k)&&decide (k<lo+nb))
theorem a2L {X:Nat->Bool} {lo nb k:Nat} (b:lo<=k) (a:k<lo+nb):a0e X lo nb k=true:=by simp[a0e,b,a]
theorem a7s {X:Nat->Bool} {lo nb k:Nat} (h:X k=true):a0e X lo nb k=true:=by simp[a0e,h]
theorem _root_.Go.Rep.HX.boxes {X:Nat->Bool} {w a:World} {nb:Nat} (h:HX X w) (d:a.heap.size=w.heap.size+nb):HX (a0e X w.heap.size nb) a:=fun k c=>by
 by_cases b:X k=true
 ·have:=h k b;omega
 ·simp[a0e,b]at c;omega
theorem _root_.Go.Rep.HX.boxes' {X:Nat->Bool} {w a:World} {b nb:Nat} (h:HX X w) (e:Ext w a) (f:b+nb<=a.heap.size) (_:w.heap.size+nb<=a.heap.size):HX (a0e X b nb) a:=fun k d=>by
 by_cases c:X k=true
 ·exact Nat.lt_of_lt_of_le (h k c) e.size
 ·simp[a0e,c]at d;omega
theorem a0o {X:Nat->Bool} {w a:World} {nb:Nat} (d:Ext w a):Le (mk X w) (mk (a0e X w.heap.size nb) a):=
 a0T d (fun k _ b=>by simp[noY]at b) fun k b e=>by
  by_cases c:X k=true
  ·exact c
  ·simp[a0e,c]at e;omega
theorem a0n {X:Nat->Bool} {w:World} {lo nb:Nat}:Le (mk (a0e X lo nb) w) (mk X w):=a1u fun _ _ a=>a7s a
theorem a0h {X:Nat->Bool} {w a:World} {lo nb b:Nat} (f:ExtX (ob (some ⟨b,0,none⟩)) w a) (d:lo<=b) (g:b<lo+nb):Le (mk (a0e X lo nb) w) (mk (a0e X lo nb) a):=
 a0w f fun k c=>by
  have e:b=k:=by simpa[ob]using c
  subst e;exact a2L d g
theorem ExtX.box {a w c:World} {b:Nat} (h:Ext a w) (d:ExtX (ob (some ⟨b,0,none⟩)) w c) (e:a.heap.size<=b):Ext a c:=
 h.then_ d fun i hi _=>a0b (by omega)
theorem a2q {X:Nat->Bool} {w a:World} {b nb:Nat} {o r q u:Value} {T U:TypeId} (s:Bx a b #[o,r] T) (n:Bx a (b+1) #[q,u] U) (j:Ext w a) (m:w.heap.size<=b) (x:2<=nb) (v0 v1 u0 i:Value):
  ∃c,((((a.setCell ⟨b,0,none⟩ v0).setCell ⟨b,1,none⟩ v1).setCell ⟨b+1,0,none⟩ u0).setCell ⟨b+1,1,none⟩ i)=c/\Bx c b #[v0,v1] T/\Bx c (b+1) #[u0,i] U/\(∀k f V,k≠b->k≠b+1->Bx a k f V->Bx c k f V)/\Ext w c/\Le (mk (a0e X b nb) a) (mk (a0e X b nb) c):=by
 obtain⟨l,d⟩:=s.set2 v0 v1;have g:=n.ext d (a0b (by omega));obtain⟨p,e⟩:=g.set2 u0 i;refine⟨_,rfl,l.ext e (a0b (by omega)),p,fun k f V v t h=>(h.ext d (a0b v)).ext e (a0b t),ExtX.box (ExtX.box j d m) e (by omega),(a0h d (Nat.le_refl _) (by omega)).trans (a0h e (by omega) (by omega))⟩
set_option maxRecDepth 100000 in
theorem a5O (X:Nat->Bool) (w:World) (u:Value) (z:Int) (A:HX X w) (H:ZV (mk X w) u z):Calls Tryz.prog 230 #[u] w (a1Z X w ZC z):=by
 obtain⟨s,ao,c,l,rfl,J,B,y,G,rfl⟩:=H;obtain⟨W,m⟩:∃W,(w.alloc (.cells #[.bool s, .slice ao l.length c] 43)).alloc (.cells #[.bool false, .slice none 0 0] 43)=W:=⟨_,rfl⟩;have n:Ext w W:=by rw[<-m];exact((ExtX.refl w).alloc _).alloc _
 have k:Bx W w.heap.size #[.bool s, .slice ao l.length c] 43:=by
  rw[<-m];exact(Bx.new w _ _).ext0 ((ExtX.refl _).alloc _)
 have q:Bx W (w.heap.size+1) #[.bool false, .slice none 0 0] 43:=by
  rw[<-m];have:=Bx.new (w.alloc (.cells #[.bool s, .slice ao l.length c] 43)) #[.bool false, .slice none 0 0] 43;simpa using this
 have K:W.heap.size=w.heap.size+2:=by rw[<-m];simp
 have d:Sl (a0c .u32) 1 (mk (a0e X w.heap.size 2) W) ao l:=G.mono (a0c.mono _) (a0o n);obtain⟨b,C⟩:∃b,w.heap.size=b:=⟨_,rfl⟩;have I:w.heap.size<=b:=by omega
 have D:HX X w:=A;rw[C]at k q K d;have o:=k.cell 0 rfl;have p:=k.cell 1 rfl;cases j:a1r s l
 ·have v:=hid (a5L j)
  have f:=hid j;clear j;go_enter Tryz.func230,Tryz.ntmps230
  go_wp2_with fail
  refine(a7r (a0e X b 2) W s ao c l d y).mono ?_;rintro e E ⟨a,rfl⟩;rw[f.out];have h:=q.ext0 a;clear o p;go_wp2_with ((with_reducible show wpList _ _ _ (⟨_, .store _ _ _,_,_,_,_⟩::_) _ _);refine a0a a0I rfl rfl h rfl rfl (a2U _ _ _ _) ?_;intro F r g)
  exact bodyPost_ret (a0d rfl rfl a0I r rfl) rfl ⟨ExtX.box (n.trans a) g (by omega),_,rfl,by rw[v.out];exact ZC.zero _⟩
 ·have f:=hid j
  clear j;go_enter Tryz.func230,Tryz.ntmps230
  go_wp2_with fail
  refine(a7r (a0e X b 2) W s ao c l d y).mono ?_;rintro e E ⟨a,rfl⟩;rw[f.out];have i:=k.ext0 a;have h:=q.ext0 a;have x:=d.mono (a0c.mono _) (a0l a);clear o p;have o:=i.cell 0 rfl;have p:=i.cell 1 rfl;go_wp2_with ((with_reducible show wpList _ _ _ (⟨_, .store _ _ _,_,_,_,_⟩::_) _ _);refine a0a a0I rfl rfl h rfl rfl (a2U _ _ _ _) ?_;intro F r g)
  have t:=(x.mono (a0c.mono _) (a0h g (by omega) (by omega))).mono (a0c.mono _) a0n;exact bodyPost_ret (a0d rfl rfl a0I r rfl) rfl ⟨ExtX.box (n.trans a) g (by omega),_,rfl,s,ao,c,l,rfl,J,a5K.of_valid B f.out,t⟩
end Go.Proofs.YtidbbddagfnfbaaGreat
namespace Go.Lim
def sg (s:Bool) (n:Nat):Int:=if s then -(n:Int)else n
theorem b2V {s:Bool} {l:List Nat} {n:Nat} (h:a0M l n):a5K (s&&decide (0<l.length)) l (sg s n):=by
 have a:=a1o h;unfold sg;cases s
 ·refine⟨?_,by simpa using h⟩;simp
 ·refine⟨?_,by simpa using h⟩
  rw[Bool.true_and,Bool.eq_iff_iff];simp only[decide_eq_true_eq,if_true];omega
theorem a7t (s:Bool) (n:Nat):(sg s n).natAbs=n:=by unfold sg;split<;>simp
theorem a3V {s:Bool} {l:List Nat} {z:Int} (h:a5K s l z):sg s z.natAbs=z:=by
 unfold sg;rw[h.1];by_cases a:z<0
 ·simp only[a,decide_true,if_true];omega
 ·simp only[a,decide_false,Bool.false_eq_true,if_false];omega
end Go.Lim
namespace Go.Proofs.YtidbbddagfnfbaaGreat
open Go.RowKit Go.Rep Go.Lim
theorem a2M (X:Nat->Bool) (w:World) (s:Bool) (u:Value) (n:Nat) (_:HX X w) (q:NC (mk X w) u n):Calls Tryz.prog 240 #[.bool s,u] w (a1Z X w ZC (sg s n)):=by
 obtain⟨ao,c,l,rfl,j,p,v⟩:=q;obtain⟨W,o⟩:∃W,w.alloc (.cells #[.bool false, .slice none 0 0] 43)=W:=⟨_,rfl⟩;have i:Ext w W:=by rw[<-o];exact(ExtX.refl w).alloc _
 have h:Bx W w.heap.size #[.bool false, .slice none 0 0] 43:=by rw[<-o];exact Bx.new w _ _
 have e:Sl (a0c .u32) 1 (mk (a0e X w.heap.size 1) W) ao l:=v.mono (a0c.mono _) (a0o i);obtain⟨b,t⟩:∃b,w.heap.size=b:=⟨_,rfl⟩;have r:w.heap.size<=b:=by omega
 rw[t]at h e;have a:Hid (a5K (s&&decide (0<l.length)) l (sg s n)):=hid (b2V p);cases s
 ·rw[Bool.false_and]at a
  go_enter Tryz.func240,Tryz.ntmps240
  go_wp2_with ((with_reducible show wpList _ _ _ (⟨_, .store _ _ _,_,_,_,_⟩::_) _ _);refine a0a a0I rfl rfl h rfl rfl (a2U _ _ _ _) ?_;intro m g d)
  have f:=(e.mono (a0c.mono _) (a0h d (by omega) (by omega))).mono (a0c.mono _) a0n;exact bodyPost_ret (a0d rfl rfl a0I g rfl) rfl ⟨ExtX.box i d (by omega),_,rfl,_,ao,c,l,rfl,j,a.out,f⟩
 ·rw[Bool.true_and]at a
  by_cases k:0<l.length
  ·rw[decide_eq_true k]at a
   go_enter Tryz.func240,Tryz.ntmps240
   go_wp2_with ((with_reducible show wpList _ _ _ (⟨_, .store _ _ _,_,_,_,_⟩::_) _ _);refine a0a a0I rfl rfl h rfl rfl (a2U _ _ _ _) ?_;intro m g d)
   have f:=(e.mono (a0c.mono _) (a0h d (by omega) (by omega))).mono (a0c.mono _) a0n;exact bodyPost_ret (a0d rfl rfl a0I g rfl) rfl ⟨ExtX.box i d (by omega),_,rfl,_,ao,c,l,rfl,j,a.out,f⟩
  ·rw[decide_eq_false k]at a
   obtain rfl:l= []:=List.eq_nil_of_length_eq_zero (by omega);clear k;simp only[List.length_nil]at j a e |-;go_enter Tryz.func240,Tryz.ntmps240
   go_wp2_with ((with_reducible show wpList _ _ _ (⟨_, .store _ _ _,_,_,_,_⟩::_) _ _);refine a0a a0I rfl rfl h rfl rfl (a2U _ _ _ _) ?_;intro m g d)
   have f:=(e.mono (a0c.mono _) (a0h d (by omega) (by omega))).mono (a0c.mono _) a0n;exact bodyPost_ret (a0d rfl rfl a0I g rfl) rfl ⟨ExtX.box i d (by omega),_,rfl,_,ao,c,[],rfl,j,a.out,f⟩
theorem b8z (X:Nat->Bool) (w:World) (u:Value) (z:Int) (J:HX X w) (Z:ZC (mk X w) u z) (hn:lg z.natAbs<=549755813888):Calls Tryz.prog 291 #[u] w (a1Z X w ZC z):=by
 obtain⟨s,ao,c,l,rfl,h1,o,h3⟩:=Z;obtain⟨W,p⟩:∃W,(w.alloc (.cells #[.bool s, .slice ao l.length c] 43)).alloc (.cells #[.bool false, .slice none 0 0] 43)=W:=⟨_,rfl⟩;have D:Ext w W:=by rw[<-p];exact((ExtX.refl w).alloc _).alloc _
 have m:Bx W w.heap.size #[.bool s, .slice ao l.length c] 43:=by
  rw[<-p];exact(Bx.new w _ _).ext0 ((ExtX.refl _).alloc _)
 have g:Bx W (w.heap.size+1) #[.bool false, .slice none 0 0] 43:=by
  rw[<-p];have:=Bx.new (w.alloc (.cells #[.bool s, .slice ao l.length c] 43)) #[.bool false, .slice none 0 0] 43;simpa using this
 have I:W.heap.size=w.heap.size+2:=by rw[<-p];simp
 have i:HX (a0e X w.heap.size 2) W:=J.boxes I;have n:NV (mk (a0e X w.heap.size 2) W) (.slice ao l.length c) z.natAbs:=⟨ao,c,l,rfl,h1,o.2.1,by rw[o.len];omega,h3.mono (a0c.mono _) (a0o D),o.2.val⟩;obtain⟨b,R⟩:∃b,w.heap.size=b:=⟨_,rfl⟩;have a0:w.heap.size<=b:=by omega
 rw[R]at m g I i n;have N:=m.cell 0 rfl;have P:=m.cell 1 rfl;have y:=hid (a3V o);have x:∀M,NV M (.slice none 0 0) 0:=fun M=>⟨none,0,[],rfl,Nat.le_refl _,Dig.nil,by simp,Sl.nil _ _ _ _,by simp[val,vl,nv]⟩;go_enter Tryz.func291,Tryz.ntmps291
 go_wp2_with fail
 have c2:=g.cell 0 rfl;have V:=g.cell 1 rfl;have T:=g.frozen 0;have U:=g.frozen 1;have a:Ext W W.drew:=(ExtX.refl W).drew;have j:Hid (∀W',Ext W.drew W'->W'.cell? ⟨b,0,none⟩=some (.bool s)/\W'.cell? ⟨b,1,none⟩=some (.slice ao l.length c)/\W'.cell? ⟨b+1,0,none⟩=some (.bool false)/\W'.cell? ⟨b+1,1,none⟩=some (.slice none 0 0)/\W'.frozen? ⟨b+1,0,none⟩=false/\W'.frozen? ⟨b+1,1,none⟩=false):=
  hid fun W' h=>⟨(m.ext0 (a.trans h)).cell 0 rfl,(m.ext0 (a.trans h)).cell 1 rfl,(g.ext0 (a.trans h)).cell 0 rfl,(g.ext0 (a.trans h)).cell 1 rfl,(g.ext0 (a.trans h)).frozen 0,(g.ext0 (a.trans h)).frozen 1⟩
 go_region_held3 (fun B=>B.cell? ⟨b,0,none⟩=some (.bool s)/\B.cell? ⟨b,1,none⟩=some (.slice ao l.length c))
  (first|exact⟨(j.out _ d).1,(j.out _ d).2.1⟩|exact⟨(j.out _ (d.trans f)).1,(j.out _ (d.trans f)).2.1⟩|go_keep)
  (first|(go_at_call 194;refine(c1q (X:=a0e X b 2) (w:=W.drew) i n (x _)).mono ?_;rintro e S ⟨d,u5,rfl,t⟩)|(go_at_call 240;refine(a2M (a0e X b 2) S s u5 (z.natAbs+0) (HX.ext (w:=W.drew) i d) t).mono ?_;rintro e O ⟨f,u6,rfl,H,G,C,E,rfl,q,k,r⟩;obtain⟨Q,L,g3,g4,g5,Y⟩:=j.out O (d.trans f)))
 obtain⟨K,F⟩:=(g.ext0 ((a.trans d).trans f)).set2 (.bool H) (.slice G E.length C);have h7:=(r.mono (a0c.mono _) (a0h F (by omega) (by omega))).mono (a0c.mono _) a0n;have v:sg s (z.natAbs+0)=z:=y.out;rw[v]at k;have A:Ext w _:=ExtX.box (D.trans ((a.trans d).trans f)) F (by omega);clear N P c2 V T U j Q L g3 g4 g5 Y;go_wp2_with fail
 exact bodyPost_ret (a0d rfl rfl a0I K rfl) rfl ⟨A,_,rfl,H,G,C,E,rfl,q,k,h7⟩
theorem a6y (X:Nat->Bool) (w:World) (s:Bool) (ao:Option Addr) (c:Nat) (l:List Nat) (m:Sl (a0c .u32) 1 (mk X w) ao l) (n:l.length<=549755813888):Calls Tryz.prog 252 #[.agg #[.bool s, .slice ao l.length c]] w fun e j=>Ext w j/\e= .returned (.bool (a1r s l)):=by
 have i:Ext w (w.alloc (.cells #[.bool s, .slice ao l.length c] 43)):=(ExtX.refl w).alloc _;have b:=m.mono (a0c.mono _) (a0l i);have a:Hid (a1r s l=(a1B l&&(decide (0<l.length)|| !s))):=hid rfl;cases h:a1B l
 ·have g:Hid (a1r s l=false):=hid (by rw[a.out,h];rfl)
  have d:=hid h;clear h;go_enter Tryz.func252,Tryz.ntmps252
  go_wp2_with fail
  refine(a2e X _ _ _ _ b (by omega)).mono ?_;rintro e j ⟨rfl,rfl⟩;rw[d.out];go_wp2_with fail
  go_ret
  exact⟨i,a0j g.out.symm⟩
 ·have g:Hid (a1r s l=(decide (0<l.length)|| !s)):=hid (by rw[a.out,h];rfl)
  have d:=hid h;clear h;cases s
  ·have f:Hid (a1r false l=true):=hid (by rw[g.out];simp)
   clear g a;go_enter Tryz.func252,Tryz.ntmps252
   go_wp2_with fail
   refine(a2e X _ _ _ _ b (by omega)).mono ?_;rintro e j ⟨rfl,rfl⟩;rw[d.out];go_wp2_with fail
   go_ret
   exact⟨i,a0j f.out.symm⟩
  ·by_cases k:0<l.length
   ·have f:Hid (a1r true l=true):=hid (by rw[g.out,decide_eq_true k];rfl)
    have o:((l.length:Int)==0)=false:=a2w (by omega);clear g a;go_enter Tryz.func252,Tryz.ntmps252
    go_wp2_with fail
    refine(a2e X _ _ _ _ b (by omega)).mono ?_;rintro e j ⟨rfl,rfl⟩;rw[d.out];go_wp2_with fail
    go_ret
    exact⟨i,a0j f.out.symm⟩
   ·have f:Hid (a1r true l=false):=hid (by rw[g.out,decide_eq_false k];rfl)
    obtain rfl:l= []:=List.eq_nil_of_length_eq_zero (by omega);clear k g a;simp only[List.length_nil]at i b |-;go_enter Tryz.func252,Tryz.ntmps252
    go_wp2_with fail
    refine(a2e X _ [] _ _ b (by simp)).mono ?_;rintro e j ⟨rfl,rfl⟩;rw[d.out];go_wp2_with fail
    go_ret
    exact⟨i,a0j f.out.symm⟩
set_option maxRecDepth 100000 in
theorem a3W (X:Nat->Bool) (w:World) (u:Value) (z:Int) (N:HX X w) (hu:ZV (mk X w) u z):Calls Tryz.prog 187 #[u] w (a1Z X w ZC z):=by
 obtain⟨s,ao,c,l,rfl,h1,O,S,h4,rfl⟩:=hu;obtain⟨W,y⟩:∃W,(w.alloc (.cells #[.bool s, .slice ao l.length c] 43)).alloc (.cells #[.bool false, .slice none 0 0] 43)=W:=⟨_,rfl⟩;have r:Ext w W:=by rw[<-y];exact((ExtX.refl w).alloc _).alloc _
 have x:Bx W w.heap.size #[.bool s, .slice ao l.length c] 43:=by
  rw[<-y];exact(Bx.new w _ _).ext0 ((ExtX.refl _).alloc _)
 have C:Bx W (w.heap.size+1) #[.bool false, .slice none 0 0] 43:=by
  rw[<-y];have:=Bx.new (w.alloc (.cells #[.bool s, .slice ao l.length c] 43)) #[.bool false, .slice none 0 0] 43;simpa using this
 have hz:W.heap.size=w.heap.size+2:=by rw[<-y];simp
 have i:Sl (a0c .u32) 1 (mk (a0e X w.heap.size 2) W) ao l:=h4.mono (a0c.mono _) (a0o r);obtain⟨b,Y⟩:∃b,w.heap.size=b:=⟨_,rfl⟩;have a0:w.heap.size<=b:=by omega
 have Z:HX X w:=N;rw[Y]at x C hz i;have t:=x.cell 0 rfl;have v:=x.cell 1 rfl;cases q:a1r s l
 ·have H:=hid (a5L q)
  have j:=hid q;clear q;go_enter Tryz.func187,Tryz.ntmps187
  go_wp2_with fail
  refine(a6y (a0e X b 2) W s ao c l i S).mono ?_;rintro e k ⟨a,rfl⟩;rw[j.out];have h:=C.ext0 a;clear t v;go_wp2_with ((with_reducible show wpList _ _ _ (⟨_, .store _ _ _,_,_,_,_⟩::_) _ _);refine a0a a0I rfl rfl h rfl rfl (a2U _ _ _ _) ?_;intro w2 b2 K)
  exact bodyPost_ret (a0d rfl rfl a0I b2 rfl) rfl ⟨ExtX.box (r.trans a) K (by omega),_,rfl,by rw[H.out];exact ZC.zero _⟩
 ·have j:=hid q
  clear q;go_enter Tryz.func187,Tryz.ntmps187
  go_wp2_with fail
  refine(a6y (a0e X b 2) W s ao c l i S).mono ?_;rintro e k ⟨a,rfl⟩;rw[j.out];have n:=x.ext0 a;have h:=C.ext0 a;have E:HX (a0e X b 2) k:=N.boxes' (r.trans a) (by have:=h.lt;omega) (by have:=h.lt;omega);have m:=hid (a5K.of_valid O j.out);have L:NV (mk (a0e X b 2) k) (.slice ao l.length c) (nv l):=⟨ao,c,l,rfl,h1,O,by omega,i.mono (a0c.mono _) (a0l a),by unfold val;rw[a0M.vl m.out.2]⟩;have A:HX (a0e X b 2) k.drew:=E;have B:NV (mk (a0e X b 2) k.drew) (.slice ao l.length c) (nv l):=L;have f:Ext k k.drew:=(ExtX.refl k).drew;have o:=hid (And.intro n h);clear t v;have t:=n.cell 0 rfl;have v:=n.cell 1 rfl;go_wp2_with fail
  go_region_held3 (fun M=>M.cell? ⟨b,0,none⟩=some (.bool s)/\M.cell? ⟨b,1,none⟩=some (.slice ao l.length c))
   (first|exact⟨(o.out.1.ext0 (f.trans g)).cell 0 rfl,(o.out.1.ext0 (f.trans g)).cell 1 rfl⟩|exact⟨((o.out.1.ext0 (f.trans g)).ext (d.set2 _ _).2 (a0b (by omega))).cell 0 rfl,((o.out.1.ext0 (f.trans g)).ext (d.set2 _ _).2 (a0b (by omega))).cell 1 rfl⟩|go_keep)
   (first|(go_at_call 189;(with_reducible refine(a3U A B).mono ?_);rintro e w5 ⟨g,u5,rfl,Q,R,G,rfl,D,F,I⟩;have d:=o.out.2.ext0 (f.trans g);have U:=d.cell 0 rfl;have V:=d.cell 1 rfl;have g3:=d.frozen 0;have g4:=d.frozen 1))
  obtain⟨T,P⟩:=d.set2 (.bool s) (.slice Q G.length R);have h7:=(I.mono (a0c.mono _) (a0h P (by omega) (by omega))).mono (a0c.mono _) a0n;have p:a5K s G (a7K s l):=⟨m.out.1,by rw[<-m.out.2.2.2];exact F⟩;have J:Ext w _:=ExtX.box (r.trans (a.trans (f.trans g))) P (by omega);clear U V g3 g4 t v;go_wp2_with fail
  exact bodyPost_ret (a0d rfl rfl a0I T rfl) rfl ⟨J,_,rfl,s,Q,R,G,rfl,D,p,h7⟩
theorem a1N (X:Nat->Bool) (w:World) (s:Bool) (u:Value) (n:Nat) (_:HX X w) (q:NC (mk X w) u n):Calls Tryz.prog 184 #[.bool s,u] w (a1Z X w ZC (sg s n)):=by
 obtain⟨ao,c,l,rfl,j,p,v⟩:=q;obtain⟨W,o⟩:∃W,w.alloc (.cells #[.bool false, .slice none 0 0] 43)=W:=⟨_,rfl⟩;have i:Ext w W:=by rw[<-o];exact(ExtX.refl w).alloc _
 have h:Bx W w.heap.size #[.bool false, .slice none 0 0] 43:=by rw[<-o];exact Bx.new w _ _
 have e:Sl (a0c .u32) 1 (mk (a0e X w.heap.size 1) W) ao l:=v.mono (a0c.mono _) (a0o i);obtain⟨b,t⟩:∃b,w.heap.size=b:=⟨_,rfl⟩;have r:w.heap.size<=b:=by omega
 rw[t]at h e;have a:Hid (a5K (s&&decide (0<l.length)) l (sg s n)):=hid (b2V p);cases s
 ·rw[Bool.false_and]at a
  go_enter Tryz.func184,Tryz.ntmps184
  go_wp2_with ((with_reducible show wpList _ _ _ (⟨_, .store _ _ _,_,_,_,_⟩::_) _ _);refine a0a a0I rfl rfl h rfl rfl (a2U _ _ _ _) ?_;intro m g d)
  have f:=(e.mono (a0c.mono _) (a0h d (by omega) (by omega))).mono (a0c.mono _) a0n;exact bodyPost_ret (a0d rfl rfl a0I g rfl) rfl ⟨ExtX.box i d (by omega),_,rfl,_,ao,c,l,rfl,j,a.out,f⟩
 ·rw[Bool.true_and]at a
  by_cases k:0<l.length
  ·rw[decide_eq_true k]at a
   go_enter Tryz.func184,Tryz.ntmps184
   go_wp2_with ((with_reducible show wpList _ _ _ (⟨_, .store _ _ _,_,_,_,_⟩::_) _ _);refine a0a a0I rfl rfl h rfl rfl (a2U _ _ _ _) ?_;intro m g d)
   have f:=(e.mono (a0c.mono _) (a0h d (by omega) (by omega))).mono (a0c.mono _) a0n;exact bodyPost_ret (a0d rfl rfl a0I g rfl) rfl ⟨ExtX.box i d (by omega),_,rfl,_,ao,c,l,rfl,j,a.out,f⟩
  ·rw[decide_eq_false k]at a
   obtain rfl:l= []:=List.eq_nil_of_length_eq_zero (by omega);clear k;simp only[List.length_nil]at j a e |-;go_enter Tryz.func184,Tryz.ntmps184
   go_wp2_with ((with_reducible show wpList _ _ _ (⟨_, .store _ _ _,_,_,_,_⟩::_) _ _);refine a0a a0I rfl rfl h rfl rfl (a2U _ _ _ _) ?_;intro m g d)
   have f:=(e.mono (a0c.mono _) (a0h d (by omega) (by omega))).mono (a0c.mono _) a0n;exact bodyPost_ret (a0d rfl rfl a0I g rfl) rfl ⟨ExtX.box i d (by omega),_,rfl,_,ao,c,[],rfl,j,a.out,f⟩
set_option maxRecDepth 100000 in
set_option maxHeartbeats 800000 in
theorem c0j (X:Nat->Bool) (w:World) (u v:Value) (x y:Int) (hX:HX X w) (hu:ZV (mk X w) u x) (hv:ZV (mk X w) v y):Calls Tryz.prog 177 #[u,v] w (a1Z X w ZC (x+y)):=by
 have d2:=hid hu.lg;have e4:=hid hv.lg;obtain⟨s1,a1,c1,l1,rfl,d1⟩:=id hu;obtain⟨s2,a2,c2,l2,rfl,e9⟩:=id hv;obtain⟨W,hW,hE,I,F,b2,hz⟩:=a2D w #[.bool s1, .slice a1 l1.length c1] #[.bool s2, .slice a2 l2.length c2] #[.bool false, .slice none 0 0] 43 43 43;have b4:HX (a0e X w.heap.size 3) W:=hX.boxes hz;have Z:=ZV.mono _ _ _ _ (a0o (nb:=3) hE) hu;have S:=ZV.mono _ _ _ _ (a0o (nb:=3) hE) hv;obtain⟨b,hb⟩:∃b,w.heap.size=b:=⟨_,rfl⟩;have e8:w.heap.size<=b:=by omega
 rw[hb]at I F b2 hz b4 Z S;have f:Ext W W.drew:=(ExtX.refl W).drew;have N:HX (a0e X b 3) W.drew:=b4;have a8:ZV (mk (a0e X b 3) W.drew) (.agg #[.bool s1, .slice a1 l1.length c1]) x:=Z;have a0:ZV (mk (a0e X b 3) W.drew) (.agg #[.bool s2, .slice a2 l2.length c2]) y:=S;have m:=I.cell 0 rfl;have l:=I.cell 1 rfl;have i:=F.cell 0 rfl;have g:=F.cell 1 rfl;clear hu hv d1 e9;go_enter Tryz.func177,Tryz.ntmps177
 go_upto_region 1 with(fail)
 go_cut []from 9 to 12 (fun wx=>∃s a3 c3 l3 G a4 c4 l4,Bx wx b #[.bool s, .slice a3 l3 c3] 43/\Bx wx (b+1) #[.bool G, .slice a4 l4 c4] 43/\Bx wx (b+1+1) #[.bool false, .slice none 0 0] 43/\ZC (mk (a0e X b 3) wx) (.agg #[.bool s, .slice a3 l3 c3]) x/\ZC (mk (a0e X b 3) wx) (.agg #[.bool G, .slice a4 l4 c4]) y/\Ext w wx)
 case first=>
  go_region_with (first|(go_at_call 230;(with_reducible refine(a5O (a0e X b 3) W.drew _ x N a8).mono ?_);rintro e w5 ⟨a,u5,rfl,s5,a5,c5,l5,rfl,b7,e3,f0⟩;have n:=I.ext0 (f.trans a);have o:=F.ext0 (f.trans a);have e6:=n.cell 0 rfl;have d5:=n.cell 1 rfl;have c7:=o.cell 0 rfl;have d8:=o.cell 1 rfl)|(go_at_call 230;(with_reducible refine(a5O (a0e X b 3) w5 _ y (HX.ext N a) (mkx ZV.mono a0 a)).mono ?_);rintro e w6 ⟨c,u6,rfl,D,C,A,B,rfl,p,j,q⟩;have d:=n.ext0 c;have k:=o.ext0 c;have d0:=d.cell 0 rfl;have b9:=d.cell 1 rfl;have e0:=k.cell 0 rfl;have d7:=k.cell 1 rfl;have b6:=d.frozen 0;have f2:=d.frozen 1;have e5:=k.frozen 0;have e7:=k.frozen 1))
  all_goals
   obtain⟨wf,b5,q0,q1,q2,q3,q4⟩:=a2q (X:=X) (nb:=3) d k (hE.trans ((f.trans a).trans c)) e8 (by omega) (.bool s5) (.slice a5 l5.length c5) (.bool D) (.slice C B.length A);rw[b5];have b8:ZC (mk (a0e X b 3) wf) (.agg #[.bool s5, .slice a5 l5.length c5]) x:=⟨s5,a5,c5,l5,rfl,b7,e3,(f0.mono (a0c.mono _) (a0l c)).mono (a0c.mono _) q4⟩;have c8:ZC (mk (a0e X b 3) wf) (.agg #[.bool D, .slice C B.length A]) y:=⟨D,C,A,B,rfl,p,j,q.mono (a0c.mono _) q4⟩;have q5:=q2 (b+1+1) _ _ (by omega) (by omega) ((b2.ext0 (f.trans a)).ext0 c);clear e6 d5 c7 d8 d0 b9 e0 d7 b6 f2 e5 e7 m l i g b5;go_wp2_with fail
   go_meet
   exact⟨_,_,_,_,_,_,_,_,q0,q1,q5,b8,c8,q3⟩
 case rest=>
  clear m l i g I F b2 Z S a8 a0 N f hW;obtain⟨s,a3,c3,n3,G,a4,c4,n4,I,F,b2,hx,hy,E⟩:=hcut;obtain⟨_,_,_,l3,z,f3,L,c9⟩:=hx;simp only[Value.agg.injEq,Array.mk.injEq,List.cons.injEq,Value.bool.injEq,Value.slice.injEq,and_true]at z;obtain⟨rfl,rfl,rfl,rfl⟩:=z;obtain⟨_,_,_,l4,z,d6,V,d3⟩:=hy;simp only[Value.agg.injEq,Array.mk.injEq,List.cons.injEq,Value.bool.injEq,Value.slice.injEq,and_true]at z;obtain⟨rfl,rfl,rfl,rfl⟩:=z;have M:NV (mk (a0e X b 3) wc) (.slice a3 l3.length c3) x.natAbs:=NC.nv ⟨a3,c3,l3,rfl,f3,L.2,c9⟩ (by have:=d2.out;omega);have T:NV (mk (a0e X b 3) wc) (.slice a4 l4.length c4) y.natAbs:=NC.nv ⟨a4,c4,l4,rfl,d6,V.2,d3⟩ (by have:=e4.out;omega);have f7:=hid L.1;have f5:=hid V.1;have c0:w.heap.size+3<=wc.heap.size:=by have:=b2.lt;omega
  have H:HX (a0e X b 3) wc:=hX.boxes' E (by omega) c0;have r:=hid (And.intro I (And.intro F b2));have m:=I.cell 0 rfl;have l:=I.cell 1 rfl;have i:=F.cell 0 rfl;have g:=F.cell 1 rfl;have K:=hid (a3V L);have P:=hid (a3V V);have f:Ext wc wc.drew:=(ExtX.refl wc).drew;have f6:b+1≠b+1+1:=by omega
  have f9:b≠b+1+1:=by omega
  by_cases R:s=G
  ·subst R
   have b3:Hid (sg s (x.natAbs+y.natAbs)=x+y):=hid (by
    have e1:=K.out;have e2:=P.out;unfold sg at*;cases s<;>simp at*<;>omega)
   go_wp2_with fail
   go_region_held3 (fun w'=>w'.cell? ⟨b,0,none⟩=some (.bool s)/\w'.cell? ⟨b,1,none⟩=some (.slice a3 l3.length c3)/\w'.cell? ⟨b+1,1,none⟩=some (.slice a4 l4.length c4))
    (first|exact⟨(r.out.1.ext0 (f.trans a)).cell 0 rfl,(r.out.1.ext0 (f.trans a)).cell 1 rfl,(r.out.2.1.ext0 (f.trans a)).cell 1 rfl⟩|exact⟨(r.out.1.ext0 (f.trans (a.trans c))).cell 0 rfl,(r.out.1.ext0 (f.trans (a.trans c))).cell 1 rfl,(r.out.2.1.ext0 (f.trans (a.trans c))).cell 1 rfl⟩|exact⟨((r.out.1.ext0 (f.trans (a.trans c))).ext (d.set2 _ _).2 (a0b (by omega))).cell 0 rfl,((r.out.1.ext0 (f.trans (a.trans c))).ext (d.set2 _ _).2 (a0b (by omega))).cell 1 rfl,((r.out.2.1.ext0 (f.trans (a.trans c))).ext (d.set2 _ _).2 (a0b (by omega))).cell 1 rfl⟩|go_keep)
    (first|(go_at_call 194;refine(c1q (X:=a0e X b 3) (w:=wc.drew) H M T).mono ?_;rintro e w5 ⟨a,u5,rfl,Y⟩)|(go_at_call 240;refine(a2M (a0e X b 3) w5 s u5 (x.natAbs+y.natAbs) (HX.ext (w:=wc.drew) H a) Y).mono ?_;rintro e w6 ⟨c,u6,rfl,D,C,A,B,rfl,p,j,q⟩;have d:=r.out.2.2.ext0 (f.trans (a.trans c));have g1:=d.cell 0 rfl;have g2:=d.cell 1 rfl;have g3:=d.frozen 0;have g4:=d.frozen 1))
   obtain⟨r1,J⟩:=d.set2 (.bool D) (.slice C B.length A);have h7:=(q.mono (a0c.mono _) (a0h J (by omega) (by omega))).mono (a0c.mono _) a0n;rw[b3.out]at j;have f1:Ext w _:=ExtX.box (E.trans (f.trans (a.trans c))) J (by omega);clear g1 g2 g3 g4 m l i g;go_wp2_with fail
   exact bodyPost_ret (a0d rfl rfl a0I r1 rfl) rfl ⟨f1,_,rfl,D,C,A,B,rfl,p,j,h7⟩
  ·have f4:(s==G)=false:=by simpa using R
   have O:Hid (y.natAbs<=x.natAbs->sg s (x.natAbs - y.natAbs)=x+y):=hid (fun h=>by
    have e1:=K.out;have e2:=P.out;unfold sg at*;cases s<;>cases G<;>simp at*<;>omega)
   have U:Hid (¬y.natAbs<=x.natAbs->sg G (y.natAbs - x.natAbs)=x+y):=hid (fun h=>by
    have e1:=K.out;have e2:=P.out;unfold sg at*;cases s<;>cases G<;>simp at*<;>omega)
   clear R;go_wp2_with fail
   refine(c2c H M T).mono ?_;rintro e w5 ⟨a,u5,rfl,Y⟩;have Q:=H.ext a;have n:=r.out.1.ext0 a;have o:=r.out.2.1.ext0 a;have d:=r.out.2.2.ext0 a;clear m l i g;have m:=n.cell 0 rfl;have l:=n.cell 1 rfl;have i:=o.cell 0 rfl;have g:=o.cell 1 rfl;by_cases t:y.natAbs<=x.natAbs
   ·have hd:decide (y.natAbs<=x.natAbs)=true:=decide_eq_true t
    have hf:=hid (O.out t);rw[hd];clear hd t;go_wp2_with fail
    refine(a2M (a0e X b 3) w5 s u5 _ Q Y).mono ?_;rintro e w6 ⟨c,u6,rfl,D,C,A,B,rfl,p,j,q⟩;have k:=d.ext0 c;clear m l i g;go_wp2_with ((with_reducible show wpList _ _ _ (⟨_, .store _ _ _,_,_,_,_⟩::_) _ _);refine a0a a0I rfl rfl k rfl rfl (a2U _ _ _ _) ?_;intro w7 r1 J)
    have h7:=(q.mono (a0c.mono _) (a0h J (by omega) (by omega))).mono (a0c.mono _) a0n;rw[hf.out]at j;exact bodyPost_ret (a0d rfl rfl a0I r1 rfl) rfl ⟨ExtX.box (E.trans (a.trans c)) J (by omega),_,rfl,D,C,A,B,rfl,p,j,h7⟩
   ·have hd:decide (y.natAbs<=x.natAbs)=false:=decide_eq_false t
    have hf:=hid (U.out t);rw[hd];clear hd t;go_wp2_with fail
    refine(c2c Q (mkx NV.mono T a) (mkx NV.mono M a)).mono ?_;rintro e w6 ⟨c,v5,rfl,d9⟩;have f8:=n.ext0 c;have a7:=o.ext0 c;have d4:=d.ext0 c;clear m l i g;have i:=a7.cell 0 rfl;have g:=a7.cell 1 rfl;go_wp2_with fail
    refine(a2M (a0e X b 3) w6 G v5 _ (Q.ext c) d9).mono ?_;rintro e w7 ⟨a9,u6,rfl,D,C,A,B,rfl,p,j,q⟩;have k:=d4.ext0 a9;clear i g;go_wp2_with ((with_reducible show wpList _ _ _ (⟨_, .store _ _ _,_,_,_,_⟩::_) _ _);refine a0a a0I rfl rfl k rfl rfl (a2U _ _ _ _) ?_;intro w8 r1 J)
    have h7:=(q.mono (a0c.mono _) (a0h J (by omega) (by omega))).mono (a0c.mono _) a0n;rw[hf.out]at j;exact bodyPost_ret (a0d rfl rfl a0I r1 rfl) rfl ⟨ExtX.box (E.trans (a.trans (c.trans a9))) J (by omega),_,rfl,D,C,A,B,rfl,p,j,h7⟩
set_option maxRecDepth 100000 in
set_option maxHeartbeats 800000 in
theorem c1r (X:Nat->Bool) (w:World) (u v:Value) (x y:Int) (hX:HX X w) (hu:ZV (mk X w) u x) (hv:ZV (mk X w) v y):Calls Tryz.prog 135 #[u,v] w (a1Z X w ZC (x+y)):=by
 have d2:=hid hu.lg;have e4:=hid hv.lg;obtain⟨s1,a1,c1,l1,rfl,d1⟩:=id hu;obtain⟨s2,a2,c2,l2,rfl,e9⟩:=id hv;obtain⟨W,hW,hE,I,F,b2,hz⟩:=a2D w #[.bool s1, .slice a1 l1.length c1] #[.bool s2, .slice a2 l2.length c2] #[.bool false, .slice none 0 0] 43 43 43;have b4:HX (a0e X w.heap.size 3) W:=hX.boxes hz;have Z:=ZV.mono _ _ _ _ (a0o (nb:=3) hE) hu;have S:=ZV.mono _ _ _ _ (a0o (nb:=3) hE) hv;obtain⟨b,hb⟩:∃b,w.heap.size=b:=⟨_,rfl⟩;have e8:w.heap.size<=b:=by omega
 rw[hb]at I F b2 hz b4 Z S;have f:Ext W W.drew:=(ExtX.refl W).drew;have N:HX (a0e X b 3) W.drew:=b4;have a8:ZV (mk (a0e X b 3) W.drew) (.agg #[.bool s1, .slice a1 l1.length c1]) x:=Z;have a0:ZV (mk (a0e X b 3) W.drew) (.agg #[.bool s2, .slice a2 l2.length c2]) y:=S;have m:=I.cell 0 rfl;have l:=I.cell 1 rfl;have i:=F.cell 0 rfl;have g:=F.cell 1 rfl;clear hu hv d1 e9;go_enter Tryz.func135,Tryz.ntmps135
 go_upto_region 1 with(fail)
 go_cut []from 9 to 12 (fun wx=>∃s a3 c3 l3 G a4 c4 l4,Bx wx b #[.bool s, .slice a3 l3 c3] 43/\Bx wx (b+1) #[.bool G, .slice a4 l4 c4] 43/\Bx wx (b+1+1) #[.bool false, .slice none 0 0] 43/\ZC (mk (a0e X b 3) wx) (.agg #[.bool s, .slice a3 l3 c3]) x/\ZC (mk (a0e X b 3) wx) (.agg #[.bool G, .slice a4 l4 c4]) y/\Ext w wx)
 case first=>
  go_region_with (first|(go_at_call 187;(with_reducible refine(a3W (a0e X b 3) W.drew _ x N a8).mono ?_);rintro e w5 ⟨a,u5,rfl,s5,a5,c5,l5,rfl,b7,e3,f0⟩;have n:=I.ext0 (f.trans a);have o:=F.ext0 (f.trans a);have e6:=n.cell 0 rfl;have d5:=n.cell 1 rfl;have c7:=o.cell 0 rfl;have d8:=o.cell 1 rfl)|(go_at_call 187;(with_reducible refine(a3W (a0e X b 3) w5 _ y (HX.ext N a) (mkx ZV.mono a0 a)).mono ?_);rintro e w6 ⟨c,u6,rfl,D,C,A,B,rfl,p,j,q⟩;have d:=n.ext0 c;have k:=o.ext0 c;have d0:=d.cell 0 rfl;have b9:=d.cell 1 rfl;have e0:=k.cell 0 rfl;have d7:=k.cell 1 rfl;have b6:=d.frozen 0;have f2:=d.frozen 1;have e5:=k.frozen 0;have e7:=k.frozen 1))
  all_goals
   obtain⟨wf,b5,q0,q1,q2,q3,q4⟩:=a2q (X:=X) (nb:=3) d k (hE.trans ((f.trans a).trans c)) e8 (by omega) (.bool s5) (.slice a5 l5.length c5) (.bool D) (.slice C B.length A);rw[b5];have b8:ZC (mk (a0e X b 3) wf) (.agg #[.bool s5, .slice a5 l5.length c5]) x:=⟨s5,a5,c5,l5,rfl,b7,e3,(f0.mono (a0c.mono _) (a0l c)).mono (a0c.mono _) q4⟩;have c8:ZC (mk (a0e X b 3) wf) (.agg #[.bool D, .slice C B.length A]) y:=⟨D,C,A,B,rfl,p,j,q.mono (a0c.mono _) q4⟩;have q5:=q2 (b+1+1) _ _ (by omega) (by omega) ((b2.ext0 (f.trans a)).ext0 c);clear e6 d5 c7 d8 d0 b9 e0 d7 b6 f2 e5 e7 m l i g b5;go_wp2_with fail
   go_meet
   exact⟨_,_,_,_,_,_,_,_,q0,q1,q5,b8,c8,q3⟩
 case rest=>
  clear m l i g I F b2 Z S a8 a0 N f hW;obtain⟨s,a3,c3,n3,G,a4,c4,n4,I,F,b2,hx,hy,E⟩:=hcut;obtain⟨_,_,_,l3,z,f3,L,c9⟩:=hx;simp only[Value.agg.injEq,Array.mk.injEq,List.cons.injEq,Value.bool.injEq,Value.slice.injEq,and_true]at z;obtain⟨rfl,rfl,rfl,rfl⟩:=z;obtain⟨_,_,_,l4,z,d6,V,d3⟩:=hy;simp only[Value.agg.injEq,Array.mk.injEq,List.cons.injEq,Value.bool.injEq,Value.slice.injEq,and_true]at z;obtain⟨rfl,rfl,rfl,rfl⟩:=z;have M:NV (mk (a0e X b 3) wc) (.slice a3 l3.length c3) x.natAbs:=NC.nv ⟨a3,c3,l3,rfl,f3,L.2,c9⟩ (by have:=d2.out;omega);have T:NV (mk (a0e X b 3) wc) (.slice a4 l4.length c4) y.natAbs:=NC.nv ⟨a4,c4,l4,rfl,d6,V.2,d3⟩ (by have:=e4.out;omega);have f7:=hid L.1;have f5:=hid V.1;have c0:w.heap.size+3<=wc.heap.size:=by have:=b2.lt;omega
  have H:HX (a0e X b 3) wc:=hX.boxes' E (by omega) c0;have r:=hid (And.intro I (And.intro F b2));have m:=I.cell 0 rfl;have l:=I.cell 1 rfl;have i:=F.cell 0 rfl;have g:=F.cell 1 rfl;have K:=hid (a3V L);have P:=hid (a3V V);have f:Ext wc wc.drew:=(ExtX.refl wc).drew;have f6:b+1≠b+1+1:=by omega
  have f9:b≠b+1+1:=by omega
  by_cases R:s=G
  ·subst R
   have b3:Hid (sg s (x.natAbs+y.natAbs)=x+y):=hid (by
    have e1:=K.out;have e2:=P.out;unfold sg at*;cases s<;>simp at*<;>omega)
   go_wp2_with fail
   go_region_held3 (fun w'=>w'.cell? ⟨b,0,none⟩=some (.bool s)/\w'.cell? ⟨b,1,none⟩=some (.slice a3 l3.length c3)/\w'.cell? ⟨b+1,1,none⟩=some (.slice a4 l4.length c4))
    (first|exact⟨(r.out.1.ext0 (f.trans a)).cell 0 rfl,(r.out.1.ext0 (f.trans a)).cell 1 rfl,(r.out.2.1.ext0 (f.trans a)).cell 1 rfl⟩|exact⟨(r.out.1.ext0 (f.trans (a.trans c))).cell 0 rfl,(r.out.1.ext0 (f.trans (a.trans c))).cell 1 rfl,(r.out.2.1.ext0 (f.trans (a.trans c))).cell 1 rfl⟩|exact⟨((r.out.1.ext0 (f.trans (a.trans c))).ext (d.set2 _ _).2 (a0b (by omega))).cell 0 rfl,((r.out.1.ext0 (f.trans (a.trans c))).ext (d.set2 _ _).2 (a0b (by omega))).cell 1 rfl,((r.out.2.1.ext0 (f.trans (a.trans c))).ext (d.set2 _ _).2 (a0b (by omega))).cell 1 rfl⟩|go_keep)
    (first|(go_at_call 185;refine(b5y (X:=a0e X b 3) (w:=wc.drew) H M T).mono ?_;rintro e w5 ⟨a,u5,rfl,Y⟩)|(go_at_call 184;refine(a1N (a0e X b 3) w5 s u5 (x.natAbs+y.natAbs) (HX.ext (w:=wc.drew) H a) Y).mono ?_;rintro e w6 ⟨c,u6,rfl,D,C,A,B,rfl,p,j,q⟩;have d:=r.out.2.2.ext0 (f.trans (a.trans c));have g1:=d.cell 0 rfl;have g2:=d.cell 1 rfl;have g3:=d.frozen 0;have g4:=d.frozen 1))
   obtain⟨r1,J⟩:=d.set2 (.bool D) (.slice C B.length A);have h7:=(q.mono (a0c.mono _) (a0h J (by omega) (by omega))).mono (a0c.mono _) a0n;rw[b3.out]at j;have f1:Ext w _:=ExtX.box (E.trans (f.trans (a.trans c))) J (by omega);clear g1 g2 g3 g4 m l i g;go_wp2_with fail
   exact bodyPost_ret (a0d rfl rfl a0I r1 rfl) rfl ⟨f1,_,rfl,D,C,A,B,rfl,p,j,h7⟩
  ·have f4:(s==G)=false:=by simpa using R
   have O:Hid (y.natAbs<=x.natAbs->sg s (x.natAbs - y.natAbs)=x+y):=hid (fun h=>by
    have e1:=K.out;have e2:=P.out;unfold sg at*;cases s<;>cases G<;>simp at*<;>omega)
   have U:Hid (¬y.natAbs<=x.natAbs->sg G (y.natAbs - x.natAbs)=x+y):=hid (fun h=>by
    have e1:=K.out;have e2:=P.out;unfold sg at*;cases s<;>cases G<;>simp at*<;>omega)
   clear R;go_wp2_with fail
   refine(b8y _ _ _ _ _ _ H M T).mono ?_;rintro e w5 ⟨a,u5,rfl,Y⟩;have Q:=H.ext a;have n:=r.out.1.ext0 a;have o:=r.out.2.1.ext0 a;have d:=r.out.2.2.ext0 a;clear m l i g;have m:=n.cell 0 rfl;have l:=n.cell 1 rfl;have i:=o.cell 0 rfl;have g:=o.cell 1 rfl;by_cases t:y.natAbs<=x.natAbs
   ·have hd:decide (y.natAbs<=x.natAbs)=true:=decide_eq_true t
    have hf:=hid (O.out t);rw[hd];clear hd t;go_wp2_with fail
    refine(a1N (a0e X b 3) w5 s u5 _ Q Y).mono ?_;rintro e w6 ⟨c,u6,rfl,D,C,A,B,rfl,p,j,q⟩;have k:=d.ext0 c;clear m l i g;go_wp2_with ((with_reducible show wpList _ _ _ (⟨_, .store _ _ _,_,_,_,_⟩::_) _ _);refine a0a a0I rfl rfl k rfl rfl (a2U _ _ _ _) ?_;intro w7 r1 J)
    have h7:=(q.mono (a0c.mono _) (a0h J (by omega) (by omega))).mono (a0c.mono _) a0n;rw[hf.out]at j;exact bodyPost_ret (a0d rfl rfl a0I r1 rfl) rfl ⟨ExtX.box (E.trans (a.trans c)) J (by omega),_,rfl,D,C,A,B,rfl,p,j,h7⟩
   ·have hd:decide (y.natAbs<=x.natAbs)=false:=decide_eq_false t
    have hf:=hid (U.out t);rw[hd];clear hd t;go_wp2_with fail
    refine(b8y _ _ _ _ _ _ Q (mkx NV.mono T a) (mkx NV.mono M a)).mono ?_;rintro e w6 ⟨c,v5,rfl,d9⟩;have f8:=n.ext0 c;have a7:=o.ext0 c;have d4:=d.ext0 c;clear m l i g;have i:=a7.cell 0 rfl;have g:=a7.cell 1 rfl;go_wp2_with fail
    refine(a1N (a0e X b 3) w6 G v5 _ (Q.ext c) d9).mono ?_;rintro e w7 ⟨a9,u6,rfl,D,C,A,B,rfl,p,j,q⟩;have k:=d4.ext0 a9;clear i g;go_wp2_with ((with_reducible show wpList _ _ _ (⟨_, .store _ _ _,_,_,_,_⟩::_) _ _);refine a0a a0I rfl rfl k rfl rfl (a2U _ _ _ _) ?_;intro w8 r1 J)
    have h7:=(q.mono (a0c.mono _) (a0h J (by omega) (by omega))).mono (a0c.mono _) a0n;rw[hf.out]at j;exact bodyPost_ret (a0d rfl rfl a0I r1 rfl) rfl ⟨ExtX.box (E.trans (a.trans (c.trans a9))) J (by omega),_,rfl,D,C,A,B,rfl,p,j,h7⟩
set_option maxRecDepth 100000 in
set_option maxHeartbeats 800000 in
theorem c1j (X:Nat->Bool) (w:World) (u v:Value) (x y:Int) (hX:HX X w) (hu:ZV (mk X w) u x) (hv:ZV (mk X w) v y):Calls Tryz.prog 209 #[u,v] w (a1Z X w ZC (x*y)):=by
 have d5:=hid hu.lg;have e6:=hid hv.lg;obtain⟨s1,a1,c1,l1,rfl,d4⟩:=id hu;obtain⟨s2,a2,c2,l2,rfl,f2⟩:=id hv;obtain⟨W,hW,hE,T,K,b2,hz⟩:=a2D w #[.bool s1, .slice a1 l1.length c1] #[.bool s2, .slice a2 l2.length c2] #[.bool false, .slice none 0 0] 43 43 43;have b7:HX (a0e X w.heap.size 3) W:=hX.boxes hz;have a9:=ZV.mono _ _ _ _ (a0o (nb:=3) hE) hu;have a7:=ZV.mono _ _ _ _ (a0o (nb:=3) hE) hv;obtain⟨b,hb⟩:∃b,w.heap.size=b:=⟨_,rfl⟩;have f1:w.heap.size<=b:=by omega
 rw[hb]at T K b2 hz b7 a9 a7;have c:Ext W W.drew:=(ExtX.refl W).drew;have a0:HX (a0e X b 3) W.drew:=b7;have b5:ZV (mk (a0e X b 3) W.drew) (.agg #[.bool s1, .slice a1 l1.length c1]) x:=a9;have b4:ZV (mk (a0e X b 3) W.drew) (.agg #[.bool s2, .slice a2 l2.length c2]) y:=a7;have s:=T.cell 0 rfl;have r:=T.cell 1 rfl;have o:=K.cell 0 rfl;have n:=K.cell 1 rfl;clear hu hv d4 f2;go_enter Tryz.func209,Tryz.ntmps209
 go_upto_region 1 with(fail)
 go_cut []from 5 to 8 (fun wx=>∃s3 M O J s4 L P N,Bx wx b #[.bool s3, .slice M J O] 43/\Bx wx (b+1) #[.bool s4, .slice L N P] 43/\Bx wx (b+1+1) #[.bool false, .slice none 0 0] 43/\ZC (mk (a0e X b 3) wx) (.agg #[.bool s3, .slice M J O]) x/\ZC (mk (a0e X b 3) wx) (.agg #[.bool s4, .slice L N P]) y/\Ext w wx)
 case first=>
  go_region_with (first|(go_at_call 230;(with_reducible refine(a5O (a0e X b 3) W.drew _ x a0 b5).mono ?_);rintro e R ⟨a,U,rfl,s5,a5,c5,l5,rfl,c0,e5,f3⟩;have Y:=T.ext0 (c.trans a);have Z:=K.ext0 (c.trans a);have e8:=Y.cell 0 rfl;have d8:=Y.cell 1 rfl;have d0:=Z.cell 0 rfl;have e3:=Z.cell 1 rfl)|(go_at_call 230;(with_reducible refine(a5O (a0e X b 3) R _ y (HX.ext a0 a) (mkx ZV.mono b4 a)).mono ?_);rintro e w6 ⟨d,u6,rfl,A,t,p,q,rfl,k,h,l⟩;have f:=Y.ext0 d;have G:=Z.ext0 d;have d3:=f.cell 0 rfl;have c8:=f.cell 1 rfl;have e4:=G.cell 0 rfl;have e0:=G.cell 1 rfl;have b9:=f.frozen 0;have f4:=f.frozen 1;have e7:=G.frozen 0;have f0:=G.frozen 1))
  all_goals
   obtain⟨wf,b8,q0,q1,q2,q3,q4⟩:=a2q (X:=X) (nb:=3) f G (hE.trans ((c.trans a).trans d)) f1 (by omega) (.bool s5) (.slice a5 l5.length c5) (.bool A) (.slice t q.length p);rw[b8];have c7:ZC (mk (a0e X b 3) wf) (.agg #[.bool s5, .slice a5 l5.length c5]) x:=⟨s5,a5,c5,l5,rfl,c0,e5,(f3.mono (a0c.mono _) (a0l d)).mono (a0c.mono _) q4⟩;have d1:ZC (mk (a0e X b 3) wf) (.agg #[.bool A, .slice t q.length p]) y:=⟨A,t,p,q,rfl,k,h,l.mono (a0c.mono _) q4⟩;have q5:=q2 (b+1+1) _ _ (by omega) (by omega) ((b2.ext0 (c.trans a)).ext0 d);clear e8 d8 d0 e3 d3 c8 e4 e0 b9 f4 e7 f0 s r o n b8;go_wp2_with fail
   go_meet
   exact⟨_,_,_,_,_,_,_,_,q0,q1,q5,c7,d1,q3⟩
 case rest=>
  clear s r o n T K b2 a9 a7 b5 b4 a0 c hW;obtain⟨s3,M,O,n3,s4,L,P,n4,T,K,b2,hx,hy,E⟩:=hcut;obtain⟨_,_,_,J,F,f5,H,d2⟩:=hx;simp only[Value.agg.injEq,Array.mk.injEq,List.cons.injEq,Value.bool.injEq,Value.slice.injEq,and_true]at F;obtain⟨rfl,rfl,rfl,rfl⟩:=F;obtain⟨_,_,_,N,F,d9,S,d6⟩:=hy;simp only[Value.agg.injEq,Array.mk.injEq,List.cons.injEq,Value.bool.injEq,Value.slice.injEq,and_true]at F;obtain⟨rfl,rfl,rfl,rfl⟩:=F;have b3:=hid (a3V H);have b6:=hid (a3V S);have e9:=hid H.1;have d7:=hid S.1;have c:Ext wc wc.drew:=(ExtX.refl wc).drew;have I:NV (mk (a0e X b 3) wc) (.slice M J.length O) x.natAbs:=NC.nv ⟨M,O,J,rfl,f5,H.2,d2⟩ (by have:=d5.out;omega);have Q:NV (mk (a0e X b 3) wc) (.slice L N.length P) y.natAbs:=NC.nv ⟨L,P,N,rfl,d9,S.2,d6⟩ (by have:=e6.out;omega);have c9:w.heap.size+3<=wc.heap.size:=by have:=b2.lt;omega
  have m:HX (a0e X b 3) wc:=hX.boxes' E (by omega) c9;have g:=hid (And.intro T (And.intro K b2));have s:=T.cell 0 rfl;have r:=T.cell 1 rfl;have o:=K.cell 0 rfl;have n:=K.cell 1 rfl;have f6:b+1≠b+1+1:=by omega
  have f7:b≠b+1+1:=by omega
  obtain⟨sn,a8⟩:∃sn,(s3 !=s4)=sn:=⟨_,rfl⟩;have C:Hid (sg sn (x.natAbs*y.natAbs)=x*y):=hid (by
   have e1:=b3.out;have e2:=b6.out;rw[<-a8,<-e1,<-e2,a7t,a7t];unfold sg;cases s3<;>cases s4<;>simp[Int.natCast_mul,Int.neg_mul,Int.mul_neg])
  have i:=hid a8;clear e9 d7 b3 b6 a8 H S;cases s3<;>cases s4
  ·obtain rfl:sn=false:=i.out.symm
   clear i;go_wp2_with fail
   go_region_held3 (fun j=>j.cell? ⟨b,0,none⟩=some (.bool false)/\j.cell? ⟨b,1,none⟩=some (.slice M J.length O)/\j.cell? ⟨b+1,0,none⟩=some (.bool false)/\j.cell? ⟨b+1,1,none⟩=some (.slice L N.length P))
    (first|exact⟨(g.out.1.ext0 (c.trans a)).cell 0 rfl,(g.out.1.ext0 (c.trans a)).cell 1 rfl,(g.out.2.1.ext0 (c.trans a)).cell 0 rfl,(g.out.2.1.ext0 (c.trans a)).cell 1 rfl⟩|exact⟨(g.out.1.ext0 (c.trans (a.trans d))).cell 0 rfl,(g.out.1.ext0 (c.trans (a.trans d))).cell 1 rfl,(g.out.2.1.ext0 (c.trans (a.trans d))).cell 0 rfl,(g.out.2.1.ext0 (c.trans (a.trans d))).cell 1 rfl⟩|exact⟨((g.out.1.ext0 (c.trans (a.trans d))).ext (f.set2 _ _).2 (a0b (by omega))).cell 0 rfl,((g.out.1.ext0 (c.trans (a.trans d))).ext (f.set2 _ _).2 (a0b (by omega))).cell 1 rfl,((g.out.2.1.ext0 (c.trans (a.trans d))).ext (f.set2 _ _).2 (a0b (by omega))).cell 0 rfl,((g.out.2.1.ext0 (c.trans (a.trans d))).ext (f.set2 _ _).2 (a0b (by omega))).cell 1 rfl⟩|go_keep)
    (first|(go_at_call 179;refine(b7h (X:=a0e X b 3) (w:=wc.drew) m I Q).mono ?_;rintro e R ⟨a,U,rfl,z⟩)|(go_at_call 240;refine(a2M (a0e X b 3) R false U (x.natAbs*y.natAbs) (HX.ext (w:=wc.drew) m a) z).mono ?_;rintro e w6 ⟨d,u6,rfl,A,t,p,q,rfl,k,h,l⟩;have f:=g.out.2.2.ext0 (c.trans (a.trans d));have V:=f.cell 0 rfl;have g2:=f.cell 1 rfl;have g3:=f.frozen 0;have g4:=f.frozen 1))
   obtain⟨r1,D⟩:=f.set2 (.bool A) (.slice t q.length p);have h7:=(l.mono (a0c.mono _) (a0h D (by omega) (by omega))).mono (a0c.mono _) a0n;rw[C.out]at h;have B:Ext w _:=ExtX.box (E.trans (c.trans (a.trans d))) D (by omega);clear V g2 g3 g4 s r o n;go_wp2_with fail
   exact bodyPost_ret (a0d rfl rfl a0I r1 rfl) rfl ⟨B,_,rfl,A,t,p,q,rfl,k,h,h7⟩
  ·obtain rfl:sn=true:=i.out.symm
   clear i;go_wp2_with fail
   go_region_held3 (fun j=>j.cell? ⟨b,0,none⟩=some (.bool false)/\j.cell? ⟨b,1,none⟩=some (.slice M J.length O)/\j.cell? ⟨b+1,0,none⟩=some (.bool true)/\j.cell? ⟨b+1,1,none⟩=some (.slice L N.length P))
    (first|exact⟨(g.out.1.ext0 (c.trans a)).cell 0 rfl,(g.out.1.ext0 (c.trans a)).cell 1 rfl,(g.out.2.1.ext0 (c.trans a)).cell 0 rfl,(g.out.2.1.ext0 (c.trans a)).cell 1 rfl⟩|exact⟨(g.out.1.ext0 (c.trans (a.trans d))).cell 0 rfl,(g.out.1.ext0 (c.trans (a.trans d))).cell 1 rfl,(g.out.2.1.ext0 (c.trans (a.trans d))).cell 0 rfl,(g.out.2.1.ext0 (c.trans (a.trans d))).cell 1 rfl⟩|exact⟨((g.out.1.ext0 (c.trans (a.trans d))).ext (f.set2 _ _).2 (a0b (by omega))).cell 0 rfl,((g.out.1.ext0 (c.trans (a.trans d))).ext (f.set2 _ _).2 (a0b (by omega))).cell 1 rfl,((g.out.2.1.ext0 (c.trans (a.trans d))).ext (f.set2 _ _).2 (a0b (by omega))).cell 0 rfl,((g.out.2.1.ext0 (c.trans (a.trans d))).ext (f.set2 _ _).2 (a0b (by omega))).cell 1 rfl⟩|go_keep)
    (first|(go_at_call 179;refine(b7h (X:=a0e X b 3) (w:=wc.drew) m I Q).mono ?_;rintro e R ⟨a,U,rfl,z⟩)|(go_at_call 240;refine(a2M (a0e X b 3) R true U (x.natAbs*y.natAbs) (HX.ext (w:=wc.drew) m a) z).mono ?_;rintro e w6 ⟨d,u6,rfl,A,t,p,q,rfl,k,h,l⟩;have f:=g.out.2.2.ext0 (c.trans (a.trans d));have V:=f.cell 0 rfl;have g2:=f.cell 1 rfl;have g3:=f.frozen 0;have g4:=f.frozen 1))
   obtain⟨r1,D⟩:=f.set2 (.bool A) (.slice t q.length p);have h7:=(l.mono (a0c.mono _) (a0h D (by omega) (by omega))).mono (a0c.mono _) a0n;rw[C.out]at h;have B:Ext w _:=ExtX.box (E.trans (c.trans (a.trans d))) D (by omega);clear V g2 g3 g4 s r o n;go_wp2_with fail
   exact bodyPost_ret (a0d rfl rfl a0I r1 rfl) rfl ⟨B,_,rfl,A,t,p,q,rfl,k,h,h7⟩
  ·obtain rfl:sn=true:=i.out.symm
   clear i;go_wp2_with fail
   go_region_held3 (fun j=>j.cell? ⟨b,0,none⟩=some (.bool true)/\j.cell? ⟨b,1,none⟩=some (.slice M J.length O)/\j.cell? ⟨b+1,0,none⟩=some (.bool false)/\j.cell? ⟨b+1,1,none⟩=some (.slice L N.length P))
    (first|exact⟨(g.out.1.ext0 (c.trans a)).cell 0 rfl,(g.out.1.ext0 (c.trans a)).cell 1 rfl,(g.out.2.1.ext0 (c.trans a)).cell 0 rfl,(g.out.2.1.ext0 (c.trans a)).cell 1 rfl⟩|exact⟨(g.out.1.ext0 (c.trans (a.trans d))).cell 0 rfl,(g.out.1.ext0 (c.trans (a.trans d))).cell 1 rfl,(g.out.2.1.ext0 (c.trans (a.trans d))).cell 0 rfl,(g.out.2.1.ext0 (c.trans (a.trans d))).cell 1 rfl⟩|exact⟨((g.out.1.ext0 (c.trans (a.trans d))).ext (f.set2 _ _).2 (a0b (by omega))).cell 0 rfl,((g.out.1.ext0 (c.trans (a.trans d))).ext (f.set2 _ _).2 (a0b (by omega))).cell 1 rfl,((g.out.2.1.ext0 (c.trans (a.trans d))).ext (f.set2 _ _).2 (a0b (by omega))).cell 0 rfl,((g.out.2.1.ext0 (c.trans (a.trans d))).ext (f.set2 _ _).2 (a0b (by omega))).cell 1 rfl⟩|go_keep)
    (first|(go_at_call 179;refine(b7h (X:=a0e X b 3) (w:=wc.drew) m I Q).mono ?_;rintro e R ⟨a,U,rfl,z⟩)|(go_at_call 240;refine(a2M (a0e X b 3) R true U (x.natAbs*y.natAbs) (HX.ext (w:=wc.drew) m a) z).mono ?_;rintro e w6 ⟨d,u6,rfl,A,t,p,q,rfl,k,h,l⟩;have f:=g.out.2.2.ext0 (c.trans (a.trans d));have V:=f.cell 0 rfl;have g2:=f.cell 1 rfl;have g3:=f.frozen 0;have g4:=f.frozen 1))
   obtain⟨r1,D⟩:=f.set2 (.bool A) (.slice t q.length p);have h7:=(l.mono (a0c.mono _) (a0h D (by omega) (by omega))).mono (a0c.mono _) a0n;rw[C.out]at h;have B:Ext w _:=ExtX.box (E.trans (c.trans (a.trans d))) D (by omega);clear V g2 g3 g4 s r o n;go_wp2_with fail
   exact bodyPost_ret (a0d rfl rfl a0I r1 rfl) rfl ⟨B,_,rfl,A,t,p,q,rfl,k,h,h7⟩
  ·obtain rfl:sn=false:=i.out.symm
   clear i;go_wp2_with fail
   go_region_held3 (fun j=>j.cell? ⟨b,0,none⟩=some (.bool true)/\j.cell? ⟨b,1,none⟩=some (.slice M J.length O)/\j.cell? ⟨b+1,0,none⟩=some (.bool true)/\j.cell? ⟨b+1,1,none⟩=some (.slice L N.length P))
    (first|exact⟨(g.out.1.ext0 (c.trans a)).cell 0 rfl,(g.out.1.ext0 (c.trans a)).cell 1 rfl,(g.out.2.1.ext0 (c.trans a)).cell 0 rfl,(g.out.2.1.ext0 (c.trans a)).cell 1 rfl⟩|exact⟨(g.out.1.ext0 (c.trans (a.trans d))).cell 0 rfl,(g.out.1.ext0 (c.trans (a.trans d))).cell 1 rfl,(g.out.2.1.ext0 (c.trans (a.trans d))).cell 0 rfl,(g.out.2.1.ext0 (c.trans (a.trans d))).cell 1 rfl⟩|exact⟨((g.out.1.ext0 (c.trans (a.trans d))).ext (f.set2 _ _).2 (a0b (by omega))).cell 0 rfl,((g.out.1.ext0 (c.trans (a.trans d))).ext (f.set2 _ _).2 (a0b (by omega))).cell 1 rfl,((g.out.2.1.ext0 (c.trans (a.trans d))).ext (f.set2 _ _).2 (a0b (by omega))).cell 0 rfl,((g.out.2.1.ext0 (c.trans (a.trans d))).ext (f.set2 _ _).2 (a0b (by omega))).cell 1 rfl⟩|go_keep)
    (first|(go_at_call 179;refine(b7h (X:=a0e X b 3) (w:=wc.drew) m I Q).mono ?_;rintro e R ⟨a,U,rfl,z⟩)|(go_at_call 240;refine(a2M (a0e X b 3) R false U (x.natAbs*y.natAbs) (HX.ext (w:=wc.drew) m a) z).mono ?_;rintro e w6 ⟨d,u6,rfl,A,t,p,q,rfl,k,h,l⟩;have f:=g.out.2.2.ext0 (c.trans (a.trans d));have V:=f.cell 0 rfl;have g2:=f.cell 1 rfl;have g3:=f.frozen 0;have g4:=f.frozen 1))
   obtain⟨r1,D⟩:=f.set2 (.bool A) (.slice t q.length p);have h7:=(l.mono (a0c.mono _) (a0h D (by omega) (by omega))).mono (a0c.mono _) a0n;rw[C.out]at h;have B:Ext w _:=ExtX.box (E.trans (c.trans (a.trans d))) D (by omega);clear V g2 g3 g4 s r o n;go_wp2_with fail
   exact bodyPost_ret (a0d rfl rfl a0I r1 rfl) rfl ⟨B,_,rfl,A,t,p,q,rfl,k,h,h7⟩
theorem c2d (X:Nat->Bool) (w:World) (u:Value) (x:Int) (R:HX X w) (p:ZV (mk X w) u x):Calls Tryz.prog 242 #[u] w (a1Z X w ZC (-x)):=by
 have F:=hid p.lg;obtain⟨s1,Q,T,Z,rfl,B⟩:=id p;obtain⟨W,hW,I,o,M,P⟩:=a1v w #[.bool s1, .slice Q Z.length T] #[.bool false, .slice none 0 0] 43 43;have d:HX (a0e X w.heap.size 2) W:=R.boxes P;have l:=ZV.mono _ _ _ _ (a0o (nb:=2) I) p;obtain⟨b,U⟩:∃b,w.heap.size=b:=⟨_,rfl⟩;have a0:w.heap.size<=b:=by omega
 rw[U]at o M P d l;have f:=o.cell 0 rfl;have g:=o.cell 1 rfl;clear p B;go_enter Tryz.func242,Tryz.ntmps242
 go_wp2_with fail
 refine(a5O (a0e X b 2) W _ x d l).mono ?_;rintro e V ⟨c,u5,rfl,A⟩;have h:=d.ext c;clear f g;go_wp2_with fail
 refine(b8z (a0e X b 2) V _ x h A F.out).mono ?_;rintro e w6 ⟨a,u6,rfl,C,N,H,L,rfl,q,i,z⟩;have v:=(o.ext0 c).ext0 a;have y:=(M.ext0 c).ext0 a;have G:=hid (a3V i);go_wp2_with ((with_reducible show wpList _ _ _ (⟨_, .store _ _ _,_,_,_,_⟩::_) _ _);refine a0a a0I rfl rfl v rfl rfl (a2U _ _ _ _) ?_;intro O J n;have f:=J.cell 0 rfl;have g:=J.cell 1 rfl)
 have r:=(h.ext a).ext n;have s:=y.ext n (a0b (by omega));have hn:NC (mk (a0e X b 2) O) (.slice N L.length H) x.natAbs:=⟨N,H,L,rfl,q,i.2,z.mono (a0c.mono _) (a0h n (by omega) (by omega))⟩;have m:Hid (sg (!C) x.natAbs= -x):=hid (by
  have e1:=G.out;rw[<-e1,a7t];unfold sg;cases C<;>simp)
 refine(a2M (a0e X b 2) O (!C) _ _ r hn).mono ?_;rintro e w8 ⟨j,u8,rfl,s8,S,c8,Y,rfl,D,k,t⟩;rw[m.out]at k;have E:=s.ext0 j;clear f g;go_wp2_with ((with_reducible show wpList _ _ _ (⟨_, .store _ _ _,_,_,_,_⟩::_) _ _);refine a0a a0I rfl rfl E rfl rfl (a2U _ _ _ _) ?_;intro w9 q1 K)
 have h7:=(t.mono (a0c.mono _) (a0h K (by omega) (by omega))).mono (a0c.mono _) a0n;exact bodyPost_ret (a0d rfl rfl a0I q1 rfl) rfl ⟨ExtX.box ((ExtX.box (I.trans (c.trans a)) n (by omega)).trans j) K (by omega),_,rfl,s8,S,c8,Y,rfl,D,k,h7⟩
theorem b1J (X:Nat->Bool) (w:World) (u:Value) (x:Int) (G:HX X w) (A:ZV (mk X w) u x):Calls Tryz.prog 207 #[u] w (a4v w x.sign):=by
 obtain⟨N,E,H,K,rfl,z⟩:=id A;obtain⟨W,T,s,v,D⟩:=a1g w #[.bool N, .slice E K.length H] 43;have o:HX (a0e X w.heap.size 1) W:=G.boxes D;have r:=ZV.mono _ _ _ _ (a0o (nb:=1) s) A;obtain⟨b,I⟩:∃b,w.heap.size=b:=⟨_,rfl⟩;have M:w.heap.size<=b:=by omega
 rw[I]at v D o r;have g:=v.cell 0 rfl;have i:=v.cell 1 rfl;clear A z;go_enter Tryz.func207,Tryz.ntmps207
 go_wp2_with fail
 refine(a5O (a0e X b 1) W _ x o r).mono ?_;rintro e Q ⟨j,S,rfl,B,R,P,t,rfl,F,m,J⟩;have n:=v.ext0 j;have c:=hid m.len0;have d:=hid m.1;clear g i m;by_cases q:t.length=0
 ·have k:x=0:=c.out.1 q
  subst k;have L:((t.length:Int)==0)=true:=a7q (by omega);have O:(t.length:Int)=0:=by omega
  clear c d q;go_wp2_with ((with_reducible show wpList _ _ _ (⟨_, .store _ _ _,_,_,_,_⟩::_) _ _);refine a0a a0I rfl rfl n rfl rfl (a2U _ _ _ _) ?_;intro C l p;have g:=l.cell 0 rfl;have i:=l.cell 1 rfl)
  have f:=ExtX.box (s.trans j) p (by omega);go_ret
  exact⟨f,rfl⟩
 ·have L:((t.length:Int)==0)=false:=a2w (by omega)
  have k:¬x=0:=fun h=>q (c.out.2 h);by_cases a:x<0
  ·have y:Hid (x.sign= -1):=hid (Int.sign_eq_neg_one_of_neg a)
   obtain rfl:B=true:=by rw[d.out];exact decide_eq_true a
   clear c q k a d;go_wp2_with ((with_reducible show wpList _ _ _ (⟨_, .store _ _ _,_,_,_,_⟩::_) _ _);refine a0a a0I rfl rfl n rfl rfl (a2U _ _ _ _) ?_;intro C l p;have g:=l.cell 0 rfl;have i:=l.cell 1 rfl)
   have f:=ExtX.box (s.trans j) p (by omega);go_ret
   exact⟨f,a0P y.out.symm⟩
  ·have y:Hid (x.sign=1):=hid (Int.sign_eq_one_of_pos (by omega))
   obtain rfl:B=false:=by rw[d.out];exact decide_eq_false a
   clear c q k a d;go_wp2_with ((with_reducible show wpList _ _ _ (⟨_, .store _ _ _,_,_,_,_⟩::_) _ _);refine a0a a0I rfl rfl n rfl rfl (a2U _ _ _ _) ?_;intro C l p;have g:=l.cell 0 rfl;have i:=l.cell 1 rfl)
   have f:=ExtX.box (s.trans j) p (by omega);go_ret
   exact⟨f,a0P y.out.symm⟩
set_option maxRecDepth 100000 in
set_option maxHeartbeats 800000 in
theorem a9P (X:Nat->Bool) (w:World) (u v:Value) (x y:Int) (hX:HX X w) (hu:ZV (mk X w) u x) (hv:ZV (mk X w) v y) (c0:lg x.natAbs<=274877906944) (b8:lg y.natAbs<=274877906944):Calls Tryz.prog 136 #[u,v] w (a1Z X w ZC (x*y)):=by
 have E:=hid c0;have C:=hid b8;clear c0 b8;have d9:=hid hu.lg;have f0:=hid hv.lg;obtain⟨s1,a1,c1,l1,rfl,d8⟩:=id hu;obtain⟨s2,a2,c2,l2,rfl,f6⟩:=id hv;obtain⟨W,hW,hE,V,M,b2,hz⟩:=a2D w #[.bool s1, .slice a1 l1.length c1] #[.bool s2, .slice a2 l2.length c2] #[.bool false, .slice none 0 0] 43 43 43;have c7:HX (a0e X w.heap.size 3) W:=hX.boxes hz;have b4:=ZV.mono _ _ _ _ (a0o (nb:=3) hE) hu;have a9:=ZV.mono _ _ _ _ (a0o (nb:=3) hE) hv;obtain⟨b,hb⟩:∃b,w.heap.size=b:=⟨_,rfl⟩;have f5:w.heap.size<=b:=by omega
 rw[hb]at V M b2 hz c7 b4 a9;have c:Ext W W.drew:=(ExtX.refl W).drew;have a8:HX (a0e X b 3) W.drew:=c7;have b7:ZV (mk (a0e X b 3) W.drew) (.agg #[.bool s1, .slice a1 l1.length c1]) x:=b4;have b6:ZV (mk (a0e X b 3) W.drew) (.agg #[.bool s2, .slice a2 l2.length c2]) y:=a9;have s:=V.cell 0 rfl;have r:=V.cell 1 rfl;have o:=M.cell 0 rfl;have n:=M.cell 1 rfl;clear hu hv d8 f6;go_enter Tryz.func136,Tryz.ntmps136
 go_upto_region 1 with(fail)
 go_cut []from 5 to 8 (fun wx=>∃s3 O Q L s4 N R P,Bx wx b #[.bool s3, .slice O L Q] 43/\Bx wx (b+1) #[.bool s4, .slice N P R] 43/\Bx wx (b+1+1) #[.bool false, .slice none 0 0] 43/\ZC (mk (a0e X b 3) wx) (.agg #[.bool s3, .slice O L Q]) x/\ZC (mk (a0e X b 3) wx) (.agg #[.bool s4, .slice N P R]) y/\Ext w wx)
 case first=>
  go_region_with (first|(go_at_call 187;(with_reducible refine(a3W (a0e X b 3) W.drew _ x a8 b7).mono ?_);rintro e T ⟨a,Y,rfl,s5,a5,c5,l5,rfl,d0,e9,f7⟩;have a0:=V.ext0 (c.trans a);have a7:=M.ext0 (c.trans a);have f2:=a0.cell 0 rfl;have e4:=a0.cell 1 rfl;have d4:=a7.cell 0 rfl;have e7:=a7.cell 1 rfl)|(go_at_call 187;(with_reducible refine(a3W (a0e X b 3) T _ y (HX.ext a8 a) (mkx ZV.mono b6 a)).mono ?_);rintro e w6 ⟨d,u6,rfl,A,t,p,q,rfl,k,h,l⟩;have f:=a0.ext0 d;have I:=a7.ext0 d;have d7:=f.cell 0 rfl;have d2:=f.cell 1 rfl;have e8:=I.cell 0 rfl;have e6:=I.cell 1 rfl;have c9:=f.frozen 0;have f8:=f.frozen 1;have f1:=I.frozen 0;have f4:=I.frozen 1))
  all_goals
   obtain⟨wf,c8,q0,q1,q2,q3,q4⟩:=a2q (X:=X) (nb:=3) f I (hE.trans ((c.trans a).trans d)) f5 (by omega) (.bool s5) (.slice a5 l5.length c5) (.bool A) (.slice t q.length p);rw[c8];have d1:ZC (mk (a0e X b 3) wf) (.agg #[.bool s5, .slice a5 l5.length c5]) x:=⟨s5,a5,c5,l5,rfl,d0,e9,(f7.mono (a0c.mono _) (a0l d)).mono (a0c.mono _) q4⟩;have d5:ZC (mk (a0e X b 3) wf) (.agg #[.bool A, .slice t q.length p]) y:=⟨A,t,p,q,rfl,k,h,l.mono (a0c.mono _) q4⟩;have q5:=q2 (b+1+1) _ _ (by omega) (by omega) ((b2.ext0 (c.trans a)).ext0 d);clear f2 e4 d4 e7 d7 d2 e8 e6 c9 f8 f1 f4 s r o n c8;go_wp2_with fail
   go_meet
   exact⟨_,_,_,_,_,_,_,_,q0,q1,q5,d1,d5,q3⟩
 case rest=>
  clear s r o n V M b2 b4 a9 b7 b6 a8 c hW;obtain⟨s3,O,Q,n3,s4,N,R,n4,V,M,b2,hx,hy,G⟩:=hcut;obtain⟨_,_,_,L,H,f9,J,d6⟩:=hx;simp only[Value.agg.injEq,Array.mk.injEq,List.cons.injEq,Value.bool.injEq,Value.slice.injEq,and_true]at H;obtain⟨rfl,rfl,rfl,rfl⟩:=H;obtain⟨_,_,_,P,H,e5,U,e0⟩:=hy;simp only[Value.agg.injEq,Array.mk.injEq,List.cons.injEq,Value.bool.injEq,Value.slice.injEq,and_true]at H;obtain⟨rfl,rfl,rfl,rfl⟩:=H;have b5:=hid (a3V J);have b9:=hid (a3V U);have f3:=hid J.1;have e3:=hid U.1;have c:Ext wc wc.drew:=(ExtX.refl wc).drew;have K:NV (mk (a0e X b 3) wc) (.slice O L.length Q) x.natAbs:=NC.nv ⟨O,Q,L,rfl,f9,J.2,d6⟩ (by have:=d9.out;omega);have S:NV (mk (a0e X b 3) wc) (.slice N P.length R) y.natAbs:=NC.nv ⟨N,R,P,rfl,e5,U.2,e0⟩ (by have:=f0.out;omega);have d3:w.heap.size+3<=wc.heap.size:=by have:=b2.lt;omega
  have m:HX (a0e X b 3) wc:=hX.boxes' G (by omega) d3;have g:=hid (And.intro V (And.intro M b2));have s:=V.cell 0 rfl;have r:=V.cell 1 rfl;have o:=M.cell 0 rfl;have n:=M.cell 1 rfl;have g0:b+1≠b+1+1:=by omega
  have g5:b≠b+1+1:=by omega
  obtain⟨sn,b3⟩:∃sn,(s3 !=s4)=sn:=⟨_,rfl⟩;have D:Hid (sg sn (x.natAbs*y.natAbs)=x*y):=hid (by
   have e1:=b5.out;have e2:=b9.out;rw[<-b3,<-e1,<-e2,a7t,a7t];unfold sg;cases s3<;>cases s4<;>simp[Int.natCast_mul,Int.neg_mul,Int.mul_neg])
  have i:=hid b3;clear f3 e3 b5 b9 b3 J U;cases s3<;>cases s4
  ·obtain rfl:sn=false:=i.out.symm
   clear i;go_wp2_with fail
   go_region_held3 (fun j=>j.cell? ⟨b,0,none⟩=some (.bool false)/\j.cell? ⟨b,1,none⟩=some (.slice O L.length Q)/\j.cell? ⟨b+1,0,none⟩=some (.bool false)/\j.cell? ⟨b+1,1,none⟩=some (.slice N P.length R))
    (first|exact⟨(g.out.1.ext0 (c.trans a)).cell 0 rfl,(g.out.1.ext0 (c.trans a)).cell 1 rfl,(g.out.2.1.ext0 (c.trans a)).cell 0 rfl,(g.out.2.1.ext0 (c.trans a)).cell 1 rfl⟩|exact⟨(g.out.1.ext0 (c.trans (a.trans d))).cell 0 rfl,(g.out.1.ext0 (c.trans (a.trans d))).cell 1 rfl,(g.out.2.1.ext0 (c.trans (a.trans d))).cell 0 rfl,(g.out.2.1.ext0 (c.trans (a.trans d))).cell 1 rfl⟩|exact⟨((g.out.1.ext0 (c.trans (a.trans d))).ext (f.set2 _ _).2 (a0b (by omega))).cell 0 rfl,((g.out.1.ext0 (c.trans (a.trans d))).ext (f.set2 _ _).2 (a0b (by omega))).cell 1 rfl,((g.out.2.1.ext0 (c.trans (a.trans d))).ext (f.set2 _ _).2 (a0b (by omega))).cell 0 rfl,((g.out.2.1.ext0 (c.trans (a.trans d))).ext (f.set2 _ _).2 (a0b (by omega))).cell 1 rfl⟩|go_keep)
    (first|(go_at_call 211;refine(b5z (a0e X b 3) wc.drew _ _ _ _ m K S E.out C.out).mono ?_;rintro e T ⟨a,Y,rfl,z⟩)|(go_at_call 184;refine(a1N (a0e X b 3) T false Y (x.natAbs*y.natAbs) (HX.ext (w:=wc.drew) m a) z).mono ?_;rintro e w6 ⟨d,u6,rfl,A,t,p,q,rfl,k,h,l⟩;have f:=g.out.2.2.ext0 (c.trans (a.trans d));have Z:=f.cell 0 rfl;have g2:=f.cell 1 rfl;have g3:=f.frozen 0;have g4:=f.frozen 1))
   obtain⟨r1,F⟩:=f.set2 (.bool A) (.slice t q.length p);have h7:=(l.mono (a0c.mono _) (a0h F (by omega) (by omega))).mono (a0c.mono _) a0n;rw[D.out]at h;have B:Ext w _:=ExtX.box (G.trans (c.trans (a.trans d))) F (by omega);clear Z g2 g3 g4 s r o n;go_wp2_with fail
   exact bodyPost_ret (a0d rfl rfl a0I r1 rfl) rfl ⟨B,_,rfl,A,t,p,q,rfl,k,h,h7⟩
  ·obtain rfl:sn=true:=i.out.symm
   clear i;go_wp2_with fail
   go_region_held3 (fun j=>j.cell? ⟨b,0,none⟩=some (.bool false)/\j.cell? ⟨b,1,none⟩=some (.slice O L.length Q)/\j.cell? ⟨b+1,0,none⟩=some (.bool true)/\j.cell? ⟨b+1,1,none⟩=some (.slice N P.length R))
    (first|exact⟨(g.out.1.ext0 (c.trans a)).cell 0 rfl,(g.out.1.ext0 (c.trans a)).cell 1 rfl,(g.out.2.1.ext0 (c.trans a)).cell 0 rfl,(g.out.2.1.ext0 (c.trans a)).cell 1 rfl⟩|exact⟨(g.out.1.ext0 (c.trans (a.trans d))).cell 0 rfl,(g.out.1.ext0 (c.trans (a.trans d))).cell 1 rfl,(g.out.2.1.ext0 (c.trans (a.trans d))).cell 0 rfl,(g.out.2.1.ext0 (c.trans (a.trans d))).cell 1 rfl⟩|exact⟨((g.out.1.ext0 (c.trans (a.trans d))).ext (f.set2 _ _).2 (a0b (by omega))).cell 0 rfl,((g.out.1.ext0 (c.trans (a.trans d))).ext (f.set2 _ _).2 (a0b (by omega))).cell 1 rfl,((g.out.2.1.ext0 (c.trans (a.trans d))).ext (f.set2 _ _).2 (a0b (by omega))).cell 0 rfl,((g.out.2.1.ext0 (c.trans (a.trans d))).ext (f.set2 _ _).2 (a0b (by omega))).cell 1 rfl⟩|go_keep)
    (first|(go_at_call 211;refine(b5z (a0e X b 3) wc.drew _ _ _ _ m K S E.out C.out).mono ?_;rintro e T ⟨a,Y,rfl,z⟩)|(go_at_call 184;refine(a1N (a0e X b 3) T true Y (x.natAbs*y.natAbs) (HX.ext (w:=wc.drew) m a) z).mono ?_;rintro e w6 ⟨d,u6,rfl,A,t,p,q,rfl,k,h,l⟩;have f:=g.out.2.2.ext0 (c.trans (a.trans d));have Z:=f.cell 0 rfl;have g2:=f.cell 1 rfl;have g3:=f.frozen 0;have g4:=f.frozen 1))
   obtain⟨r1,F⟩:=f.set2 (.bool A) (.slice t q.length p);have h7:=(l.mono (a0c.mono _) (a0h F (by omega) (by omega))).mono (a0c.mono _) a0n;rw[D.out]at h;have B:Ext w _:=ExtX.box (G.trans (c.trans (a.trans d))) F (by omega);clear Z g2 g3 g4 s r o n;go_wp2_with fail
   exact bodyPost_ret (a0d rfl rfl a0I r1 rfl) rfl ⟨B,_,rfl,A,t,p,q,rfl,k,h,h7⟩
  ·obtain rfl:sn=true:=i.out.symm
   clear i;go_wp2_with fail
   go_region_held3 (fun j=>j.cell? ⟨b,0,none⟩=some (.bool true)/\j.cell? ⟨b,1,none⟩=some (.slice O L.length Q)/\j.cell? ⟨b+1,0,none⟩=some (.bool false)/\j.cell? ⟨b+1,1,none⟩=some (.slice N P.length R))
    (first|exact⟨(g.out.1.ext0 (c.trans a)).cell 0 rfl,(g.out.1.ext0 (c.trans a)).cell 1 rfl,(g.out.2.1.ext0 (c.trans a)).cell 0 rfl,(g.out.2.1.ext0 (c.trans a)).cell 1 rfl⟩|exact⟨(g.out.1.ext0 (c.trans (a.trans d))).cell 0 rfl,(g.out.1.ext0 (c.trans (a.trans d))).cell 1 rfl,(g.out.2.1.ext0 (c.trans (a.trans d))).cell 0 rfl,(g.out.2.1.ext0 (c.trans (a.trans d))).cell 1 rfl⟩|exact⟨((g.out.1.ext0 (c.trans (a.trans d))).ext (f.set2 _ _).2 (a0b (by omega))).cell 0 rfl,((g.out.1.ext0 (c.trans (a.trans d))).ext (f.set2 _ _).2 (a0b (by omega))).cell 1 rfl,((g.out.2.1.ext0 (c.trans (a.trans d))).ext (f.set2 _ _).2 (a0b (by omega))).cell 0 rfl,((g.out.2.1.ext0 (c.trans (a.trans d))).ext (f.set2 _ _).2 (a0b (by omega))).cell 1 rfl⟩|go_keep)
    (first|(go_at_call 211;refine(b5z (a0e X b 3) wc.drew _ _ _ _ m K S E.out C.out).mono ?_;rintro e T ⟨a,Y,rfl,z⟩)|(go_at_call 184;refine(a1N (a0e X b 3) T true Y (x.natAbs*y.natAbs) (HX.ext (w:=wc.drew) m a) z).mono ?_;rintro e w6 ⟨d,u6,rfl,A,t,p,q,rfl,k,h,l⟩;have f:=g.out.2.2.ext0 (c.trans (a.trans d));have Z:=f.cell 0 rfl;have g2:=f.cell 1 rfl;have g3:=f.frozen 0;have g4:=f.frozen 1))
   obtain⟨r1,F⟩:=f.set2 (.bool A) (.slice t q.length p);have h7:=(l.mono (a0c.mono _) (a0h F (by omega) (by omega))).mono (a0c.mono _) a0n;rw[D.out]at h;have B:Ext w _:=ExtX.box (G.trans (c.trans (a.trans d))) F (by omega);clear Z g2 g3 g4 s r o n;go_wp2_with fail
   exact bodyPost_ret (a0d rfl rfl a0I r1 rfl) rfl ⟨B,_,rfl,A,t,p,q,rfl,k,h,h7⟩
  ·obtain rfl:sn=false:=i.out.symm
   clear i;go_wp2_with fail
   go_region_held3 (fun j=>j.cell? ⟨b,0,none⟩=some (.bool true)/\j.cell? ⟨b,1,none⟩=some (.slice O L.length Q)/\j.cell? ⟨b+1,0,none⟩=some (.bool true)/\j.cell? ⟨b+1,1,none⟩=some (.slice N P.length R))
    (first|exact⟨(g.out.1.ext0 (c.trans a)).cell 0 rfl,(g.out.1.ext0 (c.trans a)).cell 1 rfl,(g.out.2.1.ext0 (c.trans a)).cell 0 rfl,(g.out.2.1.ext0 (c.trans a)).cell 1 rfl⟩|exact⟨(g.out.1.ext0 (c.trans (a.trans d))).cell 0 rfl,(g.out.1.ext0 (c.trans (a.trans d))).cell 1 rfl,(g.out.2.1.ext0 (c.trans (a.trans d))).cell 0 rfl,(g.out.2.1.ext0 (c.trans (a.trans d))).cell 1 rfl⟩|exact⟨((g.out.1.ext0 (c.trans (a.trans d))).ext (f.set2 _ _).2 (a0b (by omega))).cell 0 rfl,((g.out.1.ext0 (c.trans (a.trans d))).ext (f.set2 _ _).2 (a0b (by omega))).cell 1 rfl,((g.out.2.1.ext0 (c.trans (a.trans d))).ext (f.set2 _ _).2 (a0b (by omega))).cell 0 rfl,((g.out.2.1.ext0 (c.trans (a.trans d))).ext (f.set2 _ _).2 (a0b (by omega))).cell 1 rfl⟩|go_keep)
    (first|(go_at_call 211;refine(b5z (a0e X b 3) wc.drew _ _ _ _ m K S E.out C.out).mono ?_;rintro e T ⟨a,Y,rfl,z⟩)|(go_at_call 184;refine(a1N (a0e X b 3) T false Y (x.natAbs*y.natAbs) (HX.ext (w:=wc.drew) m a) z).mono ?_;rintro e w6 ⟨d,u6,rfl,A,t,p,q,rfl,k,h,l⟩;have f:=g.out.2.2.ext0 (c.trans (a.trans d));have Z:=f.cell 0 rfl;have g2:=f.cell 1 rfl;have g3:=f.frozen 0;have g4:=f.frozen 1))
   obtain⟨r1,F⟩:=f.set2 (.bool A) (.slice t q.length p);have h7:=(l.mono (a0c.mono _) (a0h F (by omega) (by omega))).mono (a0c.mono _) a0n;rw[D.out]at h;have B:Ext w _:=ExtX.box (G.trans (c.trans (a.trans d))) F (by omega);clear Z g2 g3 g4 s r o n;go_wp2_with fail
   exact bodyPost_ret (a0d rfl rfl a0I r1 rfl) rfl ⟨B,_,rfl,A,t,p,q,rfl,k,h,h7⟩
def a8K (w:World) (b:Bool) (e:Ending) (w':World):Prop:=Ext w w'/\e= .returned (.bool b)
theorem b8A (X:Nat->Bool) (w:World) (u:Value) (x:Int) (O:HX X w) (B:ZV (mk X w) u x):Calls Tryz.prog 180 #[u] w (a1Z X w ZC (-x)):=by
 obtain⟨s1,N,Q,T,rfl,v⟩:=id B;obtain⟨W,hW,F,m,J,M⟩:=a1v w #[.bool s1, .slice N T.length Q] #[.bool false, .slice none 0 0] 43 43;have c:HX (a0e X w.heap.size 2) W:=O.boxes M;have j:=ZV.mono _ _ _ _ (a0o (nb:=2) F) B;obtain⟨b,R⟩:∃b,w.heap.size=b:=⟨_,rfl⟩;have Z:w.heap.size<=b:=by omega
 rw[R]at m J M c j;have d:=m.cell 0 rfl;have f:=m.cell 1 rfl;clear B v;go_enter Tryz.func180,Tryz.ntmps180
 go_wp2_with fail
 refine(a3W (a0e X b 2) W _ x c j).mono ?_;rintro e w6 ⟨a,u6,rfl,y,K,E,I,rfl,n,g,t⟩;have A:=c.ext a;have r:=m.ext0 a;have s:=J.ext0 a;have D:=hid (a3V g);clear d f;go_wp2_with ((with_reducible show wpList _ _ _ (⟨_, .store _ _ _,_,_,_,_⟩::_) _ _);refine a0a a0I rfl rfl r rfl rfl (a2U _ _ _ _) ?_;intro L G l;have d:=G.cell 0 rfl;have f:=G.cell 1 rfl)
 have o:=A.ext l;have p:=s.ext l (a0b (by omega));have V:NC (mk (a0e X b 2) L) (.slice K I.length E) x.natAbs:=⟨K,E,I,rfl,n,g.2,t.mono (a0c.mono _) (a0h l (by omega) (by omega))⟩;have k:Hid (sg (!y) x.natAbs= -x):=hid (by
  have e1:=D.out;rw[<-e1,a7t];unfold sg;cases y<;>simp)
 refine(a1N (a0e X b 2) L (!y) _ _ o V).mono ?_;rintro e w8 ⟨h,u8,rfl,U,P,c8,S,rfl,z,i,q⟩;rw[k.out]at i;have C:=p.ext0 h;clear d f;go_wp2_with ((with_reducible show wpList _ _ _ (⟨_, .store _ _ _,_,_,_,_⟩::_) _ _);refine a0a a0I rfl rfl C rfl rfl (a2U _ _ _ _) ?_;intro w9 Y H)
 have h7:=(q.mono (a0c.mono _) (a0h H (by omega) (by omega))).mono (a0c.mono _) a0n;exact bodyPost_ret (a0d rfl rfl a0I Y rfl) rfl ⟨ExtX.box ((ExtX.box (F.trans a) l (by omega)).trans h) H (by omega),_,rfl,U,P,c8,S,rfl,z,i,h7⟩
theorem b7l (X:Nat->Bool) (w:World) (u:Value) (x:Int) (G:HX X w) (B:ZV (mk X w) u x):Calls Tryz.prog 106 #[u] w (a4v w x.sign):=by
 obtain⟨M,F,H,K,rfl,A⟩:=id B;obtain⟨W,S,s,t,E⟩:=a1g w #[.bool M, .slice F K.length H] 43;have o:HX (a0e X w.heap.size 1) W:=G.boxes E;have r:=ZV.mono _ _ _ _ (a0o (nb:=1) s) B;obtain⟨b,I⟩:∃b,w.heap.size=b:=⟨_,rfl⟩;have L:w.heap.size<=b:=by omega
 rw[I]at t E o r;have g:=t.cell 0 rfl;have i:=t.cell 1 rfl;clear B A;go_enter Tryz.func106,Tryz.ntmps106
 go_wp2_with fail
 refine(a3W (a0e X b 1) W _ x o r).mono ?_;rintro e P ⟨j,R,rfl,C,Q,N,y,rfl,v,l,J⟩;have m:=t.ext0 j;have c:=hid l.len0;have d:=hid l.1;clear g i l;by_cases a:x<0
 ·have z:Hid (x.sign= -1):=hid (Int.sign_eq_neg_one_of_neg a)
  obtain rfl:C=true:=by rw[d.out];exact decide_eq_true a
  clear c a d;go_wp2_with ((with_reducible show wpList _ _ _ (⟨_, .store _ _ _,_,_,_,_⟩::_) _ _);refine a0a a0I rfl rfl m rfl rfl (a2U _ _ _ _) ?_;intro D k p;have g:=k.cell 0 rfl;have i:=k.cell 1 rfl)
  have f:=ExtX.box (s.trans j) p (by omega);go_ret
  exact⟨f,a0P z.out.symm⟩
 ·obtain rfl:C=false:=by rw[d.out];exact decide_eq_false a
  by_cases q:y.length=0
  ·have n:x=0:=c.out.1 q
   subst n;obtain rfl:y= []:=List.eq_nil_of_length_eq_zero q;clear c d q a;simp only[List.length_nil]at v |-;go_wp2_with ((with_reducible show wpList _ _ _ (⟨_, .store _ _ _,_,_,_,_⟩::_) _ _);refine a0a a0I rfl rfl m rfl rfl (a2U _ _ _ _) ?_;intro D k p;have g:=k.cell 0 rfl;have i:=k.cell 1 rfl)
   have f:=ExtX.box (s.trans j) p (by omega);go_ret
   exact⟨f,rfl⟩
  ·have n:¬x=0:=fun h=>q (c.out.2 h)
   have O:0<y.length:=by omega
   have z:Hid (x.sign=1):=hid (Int.sign_eq_one_of_pos (by omega));clear c n a d q;go_wp2_with ((with_reducible show wpList _ _ _ (⟨_, .store _ _ _,_,_,_,_⟩::_) _ _);refine a0a a0I rfl rfl m rfl rfl (a2U _ _ _ _) ?_;intro D k p;have g:=k.cell 0 rfl;have i:=k.cell 1 rfl)
   have f:=ExtX.box (s.trans j) p (by omega);go_ret
   exact⟨f,a0P z.out.symm⟩
theorem b2W (X:Nat->Bool) (w:World) (v:Int) (O:HX X w) (h1: -9223372036854775808<=v) (U:v<=9223372036854775807):Calls Tryz.prog 103 #[.int .i64 v] w (a1Z X w ZC v):=by
 obtain⟨W,hW,K,F,L⟩:=a1g w #[.bool false, .slice none 0 0] 43;have d:HX (a0e X w.heap.size 1) W:=O.boxes L;obtain⟨b,P⟩:∃b,w.heap.size=b:=⟨_,rfl⟩;have S:w.heap.size<=b:=by omega
 rw[P]at F L d;by_cases Z:v<0
 ·obtain⟨n,D⟩:∃n:Nat,-(v+1)=n:=Int.eq_ofNat_of_zero_le (by omega)
  have A:Hid (sg true (n+1)=v):=hid (by unfold sg;simp;omega);have C:Hid (-(v+1)=(n:Int)):=hid D;have J:Hid (n<18446744073709551616):=hid (by omega);have Q:(n:Int)<=9223372036854775807:=by omega
  clear D;go_enter Tryz.func103,Tryz.ntmps103
  go_wp2_with fail
  rw[C.out];refine(b7i (X:=a0e X b 1) d J.out).mono ?_;rintro e r ⟨c,N,rfl,h⟩;have j:=d.ext c;go_wp2_with fail
  have i:=NC.lit j 1 147 (by omega) (by omega);have a:Ext r (r.alloc (.cells #[.int .u32 ((1:Nat):Int)] 147)):=(ExtX.refl r).alloc _;have p:lg n<=1099511627776:=by
   have:n<B^2:=by rw[a1n];omega
   have:=a2T.2 this;omega
  refine(b5y (j.ext a) (mkx NV.mono (h.nv p) a) (i.nv (by rw[a3D];decide))).mono ?_;rintro e M ⟨t,T,rfl,H⟩;have f:=c.trans (a.trans t);have u:=d.ext f;clear c a t j i h p;go_wp2_with fail
  refine(a1N (a0e X b 1) M true T _ u H).mono ?_;rintro e Y ⟨s,R,rfl,G,E,x,z,rfl,k,g,m⟩;rw[A.out]at g;have l:=(F.ext0 f).ext0 s;go_wp2_with ((with_reducible show wpList _ _ _ (⟨_, .store _ _ _,_,_,_,_⟩::_) _ _);refine a0a a0I rfl rfl l rfl rfl (a2U _ _ _ _) ?_;intro w9 y q)
  have I:=(m.mono (a0c.mono _) (a0h q (by omega) (by omega))).mono (a0c.mono _) a0n;exact bodyPost_ret (a0d rfl rfl a0I y rfl) rfl ⟨ExtX.box (K.trans (f.trans s)) q (by omega),_,rfl,G,E,x,z,rfl,k,g,I⟩
 ·obtain⟨n,rfl⟩:=Int.eq_ofNat_of_zero_le (show 0<=v by omega)
  have D:Hid (sg false n=(n:Int)):=hid rfl;have o:Hid (n<18446744073709551616):=hid (by omega);go_enter Tryz.func103,Tryz.ntmps103
  go_wp2_with fail
  refine(b7i (X:=a0e X b 1) d o.out).mono ?_;rintro e r ⟨c,N,rfl,h⟩;go_wp2_with fail
  refine(a1N (a0e X b 1) r false N n (d.ext c) h).mono ?_;rintro e V ⟨a,R,rfl,G,E,x,z,rfl,k,g,m⟩;have l:=(F.ext0 c).ext0 a;go_wp2_with ((with_reducible show wpList _ _ _ (⟨_, .store _ _ _,_,_,_,_⟩::_) _ _);refine a0a a0I rfl rfl l rfl rfl (a2U _ _ _ _) ?_;intro M y q)
  have I:=(m.mono (a0c.mono _) (a0h q (by omega) (by omega))).mono (a0c.mono _) a0n;exact bodyPost_ret (a0d rfl rfl a0I y rfl) rfl ⟨ExtX.box (K.trans (c.trans a)) q (by omega),_,rfl,G,E,x,z,rfl,k,g,I⟩
theorem b7m (X:Nat->Bool) (w:World) (u v:Value) (x y:Int) (O:ZC (mk X w) u x) (N:ZC (mk X w) v y) (E:lg x.natAbs<=1099511627776):Calls Tryz.prog 93 #[u,v] w (a8K w (decide (x=y))):=by
 obtain⟨D,g,l,s,rfl,B,c,j⟩:=O;obtain⟨n,z,G,p,rfl,F,a,q⟩:=N;obtain⟨W,S,f,A,o,Q⟩:=a1v w #[.bool D, .slice g s.length l] #[.bool n, .slice z p.length G] 43 43;have k:NC (mk X W) (.slice g s.length l) x.natAbs:=⟨g,l,s,rfl,B,c.2,j.mono (a0c.mono _) (a0l f)⟩;have C:NC (mk X W) (.slice z p.length G) y.natAbs:=⟨z,G,p,rfl,F,a.2,q.mono (a0c.mono _) (a0l f)⟩;obtain⟨b,K⟩:∃b,w.heap.size=b:=⟨_,rfl⟩;rw[K]at A o Q;have L:=A.cell 0 rfl;have M:=A.cell 1 rfl;have P:=o.cell 0 rfl;have I:=o.cell 1 rfl;have i:=hid (a3V c);have H:=hid (a3V a);by_cases d:D=n
 ·subst d
  have r:Hid (decide (x=y)=decide (x.natAbs=y.natAbs)):=hid (by
   rw[Bool.eq_iff_iff];simp only[decide_eq_true_eq];constructor
   ·intro h;rw[h]
   ·intro h;rw[<-i.out,<-H.out,h])
  have t:=hid E;clear c a E;go_enter Tryz.func93,Tryz.ntmps93
  go_wp2_with fail
  refine(b7k X W _ _ _ _ k C t.out).mono ?_;rintro e R ⟨rfl,m,rfl⟩;go_wp2_with fail
  go_ret
  exact⟨f.trans ((ExtX.refl W).drewN m),a0j r.out.symm⟩
 ·have r:Hid (decide (x=y)=false):=hid (by
   rw[decide_eq_false_iff_not];intro h;subst h;exact d (c.1.trans a.1.symm))
  have J:(D==n)=false:=by simpa using d
  clear c a E d;go_enter Tryz.func93,Tryz.ntmps93
  go_wp2_with fail
  go_ret
  exact⟨f,a0j r.out.symm⟩
theorem a8L (s:Bool) (a:Option Addr) (n c:Nat) (W:World):(Instr.field 43 (.agg #[.bool s, .slice a n c]) 1).run Tryz.prog W= .ok (.slice a n c) W:=by kernel_rfl
set_option maxRecDepth 100000 in
set_option maxHeartbeats 800000 in
theorem c0k (X:Nat->Bool) (w:World) (u v:Value) (x y:Int) (hX:HX X w) (s:ZV (mk X w) u x) (q:ZV (mk X w) v y) (l:lg x.natAbs<=274877906944) (m:lg y.natAbs<=274877906944):Calls Tryz.prog 181 #[u,v] w (a1Z X w NC (Nat.gcd x.natAbs y.natAbs)):=by
 have d:=hid l;have c:=hid m;clear l m;have a7:=hid s.lg;have a3:=hid q.lg;obtain⟨s1,a1,c1,l1,rfl,T⟩:=id s;obtain⟨s2,a2,c2,l2,rfl,Y⟩:=id q;obtain⟨W,hW,z,r,p,hz⟩:=a1v w #[.bool s1, .slice a1 l1.length c1] #[.bool s2, .slice a2 l2.length c2] 43 43;have n:HX (a0e X w.heap.size 2) W:=hX.boxes hz;have o:=ZV.mono _ _ _ _ (a0o (nb:=2) z) s;have k:=ZV.mono _ _ _ _ (a0o (nb:=2) z) q;obtain⟨b,hb⟩:∃b,w.heap.size=b:=⟨_,rfl⟩;have a4:w.heap.size<=b:=by omega
 rw[hb]at r p hz n o k;have f:Ext W W.drew:=(ExtX.refl W).drew;have h:HX (a0e X b 2) W.drew:=n;have J:ZV (mk (a0e X b 2) W.drew) (.agg #[.bool s1, .slice a1 l1.length c1]) x:=o;have E:ZV (mk (a0e X b 2) W.drew) (.agg #[.bool s2, .slice a2 l2.length c2]) y:=k;have C:=r.cell 0 rfl;have R:=r.cell 1 rfl;have K:=p.cell 0 rfl;have t:=p.cell 1 rfl;clear s q T Y;have hB:=hid (And.intro r p);have D:=a8L;go_enter Tryz.func181,Tryz.ntmps181
 go_wp2_with fail
 go_region_with (first|(go_at_call 187;(with_reducible refine(a3W (a0e X b 2) W.drew _ x h J).mono ?_);rintro e w5 ⟨a,u5,rfl,s5,a5,c5,l5,rfl,B,G,Z⟩;have i:=hB.out.1.ext0 (f.trans a);have j:=hB.out.2.ext0 (f.trans a);have L:=i.cell 0 rfl;have A:=i.cell 1 rfl;have P:=j.cell 0 rfl;have F:=j.cell 1 rfl)|(go_at_call 187;(with_reducible refine(a3W (a0e X b 2) w5 _ y (HX.ext h a) (mkx ZV.mono E a)).mono ?_);rintro e Q ⟨g,u6,rfl,s6,a6,c6,l6,rfl,N,M,S⟩;have H:=HX.ext (HX.ext h a) g;have U:NV (mk (a0e X b 2) Q) (.slice a5 l5.length c5) x.natAbs:=NC.nv ⟨a5,c5,l5,rfl,B,G.2,Z.mono (a0c.mono _) (a0l g)⟩ (by have:=d.out;omega);have O:NV (mk (a0e X b 2) Q) (.slice a6 l6.length c6) y.natAbs:=NC.nv ⟨a6,c6,l6,rfl,N,M.2,S⟩ (by have:=c.out;omega))|(go_at_call 248;(with_reducible refine(c0h (a0e X b 2) Q _ _ _ _ H U O d.out c.out).mono ?_);rintro e w7 ⟨V,u7,rfl,I⟩))
 all_goals
  have a0:=z.trans (f.trans (a.trans (g.trans V)));clear L A P F C R K t D;go_wp2_with fail
  go_ret
  exact⟨a0,_,rfl,NC.mono _ _ _ _ a0n I⟩
def c1s (X:Nat->Bool) (w:World) (q:Int) (e:Ending) (w':World):Prop:=Ext w w'/\∃u sv av nv cv,e= .returned (.tuple #[u, .agg #[.bool sv, .slice av nv cv], .bool true])/\ZC (mk X w') u q
theorem a5P {P:Program} {w:World} {p:Func} {a:Array Value} {c q d:Tmp} {t:TypeId} {n b b':Nat} {k e:Array Value} {T r:TypeId} (h:p.results=#[.cell c t, .cell q t, .tmp d]) (o:a.getD c undef= .pointer (some ⟨b,0,none⟩)) (g:a.getD q undef= .pointer (some ⟨b',0,none⟩)) (m:a1D P t n) (u:Bx w b k T) (j:k.size=n) (i:Bx w b' e r) (f:e.size=n):
  (results p a).run P w= .ok (.tuple #[.agg k, .agg e,a.getD d undef]) w:=by
 have s:=a2b (P:=P) m u j;have l:=a2b (P:=P) m i f;rw[Array.getD_eq_getD_getElem?]at o g;simp[results,h,o,g,asAddr,s,l]
set_option maxRecDepth 100000 in
set_option maxHeartbeats 800000 in
theorem b5B (X:Nat->Bool) (w:World) (u v:Value) (x y:Int) (hX:HX X w) (hu:ZV (mk X w) u x) (hv:ZV (mk X w) v y) (d1:lg x.natAbs<=274877906944) (b9:lg y.natAbs<=274877906944) (h0:0<y) (hd:y∣x):Calls Tryz.prog 182 #[u,v] w (c1s X w (x/y)):=by
 have d8:=hid d1;have b6:=hid b9;have hq:Hid (∃k:Int,x=y*k/\x/y=k):=hid (by
  obtain⟨k,rfl⟩:=hd;exact⟨k,rfl,Int.mul_ediv_cancel_left _ (by omega)⟩)
 have M:=hid h0;clear d1 b9 hd h0;have f2:=hid hu.lg;have g0:=hid hv.lg;obtain⟨s1,a1,c1,l1,rfl,f1⟩:=id hu;obtain⟨s2,a2,c2,l2,rfl,g6⟩:=id hv;obtain⟨W,hW,hE,H,D,b2,b3,hz⟩:=c0i w #[.bool s1, .slice a1 l1.length c1] #[.bool s2, .slice a2 l2.length c2] #[.bool false, .slice none 0 0] #[.bool false, .slice none 0 0] 43 43 43 43;have d5:HX (a0e X w.heap.size 4) W:=hX.boxes hz;have a8:=ZV.mono _ _ _ _ (a0o (nb:=4) hE) hu;have U:=ZV.mono _ _ _ _ (a0o (nb:=4) hE) hv;obtain⟨b,hb⟩:∃b,w.heap.size=b:=⟨_,rfl⟩;have g5:w.heap.size<=b:=by omega
 rw[hb]at H D b2 b3 hz d5 a8 U;have g:Ext W W.drew:=(ExtX.refl W).drew;have O:HX (a0e X b 4) W.drew:=d5;have b8:ZV (mk (a0e X b 4) W.drew) (.agg #[.bool s1, .slice a1 l1.length c1]) x:=a8;have b7:ZV (mk (a0e X b 4) W.drew) (.agg #[.bool s2, .slice a2 l2.length c2]) y:=U;have o:=H.cell 0 rfl;have n:=H.cell 1 rfl;have l:=D.cell 0 rfl;have j:=D.cell 1 rfl;clear hu hv f1 g6;go_enter Tryz.func182,Tryz.ntmps182
 go_upto_region 1 with(fail)
 go_cut []from 10 to 13 (fun V=>∃s3 a3 c3 l3 s4 a4 c4 l4,Bx V b #[.bool s3, .slice a3 l3 c3] 43/\Bx V (b+1) #[.bool s4, .slice a4 l4 c4] 43/\Bx V (b+1+1) #[.bool false, .slice none 0 0] 43/\Bx V (b+1+1+1) #[.bool false, .slice none 0 0] 43/\ZC (mk (a0e X b 4) V) (.agg #[.bool s3, .slice a3 l3 c3]) x/\ZC (mk (a0e X b 4) V) (.agg #[.bool s4, .slice a4 l4 c4]) y/\Ext w V)
 case first=>
  go_region_with (first|(go_at_call 187;(with_reducible refine(a3W (a0e X b 4) W.drew _ x O b8).mono ?_);rintro e w5 ⟨c,u5,rfl,s5,a5,c5,l5,rfl,B,t,I⟩;have p:=H.ext0 (g.trans c);have q:=D.ext0 (g.trans c);have g2:=p.cell 0 rfl;have f5:=p.cell 1 rfl;have e6:=q.cell 0 rfl;have f8:=q.cell 1 rfl)|(go_at_call 187;(with_reducible refine(a3W (a0e X b 4) w5 _ y (HX.ext O c) (mkx ZV.mono b7 c)).mono ?_);rintro e w6 ⟨a,u6,rfl,Z,T,P,Q,rfl,r,m,s⟩;have f:=p.ext0 a;have i:=q.ext0 a;have f0:=f.cell 0 rfl;have e3:=f.cell 1 rfl;have f9:=i.cell 0 rfl;have f7:=i.cell 1 rfl;have d9:=f.frozen 0;have g7:=f.frozen 1;have g1:=i.frozen 0;have g4:=i.frozen 1))
  all_goals
   obtain⟨wf,d6,q0,q1,q2,q3,q4⟩:=a2q (X:=X) (nb:=4) f i (hE.trans ((g.trans c).trans a)) g5 (by omega) (.bool s5) (.slice a5 l5.length c5) (.bool Z) (.slice T Q.length P);rw[d6];have e2:ZC (mk (a0e X b 4) wf) (.agg #[.bool s5, .slice a5 l5.length c5]) x:=⟨s5,a5,c5,l5,rfl,B,t,(I.mono (a0c.mono _) (a0l a)).mono (a0c.mono _) q4⟩;have e8:ZC (mk (a0e X b 4) wf) (.agg #[.bool Z, .slice T Q.length P]) y:=⟨Z,T,P,Q,rfl,r,m,s.mono (a0c.mono _) q4⟩;have q5:=q2 (b+1+1) _ _ (by omega) (by omega) ((b2.ext0 (g.trans c)).ext0 a);have q6:=q2 (b+1+1+1) _ _ (by omega) (by omega) ((b3.ext0 (g.trans c)).ext0 a);clear g2 f5 e6 f8 f0 e3 f9 f7 d9 g7 g1 g4 o n l j d6;go_wp2_with fail
   go_meet
   exact⟨_,_,_,_,_,_,_,_,q0,q1,q5,q6,e2,e8,q3⟩
 case rest=>
  clear o n l j H D b2 b3 a8 U b8 b7 O g hW;obtain⟨s3,a3,c3,n3,s4,a4,c4,n4,H,D,b2,b3,hx,hy,L⟩:=hcut;obtain⟨_,_,_,l3,z,g8,C,e9⟩:=hx;simp only[Value.agg.injEq,Array.mk.injEq,List.cons.injEq,Value.bool.injEq,Value.slice.injEq,and_true]at z;obtain⟨rfl,rfl,rfl,rfl⟩:=z;obtain⟨_,_,_,l4,z,f6,G,f4⟩:=hy;simp only[Value.agg.injEq,Array.mk.injEq,List.cons.injEq,Value.bool.injEq,Value.slice.injEq,and_true]at z;obtain⟨rfl,rfl,rfl,rfl⟩:=z;have b4:=hid (a3V C);have f3:=hid (a3V G);have d7:=hid C.1;have c9:=hid G.1;have g:Ext wc wc.drew:=(ExtX.refl wc).drew;have e4:NV (mk (a0e X b 4) wc) (.slice a3 l3.length c3) x.natAbs:=NC.nv ⟨a3,c3,l3,rfl,g8,C.2,e9⟩ (by have:=f2.out;omega);have g3:NV (mk (a0e X b 4) wc) (.slice a4 l4.length c4) y.natAbs:=NC.nv ⟨a4,c4,l4,rfl,f6,G.2,f4⟩ (by have:=g0.out;omega);have e5:w.heap.size+4<=wc.heap.size:=by have:=b3.lt;omega
  have d0:HX (a0e X b 4) wc:=hX.boxes' L (by omega) e5;have o:=H.cell 0 rfl;have n:=H.cell 1 rfl;have l:=D.cell 0 rfl;have j:=D.cell 1 rfl;have b5:Hid (0<y.natAbs):=hid (by have:=M.out;omega);have c8:Hid (x.natAbs%y.natAbs=0):=hid (by
   obtain⟨k,hk,_⟩:=hq.out;rw[hk,Int.natAbs_mul];exact Nat.mul_mod_right _ _)
  obtain rfl:s4=false:=by rw[c9.out];exact decide_eq_false (by have:=M.out;omega)
  have J:Hid (sg s3 (x.natAbs/y.natAbs)=x/y):=hid (by
   obtain⟨k,hk,e0⟩:=hq.out;have h0:=M.out;have e1:=b4.out;rw[e0];have e7:x.natAbs/y.natAbs=k.natAbs:=by rw[hk,Int.natAbs_mul];exact Nat.mul_div_cancel_left _ b5.out
   rw[e7,d7.out];have hs:(x<0)=(k<0):=by
    rw[hk];exact propext ⟨fun h=>by
     by_cases E:k<0
     ·exact E
     ·have:=Int.mul_nonneg (show 0<=y by omega) (show 0<=k by omega);omega,fun h=>Int.mul_neg_of_pos_of_neg h0 h⟩
   unfold sg;simp only[hs];by_cases E:k<0
   ·simp only[E,decide_true,if_true];omega
   ·simp only[E,decide_false,Bool.false_eq_true,if_false];omega)
  clear d7 c9 b4 f3 C G g;go_wp2_with fail
  refine(c0g (a0e X b 4) wc _ _ _ _ d0 e4 g3 d8.out b6.out b5.out).mono ?_;rintro e w5 ⟨c,qu,ru,rfl,c0,d4⟩;rw[c8.out]at d4;obtain⟨a5,c5,l5,rfl,B,t,I⟩:=d4;obtain rfl:l5= []:=List.eq_nil_of_length_eq_zero ((a1o t).2 rfl);have F:=d0.ext c;have p:=H.ext0 c;have q:=D.ext0 c;have f:=b2.ext0 c;have i:=b3.ext0 c;clear o n l j;have o:=p.cell 0 rfl;have n:=p.cell 1 rfl;have l:=q.cell 0 rfl;have j:=q.cell 1 rfl;simp only[List.length_nil];cases s3
  ·
   go_wp2_with fail
   refine(a1N (a0e X b 4) w5 false qu _ F c0).mono ?_;rintro e w6 ⟨a,u6,rfl,Z,T,P,Q,rfl,r,m,s⟩;rw[J.out]at m;go_wp2_with fail
   refine(a1N (a0e X b 4) w6 false _ 0 (F.ext a) (mkx NC.mono ⟨a5,c5,[],rfl,B,t,I⟩ a)).mono ?_;rintro e w7 ⟨d,u7,rfl,s7,a7,c7,l7,rfl,S,a9,R⟩;have d2:=(f.ext0 a).ext0 d;have d3:=(i.ext0 a).ext0 d;have Y:=s.mono (a0c.mono _) (a0l d);have A:=L.trans (c.trans (a.trans d));clear o n l j a9 R S;go_wp2_with ((with_reducible show wpList _ _ _ (⟨_, .store _ _ _,_,_,_,_⟩::_) _ _);first|(refine a0a a0I rfl rfl d2 rfl rfl (a2U _ _ _ _) ?_;intro w8 r1 K;have a0:=d3.ext K (a0b (by omega)))|(refine a0a a0I rfl rfl a0 rfl rfl (a2U _ _ _ _) ?_;intro w9 r3 N))
   have r5:=r1.ext N (a0b (by omega));have h8:=((Y.mono (a0c.mono _) (a0h K (by omega) (by omega))).mono (a0c.mono _) (a0h N (by omega) (by omega))).mono (a0c.mono _) a0n;exact bodyPost_ret (a5P rfl rfl rfl a0I r5 rfl r3 rfl) rfl ⟨ExtX.box (ExtX.box A K (by omega)) N (by omega),_,_,_,_,_,rfl,Z,T,P,Q,rfl,r,m,h8⟩
  ·
   go_wp2_with fail
   refine(a1N (a0e X b 4) w5 true qu _ F c0).mono ?_;rintro e w6 ⟨a,u6,rfl,Z,T,P,Q,rfl,r,m,s⟩;rw[J.out]at m;go_wp2_with fail
   refine(a1N (a0e X b 4) w6 false _ 0 (F.ext a) (mkx NC.mono ⟨a5,c5,[],rfl,B,t,I⟩ a)).mono ?_;rintro e w7 ⟨d,u7,rfl,s7,a7,c7,l7,rfl,S,a9,R⟩;have d2:=(f.ext0 a).ext0 d;have d3:=(i.ext0 a).ext0 d;have Y:=s.mono (a0c.mono _) (a0l d);have A:=L.trans (c.trans (a.trans d));clear o n l j a9 R S;go_wp2_with ((with_reducible show wpList _ _ _ (⟨_, .store _ _ _,_,_,_,_⟩::_) _ _);first|(refine a0a a0I rfl rfl d2 rfl rfl (a2U _ _ _ _) ?_;intro w8 r1 K;have a0:=d3.ext K (a0b (by omega)))|(refine a0a a0I rfl rfl a0 rfl rfl (a2U _ _ _ _) ?_;intro w9 r3 N))
   have r5:=r1.ext N (a0b (by omega));have h8:=((Y.mono (a0c.mono _) (a0h K (by omega) (by omega))).mono (a0c.mono _) (a0h N (by omega) (by omega))).mono (a0c.mono _) a0n;exact bodyPost_ret (a5P rfl rfl rfl a0I r5 rfl r3 rfl) rfl ⟨ExtX.box (ExtX.box A K (by omega)) N (by omega),_,_,_,_,_,rfl,Z,T,P,Q,rfl,r,m,h8⟩
end Go.Proofs.YtidbbddagfnfbaaGreat
namespace Go.Lim
def b7n (a b:Int):Int:=if a<b then -1 else if b<a then 1 else 0
theorem b8B (x y:Int):(x.sign<y.sign->b7n x y= -1)/\(y.sign<x.sign->b7n x y=1)/\(x.sign=y.sign->x.sign*a3a x.natAbs y.natAbs=b7n x y):=by
 have hs:∀z:Int,(z<0/\z.sign= -1)\/(z=0/\z.sign=0)\/(0<z/\z.sign=1):=fun z=>by
  rcases Int.lt_trichotomy z 0 with h|h|h
  ·exact .inl ⟨h,Int.sign_eq_neg_one_of_neg h⟩
  ·subst h;exact .inr (.inl ⟨rfl,rfl⟩)
  ·exact .inr (.inr ⟨h,Int.sign_eq_one_of_pos h⟩)
 unfold b7n a3a;rcases hs x with⟨h1,e1⟩|⟨h1,e1⟩|⟨h1,e1⟩<;>rcases hs y with⟨h2,e2⟩|⟨h2,e2⟩|⟨h2,e2⟩<;>rw[e1,e2]
 all_goals refine⟨fun h=>?_,fun h=>?_,fun h=>?_⟩
 all_goals first
  |omega
  |(repeat' split)<;>omega
end Go.Lim
namespace Go.Proofs.YtidbbddagfnfbaaGreat
open Go.RowKit Go.Rep Go.Lim
theorem c1t (X:Nat->Bool) (w:World) (v:Int) (D:HX X w) (L: -9223372036854775808<=v) (J:v<=9223372036854775807):Calls Tryz.prog 174 #[.int .i64 v] w (a1Z X w ZC v):=by
 obtain⟨W,M,A,t,C⟩:=a1g w #[.bool false, .slice none 0 0] 43;have c:HX (a0e X w.heap.size 1) W:=D.boxes C;obtain⟨b,F⟩:∃b,w.heap.size=b:=⟨_,rfl⟩;have I:w.heap.size<=b:=by omega
 rw[F]at t C c;have x:Hid (v.natAbs<18446744073709551616):=hid (by omega);by_cases K:v<0
 ·have B:Hid (sg true v.natAbs=v):=hid (by unfold sg;simp;omega)
  have r:Hid (IntKind.u64.wrap (-(IntKind.u64.wrap v))=(v.natAbs:Int)):=hid (by rw[IntKind.wrap_u64,IntKind.wrap_u64];omega);go_enter Tryz.func174,Tryz.ntmps174
  go_wp2_with fail
  rw[r.out];refine(c0f (X:=a0e X b 1) c x.out).mono ?_;rintro e q ⟨a,y,rfl,j⟩;go_wp2_with fail
  refine(a2M (a0e X b 1) q true y _ (c.ext a) j).mono ?_;rintro e E ⟨d,G,rfl,u,s,m,p,rfl,g,f,i⟩;rw[B.out]at f;have h:=(t.ext0 a).ext0 d;go_wp2_with ((with_reducible show wpList _ _ _ (⟨_, .store _ _ _,_,_,_,_⟩::_) _ _);refine a0a a0I rfl rfl h rfl rfl (a2U _ _ _ _) ?_;intro H o l)
  have z:=(i.mono (a0c.mono _) (a0h l (by omega) (by omega))).mono (a0c.mono _) a0n;exact bodyPost_ret (a0d rfl rfl a0I o rfl) rfl ⟨ExtX.box (A.trans (a.trans d)) l (by omega),_,rfl,u,s,m,p,rfl,g,f,z⟩
 ·obtain⟨n,rfl⟩:=Int.eq_ofNat_of_zero_le (show 0<=v by omega)
  have B:Hid (sg false n=(n:Int)):=hid rfl;have k:Hid (n<18446744073709551616):=hid (by omega);go_enter Tryz.func174,Tryz.ntmps174
  go_wp2_with fail
  refine(c0f (X:=a0e X b 1) c k.out).mono ?_;rintro e q ⟨a,y,rfl,j⟩;go_wp2_with fail
  refine(a2M (a0e X b 1) q false y n (c.ext a) j).mono ?_;rintro e E ⟨d,G,rfl,u,s,m,p,rfl,g,f,i⟩;have h:=(t.ext0 a).ext0 d;go_wp2_with ((with_reducible show wpList _ _ _ (⟨_, .store _ _ _,_,_,_,_⟩::_) _ _);refine a0a a0I rfl rfl h rfl rfl (a2U _ _ _ _) ?_;intro H o l)
  have z:=(i.mono (a0c.mono _) (a0h l (by omega) (by omega))).mono (a0c.mono _) a0n;exact bodyPost_ret (a0d rfl rfl a0I o rfl) rfl ⟨ExtX.box (A.trans (a.trans d)) l (by omega),_,rfl,u,s,m,p,rfl,g,f,z⟩
set_option maxRecDepth 100000 in
set_option maxHeartbeats 800000 in
theorem b5C (X:Nat->Bool) (w:World) (u v:Value) (x y:Int) (hX:HX X w) (hu:ZV (mk X w) u x) (hv:ZV (mk X w) v y):Calls Tryz.prog 161 #[u,v] w (a4v w (b7n x y)):=by
 have a7:=hid hu.lg;have a8:=hid hv.lg;obtain⟨s1,a1,c1,l1,rfl,d6⟩:=id hu;obtain⟨s2,a2,c2,l2,rfl,f3⟩:=id hv;obtain⟨W,hW,hE,A,r,hz⟩:=a1v w #[.bool s1, .slice a1 l1.length c1] #[.bool s2, .slice a2 l2.length c2] 43 43;have b4:HX (a0e X w.heap.size 2) W:=hX.boxes hz;have P:=ZV.mono _ _ _ _ (a0o (nb:=2) hE) hu;have N:=ZV.mono _ _ _ _ (a0o (nb:=2) hE) hv;obtain⟨b,hb⟩:∃b,w.heap.size=b:=⟨_,rfl⟩;have f2:w.heap.size<=b:=by omega
 rw[hb]at A r hz b4 P N;have c:Ext W W.drew:=(ExtX.refl W).drew;have g:HX (a0e X b 2) W.drew:=b4;have U:ZV (mk (a0e X b 2) W.drew) (.agg #[.bool s1, .slice a1 l1.length c1]) x:=P;have T:ZV (mk (a0e X b 2) W.drew) (.agg #[.bool s2, .slice a2 l2.length c2]) y:=N;have l:=A.cell 0 rfl;have k:=A.cell 1 rfl;have j:=r.cell 0 rfl;have i:=r.cell 1 rfl;clear hu hv d6 f3;go_enter Tryz.func161,Tryz.ntmps161
 go_upto_region 1 with(fail)
 go_cut []from 7 to 10 (fun wx=>∃s3 I L G s4 H M K,Bx wx b #[.bool s3, .slice I G L] 43/\Bx wx (b+1) #[.bool s4, .slice H K M] 43/\ZC (mk (a0e X b 2) wx) (.agg #[.bool s3, .slice I G L]) x/\ZC (mk (a0e X b 2) wx) (.agg #[.bool s4, .slice H K M]) y/\Ext w wx)
 case first=>
  go_region_with (first|(go_at_call 230;(with_reducible refine(a5O (a0e X b 2) W.drew _ x g U).mono ?_);rintro e w5 ⟨a,u5,rfl,s5,a5,c5,l5,rfl,b9,e7,f4⟩;have E:=A.ext0 (c.trans a);have F:=r.ext0 (c.trans a);have f0:=E.cell 0 rfl;have e1:=E.cell 1 rfl;have d1:=F.cell 0 rfl;have e5:=F.cell 1 rfl)|(go_at_call 230;(with_reducible refine(a5O (a0e X b 2) w5 _ y (HX.ext g a) (mkx ZV.mono T a)).mono ?_);rintro e w6 ⟨d,u6,rfl,s6,a6,c6,l6,rfl,c9,c8,d5⟩;have n:=E.ext0 d;have p:=F.ext0 d;have d4:=n.cell 0 rfl;have c7:=n.cell 1 rfl;have e6:=p.cell 0 rfl;have e3:=p.cell 1 rfl;have b6:=n.frozen 0;have f5:=n.frozen 1;have e9:=p.frozen 0;have f1:=p.frozen 1))
  all_goals
   obtain⟨wf,b5,q0,q1,q2,q3,q4⟩:=a2q (X:=X) (nb:=2) n p (hE.trans ((c.trans a).trans d)) f2 (by omega) (.bool s5) (.slice a5 l5.length c5) (.bool s6) (.slice a6 l6.length c6);rw[b5];have c0:ZC (mk (a0e X b 2) wf) (.agg #[.bool s5, .slice a5 l5.length c5]) x:=⟨s5,a5,c5,l5,rfl,b9,e7,(f4.mono (a0c.mono _) (a0l d)).mono (a0c.mono _) q4⟩;have d2:ZC (mk (a0e X b 2) wf) (.agg #[.bool s6, .slice a6 l6.length c6]) y:=⟨s6,a6,c6,l6,rfl,c9,c8,d5.mono (a0c.mono _) q4⟩;clear f0 e1 d1 e5 d4 c7 e6 e3 b6 f5 e9 f1 l k j i b5;go_wp2_with fail
   go_meet
   exact⟨_,_,_,_,_,_,_,_,q0,q1,c0,d2,q3⟩
 case rest=>
  clear l k j i A r P N U T g c hW;obtain⟨s3,I,L,n3,s4,H,M,n4,A,r,hx,hy,R⟩:=hcut;have b3:=hx.zv a7.out;have Y:=hy.zv a8.out;obtain⟨_,_,_,G,o,f6,s,d3⟩:=hx;simp only[Value.agg.injEq,Array.mk.injEq,List.cons.injEq,Value.bool.injEq,Value.slice.injEq,and_true]at o;obtain⟨rfl,rfl,rfl,rfl⟩:=o;obtain⟨_,_,_,K,o,e2,t,d9⟩:=hy;simp only[Value.agg.injEq,Array.mk.injEq,List.cons.injEq,Value.bool.injEq,Value.slice.injEq,and_true]at o;obtain⟨rfl,rfl,rfl,rfl⟩:=o;have b7:=hid (a3V s);have d8:=hid (a3V t);have O:=hid s.1;have J:=hid t.1;have c:Ext wc wc.drew:=(ExtX.refl wc).drew;have V:NV (mk (a0e X b 2) wc) (.slice I G.length L) x.natAbs:=NC.nv ⟨I,L,G,rfl,f6,s.2,d3⟩ (by have:=a7.out;omega);have b2:NV (mk (a0e X b 2) wc) (.slice H K.length M) y.natAbs:=NC.nv ⟨H,M,K,rfl,e2,t.2,d9⟩ (by have:=a8.out;omega);have d0:w.heap.size+2<=wc.heap.size:=by have:=r.lt;omega
  have e4:HX (a0e X b 2) wc:=hX.boxes' R (by omega) d0;have q:=hid (And.intro A r);have l:=A.cell 0 rfl;have k:=A.cell 1 rfl;have j:=r.cell 0 rfl;have i:=r.cell 1 rfl;have D:=hid (b8B x y);have a9:Hid (∀z:Int,z.sign= -1\/z.sign=0\/z.sign=1):=hid (fun z=>by
   rcases Int.lt_trichotomy z 0 with h|h|h
   ·exact .inl (Int.sign_eq_neg_one_of_neg h)
   ·subst h;exact .inr (.inl rfl)
   ·exact .inr (.inr (Int.sign_eq_one_of_pos h)))
  clear O J b7 d8 s t;have g:HX (a0e X b 2) wc.drew:=e4;have B:ZV (mk (a0e X b 2) wc.drew) (.agg #[.bool s3, .slice I G.length L]) x:=b3;have C:ZV (mk (a0e X b 2) wc.drew) (.agg #[.bool s4, .slice H K.length M]) y:=Y;go_wp2_with fail
  go_region_held3 (fun w'=>w'.cell? ⟨b,0,none⟩=some (.bool s3)/\w'.cell? ⟨b,1,none⟩=some (.slice I G.length L)/\w'.cell? ⟨b+1,0,none⟩=some (.bool s4)/\w'.cell? ⟨b+1,1,none⟩=some (.slice H K.length M))
   (first|exact⟨(q.out.1.ext0 (c.trans a)).cell 0 rfl,(q.out.1.ext0 (c.trans a)).cell 1 rfl,(q.out.2.ext0 (c.trans a)).cell 0 rfl,(q.out.2.ext0 (c.trans a)).cell 1 rfl⟩|exact⟨(q.out.1.ext0 (c.trans (a.trans d))).cell 0 rfl,(q.out.1.ext0 (c.trans (a.trans d))).cell 1 rfl,(q.out.2.ext0 (c.trans (a.trans d))).cell 0 rfl,(q.out.2.ext0 (c.trans (a.trans d))).cell 1 rfl⟩|go_keep)
   (first|(go_at_call 207;(with_reducible refine(b1J (a0e X b 2) wc.drew _ x g B).mono ?_);rintro e w5 ⟨a,rfl⟩)|(go_at_call 207;(with_reducible refine(b1J (a0e X b 2) w5 _ y (HX.ext g a) (mkx ZV.mono C a)).mono ?_);rintro e w6 ⟨d,rfl⟩))
  have f:Ext wc w6:=c.trans (a.trans d);have q0:=q.out.1.ext0 f;have q1:=q.out.2.ext0 f;have a0:=mkx NV.mono V f;have Z:=mkx NV.mono b2 f;have Q:=R.trans f;clear l k j i a d c g B C b3 Y V b2;have l:=q0.cell 0 rfl;have k:=q0.cell 1 rfl;have j:=q1.cell 0 rfl;have i:=q1.cell 1 rfl;have b8:=a9.out x;have e8:=a9.out y;have e0:=hid (show x.sign=x.sign from rfl);generalize O:x.sign=m at*;generalize J:y.sign=sy at*;clear e0 O J;have g1: -1<=m/\m<=1:=by omega
  have f8: -1<=sy/\sy<=1:=by omega
  clear b8 e8;by_cases h1:m<sy
  ·have S:=hid (D.out.1 h1)
   go_wp2_with fail
   go_ret
   exact⟨Q,a0P S.out.symm⟩
  ·by_cases h2:sy<m
   ·have S:=hid (D.out.2.1 h2)
    go_wp2_with fail
    go_ret
    exact⟨Q,a0P S.out.symm⟩
   ·have S:=hid (D.out.2.2 (by omega))
    go_wp2_with fail
    refine(c1i a0 Z).mono ?_;rintro e w7 ⟨d7,rfl⟩;have f7: -1<=a3a x.natAbs y.natAbs/\a3a x.natAbs y.natAbs<=1:=by unfold a3a;split<;>(try split)<;>omega
    generalize a3a x.natAbs y.natAbs=cm at*;have f9: -1<=m*cm/\m*cm<=1:=by
     rcases(by omega:m= -1\/m=0\/m=1)with rfl|rfl|rfl<;>omega
    have g0:IntKind.i64.wrap (m*cm)=m*cm:=IntWalk.i64_in _ (by omega);clear l k j i;go_wp2_with fail
    go_ret
    exact⟨Q.trans d7,a0P S.out⟩
end Go.Proofs.YtidbbddagfnfbaaGreat
namespace Go.Rep
open Go.RowKit Go.Lim
def QV (h:Mem) (u:Value) (q:Rat):Prop:=∃s ao c m bo e d,u= .agg #[.bool s, .slice ao m.length c, .slice bo d.length e]/\m.length<=c/\d.length<=e/\Dig m/\Dig d/\m.length<=68719476736/\d.length<=68719476736/\Sl (a0c .u32) 1 h ao m/\Sl (a0c .u32) 1 h bo d/\b2F s m d=q
def QC (h:Mem) (u:Value) (q:Rat):Prop:=∃s ao c m bo e d,u= .agg #[.bool s, .slice ao m.length c, .slice bo d.length e]/\m.length<=c/\d.length<=e/\a6a s m d q/\Sl (a0c .u32) 1 h ao m/\Sl (a0c .u32) 1 h bo d
theorem QV.mono:a3E QV:=by rintro h q u x a ⟨s,ao,c,m,i,e,d,rfl,o,g,l,f,b,k,n,j,p⟩;exact⟨s,ao,c,m,i,e,d,rfl,o,g,l,f,b,k,n.mono (a0c.mono _) a,j.mono (a0c.mono _) a,p⟩
theorem QC.mono:a3E QC:=by rintro h l u x a ⟨s,ao,c,m,f,e,d,rfl,k,b,i,j,g⟩;exact⟨s,ao,c,m,f,e,d,rfl,k,b,i,j.mono (a0c.mono _) a,g.mono (a0c.mono _) a⟩
theorem b2X (q:Rat):lg (dn q)<=hq q:=b8e q
theorem QC.qv {h:Mem} {u:Value} {q:Rat} (b:QC h u q) (n:hq q<=68719476736):QV h u q:=by
 obtain⟨s,ao,c,m,g,e,d,rfl,k,f,a,j,i⟩:=b;have l:=a0D q;have o:=b2X q;exact⟨s,ao,c,m,g,e,d,rfl,k,f,a.1.2.1,a.2.1,by rw[a.1.len];omega,by rw[a.2.len];omega,j,i,a.val⟩
theorem QC.zero (h:Mem):QC h (.agg #[.bool false, .slice none 0 0, .slice none 0 0]) 0:=⟨false,none,0,[],none,0,[],rfl,Nat.le_refl _,Nat.le_refl _,a6a.zero,Sl.nil _ _ _ _,Sl.nil _ _ _ _⟩
theorem QV.hq {h:Mem} {u:Value} {q:Rat} (f:QV h u q):hq q<=68719476736:=by
 obtain⟨s,ao,c,m,k,e,d,rfl,o,j,i,b,a,g,n,l,rfl⟩:=f;exact a9H s m d _ i b a g (by omega)
theorem QV.elem:Elem QV 3:=⟨QV.mono,by rintro h u x ⟨s,ao,c,m,b,e,d,rfl,_⟩;rfl,by
 rintro h u x ⟨s,ao,c,m,b,e,d,rfl,_⟩ v a;simp[a0i,Value.cells]at a;rcases a with rfl|rfl|rfl<;>rfl,by decide⟩
theorem QC.elem:Elem QC 3:=⟨QC.mono,by rintro h u x ⟨s,ao,c,m,b,e,d,rfl,_⟩;rfl,by
 rintro h u x ⟨s,ao,c,m,b,e,d,rfl,_⟩ v a;simp[a0i,Value.cells]at a;rcases a with rfl|rfl|rfl<;>rfl,by decide⟩
theorem QC.num {h:Mem} {s:Bool} {ao i:Option Addr} {n c k e:Nat} {q:Rat} (l:QC h (.agg #[.bool s, .slice ao n c, .slice i k e]) q):ZC h (.agg #[.bool s, .slice ao n c]) q.num/\NC h (.slice ao n c) q.num.natAbs/\NC h (.slice i k e) (dn q):=by
 obtain⟨_,_,_,m,_,_,d,a,g,o,b,f,j⟩:=l;simp only[Value.agg.injEq,Array.mk.injEq,List.cons.injEq,Value.bool.injEq,Value.slice.injEq,and_true]at a;obtain⟨rfl,⟨rfl,rfl,rfl⟩,rfl,rfl,rfl⟩:=a;exact⟨⟨_,_,_,_,rfl,g,b.1,f⟩,⟨_,_,_,rfl,g,b.1.2,f⟩,⟨_,_,_,rfl,o,b.2,j⟩⟩
theorem QC.shape {h:Mem} {u:Value} {q:Rat} (b:QC h u q):∃s ao n c a k e,u= .agg #[.bool s, .slice ao n c, .slice a k e]:=by
 obtain⟨s,ao,c,m,a,e,d,rfl,_⟩:=b;exact⟨_,_,_,_,_,_,_,rfl⟩
theorem QV.shape {h:Mem} {u:Value} {q:Rat} (b:QV h u q):∃s ao n c a k e,u= .agg #[.bool s, .slice ao n c, .slice a k e]:=by
 obtain⟨s,ao,c,m,a,e,d,rfl,_⟩:=b;exact⟨_,_,_,_,_,_,_,rfl⟩
theorem QC.of {h:Mem} {s:Bool} {ao b:Option Addr} {n c k e:Nat} {q:Rat} (p:ZC h (.agg #[.bool s, .slice ao n c]) q.num) (l:NC h (.slice b k e) (dn q)):QC h (.agg #[.bool s, .slice ao n c, .slice b k e]) q:=by
 obtain⟨_,_,_,m,a,f,g,i⟩:=p;simp only[Value.agg.injEq,Array.mk.injEq,List.cons.injEq,Value.bool.injEq,Value.slice.injEq,and_true]at a;obtain⟨rfl,rfl,rfl,rfl⟩:=a;obtain⟨_,_,d,a,o,j,r⟩:=l;simp only[Value.slice.injEq]at a;obtain⟨rfl,rfl,rfl⟩:=a;exact⟨_,_,_,_,_,_,_,rfl,f,o,⟨g,j⟩,i,r⟩
theorem NC.len0 {h:Mem} {ao:Option Addr} {n c k:Nat} (e:NC h (.slice ao n c) k):n=0↔k=0:=by
 obtain⟨_,_,d,a,f,b,g⟩:=e;simp only[Value.slice.injEq]at a;obtain⟨rfl,rfl,rfl⟩:=a;exact a1o b
theorem a3X (q:Rat):dn q=0↔q.den=1:=by
 unfold dn;split
 ·simp[*]
 ·have:=q.den_nz;omega
end Go.Rep
namespace Go.Proofs.YtidbbddagfnfbaaGreat
open Go.RowKit Go.Rep Go.Lim
theorem a0t:a1D Tryz.prog 45 3:=by
 have h:(Tryz.prog.info? 45).map (fun i=>(i.zero,i.size,i.bytes))=some (some (.agg #[.bool false, .slice none 0 0, .slice none 0 0]),3,56):=by kernel_rfl
 obtain⟨b,c,_,a,_⟩:=info_parts h;exact⟨_,b,Tryz.underlying45,c,a⟩
theorem a1Q (s:Bool) (ao b:Option Addr) (n c k e:Nat):∀v∈(#[Value.bool s, .slice ao n c, .slice b k e]:Array Value).toList,v.oneCell'=true:=by
 intro v a;simp at a;rcases a with rfl|rfl|rfl<;>rfl
theorem c1k (X:Nat->Bool) (w:World) (b:HX X w):Calls Tryz.prog 231 #[] w (a1Z X w NC 1):=by
 have h:=NC.lit b 1 147 (by omega) (by omega);have a:Ext w (w.alloc (.cells #[.int .u32 ((1:Nat):Int)] 147)):=(ExtX.refl w).alloc _;go_enter Tryz.func231,Tryz.ntmps231
 go_wp2_with fail
 go_ret
 exact⟨a,_,rfl,h⟩
theorem a9x (X:Nat->Bool) (w:World) (u:Value) (q:Rat) (t:HX X w) (p:QC (mk X w) u q):Calls Tryz.prog 163 #[u] w (a1Z X w NC q.den):=by
 obtain⟨s,ao,n,c,x,k,e,rfl⟩:=p.shape;obtain⟨W,C,d,o,v⟩:=a1g w #[.bool s, .slice ao n c, .slice x k e] 45;have i:HX X W:=t.ext d;have m:=mkx NC.mono p.num.2.2 d;have a:=m.len0;rw[a3X]at a;obtain⟨b,y⟩:∃b,w.heap.size=b:=⟨_,rfl⟩;rw[y]at o v;have r:=o.cell 2 rfl;by_cases f:k=0
 ·have j:=hid (a.1 f)
  subst f;clear a m;go_enter Tryz.func163,Tryz.ntmps163
  go_wp2_with fail
  refine(c1k X W i).mono ?_;rintro e A ⟨g,B,rfl,l⟩;go_wp2_with fail
  go_ret
  exact⟨d.trans g,_,rfl,by rw[j.out];exact l⟩
 ·have j:Hid (dn q=q.den):=hid (by unfold dn;rw[if_neg (fun h=>f (a.2 h))])
  have z:((k:Int)==0)=false:=a2w (by omega);clear a f;go_enter Tryz.func163,Tryz.ntmps163
  go_wp2_with fail
  go_ret
  exact⟨d,_,rfl,by rw[<-j.out];exact m⟩
end Go.Proofs.YtidbbddagfnfbaaGreat
