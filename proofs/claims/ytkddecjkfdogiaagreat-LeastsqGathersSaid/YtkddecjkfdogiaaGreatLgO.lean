/- law 13: what Gather, Shift, FromMoments of both texts return, for light arguments. Conditions: numbers of few digits. Arguments, opened to lists: []int. Conditions: none. Arguments, opened to lists: rational numbers as they came, rows, matrices of them. Conditions: none. made: Light, LightList, LightMatrix; law 06: light, small. Conditions: none. law 13: list, light. Conditions: none. Arguments, opened: six of them; bounds of integers; []int with its numbers' bounds. Conditions: none. Arguments, opened: api.Rat, api.Moments. Conditions: none. reference 13: SameMoments of equal moments. Conditions: numbers of few digits. Facts of the whole program that each row asks for. Conditions: none. -/
import Derived.Test.YtkddecjkfdogiaaGreatLgN
import Derived.WalkKit
import Derived.ProofKit
import Derived.OpenShut
import Derived.ShutString
import Derived.ChangeOld
import Derived.Below
import Derived.Deep.Slices
import Derived.Deep.Fields
import Derived.ChangeSame
import Derived.Lib.SmallJoins
import Derived.Test.YtkddecjkfdogiaaGreatRows
import Derived.JoinedOf
namespace Go.Lin
open Go.Lim Go.Rep
theorem b5L {m:Mom} {row:List Rat} {v:Rat} {s:Int} (hs:s=1\/s= -1) (hm:BMo 8 m) (hr:BR 2 row) (hv:hq v<=8):BMo 40 (shM m row v s):=by
 have h1:hq (s:Rat)<=2:=by rcases hs with rfl|rfl<;>decide+kernel
 have hf:=a8s hr (by decide);refine⟨fun r hr' q hq'=>?_,fun q hq'=>?_,?_⟩
 ·obtain⟨i,hi,rfl⟩:=List.mem_map.1 (show r∈((List.range row.length).map fun i=>(List.range row.length).map fun j=>ent m.xx i j+(s:Rat)*fn row i*fn row j)from hr')
  obtain⟨j,hj,rfl⟩:=List.mem_map.1 hq';have h2:=a5F hm.1 (by decide) i j;have h3:=a5v (ent m.xx i j) ((s:Rat)*fn row i*fn row j);have h4:=hq_mul ((s:Rat)*fn row i) (fn row j);have h5:=hq_mul (s:Rat) (fn row i);have:=hf i;have:=hf j;omega
 ·obtain⟨i,hi,rfl⟩:=List.mem_map.1 (show q∈((List.range row.length).map fun j=>fn m.xy j+(s:Rat)*fn row j*v)from hq')
  have h2:=a8s hm.2.1 (by decide) i;have h3:=a5v (fn m.xy i) ((s:Rat)*fn row i*v);have h4:=hq_mul ((s:Rat)*fn row i) v;have h5:=hq_mul (s:Rat) (fn row i);have:=hf i;omega
 ·have h3:=a5v m.yy ((s:Rat)*(v*v))
  have h4:=hq_mul (s:Rat) (v*v);have h5:=hq_mul v v;have:=hm.2.2
  show hq (m.yy+(s:Rat)*(v*v))<=40
  omega
def b5M (m:Mom):Prop:=BMo 68719476736 m/\m.xx.length<=1099511627776/\(∀r∈m.xx,r.length<=1099511627776)/\m.xy.length<=1099511627776
theorem b1r {m:Mom} {n B:Nat} (h:BMo B m) (hB:B<=68719476736) (h1:Shp n n m.xx) (h2:m.xy.length=n) (hn:n<=1099511627776):b5M m:=
 ⟨⟨fun r hr q hq=>Nat.le_trans (h.1 r hr q hq) hB,fun q hq=>Nat.le_trans (h.2.1 q hq) hB,Nat.le_trans h.2.2 hB⟩,by rw[h1.1];exact hn,fun r hr=>by rw[h1.2 r hr];exact hn,by rw[h2];exact hn⟩
theorem a7W:b5M ⟨0,[],[],0⟩:=⟨⟨fun r hr=>by simp at hr,fun q hq=>by simp at hq,by decide+kernel⟩,by simp,fun r hr=>by simp at hr,by simp⟩
theorem b5N {m:Mom} {row:List Rat} {v:Rat} {ad:Bool} (hm:BMo 8 m) (hr:BR 2 row) (hv:hq v<=8) (hl:row.length<=5):b5M (shV m row v ad):=by
 unfold shV;split
 ·exact b1r (n:=row.length) (b5L (by cases ad<;>simp) hm hr hv) (by decide) (a6s _ _ _) (by simp[shM]) (by omega)
 ·exact a7W
noncomputable def fmG (m:Mom):Bool:=a2e m&&decide (m.xx.length∉(fmS m).2)
noncomputable def fmL (m:Mom):List Rat:=if fmG m=true then fmC m else[]
noncomputable def fmQ (m:Mom):Rat:=if fmG m=true then m.yy - a2L (fmC m) m.xy else 0
noncomputable def fmK (m:Mom):Int:=if fmG m=true then(a4N m.xx m.xx.length:Int)else 0
noncomputable def fmE (m:Mom):Int:=if a2e m=false then 4 else if fmG m=true then 0 else 11
theorem b5O {m:Mom} (hm:BMo 8 m) (hl:a2e m=true->m.xx.length<=4):BR 20000 (fmL m)/\(fmL m).length<=5/\hq (fmQ m)<=1000000:=by
 unfold fmL fmQ;cases h:fmG m
 ·rw[if_neg (by decide),if_neg (by decide)]
  exact⟨fun q hq=>by simp at hq,by simp,by decide+kernel⟩
 ·unfold fmG at h
  rw[Bool.and_eq_true]at h;obtain⟨_,hf,hsq,hxy,_⟩:=a2C h.1;obtain⟨B1,B2,B3⟩:=hm;obtain⟨hsh,_,_,_,_⟩:=a0A hf;rw[<-hsq]at hsh;have h4:=hl h.1;have hhb:=a5F B1 (by decide);have hcb:BR 20000 (fmC m):=fun q hq=>Nat.le_trans (a6V hsh hhb B2 h4 q hq) (by decide);rw[if_pos rfl,if_pos rfl];refine⟨hcb,by rw[a7b];omega,?_⟩;have h5:=a9l (a7b m) hcb B2 (by decide) (by decide);have h6:=a8O m.yy (a2L (fmC m) m.xy);have h7:=Nat.mul_le_mul h4 (Nat.le_refl (20000+8+1));omega
end Go.Lin
namespace Go.Proofs.YtkddecjkfdogiaaGreat
open Go.RowKit Go.Rep Go.Lim Go.Lin
def Mo2 (w:World) (m:Mom) (c:Int) (e:Ending) (w':World):Prop:=Ext w w'/\∃u,e= .returned (.tuple #[u, .int .i64 c])/\a2y (mk noY w') u m
def Fm4 (w:World) (L:List Rat) (q:Rat) (k c:Int) (e:Ending) (w':World):Prop:=Ext w w'/\∃z u,e= .returned (.tuple #[z,u, .int .i64 k, .int .i64 c])/\RC (mk noY w') z L/\QC (mk noY w') u q
theorem a7c {w:World} {m:Mom} {e:Ending} {w':World} (h:a5l noY w m e w'):Fm4 w (fmL m) (fmQ m) (fmK m) (fmE m) e w':=by
 obtain⟨hE,z,u,k,c,rfl,⟨h1,rfl,rfl,h3,h4⟩|⟨h1,h2,rfl,rfl,h3,h4⟩|⟨h1,h2,rfl,rfl,h3,h4⟩⟩:=h
 ·have hg:fmG m=false:=by unfold fmG;rw[h1];rfl
  unfold fmL fmQ fmK fmE;rw[hg,h1];exact⟨hE,z,u,rfl,h3,h4⟩
 ·have hg:fmG m=false:=by unfold fmG;rw[h1,decide_eq_false fun h=>h h2];rfl
  unfold fmL fmQ fmK fmE;rw[hg,h1];exact⟨hE,z,u,rfl,h3,h4⟩
 ·have hg:fmG m=true:=by unfold fmG;rw[h1,decide_eq_true h2];rfl
  unfold fmL fmQ fmK fmE;rw[hg,h1];exact⟨hE,z,u,rfl,h3,h4⟩
theorem b2P (m:Mom) (hm:BMo 8 m) (hl:a2e m=true->m.xx.length<=4) (hl2:m.xx.length<=1000000):∃L q k c,(BR 68719476736 L/\L.length<=5/\hq q<=68719476736)/\(∀w u,a5g (mk noY w) u m->Calls Tryz.prog 52 #[u] w (Fm4 w L q k c))/\∀w u,a5g (mk noY w) u m->Calls Tryz.prog 68 #[u] w (Fm4 w L q k c):=by
 obtain⟨g1,g2,g3⟩:=b5O hm hl;have hm':BMo 5929 m:=⟨fun r hr q hq=>Nat.le_trans (hm.1 r hr q hq) (by decide),fun q hq=>Nat.le_trans (hm.2.1 q hq) (by decide),Nat.le_trans hm.2.2 (by decide)⟩;refine⟨fmL m,fmQ m,fmK m,fmE m,⟨fun q hq=>Nat.le_trans (g1 q hq) (by decide),g2,Nat.le_trans g3 (by decide)⟩,fun w u hu=>?_,fun w u hu=>?_⟩
 ·cases hok:a2e m
  ·exact(b2O noY w u m (fun k hk=>by cases hk) hu hl2 hok).mono fun e w' h=>a7c h
  ·exact(a7R noY w u m (fun k hk=>by cases hk) hu (hl hok) hm').mono fun e w' h=>a7c h
 ·cases hok:a2e m
  ·exact(a9X noY w u m (fun k hk=>by cases hk) hu hl2 hok).mono fun e w' h=>a7c h
  ·exact(a8B noY w u m (fun k hk=>by cases hk) hu (hl hok) hm').mono fun e w' h=>a7c h
theorem b2Q (m:Mom) (row:List Rat) (v:Rat) (ad:Bool) (hm:BMo 8 m) (hr:BR 2 row) (hv:hq v<=8) (hl:row.length<=5) (hl2:m.xx.length<=1000000):∃n c,b5M n/\(∀w u r t,a5g (mk noY w) u m->RV (mk noY w) r row->QV (mk noY w) t v->Calls Tryz.prog 66 #[u,r,t, .bool ad] w (Mo2 w n c))/\∀w u r t,a5g (mk noY w) u m->RV (mk noY w) r row->QV (mk noY w) t v->Calls Tryz.prog 67 #[u,r,t, .bool ad] w (Mo2 w n c):=by
 refine⟨shV m row v ad,shC m row ad,b5N hm hr hv hl,fun w u r t hu h1 h2=>?_,fun w u r t hu h1 h2=>?_⟩
 ·exact b2M noY w u r t m row v ad 8 (fun k hk=>by cases hk) hu h1 h2 hl2 hm (fun q hq=>Nat.le_trans (hr q hq) (by decide)) hv (by decide)
 ·exact b2N noY w u r t m row v ad 8 (fun k hk=>by cases hk) hu h1 h2 hl2 hm (fun q hq=>Nat.le_trans (hr q hq) (by decide)) hv (by decide)
theorem b2R (x:Mat) (y:List Rat) (hl:x.length<=6) (hc4:colsL x<=4) (hxB:BM 2 x) (hyB:BR 2 y):∃m c,b5M m/\(∀w u v,MV (mk noY w) u x->RV (mk noY w) v y->Calls Tryz.prog 51 #[u,v] w (Mo2 w m c))/\∀w u v,MV (mk noY w) u x->RV (mk noY w) v y->Calls Tryz.prog 65 #[u,v] w (Mo2 w m c):=by
 cases hok:a5L x y
 ·refine⟨⟨0,[],[],0⟩,6,a7W,fun w u v hu hv=>?_,fun w u v hu hv=>?_⟩
  ·exact(a9T noY w u v x y (fun k hk=>by cases hk) hu hv hok (by omega)).mono fun e w' ⟨h1,h2⟩=>⟨h1,_,h2,a2q _⟩
  ·exact(a9V noY w u v x y (fun k hk=>by cases hk) hu hv hok (by omega)).mono fun e w' ⟨h1,h2⟩=>⟨h1,_,h2,a2q _⟩
 ·have hhb:=a5F hxB (by decide)
  have hbmM:BMo 5929 (gmM x y (colsL x) x.length):=⟨a5k (a7K hhb (by omega) (by decide)),a7L hhb hyB (by omega) (by decide),Nat.le_trans (a8r (B:=4) fun r _=>Nat.le_trans (hq_mul _ _) (by have:=a8s hyB (by decide) r;omega)) (by omega)⟩;refine⟨gmM x y (colsL x) x.length,0,b1r hbmM (by decide) (a2u x x.length (colsL x)) (a6T x y x.length (colsL x)) (by omega),fun w u v hu hv=>?_,fun w u v hu hv=>?_⟩
  ·exact a6m noY w u v x y x.length (colsL x) 2 (fun k hk=>by cases hk) hu hv hok rfl rfl (by omega) hc4 hxB hyB (by decide) (by decide)
  ·exact a9W noY w u v x y x.length (colsL x) 2 (fun k hk=>by cases hk) hu hv hok rfl rfl (by omega) hc4 hxB hyB (by decide) (by decide)
open Go.ChangeShapes Go.WideShapes Go.ChangeAt Go.Deep
section
variable {H:Type} {enc:TypeId×Value->H} {w:World} {base:Nat} {spare:Nat->Bool} {held:Bool}
theorem a1i {x:Addr} {v:Value} (h:w.cell? (x.add 0)=some v):(∀j,x.add j=adr (some x) j)/\∃b off,x=⟨b,off,none⟩:=by
 have hs:=World.cell?_spot h;obtain⟨b,off,spot⟩:=x;have hspot:spot=none:=by simpa[Addr.add]using hs
 subst hspot;exact⟨fun j=>by rw[Addr.add_lit];simp[adr],b,off,rfl⟩
end
end Go.Proofs.YtkddecjkfdogiaaGreat
namespace Go.Rep
open Go.RowKit Go.Lim
abbrev a2M:=Bool×List Nat×List Nat
def QR (h:Mem) (u:Value) (x:a2M):Prop:=∃ao c bo e,u= .agg #[.bool x.1, .slice ao x.2.1.length c, .slice bo x.2.2.length e]/\x.2.1.length<=c/\x.2.2.length<=e/\Dig x.2.1/\Dig x.2.2/\x.2.1.length<=9223372036854775807/\x.2.2.length<=9223372036854775807/\Sl (a0c .u32) 1 h ao x.2.1/\Sl (a0c .u32) 1 h bo x.2.2
theorem QR.mono:a3n QR:=by rintro h h' u x hl ⟨ao,c,bo,e,rfl,h1,h2,h3,h4,h5,h6,h7,h8⟩;exact⟨ao,c,bo,e,rfl,h1,h2,h3,h4,h5,h6,h7.mono (a0c.mono _) hl,h8.mono (a0c.mono _) hl⟩
theorem QR.elem:Elem QR 3:=⟨QR.mono,by rintro h u x ⟨ao,c,bo,e,rfl,_⟩;rfl,by
 rintro h u x ⟨ao,c,bo,e,rfl,_⟩ v hv;simp[a0m,Value.cells]at hv;rcases hv with rfl|rfl|rfl<;>rfl,by decide⟩
theorem QR.shape {h:Mem} {u:Value} {x:a2M} (hu:QR h u x):∃ao c bo e,u= .agg #[.bool x.1, .slice ao x.2.1.length c, .slice bo x.2.2.length e]:=by
 obtain⟨ao,c,bo,e,rfl,_⟩:=hu;exact⟨_,_,_,_,rfl⟩
theorem QR.agg:∀h u y,QR h u y->∃cs,u= .agg cs:=by rintro h u x ⟨ao,c,bo,e,rfl,_⟩;exact⟨_,rfl⟩
noncomputable def a9Y (x:a2M):Rat:=b0o x.1 x.2.1 x.2.2
abbrev Few (k:Nat) (x:a2M):Prop:=x.2.1.length<=k/\x.2.2.length<=k
theorem QR.qv {h:Mem} {u:Value} {x:a2M} (hu:QR h u x) (hf:Few 68719476736 x):QV h u (a9Y x):=by
 obtain⟨ao,c,bo,e,rfl,h1,h2,h3,h4,_,_,h7,h8⟩:=hu;exact⟨_,ao,c,_,bo,e,_,rfl,h1,h2,h3,h4,hf.1,hf.2,h7,h8,rfl⟩
theorem QR.hq {h:Mem} {u:Value} {x:a2M} {k:Nat} (hu:QR h u x) (hf:Few k x) (hk:1<=k):hq (a9Y x)<=k:=by
 obtain⟨ao,c,bo,e,rfl,h1,h2,h3,h4,_,_,h7,h8⟩:=hu;exact b0p _ _ _ k h3 h4 hf.1 hf.2 hk
theorem Sl.qvR {h:Mem} {ao:Option Addr} {l:List a2M} (s:Sl QR 3 h ao l) (hf:∀x∈l,Few 68719476736 x):Sl QV 3 h ao (l.map a9Y):=
 ⟨fun hp=>s.1 (by simpa using hp),fun i hi=>by
  have hi':i<l.length:=by simpa using hi
  obtain⟨u,h1,h2,h3⟩:=s.2 i hi';exact⟨u,h1,h2,by rw[List.getElem_map];exact h3.qv (hf _ (List.getElem_mem _))⟩⟩
theorem Sl.brR {h:Mem} {ao:Option Addr} {l:List a2M} {k:Nat} (s:Sl QR 3 h ao l) (hf:∀x∈l,Few k x) (hk:1<=k):BR k (l.map a9Y):=fun q hq=>by
 obtain⟨x,hx,rfl⟩:=List.mem_map.1 hq;obtain⟨i,hi,rfl⟩:=List.getElem_of_mem hx;obtain⟨u,h1,h2,h3⟩:=s.2 i hi;exact h3.hq (hf _ (List.getElem_mem _)) hk
abbrev RR:Mem->Value->List a2M->Prop:=SlV QR 3
abbrev MR:Mem->Value->List (List a2M)->Prop:=SlV RR 1
theorem RR.mono:a3n RR:=SlV.mono QR.mono 3
theorem RR.elem:Elem RR 1:=SlV.elem QR.elem
theorem MR.mono:a3n MR:=SlV.mono RR.mono 1
theorem RR.rv {h:Mem} {u:Value} {l:List a2M} (hu:RR h u l) (hf:∀x∈l,Few 68719476736 x):RV h u (l.map a9Y):=by
 obtain⟨ao,c,rfl,h1,h2⟩:=hu;exact⟨ao,c,by rw[List.length_map],by rw[List.length_map];exact h1,h2.qvR hf⟩
theorem RR.br {h:Mem} {u:Value} {l:List a2M} {k:Nat} (hu:RR h u l) (hf:∀x∈l,Few k x) (hk:1<=k):BR k (l.map a9Y):=by
 obtain⟨ao,c,rfl,h1,h2⟩:=hu;exact h2.brR hf hk
noncomputable def a9Z (m:List (List a2M)):List (List Rat):=m.map fun r=>r.map a9Y
theorem MR.mv {h:Mem} {u:Value} {m:List (List a2M)} (hu:MR h u m) (hf:∀r∈m,∀x∈r,Few 68719476736 x):MV h u (a9Z m):=by
 obtain⟨ao,c,rfl,h1,h2⟩:=hu;refine⟨ao,c,by rw[a9Z,List.length_map],by rw[a9Z,List.length_map];exact h1,fun hp=>h2.1 (by simpa[a9Z]using hp),fun i hi=>?_⟩;have hi':i<m.length:=by simpa[a9Z]using hi
 obtain⟨u,k1,k2,k3⟩:=h2.2 i hi';exact⟨u,k1,k2,by simp only[a9Z,List.getElem_map];exact RR.rv k3 (hf _ (List.getElem_mem _))⟩
theorem MR.bm {h:Mem} {u:Value} {m:List (List a2M)} {k:Nat} (hu:MR h u m) (hf:∀r∈m,∀x∈r,Few k x) (hk:1<=k):BM k (a9Z m):=fun r hr=>by
 obtain⟨ao,c,rfl,h1,h2⟩:=hu;obtain⟨y,hy,rfl⟩:=List.mem_map.1 hr;obtain⟨i,hi,rfl⟩:=List.getElem_of_mem hy;obtain⟨u,k1,k2,k3⟩:=h2.2 i hi;exact RR.br k3 (hf _ (List.getElem_mem _)) hk
end Go.Rep
namespace Go.Proofs.YtkddecjkfdogiaaGreat
open Go.ChangeShapes Go.WideShapes Go.ChangeAt Go.RowKit Go.Rep Go.Deep Go.Lim
section
variable {H:Type} {enc:TypeId×Value->H} {w:World} {base:Nat} {spare:Nat->Bool} {held:Bool}
theorem a9p {α:Type} {R:Mem->Value->α->Prop} {t e:TypeId} {sz:Nat} (ht:Tryz.prog.underlying t=some (.slice e)) (hC:Tryz.prog.cellsOf e=sz) (hz:0<sz) (hsize:∀h u x,R h u x->u.cells.size=sz)
  (hel:∀(n:Nat) (cs:List Value) (y:DataW H×List MemPlace),cs.length=sz->DataW.trod enc Tryz.prog w base spare held n e cs=some y->∃u x,a0m u=cs/\R w.cell? u x)
  {fuel:Nat} {v:Value} {x:DataW H×List MemPlace} (h:DataW.trod enc Tryz.prog w base spare held fuel t [v]=some x):
  ∃(a:Option Addr) (L:List α) (cap:Nat),v= .slice a L.length cap/\L.length<=cap/\cap<=9223372036854775807/\Sl R sz w.cell? a L:=by
 rcases open_slice ht h with⟨hcs,_⟩|⟨x,len,c,m,n,D,Pl,hcs,_,hl,hm,hmm,_,hi⟩
 ·exact⟨none,[],0,by simpa using hcs,by simp,by simp,Sl.nil _ _ _ _⟩
 ·have hml:len<=m:=by rw[hmm];split<;>omega
  have hmax:c<=9223372036854775807:=by simpa[maxLen]using hm
  have key:∀k,k<=len->∃L:List α,L.length=k/\∀i (hi:i<L.length),∃u,u.cells.size=sz/\(∀j (hj:j<u.cells.size),w.cell? (x.add (i*sz+j))=some u.cells[j])/\R w.cell? u L[i]:=by
   intro k
   induction k with
   |zero=>intro _;exact⟨[],rfl,by simp⟩
   |succ k ih=>
    intro hk;obtain⟨L,h1,h3⟩:=ih (by omega);obtain⟨cs',hc,ht'⟩:=hi k (by omega);rw[hC]at hc;obtain⟨_,hcl,hat⟩:=World.cells?_some hc;obtain⟨u,y,hu,hR⟩:=hel n cs' _ hcl ht';refine⟨L++[y],by simp[h1],fun i hi=>?_⟩;by_cases hik:i<L.length
    ·obtain⟨u,q1,q2,q3⟩:=h3 i hik
     exact⟨u,q1,q2,by simpa[List.getElem_append_left hik]using q3⟩
    ·have hik2:i=k:=by simp at hi;omega
     subst hik2;refine⟨u,hsize _ _ _ hR,fun j hj=>?_,?_⟩
     ·have hj2:j<sz:=by rw[hsize _ _ _ hR]at hj;exact hj
      have h5:=hat j (by omega);rw[Go.Deep.add_add]at h5;rw[h5];have h6:cs'[j]? =(a0m u)[j]?:=by rw[hu]
      rw[h6];simp[a0m,hj]
     ·simp only[h1.symm,List.getElem_concat_length]
      exact hR
  obtain⟨L,h1,h3⟩:=key len (Nat.le_refl _);refine⟨some x,L,c,by rw[h1];simpa using hcs,by omega,by omega,⟨fun h0=>?_,fun i hi=>?_⟩⟩
  ·obtain⟨u,q1,q2,_⟩:=h3 0 h0
   obtain⟨_,b,off,hx⟩:=a1i (by simpa using q2 0 (by omega));exact⟨b,off,by rw[hx]⟩
  ·obtain⟨u,q1,q2,q3⟩:=h3 i hi
   obtain⟨v,p1,p2,_⟩:=h3 0 (by omega);have ha:=(a1i (by simpa using p2 0 (by omega))).1;exact⟨u,q1,fun j hj=>by rw[<-ha];exact q2 j hj,q3⟩
theorem b1s {fuel:Nat} {v:Value} {x:DataW H×List MemPlace} (h:DataW.trod enc Tryz.prog w base spare held fuel 28 [v]=some x):
  ∃(a:Option Addr) (l:List Nat) (cap:Nat),v= .slice a l.length cap/\l.length<=cap/\l.length<=9223372036854775807/\Dig l/\Sl (a0c .u32) 1 w.cell? a l:=by
 rcases open_ints Tryz.underlying28 Tryz.underlying118 (by kernel_rfl) h with⟨hcs,_⟩|⟨x,len,c,zs,hcs,_,hl,hm,hz,_,hcell,hwf⟩
 ·exact⟨none,[],0,by simpa using hcs,by simp,by simp,by simp[Dig],Sl.nil _ _ _ _⟩
 ·have hzl:len<=zs.length:=by
   rw[hz];split<;>omega
  have hr:∀n∈zs,0<=n/\n<4294967296:=fun n hn=>by
   have:=hwf n hn;unfold Lit.wf at this;have:0<=n/\n<=4294967295:=by simpa[IntKind.min,IntKind.max,IntKind.signed,IntKind.bits]using this
   omega
  have hlen:((zs.take len).map Int.toNat).length=len:=by simp;omega
  have hmax:c<=9223372036854775807:=by simpa[maxLen]using hm
  refine⟨some x,(zs.take len).map Int.toNat,c,by rw[hlen];simpa using hcs,by omega,by omega,fun d hd=>?_,fun h0=>?_,fun i hi=>?_⟩
  ·obtain⟨z,hz1,rfl⟩:=List.mem_map.1 hd
   have:=hr z (List.mem_of_mem_take hz1);rw[a1d];omega
  ·obtain⟨_,b,off,hx⟩:=a1i (hcell 0 (by omega))
   exact⟨b,off,by rw[hx]⟩
  ·have hi':i<zs.length:=by omega
   have hil:i<len:=by omega
   refine⟨.int .u32 (((zs.take len).map Int.toNat)[i]:Nat),rfl,fun j hj=>?_,rfl⟩;have hj0:j=0:=by simp[Value.cells]at hj;exact hj
   subst hj0;have h1:=hcell i hi';have h2:=(a1i (hcell 0 (by omega))).1 i;rw[h2]at h1;have h3:=hr zs[i] (List.getElem_mem _);simp only[Nat.mul_one,Nat.add_zero,List.getElem_map,List.getElem_take];rw[h1];simp[List.getD_eq_getElem?_getD,hi',Value.cells];omega
theorem b1t {fuel:Nat} {cs:List Value} {x:DataW H×List MemPlace} (hl:cs.length=3) (h:DataW.trod enc Tryz.prog w base spare held fuel 32 cs=some x):∃u y,a0m u=cs/\QR w.cell? u y:=by
 obtain⟨ys,n',hn',hy,hlen,hyl,hf⟩:=DataW.trod_struct Tryz.underlying32 h;have c1:Tryz.prog.cellsOf 30=2:=by kernel_rfl
 have c2:Tryz.prog.cellsOf 28=1:=by kernel_rfl
 have c3:Tryz.prog.cellsOf 4=1:=by kernel_rfl
 have f0:DataW.trod enc Tryz.prog w base spare held n' 30 ((cs.drop 0).take (Tryz.prog.cellsOf 30))=ys[0]?:=hf 0 _ rfl;have f1:DataW.trod enc Tryz.prog w base spare held n' 28 ((cs.drop 2).take (Tryz.prog.cellsOf 28))=ys[1]?:=hf 1 _ rfl;have hyl2:ys.length=2:=hyl;obtain⟨a,b,c,rfl⟩:∃a b c,cs= [a,b,c]:=by
  rcases cs with _|⟨a,_|⟨b,_|⟨c,_|⟨d,r⟩⟩⟩⟩
  ·simp at hl
  ·simp at hl
  ·simp at hl
  ·exact⟨a,b,c,rfl⟩
  ·simp at hl
 rw[c1]at f0;rw[c2]at f1;rw[List.getElem?_eq_getElem (by omega)]at f0 f1;obtain⟨zs,n2,_,_,_,hzl,hg⟩:=DataW.trod_struct Tryz.underlying30 f0;have g0:DataW.trod enc Tryz.prog w base spare held n2 4 (([a,b].drop 0).take (Tryz.prog.cellsOf 4))=zs[0]?:=hg 0 _ rfl;have g1:DataW.trod enc Tryz.prog w base spare held n2 28 (([a,b].drop 1).take (Tryz.prog.cellsOf 28))=zs[1]?:=hg 1 _ rfl;have hzl2:zs.length=2:=hzl;rw[c3]at g0;rw[c2]at g1;rw[List.getElem?_eq_getElem (by omega)]at g0 g1;obtain⟨a1,m,k1,e1,p1,p2,p3,p4⟩:=b1s g1;obtain⟨a2,d,k2,e2,q1,q2,q3,q4⟩:=b1s f1;obtain⟨s,hs,_⟩:=DataW.trod_bool Tryz.underlying4 g0;have hs:a= .bool s:=by simpa using hs
 subst hs e1 e2;exact⟨.agg #[.bool s, .slice a1 m.length k1, .slice a2 d.length k2],(s,m,d),rfl,a1,k1,a2,k2,rfl,p1,q1,p3,q3,p2,q2,p4,q4⟩
theorem a7d {fuel:Nat} {v:Value} {x:DataW H×List MemPlace} (h:DataW.trod enc Tryz.prog w base spare held fuel 45 [v]=some x):
  ∃(a:Option Addr) (L:List a2M) (cap:Nat),v= .slice a L.length cap/\L.length<=cap/\cap<=9223372036854775807/\Sl QR 3 w.cell? a L:=
 a9p (R:=QR) Tryz.underlying45 (by kernel_rfl) (by decide) QR.elem.size (fun _ _ _ hl h=>b1t hl h) h
theorem a9q {fuel:Nat} {v:Value} {x:DataW H×List MemPlace} (h:DataW.trod enc Tryz.prog w base spare held fuel 25 [v]=some x):
  ∃(a:Option Addr) (L:List (List a2M)) (cap:Nat),v= .slice a L.length cap/\L.length<=cap/\cap<=9223372036854775807/\Sl RR 1 w.cell? a L:=
 a9p (R:=RR) Tryz.underlying25 (by kernel_rfl) (by decide) RR.elem.size (fun _ cs _ hl h=>by
  match cs,hl with
  | [a],_=>
   obtain⟨ao,L,cap,rfl,h1,h2,h3⟩:=a7d h;exact⟨.slice ao L.length cap,L,rfl,ao,cap,rfl,h1,h3⟩) h
end
end Go.Proofs.YtkddecjkfdogiaaGreat
namespace Go.Rep
open Go.RowKit Go.Lim
theorem Sl.raw {X:Nat->Bool} {w:World} {ao:Option Addr} {l:List a2M} (s:Sl QR 3 (mk X w) ao l) (i:Nat) (hi:i<l.length):
  ∃g o a c d e,adr ao (i*3)=⟨g,o,none⟩/\X g=false/\Hid (∀Y W',ExtX Y w W'->Y g=false->W'.cell? ⟨g,o,none⟩=some (.bool l[i].1)/\W'.cell? ⟨g,o+1,none⟩=some (.slice a l[i].2.1.length c)/\W'.cell? ⟨g,o+2,none⟩=some (.slice d l[i].2.2.length e))/\QR (mk X w) (.agg #[.bool l[i].1, .slice a l[i].2.1.length c, .slice d l[i].2.2.length e]) l[i]:=by
 obtain⟨u,h1,h2,h3⟩:=s.2 i hi;obtain⟨a,c,d,e,rfl⟩:=h3.shape;have c0:=h2 0 (by simp[Value.cells]);have c1:=h2 1 (by simp[Value.cells]);have c2:=h2 2 (by simp[Value.cells]);refine⟨(adr ao (i*3)).block,(adr ao (i*3)).off,a,c,d,e,rfl,?_,hid fun Y W' hE hY=>⟨?_,?_,?_⟩,h3⟩
 ·cases hx:X (adr ao (i*3)).block
  ·rfl
  ·have c9:mk X w (adr ao (i*3))=some (.bool l[i].1):=c0
   simp[mk,hx]at c9
 ·exact hE.cellY (a1m c0) hY
 ·exact hE.cellY (a1m c1) hY
 ·exact hE.cellY (a1m c2) hY
theorem Sl.rowR {α:Type} {R:Mem->Value->α->Prop} {sz:Nat} {X:Nat->Bool} {w:World} {ao:Option Addr} {m:List (List α)} (s:Sl (SlV R sz) 1 (mk X w) ao m) (i:Nat) (hi:i<m.length):
  ∃a c,X (adr ao i).block=false/\Hid (∀Y W',ExtX Y w W'->Y (adr ao i).block=false->W'.cell? (adr ao i)=some (.slice a m[i].length c))/\m[i].length<=c/\Sl R sz (mk X w) a m[i]:=by
 obtain⟨u,h1,a,c,rfl,h2,h3⟩:=s.cell SlV.one i hi;refine⟨a,c,?_,hid fun Y W' hE hY=>hE.cellY (a1m h1) hY,h2,h3⟩;cases hx:X (adr ao i).block
 ·rfl
 ·simp[mk,hx]at h1
end Go.Rep
namespace Go.Proofs.YtkddecjkfdogiaaGreat
open Go.RowKit Go.Rep Go.Lim
set_option maxRecDepth 100000 in
theorem a6p (w:World) (s:Bool) (ao bo:Option Addr) (n c k e:Nat):Calls Tryz.prog 64 #[.agg #[.bool s, .slice ao n c, .slice bo k e]] w (a6M w (decide (n<=8)&&decide (k<=8))):=by
 obtain⟨W,hW,hE,b0,hz⟩:=a1q w #[.bool s, .slice ao n c, .slice bo k e] 32;obtain⟨b,hb⟩:∃b,w.heap.size=b:=⟨_,rfl⟩;rw[hb]at b0 hz;have k00:=b0.cell 0 rfl;have k01:=b0.cell 1 rfl;have k02:=b0.cell 2 rfl;clear hz;by_cases h1:n<=8
 ·have h1':(n:Int)<=8:=by omega
  by_cases h2:k<=8
  ·have h2':(k:Int)<=8:=by omega
   have hr:=hid (show true=(decide (n<=8)&&decide (k<=8))by simp[h1,h2]);clear h1 h2;go_enter Tryz.func64,Tryz.ntmps64
   go_wp2_with fail
   go_ret
   exact⟨hE,a0h hr.out⟩
  ·have h2':¬(k:Int)<=8:=by omega
   have hr:=hid (show false=(decide (n<=8)&&decide (k<=8))by simp[h2]);clear h1 h2;go_enter Tryz.func64,Tryz.ntmps64
   go_wp2_with fail
   go_ret
   exact⟨hE,a0h hr.out⟩
 ·have h1':¬(n:Int)<=8:=by omega
  have hr:=hid (show false=(decide (n<=8)&&decide (k<=8))by simp[h1]);clear h1;go_enter Tryz.func64,Tryz.ntmps64
  go_wp2_with fail
  go_ret
  exact⟨hE,a0h hr.out⟩
def a1R (l:List a2M) (most:Nat):Bool:=decide (l.length<=most/\∀x∈l,Few 2 x)
def a4i (m:List (List a2M)):Bool:=decide (m.length<=6/\∀x∈m,a1R x 4=true)
set_option maxRecDepth 100000 in
set_option maxHeartbeats 800000 in
theorem a3R (X:Nat->Bool) (w:World) (u:Value) (r:List a2M) (most:Nat) (hu:RR (mk X w) u r) (hm:most<=1000):Calls Tryz.prog 61 #[u, .int .i64 (most:Int)] w (a6M w (a1R r most)):=by
 obtain⟨ao,ca,rfl,hca,hq1⟩:=hu;have hh1:=hq1.hd;have hno:Hid (¬(r.length<=most/\∀x∈r,Few 2 x)->false=a1R r most):=hid fun h=>(decide_eq_false h).symm;have hyes:Hid ((r.length<=most/\∀x∈r,Few 2 x)->true=a1R r most):=hid fun h=>(decide_eq_true h).symm;by_cases hl:r.length<=most
 ·obtain⟨c,hc⟩:∃c,r.length=c:=⟨_,rfl⟩
  have hc':=hid hc;rw[hc]at hl hh1 hca |-;have hng:¬(most:Int)<(c:Int):=by omega
  clear hc;go_enter Tryz.func61,Tryz.ntmps61
  go_wp2_with fail
  go_loopw [5] (fun cc wr=>∃j:Nat,cc= .int .i64 j/\j<=c/\Hid (∀p (hp:p<r.length),p<j->Few 2 r[p])/\w=wr) (fun cc _=>c - (intOf cc).toNat)
  case atStart=>exact⟨0,rfl,Nat.zero_le _,hid (fun p hp h=>by omega),rfl⟩
  case round=>
   obtain⟨j,rfl,hj,hokj,rfl⟩:=hrel;by_cases hlj:j<c
   ·have hjr:j<r.length:=by rw[hc'.out];exact hlj
    obtain⟨g,o,a2,c2,d2,e2,hg,hX2,hc2,hq2⟩:=hq1.raw j hjr;obtain⟨k10,k11,k12⟩:=hc2.out noY w (ExtX.refl _) rfl;have i2:∀W,(Instr.indexAt 45 (.slice ao c ca) (.int .i64 (j:Int))).run Tryz.prog W= .ok (.pointer (some ⟨g,o,none⟩)) W:=by rw[<-hg];exact a0j a0H ao c ca .i64 j hh1 (by omega)
    have hfew:Hid (Few 2 r[j]->∀p (hp:p<r.length),p<j+1->Few 2 r[p]):=hid fun h p hp hpi=>by
     by_cases e:p=j
     ·subst e;exact h
     ·exact hokj.out p hp (by omega)
    have hbad:Hid (¬Few 2 r[j]->false=a1R r most):=hid fun h=>hno.out fun h2=>h (h2.2 _ (List.getElem_mem _));obtain⟨n1,hn1⟩:∃n1,r[j].2.1.length=n1:=⟨_,rfl⟩;obtain⟨n2,hn2⟩:∃n2,r[j].2.2.length=n2:=⟨_,rfl⟩;have hfd:Hid (Few 2 r[j]↔n1<=2/\n2<=2):=hid (by rw[<-hn1,<-hn2]);rw[hn1]at k11;rw[hn2]at k12;clear hc2 hq2 hg hn1 hn2;by_cases h1:n1<=2
    ·have h1':¬(2:Int)<(n1:Int):=by omega
     by_cases h2:n2<=2
     ·have h2':¬(2:Int)<(n2:Int):=by omega
      have hnext:=hid (hfew.out (hfd.out.2 ⟨h1,h2⟩));clear h1 h2;go_wp2_with fail
      go_roundw
      case rel=>exact⟨j+1,by go_num,by omega,hnext,trivial⟩
      case measure=>simp[intOf];omega
     ·have h2':(2:Int)<(n2:Int):=by omega
      have hend:=hid (hbad.out fun h=>h2 (hfd.out.1 h).2);clear h1 h2;go_wp2_with fail
      go_ret
      exact⟨ExtX.refl _,a0h hend.out⟩
    ·have h1':(2:Int)<(n1:Int):=by omega
     have hend:=hid (hbad.out fun h=>h1 (hfd.out.1 h).1);clear h1;go_wp2_with fail
     go_ret
     exact⟨ExtX.refl _,a0h hend.out⟩
   ·have hjc:j=c:=by omega
    have hr:=hid (hyes.out ⟨by rw[hc'.out];exact hl,fun x hx=>by obtain⟨p,hp,rfl⟩:=List.getElem_of_mem hx;exact hokj.out p hp (by rw[hc'.out]at hp;omega)⟩);subst hjc;go_wp2_with fail
    go_ret
    exact⟨ExtX.refl _,a0h hr.out⟩
 ·have hg:(most:Int)<(r.length:Int):=by omega
  have hr:=hid (hno.out fun h=>hl h.1);clear hl;go_enter Tryz.func61,Tryz.ntmps61
  go_wp2_with fail
  go_ret
  exact⟨ExtX.refl _,a0h hr.out⟩
set_option maxRecDepth 100000 in
theorem a5R (X:Nat->Bool) (w:World) (u:Value) (m:List (List a2M)) (hu:MR (mk X w) u m):Calls Tryz.prog 60 #[u] w (a6M w (a4i m)):=by
 obtain⟨ao,ca,rfl,hca,hsa⟩:=hu;have hh:=hsa.hd;by_cases hl:m.length<=6
 ·have hng:¬(6:Int)<(m.length:Int):=by omega
  have hyes:Hid ((∀p (hp:p<m.length),a1R m[p] 4=true)->a4i m=true):=hid fun h=>decide_eq_true ⟨hl,fun x hx=>by obtain⟨p,hp,rfl⟩:=List.getElem_of_mem hx;exact h p hp⟩;have hno:Hid (∀p (hp:p<m.length),a1R m[p] 4=false->a4i m=false):=hid fun p hp h=>decide_eq_false fun h2=>by have:=h2.2 _ (List.getElem_mem hp);rw[h]at this;simp at this
  obtain⟨n,hn⟩:∃n,m.length=n:=⟨_,rfl⟩;have hn':=hid hn;have hn6:n<=6:=by omega
  rw[hn]at hh hng |-;clear hl hn hca;go_enter Tryz.func60,Tryz.ntmps60
  go_wp2_with fail
  go_loopw [3] (fun cc wr=>∃i:Nat,cc= .int .i64 i/\i<=n/\Hid (∀p (hp:p<m.length),p<i->a1R m[p] 4=true)/\Ext w wr) (fun cc _=>n - (intOf cc).toNat)
  case atStart=>exact⟨0,rfl,Nat.zero_le _,hid (fun p hp h=>by omega),ExtX.refl _⟩
  case round=>
   obtain⟨i,rfl,hi,hok,hE⟩:=hrel;by_cases hlt:i<n
   ·have hil:i<m.length:=by rw[hn'.out];exact hlt
    have hsr:=hsa.mono RR.mono (a0p hE);obtain⟨a1,c1,hX1,hc1,hcl1,hq1⟩:=hsr.rowR i hil;have k00:=hc1.out noY wr (ExtX.refl _) rfl;have hll:Calls Tryz.prog 61 #[.slice a1 m[i].length c1, .int .i64 4] wr (a6M wr (a1R m[i] 4)):=a3R X wr (.slice a1 m[i].length c1) m[i] 4 ⟨a1,c1,rfl,hcl1,hq1⟩ (by omega);clear hc1 hq1;cases hf:a1R m[i] 4
    ·rw[hf]at hll
     have hr:=hid (hno.out i hil hf).symm;clear hf;go_wp2_with (with_reducible refine a0t a0s (by omega) (by assumption) ?_)
     refine hll.mono ?_;rintro ee w5 ⟨hE5,rfl⟩;clear k00;go_wp2_with fail
     go_ret
     exact⟨hE.trans hE5,a0h hr.out⟩
    ·rw[hf]at hll
     have hok2:Hid (∀p (hp:p<m.length),p<i+1->a1R m[p] 4=true):=hid fun p hp hpi=>by
      by_cases h:p=i
      ·subst h;exact hf
      ·exact hok.out p hp (by omega)
     clear hf;go_wp2_with (with_reducible refine a0t a0s (by omega) (by assumption) ?_)
     refine hll.mono ?_;rintro ee w5 ⟨hE5,rfl⟩;clear k00;go_wp2_with fail
     go_roundw
     case rel=>exact⟨i+1,by go_num,by omega,hok2,hE.trans hE5⟩
     case measure=>simp[intOf];omega
   ·have hr:=hid (hyes.out fun p hp=>hok.out p hp (by rw[hn'.out]at hp;omega)).symm
    have hin:i=n:=by omega
    subst hin;go_wp2_with fail
    go_ret
    exact⟨hE,a0h hr.out⟩
 ·have hg:(6:Int)<(m.length:Int):=by omega
  have hr:Hid (false=a4i m):=hid (decide_eq_false fun h=>hl h.1).symm;clear hl;go_enter Tryz.func60,Tryz.ntmps60
  go_wp2_with fail
  go_ret
  exact⟨ExtX.refl _,a0h hr.out⟩
open Go.ChangeShapes Go.WideShapes Go.ChangeAt Go.Deep
section
variable {H:Type} {enc:TypeId×Value->H} {P:Program} {w:World} {base:Nat} {spare:Nat->Bool} {held:Bool}
end
end Go.Proofs.YtkddecjkfdogiaaGreat
namespace Go.Rep
open Go.RowKit Go.Lim
def b6y (h:Mem) (u:Value) (N:Int) (xx:List (List a2M)) (xy:List a2M) (yy:a2M):Prop:=
 ∃xo xc yo yc ao c bo e,u= .agg #[.int .i64 N, .slice xo xx.length xc, .slice yo xy.length yc, .bool yy.1, .slice ao yy.2.1.length c, .slice bo yy.2.2.length e]/\MR h (.slice xo xx.length xc) xx/\RR h (.slice yo xy.length yc) xy/\QR h (.agg #[.bool yy.1, .slice ao yy.2.1.length c, .slice bo yy.2.2.length e]) yy
end Go.Rep
namespace Go.Proofs.YtkddecjkfdogiaaGreat
open Go.ChangeShapes Go.WideShapes Go.ChangeAt Go.RowKit Go.Rep Go.Deep Go.Lim
section
variable {H:Type} {enc:TypeId×Value->H} {w:World} {base:Nat} {spare:Nat->Bool} {held:Bool}
theorem b1u {l:List Value} (h:l.length=6):∃a b c d e f,l= [a,b,c,d,e,f]:=by
 match l,h with
 | [a,b,c,d,e,f],_=>exact⟨a,b,c,d,e,f,rfl⟩
set_option maxRecDepth 100000 in
theorem b5P {r:Reach} {b0:Nat} {v:Value} {d:DataW H} {ps:List MemPlace} (hval:Value.okWide Tryz.prog w r b0 32 v) (h:DataW.Trod enc Tryz.prog w base spare held 32 v d ps):∃x,QR (mk noY w) v x:=by
 obtain⟨cs,rfl,hcs⟩:=okWide_struct Tryz.underlying32 hval;obtain⟨fuel,g⟩:=h;have e0:Tryz.prog.cellsOf 32=3:=by kernel_rfl
 rw[e0]at hcs;have g2:DataW.trod enc Tryz.prog w base spare held fuel 32 cs.toList=some (d,ps):=by simpa only[Value.cells]using g
 obtain⟨u,y,hu,hq⟩:=b1t (cs:=cs.toList) (by rw[Array.length_toList];exact hcs) g2;rw[a3u];obtain⟨ao,k,bo,e,rfl⟩:=hq.shape;have h2:(#[Value.bool y.1, .slice ao y.2.1.length k, .slice bo y.2.2.length e]:Array Value).toList=cs.toList:=hu;rw[<-Array.toList_inj.1 h2];exact⟨y,hq⟩
set_option maxRecDepth 100000 in
theorem b5Q {fuel:Nat} {cs:List Value} {x:DataW H×List MemPlace} (hl:cs.length=6) (h:DataW.trod enc Tryz.prog w base spare held fuel 83 cs=some x):
  ∃(u:Value) (N:Int) (xx:List (List a2M)) (xy:List a2M) (yy:a2M),a0m u=cs/\b6y (mk noY w) u N xx xy yy:=by
 obtain⟨y0,y1,y2,y3,n,_,_,h0,h1,h2,h3⟩:=Go.Joins.trod_struct4 Tryz.underlying83 h;obtain⟨c0,c1,c2,c3,c4,c5,rfl⟩:=b1u hl;have e1:Tryz.prog.cellsOf 3=1:=by kernel_rfl
 have e2:Tryz.prog.cellsOf 25=1:=by kernel_rfl
 have e3:Tryz.prog.cellsOf 45=1:=by kernel_rfl
 have e4:Tryz.prog.cellsOf 32=3:=by kernel_rfl
 have g0:DataW.trod enc Tryz.prog w base spare held n 3 (([c0,c1,c2,c3,c4,c5].drop 0).take (Tryz.prog.cellsOf 3))=some y0:=h0;have g1:DataW.trod enc Tryz.prog w base spare held n 25 (([c0,c1,c2,c3,c4,c5].drop 1).take (Tryz.prog.cellsOf 25))=some y1:=h1;have g2:DataW.trod enc Tryz.prog w base spare held n 45 (([c0,c1,c2,c3,c4,c5].drop 2).take (Tryz.prog.cellsOf 45))=some y2:=h2;have g3:DataW.trod enc Tryz.prog w base spare held n 32 (([c0,c1,c2,c3,c4,c5].drop 3).take (Tryz.prog.cellsOf 32))=some y3:=h3;rw[e1]at g0;rw[e2]at g1;rw[e3]at g2;rw[e4]at g3;have g1':DataW.trod enc Tryz.prog w base spare held n 25 [c1]=some y1:=g1;have g2':DataW.trod enc Tryz.prog w base spare held n 45 [c2]=some y2:=g2;have g3':DataW.trod enc Tryz.prog w base spare held n 32 [c3,c4,c5]=some y3:=g3;obtain⟨N,hN,_,_⟩:=DataW.trod_int Tryz.underlying3 g0;have hN2:c0= .int .i64 N:=by simpa using hN
 obtain⟨xo,xx,xc,rfl,x1,x2,x3⟩:=a9q g1';obtain⟨yo,xy,yc,rfl,z1,z2,z3⟩:=a7d g2';obtain⟨u,yy,hu,hq⟩:=b1t rfl g3';obtain⟨ao,k,bo,e,rfl⟩:=hq.shape;have h2: [Value.bool yy.1, .slice ao yy.2.1.length k, .slice bo yy.2.2.length e]= [c3,c4,c5]:=hu;simp only[List.cons.injEq,and_true]at h2;obtain⟨rfl,rfl,rfl⟩:=h2;subst hN2;exact⟨_,N,xx,xy,yy,rfl,xo,xc,yo,yc,ao,k,bo,e,rfl,⟨xo,xc,rfl,x1,by rw[a3u];exact x3⟩,⟨yo,yc,rfl,z1,by rw[a3u];exact z3⟩,by rw[a3u];exact hq⟩
set_option maxRecDepth 100000 in
theorem b5R {r:Reach} {b0:Nat} {v:Value} {d:DataW H} {ps:List MemPlace} (hval:Value.okWide Tryz.prog w r b0 83 v) (h:DataW.Trod enc Tryz.prog w base spare held 83 v d ps):
  ∃(N:Int) (xx:List (List a2M)) (xy:List a2M) (yy:a2M),b6y (mk noY w) v N xx xy yy:=by
 obtain⟨cs,rfl,hcs⟩:=okWide_struct Tryz.underlying83 hval;obtain⟨fuel,g⟩:=h;have e0:Tryz.prog.cellsOf 83=6:=by kernel_rfl
 rw[e0]at hcs;have g2:DataW.trod enc Tryz.prog w base spare held fuel 83 cs.toList=some (d,ps):=by simpa only[Value.cells]using g
 obtain⟨u,N,xx,xy,yy,hu,xo,xc,yo,yc,ao,c,bo,e,rfl,q⟩:=b5Q (cs:=cs.toList) (by rw[Array.length_toList];exact hcs) g2;have h2:(#[Value.int .i64 N, .slice xo xx.length xc, .slice yo xy.length yc, .bool yy.1, .slice ao yy.2.1.length c, .slice bo yy.2.2.length e]:Array Value).toList=cs.toList:=hu;rw[<-Array.toList_inj.1 h2];exact⟨N,xx,xy,yy,xo,xc,yo,yc,ao,c,bo,e,rfl,q⟩
end
end Go.Proofs.YtkddecjkfdogiaaGreat
namespace Go.Proofs.YtkddecjkfdogiaaGreat
open Go.RowKit Go.Rep Go.Lim Go.Lin
set_option maxRecDepth 100000 in
set_option maxHeartbeats 1600000 in
theorem a9r (X:Nat->Bool) (w:World) (u v:Value) (m:Mom) (hu:a2y (mk X w) u m) (hv:a2y (mk X w) v m) (hB:BMo 68719476736 m) (hla:m.xx.length<=1099511627776) (hrl:∀r∈m.xx,r.length<=1099511627776) (hly:m.xy.length<=1099511627776):
  Calls Tryz.prog 53 #[u,v] w (a6M w true):=by
 obtain⟨xo,xl,xc,yo,yl,yc,s,a,n,c,d,k,e,rfl,h1,h2,h3⟩:=hu;obtain⟨xo2,xl2,xc2,yo2,yl2,yc2,s2,a2,n2,c2,d2,k2,e2,rfl,g1,g2,g3⟩:=hv;obtain⟨N,hN⟩:∃N,m.n=N:=⟨_,rfl⟩;rw[hN];obtain⟨W,hW,hE,b0,b1,hz⟩:=a1t w #[.int .i64 N, .slice xo xl xc, .slice yo yl yc, .bool s, .slice a n c, .slice d k e] #[.int .i64 N, .slice xo2 xl2 xc2, .slice yo2 yl2 yc2, .bool s2, .slice a2 n2 c2, .slice d2 k2 e2] 83 83;obtain⟨b,hb⟩:∃b,w.heap.size=b:=⟨_,rfl⟩;rw[hb]at b0 b1;have hls:=hid fun w' (h:Ext w w')=>a8x X w' _ _ _ _ (mkx MC.mono h1 h) (mkx MC.mono g1 h) hB.1 hla hrl;have hl:=hid fun w' (h:Ext w w')=>a2U X w' _ _ _ _ (mkx RC.mono h2 h) (mkx RC.mono g2 h) hB.2.1 hly;have hs:=hid fun w' (h:Ext w w')=>a7U X w' _ _ _ _ (mkx QC.mono h3 h) (mkx QC.mono g3 h) hB.2.2;simp only[decide_true]at hls hl hs;clear hN hB hla hrl hly h1 h2 h3 g1 g2 g3;have p00:=b0.cell 0 rfl;have p10:=b1.cell 0 rfl;have p01:=b0.cell 1 rfl;have p11:=b1.cell 1 rfl;go_enter Tryz.func53,Tryz.ntmps53
 go_wp2_with fail
 refine(hls.out W hE).mono ?_;rintro ee w1 ⟨e1,rfl⟩;have b2:=b0.ext0 e1;have b3:=b1.ext0 e1;have hE1:=hE.trans e1;have p02:=b2.cell 2 rfl;have p12:=b3.cell 2 rfl;clear p00 p10 p01 p11 hls;go_wp2_with fail
 refine(hl.out w1 hE1).mono ?_;rintro ee w2 ⟨e2,rfl⟩;have b4:=b2.ext0 e2;have b5:=b3.ext0 e2;have hE2:=hE1.trans e2;have p03:=b4.cell 3 rfl;have p04:=b4.cell 4 rfl;have p05:=b4.cell 5 rfl;have p13:=b5.cell 3 rfl;have p14:=b5.cell 4 rfl;have p15:=b5.cell 5 rfl;clear p02 p12 hl;go_wp2_with fail
 refine(hs.out w2 hE2).mono ?_;rintro ee w3 ⟨e3,rfl⟩;clear p03 p04 p05 p13 p14 p15 hs;go_wp2_with fail
 go_ret
 exact⟨hE2.trans e3,rfl⟩
end Go.Proofs.YtkddecjkfdogiaaGreat
namespace Go.Proofs.YtkddecjkfdogiaaGreat.seat
open Go.RowKit
theorem and_t {a b:Bool} (h1:a=true) (h2:b=true):(a&&b)=true:=by rw[h1,h2];rfl
theorem laid:laidOutB Tryz.pinned.checked.prog=true:=by kernel_rfl
theorem maps:mapsRowed Tryz.pinned.checked.prog=true:=by kernel_rfl
theorem stops:(Program.stops Tryz.pinned.checked.prog==[])=true:=by kernel_rfl
theorem knobs:(Program.stopKnobs Tryz.pinned.checked.prog==[])=true:=by kernel_rfl
theorem heard:Program.stopsHeard Tryz.pinned.checked.prog=true:=by kernel_rfl
theorem enter:Program.mayEnter Tryz.pinned.checked.prog=true:=by kernel_rfl
theorem lifts:(Rows.certifyMcdsRow.lifted==Program.liftsFinal Tryz.pinned.checked.prog)=true:=by kernel_rfl
theorem make:(Program.make Tryz.pinned.checked.prog==some Rows.certifyMcdsRow.make)=true:=by kernel_rfl
theorem plain:(Rows.certifyMcdsRow.plainKeys==Program.plainKeys Tryz.pinned.checked.prog)=true:=by kernel_rfl
end Go.Proofs.YtkddecjkfdogiaaGreat.seat
