/- Parts of a proof: each theorem states what it proves, and its conditions. -/
import Derived.Test.YtidbbddagfnfbaaGreatSgE
import Derived.Deep.RegionHeld3
namespace Go.Rep
open Go.RowKit Go.Lim
theorem QV.agg:∀h u y,QV h u y->∃a,u= .agg a:=by rintro h u x ⟨s,ao,c,m,b,e,d,rfl,_⟩;exact⟨_,rfl⟩
theorem QC.agg:∀h u y,QC h u y->∃a,u= .agg a:=by rintro h u x ⟨s,ao,c,m,b,e,d,rfl,_⟩;exact⟨_,rfl⟩
def b0P (R:Mem->Value->Rat->Prop):Prop:=∀h u q,R h u q->∃s ao n c bo k e,u= .agg #[.bool s, .slice ao n c, .slice bo k e]
theorem QC.shaped:b0P QC:=fun _ _ _ h=>h.shape
theorem QV.shaped:b0P QV:=fun _ _ _ h=>h.shape
theorem Sl.rat {R:Mem->Value->Rat->Prop} (r:b0P R) {X:Nat->Bool} {w:World} {ao:Option Addr} {l:List Rat} (s:Sl R 3 (mk X w) ao l) (i:Nat) (hi:i<l.length):
  ∃g o sg a n c d k e,adr ao (i*3)=⟨g,o,none⟩/\X g=false/\Hid (∀Y W',ExtX Y w W'->Y g=false->W'.cell? ⟨g,o,none⟩=some (.bool sg)/\W'.cell? ⟨g,o+1,none⟩=some (.slice a n c)/\W'.cell? ⟨g,o+2,none⟩=some (.slice d k e))/\R (mk X w) (.agg #[.bool sg, .slice a n c, .slice d k e]) l[i]:=by
 obtain⟨u,v,h,m⟩:=s.2 i hi;obtain⟨sg,a,n,c,d,k,e,rfl⟩:=r _ _ _ m;have j:=h 0 (by simp[Value.cells]);have p:=h 1 (by simp[Value.cells]);have q:=h 2 (by simp[Value.cells]);refine⟨(adr ao (i*3)).block,(adr ao (i*3)).off,sg,a,n,c,d,k,e,rfl,?_,hid fun Y W' b f=>⟨?_,?_,?_⟩,m⟩
 ·cases hx:X (adr ao (i*3)).block
  ·rfl
  ·have t:mk X w (adr ao (i*3))=some (.bool sg):=j
   simp[mk,hx]at t
 ·exact b.cellY (a0S j) f
 ·exact b.cellY (a0S p) f
 ·exact b.cellY (a0S q) f
abbrev RC:Mem->Value->List Rat->Prop:=SlV QC 3
abbrev RV:Mem->Value->List Rat->Prop:=SlV QV 3
abbrev MC:Mem->Value->List (List Rat)->Prop:=SlV RC 1
abbrev MV:Mem->Value->List (List Rat)->Prop:=SlV RV 1
theorem RC.mono:a3E RC:=SlV.mono QC.mono 3
theorem RV.mono:a3E RV:=SlV.mono QV.mono 3
theorem MC.mono:a3E MC:=SlV.mono RC.mono 1
theorem MV.mono:a3E MV:=SlV.mono RV.mono 1
theorem RC.elem:Elem RC 1:=SlV.elem QC.elem
theorem RV.elem:Elem RV 1:=SlV.elem QV.elem
def BR (B:Nat) (l:List Rat):Prop:=∀q∈l,hq q<=B
def BM (B:Nat) (m:List (List Rat)):Prop:=∀r∈m,BR B r
theorem Sl.qv {h:Mem} {ao:Option Addr} {l:List Rat} (s:Sl QC 3 h ao l) (a:BR 68719476736 l):Sl QV 3 h ao l:=
 ⟨s.1,fun i hi=>let ⟨u,d,b,c⟩:=s.2 i hi;⟨u,d,b,c.qv (a _ (List.getElem_mem _))⟩⟩
theorem RC.rv {h:Mem} {u:Value} {l:List Rat} (s:RC h u l) (a:BR 68719476736 l):RV h u l:=by
 obtain⟨ao,c,rfl,d,b⟩:=s;exact⟨ao,c,rfl,d,b.qv a⟩
theorem MC.mv {h:Mem} {u:Value} {m:List (List Rat)} (s:MC h u m) (a:BM 68719476736 m):MV h u m:=by
 obtain⟨ao,c,rfl,j,d,f⟩:=s;exact⟨ao,c,rfl,j,d,fun i hi=>let ⟨u,e,b,g⟩:=f i hi;⟨u,e,b,RC.rv g (a _ (List.getElem_mem _))⟩⟩
theorem Sl.row {R:Mem->Value->Rat->Prop} {X:Nat->Bool} {w:World} {ao:Option Addr} {m:List (List Rat)} (s:Sl (SlV R 3) 1 (mk X w) ao m) (i:Nat) (hi:i<m.length):
  ∃a c,X (adr ao i).block=false/\Hid (∀Y W',ExtX Y w W'->Y (adr ao i).block=false->W'.cell? (adr ao i)=some (.slice a m[i].length c))/\m[i].length<=c/\Sl R 3 (mk X w) a m[i]:=by
 obtain⟨u,b,a,c,rfl,e,g⟩:=s.cell SlV.one i hi;refine⟨a,c,?_,hid fun Y W' d f=>d.cellY (a0S b) f,e,g⟩;cases hx:X (adr ao i).block
 ·rfl
 ·simp[mk,hx]at b
end Go.Rep
namespace Go.Proofs.YtidbbddagfnfbaaGreat
open Go.RowKit Go.Rep Go.Lim
theorem a0B:SliceT Tryz.prog 24 45 3 56 (.agg #[.bool false, .slice none 0 0, .slice none 0 0]):=⟨Tryz.underlying24,by kernel_rfl⟩
theorem a0s:SliceT Tryz.prog 23 24 1 24 (.slice none 0 0):=⟨Tryz.underlying23,by kernel_rfl⟩
theorem b8C:(Tryz.prog.info? 24).map (fun i=>(i.zero,i.size,i.bytes))=some (some (.slice none 0 0),1,24):=by kernel_rfl
theorem a3Y:TyI Tryz.prog 24 1:=let ⟨i,h,_,a,_⟩:=info_parts b8C;⟨i,h,a⟩
theorem a7a:TyI Tryz.prog 45 3:=let ⟨_,c,_,b,a⟩:=a0t;⟨c,b,a⟩
end Go.Proofs.YtidbbddagfnfbaaGreat
namespace Go.Rep
open Go.RowKit
theorem a5Q {α:Type} {R:Mem->Value->α->Prop} (e:a3E R) {X:Nat->Bool} {w b:World} {oo:Option Addr} {u:Value} {x:α} (h:R (mk X w) u x) (c:Ext w b) (d:∀j,j<w.heap.size->ob oo j=false):R (mk (un X oo) b) u x:=
 e _ _ _ _ (a0T c (fun k _ a=>by simp[noY]at a) fun j a hz=>by simpa[un,d j a]using hz) h
section
variable {P:Program} {ops:Array Oper} {Q:Exit->Act->World->Prop} {a:Act} {w:World}
variable {α:Type} {R:Mem->Value->α->Prop} {sz:Nat} {X:Nat->Bool} {base:Nat} {e:TypeId} {ao:Option Addr} {cap:Nat} {l:List α}
theorem a1R {o:Oper} {K:Act->World->Prop} {E:Prop} {t p:Nat} {z:Value} {arr:Array Value} {s x:Operand}
  (F:o.guard=none) (B:o.op=Op.call {callee:=Callee.builtin Builtin.append,args:=#[s,x],argTypes:=#[t,t]}) (T:SliceT P t e sz p z) (A:z.cells.size=sz) (C:Elem R sz) (v:base<=w.heap.size) (I:∀k,X k=true->k<w.heap.size) (n:Nat) (M:l.length=n)
  (H:a.eval s= .slice ao n cap) (hx:a.eval x= .slice (some ⟨w.heap.size,0,none⟩) 1 1) (h:OL R sz X base e w ao cap l)
  (u:Value) (y:α) (f:arr=u.cells) (L:R (mk (un X ao) w) u y) (d:(n+1)*p<=140737488355328) (q:n+1<=9223372036854775807)
  (G:∀c b m,OL R sz X base e m c b (l++[y])->ExtX (ob ao) w m->(c=ao\/∃g,c=some ⟨g,0,none⟩/\w.heap.size<=g)->K (a.put o.dst (.slice c (n+1) b)) m):
  if Region.wanted o (yielded ops a.tmps)=true then Oper.wp P o a (w.alloc (.cells arr e)) K Q else E:=by
 have U:Region.wanted o (yielded ops a.tmps)=true:=by simp[Region.wanted,F]
 rw[if_pos U];subst M;have r:Ext w (w.alloc (.cells arr e)):=(ExtX.refl w).alloc _;have N:w.heap.size+1=(w.alloc (.cells arr e)).heap.size:=by simp
 obtain⟨c,b,m,D,O,J,j⟩:=(h.ext0 C r).run_append (P:=P) T A C (by omega) (fun k S=>by have:=I k S;omega) (some ⟨w.heap.size,0,none⟩) 1 [u] [y] (b2G w arr e u f) rfl
  (fun i hi _=>by
           have:i=0:=by simpa using hi
           subst this;exact C.mono _ _ _ _ (a0l r) L) (by simpa using d) (by simpa using q) o.type
 unfold Oper.wp execOp;rw[B];simp only[resolve,invoke,builtin,Sem.run_bind,Sem.run_pure,Result.andThen_ok,List.map_toArray,List.map_cons,List.map_nil,H,hx];rw[show([y]:List α).length=1 from rfl]at D;rw[D];have:=G c b m O ((ExtX.of r).trans J) (by
  rcases j with j|⟨g,j,V⟩
  ·exact .inl j
  ·exact .inr ⟨g,j,by omega⟩)
 rw[show(l++[y]).length=l.length+1 from by simp];exact this
end
end Go.Rep
namespace Go.Lim
theorem a8b (a b:Nat):(a3a a b==0)=decide (a=b):=by
 rw[Bool.eq_iff_iff];simp only[beq_iff_eq,decide_eq_true_eq];exact b8c a b
end Go.Lim
namespace Go.Proofs.YtidbbddagfnfbaaGreat
open Go.RowKit Go.Rep Go.Lim
set_option maxRecDepth 100000 in
theorem b7o (X:Nat->Bool) (w:World) (s:Bool) (ao H:Option Addr) (c e:Nat) (m d:List Nat) (hX:HX X w) (hm:Sl (a0c .u32) 1 (mk X w) ao m) (hd:Sl (a0c .u32) 1 (mk X w) H d) (c4:m.length<=68719476736) (c2:d.length<=68719476736) (Y:Dig m) (Z:Dig d) (a5:m.length<=c) (a9:d.length<=e):
  Calls Tryz.prog 229 #[.agg #[.bool s, .slice ao m.length c, .slice H d.length e]] w (a8K w (a1t s m d)):=by
 obtain⟨W,hW,y,E,hz⟩:=a1g w #[.bool s, .slice ao m.length c, .slice H d.length e] 45;have b4:HX X W:=hX.ext y;have t:=hm.mono (a0c.mono _) (a0l y);have L:=hd.mono (a0c.mono _) (a0l y);obtain⟨b,hb⟩:∃b,w.heap.size=b:=⟨_,rfl⟩;rw[hb]at E hz;have A:=E.cell 0 rfl;have C:=E.cell 1 rfl;have r:=E.cell 2 rfl;have g:Hid (a1t s m d=(a1r s m&&a1B d&&(decide (d.length=0)||(decide (0<m.length)&& !(nv d==1)&&(Nat.gcd (nv m) (nv d)==1))))):=hid rfl;clear hX hm hd hz;cases q:a1r s m
 ·have F:Hid (a1t s m d=false):=hid (by rw[g.out,q];rfl)
  have k:=hid q;clear q g;go_enter Tryz.func229,Tryz.ntmps229
  go_wp2_with fail
  refine(a7r X W s ao c m t (by omega)).mono ?_;rintro e o ⟨a,rfl⟩;rw[k.out];clear A C r;go_wp2_with fail
  go_ret
  exact⟨y.trans a,a0j F.out.symm⟩
 ·cases K:a1B d
  ·have F:Hid (a1t s m d=false):=hid (by rw[g.out,q,K];rfl)
   have k:=hid q;have u:=hid K;clear q g K;go_enter Tryz.func229,Tryz.ntmps229
   go_wp2_with fail
   refine(a7r X W s ao c m t (by omega)).mono ?_;rintro e o ⟨a,rfl⟩;rw[k.out];have l:=(E.ext0 a).cell 2 rfl;have j:=L.mono (a0c.mono _) (a0l a);clear A C r;go_wp2_with fail
   refine(a2k X _ _ _ _ j (by omega)).mono ?_;rintro e w2 ⟨rfl,rfl⟩;rw[u.out];clear l;go_wp2_with fail
   go_ret
   exact⟨y.trans a,a0j F.out.symm⟩
  ·have F:Hid (a1t s m d=(decide (d.length=0)||(decide (0<m.length)&& !(nv d==1)&&(Nat.gcd (nv m) (nv d)==1)))):=hid (by rw[g.out,q,K];rfl)
   have k:=hid q;have u:=hid K;have a0:a1B m=true:=by unfold a1r at q;simp at q;exact q.1
   have b2:=hid (show a0M m (nv m)from⟨Y,a0,rfl⟩);have a7:=hid (show a0M d (nv d)from⟨Z,K,rfl⟩);clear q g K a0;by_cases N:d.length=0
   ·have i:Hid (a1t s m d=true):=hid (by rw[F.out,decide_eq_true N];rfl)
    obtain rfl:d= []:=List.eq_nil_of_length_eq_zero N;clear N F;simp only[List.length_nil]at hW E r |-;go_enter Tryz.func229,Tryz.ntmps229
    go_wp2_with fail
    refine(a7r X W s ao c m t (by omega)).mono ?_;rintro e o ⟨a,rfl⟩;rw[k.out];have l:=(E.ext0 a).cell 2 rfl;have j:=L.mono (a0c.mono _) (a0l a);clear A C r;go_wp2_with fail
    refine(a2k X _ [] _ _ j (by simp)).mono ?_;rintro e w2 ⟨rfl,rfl⟩;rw[u.out];go_wp2_with fail
    go_ret
    exact⟨y.trans a,a0j i.out.symm⟩
   ·have c3:((d.length:Int)==0)=false:=a2w (by omega)
    have D:Hid (a1t s m d=(decide (0<m.length)&& !(nv d==1)&&(Nat.gcd (nv m) (nv d)==1))):=hid (by rw[F.out,decide_eq_false N];rfl);clear F;go_enter Tryz.func229,Tryz.ntmps229
    go_wp2_with fail
    refine(a7r X W s ao c m t (by omega)).mono ?_;rintro e' o ⟨a,rfl⟩;rw[k.out];have b1:=E.ext0 a;have l:=b1.cell 2 rfl;have z:=b1.cell 1 rfl;have j:=L.mono (a0c.mono _) (a0l a);have a4:=t.mono (a0c.mono _) (a0l a);have U:=b4.ext a;have Q:NV (mk X o) (.slice ao m.length c) (nv m):=⟨ao,c,m,rfl,a5,Y,by omega,a4,by unfold val;rw[a0M.vl b2.out]⟩;have I:NV (mk X o) (.slice H d.length e) (nv d):=⟨H,e,d,rfl,a9,Z,by omega,j,by unfold val;rw[a0M.vl a7.out]⟩;clear A C r;have M:=hid b1;have x:Ext o o.drew:=(ExtX.refl o).drew;have a8:HX X o.drew:=U;have T:NV (mk X o.drew) (.slice H d.length e) (nv d):=I;by_cases G:m.length=0
    ·have i:Hid (a1t s m d=false):=hid (by rw[D.out,decide_eq_false (by omega)];rfl)
     obtain rfl:m= []:=List.eq_nil_of_length_eq_zero G;clear D G N;simp only[List.length_nil]at b1 z M |-;go_wp2_with fail
     refine(a2k X _ _ _ _ j (by omega)).mono ?_;rintro e' w2 ⟨rfl,rfl⟩;rw[u.out];go_wp2_with fail
     try go_quiet (fail)
     go_wp2_with fail
     go_ret
     exact⟨y.trans (a.trans ((ExtX.refl o).drewN _)),a0j i.out.symm⟩
    ·have c1:((m.length:Int)==0)=false:=a2w (by omega)
     have B:Hid (a1t s m d=(!(nv d==1)&&(Nat.gcd (nv m) (nv d)==1))):=hid (by rw[D.out,decide_eq_true (by omega)];rfl);clear D G N;go_wp2_with fail
     refine(a2k X _ _ _ _ j (by omega)).mono ?_;rintro e' w2 ⟨rfl,rfl⟩;rw[u.out];go_wp2_with fail
     go_region_held3 (fun w'=>w'.cell? ⟨b,1,none⟩=some (.slice ao m.length c)/\w'.cell? ⟨b,2,none⟩=some (.slice H d.length e))
      (first|exact⟨(M.out.ext0 (x.trans n)).cell 1 rfl,(M.out.ext0 (x.trans n)).cell 2 rfl⟩|exact⟨(M.out.ext0 (x.trans (n.trans J))).cell 1 rfl,(M.out.ext0 (x.trans (n.trans J))).cell 2 rfl⟩|go_keep)
      (first|(go_at_call 231;(with_reducible refine(c1k X o.drew a8).mono ?_);rintro e5 w5 ⟨n,u5,rfl,b9⟩;have R:=b9.nv (by rw[a3D];decide))|(go_at_call 196;(with_reducible refine(c1i (mkx NV.mono T n) R).mono ?_);rintro e6 w6 ⟨J,rfl⟩))
     have f:=x.trans (n.trans J);have b6:=M.out.ext0 f;have c0:=mkx NV.mono Q f;have b3:=mkx NV.mono I f;have V:=U.ext f;clear z l;have z:=b6.cell 1 rfl;have l:=b6.cell 2 rfl;rw[a8b];by_cases p:nv d=1
     ·have i:Hid (a1t s m d=false):=hid (by rw[B.out,p];rfl)
      have v:decide (nv d=1)=true:=decide_eq_true p;rw[v];clear p v B;go_wp2_with fail
      go_ret
      exact⟨y.trans (a.trans f),a0j i.out.symm⟩
     ·have i:Hid (a1t s m d=decide (Nat.gcd (nv m) (nv d)=1)):=hid (by
       rw[B.out,Bool.eq_iff_iff];simp[p])
      have v:decide (nv d=1)=false:=decide_eq_false p;rw[v];clear p v B;go_wp2_with fail
      refine(c1Y V c0 b3).mono ?_;rintro e7 w7 ⟨O,u7,rfl,a6⟩;have b5:=V.ext O;have S:lg (Nat.gcd (nv m) (nv d))<=1099511627776:=by
       have p:Nat.gcd (nv m) (nv d)<=nv d\/nv d=0:=by
        by_cases h:nv d=0
        ·exact .inr h
        ·exact .inl (Nat.gcd_le_right _ (by omega))
       rcases p with p|p
       ·exact Nat.le_trans (a1i p) I.lg
       ·rw[p,Nat.gcd_zero_right];exact Q.lg
      have P:=hid S;clear z l S;go_wp2_with fail
      refine(c1k X w7 b5).mono ?_;rintro e8 w8 ⟨a1,u8,rfl,b7⟩;have a2:=mkx NV.mono (a6.nv P.out) a1;go_wp2_with fail
      refine(c1i a2 (b7.nv (by rw[a3D];decide))).mono ?_;rintro e9 w9 ⟨b8,rfl⟩;have a3:Hid ((a3a (Nat.gcd (nv m) (nv d)) 1==0)=a1t s m d):=hid (by rw[a8b,i.out]);generalize a3a (Nat.gcd (nv m) (nv d)) 1=cc at*;go_wp2_with fail
      go_ret
      exact⟨y.trans (a.trans (f.trans (O.trans (a1.trans b8)))),a0j a3.out⟩
set_option maxRecDepth 100000 in
theorem a4x (X:Nat->Bool) (w:World) (u:Value) (q:Rat) (L:HX X w) (O:QV (mk X w) u q):Calls Tryz.prog 160 #[u] w (a1Z X w QC q):=by
 obtain⟨s,ao,c,m,n,e,d,rfl,z,F,B,x,H,I,J,M,rfl⟩:=O;obtain⟨W,S,r,o,E,hz⟩:=a1v w #[.bool s, .slice ao m.length c, .slice n d.length e] #[.bool false, .slice none 0 0, .slice none 0 0] 45 45;have k:HX (a0e X w.heap.size 2) W:=L.boxes hz;have g:Sl (a0c .u32) 1 (mk (a0e X w.heap.size 2) W) ao m:=J.mono (a0c.mono _) (a0o r);have i:Sl (a0c .u32) 1 (mk (a0e X w.heap.size 2) W) n d:=M.mono (a0c.mono _) (a0o r);obtain⟨b,Q⟩:∃b,w.heap.size=b:=⟨_,rfl⟩;have R:w.heap.size<=b:=by omega
 rw[Q]at o E hz g i k;have A:=o.cell 0 rfl;have D:=o.cell 1 rfl;have y:=o.cell 2 rfl;cases p:a1t s m d
 ·have G:=hid (a3N p)
  have h:=hid p;clear p;go_enter Tryz.func160,Tryz.ntmps160
  go_wp2_with fail
  refine(b7o (a0e X b 2) W s ao n c e m d k g i H I B x z F).mono ?_;rintro N K ⟨a,rfl⟩;rw[h.out];have j:=E.ext0 a;clear A D y;go_wp2_with ((with_reducible show wpList _ _ _ (⟨_, .store _ _ _,_,_,_,_⟩::_) _ _);refine a0a a0t rfl rfl j rfl rfl (a1Q _ _ _ _ _ _ _) ?_;intro P v f)
  exact bodyPost_ret (a0d rfl rfl a0t v rfl) rfl ⟨ExtX.box (r.trans a) f (by omega),_,rfl,by rw[G.out];exact QC.zero _⟩
 ·have h:=hid p
  clear p;go_enter Tryz.func160,Tryz.ntmps160
  go_wp2_with fail
  refine(b7o (a0e X b 2) W s ao n c e m d k g i H I B x z F).mono ?_;rintro N K ⟨a,rfl⟩;rw[h.out];have l:=o.ext0 a;have j:=E.ext0 a;clear A D y;have A:=l.cell 0 rfl;have D:=l.cell 1 rfl;have y:=l.cell 2 rfl;go_wp2_with ((with_reducible show wpList _ _ _ (⟨_, .store _ _ _,_,_,_,_⟩::_) _ _);refine a0a a0t rfl rfl j rfl rfl (a1Q _ _ _ _ _ _ _) ?_;intro P v f)
  have C:=((g.mono (a0c.mono _) (a0l a)).mono (a0c.mono _) (a0h f (by omega) (by omega))).mono (a0c.mono _) a0n;have t:=((i.mono (a0c.mono _) (a0l a)).mono (a0c.mono _) (a0h f (by omega) (by omega))).mono (a0c.mono _) a0n;exact bodyPost_ret (a0d rfl rfl a0t v rfl) rfl ⟨ExtX.box (r.trans a) f (by omega),_,rfl,s,ao,c,m,n,e,d,rfl,z,F,a6a.of_valid B x h.out,C,t⟩
theorem _root_.Go.Rep.NC.asZ {M:Mem} {u:Value} {n:Nat} (b:NC M u n) (d:lg n<=549755813888):∃ao k c,u= .slice ao k c/\ZV M (.agg #[.bool false, .slice ao k c]) (n:Int):=by
 obtain⟨ao,c,l,rfl,f,a,e⟩:=b;refine⟨ao,_,c,rfl,false,ao,c,l,rfl,f,a.1,by rw[a.len];exact d,e,?_⟩;unfold a7K a1r;rw[a.2.1,a.2.2];simp
theorem a2c {X:Nat->Bool} {w a:World} {b nb:Nat} {z q l t o n:Value} {T U:TypeId} (y:Bx a b #[z,q,l] T) (p:Bx a (b+1) #[t,o,n] U) (m:Ext w a) (v:w.heap.size<=b) (A:2<=nb) (v0 v1 v2 u0 g f:Value):
  ∃c,((((((a.setCell ⟨b,0,none⟩ v0).setCell ⟨b,1,none⟩ v1).setCell ⟨b,2,none⟩ v2).setCell ⟨b+1,0,none⟩ u0).setCell ⟨b+1,1,none⟩ g).setCell ⟨b+1,2,none⟩ f)=c/\Bx c b #[v0,v1,v2] T/\Bx c (b+1) #[u0,g,f] U/\(∀k i V,k≠b->k≠b+1->Bx a k i V->Bx c k i V)/\Ext w c/\Le (mk (a0e X b nb) a) (mk (a0e X b nb) c):=by
 obtain⟨x,d⟩:=y.set3 v0 v1 v2;have j:=p.ext d (a0b (by omega));obtain⟨s,e⟩:=j.set3 u0 g f;refine⟨_,rfl,x.ext e (a0b (by omega)),s,fun k i V u r h=>(h.ext d (a0b u)).ext e (a0b r),ExtX.box (ExtX.box m d v) e (by omega),(a0h d (Nat.le_refl _) (by omega)).trans (a0h e (by omega) (by omega))⟩
theorem a5R (X:Nat->Bool) (w:World) (u v:Value) (x:Int) (n:Nat) (D:HX X w) (y:ZC (mk X w) u x) (J:NC (mk X w) v n) (hx:lg x.natAbs<=549755813888) (z:lg n<=549755813888):Calls Tryz.prog 162 #[u,v] w (a1Z X w ZC (x*n)):=by
 obtain⟨N,k,e,rfl,m⟩:=J.asZ z;have r:=y.zv hx;obtain⟨s,ao,c,l,rfl,P,U,R⟩:=y;obtain⟨W,V,h,p,A,hz⟩:=a1v w #[.bool s, .slice ao l.length c] #[.bool false, .slice none 0 0] 43 43;have f:HX (a0e X w.heap.size 2) W:=D.boxes hz;have a:=ZV.mono _ _ _ _ (a0o (nb:=2) h) r;have g:=ZV.mono _ _ _ _ (a0o (nb:=2) h) m;obtain⟨b,K⟩:∃b,w.heap.size=b:=⟨_,rfl⟩;have M:w.heap.size<=b:=by omega
 rw[K]at p A hz f a g;have C:=p.cell 0 rfl;have H:=p.cell 1 rfl;clear hx z;go_enter Tryz.func162,Tryz.ntmps162
 go_wp2_with fail
 refine(c1j (a0e X b 2) W _ _ _ _ f a g).mono ?_;rintro S O ⟨d,T,rfl,E,F,G,I,rfl,i,o,q⟩;have j:=A.ext0 d;clear C H;go_wp2_with ((with_reducible show wpList _ _ _ (⟨_, .store _ _ _,_,_,_,_⟩::_) _ _);refine a0a a0I rfl rfl j rfl rfl (a2U _ _ _ _) ?_;intro Q L t)
 have B:=(q.mono (a0c.mono _) (a0h t (by omega) (by omega))).mono (a0c.mono _) a0n;exact bodyPost_ret (a0d rfl rfl a0I L rfl) rfl ⟨ExtX.box (h.trans d) t (by omega),_,rfl,E,F,G,I,rfl,i,o,B⟩
set_option maxRecDepth 100000 in
theorem a5z (X:Nat->Bool) (w:World) (u v:Value) (z:Int) (k:Nat) (hX:HX X w) (hu:ZC (mk X w) u z) (hv:NC (mk X w) v k) (hz:lg z.natAbs<=549755813888) (hk:lg k<=549755813888) (A:0<k):Calls Tryz.prog 178 #[u,v] w (a1Z X w QC (mkRat z k)):=by
 obtain⟨s,ao,c,l,rfl,h1,h2,h3⟩:=hu;have V:=hv.nv (by omega:lg k<=1099511627776);obtain⟨bo,e,m,rfl,g1,g2,g3⟩:=hv;obtain⟨W,hW,Z,Y,b1,M⟩:=a1v w #[.bool s, .slice ao l.length c] #[.bool false, .slice none 0 0, .slice none 0 0] 43 45;have D:HX (a0e X w.heap.size 2) W:=hX.boxes M;have C:NV (mk (a0e X w.heap.size 2) W) (.slice ao l.length c) z.natAbs:=NC.nv ⟨ao,c,l,rfl,h1,h2.2,h3.mono (a0c.mono _) (a0o Z)⟩ (by omega);have y:=NV.mono _ _ _ _ (a0o (nb:=2) Z) V;obtain⟨b,hb⟩:∃b,w.heap.size=b:=⟨_,rfl⟩;have a6:w.heap.size<=b:=by omega
 rw[hb]at Y b1 M D C y;have c0:=Y.cell 0 rfl;have c1:=Y.cell 1 rfl;obtain⟨g,t⟩:∃g,Nat.gcd z.natAbs k=g:=⟨_,rfl⟩;have S:Hid (0<g):=hid (by rw[<-t];exact Nat.gcd_pos_of_pos_right _ A);have U:Hid (lg g<=1099511627776):=hid (by rw[<-t];exact Nat.le_trans (a1i (Nat.gcd_le_right _ A)) (by omega));have r:=hid (fun(n d:List Nat) (hn:a0M n (z.natAbs/g)) (hd:a0M d (k/g))=>by
  have:=a6a.lowest (s:=s) (z:=z) (k:=k) (n:=n) (d:=d) (by omega) h2.1 (by rw[t];exact hn) (by rw[t];exact hd);rw[t]at this;exact this)
 have a1:Hid (lg (k/g)<=1099511627776):=hid (Nat.le_trans (a1i (Nat.div_le_self _ _)) (by omega));have a2:=hid t;clear hz hk A h2 g2 V t;go_enter Tryz.func178,Tryz.ntmps178
 go_wp2_with fail
 refine(c1Y D C y).mono ?_;rintro e1 w1 ⟨f,ug,rfl,o⟩;rw[a2.out]at o;have P:=D.ext f;have q:=Y.ext0 f;have j0:=q.cell 0 rfl;have j1:=q.cell 1 rfl;clear c0 c1;go_wp2_with fail
 refine(c2a P (mkx NV.mono C f) (o.nv U.out) S.out).mono ?_;rintro e2 w2 ⟨i,qu,ru,rfl,Q,a3⟩;have T:=P.ext i;have a4:=q.ext0 i;clear j0 j1;go_wp2_with fail
 refine(c2a T (mkx NV.mono y (f.trans i)) (mkx NV.mono (o.nv U.out) i) S.out).mono ?_;rintro e3 w3 ⟨B,du,a5,rfl,x,I⟩;have a0:=T.ext B;go_wp2_with fail
 refine(c1k (a0e X b 2) w3 a0).mono ?_;rintro e4 w4 ⟨p,ou,rfl,R⟩;go_wp2_with fail
 refine(c1i (mkx NV.mono (x.nv a1.out) p) (R.nv (by rw[a3D];decide))).mono ?_;rintro e5 w5 ⟨E,rfl⟩;have j:Hid ((a3a (k/g) 1==0)=decide (k/g=1)):=hid (a8b _ _);have N:=mkx NC.mono Q (B.trans (p.trans E));have K:=mkx NC.mono x (p.trans E);have F:=i.trans (B.trans (p.trans E));have H:=q.ext0 F;have O:=b1.ext0 (f.trans F);have j0:=H.cell 0 rfl;have j1:=H.cell 1 rfl;obtain⟨qa,qc,ql,rfl,q1,q2,q3⟩:=N;obtain⟨da,dc,dl,rfl,d1,d2,d3⟩:=K;have a:=hid (r.out ql dl q2 d2);have J:=Z.trans (f.trans F);clear Q x a3 I R o r q2 d2;by_cases h:k/g=1
 ·have L:=a.out
  rw[if_pos h]at L;have hI:(a3a (k/g) 1==0)=true:=by rw[j.out];exact decide_eq_true h
  generalize a3a (k/g) 1=cc at*;clear j h a;go_wp2_with ((with_reducible show wpList _ _ _ (⟨_, .store _ _ _,_,_,_,_⟩::_) _ _);refine a0a a0t rfl rfl O rfl rfl (a1Q _ _ _ _ _ _ _) ?_;intro w7 r1 G)
  have h7:=(q3.mono (a0c.mono _) (a0h G (by omega) (by omega))).mono (a0c.mono _) a0n;exact bodyPost_ret (a0d rfl rfl a0t r1 rfl) rfl ⟨ExtX.box J G (by omega),_,rfl,s,qa,qc,ql,none,0,[],rfl,q1,Nat.le_refl _,L,h7,Sl.nil _ _ _ _⟩
 ·have L:=a.out
  rw[if_neg h]at L;have hI:(a3a (k/g) 1==0)=false:=by rw[j.out];exact decide_eq_false h
  generalize a3a (k/g) 1=cc at*;clear j h a;go_wp2_with ((with_reducible show wpList _ _ _ (⟨_, .store _ _ _,_,_,_,_⟩::_) _ _);refine a0a a0t rfl rfl O rfl rfl (a1Q _ _ _ _ _ _ _) ?_;intro w7 r1 G)
  have h7:=(q3.mono (a0c.mono _) (a0h G (by omega) (by omega))).mono (a0c.mono _) a0n;have h8:=(d3.mono (a0c.mono _) (a0h G (by omega) (by omega))).mono (a0c.mono _) a0n;exact bodyPost_ret (a0d rfl rfl a0t r1 rfl) rfl ⟨ExtX.box J G (by omega),_,rfl,s,qa,qc,ql,da,dc,dl,rfl,q1,d1,L,h7,h8⟩
theorem c1u (X:Nat->Bool) (w:World) (v:Int) (t:HX X w) (m: -9223372036854775808<=v) (n:v<=9223372036854775807):Calls Tryz.prog 98 #[.int .i64 v] w (a1Z X w QC v):=by
 obtain⟨W,E,p,l,hz⟩:=a1g w #[.bool false, .slice none 0 0, .slice none 0 0] 45;have a:HX (a0e X w.heap.size 1) W:=t.boxes hz;obtain⟨b,s⟩:∃b,w.heap.size=b:=⟨_,rfl⟩;have r:w.heap.size<=b:=by omega
 rw[s]at l hz a;have d:=hid m;have f:=hid n;clear m n;go_enter Tryz.func98,Tryz.ntmps98
 go_wp2_with fail
 refine(c1t (a0e X b 1) W v a d.out f.out).mono ?_;rintro A C ⟨c,B,rfl,u,x,z,q,rfl,h,j,g⟩;have i:=l.ext0 c;have e:=a6a.ofInt j;go_wp2_with ((with_reducible show wpList _ _ _ (⟨_, .store _ _ _,_,_,_,_⟩::_) _ _);refine a0a a0t rfl rfl i rfl rfl (a1Q _ _ _ _ _ _ _) ?_;intro D y k)
 have o:=(g.mono (a0c.mono _) (a0h k (by omega) (by omega))).mono (a0c.mono _) a0n;exact bodyPost_ret (a0d rfl rfl a0t y rfl) rfl ⟨ExtX.box (p.trans c) k (by omega),_,rfl,u,x,z,q,none,0,[],rfl,h,Nat.le_refl _,e,o,Sl.nil _ _ _ _⟩
set_option maxRecDepth 100000 in
set_option maxHeartbeats 1600000 in
theorem b7p (X:Nat->Bool) (w:World) (u v:Value) (x y:Rat) (hX:HX X w) (hu:QV (mk X w) u x) (hv:QV (mk X w) v y):Calls Tryz.prog 101 #[u,v] w (a1Z X w QC (x+y)):=by
 have t:=hid hu.hq;have C:=hid hv.hq;obtain⟨s1,a1,n1,c1,d1,k1,e1,rfl⟩:=hu.shape;obtain⟨s2,a2,n2,c2,d2,k2,e2,rfl⟩:=hv.shape;obtain⟨W,hW,hE,q,r,b2,hz⟩:=a2D w #[.bool s1, .slice a1 n1 c1, .slice d1 k1 e1] #[.bool s2, .slice a2 n2 c2, .slice d2 k2 e2] #[.bool false, .slice none 0 0, .slice none 0 0] 45 45 45;have j5:HX (a0e X w.heap.size 3) W:=hX.boxes hz;have g9:=QV.mono _ _ _ _ (a0o (nb:=3) hE) hu;have d0:=QV.mono _ _ _ _ (a0o (nb:=3) hE) hv;obtain⟨b,hb⟩:∃b,w.heap.size=b:=⟨_,rfl⟩;have o2:w.heap.size<=b:=by omega
 rw[hb]at q r b2 hz j5 g9 d0;have c:Ext W W.drew:=(ExtX.refl W).drew;have d:HX (a0e X b 3) W.drew:=j5;have i2:QV (mk (a0e X b 3) W.drew) (.agg #[.bool s1, .slice a1 n1 c1, .slice d1 k1 e1]) x:=g9;have j2:QV (mk (a0e X b 3) W.drew) (.agg #[.bool s2, .slice a2 n2 c2, .slice d2 k2 e2]) y:=d0;have s:=q.cell 0 rfl;have E:=q.cell 1 rfl;have z:=q.cell 2 rfl;have B:=r.cell 0 rfl;have D:=r.cell 1 rfl;have A:=r.cell 2 rfl;clear hu hv;go_enter Tryz.func101,Tryz.ntmps101
 go_upto_region 1 with(fail)
 go_cut []from 5 to 8 (fun wx=>∃s3 a3 n3 c3 d3 Q e3 s4 a4 n4 c4 d4 G e4,Bx wx b #[.bool s3, .slice a3 n3 c3, .slice d3 Q e3] 45/\Bx wx (b+1) #[.bool s4, .slice a4 n4 c4, .slice d4 G e4] 45/\Bx wx (b+1+1) #[.bool false, .slice none 0 0, .slice none 0 0] 45/\QC (mk (a0e X b 3) wx) (.agg #[.bool s3, .slice a3 n3 c3, .slice d3 Q e3]) x/\QC (mk (a0e X b 3) wx) (.agg #[.bool s4, .slice a4 n4 c4, .slice d4 G e4]) y/\Ext w wx)
 case first=>
  go_region_with (first|(go_at_call 160;(with_reducible refine(a4x (a0e X b 3) W.drew _ x d i2).mono ?_);rintro f w5 ⟨j,u5,rfl,j0⟩;obtain⟨s5,a5,n5,c5,d5,k5,e5,rfl⟩:=j0.shape;have a8:=q.ext0 (c.trans j);have a9:=r.ext0 (c.trans j);have o1:=a8.cell 0 rfl;have m3:=a8.cell 1 rfl;have m8:=a8.cell 2 rfl;have k8:=a9.cell 0 rfl;have j8:=a9.cell 1 rfl;have m9:=a9.cell 2 rfl)|(go_at_call 160;(with_reducible refine(a4x (a0e X b 3) w5 _ y (HX.ext d j) (mkx QV.mono j2 j)).mono ?_);rintro f w6 ⟨k,u6,rfl,j4⟩;obtain⟨s6,a6,n6,c6,d6,k6,e6,rfl⟩:=j4.shape;have a:=a8.ext0 k;have o:=a9.ext0 k;have n7:=a.cell 0 rfl;have l2:=a.cell 1 rfl;have m2:=a.cell 2 rfl;have n0:=o.cell 0 rfl;have k0:=o.cell 1 rfl;have o3:=o.cell 2 rfl;have l8:=a.frozen 0;have m5:=a.frozen 1;have n8:=a.frozen 2;have o0:=o.frozen 0;have n9:=o.frozen 1;have m1:=o.frozen 2))
  all_goals
   obtain⟨wf,i4,q0,q1,q2,q3,q4⟩:=a2c (X:=X) (nb:=3) a o (hE.trans ((c.trans j).trans k)) o2 (by omega) (.bool s5) (.slice a5 n5 c5) (.slice d5 k5 e5) (.bool s6) (.slice a6 n6 c6) (.slice d6 k6 e6);rw[i4];have l0:QC (mk (a0e X b 3) wf) (.agg #[.bool s5, .slice a5 n5 c5, .slice d5 k5 e5]) x:=QC.mono _ _ _ _ q4 (mkx QC.mono j0 k);have m6:QC (mk (a0e X b 3) wf) (.agg #[.bool s6, .slice a6 n6 c6, .slice d6 k6 e6]) y:=QC.mono _ _ _ _ q4 j4;have q5:=q2 (b+1+1) _ _ (by omega) (by omega) ((b2.ext0 (c.trans j)).ext0 k);clear o1 m3 m8 k8 j8 m9 n7 l2 m2 n0 k0 o3 l8 m5 o0 n9 n8 m1 s E z B D A i4;go_wp2_with fail
   go_meet
   exact⟨_,_,_,_,_,_,_,_,_,_,_,_,_,_,q0,q1,q5,l0,m6,q3⟩
 case rest=>
  clear s E z B D A q r b2 g9 d0 i2 j2 d c hW;obtain⟨s3,a3,n3,c3,d3,Q,e3,s4,a4,n4,c4,d4,G,e4,q,r,b2,hx,hy,b4⟩:=hcut;have i3:w.heap.size+3<=wc.heap.size:=by have:=b2.lt;omega
  obtain⟨i5,o4,j7⟩:=hx.num;obtain⟨i1,o5,i7⟩:=hy.num;have j3:HX (a0e X b 3) wc:=hX.boxes' b4 (by have:=i3;omega) i3;have s:=q.cell 0 rfl;have E:=q.cell 1 rfl;have z:=q.cell 2 rfl;have B:=r.cell 0 rfl;have D:=r.cell 1 rfl;have A:=r.cell 2 rfl;have c:Ext wc wc.drew:=(ExtX.refl wc).drew;have d:HX (a0e X b 3) wc.drew:=j3;have b3:QC (mk (a0e X b 3) wc.drew) (.agg #[.bool s3, .slice a3 n3 c3, .slice d3 Q e3]) x:=hx;have a7:QC (mk (a0e X b 3) wc.drew) (.agg #[.bool s4, .slice a4 n4 c4, .slice d4 G e4]) y:=hy;have b8:ZC (mk (a0e X b 3) wc.drew) (.agg #[.bool s3, .slice a3 n3 c3]) x.num:=i5;have b6:ZC (mk (a0e X b 3) wc.drew) (.agg #[.bool s4, .slice a4 n4 c4]) y.num:=i1;have c7:lg x.num.natAbs<=549755813888:=Nat.le_trans (Nat.le_trans (a0D x) t.out) (by omega);have g3:lg y.num.natAbs<=549755813888:=Nat.le_trans (Nat.le_trans (a0D y) C.out) (by omega);have a0:lg x.den<=549755813888:=Nat.le_trans (Nat.le_trans (a0E x) t.out) (by omega);have Y:lg y.den<=549755813888:=Nat.le_trans (Nat.le_trans (a0E y) C.out) (by omega);have i0:lg (x.num*(y.den:Int)).natAbs<=274877906944:=by rw[Int.natAbs_mul,Int.natAbs_natCast];have:=a1b x.num.natAbs y.den;have:=a0D x;have:=a0E y;have:=t.out;have:=C.out;omega
  have j6:lg (y.num*(x.den:Int)).natAbs<=274877906944:=by rw[Int.natAbs_mul,Int.natAbs_natCast];have:=a1b y.num.natAbs x.den;have:=a0D y;have:=a0E x;have:=t.out;have:=C.out;omega
  have i6:lg (x.den*y.den)<=274877906944:=by have:=a1b x.den y.den;have:=a0E x;have:=a0E y;have:=t.out;have:=C.out;omega
  have o7:lg (x.num*y.num).natAbs<=274877906944:=by rw[Int.natAbs_mul];have:=a1b x.num.natAbs y.num.natAbs;have:=a0D x;have:=a0D y;have:=t.out;have:=C.out;omega
  have j1:0<x.den*y.den:=Nat.mul_pos x.den_pos y.den_pos;have p:=hid (And.intro q r);have g:Hid (∀W',Ext wc.drew W'->W'.cell? ⟨b,0,none⟩=some (.bool s3)/\W'.cell? ⟨b,1,none⟩=some (.slice a3 n3 c3)/\W'.cell? ⟨b,2,none⟩=some (.slice d3 Q e3)/\W'.cell? ⟨b+1,0,none⟩=some (.bool s4)/\W'.cell? ⟨b+1,1,none⟩=some (.slice a4 n4 c4)/\W'.cell? ⟨b+1,2,none⟩=some (.slice d4 G e4)):=
   hid fun W' h=>⟨(q.ext0 (c.trans h)).cell 0 rfl,(q.ext0 (c.trans h)).cell 1 rfl,(q.ext0 (c.trans h)).cell 2 rfl,(r.ext0 (c.trans h)).cell 0 rfl,(r.ext0 (c.trans h)).cell 1 rfl,(r.ext0 (c.trans h)).cell 2 rfl⟩
  have V:=j7.len0;have O:=i7.len0;rw[a3X]at V O;have b7:lg (x.num*(y.den:Int)+y.num*(x.den:Int)).natAbs<=549755813888:=by
   have h1:=a1i (Int.natAbs_add_le (x.num*(y.den:Int)) (y.num*(x.den:Int)));have h2:=b0I (x.num*(y.den:Int)).natAbs (y.num*(x.den:Int)).natAbs;omega
  have b5:Hid (mkRat (x.num*(y.den:Int)+y.num*(x.den:Int)) (x.den*y.den)=x+y):=hid (Rat.add_def' x y).symm;by_cases hk:Q=0/\G=0
  ·have l1:=hid (V.1 hk.1)
   have l7:=hid (O.1 hk.2);obtain⟨rfl,rfl⟩:=hk;have i8:Hid (((x.num+y.num:Int):Rat)=x+y):=hid (by
    rw[Rat.intCast_add]
    conv=>rhs;rw[<-Rat.mkRat_self x,<-Rat.mkRat_self y]
    rw[l1.out,l7.out,<-Rat.mk_den_one,<-Rat.mk_den_one,Rat.mk_eq_mkRat,Rat.mk_eq_mkRat])
   clear V O;go_wp2_with fail
   refine(c0j (a0e X b 3) wc _ _ _ _ j3 (i5.zv c7) (i1.zv g3)).mono ?_;rintro f w5 ⟨j,u5,rfl,s6,a6,c6,l6,rfl,j9,m4,l9⟩;have l3:=b2.ext0 j;have i9:=a6a.ofInt m4;rw[i8.out]at i9;clear s E z B D A;go_wp2_with ((with_reducible show wpList _ _ _ (⟨_, .store _ _ _,_,_,_,_⟩::_) _ _);refine a0a a0t rfl rfl l3 rfl rfl (a1Q _ _ _ _ _ _ _) ?_;intro w7 r1 r2)
   have h7:=(l9.mono (a0c.mono _) (a0h r2 (by omega) (by omega))).mono (a0c.mono _) a0n;exact bodyPost_ret (a0d rfl rfl a0t r1 rfl) rfl ⟨ExtX.box (b4.trans j) r2 (by omega),_,rfl,s6,a6,c6,l6,none,0,[],rfl,j9,Nat.le_refl _,i9,h7,Sl.nil _ _ _ _⟩
  ·have o6:Hid (¬(Q=0/\G=0)):=hid hk
   rcases(by omega:¬Q=0\/(Q=0/\¬G=0))with h3|⟨h3,h4⟩
   ·have hI:((Q:Int)==0)=false:=a2w (by omega)
    clear hk V O h3;go_wp2_with fail
    go_region_held3 (fun F=>F.cell? ⟨b,0,none⟩=some (.bool s3)/\F.cell? ⟨b,1,none⟩=some (.slice a3 n3 c3)/\F.cell? ⟨b,2,none⟩=some (.slice d3 Q e3)/\F.cell? ⟨b+1,0,none⟩=some (.bool s4)/\F.cell? ⟨b+1,1,none⟩=some (.slice a4 n4 c4)/\F.cell? ⟨b+1,2,none⟩=some (.slice d4 G e4))
     (first|exact g.out _ t1|exact g.out _ t2|exact g.out _ t3|exact g.out _ t4|exact g.out _ t5|exact g.out _ Z|exact g.out _ t7|exact g.out _ t8|exact g.out _ i|exact⟨((p.out.1.ext0 (c.trans i)).ext (a.set3 _ _ _).2 (a0b (by omega))).cell 0 rfl,((p.out.1.ext0 (c.trans i)).ext (a.set3 _ _ _).2 (a0b (by omega))).cell 1 rfl,((p.out.1.ext0 (c.trans i)).ext (a.set3 _ _ _).2 (a0b (by omega))).cell 2 rfl,((p.out.2.ext0 (c.trans i)).ext (a.set3 _ _ _).2 (a0b (by omega))).cell 0 rfl,((p.out.2.ext0 (c.trans i)).ext (a.set3 _ _ _).2 (a0b (by omega))).cell 1 rfl,((p.out.2.ext0 (c.trans i)).ext (a.set3 _ _ _).2 (a0b (by omega))).cell 2 rfl⟩|go_keep)
     (first|(go_at_call 163;(with_reducible refine(a9x (a0e X b 3) wc.drew _ y d a7).mono ?_);rintro f w5 ⟨t1,u5,rfl,h6⟩;have c0:=HX.ext d t1;have f9:=mkx ZC.mono b8 t1)|(go_at_call 162;(with_reducible refine(a5R (a0e X b 3) w5 _ _ x.num y.den c0 f9 h6 c7 Y).mono ?_);rintro f w6 ⟨k,u6,rfl,h5⟩;have t2:=t1.trans k;have g7:=HX.ext d t2;have b9:=mkx QC.mono b3 t2)|(go_at_call 163;(with_reducible refine(a9x (a0e X b 3) w6 _ x g7 b9).mono ?_);rintro f w7 ⟨R,u7,rfl,c8⟩;have t3:=t2.trans R;have e0:=HX.ext d t3;have f4:=mkx ZC.mono b6 t3)|(go_at_call 162;(with_reducible refine(a5R (a0e X b 3) w7 _ _ y.num x.den e0 f4 c8 g3 a0).mono ?_);rintro f w8 ⟨N,u8,rfl,h0⟩;have t4:=t3.trans N;have e9:=HX.ext d t4;have f3:=(mkx ZC.mono h5 (R.trans N)).zv (Nat.le_trans i0 (by decide));have g6:=h0.zv (Nat.le_trans j6 (by decide)))|(go_at_call 177;(with_reducible refine(c0j (a0e X b 3) w8 _ _ _ _ e9 f3 g6).mono ?_);rintro f w9 ⟨e7,u9,rfl,h9⟩;have t5:=t4.trans e7;have f6:=HX.ext d t5;have d8:=mkx QC.mono b3 t5)|(go_at_call 163;(with_reducible refine(a9x (a0e X b 3) w9 _ x f6 d8).mono ?_);rintro f f8 ⟨l,k9,rfl,I⟩;have Z:=t5.trans l;have U:=HX.ext d Z;have M:=mkx QC.mono a7 Z)|(go_at_call 163;(with_reducible refine(a9x (a0e X b 3) f8 _ y U M).mono ?_);rintro f m7 ⟨e,m0,rfl,T⟩;have t7:=Z.trans e;have L:=HX.ext d t7;have J:=(mkx NC.mono I e).nv (Nat.le_trans a0 (by decide));have H:=T.nv (Nat.le_trans Y (by decide)))|(go_at_call 179;(with_reducible refine(b7h L J H).mono ?_);rintro f e8 ⟨m,l5,rfl,K⟩;have t8:=t7.trans m;have S:=HX.ext d t8;have d9:=mkx ZC.mono h9 (l.trans (e.trans m)))|(go_at_call 178;(with_reducible refine(a5z (a0e X b 3) e8 _ _ _ _ S d9 K b7 (Nat.le_trans i6 (by decide)) j1).mono ?_);rintro f l4 ⟨P,k7,rfl,n⟩;obtain⟨d7,f5,h8,g5,f7,c9,g8,rfl⟩:=n.shape;have i:=t8.trans P;have a:=b2.ext0 (c.trans i);have g0:=a.cell 0 rfl;have g1:=a.cell 1 rfl;have g2:=a.cell 2 rfl;have f0:=a.frozen 0;have f1:=a.frozen 1;have f2:=a.frozen 2))
    obtain⟨r1,r2⟩:=a.set3 (.bool d7) (.slice f5 h8 g5) (.slice f7 c9 g8);have h7:=QC.mono _ _ _ _ a0n (QC.mono _ _ _ _ (a0h r2 (by omega) (by omega)) n);rw[b5.out]at h7;have g4:Ext w _:=ExtX.box (b4.trans (c.trans i)) r2 (by omega);clear g0 g1 g2 f0 f1 f2 s E z B D A g p;go_wp2_with fail
    exact bodyPost_ret (a0d rfl rfl a0t r1 rfl) rfl ⟨g4,_,rfl,h7⟩
   ·have hI:((G:Int)==0)=false:=a2w (by omega)
    subst h3;clear hk V O h4;go_wp2_with fail
    go_region_held3 (fun F=>F.cell? ⟨b,0,none⟩=some (.bool s3)/\F.cell? ⟨b,1,none⟩=some (.slice a3 n3 c3)/\F.cell? ⟨b,2,none⟩=some (.slice d3 0 e3)/\F.cell? ⟨b+1,0,none⟩=some (.bool s4)/\F.cell? ⟨b+1,1,none⟩=some (.slice a4 n4 c4)/\F.cell? ⟨b+1,2,none⟩=some (.slice d4 G e4))
     (first|exact g.out _ t1|exact g.out _ t2|exact g.out _ t3|exact g.out _ t4|exact g.out _ t5|exact g.out _ Z|exact g.out _ t7|exact g.out _ t8|exact g.out _ i|exact⟨((p.out.1.ext0 (c.trans i)).ext (a.set3 _ _ _).2 (a0b (by omega))).cell 0 rfl,((p.out.1.ext0 (c.trans i)).ext (a.set3 _ _ _).2 (a0b (by omega))).cell 1 rfl,((p.out.1.ext0 (c.trans i)).ext (a.set3 _ _ _).2 (a0b (by omega))).cell 2 rfl,((p.out.2.ext0 (c.trans i)).ext (a.set3 _ _ _).2 (a0b (by omega))).cell 0 rfl,((p.out.2.ext0 (c.trans i)).ext (a.set3 _ _ _).2 (a0b (by omega))).cell 1 rfl,((p.out.2.ext0 (c.trans i)).ext (a.set3 _ _ _).2 (a0b (by omega))).cell 2 rfl⟩|go_keep)
     (first|(go_at_call 163;(with_reducible refine(a9x (a0e X b 3) wc.drew _ y d a7).mono ?_);rintro f w5 ⟨t1,u5,rfl,h6⟩;have c0:=HX.ext d t1;have f9:=mkx ZC.mono b8 t1)|(go_at_call 162;(with_reducible refine(a5R (a0e X b 3) w5 _ _ x.num y.den c0 f9 h6 c7 Y).mono ?_);rintro f w6 ⟨k,u6,rfl,h5⟩;have t2:=t1.trans k;have g7:=HX.ext d t2;have b9:=mkx QC.mono b3 t2)|(go_at_call 163;(with_reducible refine(a9x (a0e X b 3) w6 _ x g7 b9).mono ?_);rintro f w7 ⟨R,u7,rfl,c8⟩;have t3:=t2.trans R;have e0:=HX.ext d t3;have f4:=mkx ZC.mono b6 t3)|(go_at_call 162;(with_reducible refine(a5R (a0e X b 3) w7 _ _ y.num x.den e0 f4 c8 g3 a0).mono ?_);rintro f w8 ⟨N,u8,rfl,h0⟩;have t4:=t3.trans N;have e9:=HX.ext d t4;have f3:=(mkx ZC.mono h5 (R.trans N)).zv (Nat.le_trans i0 (by decide));have g6:=h0.zv (Nat.le_trans j6 (by decide)))|(go_at_call 177;(with_reducible refine(c0j (a0e X b 3) w8 _ _ _ _ e9 f3 g6).mono ?_);rintro f w9 ⟨e7,u9,rfl,h9⟩;have t5:=t4.trans e7;have f6:=HX.ext d t5;have d8:=mkx QC.mono b3 t5)|(go_at_call 163;(with_reducible refine(a9x (a0e X b 3) w9 _ x f6 d8).mono ?_);rintro f f8 ⟨l,k9,rfl,I⟩;have Z:=t5.trans l;have U:=HX.ext d Z;have M:=mkx QC.mono a7 Z)|(go_at_call 163;(with_reducible refine(a9x (a0e X b 3) f8 _ y U M).mono ?_);rintro f m7 ⟨e,m0,rfl,T⟩;have t7:=Z.trans e;have L:=HX.ext d t7;have J:=(mkx NC.mono I e).nv (Nat.le_trans a0 (by decide));have H:=T.nv (Nat.le_trans Y (by decide)))|(go_at_call 179;(with_reducible refine(b7h L J H).mono ?_);rintro f e8 ⟨m,l5,rfl,K⟩;have t8:=t7.trans m;have S:=HX.ext d t8;have d9:=mkx ZC.mono h9 (l.trans (e.trans m)))|(go_at_call 178;(with_reducible refine(a5z (a0e X b 3) e8 _ _ _ _ S d9 K b7 (Nat.le_trans i6 (by decide)) j1).mono ?_);rintro f l4 ⟨P,k7,rfl,n⟩;obtain⟨d7,f5,h8,g5,f7,c9,g8,rfl⟩:=n.shape;have i:=t8.trans P;have a:=b2.ext0 (c.trans i);have g0:=a.cell 0 rfl;have g1:=a.cell 1 rfl;have g2:=a.cell 2 rfl;have f0:=a.frozen 0;have f1:=a.frozen 1;have f2:=a.frozen 2))
    obtain⟨r1,r2⟩:=a.set3 (.bool d7) (.slice f5 h8 g5) (.slice f7 c9 g8);have h7:=QC.mono _ _ _ _ a0n (QC.mono _ _ _ _ (a0h r2 (by omega) (by omega)) n);rw[b5.out]at h7;have g4:Ext w _:=ExtX.box (b4.trans (c.trans i)) r2 (by omega);clear g0 g1 g2 f0 f1 f2 s E z B D A g p;go_wp2_with fail
    exact bodyPost_ret (a0d rfl rfl a0t r1 rfl) rfl ⟨g4,_,rfl,h7⟩
set_option maxRecDepth 100000 in
set_option maxHeartbeats 1600000 in
theorem b8D (X:Nat->Bool) (w:World) (u v:Value) (x y:Rat) (hX:HX X w) (hu:QV (mk X w) u x) (hv:QV (mk X w) v y):Calls Tryz.prog 133 #[u,v] w (a1Z X w QC (x*y)):=by
 have p:=hid hu.hq;have t:=hid hv.hq;obtain⟨s1,a1,n1,c1,d1,k1,e1,rfl⟩:=hu.shape;obtain⟨s2,a2,n2,c2,d2,k2,e2,rfl⟩:=hv.shape;obtain⟨W,hW,hE,m,n,Y,hz⟩:=a2D w #[.bool s1, .slice a1 n1 c1, .slice d1 k1 e1] #[.bool s2, .slice a2 n2 c2, .slice d2 k2 e2] #[.bool false, .slice none 0 0, .slice none 0 0] 45 45 45;have i3:HX (a0e X w.heap.size 3) W:=hX.boxes hz;have d8:=QV.mono _ _ _ _ (a0o (nb:=3) hE) hu;have b3:=QV.mono _ _ _ _ (a0o (nb:=3) hE) hv;obtain⟨b,hb⟩:∃b,w.heap.size=b:=⟨_,rfl⟩;have m0:w.heap.size<=b:=by omega
 rw[hb]at m n Y hz i3 d8 b3;have c:Ext W W.drew:=(ExtX.refl W).drew;have d:HX (a0e X b 3) W.drew:=i3;have f7:QV (mk (a0e X b 3) W.drew) (.agg #[.bool s1, .slice a1 n1 c1, .slice d1 k1 e1]) x:=d8;have i0:QV (mk (a0e X b 3) W.drew) (.agg #[.bool s2, .slice a2 n2 c2, .slice d2 k2 e2]) y:=b3;have o:=m.cell 0 rfl;have A:=m.cell 1 rfl;have q:=m.cell 2 rfl;have s:=n.cell 0 rfl;have z:=n.cell 1 rfl;have r:=n.cell 2 rfl;clear hu hv;go_enter Tryz.func133,Tryz.ntmps133
 go_upto_region 1 with(fail)
 go_cut []from 5 to 8 (fun wx=>∃s3 a3 Z V d3 J e3 P Q U T d4 I e4,Bx wx b #[.bool s3, .slice a3 Z V, .slice d3 J e3] 45/\Bx wx (b+1) #[.bool P, .slice Q U T, .slice d4 I e4] 45/\Bx wx (b+1+1) #[.bool false, .slice none 0 0, .slice none 0 0] 45/\QC (mk (a0e X b 3) wx) (.agg #[.bool s3, .slice a3 Z V, .slice d3 J e3]) x/\QC (mk (a0e X b 3) wx) (.agg #[.bool P, .slice Q U T, .slice d4 I e4]) y/\Ext w wx)
 case first=>
  go_region_with (first|(go_at_call 160;(with_reducible refine(a4x (a0e X b 3) W.drew _ x d f7).mono ?_);rintro C w5 ⟨f,u5,rfl,h5⟩;obtain⟨s5,a5,n5,c5,d5,k5,e5,rfl⟩:=h5.shape;have M:=m.ext0 (c.trans f);have N:=n.ext0 (c.trans f);have l9:=M.cell 0 rfl;have k7:=M.cell 1 rfl;have l1:=M.cell 2 rfl;have j0:=N.cell 0 rfl;have i6:=N.cell 1 rfl;have l2:=N.cell 2 rfl)|(go_at_call 160;(with_reducible refine(a4x (a0e X b 3) w5 _ y (HX.ext d f) (mkx QV.mono i0 f)).mono ?_);rintro C w6 ⟨e,u6,rfl,i2⟩;obtain⟨s6,a6,n6,c6,d6,k6,e6,rfl⟩:=i2.shape;have a:=M.ext0 e;have j:=N.ext0 e;have l4:=a.cell 0 rfl;have j3:=a.cell 1 rfl;have k0:=a.cell 2 rfl;have l3:=j.cell 0 rfl;have i8:=j.cell 1 rfl;have m1:=j.cell 2 rfl;have j7:=a.frozen 0;have k9:=a.frozen 1;have l5:=a.frozen 2;have l8:=j.frozen 0;have l7:=j.frozen 1;have j9:=j.frozen 2))
  all_goals
   obtain⟨wf,f9,q0,q1,q2,q3,q4⟩:=a2c (X:=X) (nb:=3) a j (hE.trans ((c.trans f).trans e)) m0 (by omega) (.bool s5) (.slice a5 n5 c5) (.slice d5 k5 e5) (.bool s6) (.slice a6 n6 c6) (.slice d6 k6 e6);rw[f9];have j1:QC (mk (a0e X b 3) wf) (.agg #[.bool s5, .slice a5 n5 c5, .slice d5 k5 e5]) x:=QC.mono _ _ _ _ q4 (mkx QC.mono h5 e);have l0:QC (mk (a0e X b 3) wf) (.agg #[.bool s6, .slice a6 n6 c6, .slice d6 k6 e6]) y:=QC.mono _ _ _ _ q4 i2;have q5:=q2 (b+1+1) _ _ (by omega) (by omega) ((Y.ext0 (c.trans f)).ext0 e);clear l9 k7 l1 j0 i6 l2 l4 j3 k0 l3 i8 m1 j7 k9 l8 l7 l5 j9 o A q s z r f9;go_wp2_with fail
   go_meet
   exact⟨_,_,_,_,_,_,_,_,_,_,_,_,_,_,q0,q1,q5,j1,l0,q3⟩
 case rest=>
  clear o A q s z r m n Y d8 b3 f7 i0 d c hW;obtain⟨s3,a3,Z,V,d3,J,e3,P,Q,U,T,d4,I,e4,m,n,Y,hx,hy,O⟩:=hcut;have f8:w.heap.size+3<=wc.heap.size:=by have:=Y.lt;omega
  obtain⟨g3,m3,i4⟩:=hx.num;obtain⟨f3,m4,g7⟩:=hy.num;have i1:HX (a0e X b 3) wc:=hX.boxes' O (by have:=f8;omega) f8;have o:=m.cell 0 rfl;have A:=m.cell 1 rfl;have q:=m.cell 2 rfl;have s:=n.cell 0 rfl;have z:=n.cell 1 rfl;have r:=n.cell 2 rfl;have c:Ext wc wc.drew:=(ExtX.refl wc).drew;have d:HX (a0e X b 3) wc.drew:=i1;have h2:QC (mk (a0e X b 3) wc.drew) (.agg #[.bool s3, .slice a3 Z V, .slice d3 J e3]) x:=hx;have g6:QC (mk (a0e X b 3) wc.drew) (.agg #[.bool P, .slice Q U T, .slice d4 I e4]) y:=hy;have h8:ZC (mk (a0e X b 3) wc.drew) (.agg #[.bool s3, .slice a3 Z V]) x.num:=g3;have g8:ZC (mk (a0e X b 3) wc.drew) (.agg #[.bool P, .slice Q U T]) y.num:=f3;have f4:lg x.num.natAbs<=549755813888:=Nat.le_trans (Nat.le_trans (a0D x) p.out) (by omega);have h6:lg y.num.natAbs<=549755813888:=Nat.le_trans (Nat.le_trans (a0D y) t.out) (by omega);have f6:lg x.den<=549755813888:=Nat.le_trans (Nat.le_trans (a0E x) p.out) (by omega);have f5:lg y.den<=549755813888:=Nat.le_trans (Nat.le_trans (a0E y) t.out) (by omega);have m2:lg (x.num*(y.den:Int)).natAbs<=274877906944:=by rw[Int.natAbs_mul,Int.natAbs_natCast];have:=a1b x.num.natAbs y.den;have:=a0D x;have:=a0E y;have:=p.out;have:=t.out;omega
  have m5:lg (y.num*(x.den:Int)).natAbs<=274877906944:=by rw[Int.natAbs_mul,Int.natAbs_natCast];have:=a1b y.num.natAbs x.den;have:=a0D y;have:=a0E x;have:=p.out;have:=t.out;omega
  have g4:lg (x.den*y.den)<=274877906944:=by have:=a1b x.den y.den;have:=a0E x;have:=a0E y;have:=p.out;have:=t.out;omega
  have i5:lg (x.num*y.num).natAbs<=274877906944:=by rw[Int.natAbs_mul];have:=a1b x.num.natAbs y.num.natAbs;have:=a0D x;have:=a0D y;have:=p.out;have:=t.out;omega
  have h9:0<x.den*y.den:=Nat.mul_pos x.den_pos y.den_pos;have l:=hid (And.intro m n);have D:Hid (∀W',Ext wc.drew W'->W'.cell? ⟨b,0,none⟩=some (.bool s3)/\W'.cell? ⟨b,1,none⟩=some (.slice a3 Z V)/\W'.cell? ⟨b,2,none⟩=some (.slice d3 J e3)/\W'.cell? ⟨b+1,0,none⟩=some (.bool P)/\W'.cell? ⟨b+1,1,none⟩=some (.slice Q U T)/\W'.cell? ⟨b+1,2,none⟩=some (.slice d4 I e4)):=
   hid fun W' h=>⟨(m.ext0 (c.trans h)).cell 0 rfl,(m.ext0 (c.trans h)).cell 1 rfl,(m.ext0 (c.trans h)).cell 2 rfl,(n.ext0 (c.trans h)).cell 0 rfl,(n.ext0 (c.trans h)).cell 1 rfl,(n.ext0 (c.trans h)).cell 2 rfl⟩
  have H:=i4.len0;have F:=g7.len0;rw[a3X]at H F;have h1:=h8.zv f4;have g5:=g8.zv h6;have R:Hid (mkRat (x.num*y.num) (x.den*y.den)=x*y):=hid (Rat.mul_def' x y).symm;by_cases hk:J=0/\I=0
  ·have j2:=hid (H.1 hk.1)
   have j6:=hid (F.1 hk.2);obtain⟨rfl,rfl⟩:=hk;have g9:Hid (((x.num*y.num:Int):Rat)=x*y):=hid (by
    rw[Rat.intCast_mul]
    conv=>rhs;rw[<-Rat.mkRat_self x,<-Rat.mkRat_self y]
    rw[j2.out,j6.out,<-Rat.mk_den_one,<-Rat.mk_den_one,Rat.mk_eq_mkRat,Rat.mk_eq_mkRat])
   clear H F;go_wp2_with fail
   refine(c1j (a0e X b 3) wc _ _ _ _ i1 (g3.zv f4) (f3.zv h6)).mono ?_;rintro C w5 ⟨f,u5,rfl,s6,a6,c6,l6,rfl,i7,k8,j8⟩;have j4:=Y.ext0 f;have h0:=a6a.ofInt k8;rw[g9.out]at h0;clear o A q s z r;go_wp2_with ((with_reducible show wpList _ _ _ (⟨_, .store _ _ _,_,_,_,_⟩::_) _ _);refine a0a a0t rfl rfl j4 rfl rfl (a1Q _ _ _ _ _ _ _) ?_;intro w7 r1 S)
   have h7:=(j8.mono (a0c.mono _) (a0h S (by omega) (by omega))).mono (a0c.mono _) a0n;exact bodyPost_ret (a0d rfl rfl a0t r1 rfl) rfl ⟨ExtX.box (O.trans f) S (by omega),_,rfl,s6,a6,c6,l6,none,0,[],rfl,i7,Nat.le_refl _,h0,h7,Sl.nil _ _ _ _⟩
  ·rcases(by omega:¬J=0\/(J=0/\¬I=0))with h3|⟨h3,h4⟩
   ·have hI:((J:Int)==0)=false:=a2w (by omega)
    clear hk H F h3;go_wp2_with fail
    go_region_held3 (fun B=>B.cell? ⟨b,0,none⟩=some (.bool s3)/\B.cell? ⟨b,1,none⟩=some (.slice a3 Z V)/\B.cell? ⟨b,2,none⟩=some (.slice d3 J e3)/\B.cell? ⟨b+1,0,none⟩=some (.bool P)/\B.cell? ⟨b+1,1,none⟩=some (.slice Q U T)/\B.cell? ⟨b+1,2,none⟩=some (.slice d4 I e4))
     (first|exact D.out _ L|exact D.out _ K|exact D.out _ t3|exact D.out _ t4|exact D.out _ g|exact⟨((l.out.1.ext0 (c.trans g)).ext (a.set3 _ _ _).2 (a0b (by omega))).cell 0 rfl,((l.out.1.ext0 (c.trans g)).ext (a.set3 _ _ _).2 (a0b (by omega))).cell 1 rfl,((l.out.1.ext0 (c.trans g)).ext (a.set3 _ _ _).2 (a0b (by omega))).cell 2 rfl,((l.out.2.ext0 (c.trans g)).ext (a.set3 _ _ _).2 (a0b (by omega))).cell 0 rfl,((l.out.2.ext0 (c.trans g)).ext (a.set3 _ _ _).2 (a0b (by omega))).cell 1 rfl,((l.out.2.ext0 (c.trans g)).ext (a.set3 _ _ _).2 (a0b (by omega))).cell 2 rfl⟩|go_keep)
     (first|(go_at_call 209;(with_reducible refine(c1j (a0e X b 3) wc.drew _ _ _ _ d h1 g5).mono ?_);rintro C w5 ⟨L,u5,rfl,e7⟩;have a0:=HX.ext d L;have b9:=mkx QC.mono h2 L)|(go_at_call 163;(with_reducible refine(a9x (a0e X b 3) w5 _ x a0 b9).mono ?_);rintro C w6 ⟨e,u6,rfl,e0⟩;have K:=L.trans e;have d0:=HX.ext d K;have a8:=mkx QC.mono g6 K)|(go_at_call 163;(with_reducible refine(a9x (a0e X b 3) w6 _ y d0 a8).mono ?_);rintro C w7 ⟨k,u7,rfl,a7⟩;have t3:=K.trans k;have b5:=HX.ext d t3;have e9:=(mkx NC.mono e0 k).nv (Nat.le_trans f6 (by decide));have c0:=a7.nv (Nat.le_trans f5 (by decide)))|(go_at_call 179;(with_reducible refine(b7h b5 e9 c0).mono ?_);rintro C w8 ⟨E,u8,rfl,d9⟩;have t4:=t3.trans E;have b6:=HX.ext d t4;have c9:=mkx ZC.mono e7 (e.trans (k.trans E)))|(go_at_call 178;(with_reducible refine(a5z (a0e X b 3) w8 _ _ _ _ b6 c9 d9 (Nat.le_trans i5 (by decide)) (Nat.le_trans g4 (by decide)) h9).mono ?_);rintro C j5 ⟨G,i9,rfl,i⟩;obtain⟨b4,b7,e8,c8,b8,a9,d7,rfl⟩:=i.shape;have g:=t4.trans G;have a:=Y.ext0 (c.trans g);have g0:=a.cell 0 rfl;have g1:=a.cell 1 rfl;have g2:=a.cell 2 rfl;have f0:=a.frozen 0;have f1:=a.frozen 1;have f2:=a.frozen 2))
    obtain⟨r1,S⟩:=a.set3 (.bool b4) (.slice b7 e8 c8) (.slice b8 a9 d7);have h7:=QC.mono _ _ _ _ a0n (QC.mono _ _ _ _ (a0h S (by omega) (by omega)) i);rw[R.out]at h7;have c7:Ext w _:=ExtX.box (O.trans (c.trans g)) S (by omega);clear g0 g1 g2 f0 f1 f2 o A q s z r D l;go_wp2_with fail
    exact bodyPost_ret (a0d rfl rfl a0t r1 rfl) rfl ⟨c7,_,rfl,h7⟩
   ·have hI:((I:Int)==0)=false:=a2w (by omega)
    subst h3;clear hk H F h4;go_wp2_with fail
    go_region_held3 (fun B=>B.cell? ⟨b,0,none⟩=some (.bool s3)/\B.cell? ⟨b,1,none⟩=some (.slice a3 Z V)/\B.cell? ⟨b,2,none⟩=some (.slice d3 0 e3)/\B.cell? ⟨b+1,0,none⟩=some (.bool P)/\B.cell? ⟨b+1,1,none⟩=some (.slice Q U T)/\B.cell? ⟨b+1,2,none⟩=some (.slice d4 I e4))
     (first|exact D.out _ L|exact D.out _ K|exact D.out _ t3|exact D.out _ t4|exact D.out _ g|exact⟨((l.out.1.ext0 (c.trans g)).ext (a.set3 _ _ _).2 (a0b (by omega))).cell 0 rfl,((l.out.1.ext0 (c.trans g)).ext (a.set3 _ _ _).2 (a0b (by omega))).cell 1 rfl,((l.out.1.ext0 (c.trans g)).ext (a.set3 _ _ _).2 (a0b (by omega))).cell 2 rfl,((l.out.2.ext0 (c.trans g)).ext (a.set3 _ _ _).2 (a0b (by omega))).cell 0 rfl,((l.out.2.ext0 (c.trans g)).ext (a.set3 _ _ _).2 (a0b (by omega))).cell 1 rfl,((l.out.2.ext0 (c.trans g)).ext (a.set3 _ _ _).2 (a0b (by omega))).cell 2 rfl⟩|go_keep)
     (first|(go_at_call 209;(with_reducible refine(c1j (a0e X b 3) wc.drew _ _ _ _ d h1 g5).mono ?_);rintro C w5 ⟨L,u5,rfl,e7⟩;have a0:=HX.ext d L;have b9:=mkx QC.mono h2 L)|(go_at_call 163;(with_reducible refine(a9x (a0e X b 3) w5 _ x a0 b9).mono ?_);rintro C w6 ⟨e,u6,rfl,e0⟩;have K:=L.trans e;have d0:=HX.ext d K;have a8:=mkx QC.mono g6 K)|(go_at_call 163;(with_reducible refine(a9x (a0e X b 3) w6 _ y d0 a8).mono ?_);rintro C w7 ⟨k,u7,rfl,a7⟩;have t3:=K.trans k;have b5:=HX.ext d t3;have e9:=(mkx NC.mono e0 k).nv (Nat.le_trans f6 (by decide));have c0:=a7.nv (Nat.le_trans f5 (by decide)))|(go_at_call 179;(with_reducible refine(b7h b5 e9 c0).mono ?_);rintro C w8 ⟨E,u8,rfl,d9⟩;have t4:=t3.trans E;have b6:=HX.ext d t4;have c9:=mkx ZC.mono e7 (e.trans (k.trans E)))|(go_at_call 178;(with_reducible refine(a5z (a0e X b 3) w8 _ _ _ _ b6 c9 d9 (Nat.le_trans i5 (by decide)) (Nat.le_trans g4 (by decide)) h9).mono ?_);rintro C j5 ⟨G,i9,rfl,i⟩;obtain⟨b4,b7,e8,c8,b8,a9,d7,rfl⟩:=i.shape;have g:=t4.trans G;have a:=Y.ext0 (c.trans g);have g0:=a.cell 0 rfl;have g1:=a.cell 1 rfl;have g2:=a.cell 2 rfl;have f0:=a.frozen 0;have f1:=a.frozen 1;have f2:=a.frozen 2))
    obtain⟨r1,S⟩:=a.set3 (.bool b4) (.slice b7 e8 c8) (.slice b8 a9 d7);have h7:=QC.mono _ _ _ _ a0n (QC.mono _ _ _ _ (a0h S (by omega) (by omega)) i);rw[R.out]at h7;have c7:Ext w _:=ExtX.box (O.trans (c.trans g)) S (by omega);clear g0 g1 g2 f0 f1 f2 o A q s z r D l;go_wp2_with fail
    exact bodyPost_ret (a0d rfl rfl a0t r1 rfl) rfl ⟨c7,_,rfl,h7⟩
theorem a5S (s:Bool) (a d:Option Addr) (n c k e:Nat) (W:World):(Instr.field 45 (.agg #[.bool s, .slice a n c, .slice d k e]) 0).run Tryz.prog W= .ok (.agg #[.bool s, .slice a n c]) W:=by kernel_rfl
def b5D (x y:Rat):Int:=if x<y then -1 else if y<x then 1 else 0
theorem b8E (x y:Rat):b7n (x.num*(y.den:Int)) (y.num*(x.den:Int))=b5D x y:=by
 unfold b7n b5D;simp only[Rat.lt_iff]
set_option maxRecDepth 100000 in
set_option maxHeartbeats 1600000 in
theorem b5E (X:Nat->Bool) (w:World) (u v:Value) (x y:Rat) (hX:HX X w) (hu:QV (mk X w) u x) (hv:QV (mk X w) v y):Calls Tryz.prog 81 #[u,v] w (a4v w (b5D x y)):=by
 have i:=hid hu.hq;have j:=hid hv.hq;obtain⟨s1,a1,n1,c1,d1,k1,e1,rfl⟩:=hu.shape;obtain⟨s2,a2,n2,c2,d2,k2,e2,rfl⟩:=hv.shape;obtain⟨W,hW,hE,g,f,hz⟩:=a1v w #[.bool s1, .slice a1 n1 c1, .slice d1 k1 e1] #[.bool s2, .slice a2 n2 c2, .slice d2 k2 e2] 45 45;have b5:HX (a0e X w.heap.size 2) W:=hX.boxes hz;have F:=QV.mono _ _ _ _ (a0o (nb:=2) hE) hu;have A:=QV.mono _ _ _ _ (a0o (nb:=2) hE) hv;obtain⟨b,hb⟩:∃b,w.heap.size=b:=⟨_,rfl⟩;have h9:w.heap.size<=b:=by omega
 rw[hb]at g f hz b5 F A;have a:Ext W W.drew:=(ExtX.refl W).drew;have c:HX (a0e X b 2) W.drew:=b5;have T:QV (mk (a0e X b 2) W.drew) (.agg #[.bool s1, .slice a1 n1 c1, .slice d1 k1 e1]) x:=F;have b3:QV (mk (a0e X b 2) W.drew) (.agg #[.bool s2, .slice a2 n2 c2, .slice d2 k2 e2]) y:=A;have m:=g.cell 0 rfl;have t:=g.cell 1 rfl;have n:=g.cell 2 rfl;have p:=f.cell 0 rfl;have s:=f.cell 1 rfl;have o:=f.cell 2 rfl;clear hu hv;go_enter Tryz.func81,Tryz.ntmps81
 go_upto_region 1 with(fail)
 go_cut []from 5 to 8 (fun Z=>∃H I G E M N O z B D C P J L,Bx Z b #[.bool H, .slice I G E, .slice M N O] 45/\Bx Z (b+1) #[.bool z, .slice B D C, .slice P J L] 45/\QC (mk (a0e X b 2) Z) (.agg #[.bool H, .slice I G E, .slice M N O]) x/\QC (mk (a0e X b 2) Z) (.agg #[.bool z, .slice B D C, .slice P J L]) y/\Ext w Z)
 case first=>
  go_region_with (first|(go_at_call 160;(with_reducible refine(a4x (a0e X b 2) W.drew _ x c T).mono ?_);rintro K w5 ⟨l,u5,rfl,a9⟩;obtain⟨s5,a5,n5,c5,d5,k5,e5,rfl⟩:=a9.shape;have q:=g.ext0 (a.trans l);have r:=f.ext0 (a.trans l);have h8:=q.cell 0 rfl;have g1:=q.cell 1 rfl;have g5:=q.cell 2 rfl;have d8:=r.cell 0 rfl;have b8:=r.cell 1 rfl;have g6:=r.cell 2 rfl)|(go_at_call 160;(with_reducible refine(a4x (a0e X b 2) w5 _ y (HX.ext c l) (mkx QV.mono b3 l)).mono ?_);rintro K w6 ⟨k,u6,rfl,b4⟩;obtain⟨s6,a6,n6,c6,d6,k6,e6,rfl⟩:=b4.shape;have e:=q.ext0 k;have d:=r.ext0 k;have g9:=e.cell 0 rfl;have e9:=e.cell 1 rfl;have g0:=e.cell 2 rfl;have g7:=d.cell 0 rfl;have d0:=d.cell 1 rfl;have i0:=d.cell 2 rfl;have f4:=e.frozen 0;have g3:=e.frozen 1;have h1:=e.frozen 2;have h4:=d.frozen 0;have h2:=d.frozen 1;have f7:=d.frozen 2))
  all_goals
   obtain⟨wf,V,q0,q1,q2,q3,q4⟩:=a2c (X:=X) (nb:=2) e d (hE.trans ((a.trans l).trans k)) h9 (by omega) (.bool s5) (.slice a5 n5 c5) (.slice d5 k5 e5) (.bool s6) (.slice a6 n6 c6) (.slice d6 k6 e6);rw[V];have e7:QC (mk (a0e X b 2) wf) (.agg #[.bool s5, .slice a5 n5 c5, .slice d5 k5 e5]) x:=QC.mono _ _ _ _ q4 (mkx QC.mono a9 k);have g4:QC (mk (a0e X b 2) wf) (.agg #[.bool s6, .slice a6 n6 c6, .slice d6 k6 e6]) y:=QC.mono _ _ _ _ q4 b4;clear h8 g1 g5 d8 b8 g6 g9 e9 g0 g7 d0 i0 f4 g3 h4 h2 h1 f7 m t n p s o V;go_wp2_with fail
   go_meet
   exact⟨_,_,_,_,_,_,_,_,_,_,_,_,_,_,q0,q1,e7,g4,q3⟩
 case rest=>
  clear m t n p s o g f F A T b3 c a hW;obtain⟨H,I,G,E,M,N,O,z,B,D,C,P,J,L,g,f,hx,hy,a8⟩:=hcut;have U:w.heap.size+2<=wc.heap.size:=by have:=f.lt;omega
  obtain⟨d9,i3,i2⟩:=hx.num;obtain⟨b9,i5,i1⟩:=hy.num;have h0:HX (a0e X b 2) wc:=hX.boxes' a8 (by have:=U;omega) U;have m:=g.cell 0 rfl;have t:=g.cell 1 rfl;have n:=g.cell 2 rfl;have p:=f.cell 0 rfl;have s:=f.cell 1 rfl;have o:=f.cell 2 rfl;have a:Ext wc wc.drew:=(ExtX.refl wc).drew;have c:HX (a0e X b 2) wc.drew:=h0;have f5:QC (mk (a0e X b 2) wc.drew) (.agg #[.bool H, .slice I G E, .slice M N O]) x:=hx;have e0:QC (mk (a0e X b 2) wc.drew) (.agg #[.bool z, .slice B D C, .slice P J L]) y:=hy;have b2:ZC (mk (a0e X b 2) wc.drew) (.agg #[.bool H, .slice I G E]) x.num:=d9;have Y:ZC (mk (a0e X b 2) wc.drew) (.agg #[.bool z, .slice B D C]) y.num:=b9;have c7:lg x.num.natAbs<=549755813888:=Nat.le_trans (Nat.le_trans (a0D x) i.out) (by omega);have f8:lg y.num.natAbs<=549755813888:=Nat.le_trans (Nat.le_trans (a0D y) j.out) (by omega);have d7:lg x.den<=549755813888:=Nat.le_trans (Nat.le_trans (a0E x) i.out) (by omega);have c9:lg y.den<=549755813888:=Nat.le_trans (Nat.le_trans (a0E y) j.out) (by omega);have b7:lg (x.num*(y.den:Int)).natAbs<=274877906944:=by rw[Int.natAbs_mul,Int.natAbs_natCast];have:=a1b x.num.natAbs y.den;have:=a0D x;have:=a0E y;have:=i.out;have:=j.out;omega
  have h5:lg (y.num*(x.den:Int)).natAbs<=274877906944:=by rw[Int.natAbs_mul,Int.natAbs_natCast];have:=a1b y.num.natAbs x.den;have:=a0D y;have:=a0E x;have:=i.out;have:=j.out;omega
  have i4:lg (x.den*y.den)<=274877906944:=by have:=a1b x.den y.den;have:=a0E x;have:=a0E y;have:=i.out;have:=j.out;omega
  have i7:lg (x.num*y.num).natAbs<=274877906944:=by rw[Int.natAbs_mul];have:=a1b x.num.natAbs y.num.natAbs;have:=a0D x;have:=a0D y;have:=i.out;have:=j.out;omega
  have i6:0<x.den*y.den:=Nat.mul_pos x.den_pos y.den_pos;have hB:=hid (And.intro g f);have R:Hid (∀W',Ext wc.drew W'->W'.cell? ⟨b,0,none⟩=some (.bool H)/\W'.cell? ⟨b,1,none⟩=some (.slice I G E)/\W'.cell? ⟨b,2,none⟩=some (.slice M N O)/\W'.cell? ⟨b+1,0,none⟩=some (.bool z)/\W'.cell? ⟨b+1,1,none⟩=some (.slice B D C)/\W'.cell? ⟨b+1,2,none⟩=some (.slice P J L)):=
   hid fun W' h=>⟨(g.ext0 (a.trans h)).cell 0 rfl,(g.ext0 (a.trans h)).cell 1 rfl,(g.ext0 (a.trans h)).cell 2 rfl,(f.ext0 (a.trans h)).cell 0 rfl,(f.ext0 (a.trans h)).cell 1 rfl,(f.ext0 (a.trans h)).cell 2 rfl⟩
  have S:Hid (b7n (x.num*(y.den:Int)) (y.num*(x.den:Int))=b5D x y):=hid (b8E x y);go_wp2_with fail
  go_region_held3 (fun Q=>Q.cell? ⟨b,0,none⟩=some (.bool H)/\Q.cell? ⟨b,1,none⟩=some (.slice I G E)/\Q.cell? ⟨b,2,none⟩=some (.slice M N O)/\Q.cell? ⟨b+1,0,none⟩=some (.bool z)/\Q.cell? ⟨b+1,1,none⟩=some (.slice B D C)/\Q.cell? ⟨b+1,2,none⟩=some (.slice P J L))
   (first|exact R.out _ t1|exact R.out _ t2|exact R.out _ t3|exact R.out _ t4|exact R.out _ t5|go_keep)
   (first|(go_at_call 163;(with_reducible refine(a9x (a0e X b 2) wc.drew _ y c e0).mono ?_);rintro K w5 ⟨t1,u5,rfl,h7⟩;have c0:=HX.ext c t1;have f6:=mkx ZC.mono b2 t1)|(go_at_call 162;(with_reducible refine(a5R (a0e X b 2) w5 _ _ x.num y.den c0 f6 h7 c7 c9).mono ?_);rintro K w6 ⟨k,u6,rfl,h6⟩;have t2:=t1.trans k;have g8:=HX.ext c t2;have b6:=mkx QC.mono f5 t2)|(go_at_call 163;(with_reducible refine(a9x (a0e X b 2) w6 _ x g8 b6).mono ?_);rintro K w7 ⟨a7,u7,rfl,c8⟩;have t3:=t2.trans a7;have e8:=HX.ext c t3;have f3:=mkx ZC.mono Y t3)|(go_at_call 162;(with_reducible refine(a5R (a0e X b 2) w7 _ _ y.num x.den e8 f3 c8 f8 d7).mono ?_);rintro K w8 ⟨a0,u8,rfl,h3⟩;have t4:=t3.trans a0;have f1:=HX.ext c t4;have f2:=(mkx ZC.mono h6 (a7.trans a0)).zv (Nat.le_trans b7 (by decide));have g2:=h3.zv (Nat.le_trans h5 (by decide)))|(go_at_call 161;(with_reducible refine(b5C (a0e X b 2) w8 _ _ _ _ f1 f2 g2).mono ?_);rintro K w9 ⟨f0,rfl⟩;have t5:=t4.trans f0))
  have f9:Ext w _:=a8.trans (a.trans t5);clear m t n p s o R hB;go_wp2_with fail
  go_ret
  exact⟨f9,a0P S.out⟩
set_option maxRecDepth 100000 in
theorem b5F (X:Nat->Bool) (w:World) (u:Value) (x:Rat) (s:HX X w) (f:QV (mk X w) u x):Calls Tryz.prog 131 #[u] w (a4v w x.num.sign):=by
 have l:=hid f.hq;obtain⟨v,o,q,z,B,t,y,rfl⟩:=f.shape;obtain⟨W,L,g,e,hz⟩:=a1g w #[.bool v, .slice o q z, .slice B t y] 45;have a:HX X W:=s.ext g;have k:=mkx QV.mono f g;obtain⟨b,A⟩:∃b,w.heap.size=b:=⟨_,rfl⟩;rw[A]at e hz;have j:=e.cell 0 rfl;have n:=e.cell 1 rfl;have m:=e.cell 2 rfl;have r:=a5S;clear f;go_enter Tryz.func131,Tryz.ntmps131
 go_wp2_with fail
 refine(a4x X W _ x a k).mono ?_;rintro p C ⟨c,J,rfl,d⟩;obtain⟨F,K,G,I,D,H,e5,rfl⟩:=d.shape;have h:=d.num.1.zv (Nat.le_trans (Nat.le_trans (a0D x) l.out) (by omega));clear j n m;go_wp2_with fail
 refine(b1J X C _ _ (a.ext c) h).mono ?_;rintro p E ⟨i,rfl⟩;go_wp2_with fail
 go_ret
 exact⟨g.trans (c.trans i),rfl⟩
theorem b7q (x:Rat):dn (-x)=dn x:=by unfold dn;rw[Rat.neg_den]
set_option maxRecDepth 100000 in
theorem c2t (X:Nat->Bool) (w:World) (u:Value) (x:Rat) (hX:HX X w) (A:QV (mk X w) u x):Calls Tryz.prog 176 #[u] w (a1Z X w QC (-x)):=by
 have p:=hid A.hq;obtain⟨s1,a1,n1,c1,d1,k1,e1,rfl⟩:=A.shape;obtain⟨W,hW,hE,o,b1,hz⟩:=a1v w #[.bool s1, .slice a1 n1 c1, .slice d1 k1 e1] #[.bool false, .slice none 0 0, .slice none 0 0] 45 45;have l:HX (a0e X w.heap.size 2) W:=hX.boxes hz;have t:=QV.mono _ _ _ _ (a0o (nb:=2) hE) A;obtain⟨b,hb⟩:∃b,w.heap.size=b:=⟨_,rfl⟩;have b5:w.heap.size<=b:=by omega
 rw[hb]at o b1 hz l t;have i:=o.cell 0 rfl;have k:=o.cell 1 rfl;have j:=o.cell 2 rfl;clear A;go_enter Tryz.func176,Tryz.ntmps176
 go_wp2_with fail
 refine(a4x (a0e X b 2) W _ x l t).mono ?_;rintro e w5 ⟨f,u5,rfl,q⟩;obtain⟨O,a5,P,c5,C,k5,e5,rfl⟩:=q.shape;have H:=l.ext f;have b2:=o.ext0 f;have E:=b1.ext0 f;clear i k j;go_upto_region 2 with((with_reducible show wpList _ _ _ (⟨_, .store _ _ _,_,_,_,_⟩::_) _ _);refine a0a a0t rfl rfl b2 rfl rfl (a1Q _ _ _ _ _ _ _) ?_;intro d g z;have i:=g.cell 0 rfl;have k:=g.cell 1 rfl;have j:=g.cell 2 rfl)
 have a4:=H.ext z;have a7:=E.ext z (a0b (by omega));have L:=QC.mono _ _ _ _ (a0h (X:=X) (lo:=b) (nb:=2) z (by omega) (by omega)) q;have G:Ext w d:=ExtX.box (hE.trans f) z (by omega);obtain⟨V,b4,y⟩:=L.num;have c:Ext d d.drew:=(ExtX.refl d).drew;have r:HX (a0e X b 2) d.drew:=a4;have s:ZC (mk (a0e X b 2) d.drew) (.agg #[.bool O, .slice a5 P c5]) x.num:=V;have n:NC (mk (a0e X b 2) d.drew) (.slice C k5 e5) (dn x):=y;have I:lg x.num.natAbs<=549755813888:=Nat.le_trans (Nat.le_trans (a0D x) p.out) (by omega);have R:lg (dn x)<=549755813888:=Nat.le_trans (Nat.le_trans (b2X x) p.out) (by omega);have J:=s.zv I;have hS:Hid (∀W',Ext d.drew W'->W'.cell? ⟨b,0,none⟩=some (.bool O)/\W'.cell? ⟨b,1,none⟩=some (.slice a5 P c5)/\W'.cell? ⟨b,2,none⟩=some (.slice C k5 e5)):=
  hid fun W' h=>⟨(g.ext0 (c.trans h)).cell 0 rfl,(g.ext0 (c.trans h)).cell 1 rfl,(g.ext0 (c.trans h)).cell 2 rfl⟩
 go_region_held3 (fun Z=>Z.cell? ⟨b,0,none⟩=some (.bool O)/\Z.cell? ⟨b,1,none⟩=some (.slice a5 P c5)/\Z.cell? ⟨b,2,none⟩=some (.slice C k5 e5))
  (first|exact hS.out _ B|exact hS.out _ m|exact⟨((g.ext0 (c.trans m)).ext (a.set3 _ _ _).2 (a0b (by omega))).cell 0 rfl,((g.ext0 (c.trans m)).ext (a.set3 _ _ _).2 (a0b (by omega))).cell 1 rfl,((g.ext0 (c.trans m)).ext (a.set3 _ _ _).2 (a0b (by omega))).cell 2 rfl⟩|go_keep)
  (first|(go_at_call 242;(with_reducible refine(c2d (a0e X b 2) d.drew _ _ r J).mono ?_);rintro ee w8 ⟨B,u8,rfl,N,a8,M,D,rfl,a0,T,b3⟩;have a6:=HX.ext r B;have a3:=(mkx NC.mono n B).nv (Nat.le_trans R (by decide));have S:=NC.nv (NC.zero (mk (a0e X b 2) w8)) (by decide))|(go_at_call 194;(with_reducible refine(c1q a6 a3 S).mono ?_);rintro ee w9 ⟨v,u9,rfl,a9,Y,l9,rfl,F,a2,U⟩;have m:=B.trans v;have K:=Sl.mono (a0c.mono _) (a0l v) b3;have a:=a7.ext0 (c.trans m);have g0:=a.cell 0 rfl;have g1:=a.cell 1 rfl;have g2:=a.cell 2 rfl;have f0:=a.frozen 0;have f1:=a.frozen 1;have f2:=a.frozen 2))
 obtain⟨q1,q2⟩:=a.set3 (.bool N) (.slice a8 D.length M) (.slice a9 l9.length Y);have hz:ZC (mk (a0e X b 2) w9) (.agg #[.bool N, .slice a8 D.length M]) (-x).num:=⟨N,a8,M,D,rfl,a0,by rw[Rat.neg_num];exact T,K⟩;have hd:NC (mk (a0e X b 2) w9) (.slice a9 l9.length Y) (dn (-x)):=⟨a9,Y,l9,rfl,F,by rw[b7q];exact a2,U⟩;have h7:=QC.mono _ _ _ _ a0n (QC.mono _ _ _ _ (a0h q2 (by omega) (by omega)) (QC.of hz hd));have Q:Ext w _:=ExtX.box (G.trans (c.trans m)) q2 (by omega);clear g0 g1 g2 f0 f1 f2 i k j hS;go_wp2_with fail
 exact bodyPost_ret (a0d rfl rfl a0t q1 rfl) rfl ⟨Q,_,rfl,h7⟩
set_option maxRecDepth 100000 in
theorem c2e (X:Nat->Bool) (w:World) (u v:Value) (x y:Rat) (hX:HX X w) (G:QV (mk X w) u x) (I:QV (mk X w) v y):Calls Tryz.prog 100 #[u,v] w (a1Z X w QC (x - y)):=by
 have a5:=hid G.hq;have a3:=hid I.hq;obtain⟨B,r,s,D,K,A,C,rfl⟩:=G.shape;obtain⟨z,E,J,t,q,p,F,rfl⟩:=I.shape;obtain⟨W,hW,L,e,f,b2,hz⟩:=a2D w #[.bool B, .slice r s D, .slice K A C] #[.bool z, .slice E J t, .slice q p F] #[.bool false, .slice none 0 0, .slice none 0 0] 45 45 45;have n:HX (a0e X w.heap.size 3) W:=hX.boxes hz;have m:=QV.mono _ _ _ _ (a0o (nb:=3) L) G;have k:=QV.mono _ _ _ _ (a0o (nb:=3) L) I;obtain⟨b,hb⟩:∃b,w.heap.size=b:=⟨_,rfl⟩;have a7:w.heap.size<=b:=by omega
 rw[hb]at e f b2 hz n m k;have a:Ext W W.drew:=(ExtX.refl W).drew;have l:HX (a0e X b 3) W.drew:=n;have U:QV (mk (a0e X b 3) W.drew) (.agg #[.bool B, .slice r s D, .slice K A C]) x:=m;have Y:QV (mk (a0e X b 3) W.drew) (.agg #[.bool z, .slice E J t, .slice q p F]) y:=k;have N:=e.cell 0 rfl;have T:=e.cell 1 rfl;have P:=e.cell 2 rfl;have a0:=f.cell 0 rfl;have S:=f.cell 1 rfl;have Z:=f.cell 2 rfl;clear G I;have g:=hid (And.intro e f);have hS:Hid (∀W',Ext W.drew W'->W'.cell? ⟨b,0,none⟩=some (.bool B)/\W'.cell? ⟨b,1,none⟩=some (.slice r s D)/\W'.cell? ⟨b,2,none⟩=some (.slice K A C)/\W'.cell? ⟨b+1,0,none⟩=some (.bool z)/\W'.cell? ⟨b+1,1,none⟩=some (.slice E J t)/\W'.cell? ⟨b+1,2,none⟩=some (.slice q p F)):=
  hid fun W' h=>⟨(e.ext0 (a.trans h)).cell 0 rfl,(e.ext0 (a.trans h)).cell 1 rfl,(e.ext0 (a.trans h)).cell 2 rfl,(f.ext0 (a.trans h)).cell 0 rfl,(f.ext0 (a.trans h)).cell 1 rfl,(f.ext0 (a.trans h)).cell 2 rfl⟩
 have Q:=hid (show hq (-y)<=68719476736 by rw[a5M];exact a3.out);have o:Hid (x+ -y=x - y):=hid (Rat.sub_eq_add_neg x y).symm;go_enter Tryz.func100,Tryz.ntmps100
 go_upto_region 1 with(fail)
 go_region_held3 (fun j=>j.cell? ⟨b,0,none⟩=some (.bool B)/\j.cell? ⟨b,1,none⟩=some (.slice r s D)/\j.cell? ⟨b,2,none⟩=some (.slice K A C)/\j.cell? ⟨b+1,0,none⟩=some (.bool z)/\j.cell? ⟨b+1,1,none⟩=some (.slice E J t)/\j.cell? ⟨b+1,2,none⟩=some (.slice q p F))
  (first|exact hS.out _ H|exact hS.out _ d|exact⟨((g.out.1.ext0 (a.trans d)).ext (c.set3 _ _ _).2 (a0b (by omega))).cell 0 rfl,((g.out.1.ext0 (a.trans d)).ext (c.set3 _ _ _).2 (a0b (by omega))).cell 1 rfl,((g.out.1.ext0 (a.trans d)).ext (c.set3 _ _ _).2 (a0b (by omega))).cell 2 rfl,((g.out.2.ext0 (a.trans d)).ext (c.set3 _ _ _).2 (a0b (by omega))).cell 0 rfl,((g.out.2.ext0 (a.trans d)).ext (c.set3 _ _ _).2 (a0b (by omega))).cell 1 rfl,((g.out.2.ext0 (a.trans d)).ext (c.set3 _ _ _).2 (a0b (by omega))).cell 2 rfl⟩|go_keep)
  (first|(go_at_call 176;(with_reducible refine(c2t (a0e X b 3) W.drew _ y l Y).mono ?_);rintro ee w5 ⟨H,u5,rfl,a4⟩;have M:=HX.ext l H;have O:=mkx QV.mono U H)|(go_at_call 101;(with_reducible refine(b7p (a0e X b 3) w5 _ _ x (-y) M O (a4.qv Q.out)).mono ?_);rintro ee w6 ⟨V,u6,rfl,i⟩;obtain⟨s6,a6,n6,c6,d6,k6,e6,rfl⟩:=i.shape;have d:=H.trans V;have c:=b2.ext0 (a.trans d);have g0:=c.cell 0 rfl;have g1:=c.cell 1 rfl;have g2:=c.cell 2 rfl;have f0:=c.frozen 0;have f1:=c.frozen 1;have f2:=c.frozen 2))
 rw[o.out]at i;obtain⟨q1,q2⟩:=c.set3 (.bool s6) (.slice a6 n6 c6) (.slice d6 k6 e6);have h7:=QC.mono _ _ _ _ a0n (QC.mono _ _ _ _ (a0h q2 (by omega) (by omega)) i);have R:Ext w _:=ExtX.box (L.trans (a.trans d)) q2 (by omega);clear g0 g1 g2 f0 f1 f2 N T P a0 S Z hS g;go_wp2_with fail
 exact bodyPost_ret (a0d rfl rfl a0t q1 rfl) rfl ⟨R,_,rfl,h7⟩
def e5 (b:Bool):Int:=if b then 5 else 0
def c0l (X:Nat->Bool) (w:World) (q:Rat) (c:Int) (e:Ending) (w':World):Prop:=Ext w w'/\∃u,e= .returned (.tuple #[u, .int .i64 c])/\QC (mk X w') u q
theorem b7r (x y:Int) (h:0<y):mkRat x y.natAbs=(x:Rat)/(y:Rat):=by
 rw[Rat.mkRat_eq_div,<-Rat.intCast_natCast,Int.natAbs_of_nonneg (by omega)]
theorem c0m (x y:Int) (h:y<0):mkRat (-x) y.natAbs=(x:Rat)/(y:Rat):=by
 rw[Rat.mkRat_eq_div,<-Rat.intCast_natCast,Int.ofNat_natAbs_of_nonpos (by omega),Rat.intCast_neg,Rat.intCast_neg,Rat.div_def,Rat.div_def,show(-(y:Rat))⁻¹= -(y:Rat)⁻¹ by grind];grind
theorem _root_.Go.Rep.ZC.mag {h:Mem} {s:Bool} {ao:Option Addr} {n c:Nat} {y:Int} (b:ZC h (.agg #[.bool s, .slice ao n c]) y):NC h (.slice ao n c) y.natAbs:=by
 obtain⟨_,_,_,l,a,f,d,e⟩:=b;simp only[Value.agg.injEq,Array.mk.injEq,List.cons.injEq,Value.bool.injEq,Value.slice.injEq,and_true]at a;obtain⟨rfl,rfl,rfl,rfl⟩:=a;exact⟨_,_,_,rfl,f,d.2,e⟩
theorem _root_.Go.Rep.ZC.shape {h:Mem} {u:Value} {q:Int} (a:ZC h u q):∃s ao n c,u= .agg #[.bool s, .slice ao n c]:=by
 obtain⟨s,ao,c,m,rfl,_⟩:=a;exact⟨_,_,_,_,rfl⟩
set_option maxRecDepth 100000 in
theorem c1v (X:Nat->Bool) (w:World) (u v:Value) (x y:Int) (hX:HX X w) (hu:ZC (mk X w) u x) (hv:ZC (mk X w) v y) (hx:lg x.natAbs<=549755813888) (hy:lg y.natAbs<=549755813888):Calls Tryz.prog 264 #[u,v] w (c0l X w ((x:Rat)/(y:Rat)) (e5 (decide (y=0)))):=by
 have b9:=hid hx;have c4:=hid hy;obtain⟨s1,a1,n1,c1,rfl⟩:=hu.shape;obtain⟨s2,a2,n2,c2,rfl⟩:=hv.shape;obtain⟨W,hW,hE,b0,b1,b2,hz⟩:=a2D w #[.bool s1, .slice a1 n1 c1] #[.bool s2, .slice a2 n2 c2] #[.bool false, .slice none 0 0, .slice none 0 0] 43 43 45;have R:HX (a0e X w.heap.size 3) W:=hX.boxes hz;have b5:=ZC.mono _ _ _ _ (a0o (nb:=3) hE) hu;have M:=ZC.mono _ _ _ _ (a0o (nb:=3) hE) hv;obtain⟨b,hb⟩:∃b,w.heap.size=b:=⟨_,rfl⟩;have e4:w.heap.size<=b:=by omega
 rw[hb]at b0 b1 b2 hz R b5 M;have Z:=M.zv hy;have d7:=b5.zv hx;have o:=b0.cell 0 rfl;have t:=b0.cell 1 rfl;have r:=b1.cell 0 rfl;have s:=b1.cell 1 rfl;have n:y=0\/0<y\/y<0:=by omega
 obtain⟨ec,j⟩:∃ec:Int,e5 (decide (y=0))=ec:=⟨_,rfl⟩;obtain⟨q,A⟩:∃q:Rat,(x:Rat)/(y:Rat)=q:=⟨_,rfl⟩;rw[j,A];clear hu hv hx hy;go_enter Tryz.func264,Tryz.ntmps264
 go_wp2_with fail
 refine(b1J (a0e X b 3) W _ _ R Z).mono ?_;rintro e w5 ⟨i,rfl⟩;have O:=b0.ext0 i;have P:=b1.ext0 i;have a:=b2.ext0 i;have c0:=O.cell 0 rfl;have b7:=O.cell 1 rfl;have c6:=P.cell 0 rfl;have c3:=P.cell 1 rfl;clear o t r s;rcases n with n|n|n
 ·have H:Hid ((5:Int)=ec):=hid (by rw[<-j,decide_eq_true n];rfl)
  have m:Hid ((0:Rat)=q):=hid (by rw[<-A,n,Rat.intCast_zero,Rat.div_def,Rat.inv_zero,Rat.mul_zero]);have hI:(y.sign==0)=true:=by rw[n];rfl
  generalize y.sign=c8 at*;clear n j A;go_wp2_with ((with_reducible show wpList _ _ _ (⟨_, .store _ _ _,_,_,_,_⟩::_) _ _);refine a0a a0t rfl rfl a rfl rfl (a1Q _ _ _ _ _ _ _) ?_;intro w7 r1 S)
  exact bodyPost_ret (a1x rfl rfl a0t r1 rfl) rfl ⟨ExtX.box (hE.trans i) S (by omega),_,by rw[<-H.out];rfl,by rw[<-m.out];exact QC.zero _⟩
 ·have H:Hid (ec=(0:Int)):=hid (by rw[<-j,decide_eq_false (by omega)];rfl)
  have m:Hid (mkRat x y.natAbs=q):=hid (by rw[<-A];exact b7r x y n);have hI:(y.sign==0)=false:=by rw[Int.sign_eq_one_of_pos n];rfl
  have d2:decide (y.sign<0)=false:=by rw[Int.sign_eq_one_of_pos n];rfl
  have Y:Hid (0<y.natAbs):=hid (by omega);have K:=mkx ZV.mono Z i;have l:=R.ext i;clear n j A;go_wp2_with fail
  refine(b1J (a0e X b 3) w5 _ _ l K).mono ?_;rintro e k ⟨g,rfl⟩;generalize y.sign=c8 at*;have d:=O.ext0 g;have f:=P.ext0 g;have D:=a.ext0 g;have a6:=l.ext g;have V:=hE.trans (i.trans g);have b3:=mkx ZC.mono (mkx ZC.mono b5 i) g;have b6:=(mkx ZC.mono (mkx ZC.mono M i) g).mag;clear c0 b7 c6 c3;generalize e2:s1=sz at*;generalize e3:a1=az at*;generalize e0:n1=nz at*;generalize e1:c1=U at*;generalize d5:x=z at*;have E:=b9;have a7:Hid (z+0=z):=hid (by omega);go_upto_region 5 with(fail)
  have c:Ext k k.drew:=(ExtX.refl k).drew;have I:HX (a0e X b 3) k.drew:=a6;have J:ZC (mk (a0e X b 3) k.drew) (.agg #[.bool sz, .slice az nz U]) z:=b3;have F:NC (mk (a0e X b 3) k.drew) (.slice a2 n2 c2) y.natAbs:=b6;have a8:=J.zv E.out;have a3:=ZC.zv (ZC.zero (mk (a0e X b 3) k.drew)) (by decide);have G:=hid (And.intro d f);have hS:Hid (∀W',Ext k.drew W'->W'.cell? ⟨b,0,none⟩=some (.bool sz)/\W'.cell? ⟨b,1,none⟩=some (.slice az nz U)/\W'.cell? ⟨b+1,0,none⟩=some (.bool s2)/\W'.cell? ⟨b+1,1,none⟩=some (.slice a2 n2 c2)):=
   hid fun W' h=>⟨(d.ext0 (c.trans h)).cell 0 rfl,(d.ext0 (c.trans h)).cell 1 rfl,(f.ext0 (c.trans h)).cell 0 rfl,(f.ext0 (c.trans h)).cell 1 rfl⟩
  have o:=d.cell 0 rfl;have t:=d.cell 1 rfl;have r:=f.cell 0 rfl;have s:=f.cell 1 rfl;go_region_held3 (fun Q=>Q.cell? ⟨b,0,none⟩=some (.bool sz)/\Q.cell? ⟨b,1,none⟩=some (.slice az nz U)/\Q.cell? ⟨b+1,0,none⟩=some (.bool s2)/\Q.cell? ⟨b+1,1,none⟩=some (.slice a2 n2 c2))
   (first|exact hS.out _ N|exact hS.out _ p|exact⟨((G.out.1.ext0 (c.trans p)).ext (a.set3 _ _ _).2 (a0b (by omega))).cell 0 rfl,((G.out.1.ext0 (c.trans p)).ext (a.set3 _ _ _).2 (a0b (by omega))).cell 1 rfl,((G.out.2.ext0 (c.trans p)).ext (a.set3 _ _ _).2 (a0b (by omega))).cell 0 rfl,((G.out.2.ext0 (c.trans p)).ext (a.set3 _ _ _).2 (a0b (by omega))).cell 1 rfl⟩|go_keep)
   (first|(go_at_call 177;(with_reducible refine(c0j (a0e X b 3) k.drew _ _ _ _ I a8 a3).mono ?_);rintro ee w8 ⟨N,u8,rfl,L⟩;rw[a7.out]at L;have a5:=HX.ext I N;have a0:=mkx NC.mono F N)|(go_at_call 178;(with_reducible refine(a5z (a0e X b 3) w8 _ _ z y.natAbs a5 L a0 E.out c4.out Y.out).mono ?_);rintro ee w9 ⟨a4,u9,rfl,B⟩;obtain⟨s9,a9,n9,c9,d9,k9,e9,rfl⟩:=B.shape;have p:=N.trans a4;have a:=D.ext0 (c.trans p);have g0:=a.cell 0 rfl;have g1:=a.cell 1 rfl;have g2:=a.cell 2 rfl;have f0:=a.frozen 0;have f1:=a.frozen 1;have f2:=a.frozen 2))
  rw[m.out]at B;obtain⟨q1,q2⟩:=a.set3 (.bool s9) (.slice a9 n9 c9) (.slice d9 k9 e9);have h7:=QC.mono _ _ _ _ a0n (QC.mono _ _ _ _ (a0h q2 (by omega) (by omega)) B);have b4:Ext w _:=ExtX.box (V.trans (c.trans p)) q2 (by omega);clear g0 g1 g2 f0 f1 f2 o t r s hS G;go_wp2_with fail
  exact bodyPost_ret (a1x rfl rfl a0t q1 rfl) rfl ⟨b4,_,by rw[H.out];rfl,h7⟩
 ·have H:Hid (ec=(0:Int)):=hid (by rw[<-j,decide_eq_false (by omega)];rfl)
  have m:Hid (mkRat (-x) y.natAbs=q):=hid (by rw[<-A];exact c0m x y n);have hI:(y.sign==0)=false:=by rw[Int.sign_eq_neg_one_of_neg n];rfl
  have d2:decide (y.sign<0)=true:=by rw[Int.sign_eq_neg_one_of_neg n];rfl
  have Y:Hid (0<y.natAbs):=hid (by omega);have K:=mkx ZV.mono Z i;have l:=R.ext i;clear n j A;go_wp2_with fail
  refine(b1J (a0e X b 3) w5 _ _ l K).mono ?_;rintro e w6 ⟨g,rfl⟩;generalize y.sign=c8 at*;have d:=O.ext0 g;have f:=P.ext0 g;have D:=a.ext0 g;have T:=l.ext g;have d0:=mkx ZV.mono (mkx ZV.mono d7 i) g;clear c0 b7 c6 c3;have o:=d.cell 0 rfl;have t:=d.cell 1 rfl;have r:=f.cell 0 rfl;have s:=f.cell 1 rfl;go_wp2_with fail
  refine(c2d (a0e X b 3) w6 _ _ T d0).mono ?_;rintro e w7 ⟨C,u7,rfl,b8⟩;obtain⟨sz,az,nz,U,rfl⟩:=b8.shape;have d3:=d.ext0 C;have d8:=f.ext0 C;have d4:=D.ext0 C;have c7:=T.ext C;have c5:=hE.trans (i.trans (g.trans C));have d1:=(mkx ZC.mono (mkx ZC.mono (mkx ZC.mono M i) g) C).mag;have d6:Hid (lg (-x).natAbs<=549755813888):=hid (by rw[Int.natAbs_neg];exact b9.out);clear o t r s d f D;generalize d5: -x=z at*;go_upto_region 5 with((with_reducible show wpList _ _ _ (⟨_, .store _ _ _,_,_,_,_⟩::_) _ _);refine a0a a0I rfl rfl d3 rfl rfl (a2U _ _ _ _) ?_;intro k d S)
  have f:=d8.ext S (a0b (by omega));have D:=d4.ext S (a0b (by omega));have a6:=c7.ext S;have b3:=ZC.mono _ _ _ _ (a0h (X:=X) (lo:=b) (nb:=3) S (by omega) (by omega)) b8;have b6:=NC.mono _ _ _ _ (a0h (X:=X) (lo:=b) (nb:=3) S (by omega) (by omega)) d1;have V:Ext w k:=ExtX.box c5 S (by omega);have E:=d6;have a7:Hid (z+0=z):=hid (by omega);have c:Ext k k.drew:=(ExtX.refl k).drew;have I:HX (a0e X b 3) k.drew:=a6;have J:ZC (mk (a0e X b 3) k.drew) (.agg #[.bool sz, .slice az nz U]) z:=b3;have F:NC (mk (a0e X b 3) k.drew) (.slice a2 n2 c2) y.natAbs:=b6;have a8:=J.zv E.out;have a3:=ZC.zv (ZC.zero (mk (a0e X b 3) k.drew)) (by decide);have G:=hid (And.intro d f);have hS:Hid (∀W',Ext k.drew W'->W'.cell? ⟨b,0,none⟩=some (.bool sz)/\W'.cell? ⟨b,1,none⟩=some (.slice az nz U)/\W'.cell? ⟨b+1,0,none⟩=some (.bool s2)/\W'.cell? ⟨b+1,1,none⟩=some (.slice a2 n2 c2)):=
   hid fun W' h=>⟨(d.ext0 (c.trans h)).cell 0 rfl,(d.ext0 (c.trans h)).cell 1 rfl,(f.ext0 (c.trans h)).cell 0 rfl,(f.ext0 (c.trans h)).cell 1 rfl⟩
  have o:=d.cell 0 rfl;have t:=d.cell 1 rfl;have r:=f.cell 0 rfl;have s:=f.cell 1 rfl;go_region_held3 (fun Q=>Q.cell? ⟨b,0,none⟩=some (.bool sz)/\Q.cell? ⟨b,1,none⟩=some (.slice az nz U)/\Q.cell? ⟨b+1,0,none⟩=some (.bool s2)/\Q.cell? ⟨b+1,1,none⟩=some (.slice a2 n2 c2))
   (first|exact hS.out _ N|exact hS.out _ p|exact⟨((G.out.1.ext0 (c.trans p)).ext (a.set3 _ _ _).2 (a0b (by omega))).cell 0 rfl,((G.out.1.ext0 (c.trans p)).ext (a.set3 _ _ _).2 (a0b (by omega))).cell 1 rfl,((G.out.2.ext0 (c.trans p)).ext (a.set3 _ _ _).2 (a0b (by omega))).cell 0 rfl,((G.out.2.ext0 (c.trans p)).ext (a.set3 _ _ _).2 (a0b (by omega))).cell 1 rfl⟩|go_keep)
   (first|(go_at_call 177;(with_reducible refine(c0j (a0e X b 3) k.drew _ _ _ _ I a8 a3).mono ?_);rintro ee w8 ⟨N,u8,rfl,L⟩;rw[a7.out]at L;have a5:=HX.ext I N;have a0:=mkx NC.mono F N)|(go_at_call 178;(with_reducible refine(a5z (a0e X b 3) w8 _ _ z y.natAbs a5 L a0 E.out c4.out Y.out).mono ?_);rintro ee w9 ⟨a4,u9,rfl,B⟩;obtain⟨s9,a9,n9,c9,d9,k9,e9,rfl⟩:=B.shape;have p:=N.trans a4;have a:=D.ext0 (c.trans p);have g0:=a.cell 0 rfl;have g1:=a.cell 1 rfl;have g2:=a.cell 2 rfl;have f0:=a.frozen 0;have f1:=a.frozen 1;have f2:=a.frozen 2))
  rw[m.out]at B;obtain⟨q1,q2⟩:=a.set3 (.bool s9) (.slice a9 n9 c9) (.slice d9 k9 e9);have h7:=QC.mono _ _ _ _ a0n (QC.mono _ _ _ _ (a0h q2 (by omega) (by omega)) B);have b4:Ext w _:=ExtX.box (V.trans (c.trans p)) q2 (by omega);clear g0 g1 g2 f0 f1 f2 o t r s hS G;go_wp2_with fail
  exact bodyPost_ret (a1x rfl rfl a0t q1 rfl) rfl ⟨b4,_,by rw[H.out];rfl,h7⟩
theorem b7s (x y:Rat):((x.num*(y.den:Int):Int):Rat)/((y.num*(x.den:Int):Int):Rat)=x/y:=by
 have hx:(x.num:Rat)/(x.den:Rat)=x:=by rw[<-Rat.mkRat_eq_div];exact Rat.mkRat_self x
 have a:(y.num:Rat)/(y.den:Rat)=y:=by rw[<-Rat.mkRat_eq_div];exact Rat.mkRat_self y
 rw[Rat.intCast_mul,Rat.intCast_mul,Rat.intCast_natCast,Rat.intCast_natCast];have d:(x.den:Rat)≠0:=by have:=x.den_nz;exact_mod_cast this
 have c:(y.den:Rat)≠0:=by have:=y.den_nz;exact_mod_cast this
 by_cases b:(y.num:Rat)=0
 ·rw[<-a,b];simp[Rat.div_def]
 ·conv=>rhs;rw[<-hx,<-a]
  grind
theorem b5G (y x:Rat):y.num*(x.den:Int)=0↔y=0:=by
 have a:(x.den:Int)≠0:=by have:=x.den_nz;omega
 rw[Int.mul_eq_zero,Rat.num_eq_zero];exact or_iff_left a
set_option maxRecDepth 100000 in
set_option maxHeartbeats 1600000 in
theorem c1w (X:Nat->Bool) (w:World) (u v:Value) (x y:Rat) (hX:HX X w) (hu:QV (mk X w) u x) (hv:QV (mk X w) v y):Calls Tryz.prog 208 #[u,v] w (c0l X w (x/y) (e5 (decide (y=0)))):=by
 have k:=hid hu.hq;have l:=hid hv.hq;obtain⟨s1,a1,n1,c1,d1,k1,e1,rfl⟩:=hu.shape;obtain⟨s2,a2,n2,c2,d2,k2,e2,rfl⟩:=hv.shape;obtain⟨W,hW,hE,g,j,U,hz⟩:=a2D w #[.bool s1, .slice a1 n1 c1, .slice d1 k1 e1] #[.bool s2, .slice a2 n2 c2, .slice d2 k2 e2] #[.bool false, .slice none 0 0, .slice none 0 0] 45 45 45;have c8:HX (a0e X w.heap.size 3) W:=hX.boxes hz;have J:=QV.mono _ _ _ _ (a0o (nb:=3) hE) hu;have E:=QV.mono _ _ _ _ (a0o (nb:=3) hE) hv;obtain⟨b,hb⟩:∃b,w.heap.size=b:=⟨_,rfl⟩;have j9:w.heap.size<=b:=by omega
 rw[hb]at g j U hz c8 J E;have c:Ext W W.drew:=(ExtX.refl W).drew;have d:HX (a0e X b 3) W.drew:=c8;have a7:QV (mk (a0e X b 3) W.drew) (.agg #[.bool s1, .slice a1 n1 c1, .slice d1 k1 e1]) x:=J;have c0:QV (mk (a0e X b 3) W.drew) (.agg #[.bool s2, .slice a2 n2 c2, .slice d2 k2 e2]) y:=E;have n:=g.cell 0 rfl;have A:=g.cell 1 rfl;have o:=g.cell 2 rfl;have q:=j.cell 0 rfl;have z:=j.cell 1 rfl;have p:=j.cell 2 rfl;clear hu hv;obtain⟨ec,i⟩:∃ec:Int,e5 (decide (y=0))=ec:=⟨_,rfl⟩;rw[i]
 replace i:=hid i
 go_enter Tryz.func208,Tryz.ntmps208
 go_upto_region 1 with(fail)
 go_cut []from 6 to 9 (fun Q=>∃L M K I R S T C F H G V N P,Bx Q b #[.bool L, .slice M K I, .slice R S T] 45/\Bx Q (b+1) #[.bool C, .slice F H G, .slice V N P] 45/\Bx Q (b+1+1) #[.bool false, .slice none 0 0, .slice none 0 0] 45/\QC (mk (a0e X b 3) Q) (.agg #[.bool L, .slice M K I, .slice R S T]) x/\QC (mk (a0e X b 3) Q) (.agg #[.bool C, .slice F H G, .slice V N P]) y/\Ext w Q)
 case first=>
  go_region_with (first|(go_at_call 160;(with_reducible refine(a4x (a0e X b 3) W.drew _ x d a7).mono ?_);rintro O w5 ⟨m,u5,rfl,b8⟩;obtain⟨s5,a5,n5,c5,d5,k5,e5,rfl⟩:=b8.shape;have r:=g.ext0 (c.trans m);have t:=j.ext0 (c.trans m);have j8:=r.cell 0 rfl;have h9:=r.cell 1 rfl;have i2:=r.cell 2 rfl;have f5:=t.cell 0 rfl;have d7:=t.cell 1 rfl;have i3:=t.cell 2 rfl)|(go_at_call 160;(with_reducible refine(a4x (a0e X b 3) w5 _ y (HX.ext d m) (mkx QV.mono c0 m)).mono ?_);rintro O w6 ⟨f,u6,rfl,c7⟩;obtain⟨s6,a6,n6,c6,d6,k6,e6,rfl⟩:=c7.shape;have a:=r.ext0 f;have e:=t.ext0 f;have i7:=a.cell 0 rfl;have g4:=a.cell 1 rfl;have h8:=a.cell 2 rfl;have i4:=e.cell 0 rfl;have f3:=e.cell 1 rfl;have k0:=e.cell 2 rfl;have h0:=a.frozen 0;have i0:=a.frozen 1;have i9:=a.frozen 2;have j3:=e.frozen 0;have j0:=e.frozen 1;have h3:=e.frozen 2))
  all_goals
   obtain⟨wf,a9,q0,q1,q2,q3,q4⟩:=a2c (X:=X) (nb:=3) a e (hE.trans ((c.trans m).trans f)) j9 (by omega) (.bool s5) (.slice a5 n5 c5) (.slice d5 k5 e5) (.bool s6) (.slice a6 n6 c6) (.slice d6 k6 e6);rw[a9];have f9:QC (mk (a0e X b 3) wf) (.agg #[.bool s5, .slice a5 n5 c5, .slice d5 k5 e5]) x:=QC.mono _ _ _ _ q4 (mkx QC.mono b8 f);have i1:QC (mk (a0e X b 3) wf) (.agg #[.bool s6, .slice a6 n6 c6, .slice d6 k6 e6]) y:=QC.mono _ _ _ _ q4 c7;have q5:=q2 (b+1+1) _ _ (by omega) (by omega) ((U.ext0 (c.trans m)).ext0 f);clear j8 h9 i2 f5 d7 i3 i7 g4 h8 i4 f3 k0 h0 i0 j3 j0 i9 h3 n A o q z p a9;go_wp2_with fail
   go_meet
   exact⟨_,_,_,_,_,_,_,_,_,_,_,_,_,_,q0,q1,q5,f9,i1,q3⟩
 case rest=>
  clear n A o q z p g j U J E a7 c0 d c hW;obtain⟨L,M,K,I,R,S,T,C,F,H,G,V,N,P,g,j,U,hx,hy,b7⟩:=hcut;have a8:w.heap.size+3<=wc.heap.size:=by have:=U.lt;omega
  obtain⟨f6,l0,k8⟩:=hx.num;obtain⟨d8,l3,k7⟩:=hy.num;have i8:HX (a0e X b 3) wc:=hX.boxes' b7 (by have:=a8;omega) a8;have n:=g.cell 0 rfl;have A:=g.cell 1 rfl;have o:=g.cell 2 rfl;have q:=j.cell 0 rfl;have z:=j.cell 1 rfl;have p:=j.cell 2 rfl;have c:Ext wc wc.drew:=(ExtX.refl wc).drew;have d:HX (a0e X b 3) wc.drew:=i8;have h1:QC (mk (a0e X b 3) wc.drew) (.agg #[.bool L, .slice M K I, .slice R S T]) x:=hx;have f8:QC (mk (a0e X b 3) wc.drew) (.agg #[.bool C, .slice F H G, .slice V N P]) y:=hy;have b9:ZC (mk (a0e X b 3) wc.drew) (.agg #[.bool L, .slice M K I]) x.num:=f6;have b3:ZC (mk (a0e X b 3) wc.drew) (.agg #[.bool C, .slice F H G]) y.num:=d8;have e0:lg x.num.natAbs<=549755813888:=Nat.le_trans (Nat.le_trans (a0D x) k.out) (by omega);have h4:lg y.num.natAbs<=549755813888:=Nat.le_trans (Nat.le_trans (a0D y) l.out) (by omega);have f4:lg x.den<=549755813888:=Nat.le_trans (Nat.le_trans (a0E x) k.out) (by omega);have e8:lg y.den<=549755813888:=Nat.le_trans (Nat.le_trans (a0E y) l.out) (by omega);have d0:lg (x.num*(y.den:Int)).natAbs<=274877906944:=by rw[Int.natAbs_mul,Int.natAbs_natCast];have:=a1b x.num.natAbs y.den;have:=a0D x;have:=a0E y;have:=k.out;have:=l.out;omega
  have j4:lg (y.num*(x.den:Int)).natAbs<=274877906944:=by rw[Int.natAbs_mul,Int.natAbs_natCast];have:=a1b y.num.natAbs x.den;have:=a0D y;have:=a0E x;have:=k.out;have:=l.out;omega
  have l1:lg (x.den*y.den)<=274877906944:=by have:=a1b x.den y.den;have:=a0E x;have:=a0E y;have:=k.out;have:=l.out;omega
  have l5:lg (x.num*y.num).natAbs<=274877906944:=by rw[Int.natAbs_mul];have:=a1b x.num.natAbs y.num.natAbs;have:=a0D x;have:=a0D y;have:=k.out;have:=l.out;omega
  have l4:0<x.den*y.den:=Nat.mul_pos x.den_pos y.den_pos;have D:=hid (And.intro g j);have Z:Hid (∀W',Ext wc.drew W'->W'.cell? ⟨b,0,none⟩=some (.bool L)/\W'.cell? ⟨b,1,none⟩=some (.slice M K I)/\W'.cell? ⟨b,2,none⟩=some (.slice R S T)/\W'.cell? ⟨b+1,0,none⟩=some (.bool C)/\W'.cell? ⟨b+1,1,none⟩=some (.slice F H G)/\W'.cell? ⟨b+1,2,none⟩=some (.slice V N P)):=
   hid fun W' h=>⟨(g.ext0 (c.trans h)).cell 0 rfl,(g.ext0 (c.trans h)).cell 1 rfl,(g.ext0 (c.trans h)).cell 2 rfl,(j.ext0 (c.trans h)).cell 0 rfl,(j.ext0 (c.trans h)).cell 1 rfl,(j.ext0 (c.trans h)).cell 2 rfl⟩
  have a0:Hid (((x.num*(y.den:Int):Int):Rat)/((y.num*(x.den:Int):Int):Rat)=x/y):=hid (b7s x y);have j1:Hid (e5 (decide (y.num*(x.den:Int)=0))=ec):=hid (by rw[<-i.out];simp only[b5G]);go_wp2_with fail
  go_region_held3 (fun Y=>Y.cell? ⟨b,0,none⟩=some (.bool L)/\Y.cell? ⟨b,1,none⟩=some (.slice M K I)/\Y.cell? ⟨b,2,none⟩=some (.slice R S T)/\Y.cell? ⟨b+1,0,none⟩=some (.bool C)/\Y.cell? ⟨b+1,1,none⟩=some (.slice F H G)/\Y.cell? ⟨b+1,2,none⟩=some (.slice V N P))
   (first|exact Z.out _ t1|exact Z.out _ t2|exact Z.out _ t3|exact Z.out _ t4|exact Z.out _ s|exact⟨((D.out.1.ext0 (c.trans s)).ext (a.set3 _ _ _).2 (a0b (by omega))).cell 0 rfl,((D.out.1.ext0 (c.trans s)).ext (a.set3 _ _ _).2 (a0b (by omega))).cell 1 rfl,((D.out.1.ext0 (c.trans s)).ext (a.set3 _ _ _).2 (a0b (by omega))).cell 2 rfl,((D.out.2.ext0 (c.trans s)).ext (a.set3 _ _ _).2 (a0b (by omega))).cell 0 rfl,((D.out.2.ext0 (c.trans s)).ext (a.set3 _ _ _).2 (a0b (by omega))).cell 1 rfl,((D.out.2.ext0 (c.trans s)).ext (a.set3 _ _ _).2 (a0b (by omega))).cell 2 rfl⟩|go_keep)
   (first|(go_at_call 163;(with_reducible refine(a9x (a0e X b 3) wc.drew _ y d f8).mono ?_);rintro O w5 ⟨t1,u5,rfl,j6⟩;have d9:=HX.ext d t1;have h2:=mkx ZC.mono b9 t1)|(go_at_call 162;(with_reducible refine(a5R (a0e X b 3) w5 _ _ x.num y.den d9 h2 j6 e0 e8).mono ?_);rintro O w6 ⟨f,u6,rfl,j5⟩;have t2:=t1.trans f;have i5:=HX.ext d t2;have c9:=mkx QC.mono h1 t2)|(go_at_call 163;(with_reducible refine(a9x (a0e X b 3) w6 _ x i5 c9).mono ?_);rintro O w7 ⟨b6,u7,rfl,e7⟩;have t3:=t2.trans b6;have g3:=HX.ext d t3;have g7:=mkx ZC.mono b3 t3)|(go_at_call 162;(with_reducible refine(a5R (a0e X b 3) w7 _ _ y.num x.den g3 g7 e7 h4 f4).mono ?_);rintro O w8 ⟨b4,u8,rfl,j2⟩;have t4:=t3.trans b4;have g5:=HX.ext d t4;have g6:=mkx ZC.mono j5 (b6.trans b4))|(go_at_call 264;(with_reducible refine(c1v (a0e X b 3) w8 _ _ _ _ g5 g6 j2 (Nat.le_trans d0 (by decide)) (Nat.le_trans j4 (by decide))).mono ?_);rintro O l2 ⟨b5,k9,rfl,B⟩;obtain⟨f7,g8,j7,h6,g9,e9,i6,rfl⟩:=B.shape;have s:=t4.trans b5;have a:=U.ext0 (c.trans s);have g0:=a.cell 0 rfl;have g1:=a.cell 1 rfl;have g2:=a.cell 2 rfl;have f0:=a.frozen 0;have f1:=a.frozen 1;have f2:=a.frozen 2))
  obtain⟨r1,r2⟩:=a.set3 (.bool f7) (.slice g8 j7 h6) (.slice g9 e9 i6);have h7:=QC.mono _ _ _ _ a0n (QC.mono _ _ _ _ (a0h r2 (by omega) (by omega)) B);rw[a0.out]at h7;have h5:Ext w _:=ExtX.box (b7.trans (c.trans s)) r2 (by omega);clear g0 g1 g2 f0 f1 f2 n A o q z p Z D;go_wp2_with fail
  exact bodyPost_ret (a1x rfl rfl a0t r1 rfl) rfl ⟨h5,_,by rw[<-j1.out];rfl,h7⟩
theorem b5H (X:Nat->Bool) (w:World) (u:Value) (n:Nat) (hu:NC (mk X w) u n) (hn:lg n<=1099511627776):Calls Tryz.prog 183 #[u] w fun e w'=>w=w'/\e= .returned (.bool (decide (n=1))):=by
 obtain⟨ao,ca,a,rfl,hca,hcan,hsa⟩:=hu;have hal:=hcan.len;by_cases h1:a.length=1
 ·have hk:0<a.length:=by omega
  have hcell:=hsa.nat 0 hk;have hh:=hsa.hd;obtain⟨x,rfl⟩:∃x,a= [x]:=by
   match a,h1 with
   | [x],_=>exact⟨x,rfl⟩
  have hnx:n=x:=by have:=hcan.2.2;simp[nv]at this;omega
  obtain rfl:=hnx;simp only[List.length_singleton,List.getElem_cons_zero]at hcell hca hh hk |-;by_cases h2:n=1
  ·have hI:((n:Int)==1)=true:=by rw[h2];rfl
   have hf:Hid (decide (n=1)=true):=hid (decide_eq_true h2);clear h2 h1 hcan hsa hal;go_enter Tryz.func183,Tryz.ntmps183
   go_wp2_with (with_reducible refine a0q a0R (by omega) (by assumption) ?_)
   go_ret
   exact⟨rfl,a0j hf.out.symm⟩
  ·have hI:((n:Int)==1)=false:=a2w (by omega)
   have hf:Hid (decide (n=1)=false):=hid (decide_eq_false h2);clear h2 h1 hcan hsa hal;go_enter Tryz.func183,Tryz.ntmps183
   go_wp2_with (with_reducible refine a0q a0R (by omega) (by assumption) ?_)
   go_ret
   exact⟨rfl,a0j hf.out.symm⟩
 ·have hI:((a.length:Int)==1)=false:=a2w (by omega)
  have hf:Hid (decide (n=1)=false):=hid (decide_eq_false (by rintro rfl;rw[a3D]at hal;exact h1 hal));have hal2:a.length<=1099511627776:=by omega
  clear h1 hal hn;go_enter Tryz.func183,Tryz.ntmps183
  go_wp2_with (with_reducible refine a0q a0R (by omega) (by assumption) ?_)
  go_ret
  exact⟨rfl,a0j hf.out.symm⟩
set_option maxRecDepth 100000 in
theorem b2Y (X:Nat->Bool) (w:World) (s:Bool) (ao C:Option Addr) (c e:Nat) (m d:List Nat) (hX:HX X w) (hm:Sl (a0c .u32) 1 (mk X w) ao m) (hd:Sl (a0c .u32) 1 (mk X w) C d) (a2:m.length<=68719476736) (a1:d.length<=68719476736) (O:Dig m) (Q:Dig d) (N:m.length<=c) (S:d.length<=e):
  Calls Tryz.prog 188 #[.agg #[.bool s, .slice ao m.length c, .slice C d.length e]] w (a8K w (a1t s m d)):=by
 obtain⟨W,hW,l,A,hz⟩:=a1g w #[.bool s, .slice ao m.length c, .slice C d.length e] 45;have U:HX X W:=hX.ext l;have o:=hm.mono (a0c.mono _) (a0l l);have H:=hd.mono (a0c.mono _) (a0l l);obtain⟨b,hb⟩:∃b,w.heap.size=b:=⟨_,rfl⟩;rw[hb]at A hz;have u:=A.cell 0 rfl;have z:=A.cell 1 rfl;have x:=A.cell 2 rfl;have f:Hid (a1t s m d=(a1r s m&&a1B d&&(decide (d.length=0)||(decide (0<m.length)&& !(nv d==1)&&(Nat.gcd (nv m) (nv d)==1))))):=hid rfl;clear hX hm hd hz;cases i:a1r s m
 ·have j:Hid (a1t s m d=false):=hid (by rw[f.out,i];rfl)
  have k:=hid i;clear i f;go_enter Tryz.func188,Tryz.ntmps188
  go_wp2_with fail
  refine(a6y X W s ao c m o (by omega)).mono ?_;rintro e I ⟨a,rfl⟩;rw[k.out];clear u z x;go_wp2_with fail
  go_ret
  exact⟨l.trans a,a0j j.out.symm⟩
 ·cases v:a1B d
  ·have j:Hid (a1t s m d=false):=hid (by rw[f.out,i,v];rfl)
   have k:=hid i;have y:=hid v;clear i f v;go_enter Tryz.func188,Tryz.ntmps188
   go_wp2_with fail
   refine(a6y X W s ao c m o (by omega)).mono ?_;rintro e I ⟨a,rfl⟩;rw[k.out];have t:=(A.ext0 a).cell 2 rfl;have p:=H.mono (a0c.mono _) (a0l a);clear u z x;go_wp2_with fail
   refine(a2e X _ _ _ _ p (by omega)).mono ?_;rintro e w2 ⟨rfl,rfl⟩;rw[y.out];clear t;go_wp2_with fail
   go_ret
   exact⟨l.trans a,a0j j.out.symm⟩
  ·have j:Hid (a1t s m d=(decide (d.length=0)||(decide (0<m.length)&& !(nv d==1)&&(Nat.gcd (nv m) (nv d)==1)))):=hid (by rw[f.out,i,v];rfl)
   have k:=hid i;have y:=hid v;have E:a1B m=true:=by unfold a1r at i;simp at i;exact i.1
   have F:=hid (show a0M m (nv m)from⟨O,E,rfl⟩);have D:=hid (show a0M d (nv d)from⟨Q,v,rfl⟩);have h:=hid D.out.len;have q:=hid F.out.len;clear i f v E;go_enter Tryz.func188,Tryz.ntmps188
   go_wp2_with fail
   refine(a6y X W s ao c m o (by omega)).mono ?_;rintro V I ⟨a,rfl⟩;rw[k.out];have b1:=A.ext0 a;have t:=b1.cell 2 rfl;have L:=b1.cell 1 rfl;have p:=H.mono (a0c.mono _) (a0l a);have K:=o.mono (a0c.mono _) (a0l a);have J:=U.ext a;have Y:NC (mk X I) (.slice ao m.length c) (nv m):=⟨ao,c,m,rfl,N,F.out,K⟩;have G:NC (mk X I) (.slice C d.length e) (nv d):=⟨C,e,d,rfl,S,D.out,p⟩;clear u z x;go_wp2_with fail
   refine(a2e X _ _ _ _ p (by omega)).mono ?_;rintro V w2 ⟨rfl,rfl⟩;rw[y.out];go_wp2_with fail
   refine(b5H X _ _ _ G (by rw[<-h.out];omega)).mono ?_;rintro V w3 ⟨rfl,rfl⟩;by_cases n:nv d=1
   ·have g:Hid (a1t s m d=false):=hid (by
     have h5:d.length≠0:=by rw[h.out,n,a3D];decide
     rw[j.out,n,decide_eq_false h5];simp)
    rw[decide_eq_true n];clear n j;go_wp2_with fail
    go_ret
    exact⟨l.trans a,a0j g.out.symm⟩
   ·rw[decide_eq_false n]
    by_cases r:d.length=0
    ·have g:Hid (a1t s m d=true):=hid (by rw[j.out,decide_eq_true r];rfl)
     have P:((d.length:Int)==0)=true:=by rw[r];rfl
     clear r n j;go_wp2_with fail
     go_ret
     exact⟨l.trans a,a0j g.out.symm⟩
    ·have P:((d.length:Int)==0)=false:=a2w (by omega)
     by_cases B:m.length=0
     ·have g:Hid (a1t s m d=false):=hid (by rw[j.out,decide_eq_false r,decide_eq_false (by omega)];rfl)
      have Z:¬((0:Int)<(m.length:Int)):=by omega
      clear r n j B;go_wp2_with fail
      go_ret
      exact⟨l.trans a,a0j g.out.symm⟩
     ·have Z:(0:Int)<(m.length:Int):=by omega
      have g:Hid (a1t s m d=decide (Nat.gcd (nv m) (nv d)=1)):=hid (by
       rw[j.out,decide_eq_false r,decide_eq_true (by omega),Bool.eq_iff_iff];simp[n])
      have a0:Hid (lg (Nat.gcd (nv m) (nv d))<=1099511627776):=hid (by
       have h2:Nat.gcd (nv m) (nv d)<=nv d:=Nat.gcd_le_right _ (by
        rcases Nat.eq_zero_or_pos (nv d)with T|T
        ·exfalso;apply r;rw[h.out,T];rfl
        ·exact T)
       refine Nat.le_trans (a1i h2) ?_;rw[<-h.out];omega)
      clear r n j B;go_wp2_with fail
      refine(c0h X _ _ _ _ _ J (Y.nv (by rw[<-q.out];omega)) (G.nv (by rw[<-h.out];omega)) (by rw[<-q.out];omega) (by rw[<-h.out];omega)).mono ?_;rintro e7 w7 ⟨M,u7,rfl,R⟩;clear L t;go_wp2_with fail
      refine(b5H X _ _ _ R a0.out).mono ?_;rintro V w3 ⟨rfl,rfl⟩;rw[<-g.out];go_wp2_with fail
      go_ret
      exact⟨l.trans (a.trans M),rfl⟩
theorem _root_.Go.Rep.NC.zc {h:Mem} {ao:Option Addr} {n c k:Nat} (d:NC h (.slice ao n c) k):ZC h (.agg #[.bool false, .slice ao n c]) (k:Int):=by
 obtain⟨_,_,l,a,b,e,f⟩:=d;simp only[Value.slice.injEq]at a;obtain⟨rfl,rfl,rfl⟩:=a;exact⟨_,_,_,l,rfl,b,⟨(decide_eq_false (by omega)).symm,by rw[Int.natAbs_natCast];exact e⟩,f⟩
set_option maxRecDepth 100000 in
theorem a3F (X:Nat->Bool) (w:World) (u:Value) (q:Rat) (hX:HX X w) (hu:QV (mk X w) u q):Calls Tryz.prog 107 #[u] w (a1Z X w QC q):=by
 have j:=hid hu.hq;obtain⟨s,ao,c,m,i,e,d,rfl,Y,h2,h3,I,h5,h6,V,h8,rfl⟩:=hu;obtain⟨W,hW,E,z,b1,hz⟩:=a1v w #[.bool s, .slice ao m.length c, .slice i d.length e] #[.bool false, .slice none 0 0, .slice none 0 0] 45 45;have k:HX (a0e X w.heap.size 2) W:=hX.boxes hz;have l:Sl (a0c .u32) 1 (mk (a0e X w.heap.size 2) W) ao m:=V.mono (a0c.mono _) (a0o E);have n:Sl (a0c .u32) 1 (mk (a0e X w.heap.size 2) W) i d:=h8.mono (a0c.mono _) (a0o E);obtain⟨b,hb⟩:∃b,w.heap.size=b:=⟨_,rfl⟩;have b8:w.heap.size<=b:=by omega
 rw[hb]at z b1 hz l n k;have c0:=z.cell 0 rfl;have c1:=z.cell 1 rfl;have c2:=z.cell 2 rfl;cases v:a1t s m d
 ·have b6:=hid (a3N v)
  have r:=hid v;clear v j;go_enter Tryz.func107,Tryz.ntmps107
  go_wp2_with fail
  refine(b2Y (a0e X b 2) W s ao i c e m d k l n h5 h6 h3 I Y h2).mono ?_;rintro e1 w1 ⟨f,rfl⟩;rw[r.out];have a2:=b1.ext0 f;clear c0 c1 c2;go_wp2_with ((with_reducible show wpList _ _ _ (⟨_, .store _ _ _,_,_,_,_⟩::_) _ _);refine a0a a0t rfl rfl a2 rfl rfl (a1Q _ _ _ _ _ _ _) ?_;intro w2 b2 b4)
  exact bodyPost_ret (a0d rfl rfl a0t b2 rfl) rfl ⟨ExtX.box (E.trans f) b4 (by omega),_,rfl,by rw[b6.out];exact QC.zero _⟩
 ·have r:=hid v
  have x:=a6a.of_valid h3 I v;have hx:QC (mk (a0e X b 2) W) (.agg #[.bool s, .slice ao m.length c, .slice i d.length e]) (b2F s m d):=⟨s,ao,c,m,i,e,d,rfl,Y,h2,x,l,n⟩;obtain⟨q,hq⟩:∃q,b2F s m d=q:=⟨_,rfl⟩;rw[hq]at hx j |-;clear v x hq;go_enter Tryz.func107,Tryz.ntmps107
  go_wp2_with fail
  refine(b2Y (a0e X b 2) W s ao i c e m d k l n h5 h6 h3 I Y h2).mono ?_;rintro e1 p ⟨f,rfl⟩;rw[r.out];have o:=z.ext0 f;have b3:=b1.ext0 f;have J:=E.trans f;have N:=mkx QC.mono hx f;have a6:=k.ext f;clear c0 c1 c2;obtain⟨a1,b7,D⟩:=N.num;have g:Ext p p.drew:=(ExtX.refl p).drew;have A:HX (a0e X b 2) p.drew:=a6;have B:ZC (mk (a0e X b 2) p.drew) (.agg #[.bool s, .slice ao m.length c]) q.num:=a1;have y:NC (mk (a0e X b 2) p.drew) (.slice i d.length e) (dn q):=D;have K:lg q.num.natAbs<=549755813888:=Nat.le_trans (Nat.le_trans (a0D q) j.out) (by omega);have U:lg (dn q)<=549755813888:=Nat.le_trans (Nat.le_trans (b2X q) j.out) (by omega);have L:=B.zv K;have O:=o.cell 0 rfl;have T:=o.cell 1 rfl;have R:=o.cell 2 rfl;have hS:Hid (∀W',Ext p.drew W'->W'.cell? ⟨b,0,none⟩=some (.bool s)/\W'.cell? ⟨b,1,none⟩=some (.slice ao m.length c)/\W'.cell? ⟨b,2,none⟩=some (.slice i d.length e)):=
   hid fun W' h=>⟨(o.ext0 (g.trans h)).cell 0 rfl,(o.ext0 (g.trans h)).cell 1 rfl,(o.ext0 (g.trans h)).cell 2 rfl⟩
  go_wp2_with fail
  go_region_held3 (fun w'=>w'.cell? ⟨b,0,none⟩=some (.bool s)/\w'.cell? ⟨b,1,none⟩=some (.slice ao m.length c)/\w'.cell? ⟨b,2,none⟩=some (.slice i d.length e))
   (first|exact hS.out _ F|exact hS.out _ t|exact⟨((o.ext0 (g.trans t)).ext (a.set3 _ _ _).2 (a0b (by omega))).cell 0 rfl,((o.ext0 (g.trans t)).ext (a.set3 _ _ _).2 (a0b (by omega))).cell 1 rfl,((o.ext0 (g.trans t)).ext (a.set3 _ _ _).2 (a0b (by omega))).cell 2 rfl⟩|go_keep)
   (first|(go_at_call 187;(with_reducible refine(a3W (a0e X b 2) p.drew _ _ A L).mono ?_);rintro ee w8 ⟨F,u8,rfl,Q,a8,P,G,rfl,a3,Z,b5⟩;have a7:=HX.ext A F;have a5:=(mkx NC.mono y F).nv (Nat.le_trans U (by decide)))|(go_at_call 189;(with_reducible refine(a3U a7 a5).mono ?_);rintro ee w9 ⟨C,u9,rfl,a9,c9,l9,rfl,H,a4,a0⟩;have t:=F.trans C;have M:=Sl.mono (a0c.mono _) (a0l C) b5;have a:=b3.ext0 (g.trans t);have g0:=a.cell 0 rfl;have g1:=a.cell 1 rfl;have g2:=a.cell 2 rfl;have f0:=a.frozen 0;have f1:=a.frozen 1;have f2:=a.frozen 2))
  obtain⟨q1,q2⟩:=a.set3 (.bool Q) (.slice a8 G.length P) (.slice a9 l9.length c9);have hz:ZC (mk (a0e X b 2) w9) (.agg #[.bool Q, .slice a8 G.length P]) q.num:=⟨Q,a8,P,G,rfl,a3,Z,M⟩;have hd:NC (mk (a0e X b 2) w9) (.slice a9 l9.length c9) (dn q):=⟨a9,c9,l9,rfl,H,a4,a0⟩;have V:=QC.mono _ _ _ _ a0n (QC.mono _ _ _ _ (a0h q2 (by omega) (by omega)) (QC.of hz hd));have S:Ext w _:=ExtX.box (J.trans (g.trans t)) q2 (by omega);clear g0 g1 g2 f0 f1 f2 O T R hS;go_wp2_with fail
  exact bodyPost_ret (a0d rfl rfl a0t q1 rfl) rfl ⟨S,_,rfl,V⟩
set_option maxRecDepth 100000 in
theorem a8M (X:Nat->Bool) (w:World) (u:Value) (q:Rat) (G:HX X w) (p:QC (mk X w) u q) (hq:hq q<=549755813888):Calls Tryz.prog 137 #[u] w (a1Z X w ZC (q.den:Int)):=by
 obtain⟨s,ao,n,c,F,k,e,rfl⟩:=p.shape;obtain⟨W,Q,v,E,B,hz⟩:=a1v w #[.bool s, .slice ao n c, .slice F k e] #[.bool false, .slice none 0 0] 45 43;have d:HX (a0e X w.heap.size 2) W:=G.boxes hz;have hd:=NC.mono _ _ _ _ (a0o (nb:=2) v) p.num.2.2;have i:=hd.len0;rw[a3X]at i;obtain⟨b,I⟩:∃b,w.heap.size=b:=⟨_,rfl⟩;have M:w.heap.size<=b:=by omega
 rw[I]at E B hz d hd;have A:=E.cell 2 rfl;have j:=hid (hd.nv (Nat.le_trans (Nat.le_trans (b2X q) hq) (by decide)));by_cases r:k=0
 ·have D:=hid (i.1 r)
  subst r;have g:Ext W (W.alloc (.cells #[.int .u32 ((1:Nat):Int)] 147)):=(ExtX.refl W).alloc _;have o:=NC.lit d 1 147 (by omega) (by omega);have a:=B.ext0 g;rw[show W.heap.size=b+2 by omega]at o;clear i hd j p;go_enter Tryz.func137,Tryz.ntmps137
  go_wp2_with ((with_reducible show wpList _ _ _ (⟨_, .store _ _ _,_,_,_,_⟩::_) _ _);refine a0a a0I rfl rfl a rfl rfl (a2U _ _ _ _) ?_;intro H C f)
  have t:=NC.mono _ _ _ _ a0n (NC.mono _ _ _ _ (a0h f (by omega) (by omega)) o);exact bodyPost_ret (a0d rfl rfl a0I C rfl) rfl ⟨ExtX.box (v.trans g) f (by omega),_,rfl,by rw[D.out];exact NC.zc t⟩
 ·have D:Hid (dn q=q.den):=hid (by unfold dn;rw[if_neg (fun h=>r (i.2 h))])
  have O:((k:Int)==0)=false:=a2w (by omega);clear i r p hd;go_enter Tryz.func137,Tryz.ntmps137
  go_wp2_with fail
  refine(a3U d j.out).mono ?_;rintro N R ⟨l,P,rfl,m⟩;rw[D.out]at m;obtain⟨L,K,J,rfl,x,y,z⟩:=m;have a:=B.ext0 l;clear A;go_wp2_with ((with_reducible show wpList _ _ _ (⟨_, .store _ _ _,_,_,_,_⟩::_) _ _);refine a0a a0I rfl rfl a rfl rfl (a2U _ _ _ _) ?_;intro H C f)
  have t:=NC.mono _ _ _ _ a0n (NC.mono _ _ _ _ (a0h f (by omega) (by omega)) ⟨L,K,J,rfl,x,y,z⟩);exact bodyPost_ret (a0d rfl rfl a0I C rfl) rfl ⟨ExtX.box (v.trans l) f (by omega),_,rfl,NC.zc t⟩
theorem a0L {α:Type} (l:List α) (i:Nat) (h:i<l.length):l.take i++[l[i]]=l.take (i+1):=by
 rw[List.take_add_one,List.getElem?_eq_getElem h];rfl
theorem a0W {α:Type} {l:List α} {i:Nat} (h:i<=l.length):(l.take i).length=i:=by simp;omega
set_option maxRecDepth 100000 in
theorem b1K (X:Nat->Bool) (w:World) (u:Value) (l:List Rat) (I:HX X w) (O:RV (mk X w) u l) (W:l.length<=1000000):Calls Tryz.prog 235 #[u] w (a1Z X w RC l):=by
 obtain⟨ao,Y,rfl,L,k⟩:=O;have P:=k.hd;go_enter Tryz.func235,Tryz.ntmps235
 go_wp2_with fail
 go_loopw [3,4] (fun o c wr=>∃(i:Nat) (oo:Option Addr) (q:Nat),c= .int .i64 i/\o= .slice oo i q/\i<=l.length/\OL QC 3 X w.heap.size 45 wr oo q (l.take i)/\Ext w wr) (fun _ c _=>l.length - (intOf c).toNat)
 case atStart=>exact⟨0,none,0,rfl,rfl,Nat.zero_le _,OL.nil _ _ _ _ _ _,ExtX.refl _⟩
 case round=>
  obtain⟨i,oo,q,rfl,rfl,hi,b,d⟩:=hrel;have f:HX X wr:=I.ext d;have z:HX (un X oo) wr:=b.unX f;have v:=d.size;by_cases h:i<l.length
  ·have C:Sl QV 3 (mk (un X oo) wr) ao l:=k.old QV.mono d (fun j E=>b.ob_lt E)
   have x:=hid (a0L l i h);have s:=hid (a0W hi);go_wp2_with (first|(with_reducible refine a1M a0B (by omega) (by assumption) ?_)|((with_reducible show wpList _ _ _ (⟨_, .load _ _,_,_,_,_⟩::_) _ _);refine a0G a0t i C h rfl (by simp) QV.agg ?_;intro u5 p;obtain⟨Z,a5,n5,c5,T,k5,e5,rfl⟩:=p.shape))
   refine(a3F (un X oo) wr _ _ z p).mono ?_;rintro e U ⟨a,u6,rfl,n⟩;obtain⟨J,K,N,M,G,S,R,rfl⟩:=n.shape;have m:=b.ext0 QC.elem a;have D:=a.size;go_wp2_with (at_builtin;refine a0u (l:=l.take i) a0B rfl QC.elem (by omega) (f.ext a) i s.out rfl rfl m (.agg #[.bool J, .slice K N M, .slice G S R]) l[i] rfl n (by omega) (by omega) ?_;intro y B V g t Q)
   have A:=(d.trans a).own m (Nat.le_refl _) t;rw[x.out]at g;go_roundw
   case rel=>exact⟨i+1,y,B,by go_num,by go_num,by omega,g,A⟩
   case measure=>simp[intOf];omega
  ·have r:i=l.length:=by omega
   subst r;rw[List.take_length]at b;have F:=b.lenCap;have H:=b.sl QC.elem;go_wp2_with fail
   go_ret
   exact⟨d,_,rfl,oo,q,rfl,F,H⟩
end Go.Proofs.YtidbbddagfnfbaaGreat
