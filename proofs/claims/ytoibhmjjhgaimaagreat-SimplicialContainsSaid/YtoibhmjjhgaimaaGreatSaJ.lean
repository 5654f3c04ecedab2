/- exact.Subsets, over whatever its callback keeps. Conditions: small numbers. A drawn region whose last operation waits for all others: the loads are taken first under a condition that need not hold behind the last operation. Conditions: none. halfspace: the search for the depth: what lies in its boxes, one choice of vectors. Conditions: at most 64 vectors of at most 3 numbers of few digits. Small matrices are formed; a literal of one number. Conditions: none. certify.choose. Conditions: k <= n <= 64. Lists of integers in slices: ascending, common elements, equality. Conditions: lengths far below any machine's. The tape of choices: New, Mod, Next, Bool, Pick, Count. What is drawn is some number in the range. Conditions: none beyond small ranges. The tape of choices: New, Bool, Pick, Count, Subset, OddSubset. What is drawn is something in the range. Conditions: none beyond small ranges. The tape of choices: Subset, OddSubset. What is drawn is some list of numbers, laid in new blocks. Conditions: none beyond small ranges. halfspace: the search's callback. Conditions: at most 64 vectors of at most 3 numbers of few digits. matrix: Rank, Det. Conditions: few rows and columns, numbers of few digits. -/
import Derived.Test.YtoibhmjjhgaimaaGreatSaI
import Derived.WalkKit
import Derived.OrdersHeld
import Derived.StillTail
import Derived.Deep.RegionHeld
import Derived.Deep.RegionHeld3
import Derived.Deep.RegionLaw
import Derived.Deep.AppendLies
import Derived.BigRegion
namespace Go.Rep
open Go.RowKit
theorem OL.hide0 {α:Type} {R:Mem->Value->α->Prop} {sz base cap:Nat} {X Z:Nat->Bool} {e:TypeId} {w:World} {ao:Option Addr} {l:List α} (h:OL R sz X base e w ao cap l) (hR0:∀h h' u x,R h u x->R h' u x) (hz:∀k,ob ao k=true->Z k=false):OL R sz Z base e w ao cap l:=by
 obtain⟨hx,us,h1,h2,h22,h3,h5⟩:=h;exact⟨hz,us,h1,h2,h22,h3,fun i hi hi'=>hR0 _ _ _ _ (h5 i hi hi')⟩
end Go.Rep
namespace Go.Lim
theorem b4h {m h:Nat} {lo:Int} (hm:m<h):a0s m h lo= []:=List.eq_nil_of_length_eq_zero (by rw[a0Y,b5C m h hm])
end Go.Lim
namespace Go.Proofs.YtoibhmjjhgaimaaGreat
open Go.RowKit Go.Rep Go.Lim
def a6Y (base:Nat):Nat->Bool:=fun k=>decide (base<=k)&&decide (k<base+6)
def hbB (W:World) (g:Nat):Nat->Bool:=fun k=>decide (k<W.heap.size)&& !(k==g)
structure FromSt (base n k:Nat) (fv:Value) (W:World) (Q:List Int):Prop where
 bn:W.heap[base]? =some (.cells #[.int .i64 (n:Int)] 3 (0,0))
 bk:W.heap[base+1]? =some (.cells #[.int .i64 (k:Int)] 3 (0,0))
 bf:W.heap[base+2]? =some (.cells #[fv] 126 (0,0))
 bl:W.heap[base+4]? =some (.cells #[.slice (some ⟨base+3,0,none⟩) Q.length k] 22 (0,0))
 br:W.heap[base+5]? =some (.cells #[.func (.func 139) #[] #[.pointer (some ⟨base+4,0,none⟩), .pointer (some ⟨base+1,0,none⟩), .pointer (some ⟨base+2,0,none⟩), .pointer (some ⟨base,0,none⟩), .pointer (some ⟨base+5,0,none⟩)]] 167 (0,0))
 ol:OL (a0x .i64) 1 (hbB W (base+3)) base 3 W (some ⟨base+3,0,none⟩) k Q
 sz:base+6<=W.heap.size
def b2o (base:Nat) (W W':World):Prop:=W.heap.size<=W'.heap.size/\∀k,a6Y base k=true->W'.heap[k]? =W.heap[k]?
theorem ob3 {base k:Nat} (h:ob (some ⟨base,0,none⟩) k=true):base=k:=by simpa[ob]using h
theorem b8H {W:World} {base k:Nat} (h:ob (some ⟨base,0,none⟩) k=true):hbB W base k=false:=by
 have:=ob3 h;subst this;simp[hbB]
theorem b6k:∀(h h':Mem) (u:Value) (x:Int),a0x .i64 h u x->a0x .i64 h' u x:=fun _ _ _ _ h=>h
theorem FromSt.keep {base n k:Nat} {fv:Value} {W W':World} {Q:List Int} (h:FromSt base n k fv W Q) (hk:b2o base W W'):FromSt base n k fv W' Q:=by
 have hb:∀d,d<6->W'.heap[base+d]? =W.heap[base+d]?:=fun d hd=>hk.2 _ (by simp[a6Y];omega);refine⟨by have:=hb 0 (by omega);simp only[Nat.add_zero]at this;rw[this];exact h.bn,by rw[hb 1 (by omega)];exact h.bk,by rw[hb 2 (by omega)];exact h.bf,by rw[hb 4 (by omega)];exact h.bl,by rw[hb 5 (by omega)];exact h.br,?_,Nat.le_trans h.sz hk.1⟩;have h0:=h.ol;obtain⟨hx,us,h1,h2,h22,⟨h3,h4⟩,h5⟩:=h0;refine⟨fun k hk=>b8H hk,us,h1,h2,h22,⟨h3,?_⟩,fun i hi hi'=>b6k _ _ _ _ (h5 i hi hi')⟩;rcases h4 with h4|⟨g,c,cur,hv,q1,q2,q3⟩
 ·exact .inl h4
 ·simp at hv
  obtain⟨rfl,rfl⟩:=hv;exact .inr ⟨base+3,k,cur,by simp,q1,by rw[hb 3 (by omega)];exact q2,q3⟩
theorem FromSt.set {base n k:Nat} {fv:Value} {W W1:World} {Q Q':List Int} (h:FromSt base n k fv W Q) (hE:ExtX (ob (some ⟨base+3,0,none⟩)) W W1) {X:Nat->Bool} (hO:OL (a0x .i64) 1 X base 3 W1 (some ⟨base+3,0,none⟩) k Q') (m:Nat) (hm:m=Q'.length):
  FromSt base n k fv (W1.setCell ⟨base+4,0,none⟩ (.slice (some ⟨base+3,0,none⟩) m k)) Q'/\ExtX (a6Y base) W (W1.setCell ⟨base+4,0,none⟩ (.slice (some ⟨base+3,0,none⟩) m k))/\
   W1.cell? ⟨base+4,0,none⟩=some (.slice (some ⟨base+3,0,none⟩) Q.length k)/\W1.frozen? ⟨base+4,0,none⟩=false:=by
 subst hm;have hsz:=h.sz;have hE2:ExtX (fun j=>j==base+4) W1 (W1.setCell ⟨base+4,0,none⟩ (.slice (some ⟨base+3,0,none⟩) Q'.length k)):=
  ⟨rfl,rfl,rfl,by simp[World.setCell],fun j hj hy=>Below.heap_setCell _ _ _ _ (fun e=>by subst e;simp at hy)⟩
 have h1:∀j,j<W.heap.size->j≠base+3->W1.heap[j]? =W.heap[j]?:=fun j hj hn=>hE.block j hj (by
  cases hh:ob (some ⟨base+3,0,none⟩) j
  ·rfl
  ·exact absurd (ob3 hh).symm hn)
 have h2:∀j,j<W.heap.size->j≠base+3->j≠base+4->(W1.setCell ⟨base+4,0,none⟩ (.slice (some ⟨base+3,0,none⟩) Q'.length k)).heap[j]? =W.heap[j]?:=fun j hj hn hn2=>by
  rw[hE2.block j (Nat.lt_of_lt_of_le hj hE.size) (by simpa using hn2),h1 j hj hn]
 have hbl:=h1 (base+4) (by omega) (by omega);rw[h.bl]at hbl;have hnew:(W1.setCell ⟨base+4,0,none⟩ (.slice (some ⟨base+3,0,none⟩) Q'.length k)).heap[base+4]? =some (.cells #[.slice (some ⟨base+3,0,none⟩) Q'.length k] 22 (0,0)):=by
  simp only[World.setCell,Array.getElem?_modify,hbl];simp
 refine⟨⟨by rw[h2 base (by omega) (by omega) (by omega)];exact h.bn,by rw[h2 _ (by omega) (by omega) (by omega)];exact h.bk,by rw[h2 _ (by omega) (by omega) (by omega)];exact h.bf,hnew,by rw[h2 _ (by omega) (by omega) (by omega)];exact h.br,?_,by simp[World.setCell];have:=hE.size;omega⟩,?_,by simp[World.cell?,hbl],by simp[World.frozen?,hbl]⟩
 ·obtain⟨hx,us,g1,g2,g22,⟨g3,g4⟩,g5⟩:=hO
  refine⟨fun k hk=>b8H hk,us,g1,g2,g22,⟨g3,?_⟩,fun i hi hi'=>b6k _ _ _ _ (g5 i hi hi')⟩;rcases g4 with g4|⟨g,c,cur,hv,q1,q2,q3⟩
  ·exact .inl g4
  ·simp at hv
   obtain⟨rfl,rfl⟩:=hv;have hlt:base+3<W1.heap.size:=by have:=hE.size;omega
   exact .inr ⟨base+3,k,cur,by simp,q1,by rw[hE2.block _ hlt (by simp)];exact q2,q3⟩
 ·refine⟨hE2.os.trans hE.os,hE2.tape.trans hE.tape,hE2.output.trans hE.output,Nat.le_trans hE.size hE2.size,fun j hj hy=>h2 j hj ?_ ?_⟩
  ·intro e;subst e;simp[a6Y]at hy
  ·intro e;subst e;simp[a6Y]at hy
section
variable (cb base n k:Nat) (caps:Array Value) (Inv:List (List Int)->World->Prop)
set_option maxRecDepth 100000 in
theorem b6l (hcf:∀(args:Array Value) (W:World),Sem.run Tryz.prog (callFunc cb args) W= .ok (.enter cb args) W) (hn:n<=64) (hk:k<=64)
  (hInv:∀done W W',Inv done W->ExtX (a6Y base) W W'->Inv done W')
  (hCB:∀(done:List (List Int)) (s:List Int) (W:World),Inv done W->(∃rest,done++[s]++rest=a0s n k 0)->Sl (a0x .i64) 1 W.cell? (some ⟨base+3,0,none⟩) s->base+6<=W.heap.size->
   Calls Tryz.prog cb (#[.slice (some ⟨base+3,0,none⟩) s.length k]++caps) W (fun e W'=>e= .returned (.tuple #[])/\Inv (done++[s]) W'/\b2o base W W')) (g:Nat):
  ∀(i:Nat) (Q:List Int) (done:List (List Int)) (W:World),Q.length+g=k->i<=n+1->FromSt base n k (.func (.func cb) #[] caps) W Q->Inv done W->Hid (∃rest,done++(a0s (n - i) g i).map (Q++ ·)++rest=a0s n k 0)->
  Calls Tryz.prog 139 #[.int .i64 (i:Int), .pointer (some ⟨base+4,0,none⟩), .pointer (some ⟨base+1,0,none⟩), .pointer (some ⟨base+2,0,none⟩), .pointer (some ⟨base,0,none⟩), .pointer (some ⟨base+5,0,none⟩)] W
   (fun e W'=>e= .returned (.tuple #[])/\FromSt base n k (.func (.func cb) #[] caps) W' Q/\Inv (done++(a0s (n - i) g i).map (Q++ ·)) W'):=by
 induction g with
 |zero=>
  intro i Q done W hQ hi hst hiv hpre;have cl:W.cell? ⟨base+4,0,none⟩=some (.slice (some ⟨base+3,0,none⟩) Q.length k):=by simp[World.cell?,hst.bl]
  have ck:W.cell? ⟨base+1,0,none⟩=some (.int .i64 (k:Int)):=by simp[World.cell?,hst.bk]
  have cf:W.cell? ⟨base+2,0,none⟩=some (.func (.func cb) #[] caps):=by simp[World.cell?,hst.bf]
  have hs:Sl (a0x .i64) 1 W.cell? (some ⟨base+3,0,none⟩) Q:=by
   have:=(hst.ol.hide0 b6k (Z:=noY) (fun k hk=>rfl)).sl (a0x.elem _);rw[a2T]at this;exact this
  have hQk:Q.length=k:=by omega
  go_enter Tryz.func139,Tryz.ntmps139
  go_wp2_with fail
  have hcb:=hCB done Q W hiv (by obtain⟨rest,hr⟩:=hpre.out;rw[a2b]at hr;exact⟨rest,by simpa using hr⟩) hs hst.sz;rw[hQk]at hcb;refine hcb.mono ?_;rintro e w1 ⟨rfl,hiv1,hkp⟩;have hst1:=hst.keep hkp;have hfin:Hid (done++(a0s (n - i) 0 i).map (Q++ ·)=done++[Q]):=hid (by rw[a2b];simp);clear hst hs cl ck cf hcb;go_wp2_with fail
  refine bodyPost_ret (results_none rfl _ _ _) rfl ?_;rw[hfin.out];exact⟨rfl,hst1,hiv1⟩
 |succ g ih=>
  intro i Q done W hQ hi hst hiv hpre;have cl:W.cell? ⟨base+4,0,none⟩=some (.slice (some ⟨base+3,0,none⟩) Q.length k):=by simp[World.cell?,hst.bl]
  have ck:W.cell? ⟨base+1,0,none⟩=some (.int .i64 (k:Int)):=by simp[World.cell?,hst.bk]
  have hQk:((Q.length:Int)==(k:Int))=false:=a1S (by omega);go_enter Tryz.func139,Tryz.ntmps139
  go_wp2_with fail
  go_loopw [0] (fun c wr=>∃(j:Nat) (D:List (List Int)),c= .int .i64 j/\j<=n+1/\FromSt base n k (.func (.func cb) #[] caps) wr Q/\Inv D wr/\Hid (D++(a0s (n - j) (g+1) j).map (Q++ ·)=done++(a0s (n - i) (g+1) i).map (Q++ ·))) (fun c _=>n+1 - (intOf c).toNat)
  case atStart=>exact⟨i,done,rfl,hi,hst,hiv,hid rfl⟩
  case round=>
   obtain⟨j,D,rfl,hj,hst1,hiv1,hDe⟩:=hrel;clear cl ck hst hiv;have cl:wr.cell? ⟨base+4,0,none⟩=some (.slice (some ⟨base+3,0,none⟩) Q.length k):=by simp[World.cell?,hst1.bl]
   have ck:wr.cell? ⟨base+1,0,none⟩=some (.int .i64 (k:Int)):=by simp[World.cell?,hst1.bk]
   have cn:wr.cell? ⟨base,0,none⟩=some (.int .i64 (n:Int)):=by simp[World.cell?,hst1.bn]
   by_cases hlt:j+g+1<=n
   ·obtain⟨m,hm⟩:∃m,n - j=m+1:=⟨n - j - 1,by omega⟩
    have hmn:n - (j+1)=m:=by omega
    go_wp2_with (at_builtin;refine a7j a1G (a0x.elem .i64) rfl rfl rfl hst1.ol (.int .i64 j) (j:Int) rfl rfl (by omega) ?_;intro w2 hO2 hE2;obtain⟨hst2,hE3,cl2,fl2⟩:=hst1.set hE2 hO2 (Q.length+1) (by simp);have cr:=cell_of_one hst2.br)
    have hiv2:=hInv _ _ _ hiv1 hE3;have hih:=ih (j+1) (Q++[(j:Int)]) D _ (by simp;omega) (by omega) hst2 hiv2 (hid (by
     obtain⟨rest,hr⟩:=hpre.out;refine⟨(a0s (n - (j+1)) (g+1) ((j+1:Nat):Int)).map (Q++ ·)++rest,?_⟩;rw[<-hr,<-hDe.out,hm,hmn,a0s,show((j+1:Nat):Int)=(j:Int)+1 by omega];have hmm:(a0s m g ((j:Int)+1)).map ((Q++[(j:Int)])++ ·)=((a0s m g ((j:Int)+1)).map ((j:Int):: ·)).map (Q++ ·):=by
      rw[List.map_map];apply List.map_congr_left;intro r _;simp
     rw[hmm,List.map_append];simp only[List.append_assoc]))
    rw[show((j+1:Nat):Int)=(j:Int)+1 by omega]at hih;refine hih.mono ?_;rintro e w4 ⟨rfl,hst4,hiv4⟩;clear hih;have cl4:=cell_of_one hst4.bl;rw[show(Q++[(j:Int)]).length=Q.length+1 by simp]at cl4;have htk:=hst4.ol.take (a0x.elem .i64).size Q.length;rw[List.take_left]at htk;obtain⟨hst5,hE5,_,fl4⟩:=hst4.set (ExtX.refl _) htk Q.length rfl;have hiv5:=hInv _ _ _ hiv4 hE5;have hDe2:Hid ((D++(a0s (n - (j+1)) g ((j:Int)+1)).map ((Q++[(j:Int)])++ ·))++(a0s (n - (j+1)) (g+1) ((j+1:Nat):Int)).map (Q++ ·)=done++(a0s (n - i) (g+1) i).map (Q++ ·)):=hid (by
     rw[<-hDe.out,hm,hmn,a0s,show((j+1:Nat):Int)=(j:Int)+1 by omega];have hmm:(a0s m g ((j:Int)+1)).map ((Q++[(j:Int)])++ ·)=((a0s m g ((j:Int)+1)).map ((j:Int):: ·)).map (Q++ ·):=by
      rw[List.map_map];apply List.map_congr_left;intro r _;simp
     rw[hmm,List.map_append,List.append_assoc])
    clear cl ck cn hst1 hiv1 hO2 hE2 hst2 hE3 cl2 fl2 cr hiv2 hm hmn;go_wp2_with fail
    go_roundw
    case rel=>exact⟨j+1,_,by go_num,by omega,hst5,hiv5,hDe2⟩
    case measure=>simp[intOf];omega
   ·have hnil:Hid (D=done++(a0s (n - i) (g+1) i).map (Q++ ·)):=hid (by
     have:=hDe.out;rw[b4h (by omega)]at this;simpa using this)
    go_wp2_with fail
    go_end0
    rw[<-hnil.out];exact⟨rfl,hst1,hiv1⟩
end
theorem b8I (w:World) (u v:Value) (t1 t2:TypeId) (wd:World) (h:(w.alloc (.cells #[u] t1)).alloc (.cells #[v] t2)=wd):Ext w wd/\wd.heap[w.heap.size]? =some (.cells #[u] t1 (0,0))/\wd.heap[w.heap.size+1]? =some (.cells #[v] t2 (0,0))/\wd.heap.size=w.heap.size+2:=by
 subst h;refine⟨((ExtX.refl w).alloc _).alloc _,?_,?_,by simp⟩
 ·rw[Below.heap_alloc _ _ _ (by simp)];exact heap_alloc_new w _
 ·have:=heap_alloc_new (w.alloc (.cells #[u] t1)) (.cells #[v] t2 (0,0))
  simpa using this
theorem c1k:(Tryz.prog.info? 167).map (fun i=>(i.zero,i.size,i.bytes))=some (some .nilFunc,1,8):=by kernel_rfl
theorem c2b:TyI Tryz.prog 167 1:=let ⟨i,h,_,h2,_⟩:=info_parts c1k;⟨i,h,h2⟩
theorem c0l (W:World) (g:Nat):∀j,hbB W g j=true->j<W.heap.size:=fun j hj=>by
 have h:j<W.heap.size/\¬j=g:=by simpa[hbB]using hj
 exact h.1
theorem b2p {w wb wc wd:World} {vk u v:Value} {t0 t1 t2:TypeId} (hzb:wb.heap.size=w.heap.size+3) (hEc:Ext wb wc) (hzc:wc.heap.size=wb.heap.size+1) (hwd:(wc.alloc (.cells #[u] t1)).alloc (.cells #[v] t2)=wd) (b1:wb.heap[w.heap.size+1]? =some (.cells #[vk] t0 (0,0))):
  Ext wc wd/\wd.cell? ⟨w.heap.size+3+1+1,0,none⟩=some v/\wd.frozen? ⟨w.heap.size+3+1+1,0,none⟩=false/\wd.cell? ⟨w.heap.size+1,0,none⟩=some vk/\
   wd.heap[w.heap.size+3+1]? =some (.cells #[u] t1 (0,0))/\wd.heap[w.heap.size+3+1+1]? =some (.cells #[v] t2 (0,0))/\wd.heap.size=w.heap.size+6:=by
 obtain⟨hEd,d4,d5,hzd⟩:=b8I wc _ _ _ _ wd hwd;have hz4:wc.heap.size=w.heap.size+3+1:=by omega
 rw[hz4]at d4 d5;have e1:=(hEc.trans hEd).block (w.heap.size+1) (by omega) rfl;rw[b1]at e1;exact⟨hEd,cell_of_one d5,free_of_one d5,cell_of_one e1,d4,d5,by omega⟩
theorem FromSt.start {w wb wc wd:World} {n k:Nat} {fv:Value} {X:Nat->Bool} (hEb:Ext w wb) (hzb:wb.heap.size=w.heap.size+3)
  (b0:wb.heap[w.heap.size]? =some (.cells #[.int .i64 (n:Int)] 3 (0,0))) (b1:wb.heap[w.heap.size+1]? =some (.cells #[.int .i64 (k:Int)] 3 (0,0))) (b2:wb.heap[w.heap.size+2]? =some (.cells #[fv] 126 (0,0)))
  (hEc:Ext wb wc) (hzc:wc.heap.size=wb.heap.size+1) (hOc:OL (a0x .i64) 1 X w.heap.size 3 wc (some ⟨wb.heap.size,0,none⟩) k []) (hEd:Ext wc wd)
  (d4:wd.heap[w.heap.size+3+1]? =some (.cells #[.slice (some ⟨w.heap.size+3,0,none⟩) 0 k] 22 (0,0))) (d5:wd.heap[w.heap.size+3+1+1]? =some (.cells #[.nilFunc] 167 (0,0))) (hzd:wd.heap.size=w.heap.size+6):
  FromSt w.heap.size n k fv (wd.setCell ⟨w.heap.size+3+1+1,0,none⟩ (.func (.func 139) #[] #[.pointer (some ⟨w.heap.size+3+1,0,none⟩), .pointer (some ⟨w.heap.size+1,0,none⟩), .pointer (some ⟨w.heap.size+1+1,0,none⟩), .pointer (some ⟨w.heap.size,0,none⟩), .pointer (some ⟨w.heap.size+3+1+1,0,none⟩)])) []/\
   ExtX (a6Y w.heap.size) w (wd.setCell ⟨w.heap.size+3+1+1,0,none⟩ (.func (.func 139) #[] #[.pointer (some ⟨w.heap.size+3+1,0,none⟩), .pointer (some ⟨w.heap.size+1,0,none⟩), .pointer (some ⟨w.heap.size+1+1,0,none⟩), .pointer (some ⟨w.heap.size,0,none⟩), .pointer (some ⟨w.heap.size+3+1+1,0,none⟩)])):=by
 obtain⟨f,hf⟩:∃f,Value.func (.func 139) #[] #[.pointer (some ⟨w.heap.size+3+1,0,none⟩), .pointer (some ⟨w.heap.size+1,0,none⟩), .pointer (some ⟨w.heap.size+1+1,0,none⟩), .pointer (some ⟨w.heap.size,0,none⟩), .pointer (some ⟨w.heap.size+3+1+1,0,none⟩)]=f:=⟨_,rfl⟩;rw[hf];have hother:∀j,j≠w.heap.size+5->(wd.setCell ⟨w.heap.size+3+1+1,0,none⟩ f).heap[j]? =wd.heap[j]?:=fun j hj=>Below.heap_setCell _ _ _ _ (fun e=>hj e);have hE:Ext wb wd:=hEc.trans hEd;have hn5:(wd.setCell ⟨w.heap.size+3+1+1,0,none⟩ f).heap[w.heap.size+3+1+1]? =some (.cells #[f] 167 (0,0)):=by
  simp only[World.setCell,Array.getElem?_modify,d5];simp
 refine⟨⟨?_,?_,?_,?_,?_,?_,by simp[World.setCell,hzd]⟩,?_⟩
 ·rw[hother _ (by omega),hE.block _ (by omega) rfl];exact b0
 ·rw[hother _ (by omega),hE.block _ (by omega) rfl];exact b1
 ·rw[hother _ (by omega),hE.block _ (by omega) rfl];exact b2
 ·rw[hother _ (by omega)];exact d4
 ·rw[<-hf]at hn5 |-;exact hn5
 ·rw[hzb]at hOc
  obtain⟨hx,us,g1,g2,g22,⟨g3,g4⟩,g5⟩:=hOc;refine⟨fun k hk=>b8H hk,us,g1,g2,g22,⟨g3,?_⟩,fun i hi hi'=>b6k _ _ _ _ (g5 i hi hi')⟩;rcases g4 with g4|⟨g,c,cur,hv,q1,q2,q3⟩
  ·exact .inl g4
  ·simp at hv
   obtain⟨rfl,rfl⟩:=hv;exact .inr ⟨w.heap.size+3,k,cur,by simp,q1,by rw[hother _ (by omega),hEd.block _ (by omega) rfl];exact q2,q3⟩
 ·refine⟨hEd.os.trans (hEc.os.trans hEb.os),hEd.tape.trans (hEc.tape.trans hEb.tape),hEd.output.trans (hEc.output.trans hEb.output),by simp[World.setCell,hzd],fun j hj _=>?_⟩
  rw[hother _ (by omega),(hEb.trans hE).block j hj rfl]
set_option maxRecDepth 100000 in
theorem a6Z (cb n k:Nat) (caps:Array Value) (Inv:List (List Int)->World->Prop) (w:World) (hcf:∀(args:Array Value) (W:World),Sem.run Tryz.prog (callFunc cb args) W= .ok (.enter cb args) W) (hn:n<=64) (hk:k<=64)
  (hInv:∀done W W',Inv done W->ExtX (a6Y w.heap.size) W W'->Inv done W')
  (hCB:∀(done:List (List Int)) (s:List Int) (W:World),Inv done W->(∃rest,done++[s]++rest=a0s n k 0)->Sl (a0x .i64) 1 W.cell? (some ⟨w.heap.size+3,0,none⟩) s->w.heap.size+6<=W.heap.size->
   Calls Tryz.prog cb (#[.slice (some ⟨w.heap.size+3,0,none⟩) s.length k]++caps) W (fun e W'=>e= .returned (.tuple #[])/\Inv (done++[s]) W'/\b2o w.heap.size W W'))
  (h0:Inv [] w):
  Calls Tryz.prog 80 #[.int .i64 (n:Int), .int .i64 (k:Int), .func (.func cb) #[] caps] w (fun e W'=>e= .returned (.tuple #[])/\Inv (a0s n k 0) W'):=by
 have hmf:∀(fn:Fn) (first cap:Array Value) (w:World),(Instr.makeFunc fn first cap).run Tryz.prog w= .ok (.func fn first cap) w:=fun _ _ _ _=>rfl;obtain⟨wb,hwb⟩:∃wb,(((w.alloc (.cells #[.int .i64 (n:Int)] 3)).alloc (.cells #[.int .i64 (k:Int)] 3)).alloc (.cells #[.func (.func cb) #[] caps] 126))=wb:=⟨_,rfl⟩;have hEb:Ext w wb:=by rw[<-hwb];exact(((ExtX.refl w).alloc _).alloc _).alloc _
 have hzb:wb.heap.size=w.heap.size+3:=by rw[<-hwb];simp
 have b0:wb.heap[w.heap.size]? =some (.cells #[.int .i64 (n:Int)] 3 (0,0)):=by
  rw[<-hwb,Below.heap_alloc _ _ _ (by simp;omega),Below.heap_alloc _ _ _ (by simp)];exact heap_alloc_new w _
 have b1:wb.heap[w.heap.size+1]? =some (.cells #[.int .i64 (k:Int)] 3 (0,0)):=by
  rw[<-hwb,Below.heap_alloc _ _ _ (by simp)];have:=heap_alloc_new (w.alloc (.cells #[.int .i64 (n:Int)] 3)) (.cells #[.int .i64 (k:Int)] 3 (0,0));simpa using this
 have b2:wb.heap[w.heap.size+2]? =some (.cells #[.func (.func cb) #[] caps] 126 (0,0)):=by
  rw[<-hwb];have:=heap_alloc_new ((w.alloc (.cells #[.int .i64 (n:Int)] 3)).alloc (.cells #[.int .i64 (k:Int)] 3)) (.cells #[.func (.func cb) #[] caps] 126 (0,0));simpa using this
 have ck:=cell_of_one b1;go_enter Tryz.func80,Tryz.ntmps80
 go_wp2_with (first|((with_reducible show wpList _ _ _ (⟨_, .store _ _ _,_,_,_,_⟩::_) _ _);refine a1r c2b rfl rfl rfl rfl cd fd ?_)|(at_make;refine b6j (R:=a0x .i64) a1G rfl (hbB wb (w.heap.size+3)) (c0l wb _) w.heap.size hEb.size k rfl rfl rfl rfl (by omega) (by omega) ?_;intro wc hOc hEc hzc;obtain⟨wd,hwd⟩:∃wd,(wc.alloc (.cells #[.slice (some ⟨w.heap.size+3,0,none⟩) 0 k] 22)).alloc (.cells #[.nilFunc] 167)=wd:=⟨_,rfl⟩;obtain⟨hEd,cd,fd,ck2,d4,d5,hzd⟩:=b2p hzb hEc hzc hwd b1))
 obtain⟨hst0,hEf⟩:=FromSt.start (fv:= .func (.func cb) #[] caps) hEb hzb b0 b1 b2 hEc hzc hOc hEd d4 d5 hzd;have hpre:Hid (∃rest,([]:List (List Int))++(a0s (n - 0) k ((0:Nat):Int)).map (([]:List Int)++ ·)++rest=a0s n k 0):=hid ⟨[],by simp⟩;refine(b6l cb w.heap.size n k caps Inv hcf hn hk hInv hCB k 0 [] [] _ (by simp) (by omega) hst0 (hInv _ _ _ h0 hEf) hpre).mono ?_;rintro e w9 ⟨rfl,_,hiv⟩;have hfin:Hid (([]:List (List Int))++(a0s (n - 0) k ((0:Nat):Int)).map (([]:List Int)++ ·)=a0s n k 0):=hid (by simp);rw[hfin.out]at hiv;clear hst0 hEf cd fd ck2 d4 d5 hEd hOc hEc b0 b1 b2 hEb ck hwd hwb;go_wp2_with fail
 go_end0
 exact⟨rfl,hiv⟩
end Go.Proofs.YtoibhmjjhgaimaaGreat
namespace Go
section
variable {P:Program} {ops:Array Oper} {Q:Exit->Act->World->Prop} {md:Region.Mode} {S:World->Prop} {n:Nat}
def a4I (P:Program) (md:Region.Mode) (ops:Array Oper) (Q:Exit->Act->World->Prop) (S:World->Prop) (n:Nat):Nat->Array Bool->Act->World->Prop
 |0,listed,a,w=>Region.ready md ops listed= []/\Q .normal a w
 |fuel+1,listed,a,w=>
  (Region.ready md ops listed= []->Q .normal a w)/\
  ∀i∈Region.ready md ops listed,wpOp P ops Q i (fun a' w'=>(i<n->S w')/\a4I P md ops Q S n fuel (listed.setIfInBounds i true) a' w') a w
theorem a7H:∀(fuel:Nat) (listed:Array Bool) (a:Act) (w:World),a4I P md ops Q S n fuel listed a w->wpAny P md ops Q fuel listed a w
 |0,_,_,_,h=>h
 |fuel+1,_,_,_,h=>⟨h.1,fun i hi=>wpOp_mono (fun a' w' h'=>a7H fuel _ a' w' h'.2) (h.2 i hi)⟩
theorem a9r {i:Nat} {oi:Oper} {v:Value} (hs:Region.sinkB md ops n=true) (hc:Region.chainB md ops n=true) (hn:n<ops.size) (hin:i<n) (hi:ops[i]? =some oi) (hsel:∀(j:Nat) (o:Oper) cs b,ops[j]? =some o->o.op≠ .select cs b)
  (hQ:∀c a w,Q (.panic c) (a.put oi.dst v) w->Q (.panic c) a w):
  ∀(fuel:Nat) (listed:Array Bool) (a:Act) (w:World),HeadInv md ops n listed->
   (∀j oj,ops[j]? =some oj->j≠i->listed.getD j true=false->(∀e∈oj.after,Region.binds md e=true->e.on≠i)->oi.apart ops oj=true)->
   i∈Region.ready md ops listed->YieldsIf P ops S oi v a->S w->
   a4I P md ops Q S n fuel (listed.setIfInBounds i true) (a.put oi.dst v) w->a4I P md ops Q S n (fuel+1) listed a w:=by
 intro fuel
 induction fuel with
 |zero=>
  intro listed a w _ _ hr hy hS H;refine⟨fun h=>(by rw[h]at hr;cases hr),fun j hj=>?_⟩;by_cases hji:j=i
  ·subst hji;exact hy.wpOp hi hS ⟨fun _=>hS,H⟩
  ·have:=ready_mono hj hji
   rw[H.1]at this;cases this
 |succ fuel ih=>
  intro listed a w inv hfree hr hy hS H;refine⟨fun h=>(by rw[h]at hr;cases hr),fun j hj=>?_⟩;by_cases hji:j=i
  ·subst hji;exact hy.wpOp hi hS ⟨fun _=>hS,H⟩
  ·have hjn:j<n:=by
    rcases Nat.lt_or_ge j n with h|h
    ·exact h
    ·exact absurd hj (tail_waits hs hc hn inv (n - i) i rfl hin (mem_ready.1 hr).1 j h)
   have h1:=H.2 j (ready_mono hj hji);obtain⟨hjun,oj,hoj,hall⟩:=mem_ready.1 hj;have hnot:∀e∈oj.after,Region.binds md e=true->e.on≠i:=fun e he hb heq=>by
    have h1:=hall e he hb;have h0:=(mem_ready.1 hr).1;rw[heq]at h1;rcases Nat.lt_or_ge i listed.size with h'|h'
    ·simp[h']at h0 h1;rw[h0]at h1;cases h1
    ·simp[Array.getElem?_eq_none h']at h1
   have h2:=wpOp_putIf hoj (hfree j oj hoj hji hjun hnot) (fun cs b=>hsel i oi cs b hi) (fun cs b=>hsel j oj cs b hoj) hQ hy h1;have hfree':∀k ok,ops[k]? =some ok->k≠i->(listed.setIfInBounds j true).getD k true=false->
     (∀e∈ok.after,Region.binds md e=true->e.on≠i)->oi.apart ops ok=true:=fun k ok hk hki hun hno=>by
    refine hfree k ok hk hki ?_ hno;by_cases hjk:j=k
    ·subst hjk;exact hjun
    ·rw[getD_set_ne true hjk]at hun;exact hun
   refine wpOp_mono (fun a' w' h3=>⟨h3.2.1,ih (listed.setIfInBounds j true) a' w' (inv.set hj hjn) hfree' (ready_mono hr (Ne.symm hji)) h3.1 (h3.2.1 hjn) ?_⟩) h2;rw[Array.setIfInBounds_comm _ _ hji];exact h3.2.2
def b8J (md:Region.Mode) (ops:Array Oper) (n:Nat) (listed:Array Bool):Bool:=
 decide (listed.size=ops.size)&&
 ((List.range ops.size).all fun j=> !listed.getD j false||(match ops[j]? with|some o=>o.after.all fun e=> !Region.binds md e||listed.getD e.on false|none=>true))&&
 ((List.range ops.size).all fun t=>decide (t<n)|| !listed.getD t true)
theorem b4i {listed:Array Bool} (h:b8J md ops n listed=true):HeadInv md ops n listed:=by
 unfold b8J at h;simp only[Bool.and_eq_true,decide_eq_true_eq]at h;obtain⟨⟨h1,h2⟩,h3⟩:=h;refine⟨h1,fun j oj hj hl e he hb=>?_,fun t ht ht'=>?_⟩
 ·have hlt:j<ops.size:=(Array.getElem?_eq_some_iff.1 hj).1
  have h4:=List.all_eq_true.1 h2 j (List.mem_range.2 hlt);rw[hl,hj]at h4;simp only[Bool.not_true,Bool.false_or]at h4;have h5:=Array.all_eq_true_iff_forall_mem.1 h4 e he;rw[hb]at h5;simpa using h5
 ·have h4:=List.all_eq_true.1 h3 t (List.mem_range.2 ht')
  simp only[Bool.or_eq_true,decide_eq_true_eq,Bool.not_eq_true']at h4;rcases h4 with h4|h4
  ·omega
  ·exact h4
def c0m (md:Region.Mode) (ops:Array Oper) (n i:Nat) (listed:Array Bool):Bool:=
 decide (i<n)&&b8J md ops n listed&&Region.free md ops listed i&&(Region.ready md ops listed).contains i
def b6m (md:Region.Mode) (ops:Array Oper) (n:Nat):Bool:=Region.sinkB md ops n&&Region.chainB md ops n&&decide (n<ops.size)&&Region.noSelect ops
theorem a0f {i:Nat} {oi:Oper} {v:Value} {fuel:Nat} {listed:Array Bool} {a:Act} {w:World} (hO:Shut (b6m md ops n=true)) (hi:ops[i]? =some oi)
  (hB:c0m md ops n i listed=true)
  (hQ:∀c a w,Q (.panic c) (a.put oi.dst v) w->Q (.panic c) a w) (hS:S w) (hw:Region.wanted oi (yielded ops a.tmps)=true) (hy:∀w,S w->(execOp a.eval oi).run P w= .ok (.value v) w)
  (h:a4I P md ops Q S n fuel (listed.setIfInBounds i true) (a.put oi.dst v) w):a4I P md ops Q S n (fuel+1) listed a w:=by
 unfold c0m at hB;simp only[Bool.and_eq_true,decide_eq_true_eq]at hB;obtain⟨⟨⟨b4,b5⟩,b7⟩,b8⟩:=hB;have hO:=hO.out;unfold b6m at hO;simp only[Bool.and_eq_true,decide_eq_true_eq]at hO;obtain⟨⟨⟨b1,b2⟩,b3⟩,b6⟩:=hO;exact a9r b1 b2 b3 b4 hi (Region.noSelect_spec b6) hQ fuel listed a w (b4i b5) (Region.free_spec hi b7) (by simpa using b8) (.inl ⟨hw,hy⟩) hS h
theorem a1s {i:Nat} {o:Oper} {fuel:Nat} {listed:Array Bool} {a:Act} {w:World} (hr:Region.ready md ops listed= [i]) (ho:ops[i]? =some o)
  (h:∀K':Act->World->Prop,Shut (∀a w,S w->(S w->a4I P md ops Q S n fuel (listed.setIfInBounds i true) a w)->K' a w)->if Region.wanted o (yielded ops a.tmps)=true then Oper.wp P o a w K' Q else K' (a.put o.dst undef) w):a4I P md ops Q S n (fuel+1) listed a w:=by
 refine⟨fun h0=>(by rw[hr]at h0;cases h0),fun j hj=>?_⟩;rw[hr]at hj;have:j=i:=by simpa using hj
 subst this;exact wpOp_step ho (fun K' hK=>h K' (fun a w hS hW=>hK a w ⟨fun _=>hS,hW hS⟩))
theorem a3r {i:Nat} {o:Oper} {fuel:Nat} {listed:Array Bool} {a:Act} {w:World} (hr:Region.ready md ops listed= [i]) (ho:ops[i]? =some o) (hin:n<=i)
  (hd:Region.ready md ops (listed.setIfInBounds i true)= [])
  (h:∀K':Act->World->Prop,Shut (∀a w,Q .normal a w->K' a w)->if Region.wanted o (yielded ops a.tmps)=true then Oper.wp P o a w K' Q else K' (a.put o.dst undef) w):a4I P md ops Q S n (fuel+1) listed a w:=by
 refine⟨fun h0=>(by rw[hr]at h0;cases h0),fun j hj=>?_⟩;rw[hr]at hj;have:j=i:=by simpa using hj
 subst this;refine wpOp_step ho (fun K' hK=>h K' (fun a w hq=>hK a w ⟨fun hlt=>absurd hlt (Nat.not_lt.2 hin),?_⟩));cases fuel with
 |zero=>exact⟨hd,hq⟩
 |succ f=>exact⟨fun _=>hq,by rw[hd];simp⟩
theorem a3s {id:Nat} {a:Act} {w:World} (n:Nat) (S:World->Prop) (hm:P.follows .mixedOrders=true) (hO:b6m .any ops n=true) (hS:S w.drew)
  (h:S w.drew->Shut (b6m .any ops n=true)->a4I P .any ops Q S n ops.size (Array.replicate ops.size false) a w.drew):(Code.region id ops true).wp P Q a w:=
 wp_region_any hm (a7H _ _ _ _ (h hS hO))
end
end Go
namespace Go.Rep
open Go.RowKit Go.Lim
section
variable {P:Program} {ops:Array Oper} {Q:Exit->Act->World->Prop} {a:Act} {w:World}
variable {α:Type} {R:Mem->Value->α->Prop} {sz:Nat} {X:Nat->Bool} {base:Nat} {e:TypeId} {ao:Option Addr} {cap:Nat} {l:List α}
theorem a9s {o:Oper} {K:Act->World->Prop} {E:Prop} {t by_:Nat} {z:Value} {s x:Operand} {ax:Option Addr} {cs:Nat}
  (hg:o.guard=none) (hop:o.op=Op.call {callee:=Callee.builtin Builtin.append,args:=#[s,x],argTypes:=#[t,t]}) (T:SliceT P t e sz by_ z) (hzs:z.cells.size=sz) (hR:Elem R sz) (hbase:base<=w.heap.size) (hX:∀k,X k=true->k<w.heap.size) (xs:List α) (n m:Nat) (hn:l.length=n) (hm:xs.length=m)
  (hs:a.eval s= .slice ao n cap) (hx:a.eval x= .slice ax m cs) (h:OL R sz X base e w ao cap l)
  (hxs:Sl R sz (mk (un X ao) w) ax xs) (hroom:(n+m)*by_<=140737488355328) (hmax:n+m<=9223372036854775807)
  (hK:∀ao' cap' w',OL R sz X base e w' ao' cap' (l++xs)->ExtX (ob ao) w w'->(ao'=ao\/∃g,ao'=some ⟨g,0,none⟩/\w.heap.size<=g)->K (a.put o.dst (.slice ao' (n+m) cap')) w'):
  if Region.wanted o (yielded ops a.tmps)=true then Oper.wp P o a w K Q else E:=by
 have hw:Region.wanted o (yielded ops a.tmps)=true:=by simp[Region.wanted,hg]
 rw[if_pos hw];subst hn hm;obtain⟨us,h1,h2,h3⟩:=hxs.at_ hR;obtain⟨ao',cap',w',hr,h2,h3,h4⟩:=h.run_append (P:=P) T hzs hR hbase hX ax cs us xs h2 h1 h3 hroom hmax o.type;unfold Oper.wp execOp;rw[hop];simp only[resolve,invoke,builtin,Sem.run_bind,Sem.run_pure,Result.andThen_ok,List.map_toArray,List.map_cons,List.map_nil,hs,hx];rw[hr];have:=hK ao' cap' w' h2 h3 h4;rw[show(l++xs).length=l.length+xs.length from by simp];exact this
end
end Go.Rep
namespace Go.Proofs.YtoibhmjjhgaimaaGreat
open Go.RowKit Go.Rep Go.Lim Go.Lin
theorem b6n:(Tryz.prog.info? 25).map (fun i=>(i.zero,i.size,i.bytes))=some (some (.slice none 0 0),1,24):=by kernel_rfl
theorem a4U:TyI Tryz.prog 25 1:=let ⟨i,h,_,h2,_⟩:=info_parts b6n;⟨i,h,h2⟩
def uB:Nat:=10000000000
def b8K (X:Nat->Bool) (w:World) (c:Nat) (z:Mat) (e:Ending) (w':World):Prop:=Ext w w'/\∃(cnt:Nat) (dv:Value) (us:Mat),e= .returned (.tuple #[.int .i64 (cnt:Int),dv])/\MV (mk X w') dv us/\BM uB us/\(∀r∈us,r.length=c)/\a0M c (a0t z) cnt/\Wit c (a0t z) cnt (a0t us)
def c0n (n:Nat):Prop:=∀(X:Nat->Bool) (w:World) (u:Value) (z:List (List Rat)) (c B:Nat),HX X w->MV (mk X w) u z->Shp n c z->n<=64->1<=c->c<=3->BM B z->1<=B->B<=6500->
  Calls Tryz.prog 222 #[u, .int .i64 (c:Int)] w (b8K X w c z)
def a3g (bc bs:Nat):Nat->Bool:=fun k=>(k==bc)||(k==bs)
def b0b (X:Nat->Bool) (bc bs B0:Nat):Nat->Bool:=fun k=>X k||a3g bc bs k||a6Y B0 k
structure Lay (lo bo bu bc bd bs B0:Nat):Prop where
 lo1:lo<=bo
 lo2:lo<=bu
 lo3:lo<=bc
 lo4:lo<=bd
 lo5:lo<=bs
 hi1:bo<B0
 hi2:bu<B0
 hi3:bc<B0
 hi4:bd<B0
 hi5:bs<B0
 ne1:bo≠bc
 ne2:bo≠bs
 ne3:bu≠bc
 ne4:bu≠bs
 ne5:bd≠bc
 ne6:bd≠bs
 ne7:bc≠bs
structure BSt (X:Nat->Bool) (w0:World) (bo bu bc bd bs B0 c:Nat) (oo:Option Addr) (n oc:Nat) (ov:Value) (z N:Mat) (cnt:Nat) (dv:Value) (us:Mat) (W:World):Prop where
 ext:Ext w0 W
 b1:Bx W bo #[.slice oo n oc] 25
 b2:Bx W bu #[ov] 25
 b3:Bx W bc #[.int .i64 (cnt:Int)] 3
 b4:Bx W bd #[.int .i64 (c:Int)] 3
 b5:Bx W bs #[dv] 25
 r1:MV (mk (b0b X bc bs B0) W) (.slice oo n oc) z
 r2:MV (mk (b0b X bc bs B0) W) ov N
 r3:MV (mk (b0b X bc bs B0) W) dv us
section
variable {X:Nat->Bool} {w0 W W':World} {bo bu bc bd bs B0 c:Nat} {oo:Option Addr} {n oc:Nat} {ov:Value} {z N:Mat} {cnt:Nat} {dv:Value} {us:Mat}
theorem BSt.hx (_h:BSt X w0 bo bu bc bd bs B0 c oo n oc ov z N cnt dv us W) (hX:HX X w0) (hl:Lay w0.heap.size bo bu bc bd bs B0) (hB:B0+6<=W.heap.size):HX (b0b X bc bs B0) W:=fun k hk=>by
 have h1:=hl.hi3;have h2:=hl.hi5;have h0:=hl.lo1;have h00:=hl.hi1;simp only[b0b,a3g,a6Y,Bool.or_eq_true,Bool.and_eq_true,beq_iff_eq,decide_eq_true_eq]at hk;rcases hk with(h|h|h)|h
 ·have:=hX k h;omega
 ·omega
 ·omega
 ·omega
theorem BSt.hxs (h:BSt X w0 bo bu bc bd bs B0 c oo n oc ov z N cnt dv us W) (hX:HX X w0):HX (fun k=>X k||a3g bc bs k) W:=fun k hk=>by
 have h3:=h.b3.lt;have h5:=h.b5.lt;have h0:=h.ext.size;simp only[a3g,Bool.or_eq_true,beq_iff_eq]at hk;rcases hk with h|h|h
 ·have:=hX k h;omega
 ·omega
 ·omega
theorem BSt.step (h:BSt X w0 bo bu bc bd bs B0 c oo n oc ov z N cnt dv us W) (hE:Ext W W'):BSt X w0 bo bu bc bd bs B0 c oo n oc ov z N cnt dv us W':=
 ⟨h.ext.trans hE,h.b1.ext0 hE,h.b2.ext0 hE,h.b3.ext0 hE,h.b4.ext0 hE,h.b5.ext0 hE,mkx MV.mono h.r1 hE,mkx MV.mono h.r2 hE,mkx MV.mono h.r3 hE⟩
theorem BSt.own (h:BSt X w0 bo bu bc bd bs B0 c oo n oc ov z N cnt dv us W) (hl:Lay w0.heap.size bo bu bc bd bs B0) (hE:ExtX (a6Y B0) W W'):BSt X w0 bo bu bc bd bs B0 c oo n oc ov z N cnt dv us W':=by
 have no:∀j,j<B0->a6Y B0 j=false:=fun j hj=>by simp[a6Y];omega
 have hm:=a0u (X:=b0b X bc bs B0) hE fun k hk=>by simp[b0b,hk]
 have:=hl.lo1;have:=hl.hi1;exact⟨h.ext.then_ hE fun i hi _=>no i (by omega),h.b1.ext hE (no _ hl.hi1),h.b2.ext hE (no _ hl.hi2),h.b3.ext hE (no _ hl.hi3),h.b4.ext hE (no _ hl.hi4),h.b5.ext hE (no _ hl.hi5),MV.mono _ _ _ _ hm h.r1,MV.mono _ _ _ _ hm h.r2,MV.mono _ _ _ _ hm h.r3⟩
theorem BSt.put (h:BSt X w0 bo bu bc bd bs B0 c oo n oc ov z N cnt dv us W) (hl:Lay w0.heap.size bo bu bc bd bs B0) (cnt':Nat) (dv':Value) (us':Mat) (hr:MV (_root_.Go.Rep.mk (b0b X bc bs B0) W) dv' us'):
  (W.setCell ⟨bc,0,none⟩ (.int .i64 (cnt':Int))).cell? ⟨bs,0,none⟩=some dv/\(W.setCell ⟨bc,0,none⟩ (.int .i64 (cnt':Int))).frozen? ⟨bs,0,none⟩=false/\
  BSt X w0 bo bu bc bd bs B0 c oo n oc ov z N cnt' dv' us' ((W.setCell ⟨bc,0,none⟩ (.int .i64 (cnt':Int))).setCell ⟨bs,0,none⟩ dv')/\ExtX (a3g bc bs) W ((W.setCell ⟨bc,0,none⟩ (.int .i64 (cnt':Int))).setCell ⟨bs,0,none⟩ dv'):=by
 obtain⟨p1,p2⟩:=a0R h.b3 (.int .i64 (cnt':Int)) (i:=0) (by simp);have p5:=h.b5.ext p2 (a0b hl.ne7.symm);obtain⟨q1,q2⟩:=a0R p5 dv' (i:=0) (by simp);have hE:ExtX (a3g bc bs) W ((W.setCell ⟨bc,0,none⟩ (.int .i64 (cnt':Int))).setCell ⟨bs,0,none⟩ dv'):=by
  refine(p2.weaken fun k _ hk=>?_).trans (q2.weaken fun k _ hk=>?_)
  ·refine a0b fun e=>?_
   subst e;simp[a3g]at hk
  ·refine a0b fun e=>?_
   subst e;simp[a3g]at hk
 have hm:=a0u (X:=b0b X bc bs B0) hE fun k hk=>by simp[b0b,hk]
 have n1:a3g bc bs bo=false:=by simp[a3g,hl.ne1,hl.ne2]
 have n2:a3g bc bs bu=false:=by simp[a3g,hl.ne3,hl.ne4]
 have n3:a3g bc bs bd=false:=by simp[a3g,hl.ne5,hl.ne6]
 have hlo3:=hl.lo3;have hlo5:=hl.lo5;refine⟨p5.cell 0 rfl,p5.frozen 0,⟨h.ext.then_ hE fun i hi _=>?_,h.b1.ext hE n1,h.b2.ext hE n2,?_,h.b4.ext hE n3,by simpa using q1,MV.mono _ _ _ _ hm h.r1,MV.mono _ _ _ _ hm h.r2,MV.mono _ _ _ _ hm hr⟩,hE⟩
 ·simp[a3g];omega
 ·have:=p1.ext q2 (a0b hl.ne7)
  simpa using this
end
def b6o (X:Nat->Bool) (w0:World) (bo bu bc bd bs B0 c:Nat) (oo:Option Addr) (n oc:Nat) (ov:Value) (z N:Mat) (done:List (List Int)) (W:World):Prop:=
 ∃(cnt:Nat) (dv:Value) (us:Mat),BSt X w0 bo bu bc bd bs B0 c oo n oc ov z N cnt dv us W/\a3J c z cnt us/\BM uB us/\(∀r∈us,r.length=c)/\∀s∈done,a2c c (a0t z) (a0t N) cnt (s.map Int.toNat)
theorem b6o.own {X:Nat->Bool} {w0 W W':World} {bo bu bc bd bs B0 c:Nat} {oo:Option Addr} {n oc:Nat} {ov:Value} {z N:Mat} {done:List (List Int)} (h:b6o X w0 bo bu bc bd bs B0 c oo n oc ov z N done W) (hl:Lay w0.heap.size bo bu bc bd bs B0) (hE:ExtX (a6Y B0) W W'):b6o X w0 bo bu bc bd bs B0 c oo n oc ov z N done W':=by
 obtain⟨cnt,dv,us,h1,h2⟩:=h;exact⟨cnt,dv,us,h1.own hl hE,h2⟩
theorem a6p {B0:Nat} {Y:Nat->Bool} {W W':World} (hE:ExtX Y W W') (hY:∀k,Y k=true->a6Y B0 k=false) (hB:B0+6<=W.heap.size):b2o B0 W W':=⟨hE.size,fun k hk=>hE.block k (by simp[a6Y]at hk;omega) (by
 cases h:Y k
 ·rfl
 ·rw[hY k h]at hk;simp at hk)⟩
theorem b2o.trans {B0:Nat} {A B C:World} (h:b2o B0 A B) (k:b2o B0 B C):b2o B0 A C:=⟨Nat.le_trans h.1 k.1,fun i hi=>(k.2 i hi).trans (h.2 i hi)⟩
end Go.Proofs.YtoibhmjjhgaimaaGreat
namespace Go.Lin
open Go.Lim Go.Rep Go.Proofs.YtoibhmjjhgaimaaGreat
theorem a4v {n c:Nat} {m:Mat} (hs:Shp n c m) (hn:n<=96) (hc:1<=c) (hc2:c<=96) (h0:0<n):a1h m=true/\a0l m=c:=by
 have hcol:a0l m=c:=by
  unfold a0l;rw[List.getD_eq_getElem?_getD,List.getElem?_eq_getElem (by rw[hs.1];exact h0)];exact hs.2 _ (List.getElem_mem _)
 refine⟨a1A.2 ⟨by rw[hs.1];exact hn,fun i hi=>?_⟩,hcol⟩;rw[hcol,hs.2 _ (List.getElem_mem _)];exact⟨hc,hc2,rfl⟩
end Go.Lin
namespace Go.Proofs.YtoibhmjjhgaimaaGreat
open Go.RowKit Go.Rep Go.Lim Go.Lin
theorem a6q (X:Nat->Bool) (w:World) (s:Bool) (a:Option Addr) (n c:Nat) (d:Option Addr) (k e:Nat) (x:Rat) (t:TypeId) (hX:HX X w) (h:QC (mk X w) (.agg #[.bool s, .slice a n c, .slice d k e]) x):
  OL QC 3 X w.heap.size t (w.alloc (.cells #[.bool s, .slice a n c, .slice d k e] t)) (some ⟨w.heap.size,0,none⟩) 1 [x]:=
 OL.lit QC.elem hX (Nat.le_refl _) [.agg #[.bool s, .slice a n c, .slice d k e]] [x] _ (by simp[a0g,Value.cells]) rfl (fun i hi _=>by
  have:i=0:=by simpa using hi
  subst this;exact h) (by simp)
theorem BM.sub {B:Nat} {m l:List (List Rat)} (h:BM B m) (hs:∀r∈l,r∈m):BM B l:=fun r hr=>h r (hs r hr)
def b6p:Mem->Value->Nat->Prop:=fun h u n=>∃ao cap l,u= .slice ao l.length cap/\l.length<=cap/\a0K l n/\Sl (a0a .u32) 1 h ao l
theorem b6p.mono:a4N b6p:=by
 rintro h h' u x hl ⟨ao,cap,l,rfl,h1,h2,h3⟩;exact⟨ao,cap,l,rfl,h1,h2,h3.mono (a0a.mono _) hl⟩
theorem b6p.one:a3O b6p:=by rintro h u x ⟨ao,cap,l,rfl,_⟩;rfl
theorem b6p.elem:Elem b6p 1:=⟨b6p.mono,by rintro h u x ⟨ao,cap,l,rfl,_⟩;rfl,by rintro h u x ⟨ao,cap,l,rfl,_⟩ c hc;simp[a0g,Value.cells]at hc;subst hc;rfl,Nat.one_pos⟩
theorem b6p.zero (h:Mem):b6p h (.slice none 0 0) 0:=⟨none,0,[],rfl,by simp,a0K.nil,Sl.nil _ _ _ _⟩
def tbm (tb:Nat):Nat->Bool:=fun k=>k==tb
theorem b6q (tb:Nat):tbm tb tb=true:=by simp[tbm]
theorem a2O {tb k:Nat} (h:k≠tb):tbm tb k=false:=by simpa[tbm]using h
def a0H (X:Nat->Bool) (tb:Nat) (w:World):Prop:=
 X tb=true/\∃(lo:Option Addr) (l:List Int) (cap at_:Nat),w.heap[tb]? =some (.cells #[.slice lo l.length cap, .int .i64 (at_:Int)] 99 (0,0))/\l.length<=400/\at_<=l.length/\Sl (a0x .i64) 1 (mk X w) lo l
theorem a3t {X:Nat->Bool} {tb:Nat} (h:X tb=true):∀k,tbm tb k=true->X k=true:=fun k hk=>by
 have:k=tb:=by simpa[tbm]using hk
 rw[this];exact h
theorem a0H.lt {X:Nat->Bool} {tb:Nat} {w:World} (h:a0H X tb w):tb<w.heap.size:=by
 obtain⟨_,lo,l,cap,at_,h1,_⟩:=h;by_cases hl:tb<w.heap.size
 ·exact hl
 ·rw[Array.getElem?_eq_none (by omega)]at h1;simp at h1
theorem a0H.ext {X:Nat->Bool} {tb:Nat} {w w':World} (h:a0H X tb w) (hE:Ext w w'):a0H X tb w':=by
 have hlt:=h.lt;obtain⟨hX,lo,l,cap,at_,h1,h2,h3,h4⟩:=h;exact⟨hX,lo,l,cap,at_,by rw[hE.block tb hlt rfl];exact h1,h2,h3,h4.mono (a0x.mono _) (a0m hE)⟩
theorem a0H.extY {X Y:Nat->Bool} {tb:Nat} {w w':World} (h:a0H X tb w) (hE:ExtX Y w w') (hY:∀k,Y k=true->X k=true) (ht:Y tb=false):a0H X tb w':=by
 have hlt:=h.lt;obtain⟨hX,lo,l,cap,at_,h1,h2,h3,h4⟩:=h;exact⟨hX,lo,l,cap,at_,by rw[hE.block tb hlt ht];exact h1,h2,h3,h4.mono (a0x.mono _) (a0u hE hY)⟩
def b8L (X:Nat->Bool) (tb:Nat) (w:World) (n:Int) (e:Ending) (w':World):Prop:=
 ExtX (tbm tb) w w'/\a0H X tb w'/\∃m:Nat,e= .returned (.int .i64 (m:Int))/\((m:Int)<n\/m=0)
theorem b6r (v n:Int) (w:World) (h1:1<=n) (h2:n<=1099511627776):
  Calls Tryz.prog 102 #[.int .i64 v, .int .i64 n] w (fun e w'=>e= .returned (.int .i64 (v%n))/\w'=w):=by
 have hn0:(n==0)=false:=a1S (by omega);have hlo: -n<v.tmod n:=Int.lt_tmod_of_pos v (by omega);have hhi:v.tmod n<n:=Int.tmod_lt_of_pos v (by omega);have hem:(v.tmod n<0->v.tmod n+n=v%n)/\(0<=v.tmod n->v.tmod n=v%n):=by
  have h:=Int.tmod_eq_emod (a:=v) (b:=n);have e0:=Int.emod_nonneg v (show n≠0 by omega);have e1:=Int.emod_lt_of_pos v (show 0<n by omega);split at h<;>omega
 have hem':=hid hem;clear hem;go_enter Tryz.func102,Tryz.ntmps102
 go_wp2_with fail
 ·go_ret
  exact⟨a0U (hem'.out.1 (by assumption)),rfl⟩
 ·go_ret
  exact⟨a0U (hem'.out.2 (by assumption)),rfl⟩
theorem a0H.cells {X:Nat->Bool} {tb:Nat} {w:World} (h:a0H X tb w):∃(lo:Option Addr) (l:List Int) (cap at_:Nat),w.cell? ⟨tb,0,none⟩=some (.slice lo l.length cap)/\w.cell? ⟨tb,1,none⟩=some (.int .i64 (at_:Int))/\w.frozen? ⟨tb,1,none⟩=false/\l.length<=400/\at_<=l.length/\Sl (a0x .i64) 1 (mk X w) lo l/\
  ∀at':Nat,at'<=l.length->a0H X tb (w.setCell ⟨tb,1,none⟩ (.int .i64 (at':Int)))/\ExtX (tbm tb) w (w.setCell ⟨tb,1,none⟩ (.int .i64 (at':Int)))/\
   (w.setCell ⟨tb,1,none⟩ (.int .i64 (at':Int))).cell? ⟨tb,0,none⟩=some (.slice lo l.length cap)/\(w.setCell ⟨tb,1,none⟩ (.int .i64 (at':Int))).cell? ⟨tb,1,none⟩=some (.int .i64 (at':Int)):=by
 have hlt:=h.lt;obtain⟨hX,lo,l,cap,at_,h1,h2,h3,h4⟩:=h;refine⟨lo,l,cap,at_,by simp[World.cell?,h1],by simp[World.cell?,h1],by simp[World.frozen?,h1],h2,h3,h4,fun at' ha=>?_⟩;have hE:ExtX (tbm tb) w (w.setCell ⟨tb,1,none⟩ (.int .i64 (at':Int))):=
  ⟨rfl,rfl,rfl,by simp[World.setCell],fun k hk hy=>Below.heap_setCell _ _ _ _ (fun e=>by subst e;simp[tbm]at hy)⟩
 have hn:(w.setCell ⟨tb,1,none⟩ (.int .i64 (at':Int))).heap[tb]? =some (.cells #[.slice lo l.length cap, .int .i64 (at':Int)] 99 (0,0)):=by
  simp only[World.setCell,Array.getElem?_modify,h1];simp
 exact⟨⟨hX,lo,l,cap,at',hn,h2,ha,h4.mono (a0x.mono _) (a0u hE (a3t hX))⟩,hE,by unfold World.cell?;rw[hn];rfl,by unfold World.cell?;rw[hn];rfl⟩
theorem a0H.drewN {X:Nat->Bool} {tb:Nat} {w:World} (h:a0H X tb w) (n:Nat):a0H X tb (w.drewN n):=h
set_option maxHeartbeats 800000 in
theorem a0T (X:Nat->Bool) (tb:Nat) (n:Int) (w:World) (ht:a0H X tb w) (hn:n<=1099511627776):
  Calls Tryz.prog 40 #[.pointer (some ⟨tb,0,none⟩), .int .i64 n] w (b8L X tb w n):=by
 obtain⟨lo,l,cap,at_,c0,c1,f1,hl,hat,hs,hset⟩:=ht.cells;have hh:=hs.hd;by_cases h1:n<1
 ·have hd:decide (n<1)=true:=decide_eq_true h1
  go_enter Tryz.func40,Tryz.ntmps40
  go_wp2_with fail
  go_quiet (fail)
  go_wp2_with fail
  go_ret
  exact⟨(ExtX.refl _).drewN _,ht.drewN _,0,rfl, .inr rfl⟩
 have hd:decide (n<1)=false:=decide_eq_false h1;by_cases h2:at_<l.length
 ·obtain⟨ht2,hE2,k0,k1⟩:=hset (at_+1) (by omega)
  have hs2:=(hs.mono (a0x.mono _) (a0u hE2 (a3t ht.1))).int at_ h2;obtain⟨x,hx⟩:∃x,l[at_]=x:=⟨_,rfl⟩;rw[hx]at hs2;clear hx hset;have e1:((at_+1:Nat):Int)=(at_:Int)+1:=by omega
  rw[e1]at k0 k1 hs2 ht2 hE2;have kk0:∀N,((w.drewN N).setCell ⟨tb,1,none⟩ (.int .i64 ((at_:Int)+1))).cell? ⟨tb,0,none⟩=some (.slice lo l.length cap):=fun _=>k0;have kk1:∀N,((w.drewN N).setCell ⟨tb,1,none⟩ (.int .i64 ((at_:Int)+1))).cell? ⟨tb,1,none⟩=some (.int .i64 ((at_:Int)+1)):=fun _=>k1;have kk2:∀N,((w.drewN N).setCell ⟨tb,1,none⟩ (.int .i64 ((at_:Int)+1))).cell? (adr lo at_)=some (.int .i64 x):=fun _=>hs2;have ew:IntKind.i64.wrap ((at_:Int)+1 - 1)=(at_:Int):=by rw[IntWalk.i64_in _ (by omega)];omega
  have ht3:∀N,a0H X tb ((w.drewN N).setCell ⟨tb,1,none⟩ (.int .i64 ((at_:Int)+1))):=fun _=>ht2;have hE3:∀N,ExtX (tbm tb) w ((w.drewN N).setCell ⟨tb,1,none⟩ (.int .i64 ((at_:Int)+1))):=fun _=>⟨hE2.os,hE2.tape,hE2.output,hE2.size,hE2.block⟩;have ht4:=hid ht3;have hE4:=hid hE3;clear e1 ht2 hE2 k0 k1 ht3 hE3;have hd2:decide ((l.length:Int)<=(at_:Int))=false:=decide_eq_false (by omega);have i1:∀W,(Instr.indexAt 22 (.slice lo l.length cap) (.int .i64 (at_:Int))).run Tryz.prog W= .ok (.pointer (some (adr lo at_))) W:=a0A a1G lo l.length cap .i64 at_ hh h2 rfl;go_enter Tryz.func40,Tryz.ntmps40
  go_wp2_with fail
  go_quiet (fail)
  go_wp2_with fail
  have hm0:=Int.emod_nonneg x (show n≠0 by omega);have hm1:=Int.emod_lt_of_pos x (show 0<n by omega);obtain⟨m,hm⟩:=Int.eq_ofNat_of_zero_le hm0;have hm':=hid hm;have hm2:Hid ((m:Int)<n):=hid (by rw[<-hm];exact hm1);clear hm hm0 hm1
  go_quiet ((go_at_call 102;exact Calls.quiet_of_same (b6r x n _ (by omega) (by omega))))
  go_wp2_with fail
  go_ret
  exact⟨(hE4.out _).drewN _,(ht4.out _).drewN _,m,a0U hm'.out, .inl hm2.out⟩
 ·have hd2:decide ((l.length:Int)<=(at_:Int))=true:=decide_eq_true (by omega)
  go_enter Tryz.func40,Tryz.ntmps40
  go_wp2_with fail
  go_quiet (fail)
  go_wp2_with fail
  go_ret
  exact⟨(ExtX.refl _).drewN _,ht.drewN _,0,rfl, .inr rfl⟩
def b6s (X:Nat->Bool) (tb:Nat) (w:World) (e:Ending) (w':World):Prop:=ExtX (tbm tb) w w'/\a0H X tb w'/\∃b:Bool,e= .returned (.bool b)
def b4j (X:Nat->Bool) (tb:Nat) (w:World) (lo hi:Int) (e:Ending) (w':World):Prop:=ExtX (tbm tb) w w'/\a0H X tb w'/\∃m:Int,e= .returned (.int .i64 m)/\lo<=m/\m<=hi
theorem a7a (X:Nat->Bool) (tb:Nat) (n:Int) (w:World) (ht:a0H X tb w) (h1: -1000<=n) (hn:n<=1099511627776):
  Calls Tryz.prog 21 #[.pointer (some ⟨tb,0,none⟩), .int .i64 n] w (b6s X tb w):=by
 go_enter Tryz.func21,Tryz.ntmps21
 go_wp2_with fail
 refine(a0T X tb n _ ht hn).mono ?_;rintro e w1 ⟨hE,ht1,m,rfl,hm⟩;go_wp2_with fail
 go_ret
 exact⟨hE,ht1,_,rfl⟩
theorem b6t (X:Nat->Bool) (tb:Nat) (lo:Option Addr) (l:List Int) (cap:Nat) (w:World) (a b:Int) (ht:a0H X tb w) (hs:Sl (a0x .i64) 1 (mk X w) lo l) (h0:0<l.length) (hl:l.length<=1000) (hab:Hid (∀x∈l,a<=x/\x<=b)):
  Calls Tryz.prog 29 #[.pointer (some ⟨tb,0,none⟩), .slice lo l.length cap] w (b4j X tb w a b):=by
 have hh:=hs.hd;go_enter Tryz.func29,Tryz.ntmps29
 go_wp2_with fail
 refine(a0T X tb _ _ ht (by omega)).mono ?_;rintro e w1 ⟨hE,ht1,m,rfl,hm⟩;have hml:m<l.length:=by omega
 have hc:=(hs.mono (a0x.mono _) (a0u hE (a3t ht.1))).int m hml;have hr:=hab.out l[m] (List.getElem_mem hml);obtain⟨x,hx⟩:∃x,l[m]=x:=⟨_,rfl⟩;rw[hx]at hc hr;clear hx;go_wp2_with (with_reducible refine a0n a1G (by omega) (by assumption) ?_)
 go_ret
 exact⟨hE,ht1,x,rfl,hr.1,hr.2⟩
theorem a6r (lo:Option Addr) (l:List Int) (cap:Nat) (w:World) (hs:Sl (a0x .i64) 1 w.cell? lo l) (hl:l.length<=cap) (hb:l.length<=9223372036854775807):
  Calls Tryz.prog 13 #[.slice lo l.length cap] w (fun e w'=>e= .returned (.pointer (some ⟨w.heap.size,0,none⟩))/\Ext w w'/\a0H (tbm w.heap.size) w.heap.size w'/\w'.heap.size=w.heap.size+1):=by
 have key:∀(l:List Int),l.length<=400->Sl (a0x .i64) 1 w.cell? lo l->a0H (tbm w.heap.size) w.heap.size (w.alloc (.cells #[.slice lo l.length cap, .int .i64 0] 99)):=by
  intro l hl hs;refine⟨b6q _,lo,l,cap,0,heap_alloc_new w _,hl,Nat.zero_le _,?_⟩;rw[<-a2T]at hs;refine hs.mono (a0x.mono _) (a1g ((ExtX.refl (Y:=noY) w).alloc _) (fun k _ hk=>by simp[noY]at hk) fun k hk hz=>?_);have:k=w.heap.size:=by simpa[tbm]using hz
  omega
 have hE:∀u v,Ext w (w.alloc (.cells #[u,v] 99)):=fun u v=>(ExtX.refl w).alloc _;by_cases h4:400<l.length
 ·have ht:=hid (key (l.take 400) (by simp;omega) (hs.take 400))
  have hlen:(l.take 400).length=400:=by simp;omega
  rw[hlen]at ht;clear key hlen;go_enter Tryz.func13,Tryz.ntmps13
  go_wp2_with fail
  go_ret
  exact⟨rfl,hE _ _,ht.out,by simp⟩
 ·have ht:=hid (key l (by omega) hs)
  clear key;go_enter Tryz.func13,Tryz.ntmps13
  go_wp2_with fail
  go_ret
  exact⟨rfl,hE _ _,ht.out,by simp⟩
theorem b4k (l:List Int):(l.map (Value.int .i64)).flatMap a0g=l.map (Value.int .i64):=by
 induction l with
 |nil=>rfl
 |cons x l ih=>simp only[List.map_cons,List.flatMap_cons,ih];rfl
theorem b4l (X:Nat->Bool) (w:World) (l:List Int) (e:TypeId) (arr:Array Value) (harr:arr=(l.map (Value.int .i64)).toArray) (hX:∀k,X k=true->k<w.heap.size) (hl:l.length<=1000):
  OL (a0x .i64) 1 X w.heap.size e (w.alloc (.cells arr e)) (some ⟨w.heap.size,0,none⟩) l.length l:=by
 refine OL.lit (a0x.elem .i64) hX (Nat.le_refl _) (l.map (Value.int .i64)) l arr ?_ (by simp) (fun i hi hi'=>by simp[a0x]) (by omega);rw[harr,b4k]
theorem b1t (X:Nat->Bool) (tb:Nat) (l:List Int) (arr:Array Value) (e:TypeId) (len:Nat) (w:World) (a b:Int) (ht:a0H X tb w) (hX:∀k,X k=true->k<w.heap.size) (harr:arr=(l.map (Value.int .i64)).toArray) (hlen:len=l.length) (h0:0<l.length) (hl:l.length<=1000) (hab:Hid (∀x∈l,a<=x/\x<=b)):
  Calls Tryz.prog 29 #[.pointer (some ⟨tb,0,none⟩), .slice (some ⟨w.heap.size,0,none⟩) len len] (w.alloc (.cells arr e)) (b4j X tb w a b):=by
 subst hlen;have hE:Ext w (w.alloc (.cells arr e)):=(ExtX.refl w).alloc _;refine(b6t X tb _ l _ _ a b (ht.ext hE) (OL.sl (a0x.elem .i64) (b4l X w l e arr harr hX hl)) h0 hl hab).mono ?_;rintro e' w' ⟨hE',ht',r⟩;exact⟨(ExtX.of hE).trans hE',ht',r⟩
theorem a0H.unstep {X:Nat->Bool} {tb:Nat} {w w':World} {oo oo':Option Addr} (h:a0H (un X oo) tb w) (hb:ob oo tb=false) (hE:ExtX (ob oo) w w') (ho:oo'=oo\/∃g,oo'=some ⟨g,0,none⟩/\w.heap.size<=g):a0H (un X oo') tb w':=by
 have hlt:=h.lt;obtain⟨hX,lo,l,cap,at_,h1,h2,h3,h4⟩:=h;refine⟨?_,lo,l,cap,at_,by rw[hE.block tb hlt hb];exact h1,h2,h3,h4.unstep (a0x.mono _) hE ho⟩;have:X tb=true:=by simpa[un,hb]using hX
 exact a0v this
theorem a0H.unX {X:Nat->Bool} {tb:Nat} {w:World} {oo:Option Addr} (h:a0H (un X oo) tb w) (hX:X tb=true):a0H X tb w:=by
 obtain⟨_,lo,l,cap,at_,h1,h2,h3,h4⟩:=h;exact⟨hX,lo,l,cap,at_,h1,h2,h3,h4.unX (a0x.mono _)⟩
theorem b4m (X:Nat->Bool):un X none=X:=by funext k;simp[un,ob]
theorem a0H.none {X:Nat->Bool} {tb:Nat} {w:World} (h:a0H X tb w):a0H (un X none) tb w:=by rw[b4m];exact h
theorem a0H.old {X:Nat->Bool} {tb:Nat} {w w':World} {oo:Option Addr} (h:a0H X tb w) (hE:Ext w w') (hb:∀j,j<w.heap.size->ob oo j=false):a0H (un X oo) tb w':=by
 have hlt:=h.lt;obtain⟨hX,lo,l,cap,at_,h1,h2,h3,h4⟩:=h;exact⟨a0v hX,lo,l,cap,at_,by rw[hE.block tb hlt rfl];exact h1,h2,h3,h4.old (a0x.mono _) hE hb⟩
theorem _root_.Go.Rep.OL.not_ob {α:Type} {R:Mem->Value->α->Prop} {sz base cap:Nat} {e:TypeId} {ao:Option Addr} {l:List α} {X:Nat->Bool} {w:World} (ho:OL R sz X base e w ao cap l) {k:Nat} (hk:X k=true):ob ao k=false:=by
 have h:∀k,ob ao k=true->X k=false:=ho.1;cases hh:ob ao k
 ·rfl
 ·rw[h k hh]at hk;simp at hk
theorem b4n (w:World):∀j,j<w.heap.size->ob (some ⟨w.heap.size,0,none⟩) j=false:=fun j hj=>by
 cases hh:ob (some ⟨w.heap.size,0,none⟩) j
 ·rfl
 ·have:w.heap.size=j:=by simpa[ob]using hh
  omega
end Go.Proofs.YtoibhmjjhgaimaaGreat
namespace Go.Lin
open Go.Lim Go.Rep
theorem b8M {s:Int} {L:List Rat} {j:Nat} (hj:j<L.length) (h:j<(sgL s L).length):(sgL s L)[j]=(s:Rat)*L[j]:=by simp[sgL]
theorem b8N {c n:Nat} {z:Mat} {U:List Rat} {l:Nat} (hl:a0M c (a0t (onM c U z)) l) (h:n<=a2P c U z+l):Bd c z n (vec U):=fun m hm=>by
 rw[a4o]at hl;have:=hm.uniq hl;rw[<-a3b];omega
end Go.Lin
namespace Go.Proofs.YtoibhmjjhgaimaaGreat
open Go.RowKit Go.Rep Go.Lim Go.Lin
theorem a8w (X:Nat->Bool) (w:World) (ao:Option Addr) (n cap:Nat) (l:List Rat) (e:TypeId) (hX:∀k,X k=true->k<w.heap.size) (h:RV (mk X w) (.slice ao n cap) l):
  OL RV 1 X w.heap.size e (w.alloc (.cells #[.slice ao n cap] e)) (some ⟨w.heap.size,0,none⟩) 1 [l]:=
 OL.lit RV.elem hX (Nat.le_refl _) [.slice ao n cap] [l] _ (by simp[a0g,Value.cells]) rfl (fun i hi _=>by
  have:i=0:=by simpa using hi
  subst this;exact h) (by simp)
set_option maxRecDepth 100000 in
set_option maxHeartbeats 6400000 in
theorem b8O (X:Nat->Bool) (w0:World) (bo bu bc bd bs B0 n c B:Nat) (oo:Option Addr) (oc:Nat) (ov:Value) (z N:List (List Rat)) (done:List (List Int)) (s:List Int) (W:World)
  (ih:∀m,m<n->c0n m) (hs:Shp n c z) (hn:n<=64) (hc2:2<=c) (hc3:c<=3) (hzB:BM B z) (hB1:1<=B) (hB:B<=6500) (hnz:∀v∈a0t z,nz c v) (hne:z≠[]) (hN:N=a0D z c) (hr:(a0N z c).2.length=s.length+1)
  (hl:Lay w0.heap.size bo bu bc bd bs B0) (hX:HX X w0) (hi:b6o X w0 bo bu bc bd bs B0 c oo n oc ov z N done W) (hsb:∀x∈s,0<=x/\x<(z.length:Int)) (hsl:Sl (a0x .i64) 1 W.cell? (some ⟨B0+3,0,none⟩) s) (hB0:B0+6<=W.heap.size):
  Calls Tryz.prog 257 #[.slice (some ⟨B0+3,0,none⟩) s.length s.length, .pointer (some ⟨bo,0,none⟩), .pointer (some ⟨bu,0,none⟩), .pointer (some ⟨bc,0,none⟩), .pointer (some ⟨bd,0,none⟩), .pointer (some ⟨bs,0,none⟩)] W
   (fun e W'=>e= .returned (.tuple #[])/\b6o X w0 bo bu bc bd bs B0 c oo n oc ov z N (done++[s]) W'/\b2o B0 W W'):=by
 obtain⟨cnt,dv,us,hst,hSo,hUB,hUl,hTr⟩:=hi;have hzl:z.length=n:=hs.1;have hpc:=a1L hs;obtain⟨H,hH⟩:∃H,b0b X bc bs B0=H:=⟨_,rfl⟩;have hXH:HX H W:=hH▸hst.hx hX hl hB0;have hz0:=hst.r1;have hN0:=hst.r2;rw[hH]at hz0 hN0;obtain⟨na,nc0,rfl,hnc0,hnS⟩:=hN0;obtain⟨hT,hNB,hMlen⟩:=a9l hs (a8p hzB hB1) hB hc3 hsb hr.symm;rw[<-hN]at hT hNB hMlen;have hNrow:∀r∈N,r.length=c:=fun r hr=>by rw[hN]at hr;exact a2s r hr
 have hMs:=a6o hs hsb N hNrow;obtain⟨hMf,hMc⟩:=a4v hMs (by omega) (by omega) (by omega) (by omega);have hno:=hid (fun(h:(a0D (a0B z s++N) c).length≠1) cnt=>(by
  have:=b2h hs (cnt:=cnt) hsb (by rw[hN]at h;exact h);rwa[<-hN]at this:a2c c (a0t z) (a0t N) cnt (s.map Int.toNat)))
 have hyes:=hid (fun(h:(a0D (a0B z s++N) c).length=1) L (hL:(a0D (a0B z s++N) c)[0]? =some L)=>(by
  subst hN;have hL:=(List.getElem?_eq_some_iff.1 hL).2;obtain⟨h1,h2,h3⟩:=b6a hs hsb h L hL;have h4:BR (1500625*B) L:=by rw[<-hL];exact b2g hNB _ (List.getElem_mem _)
  exact⟨h1,h2,b8C h3,h4,fun cnt a b=>a9k h2 h3 a b⟩:
  L.length=c/\nz c (vec L)/\Ort c (a0t N) (vec L)/\BR (1500625*B) L/\∀cnt,Bd c z cnt (vec (sgL 1 L))->Bd c z cnt (vec (sgL (-1) L))->a2c c (a0t z) (a0t N) cnt (s.map Int.toNat)))
 obtain⟨NN,hNN⟩:∃NN,a0D (a0B z s++N) c=NN:=⟨_,rfl⟩;obtain⟨k3,hk3⟩:∃k3,NN.length=k3:=⟨_,rfl⟩;have hnull:=hid (fun w' um (hX':HX H w') (hm:MV (mk H w') um (a0B z s++N))=>((b4f H w' um (a0B z s++N) _ c hX' hm hMf rfl hMc hT).mono (fun e w'' ⟨h1,u,h2,ao,ca,h3,h4,h5⟩=>⟨h1,ao,ca,by
  rw[h2,h3,<-hk3,<-hNN];rfl,by rw[<-hk3,<-hNN];exact h4,by rw[<-hNN];exact h5⟩):Calls Tryz.prog 256 #[um] w' (fun e w''=>Ext w' w''/\∃(ao:Option Addr) (ca:Nat),e= .returned (.tuple #[.slice ao k3 ca, .int .i64 0])/\k3<=ca/\Sl RC 1 (mk H w'') ao NN)))
 rw[hNN]at hno hyes;have hk3':=hid hk3;have hrl:Hid ((a0B z s).length=s.length):=hid (a1M z s);have hro:=hid (fun(w':World) (hX':HX H w') (hm:MV (mk H w') (.slice oo n oc) z) (h:Sl (a0x .i64) 1 w'.cell? (some ⟨B0+3,0,none⟩) s)=>a9j H w' (.slice oo n oc) z (some ⟨B0+3,0,none⟩) s s.length hX' hm h hsb (by omega));have hless:=hid (fun(U:List Rat) (h1:nz c (vec U)) (h2:Ort c (a0t N) (vec U))=>(by
  have:=b7L hs hnz hne h1 (by rw[<-hN];exact h2);rw[hzl]at this;exact this:(onM c U z).length<n))
 have hmore:=hid (fun(U:List Rat) (l0:Nat) (us2:Mat) (h1:nz c (vec U)) (h2:Ort c (a0t N) (vec U)) (h3:onM c U z≠[]) (h4:Wit c (a0t (onM c U z)) l0 (a0t us2)) (h5:a0M c (a0t (onM c U z)) l0)=>(b7M hs hnz hne h1 (by rw[<-hN];exact h2) h3 h4 h5).1);have hs2:s.length<=2:=by omega
 have hNl:N.length<=3:=by rw[List.length_append]at hMlen;omega
 have hsh':=hid hs;have hzB':=hid hzB;have ih':=hid ih;have hSo':=hid (⟨hSo,hUB,hUl,hTr⟩:a3J c z cnt us/\BM uB us/\(∀r∈us,r.length=c)/\∀s∈done,a2c c (a0t z) (a0t N) cnt (s.map Int.toNat));have hzl':=hid hzl;have hcl:=hSo.le;rw[hzl]at hcl;have q1:=hst.b1;have q2:=hst.b2;have hS:Hid (∀Y W',ExtX Y W.drew W'->Y bo=false->Y bu=false->W'.cell? ⟨bo,0,none⟩=some (.slice oo n oc)/\W'.cell? ⟨bu,0,none⟩=some (.slice na N.length nc0)):=hid fun Y W' h h1 h2=>⟨((q1.ext0 ((ExtX.refl (Y:=noY) W).drew)).ext h h1).cell 0 rfl,((q2.ext0 ((ExtX.refl (Y:=noY) W).drew)).ext h h2).cell 0 rfl⟩;obtain⟨k1,k2⟩:=hS.out noY W.drew (ExtX.refl _) rfl rfl;have hEd:Ext W W.drew:=(ExtX.refl W).drew;have hro1:=hro.out W.drew hXH hz0 hsl;unfold a9T at hro1;rw[hrl.out]at hro1;have hboW:=q1.lt;have hbuW:=q2.lt;obtain⟨nl,hnl⟩:∃nl,N.length=nl:=⟨_,rfl⟩;have hnl':=hid hnl;have hMl':Hid ((a0B z s++N).length=s.length+nl):=hid (by rw[List.length_append,hrl.out,hnl]);rw[hnl]at hNl hnc0 k2 hst hS |-;clear hs hzB hnz hne hr ih hT hNB hMs hMf hMc hMlen hNrow hSo hUB hUl hTr hsb hsl hN q1 q2 hro hz0 hnl hzl hNN hk3;go_enter Tryz.func257,Tryz.ntmps257
 go_wp2_with fail
 go_region_held3 (fun w'=>w'.cell? ⟨bo,0,none⟩=some (.slice oo n oc)/\w'.cell? ⟨bu,0,none⟩=some (.slice na nl nc0))
  (first|exact hS.out (ob ra) _ ((ExtX.of t1).trans hE2) hnb1 hnb2|exact hS.out noY _ t23 rfl rfl|exact hS.out noY _ t1 rfl rfl|go_keep)
  (first|(go_at_call 101;(with_reducible refine hro1.mono ?_);rintro ee w1 ⟨t1,ra,rc,rfl,hO1⟩;have hX1:HX H w1:=hXH.ext (hEd.trans t1);have hn1:Sl RV 1 (mk (un H ra) w1) na N:=hnS.old RV.mono (hEd.trans t1) (fun j hj=>hO1.ob_lt hj);have hnb1:ob ra bo=false:=hO1.ob_lt hboW;have hnb2:ob ra bu=false:=hO1.ob_lt hbuW;have hb1:W.drew.heap.size<=w1.heap.size:=t1.size)|(go_at_call 256;(with_reducible refine(hnull.out w2 (.slice ro2 (s.length+nl) rc2) hX2 hM2).mono ?_);rintro ee w3 ⟨t3,na3,nc3,rfl,hnc3,hs3⟩;have t23:Ext W.drew w3:=t2.trans t3)|(refine a9s (l:=a0B z s) rfl (by rfl) a0o rfl RV.elem hb1 hX1 N s.length nl hrl.out hnl'.out rfl rfl hO1 hn1 (by omega) (by omega) ?_;intro ro2 rc2 w2 hO2 hE2 hor2;have t2:Ext W.drew w2:=t1.own hO1 (Nat.le_refl _) hE2;have hX2:HX H w2:=hXH.ext (hEd.trans t2);have hM2:MV (mk H w2) (.slice ro2 (s.length+nl) rc2) (a0B z s++N):=⟨ro2,rc2,by rw[hMl'.out],hO2.lenCap,hO2.sl RV.elem⟩))
 have tW3:Ext W w3:=hEd.trans t23;clear t3;have t3:=tW3;have hst3:=hst.step t3;have hX3:=hXH.ext t3;have hB3:B0+6<=w3.heap.size:=Nat.le_trans hB0 t3.size;have hB0':=hB0;clear hS k1 k2 hro1 hnS hst hXH hB0 hboW hbuW hnb1 hnb2 hO2 hE2 hor2 t2 hX2 hM2 hO1 hX1 hn1 hb1 t1 hEd t23;have hsub:∀k,a3g bc bs k=true->H k=true:=fun k hk=>by rw[<-hH];simp[b0b,hk]
 have hkeep:=hid (fun(wr:World) (h:ExtX (a3g bc bs) w3 wr)=>(a6p ((ExtX.of t3).trans h) (fun k hk=>by
  have:=hl.hi3;have:=hl.hi5;simp only[a3g,Bool.or_eq_true,beq_iff_eq]at hk;simp[a6Y];omega) hB0':b2o B0 W wr))
 have hH':=hid hH;have hl':=hid hl;clear hH hl;by_cases hk1:k3=1
 rotate_left 1
 ·have d1:((k3:Int) !=1)=true:=a5C (by omega)
  obtain⟨h1,h2,h3,h4⟩:=hSo'.out;have hTq:Hid (b6o X w0 bo bu bc bd bs B0 c oo n oc (.slice na nl nc0) z N (done++[s]) w3/\b2o B0 W w3):=hid ⟨⟨cnt,dv,us,hst3,h1,h2,h3,fun t ht=>by
   rcases List.mem_append.1 ht with h|h
   ·exact h4 t h
   ·rw[List.mem_singleton.1 h];exact hno.out (by rw[hk3'.out];exact hk1) cnt⟩,hkeep.out w3 (ExtX.refl _)⟩
  clear h1 h2 h3 h4 hst3 hs3;go_wp2_with fail
  refine bodyPost_ret (results_none rfl _ _ _) rfl ?_;exact⟨rfl,hTq.out⟩
 subst hk1;have h0N:0<NN.length:=by rw[hk3'.out];decide
 obtain⟨hLl,hLz,hLo,hLB,hfinT⟩:=hyes.out hk3'.out (NN[0]'h0N) (List.getElem?_eq_getElem _);have hrow:=hid (fun(wr:World) (h:ExtX (a3g bc bs) w3 wr)=>(hs3.mono RC.mono (a0u h hsub)).row 0 h0N);have hhn:Hd na3 1:=by have:=hs3.hd;rw[hk3'.out]at this;exact this
 obtain⟨L,hL⟩:∃L,NN[0]'h0N=L:=⟨_,rfl⟩;rw[hL]at hLl hLz hLo hLB hfinT hrow;have hLl':=hid hLl;have hLz':=hid hLz;have hLo':=hid hLo;have hfinT':=hid hfinT;have hLC:Hid (BR 9999999999 L):=hid fun q hq=>Nat.le_trans (hLB q hq) (by omega);have hlit:=(b4l H w3 [1,-1] 3 #[.int .i64 1, .int .i64 (-1)] rfl hX3 (by simp)).sl (a0x.elem _);have hEa:Ext w3 (w3.alloc (.cells #[.int .i64 1, .int .i64 (-1)] 3)):=(ExtX.refl _).alloc _;obtain⟨w4,hw4⟩:∃w4,w3.alloc (.cells #[.int .i64 1, .int .i64 (-1)] 3)=w4:=⟨_,rfl⟩;obtain⟨g4,hg4⟩:∃g4:Option Addr,some ⟨w3.heap.size,0,none⟩=g4:=⟨_,rfl⟩;obtain⟨LL,hLL⟩:∃LL:List Int,[1,-1]=LL:=⟨_,rfl⟩;have hLLl:Hid (LL.length=2):=hid (by rw[<-hLL];rfl);have hLLv:Hid (∀q (hq:q<LL.length),(q=0/\LL[q]=1)\/(q=1/\LL[q]= -1)):=hid fun q hq=>by
  subst hLL
  match q,hq with
  |0,_=>exact .inl ⟨rfl,rfl⟩
  |1,_=>exact .inr ⟨rfl,rfl⟩
 rw[hw4]at hEa hlit;rw[hg4,hLL]at hlit;have hhL:=hlit.hd;rw[hLLl.out]at hhL;have hst4:=hst3.step hEa;have hX4:=hX3.ext hEa;have hw34:=hid hEa;obtain⟨hS1,hS2,hS3,hS4⟩:=hSo'.out;have hstart:=hid (⟨hS1,hS2,hS3,fun h=>absurd h (Nat.lt_irrefl _),fun h=>by omega,hS4⟩:a3J c z cnt us/\BM uB us/\(∀r∈us,r.length=c)/\(0<0->Bd c z cnt (vec (sgL 1 L)))/\(1<0->Bd c z cnt (vec (sgL (-1) L)))/\∀t∈done,a2c c (a0t z) (a0t N) cnt (t.map Int.toNat));clear hLl hLz hLo hLB hfinT hLL hs3 hL hst3 hS1 hS2 hS3 hS4 hEa hyes hno hSo';go_wp2_with fail
 go_loopw [35] (fun cx wr=>∃(q cnt:Nat) (dv:Value) (us:List (List Rat)),cx= .int .i64 q/\q<=2/\cnt<=n+1/\BSt X w0 bo bu bc bd bs B0 c oo n oc (.slice na nl nc0) z N cnt dv us wr/\Hid (a3J c z cnt us/\BM uB us/\(∀r∈us,r.length=c)/\(0<q->Bd c z cnt (vec (sgL 1 L)))/\(1<q->Bd c z cnt (vec (sgL (-1) L)))/\∀t∈done,a2c c (a0t z) (a0t N) cnt (t.map Int.toNat))/\ExtX (a3g bc bs) w4 wr) (fun cx _=>2 - (intOf cx).toNat)
 case atStart=>exact⟨0,cnt,dv,us,rfl,Nat.zero_le _,hcl,hst4,hstart,ExtX.refl _⟩
 case round=>
  clear hstart hst4 hcl;clear cnt dv us;obtain⟨q,cnt,dv,us,rfl,hq,hcl,hst,hf,hE⟩:=hrel;have hE3:ExtX (a3g bc bs) w3 wr:=(ExtX.of hw34.out).trans hE;have hXr:HX H wr:=hX4.ext hE;by_cases hlt:q<2
  ·have hqL:q<LL.length:=by rw[hLLl.out];exact hlt
   have k00:=(hlit.mono (a0x.mono _) (a0u hE hsub)).int q hqL;have hsv:=hLLv.out q hqL;obtain⟨sg,hsg⟩:∃sg,LL[q]=sg:=⟨_,rfl⟩;rw[hsg]at k00 hsv;have hsg1:sg=1\/sg= -1:=by omega
   have hsgi: -9223372036854775808<=sg/\sg<=9223372036854775807:=by omega
   obtain⟨a1,c1,hX1,hc1,hcl1,hq1⟩:=hrow.out wr hE3;have k01:=hc1.out noY wr (ExtX.refl _) rfl;rw[hLl'.out]at k01 hcl1;have hh1:Hd a1 c:=by have:=hq1.hd;rw[hLl'.out]at this;exact this
   obtain⟨U,hU⟩:∃U,sgL sg L=U:=⟨_,rfl⟩;have hUl:Hid (U.length=c):=hid (by rw[<-hU,b8A];exact hLl'.out);have hUi:Hid (∀j (hj:j<L.length) (h:j<U.length),U[j]=(sg:Rat)*L[j]):=hid fun j hj h=>by subst hU;exact b8M hj h
   have hUz:Hid (nz c (vec U)):=hid (by rw[<-hU];exact b7n hsg1 hLz'.out);have hUo:Hid (Ort c (a0t N) (vec U)):=hid (by rw[<-hU];exact b8B hLo'.out);have hUB:Hid (BR uB U):=hid (by rw[<-hU];exact c0g hsg1 hLC.out);have hnext:Hid (∀(cnt':Nat) (us':List (List Rat)),cnt'<=cnt->a3J c z cnt' us'->BM uB us'->(∀r∈us',r.length=c)->Bd c z cnt' (vec U)->(a3J c z cnt' us'/\BM uB us'/\(∀r∈us',r.length=c)/\(0<q+1->Bd c z cnt' (vec (sgL 1 L)))/\(1<q+1->Bd c z cnt' (vec (sgL (-1) L)))/\∀t∈done,a2c c (a0t z) (a0t N) cnt' (t.map Int.toNat))):=hid fun cnt' us' h1 h2 h3 h4 h5=>by
    obtain⟨_,_,_,f4,f5,f6⟩:=hf.out;subst hU;refine⟨h2,h3,h4,fun _=>?_,fun hq1=>?_,fun t ht=>(f6 t ht).le h1⟩
    ·rcases hsv with⟨rfl,rfl⟩|⟨rfl,rfl⟩
     ·exact h5
     ·exact(f4 (by decide)).le h1
    ·rcases hsv with⟨rfl,rfl⟩|⟨rfl,rfl⟩
     ·omega
     ·exact h5
   have hUl2:U.length<=c:=by rw[hUl.out];exact Nat.le_refl _
   have hUl3:c<=U.length:=by rw[hUl.out];exact Nat.le_refl _
   have hsv':=hid hsv;clear hc1 hU hsg hsv;obtain⟨wo,hwo⟩:∃wo,wo=wr:=⟨_,rfl⟩;subst hwo;go_wp2_with (first|(with_reducible refine a0n a1G (by omega) (by assumption) ?_)|(with_reducible refine a0n a0o (by omega) (by assumption) ?_))
   go_loopw [11,43] (fun o cx wx=>∃(j:Nat) (uo:Option Addr) (uc:Nat),cx= .int .i64 j/\o= .slice uo j uc/\j<=c/\OL QC 3 H wo.heap.size 32 wx uo uc (U.take j)/\Ext wo wx) (fun _ cx _=>c - (intOf cx).toNat)
   case atStart=>exact⟨0,none,0,rfl,rfl,Nat.zero_le _,OL.nil _ _ _ _ _ _,ExtX.refl _⟩
   case round=>
    obtain⟨j,uo,uc,rfl,rfl,hj,hO,hEj⟩:=hrel;have hXj:HX H wr:=hXr.ext hEj;have hXu:HX (un H uo) wr:=hO.unX hXj;have hbj:=hEj.size;clear k00 k01;by_cases hlj:j<c
    ·have hjL:j<L.length:=by rw[hLl'.out];exact hlj
     have hjU:j<U.length:=by omega
     have htk:=hid (a0S U j hjU);have hln:=hid (a1e (l:=U) (i:=j) (by omega));have hUj:=hUi.out j hjL hjU;rw[hUj]at htk;have hq2:Sl QC 3 (mk (un H uo) wr) a1 L:=hq1.old QC.mono hEj (fun j hj=>hO.ob_lt hj);have hxB:=hLC.out L[j] (List.getElem_mem _);obtain⟨x,hx⟩:∃x,L[j]=x:=⟨_,rfl⟩;rw[hx]at htk hxB;have hx':=hid hx;have bx:=Bx.new wr #[.bool false, .slice none 0 0, .slice none 0 0] 32;have hsgq:Go.Lim.hq (sg:Rat)<=68719476736:=by rcases hsg1 with rfl|rfl<;>decide+kernel
     have hxq:Go.Lim.hq x<=68719476736:=by omega
     have hobn:ob uo wr.heap.size=false:=hO.ob_ge (Nat.le_refl _);clear hUj hx hxB;go_wp2_with (first|(with_reducible refine a1E a0J (by omega) (by assumption) ?_)|((with_reducible show wpList _ _ _ (⟨_, .load 32 _,_,_,_,_⟩::_) _ _);refine a0W a0w j hq2 hjL rfl (by simp) QC.agg ?_;intro u5 hu5;rw[hx'.out]at hu5;obtain⟨s5,a5,n5,c5,d5,m5,e5,rfl⟩:=hu5.shape)|((with_reducible show wpList _ _ _ (⟨_, .store 32 _ _,_,_,_,_⟩::_) _ _);refine a0c a0w rfl rfl bx rfl rfl (a2C _ _ _ _ _ _ _) ?_;intro w5 r1 r2;have hE5:Ext wr w5:=ExtX.box ((ExtX.refl wr).alloc _) r2 (Nat.le_refl _)))
     have hE5d:Ext wr w5.drew:=hE5.drew;have hX5:HX (un H uo) w5.drew:=hXu.ext hE5d;have x5:QV (mk (un H uo) w5.drew) (.agg #[.bool s5, .slice a5 n5 c5, .slice d5 m5 e5]) x:=(mkx QC.mono hu5 hE5d).qv hxq;have hS5:Hid (∀Y W',ExtX Y w5.drew W'->Y wr.heap.size=false->W'.cell? ⟨wr.heap.size,0,none⟩=some (.bool s5)/\W'.cell? ⟨wr.heap.size,1,none⟩=some (.slice a5 n5 c5)/\W'.cell? ⟨wr.heap.size,2,none⟩=some (.slice d5 m5 e5)):=hid fun Y W' h hy=>by
      have b1:=(r1.ext0 ((ExtX.refl (Y:=noY) w5).drew)).ext h hy;exact⟨b1.cell 0 rfl,b1.cell 1 rfl,b1.cell 2 rfl⟩
     obtain⟨m0,m1,m2⟩:=hS5.out noY w5.drew (ExtX.refl _) rfl;clear bx r1 r2 hu5;go_region_held3 (fun w'=>w'.cell? ⟨wr.heap.size,0,none⟩=some (.bool s5)/\w'.cell? ⟨wr.heap.size,1,none⟩=some (.slice a5 n5 c5)/\w'.cell? ⟨wr.heap.size,2,none⟩=some (.slice d5 m5 e5))
      (first|exact hS5.out (ob uo) _ ((ExtX.of t12).trans hE8) hobn|exact hS5.out noY _ (ExtX.alloc t12 _) rfl|exact hS5.out noY _ t12 rfl|exact hS5.out noY _ t1 rfl|go_keep)
      (first|(go_at_call 109;(with_reducible refine(b2e (un H uo) w5.drew sg hX5 hsgi.1 hsgi.2).mono ?_);rintro ee w6 ⟨t1,u6,rfl,hu6⟩;obtain⟨s6,a6,n6,c6,d6,m6,e6,rfl⟩:=hu6.shape;have hX6:HX (un H uo) w6:=hX5.ext t1;have hg6:QV (mk (un H uo) w6) (.agg #[.bool s6, .slice a6 n6 c6, .slice d6 m6 e6]) (sg:Rat):=hu6.qv hsgq;have hx6:QV (mk (un H uo) w6) (.agg #[.bool s5, .slice a5 n5 c5, .slice d5 m5 e5]) x:=mkx QV.mono x5 t1)|(go_at_call 169;(with_reducible refine(c0M (un H uo) w6 _ _ _ _ hX6 hg6 hx6).mono ?_);rintro ee w7 ⟨t2,u7,rfl,hu7⟩;obtain⟨s7,a7,n7,c7,d7,m7,e7,rfl⟩:=hu7.shape;have t12:Ext w5.drew w7:=t1.trans t2;have hO7:=hO.ext0 QC.elem (hE5d.trans t12);have hX7:HX H w7:=hXj.ext (hE5d.trans t12);have hb7:wo.heap.size<=w7.heap.size:=Nat.le_trans hbj (hE5d.trans t12).size)|(refine a1J (l:=U.take j) rfl (by rfl) a0J rfl QC.elem hb7 hX7 j hln.out rfl rfl hO7 (.agg #[.bool s7, .slice a7 n7 c7, .slice d7 m7 e7]) ((sg:Rat)*x) rfl hu7 (by omega) (by omega) ?_;intro uo2 uc2 w8 hO8 hE8 hor8))
     have hE9:=(hEj.trans (hE5d.trans t12)).own hO7 (Nat.le_refl _) hE8;rw[htk.out]at hO8;clear m0 m1 m2;go_wp2_with fail
     go_roundw
     case rel=>exact⟨j+1,uo2,uc2,by go_num,by go_num,by omega,hO8,hE9⟩
     case measure=>simp[intOf];omega
    ·have hjc:c=j:=by omega
     subst hjc;rw[List.take_of_length_le (by omega)]at hO;have huc:=hO.lenCap;have hURV:RV (mk H wr) (.slice uo c uc) U:=⟨uo,uc,by rw[hUl.out],huc,(hO.sl QC.elem).qv fun q hq=>Nat.le_trans (hUB.out q hq) (by decide)⟩;have hsty:=hst.step hEj;have hEw:ExtX (a3g bc bs) w4 wr:=hE.then_ hEj (fun _ _ _=>rfl);have hXy:=hXj;clear hst hO hXu hbj hlj hj huc hq1 hrow hhn hEj hXr hXj;obtain⟨wy,hwy⟩:∃wy,wy=wr:=⟨_,rfl⟩;subst hwy;have k1:=hsty.b1.cell 0 rfl;have hzy:=hsty.r1;rw[hH'.out]at hzy;obtain⟨zo,zc,hze,hzc,hzs⟩:=hzy;obtain⟨rfl,-,rfl⟩:oo=zo/\n=z.length/\oc=zc:=by simpa using hze
     clear hze;have hhz:Hd oo n:=by have:=hzs.hd;rw[hzl'.out]at this;exact this
     go_wp2_with fail
     go_loopw [14,15,57] (fun nn o cx wx=>∃(i:Nat) (fo:Option Addr) (fc:Nat) (F:List (List Rat)) (P:Nat),cx= .int .i64 i/\i<=n/\nn= .int .i64 (P:Int)/\P<=i/\o= .slice fo F.length fc/\F.length<=i/\Hid (P=a2P c U (z.take i)/\F=onM c U (z.take i))/\OL RV 1 H wy.heap.size 45 wx fo fc F/\Ext wy wx) (fun _ _ cx _=>n - (intOf cx).toNat)
     case atStart=>exact⟨0,none,0,[],0,rfl,Nat.zero_le _,rfl,Nat.zero_le _,rfl,Nat.zero_le _,hid ⟨rfl,rfl⟩,OL.nil _ _ _ _ _ _,ExtX.refl _⟩
     case round=>
      obtain⟨i,fo,fc,F,P,rfl,hi,rfl,hPi,rfl,hFl,hFe,hO,hEi⟩:=hrel;have hXi:HX H wr:=hXy.ext hEi;have hbi:=hEi.size;clear k1;by_cases hli:i<n
      ·have hiZ:i<z.length:=by rw[hzl'.out];exact hli
       have hzr:Sl RV 1 (mk (un H fo) wr) oo z:=hzs.old RV.mono hEi (fun j hj=>hO.ob_lt hj);obtain⟨a2,c2,hX2,hc2,hcl2,hq2⟩:=hzr.row i hiZ;have k00:=hc2.out noY wr (ExtX.refl _) rfl;have hvl:=hsh'.out.2 z[i] (List.getElem_mem _);have hvB:=hzB'.out z[i] (List.getElem_mem _);have hos:=hid (b1p c U hiZ);have hps:=hid (a6V c U hiZ);have hdv:=hid (a9S (u:=U) (z:=z[i]) hUl.out);have hdb:=a4S (l:=U) (m:=z[i]) hUB.out hvB (by decide) hB1 (by
        rw[hUl.out];have e:uB=10000000000:=rfl;have:c*(uB+B+1)<=3*(uB+B+1):=Nat.mul_le_mul_right _ hc3;omega)
       have hvU:RV (mk (un H fo) wr) (.slice a2 z[i].length c2) z[i]:=⟨a2,c2,rfl,hcl2,hq2⟩;have hvX:RV (mk H wr) (.slice a2 z[i].length c2) z[i]:=RV.mono _ _ _ _ (a1U (X:=H) fun k _ hk=>a0v hk) hvU;have hdot:=b6i H wr (.slice uo c uc) (.slice a2 z[i].length c2) U z[i] hXi (mkx RV.mono hURV hEi) hvX (by rw[hUl.out];omega) (by rw[hUl.out];exact hvl) hdb.1 hdb.2;have hdq:Hid (Go.Lim.hq (b0X U z[i])<=68719476736):=hid (hdb.1 _ (Nat.le_refl _));rw[<-hdv.out]at hos hps;rw[hvl]at k00 hdot hvU;obtain⟨D,hD⟩:∃D,b0X U z[i]=D:=⟨_,rfl⟩;obtain⟨v,hv⟩:∃v,z[i]=v:=⟨_,rfl⟩;rw[hD]at hos hps hdot hdq;rw[hv]at hos hvU;clear hc2 hvl hvB hdb hD hdv hcl2 hq2 hv hvX hzr;rcases a1y D with⟨hs,hsg⟩|⟨hs,hsg⟩|⟨hs,hsg⟩
       ·have hF2:Hid (P+1=a2P c U (z.take (i+1))/\F=onM c U (z.take (i+1))):=hid ⟨by rw[hps.out,if_pos hs,<-hFe.out.1],by rw[hos.out,if_neg (by grind),<-hFe.out.2,List.append_nil]⟩
        have hsg':=hid hsg;clear hs hsg hos hps;go_wp2_with (with_reducible refine a0n a0o (by omega) (by assumption) ?_)
        refine hdot.mono ?_;rintro e w7 ⟨hE7,u7,rfl,hu7⟩;go_wp2_with fail
        refine(a5P H w7 u7 D (hXi.ext hE7) (hu7.qv hdq.out)).mono ?_;rintro e w8 ⟨hE8,rfl⟩;rw[hsg'.out];have hE78:=hE7.trans hE8;have hO8:=hO.ext0 RV.elem hE78;have hE10:=hEi.trans hE78;clear k00 hdot;go_wp2_with fail
        go_roundw
        case rel=>exact⟨i+1,fo,fc,F,P+1,by go_num,by omega,by go_num,by omega,rfl,by omega,hF2,hO8,hE10⟩
        case measure=>simp[intOf];omega
       ·have hF2:Hid (P=a2P c U (z.take (i+1))/\F++[v]=onM c U (z.take (i+1))):=hid ⟨by rw[hps.out,if_neg (by grind),<-hFe.out.1];rfl,by rw[hos.out,if_pos hs,<-hFe.out.2]⟩
        have hsg':=hid hsg;clear hs hsg hos hps;go_wp2_with (with_reducible refine a0n a0o (by omega) (by assumption) ?_)
        refine hdot.mono ?_;rintro e w7 ⟨hE7,u7,rfl,hu7⟩;go_wp2_with fail
        refine(a5P H w7 u7 D (hXi.ext hE7) (hu7.qv hdq.out)).mono ?_;rintro e w8 ⟨hE8,rfl⟩;rw[hsg'.out];have hE78:=hE7.trans hE8;have hO8:=hO.ext0 RV.elem hE78;have hX8:=hXi.ext hE78;have hv8:=mkx RV.mono hvU hE78;have hb8:=(hEi.trans hE78).size;clear k00 hdot;go_wp2_with (at_builtin;refine a0r (l:=F) a0o rfl RV.elem hb8 hX8 F.length rfl rfl rfl hO8 (.slice a2 c c2) v rfl hv8 (by omega) (by omega) ?_;intro oo2 co2 w9 hO9 hE9 hor)
        have hE10:=(hEi.trans hE78).own hO8 (Nat.le_refl _) hE9;have hl9:(F++[v]).length=F.length+1:=by simp
        go_roundw
        case rel=>exact⟨i+1,oo2,co2,F++[v],P,by go_num,by omega,rfl,by omega,by rw[hl9],by omega,hF2,hO9,hE10⟩
        case measure=>simp[intOf];omega
       ·have hF2:Hid (P=a2P c U (z.take (i+1))/\F=onM c U (z.take (i+1))):=hid ⟨by rw[hps.out,if_neg (by grind),<-hFe.out.1];rfl,by rw[hos.out,if_neg (by grind),<-hFe.out.2,List.append_nil]⟩
        have hsg':=hid hsg;clear hs hsg hos hps;go_wp2_with (with_reducible refine a0n a0o (by omega) (by assumption) ?_)
        refine hdot.mono ?_;rintro e w7 ⟨hE7,u7,rfl,hu7⟩;go_wp2_with fail
        refine(a5P H w7 u7 D (hXi.ext hE7) (hu7.qv hdq.out)).mono ?_;rintro e w8 ⟨hE8,rfl⟩;rw[hsg'.out];have hE78:=hE7.trans hE8;have hO8:=hO.ext0 RV.elem hE78;have hE10:=hEi.trans hE78;clear k00 hdot;go_wp2_with fail
        go_roundw
        case rel=>exact⟨i+1,fo,fc,F,P,by go_num,by omega,rfl,by omega,rfl,by omega,hF2,hO8,hE10⟩
        case measure=>simp[intOf];omega
      ·have hin:i=n:=by omega
       have hFP:P=a2P c U z/\F=onM c U z:=by
        obtain⟨h1,h2⟩:=hFe.out;rw[List.take_of_length_le (by rw[hzl'.out,hin];exact Nat.le_refl _)]at h1 h2;exact⟨h1,h2⟩
       have hFP':=hid hFP;have hstz:=hsty.step hEi;have hEz:ExtX (a3g bc bs) w4 wr:=hEw.then_ hEi (fun _ _ _=>rfl);have k3:=hstz.b3.cell 0 rfl;obtain⟨f1,f2,f3,_⟩:=hf.out;have hkeepN:=hid (fun(U0:Bd c z cnt (vec U))=>hnext.out cnt us (Nat.le_refl _) f1 f2 f3 U0);clear hFe hFP hsty hzs hhz hli hi f1 f2 f3;by_cases hPc:cnt<=P
       ·have hN2:=hid (hkeepN.out (a8u (by rw[<-hFP'.out.1];exact hPc)))
        go_wp2_with fail
        go_roundw
        case rel=>exact⟨q+1,cnt,dv,us,by go_num,by omega,hcl,hstz,hN2,hEz⟩
        case measure=>simp[intOf];omega
       ·have hLit:=a8w H wr uo c uc U 45 hXi (mkx RV.mono hURV hEi)
        have hEt:Ext wr (wr.alloc (.cells #[.slice uo c uc] 45)):=(ExtX.refl _).alloc _;have hFs:=(hO.sl RV.elem).old (oo:=some ⟨wr.heap.size,0,none⟩) RV.mono hEt (b4n wr);have hFc:=hO.lenCap;obtain⟨g,hg⟩:∃g:Option Addr,some ⟨wr.heap.size,0,none⟩=g:=⟨_,rfl⟩;obtain⟨wt,hwt⟩:∃wt,wr.alloc (.cells #[.slice uo c uc] 45)=wt:=⟨_,rfl⟩;rw[hg,hwt]at hLit hFs;rw[hwt]at hEt;have hstT:=hstz.step hEt;have hXt:HX H wt:=hXi.ext hEt;have hXg:HX (un H g) wt:=hLit.unX hXt;have hFr:∀r∈F,r.length=c/\BR B r:=fun r hr=>by
         rw[hFP'.out.2]at hr;have:=a9W _ _ _ r hr;exact⟨hsh'.out.2 r this,hzB'.out r this⟩
        obtain⟨fl,hfl⟩:∃fl,F.length=fl:=⟨_,rfl⟩;have hfl':=hid hfl;have hUr:∀r∈[U],r.length=c:=fun r hr=>by rw[List.mem_singleton.1 hr];exact hUl.out
        have hUBM:BM uB [U]:=fun r hr=>by rw[List.mem_singleton.1 hr];exact hUB.out
        rw[hfl]at hFc hFl |-;clear hO hfl;have k3t:=hstT.b3.cell 0 rfl;by_cases h0:0<fl
        rotate_left 1
        ·have hF0:onM c U z= []:=by rw[<-hFP'.out.2];exact List.eq_nil_of_length_eq_zero (by rw[hfl'.out];omega)
         obtain⟨p1,p2,hst9,hE9⟩:=hstT.put hl'.out P (.slice g 1 1) [U] (by rw[hH'.out];exact⟨g,1,rfl,Nat.le_refl _,hLit.sl RV.elem⟩);have hwit:=(b6W hUz.out hF0).1;rw[<-hFP'.out.1]at hwit;have hN2:=hid (hnext.out P [U] (by omega) (.inr hwit) hUBM hUr (a8u (by rw[<-hFP'.out.1];exact Nat.le_refl _)));have q1:=hstT.b3.frozen 0;have hE10:=(hEz.then_ hEt (fun _ _ _=>rfl)).trans hE9;clear hstz hstT hLit hF0 hFs hwit hUr hUBM;go_wp2_with (first|((with_reducible show wpList _ _ _ (⟨_, .store 3 _ _,_,_,_,_⟩::_) _ _);refine a1r a3R rfl rfl rfl rfl k3t q1 ?_)|((with_reducible show wpList _ _ _ (⟨_, .store 25 _ _,_,_,_,_⟩::_) _ _);refine a1r a4U rfl rfl rfl rfl p1 p2 ?_))
         go_roundw
         case rel=>exact⟨q+1,P, .slice g 1 1,[U],by go_num,by omega,by omega,hst9,hN2,hE10⟩
         case measure=>simp[intOf];omega
        ·have hrec:=ih'.out fl (by rw[<-hfl'.out,hFP'.out.2];exact hless.out U hUz.out hUo.out) (un H g) wt (.slice fo fl fc) F c B hXg ⟨fo,fc,by rw[hfl'.out],by rw[hfl'.out];exact hFc,hFs⟩ ⟨hfl'.out,fun r hr=>(hFr r hr).1⟩ (by omega) (by omega) hc3 (fun r hr=>(hFr r hr).2) hB1 hB
         have k4:=hstT.b4.cell 0 rfl;have hFne:onM c U z≠[]:=fun h=>by rw[<-hFP'.out.2]at h;rw[<-hfl'.out,h]at h0;exact absurd h0 (by decide)
         have hFsh:Shp fl c F:=⟨hfl'.out,fun r hr=>(hFr r hr).1⟩;go_wp2_with fail
         refine hrec.mono ?_;rintro e w9 ⟨hE9,l,dv2,us2,rfl,⟨ao2,ca2,rfl,hca2,hs2⟩,hB2,hl2,hd2,hw2⟩;have hll:=hd2.le;have hsho:=Wit.short hFsh (by omega) hw2;have e9:(a0t F).length=fl:=by rw[<-hfl'.out];simp[a0t]
         rw[e9]at hll;rw[hFP'.out.2]at hd2 hw2;have hwit:=hmore.out U l us2 hUz.out hUo.out hFne hw2 hd2;rw[<-hFP'.out.1]at hwit;have hbd:=hid (fun n' (h:n'<=P+l)=>b8N hd2 (n:=n') (by rw[<-hFP'.out.1];exact h));obtain⟨ul,hul⟩:∃ul,us2.length=ul:=⟨_,rfl⟩;have hul':=hid hul;rw[hul]at hca2 hsho |-;have hLit9:=hLit.ext0 RV.elem hE9;have hX9:HX H w9:=hXt.ext hE9;have hb9:=(hEt.trans hE9).size;have hwr:IntKind.i64.wrap ((P:Int)+(l:Int))=((P+l:Nat):Int):=by rw[IntWalk.i64_in _ (by omega)];omega
         have hst9:=hstT.step hE9;have hE4:ExtX (a3g bc bs) w4 w9:=hEz.then_ (hEt.trans hE9) (fun _ _ _=>rfl);have hUr2:∀r∈U::us2,r.length=c:=fun r hr=>by
          rcases List.mem_cons.1 hr with rfl|hr
          ·exact hUl.out
          ·exact hl2 r hr
         have hUB2:BM uB (U::us2):=fun r hr=>by
          rcases List.mem_cons.1 hr with rfl|hr
          ·exact hUB.out
          ·exact hB2 r hr
         have hFPn:=hid (fun(h:P+l<cnt)=>hnext.out (P+l) (U::us2) (by omega) (.inr hwit) hUB2 hUr2 (hbd.out _ (Nat.le_refl _)));have hFPk:=hid (fun(h:cnt<=P+l)=>hkeepN.out (hbd.out cnt h));clear hrec hd2 hw2 hwit hUr2 hUB2 hB2 hl2 hul hstT hLit hFs k3 k3t k4 hUr hUBM hFr hFsh hFne e9;by_cases hPl:P+l<cnt
         ·have hN2:=hid (hFPn.out hPl)
          have hPl':(P:Int)+(l:Int)<(cnt:Int):=by omega
          go_wp2_with (first|(at_builtin;refine a2m (l:=[U]) a0o rfl RV.elem hb9 hX9 us2 rfl (by rw[hul'.out];rfl) hLit9 hs2 (by rw[hul'.out,List.length_singleton];omega) (by rw[hul'.out,List.length_singleton];omega) ?_;intro g2 gc2 w10 hO10 hE10 hor10;have hEA:Ext wr w10:=(hEt.trans hE9).own hLit9 (Nat.le_refl _) hE10;have hst10:=hstz.step hEA;have k5:=hst10.b3.cell 0 rfl;have q1:=hst10.b3.frozen 0;obtain⟨p1,p2,hst11,hE11⟩:=hst10.put hl'.out (P+l) (.slice g2 (us2.length+1) gc2) (U::us2) (by rw[hH'.out];exact⟨g2,gc2,rfl,by have:=hO10.lenCap;simpa using this,hO10.sl RV.elem⟩);clear hO10)|((with_reducible show wpList _ _ _ (⟨_, .store 3 _ _,_,_,_,_⟩::_) _ _);refine a1r a3R rfl rfl rfl rfl k5 q1 ?_)|((with_reducible show wpList _ _ _ (⟨_, .store 25 _ _,_,_,_,_⟩::_) _ _);refine a1r a4U rfl rfl rfl rfl p1 p2 ?_))
          have hEB:=(hEz.then_ hEA (fun _ _ _=>rfl)).trans hE11;go_roundw
          case rel=>exact⟨q+1,P+l,_,U::us2,by go_num,by omega,by omega,hst11,hN2,hEB⟩
          case measure=>simp[intOf];omega
         ·have hN2:=hid (hFPk.out (by omega))
          have hPl':¬(P:Int)+(l:Int)<(cnt:Int):=by omega
          go_wp2_with (at_builtin;refine a2m (l:=[U]) a0o rfl RV.elem hb9 hX9 us2 rfl (by rw[hul'.out];rfl) hLit9 hs2 (by rw[hul'.out,List.length_singleton];omega) (by rw[hul'.out,List.length_singleton];omega) ?_;intro g2 gc2 w10 hO10 hE10 hor10;have hEA:Ext wr w10:=(hEt.trans hE9).own hLit9 (Nat.le_refl _) hE10;have hst10:=hstz.step hEA;have k5:=hst10.b3.cell 0 rfl;clear hO10)
          have hEB:=hEz.then_ hEA (fun _ _ _=>rfl);go_roundw
          case rel=>exact⟨q+1,cnt,dv,us,by go_num,by omega,hcl,hst10,hN2,hEB⟩
          case measure=>simp[intOf];omega
  ·have hq2:q=2:=by omega
   subst hq2;obtain⟨f1,f2,f3,f4,f5,f6⟩:=hf.out;have hTq:Hid (b6o X w0 bo bu bc bd bs B0 c oo n oc (.slice na nl nc0) z N (done++[s]) wr/\b2o B0 W wr):=hid ⟨⟨cnt,dv,us,hst,f1,f2,f3,fun t ht=>by
    rcases List.mem_append.1 ht with h|h
    ·exact f6 t h
    ·rw[List.mem_singleton.1 h];exact hfinT'.out cnt (f4 (by decide)) (f5 (by decide))⟩,hkeep.out wr hE3⟩
   clear f1 f2 f3 f4 f5 f6 hst;go_wp2_with fail
   go_end0
   exact⟨rfl,hTq.out⟩
theorem b8P (X:Nat->Bool) (w:World) (u:Value) (m:List (List Rat)) (hX:HX X w) (hu:MV (mk X w) u m) (hf:a1h m=true) (hT:b3i m (a0l m)):Calls Tryz.prog 202 #[u] w (fun e w'=>Ext w w'/\e= .returned (.tuple #[.int .i64 (b8p m (a0l m):Int), .int .i64 0])):=by
 obtain⟨hsh,h96,hc96,_,_⟩:=a1W hf;have hfo:=a4r X w u m hu (by omega);rw[hf]at hfo;have hco:=a4s X w u m m.length (a0l m) hX hu hsh rfl (by omega) (by omega);have hrv:Hid ((eN m (a0l m)).2.1.length=b8p m (a0l m)):=hid rfl;clear hf;go_enter Tryz.func202,Tryz.ntmps202
 go_wp2_with fail
 refine hfo.mono ?_;rintro e w1 ⟨rfl,rfl⟩;go_wp2_with fail
 refine hco.mono ?_;rintro e w2 ⟨hE2,ao,cap,hs,rfl,hM2⟩;go_wp2_with fail
 refine(a4T X _ w2 ao cap m.length (a0l m) hs m (hX.ext hE2) hM2 hsh rfl (by omega) (by omega) hT).mono ?_;rintro e w3 ⟨hE3,po,pc,hs',rfl,hmb,hM3,hP3⟩;have hEf:=hM2.ext_from hE2 (Nat.le_refl _) hE3;rw[hrv.out];go_wp2_with fail
 go_ret2
 exact⟨hEf,rfl⟩
set_option maxRecDepth 100000 in
set_option maxHeartbeats 1600000 in
theorem c0o (X:Nat->Bool) (w:World) (u:Value) (m:List (List Rat)) (n:Nat) (hX:HX X w) (hu:MV (mk X w) u m) (hf:a1h m=true) (hn:m.length=n) (hc:a0l m=n) (hn6:n<=6) (hT:b3i m n):Calls Tryz.prog 154 #[u] w (fun e w'=>Ext w w'/\∃u,e= .returned (.tuple #[u, .int .i64 0])/\QC (mk X w') u (b2y m n)):=by
 obtain⟨hsh,h96,hc96,_,_⟩:=a1W hf;rw[hn,hc]at hsh;obtain⟨W,hW,hEW,b0,hz⟩:=a1I w #[.bool false, .slice none 0 0, .slice none 0 0] 32;have hXW:HX (a0e X w.heap.size 1) W:=hX.boxes hz;have huW:=MV.mono _ _ _ _ (a0q (nb:=1) hEW) hu;have hfo:=a4r _ W u m huW (by omega);rw[hf]at hfo;have hcol:=a2M _ W u m huW;rw[hc]at hcol;have hco:=a4s _ W u m n n hXW huW hsh hc (by omega) (by omega);have hec:=fun w' ao cap hs (h:HX (a0e X w.heap.size 1) w') hM=>a4T (a0e X w.heap.size 1) W.heap.size w' ao cap n n hs m h hM hsh hc (by omega) (by omega) hT;have hok:=a4z hsh n;obtain⟨B,hB7,hBj⟩:=hT;have hBn:=hBj n (Nat.le_refl _);have hdv:Hid (b2y m n=if(eN m n).2.2 then - pr n (fun i=>ent (eN m n).1 i i)else pr n (fun i=>ent (eN m n).1 i i)):=hid rfl;obtain⟨⟨E,p,od⟩,hS⟩:∃S,eN m n=S:=⟨_,rfl⟩;rw[hS]at hec hok hBn hdv;have hEs:Shp n n E:=hok.shp;have hEs':=hid hEs;have hpq:=hid (fun k (hk:k<=n)=>show hq (pr k (fun i=>ent E i i))<=68719476736 from by
  have h1:=b9Y (f:=fun i=>ent E i i) (fun i=>hBn i i) k;have h2:k*B<=6*B:=Nat.mul_le_mul_right _ (by omega);omega)
 have heq:=hid (fun i=>show hq (ent E i i)<=68719476736 from by have h9:hq (ent E i i)<=B:=hBn i i;omega);have hnn:=hid hn;have hW2:=hid hW;obtain⟨b,hb⟩:∃b,w.heap.size=b:=⟨_,rfl⟩;have hbw:w.heap.size<=b:=by omega
 rw[hb]at b0 hz hXW huW hco hec;obtain⟨ua,uca,rfl,huca,hua⟩:=hu;rw[hn]at hfo hcol hco huW |-;clear hf hc hsh hBj hok hB7 hS hua huca h96 hc96 hBn;go_enter Tryz.func154,Tryz.ntmps154
 go_wp2_with fail
 refine hfo.mono ?_;rintro e w1 ⟨rfl,rfl⟩;go_wp2_with fail
 refine hcol.mono ?_;rintro e w2 ⟨rfl,rfl⟩;clear hW;go_wp2_with fail
 refine hco.mono ?_;rintro e w3 ⟨hE3,ao,cap,hs,rfl,hM3⟩;rw[hnn.out];have hX3:=hXW.ext hE3;go_wp2_with fail
 refine(hec w3 ao cap hs hX3 hM3).mono ?_;rintro e w4 ⟨hE4,po,pc,hs',rfl,hmb,hM4,hP4⟩;have hE04:=hM3.ext_from hE3 (Nat.le_refl _) hE4;have hX4:=hXW.ext hE04;have hmc4:=MC.mono _ _ _ _ (a1U (X:=a0e X b 1) fun k _ hk=>a0v hk) hM4.mc
 dsimp only at hmc4
 rw[hEs.1]at hmc4;obtain⟨a4,c4,heq4,hcl4,hs4⟩:=hmc4;simp only[Value.slice.injEq]at heq4;obtain⟨rfl,hx9,rfl⟩:=heq4;clear hx9;have hhO:Hd ao n:=by have:=hs4.hd;rw[hEs.1]at this;exact this
 have b04:=b0.ext0 hE04;clear hfo hcol hco hec hM3 hM4 hP4 hmb
 dsimp only
 go_wp2_with fail
 refine(b2e (a0e X b 1) w4 1 hX4 (by omega) (by omega)).mono ?_;rintro e w5 ⟨hE5,u5,rfl,hu5⟩;obtain⟨s5,a5,n5,c5,d5,k5,e5,rfl⟩:=hu5.shape;have bx:=Bx.new w5 #[.bool false, .slice none 0 0, .slice none 0 0] 32;obtain⟨bo,hbo⟩:∃bo,w5.heap.size=bo:=⟨_,rfl⟩;rw[hbo]at bx;have h1r:((1:Int):Rat)=1:=by decide+kernel
 rw[h1r]at hu5;clear h1r;have hX5:=hX4.ext hE5;have hbnew:∀j,j<w5.heap.size->ob (some ⟨bo,0,none⟩) j=false:=fun j hj=>a0b (by omega);go_wp2_with ((with_reducible show wpList _ _ _ (⟨_, .store _ _ _,_,_,_,_⟩::_) _ _);refine a0c a0w rfl rfl bx rfl rfl (a2C _ _ _ _ _ _ _) ?_;intro w6 r1 r2)
 have hE6:Ext w5 w6:=ExtX.box ((ExtX.refl w5).alloc _) r2 (by omega);have hu6:=a7B (oo:=some ⟨bo,0,none⟩) QC.mono hu5 hE6 hbnew;have hs6:=(hs4.mono RC.mono (a0m hE5)).old (oo:=some ⟨bo,0,none⟩) RC.mono hE6 hbnew;have b06:=(b04.ext0 hE5).ext0 hE6;have hsz6:=r1.lt;have hX6:HX (un (a0e X b 1) (some ⟨bo,0,none⟩)) w6:=fun k hk=>by
  by_cases hx:a0e X b 1 k=true
  ·exact hX5.ext hE6 k hx
  ·have:bo=k:=by simpa[un,hx,ob]using hk
   omega
 have hE06:=hE04.trans (hE5.trans hE6);have hbob:b<bo:=by have:=b04.lt;have:=hE5.size;omega
 have hWbo:w2.heap.size<=bo:=by have:=hE04.size;have:=hE5.size;omega
 clear bx;go_loopw [31] (fun k wr=>∃(i:Nat) (s:Bool) (a:Option Addr) (n' c':Nat) (d:Option Addr) (kk e:Nat),k= .int .i64 i/\i<=n/\Bx wr b #[.bool false, .slice none 0 0, .slice none 0 0] 32/\Bx wr bo #[.bool s, .slice a n' c', .slice d kk e] 32/\QC (mk (un (a0e X b 1) (some ⟨bo,0,none⟩)) wr) (.agg #[.bool s, .slice a n' c', .slice d kk e]) (pr i fun i=>ent E i i)/\Sl RC 1 (mk (un (a0e X b 1) (some ⟨bo,0,none⟩)) wr) ao E/\HX (un (a0e X b 1) (some ⟨bo,0,none⟩)) wr/\Ext w2 wr) (fun k _=>n - (intOf k).toNat)
 case atStart=>exact⟨0,_,_,_,_,_,_,_,rfl,Nat.zero_le _,b06,r1,hu6,hs6,hX6,hE06⟩
 case round=>
  obtain⟨i,s,a,n',c',d,kk,e,rfl,hi,b0,b1,hq,hsr,hXr,hEr⟩:=hrel;by_cases hlt:i<n
  ·have hiE:i<E.length:=by rw[hEs'.out.1];exact hlt
   have hrl:Hid (E[i].length=n):=hid (hEs'.out.2 _ (List.getElem_mem _));have hie:Hid (∀h:i<E[i].length,E[i][i]=ent E i i):=hid fun h=>by
    unfold ent;rw[show E.getD i []=E[i]by simp[List.getD_eq_getElem?_getD,hiE],List.getD_eq_getElem?_getD,List.getElem?_eq_getElem h];rfl
   obtain⟨a1,c1,hX1,hc1,hcl1,hq1⟩:=hsr.row i hiE;have k40:=hc1.out noY wr (ExtX.refl _) rfl;have hbo1:=hid (hpq.out i hi);have hbe:=hid (heq.out i);have hst:Hid (pr i (fun i=>ent E i i)*ent E i i=pr (i+1) fun i=>ent E i i):=hid rfl;obtain⟨row,hrow⟩:∃row,E[i]=row:=⟨_,rfl⟩;rw[hrow]at k40 hq1 hrl hie;rw[hrl.out]at k40;have hir:i<row.length:=by rw[hrl.out];exact hlt
   have hda:Hd a1 n:=by have:=hq1.hd;rw[hrl.out]at this;exact this
   obtain⟨g2,o2,s2,p2,n2,q2,d2,k2,e2,hg2,hX2,hc2,hq2⟩:=hq1.rat QC.shaped i hir;rw[hie.out hir]at hq2;obtain⟨y,hy⟩:∃y,ent E i i=y:=⟨_,rfl⟩;obtain⟨D,hD⟩:∃D,pr i (fun i=>ent E i i)=D:=⟨_,rfl⟩;obtain⟨D2,hD2⟩:∃D2,pr (i+1) (fun i=>ent E i i)=D2:=⟨_,rfl⟩;rw[hy]at hq2 hbe hst;rw[hD]at hq hbo1 hst;rw[hD2]at hst;have hD2':=hid hD2;have i2:∀W,(Instr.indexAt 45 (.slice a1 n c1) (.int .i64 (i:Int))).run Tryz.prog W= .ok (.pointer (some ⟨g2,o2,none⟩)) W:=by rw[<-hg2];exact a0h a0J a1 n c1 .i64 i hda (by omega)
   have hEd:Ext wr wr.drew:=(ExtX.refl wr).drew;have b05:=b0.ext0 hEd;have b15:=b1.ext0 hEd;have k00:=b15.cell 0 rfl;have k01:=b15.cell 1 rfl;have k02:=b15.cell 2 rfl;obtain⟨k20,k21,k22⟩:=hc2.out noY wr.drew hEd rfl;have hXd:HX (un (a0e X b 1) (some ⟨bo,0,none⟩)) wr.drew:=hXr;have hy5:QV (mk (un (a0e X b 1) (some ⟨bo,0,none⟩)) wr.drew) (.agg #[.bool s2, .slice p2 n2 q2, .slice d2 k2 e2]) y:=(mkx QC.mono hq2 hEd).qv hbe.out;have hq5:QV (mk (un (a0e X b 1) (some ⟨bo,0,none⟩)) wr.drew) (.agg #[.bool s, .slice a n' c', .slice d kk e]) D:=(mkx QC.mono hq hEd).qv hbo1.out;clear hrow hy hD hD2 hg2 hc1 hc2;go_wp2_with (with_reducible refine a0n a0o (by omega) (by assumption) ?_)
   go_region_with ((go_at_call 169;(with_reducible refine(c0M (un (a0e X b 1) (some ⟨bo,0,none⟩)) wr.drew _ _ _ _ hXd hq5 hy5).mono ?_);rintro ee w7 ⟨t1,u7,rfl,hu7⟩;obtain⟨s7,a7,n7,c7,d7,k7,e7,rfl⟩:=hu7.shape;rw[hst.out]at hu7;have b17:=b15.ext0 t1;have g0:=b17.cell 0 rfl;have g1:=b17.cell 1 rfl;have g2':=b17.cell 2 rfl;have f0:=b17.frozen 0;have f1:=b17.frozen 1;have f2:=b17.frozen 2))
   all_goals
    obtain⟨z1,z2⟩:=b17.set3 (.bool s7) (.slice a7 n7 c7) (.slice d7 k7 e7);have h8:=QC.mono _ _ _ _ (a0u (X:=un (a0e X b 1) (some ⟨bo,0,none⟩)) z2 fun k hk=>a0y hk) hu7;have hs8:=(hsr.mono RC.mono (a0m (hEd.trans t1))).mono RC.mono (a0u z2 fun k hk=>a0y hk);have b08:=(b05.ext0 t1).ext z2 (a0b (by omega));have hE8:Ext w2 _:=ExtX.box (hEr.trans (hEd.trans t1)) z2 hWbo;have hX8:=(hXd.ext t1).ext z2;rw[<-hD2'.out]at h8;clear k00 k01 k02 k20 k21 k22 k40 g0 g1 g2' f0 f1 f2 i2;go_wp2_with fail
    go_roundw
    case rel=>exact⟨i+1,_,_,_,_,_,_,_,by go_num,by omega,b08,z1,h8,hs8,hX8,hE8⟩
    case measure=>simp[intOf];omega
  ·have hin:i=n:=by omega
   subst hin;have k00:=b1.cell 0 rfl;have k01:=b1.cell 1 rfl;have k02:=b1.cell 2 rfl;have hEw:Ext w wr:=hEW.trans hEr;have hbo1:=hpq.out i (Nat.le_refl _);cases od
   ·have hdv2:Hid (b2y m i=pr i (fun i=>ent E i i)):=hid hdv.out
    go_wp2_with ((with_reducible show wpList _ _ _ (⟨_, .store _ _ _,_,_,_,_⟩::_) _ _);refine a0c a0w rfl rfl b0 rfl rfl (a2C _ _ _ _ _ _ _) ?_;intro w7 r1 r2)
    have h7:=QC.mono _ _ _ _ a0k (QC.mono _ _ _ _ (a0i (lo:=b) (nb:=1) r2 (by omega) (by omega)) (QC.mono _ _ _ _ (a1U fun k _ hk=>a0v hk) hq));rw[<-hdv2.out]at h7;exact bodyPost_ret (a1z rfl rfl a0w r1 rfl) rfl ⟨ExtX.box hEw r2 (by omega),_,rfl,h7⟩
   ·have hdv2:Hid (b2y m i= - pr i (fun i=>ent E i i)):=hid hdv.out
    go_wp2_with fail
    refine(c1a (un (a0e X b 1) (some ⟨bo,0,none⟩)) wr _ _ hXr (hq.qv hbo1)).mono ?_;rintro e w8 ⟨hE8,u8,rfl,hu8⟩;obtain⟨s8,a8,n8,c8,d8,k8,e8,rfl⟩:=hu8.shape;have b18:=b1.ext0 hE8;have b08:=b0.ext0 hE8;clear k00 k01 k02;go_wp2_with ((with_reducible show wpList _ _ _ (⟨_, .store _ _ _,_,_,_,_⟩::_) _ _);first|(refine a0c a0w rfl rfl b18 rfl rfl (a2C _ _ _ _ _ _ _) ?_;intro w9 y1 y2;have b09:=b08.ext y2 (a0b (by omega));have j0:=y1.cell 0 rfl;have j1:=y1.cell 1 rfl;have j2:=y1.cell 2 rfl)|(refine a0c a0w rfl rfl b09 rfl rfl (a2C _ _ _ _ _ _ _) ?_;intro w7 r1 r2))
    have h9:=QC.mono _ _ _ _ (a0u (X:=un (a0e X b 1) (some ⟨bo,0,none⟩)) y2 fun k hk=>a0y hk) hu8;have h7:=QC.mono _ _ _ _ a0k (QC.mono _ _ _ _ (a0i (lo:=b) (nb:=1) r2 (by omega) (by omega)) (QC.mono _ _ _ _ (a1U fun k _ hk=>a0v hk) h9));rw[<-hdv2.out]at h7;exact bodyPost_ret (a1z rfl rfl a0w r1 rfl) rfl ⟨ExtX.box (ExtX.box (hEw.trans hE8) y2 (by have:=hEW.size;omega)) r2 (by omega),_,rfl,h7⟩
end Go.Proofs.YtoibhmjjhgaimaaGreat
