/- Parts of a proof: each theorem states what it proves, and its conditions. -/
import Derived.Test.YtnnpfhoigmegcaaGreatBkI
import Derived.WalkKit
import Derived.Deep.RegionHeld3
import Derived.Deep.RegionLaw
import Derived.Deep.AppendLies
import Derived.BigRegion
import Derived.Sort.LotA
set_option maxRecDepth 100000
set_option maxHeartbeats 3200000
namespace Go.Rep
open Go.RowKit
theorem OL.hide0{α:Type}{R:Mem->Value->α->Prop}{sz base cap:Nat}{X Z:Nat->Bool}{e:TypeId}{w:World}{ao:Option Addr}{l:List α}(h:OL R sz X base e w ao cap l)(b:∀h d u x,R h u x->R d u x)(hz:∀k,ob ao k=true->Z k=false):OL R sz Z base e w ao cap l:=by
 obtain⟨hx,us,f,g,a,j,m⟩:=h;exact⟨hz,us,f,g,a,j,fun i hi c=>b _ _ _ _ (m i hi c)⟩
end Go.Rep
namespace Go.Lim
theorem b2d{m h:Nat}{lo:Int}(a:m<h):a0z m h lo= []:=List.eq_nil_of_length_eq_zero (by rw[a1I,b5p m h a])
end Go.Lim
namespace Go.Proofs.YtnnpfhoigmegcaaGreat
open Go.RowKit Go.Rep Go.Lim
def a6l(base:Nat):Nat->Bool:=fun k=>decide (base<=k)&&decide (k<base+6)
def hbB(W:World)(g:Nat):Nat->Bool:=fun k=>decide (k<W.heap.size)&& !(k==g)
structure FromSt (base n k:Nat) (fv:Value) (W:World) (Q:List Int):Prop where
 bn:W.heap[base]? =some (.cells #[.int .i64 (n:Int)] 3 (0,0))
 bk:W.heap[base+1]? =some (.cells #[.int .i64 (k:Int)] 3 (0,0))
 bf:W.heap[base+2]? =some (.cells #[fv] 155 (0,0))
 bl:W.heap[base+4]? =some (.cells #[.slice (some ⟨base+3,0,none⟩) Q.length k] 22 (0,0))
 br:W.heap[base+5]? =some (.cells #[.func (.func 222) #[] #[.pointer (some ⟨base+4,0,none⟩), .pointer (some ⟨base+1,0,none⟩), .pointer (some ⟨base+2,0,none⟩), .pointer (some ⟨base,0,none⟩), .pointer (some ⟨base+5,0,none⟩)]] 209 (0,0))
 ol:OL (a0v .i64) 1 (hbB W (base+3)) base 3 W (some ⟨base+3,0,none⟩) k Q
 sz:base+6<=W.heap.size
def b3P(base:Nat)(W W':World):Prop:=W.heap.size<=W'.heap.size/\∀k,a6l base k=true->W'.heap[k]? =W.heap[k]?
theorem ob3{base k:Nat}(h:ob (some ⟨base,0,none⟩) k=true):base=k:=by simpa[ob]using h
theorem b6l{W:World}{base k:Nat}(h:ob (some ⟨base,0,none⟩) k=true):hbB W base k=false:=by
 have:=ob3 h;subst this;simp[hbB]
theorem b3Q:∀(h a:Mem) (u:Value) (x:Int),a0v .i64 h u x->a0v .i64 a u x:=fun _ _ _ _ h=>h
theorem FromSt.keep{base n k:Nat}{fv:Value}{W W':World}{Q:List Int}(h:FromSt base n k fv W Q)(b:b3P base W W'):FromSt base n k fv W' Q:=by
 have a:∀d,d<6->W'.heap[base+d]? =W.heap[base+d]?:=fun d hd=>b.2 _ (by simp[a6l];omega);refine⟨by have:=a 0 (by omega);simp only[Nat.add_zero]at this;rw[this];exact h.bn,by rw[a 1 (by omega)];exact h.bk,by rw[a 2 (by omega)];exact h.bf,by rw[a 4 (by omega)];exact h.bl,by rw[a 5 (by omega)];exact h.br,?_,Nat.le_trans h.sz b.1⟩;have o:=h.ol;obtain⟨hx,us,p,q,f,⟨r,j⟩,s⟩:=o;refine⟨fun k b=>b6l b,us,p,q,f,⟨r,?_⟩,fun i hi l=>b3Q _ _ _ _ (s i hi l)⟩;rcases j with j|⟨g,c,e,m,t,u,v⟩
 ·exact .inl j
 ·simp at m
  obtain⟨rfl,rfl⟩:=m;exact .inr ⟨base+3,k,e,by simp,t,by rw[a 3 (by omega)];exact u,v⟩
theorem FromSt.set{base n k:Nat}{fv:Value}{W b:World}{Q l:List Int}(h:FromSt base n k fv W Q)(f:ExtX (ob (some ⟨base+3,0,none⟩)) W b){X:Nat->Bool}(F:OL (a0v .i64) 1 X base 3 b (some ⟨base+3,0,none⟩) k l)(m:Nat)(I:m=l.length):FromSt base n k fv (b.setCell ⟨base+4,0,none⟩ (.slice (some ⟨base+3,0,none⟩) m k)) l/\ExtX (a6l base) W (b.setCell ⟨base+4,0,none⟩ (.slice (some ⟨base+3,0,none⟩) m k))/\ b.cell? ⟨base+4,0,none⟩=some (.slice (some ⟨base+3,0,none⟩) Q.length k)/\b.frozen? ⟨base+4,0,none⟩=false:=by
 subst I;have J:=h.sz;have a:ExtX (fun j=>j==base+4) b (b.setCell ⟨base+4,0,none⟩ (.slice (some ⟨base+3,0,none⟩) l.length k)):=
  ⟨rfl,rfl,rfl,by simp[World.setCell],fun j o r=>Below.heap_setCell _ _ _ _ (fun e=>by subst e;simp at r)⟩
 have z:∀j,j<W.heap.size->j≠base+3->b.heap[j]? =W.heap[j]?:=fun j o x=>f.block j o (by
  cases G:ob (some ⟨base+3,0,none⟩) j
  ·rfl
  ·exact absurd (ob3 G).symm x)
 have p:∀j,j<W.heap.size->j≠base+3->j≠base+4->(b.setCell ⟨base+4,0,none⟩ (.slice (some ⟨base+3,0,none⟩) l.length k)).heap[j]? =W.heap[j]?:=fun j o x y=>by
  rw[a.block j (Nat.lt_of_lt_of_le o f.size) (by simpa using y),z j o x]
 have d:=z (base+4) (by omega) (by omega);rw[h.bl]at d;have q:(b.setCell ⟨base+4,0,none⟩ (.slice (some ⟨base+3,0,none⟩) l.length k)).heap[base+4]? =some (.cells #[.slice (some ⟨base+3,0,none⟩) l.length k] 22 (0,0)):=by
  simp only[World.setCell,Array.getElem?_modify,d];simp
 refine⟨⟨by rw[p base (by omega) (by omega) (by omega)];exact h.bn,by rw[p _ (by omega) (by omega) (by omega)];exact h.bk,by rw[p _ (by omega) (by omega) (by omega)];exact h.bf,q,by rw[p _ (by omega) (by omega) (by omega)];exact h.br,?_,by simp[World.setCell];have:=f.size;omega⟩,?_,by simp[World.cell?,d],by simp[World.frozen?,d]⟩
 ·obtain⟨hx,us,B,C,t,⟨D,u⟩,E⟩:=F
  refine⟨fun k H=>b6l H,us,B,C,t,⟨D,?_⟩,fun i hi v=>b3Q _ _ _ _ (E i hi v)⟩;rcases u with u|⟨g,c,s,A,K,L,M⟩
  ·exact .inl u
  ·simp at A
   obtain⟨rfl,rfl⟩:=A;have w:base+3<b.heap.size:=by have:=f.size;omega
   exact .inr ⟨base+3,k,s,by simp,K,by rw[a.block _ w (by simp)];exact L,M⟩
 ·refine⟨a.os.trans f.os,a.tape.trans f.tape,a.output.trans f.output,Nat.le_trans f.size a.size,fun j o r=>p j o ?_ ?_⟩
  ·intro e;subst e;simp[a6l]at r
  ·intro e;subst e;simp[a6l]at r
section
variable (cb base n k:Nat) (caps:Array Value) (Inv:List (List Int)->World->Prop)
theorem b3R(hcf:∀(args:Array Value) (W:World),Sem.run Tryz.prog (callFunc cb args) W= .ok (.enter cb args) W)(hn:n<=64)(hk:k<=64)(hInv:∀done W W',Inv done W->ExtX (a6l base) W W'->Inv done W')(hCB:∀(done:List (List Int)) (s:List Int) (W:World),Inv done W->(∃rest,done++[s]++rest=a0z n k 0)->Sl (a0v .i64) 1 W.cell? (some ⟨base+3,0,none⟩) s->base+6<=W.heap.size->
   Calls Tryz.prog cb (#[.slice (some ⟨base+3,0,none⟩) s.length k]++caps) W (fun e W'=>e= .returned (.tuple #[])/\Inv (done++[s]) W'/\b3P base W W')) (g:Nat):
  ∀(i:Nat) (Q:List Int) (done:List (List Int)) (W:World),Q.length+g=k->i<=n+1->FromSt base n k (.func (.func cb) #[] caps) W Q->Inv done W->Hid (∃rest,done++(a0z (n - i) g i).map (Q++ ·)++rest=a0z n k 0)->
  Calls Tryz.prog 222 #[.int .i64 (i:Int), .pointer (some ⟨base+4,0,none⟩), .pointer (some ⟨base+1,0,none⟩), .pointer (some ⟨base+2,0,none⟩), .pointer (some ⟨base,0,none⟩), .pointer (some ⟨base+5,0,none⟩)] W
   (fun e W'=>e= .returned (.tuple #[])/\FromSt base n k (.func (.func cb) #[] caps) W' Q/\Inv (done++(a0z (n - i) g i).map (Q++ ·)) W'):=by
 induction g with
 |zero=>
  intro i Q done W hQ hi hst hiv hpre;have cl:W.cell? ⟨base+4,0,none⟩=some (.slice (some ⟨base+3,0,none⟩) Q.length k):=by simp[World.cell?,hst.bl]
  have ck:W.cell? ⟨base+1,0,none⟩=some (.int .i64 (k:Int)):=by simp[World.cell?,hst.bk]
  have cf:W.cell? ⟨base+2,0,none⟩=some (.func (.func cb) #[] caps):=by simp[World.cell?,hst.bf]
  have hs:Sl (a0v .i64) 1 W.cell? (some ⟨base+3,0,none⟩) Q:=by
   have:=(hst.ol.hide0 b3Q (Z:=noY) (fun k hk=>rfl)).sl (a0v.elem _);rw[a3k]at this;exact this
  have hQk:Q.length=k:=by omega
  go_enter Tryz.func222,Tryz.ntmps222
  go_wp2_with fail
  have hcb:=hCB done Q W hiv (by obtain⟨rest,hr⟩:=hpre.out;rw[a1T]at hr;exact⟨rest,by simpa using hr⟩) hs hst.sz;rw[hQk]at hcb;refine hcb.mono ?_;rintro e w1 ⟨rfl,hiv1,hkp⟩;have hst1:=hst.keep hkp;have hfin:Hid (done++(a0z (n - i) 0 i).map (Q++ ·)=done++[Q]):=hid (by rw[a1T];simp);clear hst hs cl ck cf hcb;go_wp2_with fail
  refine bodyPost_ret (results_none rfl _ _ _) rfl ?_;rw[hfin.out];exact⟨rfl,hst1,hiv1⟩
 |succ g ih=>
  intro i Q done W hQ hi hst hiv hpre;have cl:W.cell? ⟨base+4,0,none⟩=some (.slice (some ⟨base+3,0,none⟩) Q.length k):=by simp[World.cell?,hst.bl]
  have ck:W.cell? ⟨base+1,0,none⟩=some (.int .i64 (k:Int)):=by simp[World.cell?,hst.bk]
  have hQk:((Q.length:Int)==(k:Int))=false:=a2v (by omega);go_enter Tryz.func222,Tryz.ntmps222
  go_wp2_with fail
  go_loopw [0] (fun c wr=>∃(j:Nat) (D:List (List Int)),c= .int .i64 j/\j<=n+1/\FromSt base n k (.func (.func cb) #[] caps) wr Q/\Inv D wr/\Hid (D++(a0z (n - j) (g+1) j).map (Q++ ·)=done++(a0z (n - i) (g+1) i).map (Q++ ·))) (fun c _=>n+1 - (intOf c).toNat)
  case atStart=>exact⟨i,done,rfl,hi,hst,hiv,hid rfl⟩
  case round=>
   obtain⟨j,D,rfl,hj,hst1,hiv1,hDe⟩:=hrel;clear cl ck hst hiv;have cl:wr.cell? ⟨base+4,0,none⟩=some (.slice (some ⟨base+3,0,none⟩) Q.length k):=by simp[World.cell?,hst1.bl]
   have ck:wr.cell? ⟨base+1,0,none⟩=some (.int .i64 (k:Int)):=by simp[World.cell?,hst1.bk]
   have cn:wr.cell? ⟨base,0,none⟩=some (.int .i64 (n:Int)):=by simp[World.cell?,hst1.bn]
   by_cases hlt:j+g+1<=n
   ·obtain⟨m,hm⟩:∃m,n - j=m+1:=⟨n - j - 1,by omega⟩
    have hmn:n - (j+1)=m:=by omega
    go_wp2_with (at_builtin;refine a6n a2b (a0v.elem .i64) rfl rfl rfl hst1.ol (.int .i64 j) (j:Int) rfl rfl (by omega) ?_;intro w2 hO2 hE2;obtain⟨hst2,hE3,cl2,fl2⟩:=hst1.set hE2 hO2 (Q.length+1) (by simp);have cr:=cell_of_one hst2.br)
    have hiv2:=hInv _ _ _ hiv1 hE3;have hih:=ih (j+1) (Q++[(j:Int)]) D _ (by simp;omega) (by omega) hst2 hiv2 (hid (by
     obtain⟨rest,hr⟩:=hpre.out;refine⟨(a0z (n - (j+1)) (g+1) ((j+1:Nat):Int)).map (Q++ ·)++rest,?_⟩;rw[<-hr,<-hDe.out,hm,hmn,a0z,show((j+1:Nat):Int)=(j:Int)+1 by omega];have hmm:(a0z m g ((j:Int)+1)).map ((Q++[(j:Int)])++ ·)=((a0z m g ((j:Int)+1)).map ((j:Int):: ·)).map (Q++ ·):=by
      rw[List.map_map];apply List.map_congr_left;intro r _;simp
     rw[hmm,List.map_append];simp only[List.append_assoc]))
    rw[show((j+1:Nat):Int)=(j:Int)+1 by omega]at hih;refine hih.mono ?_;rintro e w4 ⟨rfl,hst4,hiv4⟩;clear hih;have cl4:=cell_of_one hst4.bl;rw[show(Q++[(j:Int)]).length=Q.length+1 by simp]at cl4;have htk:=hst4.ol.take (a0v.elem .i64).size Q.length;rw[List.take_left]at htk;obtain⟨hst5,hE5,_,fl4⟩:=hst4.set (ExtX.refl _) htk Q.length rfl;have hiv5:=hInv _ _ _ hiv4 hE5;have hDe2:Hid ((D++(a0z (n - (j+1)) g ((j:Int)+1)).map ((Q++[(j:Int)])++ ·))++(a0z (n - (j+1)) (g+1) ((j+1:Nat):Int)).map (Q++ ·)=done++(a0z (n - i) (g+1) i).map (Q++ ·)):=hid (by
     rw[<-hDe.out,hm,hmn,a0z,show((j+1:Nat):Int)=(j:Int)+1 by omega];have hmm:(a0z m g ((j:Int)+1)).map ((Q++[(j:Int)])++ ·)=((a0z m g ((j:Int)+1)).map ((j:Int):: ·)).map (Q++ ·):=by
      rw[List.map_map];apply List.map_congr_left;intro r _;simp
     rw[hmm,List.map_append,List.append_assoc])
    clear cl ck cn hst1 hiv1 hO2 hE2 hst2 hE3 cl2 fl2 cr hiv2 hm hmn;go_wp2_with fail
    go_roundw
    case rel=>exact⟨j+1,_,by go_num,by omega,hst5,hiv5,hDe2⟩
    case measure=>simp[intOf];omega
   ·have hnil:Hid (D=done++(a0z (n - i) (g+1) i).map (Q++ ·)):=hid (by
     have:=hDe.out;rw[b2d (by omega)]at this;simpa using this)
    go_wp2_with fail
    go_end0
    rw[<-hnil.out];exact⟨rfl,hst1,hiv1⟩
end
theorem b6m(w:World)(u v:Value)(b c:TypeId)(a:World)(h:(w.alloc (.cells #[u] b)).alloc (.cells #[v] c)=a):Ext w a/\a.heap[w.heap.size]? =some (.cells #[u] b (0,0))/\a.heap[w.heap.size+1]? =some (.cells #[v] c (0,0))/\a.heap.size=w.heap.size+2:=by
 subst h;refine⟨((ExtX.refl w).alloc _).alloc _,?_,?_,by simp⟩
 ·rw[Below.heap_alloc _ _ _ (by simp)];exact heap_alloc_new w _
 ·have:=heap_alloc_new (w.alloc (.cells #[u] b)) (.cells #[v] c (0,0))
  simpa using this
theorem b8y:(Tryz.prog.info? 209).map (fun i=>(i.zero,i.size,i.bytes))=some (some .nilFunc,1,8):=by kernel_rfl
theorem b9h:TyI Tryz.prog 209 1:=let ⟨i,h,_,a,_⟩:=info_parts b8y;⟨i,h,a⟩
theorem b7z(W:World)(g:Nat):∀j,hbB W g j=true->j<W.heap.size:=fun j a=>by
 have h:j<W.heap.size/\¬j=g:=by simpa[hbB]using a
 exact h.1
theorem b0C{w d wc a:World}{l u v:Value}{q j k:TypeId}(n:d.heap.size=w.heap.size+3)(e:Ext d wc)(o:wc.heap.size=d.heap.size+1)(f:(wc.alloc (.cells #[u] j)).alloc (.cells #[v] k)=a)(m:d.heap[w.heap.size+1]? =some (.cells #[l] q (0,0))):Ext wc a/\a.cell? ⟨w.heap.size+3+1+1,0,none⟩=some v/\a.frozen? ⟨w.heap.size+3+1+1,0,none⟩=false/\a.cell? ⟨w.heap.size+1,0,none⟩=some l/\ a.heap[w.heap.size+3+1]? =some (.cells #[u] j (0,0))/\a.heap[w.heap.size+3+1+1]? =some (.cells #[v] k (0,0))/\a.heap.size=w.heap.size+6:=by
 obtain⟨b,h,c,p⟩:=b6m wc _ _ _ _ a f;have g:wc.heap.size=w.heap.size+3+1:=by omega
 rw[g]at h c;have i:=(e.trans b).block (w.heap.size+1) (by omega) rfl;rw[m]at i;exact⟨b,cell_of_one c,free_of_one c,cell_of_one i,h,c,by omega⟩
theorem FromSt.start{w m wc d:World}{n k:Nat}{fv:Value}{X:Nat->Bool}(h:Ext w m)(y:m.heap.size=w.heap.size+3)(B:m.heap[w.heap.size]? =some (.cells #[.int .i64 (n:Int)] 3 (0,0)))(C:m.heap[w.heap.size+1]? =some (.cells #[.int .i64 (k:Int)] 3 (0,0)))(D:m.heap[w.heap.size+2]? =some (.cells #[fv] 155 (0,0)))(l:Ext m wc)(L:wc.heap.size=m.heap.size+1)(o:OL (a0v .i64) 1 X w.heap.size 3 wc (some ⟨m.heap.size,0,none⟩) k [])(b:Ext wc d)(E:d.heap[w.heap.size+3+1]? =some (.cells #[.slice (some ⟨w.heap.size+3,0,none⟩) 0 k] 22 (0,0)))(F:d.heap[w.heap.size+3+1+1]? =some (.cells #[.nilFunc] 209 (0,0)))(q:d.heap.size=w.heap.size+6):FromSt w.heap.size n k fv (d.setCell ⟨w.heap.size+3+1+1,0,none⟩ (.func (.func 222) #[] #[.pointer (some ⟨w.heap.size+3+1,0,none⟩), .pointer (some ⟨w.heap.size+1,0,none⟩), .pointer (some ⟨w.heap.size+1+1,0,none⟩), .pointer (some ⟨w.heap.size,0,none⟩), .pointer (some ⟨w.heap.size+3+1+1,0,none⟩)])) []/\ ExtX (a6l w.heap.size) w (d.setCell ⟨w.heap.size+3+1+1,0,none⟩ (.func (.func 222) #[] #[.pointer (some ⟨w.heap.size+3+1,0,none⟩), .pointer (some ⟨w.heap.size+1,0,none⟩), .pointer (some ⟨w.heap.size+1+1,0,none⟩), .pointer (some ⟨w.heap.size,0,none⟩), .pointer (some ⟨w.heap.size+3+1+1,0,none⟩)])):=by
 obtain⟨f,z⟩:∃f,Value.func (.func 222) #[] #[.pointer (some ⟨w.heap.size+3+1,0,none⟩), .pointer (some ⟨w.heap.size+1,0,none⟩), .pointer (some ⟨w.heap.size+1+1,0,none⟩), .pointer (some ⟨w.heap.size,0,none⟩), .pointer (some ⟨w.heap.size+3+1+1,0,none⟩)]=f:=⟨_,rfl⟩;rw[z];have a:∀j,j≠w.heap.size+5->(d.setCell ⟨w.heap.size+3+1+1,0,none⟩ f).heap[j]? =d.heap[j]?:=fun j x=>Below.heap_setCell _ _ _ _ (fun e=>x e);have r:Ext m d:=l.trans b;have p:(d.setCell ⟨w.heap.size+3+1+1,0,none⟩ f).heap[w.heap.size+3+1+1]? =some (.cells #[f] 209 (0,0)):=by
  simp only[World.setCell,Array.getElem?_modify,F];simp
 refine⟨⟨?_,?_,?_,?_,?_,?_,by simp[World.setCell,q]⟩,?_⟩
 ·rw[a _ (by omega),r.block _ (by omega) rfl];exact B
 ·rw[a _ (by omega),r.block _ (by omega) rfl];exact C
 ·rw[a _ (by omega),r.block _ (by omega) rfl];exact D
 ·rw[a _ (by omega)];exact E
 ·rw[<-z]at p |-;exact p
 ·rw[y]at o
  obtain⟨hx,us,G,H,t,⟨I,u⟩,J⟩:=o;refine⟨fun k K=>b6l K,us,G,H,t,⟨I,?_⟩,fun i hi v=>b3Q _ _ _ _ (J i hi v)⟩;rcases u with u|⟨g,c,s,A,M,N,O⟩
  ·exact .inl u
  ·simp at A
   obtain⟨rfl,rfl⟩:=A;exact .inr ⟨w.heap.size+3,k,s,by simp,M,by rw[a _ (by omega),b.block _ (by omega) rfl];exact N,O⟩
 ·refine⟨b.os.trans (l.os.trans h.os),b.tape.trans (l.tape.trans h.tape),b.output.trans (l.output.trans h.output),by simp[World.setCell,q],fun j x _=>?_⟩
  rw[a _ (by omega),(h.trans r).block j x rfl]
theorem a8Y(cb n k:Nat)(caps:Array Value)(Inv:List (List Int)->World->Prop)(w:World)(x:∀(args:Array Value) (W:World),Sem.run Tryz.prog (callFunc cb args) W= .ok (.enter cb args) W)(K:n<=64)(I:k<=64)(c:∀done W W',Inv done W->ExtX (a6l w.heap.size) W W'->Inv done W')(v:∀(done:List (List Int)) (s:List Int) (W:World),Inv done W->(∃rest,done++[s]++rest=a0z n k 0)->Sl (a0v .i64) 1 W.cell? (some ⟨w.heap.size+3,0,none⟩) s->w.heap.size+6<=W.heap.size->
   Calls Tryz.prog cb (#[.slice (some ⟨w.heap.size+3,0,none⟩) s.length k]++caps) W (fun e W'=>e= .returned (.tuple #[])/\Inv (done++[s]) W'/\b3P w.heap.size W W'))
  (H:Inv [] w):
  Calls Tryz.prog 138 #[.int .i64 (n:Int), .int .i64 (k:Int), .func (.func cb) #[] caps] w (fun e W'=>e= .returned (.tuple #[])/\Inv (a0z n k 0) W'):=by
 have J:∀(fn:Fn) (first cap:Array Value) (w:World),(Instr.makeFunc fn first cap).run Tryz.prog w= .ok (.func fn first cap) w:=fun _ _ _ _=>rfl;obtain⟨b,a⟩:∃b,(((w.alloc (.cells #[.int .i64 (n:Int)] 3)).alloc (.cells #[.int .i64 (k:Int)] 3)).alloc (.cells #[.func (.func cb) #[] caps] 155))=b:=⟨_,rfl⟩;have f:Ext w b:=by rw[<-a];exact(((ExtX.refl w).alloc _).alloc _).alloc _
 have q:b.heap.size=w.heap.size+3:=by rw[<-a];simp
 have z:b.heap[w.heap.size]? =some (.cells #[.int .i64 (n:Int)] 3 (0,0)):=by
  rw[<-a,Below.heap_alloc _ _ _ (by simp;omega),Below.heap_alloc _ _ _ (by simp)];exact heap_alloc_new w _
 have t:b.heap[w.heap.size+1]? =some (.cells #[.int .i64 (k:Int)] 3 (0,0)):=by
  rw[<-a,Below.heap_alloc _ _ _ (by simp)];have:=heap_alloc_new (w.alloc (.cells #[.int .i64 (n:Int)] 3)) (.cells #[.int .i64 (k:Int)] 3 (0,0));simpa using this
 have A:b.heap[w.heap.size+2]? =some (.cells #[.func (.func cb) #[] caps] 155 (0,0)):=by
  rw[<-a];have:=heap_alloc_new ((w.alloc (.cells #[.int .i64 (n:Int)] 3)).alloc (.cells #[.int .i64 (k:Int)] 3)) (.cells #[.func (.func cb) #[] caps] 155 (0,0));simpa using this
 have G:=cell_of_one t;go_enter Tryz.func138,Tryz.ntmps138
 go_wp2_with (first|((with_reducible show wpList _ _ _ (⟨_, .store _ _ _,_,_,_,_⟩::_) _ _);refine b2c b9h rfl rfl rfl rfl B E ?_)|(at_make;refine b3O (R:=a0v .i64) a2b rfl (hbB b (w.heap.size+3)) (b7z b _) w.heap.size f.size k rfl rfl rfl rfl (by omega) (by omega) ?_;intro wc j g r;obtain⟨F,p⟩:∃F,(wc.alloc (.cells #[.slice (some ⟨w.heap.size+3,0,none⟩) 0 k] 22)).alloc (.cells #[.nilFunc] 209)=F:=⟨_,rfl⟩;obtain⟨h,B,E,u,C,D,y⟩:=b0C q g r p t))
 obtain⟨d,i⟩:=FromSt.start (fv:= .func (.func cb) #[] caps) f q z t A g r j h C D y;have o:Hid (∃rest,([]:List (List Int))++(a0z (n - 0) k ((0:Nat):Int)).map (([]:List Int)++ ·)++rest=a0z n k 0):=hid ⟨[],by simp⟩;refine(b3R cb w.heap.size n k caps Inv x K I c v k 0 [] [] _ (by simp) (by omega) d (c _ _ _ H i) o).mono ?_;rintro e L ⟨rfl,_,m⟩;have l:Hid (([]:List (List Int))++(a0z (n - 0) k ((0:Nat):Int)).map (([]:List Int)++ ·)=a0z n k 0):=hid (by simp);rw[l.out]at m;clear d i B E u C D h j g z t A f G p a;go_wp2_with fail
 go_end0
 exact⟨rfl,m⟩
end Go.Proofs.YtnnpfhoigmegcaaGreat
namespace Go.Rep
open Go.RowKit Go.Lim
section
variable {P:Program} {ops:Array Oper} {Q:Exit->Act->World->Prop} {a:Act} {w:World}
variable {α:Type} {R:Mem->Value->α->Prop} {sz:Nat} {X:Nat->Bool} {base:Nat} {e:TypeId} {ao:Option Addr} {cap:Nat} {l:List α}
end
end Go.Rep
namespace Go.Proofs.YtnnpfhoigmegcaaGreat
open Go.RowKit Go.Rep Go.Lim Go.Lin
def uB:Nat:=10000000000
def a8Z(bc bs:Nat):Nat->Bool:=fun k=>(k==bc)||(k==bs)
def b2O(X:Nat->Bool)(bc bs B0:Nat):Nat->Bool:=fun k=>X k||a8Z bc bs k||a6l B0 k
structure Lay (lo bo bu bc bd bs B0:Nat):Prop where
 lo1:lo<=bo
 lo2:lo<=bu
 lo3:lo<=bc
 lo4:lo<=bd
 lo5:lo<=bs
 hi1:bo<B0
 hi2:bu<B0
 hi3:bc<B0
 hi4:bd<B0
 hi5:bs<B0
 ne1:bo≠bc
 ne2:bo≠bs
 ne3:bu≠bc
 ne4:bu≠bs
 ne5:bd≠bc
 ne6:bd≠bs
 ne7:bc≠bs
structure BSt (X:Nat->Bool) (w0:World) (bo bu bc bd bs B0 c:Nat) (oo:Option Addr) (n oc:Nat) (ov:Value) (z N:Mat) (cnt:Nat) (dv:Value) (us:Mat) (W:World):Prop where
 ext:Ext w0 W
 b1:Bx W bo #[.slice oo n oc] 25
 b2:Bx W bu #[ov] 25
 b3:Bx W bc #[.int .i64 (cnt:Int)] 3
 b4:Bx W bd #[.int .i64 (c:Int)] 3
 b5:Bx W bs #[dv] 25
 r1:MV (mk (b2O X bc bs B0) W) (.slice oo n oc) z
 r2:MV (mk (b2O X bc bs B0) W) ov N
 r3:MV (mk (b2O X bc bs B0) W) dv us
section
variable {X:Nat->Bool} {w0 W W':World} {bo bu bc bd bs B0 c:Nat} {oo:Option Addr} {n oc:Nat} {ov:Value} {z N:Mat} {cnt:Nat} {dv:Value} {us:Mat}
theorem BSt.hx(_:BSt X w0 bo bu bc bd bs B0 c oo n oc ov z N cnt dv us W)(e:HX X w0)(a:Lay w0.heap.size bo bu bc bd bs B0)(j:B0+6<=W.heap.size):HX (b2O X bc bs B0) W:=fun k b=>by
 have g:=a.hi3;have i:=a.hi5;have f:=a.lo1;have d:=a.hi1;simp only[b2O,a8Z,a6l,Bool.or_eq_true,Bool.and_eq_true,beq_iff_eq,decide_eq_true_eq]at b;rcases b with(h|h|h)|h
 ·have:=e k h;omega
 ·omega
 ·omega
 ·omega
theorem BSt.hxs(h:BSt X w0 bo bu bc bd bs B0 c oo n oc ov z N cnt dv us W)(b:HX X w0):HX (fun k=>X k||a8Z bc bs k) W:=fun k a=>by
 have e:=h.b3.lt;have f:=h.b5.lt;have d:=h.ext.size;simp only[a8Z,Bool.or_eq_true,beq_iff_eq]at a;rcases a with h|h|h
 ·have:=b k h;omega
 ·omega
 ·omega
theorem BSt.step(h:BSt X w0 bo bu bc bd bs B0 c oo n oc ov z N cnt dv us W)(a:Ext W W'):BSt X w0 bo bu bc bd bs B0 c oo n oc ov z N cnt dv us W':=
 ⟨h.ext.trans a,h.b1.ext0 a,h.b2.ext0 a,h.b3.ext0 a,h.b4.ext0 a,h.b5.ext0 a,mkx MV.mono h.r1 a,mkx MV.mono h.r2 a,mkx MV.mono h.r3 a⟩
theorem BSt.own(h:BSt X w0 bo bu bc bd bs B0 c oo n oc ov z N cnt dv us W)(b:Lay w0.heap.size bo bu bc bd bs B0)(a:ExtX (a6l B0) W W'):BSt X w0 bo bu bc bd bs B0 c oo n oc ov z N cnt dv us W':=by
 have d:∀j,j<B0->a6l B0 j=false:=fun j g=>by simp[a6l];omega
 have e:=a0r (X:=b2O X bc bs B0) a fun k f=>by simp[b2O,f]
 have:=b.lo1;have:=b.hi1;exact⟨h.ext.then_ a fun i hi _=>d i (by omega),h.b1.ext a (d _ b.hi1),h.b2.ext a (d _ b.hi2),h.b3.ext a (d _ b.hi3),h.b4.ext a (d _ b.hi4),h.b5.ext a (d _ b.hi5),MV.mono _ _ _ _ e h.r1,MV.mono _ _ _ _ e h.r2,MV.mono _ _ _ _ e h.r3⟩
theorem BSt.put(h:BSt X w0 bo bu bc bd bs B0 c oo n oc ov z N cnt dv us W)(d:Lay w0.heap.size bo bu bc bd bs B0)(a:Nat)(b:Value)(j:Mat)(s:MV (_root_.Go.Rep.mk (b2O X bc bs B0) W) b j):(W.setCell ⟨bc,0,none⟩ (.int .i64 (a:Int))).cell? ⟨bs,0,none⟩=some dv/\(W.setCell ⟨bc,0,none⟩ (.int .i64 (a:Int))).frozen? ⟨bs,0,none⟩=false/\ BSt X w0 bo bu bc bd bs B0 c oo n oc ov z N a b j ((W.setCell ⟨bc,0,none⟩ (.int .i64 (a:Int))).setCell ⟨bs,0,none⟩ b)/\ExtX (a8Z bc bs) W ((W.setCell ⟨bc,0,none⟩ (.int .i64 (a:Int))).setCell ⟨bs,0,none⟩ b):=by
 obtain⟨w,q⟩:=a0G h.b3 (.int .i64 (a:Int)) (i:=0) (by simp);have m:=h.b5.ext q (a0c d.ne7.symm);obtain⟨x,r⟩:=a0G m b (i:=0) (by simp);have f:ExtX (a8Z bc bs) W ((W.setCell ⟨bc,0,none⟩ (.int .i64 (a:Int))).setCell ⟨bs,0,none⟩ b):=by
  refine(q.weaken fun k _ g=>?_).trans (r.weaken fun k _ g=>?_)
  ·refine a0c fun e=>?_
   subst e;simp[a8Z]at g
  ·refine a0c fun e=>?_
   subst e;simp[a8Z]at g
 have l:=a0r (X:=b2O X bc bs B0) f fun k g=>by simp[b2O,g]
 have t:a8Z bc bs bo=false:=by simp[a8Z,d.ne1,d.ne2]
 have u:a8Z bc bs bu=false:=by simp[a8Z,d.ne3,d.ne4]
 have v:a8Z bc bs bd=false:=by simp[a8Z,d.ne5,d.ne6]
 have o:=d.lo3;have p:=d.lo5;refine⟨m.cell 0 rfl,m.frozen 0,⟨h.ext.then_ f fun i hi _=>?_,h.b1.ext f t,h.b2.ext f u,?_,h.b4.ext f v,by simpa using x,MV.mono _ _ _ _ l h.r1,MV.mono _ _ _ _ l h.r2,MV.mono _ _ _ _ l s⟩,f⟩
 ·simp[a8Z];omega
 ·have:=w.ext r (a0c d.ne7)
  simpa using this
end
def b8z(X:Nat->Bool)(w0:World)(bo bu bc bd bs B0 c:Nat)(oo:Option Addr)(n oc:Nat)(ov:Value)(z N:Mat)(done:List (List Int))(W:World):Prop:=
 ∃(cnt:Nat) (dv:Value) (us:Mat),BSt X w0 bo bu bc bd bs B0 c oo n oc ov z N cnt dv us W/\b6f c z cnt us/\BM uB us/\(∀r∈us,r.length=c)/\∀s∈done,b3a c (a1R z) (a1R N) cnt (s.map Int.toNat)
theorem b8z.own{X:Nat->Bool}{w0 W W':World}{bo bu bc bd bs B0 c:Nat}{oo:Option Addr}{n oc:Nat}{ov:Value}{z N:Mat}{done:List (List Int)}(h:b8z X w0 bo bu bc bd bs B0 c oo n oc ov z N done W)(e:Lay w0.heap.size bo bu bc bd bs B0)(d:ExtX (a6l B0) W W'):b8z X w0 bo bu bc bd bs B0 c oo n oc ov z N done W':=by
 obtain⟨cnt,dv,us,a,b⟩:=h;exact⟨cnt,dv,us,a.own e d,b⟩
theorem b3P.trans{B0:Nat}{A B C:World}(h:b3P B0 A B)(k:b3P B0 B C):b3P B0 A C:=⟨Nat.le_trans h.1 k.1,fun i hi=>(k.2 i hi).trans (h.2 i hi)⟩
end Go.Proofs.YtnnpfhoigmegcaaGreat
namespace Go.Lin
open Go.Lim Go.Rep Go.Proofs.YtnnpfhoigmegcaaGreat
theorem a2P{n c:Nat}{m:Mat}(b:Shp n c m)(g:n<=96)(f:1<=c)(d:c<=96)(e:0<n):a1o m=true/\a0n m=c:=by
 have a:a0n m=c:=by
  unfold a0n;rw[List.getD_eq_getElem?_getD,List.getElem?_eq_getElem (by rw[b.1];exact e)];exact b.2 _ (List.getElem_mem _)
 refine⟨a1w.2 ⟨by rw[b.1];exact g,fun i hi=>?_⟩,a⟩;rw[a,b.2 _ (List.getElem_mem _)];exact⟨f,d,rfl⟩
end Go.Lin
namespace Go.Proofs.YtnnpfhoigmegcaaGreat
open Go.RowKit Go.Rep Go.Lim Go.Lin
theorem a9O(X:Nat->Bool)(w:World)(s:Bool)(a:Option Addr)(n c:Nat)(d:Option Addr)(k e:Nat)(x:Rat)(t:TypeId)(b:HX X w)(h:QC (mk X w) (.agg #[.bool s, .slice a n c, .slice d k e]) x):OL QC 3 X w.heap.size t (w.alloc (.cells #[.bool s, .slice a n c, .slice d k e] t)) (some ⟨w.heap.size,0,none⟩) 1 [x]:=
 OL.lit QC.elem b (Nat.le_refl _) [.agg #[.bool s, .slice a n c, .slice d k e]] [x] _ (by simp[a0g,Value.cells]) rfl (fun i hi _=>by
  have:i=0:=by simpa using hi
  subst this;exact h) (by simp)
theorem BM.sub{B:Nat}{m l:List (List Rat)}(h:BM B m)(b:∀r∈l,r∈m):BM B l:=fun r a=>h r (b r a)
def b3S:Mem->Value->Nat->Prop:=fun h u n=>∃ao cap l,u= .slice ao l.length cap/\l.length<=cap/\a0F l n/\Sl (a0b .u32) 1 h ao l
theorem b3S.mono:a2X b3S:=by
 rintro h e u x d ⟨ao,cap,l,rfl,a,b,c⟩;exact⟨ao,cap,l,rfl,a,b,c.mono (a0b.mono _) d⟩
theorem b3S.one:a2Y b3S:=by rintro h u x ⟨ao,cap,l,rfl,_⟩;rfl
theorem b3S.elem:Elem b3S 1:=⟨b3S.mono,by rintro h u x ⟨ao,cap,l,rfl,_⟩;rfl,by rintro h u x ⟨ao,cap,l,rfl,_⟩ c a;simp[a0g,Value.cells]at a;subst a;rfl,Nat.one_pos⟩
theorem b3S.zero(h:Mem):b3S h (.slice none 0 0) 0:=⟨none,0,[],rfl,by simp,a0F.nil,Sl.nil _ _ _ _⟩
def tbm(tb:Nat):Nat->Bool:=fun k=>k==tb
theorem b3T(a:Nat):tbm a a=true:=by simp[tbm]
theorem a2Q{a k:Nat}(h:k≠a):tbm a k=false:=by simpa[tbm]using h
def a0C(X:Nat->Bool)(tb:Nat)(w:World):Prop:=
 X tb=true/\∃(lo:Option Addr) (l:List Int) (cap at_:Nat),w.heap[tb]? =some (.cells #[.slice lo l.length cap, .int .i64 (at_:Int)] 103 (0,0))/\l.length<=400/\at_<=l.length/\Sl (a0v .i64) 1 (mk X w) lo l
theorem a3e{X:Nat->Bool}{a:Nat}(h:X a=true):∀k,tbm a k=true->X k=true:=fun k b=>by
 have:k=a:=by simpa[tbm]using b
 rw[this];exact h
theorem a0C.lt{X:Nat->Bool}{a:Nat}{w:World}(h:a0C X a w):a<w.heap.size:=by
 obtain⟨_,lo,l,cap,at_,b,_⟩:=h;by_cases c:a<w.heap.size
 ·exact c
 ·rw[Array.getElem?_eq_none (by omega)]at b;simp at b
theorem a0C.ext{X:Nat->Bool}{b:Nat}{w d:World}(h:a0C X b w)(c:Ext w d):a0C X b d:=by
 have a:=h.lt;obtain⟨j,lo,l,cap,at_,e,f,g,i⟩:=h;exact⟨j,lo,l,cap,at_,by rw[c.block b a rfl];exact e,f,g,i.mono (a0v.mono _) (a0l c)⟩
theorem a0C.extY{X Y:Nat->Bool}{a:Nat}{w d:World}(h:a0C X a w)(c:ExtX Y w d)(m:∀k,Y k=true->X k=true)(n:Y a=false):a0C X a d:=by
 have b:=h.lt;obtain⟨j,lo,l,cap,at_,e,f,g,i⟩:=h;exact⟨j,lo,l,cap,at_,by rw[c.block a b n];exact e,f,g,i.mono (a0v.mono _) (a0r c m)⟩
def b6n(X:Nat->Bool)(tb:Nat)(w:World)(n:Int)(e:Ending)(w':World):Prop:=
 ExtX (tbm tb) w w'/\a0C X tb w'/\∃m:Nat,e= .returned (.int .i64 (m:Int))/\((m:Int)<n\/m=0)
theorem b3U(v n:Int)(w:World)(m:1<=n)(o:n<=1099511627776):Calls Tryz.prog 83 #[.int .i64 v, .int .i64 n] w (fun e j=>e= .returned (.int .i64 (v%n))/\j=w):=by
 have i:(n==0)=false:=a2v (by omega);have g: -n<v.tmod n:=Int.lt_tmod_of_pos v (by omega);have f:v.tmod n<n:=Int.tmod_lt_of_pos v (by omega);have d:(v.tmod n<0->v.tmod n+n=v%n)/\(0<=v.tmod n->v.tmod n=v%n):=by
  have h:=Int.tmod_eq_emod (a:=v) (b:=n);have k:=Int.emod_nonneg v (show n≠0 by omega);have l:=Int.emod_lt_of_pos v (show 0<n by omega);split at h<;>omega
 have c:=hid d;clear d;go_enter Tryz.func83,Tryz.ntmps83
 go_wp2_with fail
 ·go_ret
  exact⟨a0I (c.out.1 (by assumption)),rfl⟩
 ·go_ret
  exact⟨a0I (c.out.2 (by assumption)),rfl⟩
theorem a0C.cells{X:Nat->Bool}{b:Nat}{w:World}(h:a0C X b w):∃(lo:Option Addr) (l:List Int) (cap at_:Nat),w.cell? ⟨b,0,none⟩=some (.slice lo l.length cap)/\w.cell? ⟨b,1,none⟩=some (.int .i64 (at_:Int))/\w.frozen? ⟨b,1,none⟩=false/\l.length<=400/\at_<=l.length/\Sl (a0v .i64) 1 (mk X w) lo l/\ ∀a:Nat,a<=l.length->a0C X b (w.setCell ⟨b,1,none⟩ (.int .i64 (a:Int)))/\ExtX (tbm b) w (w.setCell ⟨b,1,none⟩ (.int .i64 (a:Int)))/\ (w.setCell ⟨b,1,none⟩ (.int .i64 (a:Int))).cell? ⟨b,0,none⟩=some (.slice lo l.length cap)/\(w.setCell ⟨b,1,none⟩ (.int .i64 (a:Int))).cell? ⟨b,1,none⟩=some (.int .i64 (a:Int)):=by
 have o:=h.lt;obtain⟨j,lo,l,cap,at_,c,f,m,g⟩:=h;refine⟨lo,l,cap,at_,by simp[World.cell?,c],by simp[World.cell?,c],by simp[World.frozen?,c],f,m,g,fun a n=>?_⟩;have i:ExtX (tbm b) w (w.setCell ⟨b,1,none⟩ (.int .i64 (a:Int))):=
  ⟨rfl,rfl,rfl,by simp[World.setCell],fun k q p=>Below.heap_setCell _ _ _ _ (fun e=>by subst e;simp[tbm]at p)⟩
 have d:(w.setCell ⟨b,1,none⟩ (.int .i64 (a:Int))).heap[b]? =some (.cells #[.slice lo l.length cap, .int .i64 (a:Int)] 103 (0,0)):=by
  simp only[World.setCell,Array.getElem?_modify,c];simp
 exact⟨⟨j,lo,l,cap,a,d,f,n,g.mono (a0v.mono _) (a0r i (a3e j))⟩,i,by unfold World.cell?;rw[d];rfl,by unfold World.cell?;rw[d];rfl⟩
theorem a0C.drewN{X:Nat->Bool}{a:Nat}{w:World}(h:a0C X a w)(n:Nat):a0C X a (w.drewN n):=h
theorem a1f(X:Nat->Bool)(b:Nat)(n:Int)(w:World)(j:a0C X b w)(K:n<=1099511627776):Calls Tryz.prog 21 #[.pointer (some ⟨b,0,none⟩), .int .i64 n] w (b6n X b w n):=by
 obtain⟨lo,l,cap,at_,F,G,I,J,hat,A,c⟩:=j.cells;have B:=A.hd;by_cases y:n<1
 ·have hd:decide (n<1)=true:=decide_eq_true y
  go_enter Tryz.func21,Tryz.ntmps21
  go_wp2_with fail
  go_quiet (fail)
  go_wp2_with fail
  go_ret
  exact⟨(ExtX.refl _).drewN _,j.drewN _,0,rfl, .inr rfl⟩
 have hd:decide (n<1)=false:=decide_eq_false y;by_cases z:at_<l.length
 ·obtain⟨e,a,t,u⟩:=c (at_+1) (by omega)
  have d:=(A.mono (a0v.mono _) (a0r a (a3e j.1))).int at_ z;obtain⟨x,hx⟩:∃x,l[at_]=x:=⟨_,rfl⟩;rw[hx]at d;clear hx c;have v:((at_+1:Nat):Int)=(at_:Int)+1:=by omega
  rw[v]at t u d e a;have C:∀N,((w.drewN N).setCell ⟨b,1,none⟩ (.int .i64 ((at_:Int)+1))).cell? ⟨b,0,none⟩=some (.slice lo l.length cap):=fun _=>t;have D:∀N,((w.drewN N).setCell ⟨b,1,none⟩ (.int .i64 ((at_:Int)+1))).cell? ⟨b,1,none⟩=some (.int .i64 ((at_:Int)+1)):=fun _=>u;have E:∀N,((w.drewN N).setCell ⟨b,1,none⟩ (.int .i64 ((at_:Int)+1))).cell? (adr lo at_)=some (.int .i64 x):=fun _=>d;have H:IntKind.i64.wrap ((at_:Int)+1 - 1)=(at_:Int):=by rw[IntWalk.i64_in _ (by omega)];omega
  have i:∀N,a0C X b ((w.drewN N).setCell ⟨b,1,none⟩ (.int .i64 ((at_:Int)+1))):=fun _=>e;have f:∀N,ExtX (tbm b) w ((w.drewN N).setCell ⟨b,1,none⟩ (.int .i64 ((at_:Int)+1))):=fun _=>⟨a.os,a.tape,a.output,a.size,a.block⟩;have s:=hid i;have k:=hid f;clear v e a t u i f;have o:decide ((l.length:Int)<=(at_:Int))=false:=decide_eq_false (by omega);have L:∀W,(Instr.indexAt 22 (.slice lo l.length cap) (.int .i64 (at_:Int))).run Tryz.prog W= .ok (.pointer (some (adr lo at_))) W:=a0E a2b lo l.length cap .i64 at_ B z rfl;go_enter Tryz.func21,Tryz.ntmps21
  go_wp2_with fail
  go_quiet (fail)
  go_wp2_with fail
  have g:=Int.emod_nonneg x (show n≠0 by omega);have h:=Int.emod_lt_of_pos x (show 0<n by omega);obtain⟨m,p⟩:=Int.eq_ofNat_of_zero_le g;have q:=hid p;have r:Hid ((m:Int)<n):=hid (by rw[<-p];exact h);clear p g h
  go_quiet ((go_at_call 83;exact Calls.quiet_of_same (b3U x n _ (by omega) (by omega))))
  go_wp2_with fail
  go_ret
  exact⟨(k.out _).drewN _,(s.out _).drewN _,m,a0I q.out, .inl r.out⟩
 ·have o:decide ((l.length:Int)<=(at_:Int))=true:=decide_eq_true (by omega)
  go_enter Tryz.func21,Tryz.ntmps21
  go_wp2_with fail
  go_quiet (fail)
  go_wp2_with fail
  go_ret
  exact⟨(ExtX.refl _).drewN _,j.drewN _,0,rfl, .inr rfl⟩
def b3V(X:Nat->Bool)(tb:Nat)(w:World)(e:Ending)(w':World):Prop:=ExtX (tbm tb) w w'/\a0C X tb w'/\∃b:Bool,e= .returned (.bool b)
def a9a(X:Nat->Bool)(tb:Nat)(w:World)(lo hi:Int)(e:Ending)(w':World):Prop:=ExtX (tbm tb) w w'/\a0C X tb w'/\∃m:Int,e= .returned (.int .i64 m)/\lo<=m/\m<=hi
theorem a4I(X:Nat->Bool)(a:Nat)(n:Int)(w:World)(f:a0C X a w)(g: -1000<=n)(d:n<=1099511627776):Calls Tryz.prog 16 #[.pointer (some ⟨a,0,none⟩), .int .i64 n] w (b3V X a w):=by
 go_enter Tryz.func16,Tryz.ntmps16
 go_wp2_with fail
 refine(a1f X a n _ f d).mono ?_;rintro e w1 ⟨c,b,m,rfl,h⟩;go_wp2_with fail
 go_ret
 exact⟨c,b,_,rfl⟩
theorem b3W(X:Nat->Bool)(d:Nat)(lo:Option Addr)(l:List Int)(cap:Nat)(w:World)(a b:Int)(k:a0C X d w)(j:Sl (a0v .i64) 1 (mk X w) lo l)(o:0<l.length)(q:l.length<=1000)(f:Hid (∀x∈l,a<=x/\x<=b)):Calls Tryz.prog 82 #[.pointer (some ⟨d,0,none⟩), .slice lo l.length cap] w (a9a X d w a b):=by
 have p:=j.hd;go_enter Tryz.func82,Tryz.ntmps82
 go_wp2_with fail
 refine(a1f X d _ _ k (by omega)).mono ?_;rintro e w1 ⟨i,h,m,rfl,r⟩;have c:m<l.length:=by omega
 have n:=(j.mono (a0v.mono _) (a0r i (a3e k.1))).int m c;have g:=f.out l[m] (List.getElem_mem c);obtain⟨x,hx⟩:∃x,l[m]=x:=⟨_,rfl⟩;rw[hx]at n g;clear hx;go_wp2_with (with_reducible refine a0m a2b (by omega) (by assumption) ?_)
 go_ret
 exact⟨i,h,x,rfl,g.1,g.2⟩
theorem a9P(lo:Option Addr)(l:List Int)(cap:Nat)(w:World)(c:Sl (a0v .i64) 1 w.cell? lo l)(i:l.length<=cap)(m:l.length<=9223372036854775807):Calls Tryz.prog 14 #[.slice lo l.length cap] w (fun e f=>e= .returned (.pointer (some ⟨w.heap.size,0,none⟩))/\Ext w f/\a0C (tbm w.heap.size) w.heap.size f/\f.heap.size=w.heap.size+1):=by
 have a:∀(l:List Int),l.length<=400->Sl (a0v .i64) 1 w.cell? lo l->a0C (tbm w.heap.size) w.heap.size (w.alloc (.cells #[.slice lo l.length cap, .int .i64 0] 103)):=by
  intro l i c;refine⟨b3T _,lo,l,cap,0,heap_alloc_new w _,i,Nat.zero_le _,?_⟩;rw[<-a3k]at c;refine c.mono (a0v.mono _) (a0T ((ExtX.refl (Y:=noY) w).alloc _) (fun k _ h=>by simp[noY]at h) fun k h hz=>?_);have:k=w.heap.size:=by simpa[tbm]using hz
  omega
 have g:∀u v,Ext w (w.alloc (.cells #[u,v] 103)):=fun u v=>(ExtX.refl w).alloc _;by_cases j:400<l.length
 ·have d:=hid (a (l.take 400) (by simp;omega) (c.take 400))
  have b:(l.take 400).length=400:=by simp;omega
  rw[b]at d;clear a b;go_enter Tryz.func14,Tryz.ntmps14
  go_wp2_with fail
  go_ret
  exact⟨rfl,g _ _,d.out,by simp⟩
 ·have d:=hid (a l (by omega) c)
  clear a;go_enter Tryz.func14,Tryz.ntmps14
  go_wp2_with fail
  go_ret
  exact⟨rfl,g _ _,d.out,by simp⟩
theorem b2e(l:List Int):(l.map (Value.int .i64)).flatMap a0g=l.map (Value.int .i64):=by
 induction l with
 |nil=>rfl
 |cons x l ih=>simp only[List.map_cons,List.flatMap_cons,ih];rfl
theorem b2f(X:Nat->Bool)(w:World)(l:List Int)(e:TypeId)(a:Array Value)(b:a=(l.map (Value.int .i64)).toArray)(c:∀k,X k=true->k<w.heap.size)(f:l.length<=1000):OL (a0v .i64) 1 X w.heap.size e (w.alloc (.cells a e)) (some ⟨w.heap.size,0,none⟩) l.length l:=by
 refine OL.lit (a0v.elem .i64) c (Nat.le_refl _) (l.map (Value.int .i64)) l a ?_ (by simp) (fun i hi d=>by simp[a0v]) (by omega);rw[b,b2e]
theorem a7x(X:Nat->Bool)(g:Nat)(l:List Int)(c:Array Value)(e:TypeId)(len:Nat)(w:World)(a b:Int)(q:a0C X g w)(p:∀k,X k=true->k<w.heap.size)(d:c=(l.map (Value.int .i64)).toArray)(f:len=l.length)(o:0<l.length)(n:l.length<=1000)(i:Hid (∀x∈l,a<=x/\x<=b)):Calls Tryz.prog 82 #[.pointer (some ⟨g,0,none⟩), .slice (some ⟨w.heap.size,0,none⟩) len len] (w.alloc (.cells c e)) (a9a X g w a b):=by
 subst f;have m:Ext w (w.alloc (.cells c e)):=(ExtX.refl w).alloc _;refine(b3W X g _ l _ _ a b (q.ext m) (OL.sl (a0v.elem .i64) (b2f X w l e c d p n)) o n i).mono ?_;rintro s t ⟨h,j,r⟩;exact⟨(ExtX.of m).trans h,j,r⟩
theorem a8f(X:Nat->Bool)(g:Nat)(n:Int)(w:World)(r:a0C X g w)(o:∀k,X k=true->k<w.heap.size)(s: -1000<=n)(q:n<=1099511627776):Calls Tryz.prog 20 #[.pointer (some ⟨g,0,none⟩), .int .i64 n] w (a9a X g w (min (-1) n) (max 1 (n+1))):=by
 go_enter Tryz.func20,Tryz.ntmps20
 go_wp2_with fail
 refine(a1f X g 4 _ r (by omega)).mono ?_;rintro e w1 ⟨i,f,m,rfl,v⟩;have h:∀k,X k=true->k<w1.heap.size:=fun k p=>Nat.lt_of_lt_of_le (o k p) i.size;by_cases t:m<3
 ·by_cases u:0<n
  ·go_wp2_with fail
   refine(a1f X g n _ f q).mono ?_;rintro e l ⟨a,b,j,rfl,c⟩;go_wp2_with fail
   go_ret
   exact⟨i.trans a,b,_,rfl,by omega,by omega⟩
  ·go_wp2_with fail
   refine(a7x X g [0,n,n+1,-1,1] _ _ _ w1 (min (-1) n) (max 1 (n+1)) f h rfl rfl (by simp) (by simp) (hid (by simp;omega))).mono ?_;rintro e l ⟨a,b,j,rfl,c,d⟩;go_wp2_with fail
   go_ret
   exact⟨i.trans a,b,_,rfl,c,d⟩
 ·go_wp2_with fail
  refine(a7x X g [0,n,n+1,-1,1] _ _ _ w1 (min (-1) n) (max 1 (n+1)) f h rfl rfl (by simp) (by simp) (hid (by simp;omega))).mono ?_;rintro e l ⟨a,b,j,rfl,c,d⟩;go_wp2_with fail
  go_ret
  exact⟨i.trans a,b,_,rfl,c,d⟩
theorem a0C.unstep{X:Nat->Bool}{b:Nat}{w f:World}{oo a:Option Addr}(h:a0C (un X oo) b w)(e:ob oo b=false)(d:ExtX (ob oo) w f)(o:a=oo\/∃g,a=some ⟨g,0,none⟩/\w.heap.size<=g):a0C (un X a) b f:=by
 have c:=h.lt;obtain⟨n,lo,l,cap,at_,i,j,k,m⟩:=h;refine⟨?_,lo,l,cap,at_,by rw[d.block b c e];exact i,j,k,m.unstep (a0v.mono _) d o⟩;have:X b=true:=by simpa[un,e]using n
 exact a0o this
theorem a0C.unX{X:Nat->Bool}{a:Nat}{w:World}{oo:Option Addr}(h:a0C (un X oo) a w)(f:X a=true):a0C X a w:=by
 obtain⟨_,lo,l,cap,at_,b,c,d,e⟩:=h;exact⟨f,lo,l,cap,at_,b,c,d,e.unX (a0v.mono _)⟩
theorem a9b(X:Nat->Bool):un X none=X:=by funext k;simp[un,ob]
theorem a0C.none{X:Nat->Bool}{a:Nat}{w:World}(h:a0C X a w):a0C (un X none) a w:=by rw[a9b];exact h
theorem a0C.old{X:Nat->Bool}{b:Nat}{w d:World}{oo:Option Addr}(h:a0C X b w)(c:Ext w d)(m:∀j,j<w.heap.size->ob oo j=false):a0C (un X oo) b d:=by
 have a:=h.lt;obtain⟨k,lo,l,cap,at_,e,f,g,i⟩:=h;exact⟨a0o k,lo,l,cap,at_,by rw[c.block b a rfl];exact e,f,g,i.old (a0v.mono _) c m⟩
theorem _root_.Go.Rep.OL.not_ob{α:Type}{R:Mem->Value->α->Prop}{sz base cap:Nat}{e:TypeId}{ao:Option Addr}{l:List α}{X:Nat->Bool}{w:World}(c:OL R sz X base e w ao cap l){k:Nat}(a:X k=true):ob ao k=false:=by
 have h:∀k,ob ao k=true->X k=false:=c.1;cases b:ob ao k
 ·rfl
 ·rw[h k b]at a;simp at a
end Go.Proofs.YtnnpfhoigmegcaaGreat
namespace Go.Lin
open Go.Lim Go.Rep
end Go.Lin
namespace Go.Proofs.YtnnpfhoigmegcaaGreat
open Go.RowKit Go.Rep Go.Lim Go.Lin
theorem b6o(X:Nat->Bool)(w:World)(u:Value)(m:List (List Rat))(k:HX X w)(n:MV (mk X w) u m)(i:a1o m=true)(r:b5v m (a0n m)):Calls Tryz.prog 189 #[u] w (fun e x=>Ext w x/\e= .returned (.tuple #[.int .i64 (b1z m (a0n m):Int), .int .i64 0])):=by
 obtain⟨d,o,l,_,_⟩:=a1V i;have c:=a6D X w u m n (by omega);rw[i]at c;have h:=a6E X w u m m.length (a0n m) k n d rfl (by omega) (by omega);have j:Hid ((eN m (a0n m)).2.1.length=b1z m (a0n m)):=hid rfl;clear i;go_enter Tryz.func189,Tryz.ntmps189
 go_wp2_with fail
 refine c.mono ?_;rintro e w1 ⟨rfl,rfl⟩;go_wp2_with fail
 refine h.mono ?_;rintro e y ⟨a,ao,cap,t,rfl,b⟩;go_wp2_with fail
 refine(a5Z X _ y ao cap m.length (a0n m) t m (k.ext a) b d rfl (by omega) (by omega) r).mono ?_;rintro e B ⟨f,A,z,v,rfl,s,p,q⟩;have g:=b.ext_from a (Nat.le_refl _) f;rw[j.out];go_wp2_with fail
 go_ret2
 exact⟨g,rfl⟩
end Go.Proofs.YtnnpfhoigmegcaaGreat
namespace Go.Rep
open Go.RowKit
end Go.Rep
namespace Go.Lin
open Go.Lim Go.Rep
end Go.Lin
namespace Go.Proofs.YtnnpfhoigmegcaaGreat
open Go.RowKit Go.Rep Go.Lim Go.Lin
theorem Bx.store{w:World}{b:Nat}{v0:Value}{T:TypeId}(h:Bx w b #[v0] T)(v:Value):Bx (w.setCell ⟨b,0,none⟩ v) b #[v] T/\ExtX (ob (some ⟨b,0,none⟩)) w (w.setCell ⟨b,0,none⟩ v):=by
 obtain⟨a,c⟩:=a0G h v (i:=0) (by simp);exact⟨by simpa using a,c⟩
end Go.Proofs.YtnnpfhoigmegcaaGreat
namespace Go.Lin
open Go.Lim Go.Rep
end Go.Lin
namespace Go.Proofs.YtnnpfhoigmegcaaGreat
open Go.RowKit Go.Rep Go.Lim Go.Lin
theorem b7A(X:Nat->Bool)(w:World)(u:Value)(x:Rat)(y:HX X w)(h:QV (mk X w) u x):Calls Tryz.prog 109 #[u] w (a1F X w QC x):=by
 obtain⟨E,p,C,q,r,B,s,rfl⟩:=h.shape;obtain⟨W,J,n,f,m,hz⟩:=a1a w #[.bool E, .slice p C q, .slice r B s] #[.bool false, .slice none 0 0, .slice none 0 0] 41 41;have d:HX (a0e X w.heap.size 2) W:=y.boxes hz;have e:=QV.mono _ _ _ _ (a0i (nb:=2) n) h;obtain⟨b,z⟩:∃b,w.heap.size=b:=⟨_,rfl⟩;have A:w.heap.size<=b:=by omega
 rw[z]at f m hz d e;have j:=f.cell 0 rfl;have k:=f.cell 1 rfl;have l:=f.cell 2 rfl;have t:QV (mk (a0e X b 2) W) (.agg #[.bool false, .slice none 0 0, .slice none 0 0]) 0:=(QC.zero _).qv (by decide+kernel);have i:x+0=x:=by grind
 clear h;go_enter Tryz.func109,Tryz.ntmps109
 go_wp2_with fail
 refine(b6S (a0e X b 2) W _ _ x 0 d e t).mono ?_;rintro I O ⟨c,N,rfl,a⟩;rw[i]at a;obtain⟨M,F,L,G,H,K,e5,rfl⟩:=a.shape;have g:=m.ext0 c;clear j k l;go_wp2_with ((with_reducible show wpList _ _ _ (⟨_, .store 41 _ _,_,_,_,_⟩::_) _ _);refine a0a a0k rfl rfl g rfl rfl (a1n _ _ _ _ _ _ _) ?_;intro P D o)
 have v:=QC.mono _ _ _ _ a0h (QC.mono _ _ _ _ (a0f o (by omega) (by omega)) a);exact bodyPost_ret (a0d rfl rfl a0k D rfl) rfl ⟨ExtX.box (n.trans c) o (by omega),_,rfl,v⟩
theorem b8A(X:Nat->Bool)(w:World)(u v:Value)(x y:Rat)(hX:HX X w)(H:QV (mk X w) u x)(I:QV (mk X w) v y):Calls Tryz.prog 163 #[u,v] w (b5U X w (x/y) (e5 (decide (y=0)))):=by
 have a3:=hid H.hq;have a4:=hid I.hq;obtain⟨s1,T,n1,Y,d1,k1,e1,rfl⟩:=H.shape;obtain⟨s2,U,n2,Z,d2,k2,e2,rfl⟩:=I.shape;obtain⟨W,hW,G,A,B,V,hz⟩:=a1P w #[.bool s1, .slice T n1 Y, .slice d1 k1 e1] #[.bool s2, .slice U n2 Z, .slice d2 k2 e2] #[.bool false, .slice none 0 0, .slice none 0 0] 41 41 41;have f:HX (a0e X w.heap.size 3) W:=hX.boxes hz;have m:=QV.mono _ _ _ _ (a0i (nb:=3) G) H;have g:=QV.mono _ _ _ _ (a0i (nb:=3) G) I;obtain⟨b,hb⟩:∃b,w.heap.size=b:=⟨_,rfl⟩;have a0:w.heap.size<=b:=by omega
 rw[hb]at A B V hz f m g;have L:Ext W W.drew:=(ExtX.refl W).drew;have M:HX (a0e X b 3) W.drew:=f;have O:QV (mk (a0e X b 3) W.drew) (.agg #[.bool s1, .slice T n1 Y, .slice d1 k1 e1]) x:=m;have P:QV (mk (a0e X b 3) W.drew) (.agg #[.bool s2, .slice U n2 Z, .slice d2 k2 e2]) y:=g;have o:=A.cell 0 rfl;have p:=A.cell 1 rfl;have r:=A.cell 2 rfl;have s:=B.cell 0 rfl;have t:=B.cell 1 rfl;have z:=B.cell 2 rfl;clear H I;obtain⟨F,c⟩:∃F:Int,e5 (decide (y=0))=F:=⟨_,rfl⟩;obtain⟨q,d⟩:∃q:Rat,x/y=q:=⟨_,rfl⟩;rw[c,d];clear L M O P;go_enter Tryz.func163,Tryz.ntmps163
 go_wp2_with fail
 refine(a5V (a0e X b 3) W _ y f g).mono ?_;rintro e w5 ⟨a,rfl⟩;have j:=A.ext0 a;have k:=B.ext0 a;have C:=V.ext0 a;clear o p r s t z;by_cases i:y=0
 ·have l:Hid ((5:Int)=F):=hid (by rw[<-c,decide_eq_true i];rfl)
  have E:Hid ((0:Rat)=q):=hid (by rw[<-d,i,Rat.div_def,Rat.inv_zero,Rat.mul_zero]);have hI:(y.num.sign==0)=true:=by rw[i];rfl
  generalize y.num.sign=S at*;clear i c d;go_wp2_with ((with_reducible show wpList _ _ _ (⟨_, .store _ _ _,_,_,_,_⟩::_) _ _);refine a0a a0k rfl rfl C rfl rfl (a1n _ _ _ _ _ _ _) ?_;intro w7 R J)
  exact bodyPost_ret (a0D rfl rfl a0k R rfl) rfl ⟨ExtX.box (G.trans a) J (by omega),_,by rw[<-l.out];rfl,by rw[<-E.out];exact QC.zero _⟩
 ·have l:Hid ((0:Int)=F):=hid (by rw[<-c,decide_eq_false i];rfl)
  have hI:(y.num.sign==0)=false:=by
   rw[beq_eq_false_iff_ne];intro h;exact i (Rat.num_eq_zero.1 (Int.sign_eq_zero_iff_zero.1 h))
  have Q:=hid i;have N:=hid d;generalize y.num.sign=S at*;have o:=j.cell 0 rfl;have p:=j.cell 1 rfl;have r:=j.cell 2 rfl;have s:=k.cell 0 rfl;have t:=k.cell 1 rfl;have z:=k.cell 2 rfl;clear i c d;go_wp2_with fail
  refine(b7s (a0e X b 3) w5 _ _ x y (f.ext a) (mkx QV.mono m a) (mkx QV.mono g a) Q.out).mono ?_;rintro e w6 ⟨D,u6,rfl,n⟩;obtain⟨s5,a5,n5,c5,d5,k5,e5,rfl⟩:=n.shape;rw[N.out]at n;have K:=C.ext0 D;clear o p r s t z;go_wp2_with ((with_reducible show wpList _ _ _ (⟨_, .store _ _ _,_,_,_,_⟩::_) _ _);refine a0a a0k rfl rfl K rfl rfl (a1n _ _ _ _ _ _ _) ?_;intro w7 R J)
  have h7:=QC.mono _ _ _ _ a0h (QC.mono _ _ _ _ (a0f J (by omega) (by omega)) n);exact bodyPost_ret (a0D rfl rfl a0k R rfl) rfl ⟨ExtX.box (G.trans (a.trans D)) J (by omega),_,by rw[<-l.out];rfl,h7⟩
end Go.Proofs.YtnnpfhoigmegcaaGreat
namespace Go.Lin
open Go.Lim
structure Mom where
 n:Int
 xx:Mat
 xy:List Rat
 yy:Rat
end Go.Lin
namespace Go.Rep
open Go.RowKit Go.Lim
def BlR:Mem->Value->Bool->Prop:=fun _ u b=>u= .bool b
theorem BlR.mono:a2X BlR:=fun _ _ _ _ _ h=>h
theorem BlR.elem:Elem BlR 1:=⟨fun _ _ _ _ _ h=>h,by rintro h u x rfl;rfl,by
 rintro h u x rfl c a;simp[a0g,Value.cells]at a;subst a;rfl,Nat.one_pos⟩
theorem BlR.one:a2Y BlR:=by rintro h u x rfl;rfl
theorem Sl.bl{h:Mem}{ao:Option Addr}{l:List Bool}(s:Sl BlR 1 h ao l)(i:Nat)(hi:i<l.length):h (adr ao i)=some (.bool l[i]):=by
 obtain⟨u,a,rfl⟩:=s.cell BlR.one i hi;exact a
def b6T(A:Mem->Value->List (List Rat)->Prop)(B:Mem->Value->List Rat->Prop)(C:Mem->Value->Rat->Prop)(h:Mem)(u:Value)(m:Go.Lin.Mom):Prop:=
 ∃xo xl xc yo yl yc s a n c d k e,u= .agg #[.int .i64 m.n, .slice xo xl xc, .slice yo yl yc, .bool s, .slice a n c, .slice d k e]/\A h (.slice xo xl xc) m.xx/\B h (.slice yo yl yc) m.xy/\C h (.agg #[.bool s, .slice a n c, .slice d k e]) m.yy
def b8B:=b6T MV RV QV
def b8c:=b6T MC RC QC
theorem b6T.mono{A:Mem->Value->List (List Rat)->Prop}{B:Mem->Value->List Rat->Prop}{C:Mem->Value->Rat->Prop}(j:a2X A)(l:a2X B)(o:a2X C):a2X (b6T A B C):=by
 rintro h x u m b ⟨r,q,p,w,v,t,s,a,n,c,d,k,e,rfl,f,g,i⟩;exact⟨r,q,p,w,v,t,s,a,n,c,d,k,e,rfl,j _ _ _ _ b f,l _ _ _ _ b g,o _ _ _ _ b i⟩
theorem b8B.mono:a2X b8B:=b6T.mono MV.mono RV.mono QV.mono
theorem b8c.mono:a2X b8c:=b6T.mono MC.mono RC.mono QC.mono
def BMo(B:Nat)(m:Go.Lin.Mom):Prop:=BM B m.xx/\BR B m.xy/\hq m.yy<=B
theorem b8c.mv{h:Mem}{u:Value}{m:Go.Lin.Mom}(s:b8c h u m)(b:BMo 68719476736 m):b8B h u m:=by
 obtain⟨o,l,j,r,q,p,s,a,n,c,d,k,e,rfl,f,g,i⟩:=s;exact⟨o,l,j,r,q,p,s,a,n,c,d,k,e,rfl,f.mv b.1,g.rv b.2.1,i.qv b.2.2⟩
end Go.Rep
namespace Go.Lin
structure Fit where
 rank:Nat
 used:List Bool
 coef:List Rat
 res:List Rat
 rss:Rat
 lev:List Rat
end Go.Lin
namespace Go.Rep
def b8T(h:Mem)(v:Value)(f:Go.Lin.Fit):Prop:=
 ∃uo uc co cl cc ro rl rc s a n c d k e lo ll lc,v= .agg #[.int .i64 (f.rank:Int), .slice uo f.used.length uc, .slice co cl cc, .slice ro rl rc, .bool s, .slice a n c, .slice d k e, .slice lo ll lc]/\f.used.length<=uc/\Sl BlR 1 h uo f.used/\RC h (.slice co cl cc) f.coef/\RC h (.slice ro rl rc) f.res/\QC h (.agg #[.bool s, .slice a n c, .slice d k e]) f.rss/\RC h (.slice lo ll lc) f.lev
theorem b8T.mono:a2X b8T:=by
 rintro h B u f b ⟨A,z,j,i,g,y,x,w,s,a,n,c,d,k,e,lo,v,t,rfl,l,m,o,p,q,r⟩;exact⟨A,z,j,i,g,y,x,w,s,a,n,c,d,k,e,lo,v,t,rfl,l,m.mono BlR.mono b,RC.mono _ _ _ _ b o,RC.mono _ _ _ _ b p,QC.mono _ _ _ _ b q,RC.mono _ _ _ _ b r⟩
open Go.RowKit Go.Lim
section
variable {P:Program} {ops:Array Oper} {Q:Exit->Act->World->Prop} {rest:List Oper} {a:Act} {w:World}
variable {d:Option Tmp} {ty:TypeId} {ps:String} {af:Array Edge}
theorem a7y{o:Oper}{K:Act->World->Prop}{E:Prop}{t:TypeId}{x y:Operand}{n b:Nat}{i e:Array Value}{T:TypeId}(q:o.guard=none)(g:o.op= .store t x y)(m:a2e P t n)(hx:a.eval x= .pointer (some ⟨b,0,none⟩))(u:a.eval y= .agg e)(p:Bx w b i T)(f:i.size=n)(h:e.size=n)(c:∀v∈e.toList,v.oneCell'=true)(l:∀d,Bx d b e T->ExtX (ob (some ⟨b,0,none⟩)) w d->K (a.put o.dst undef) d):if Region.wanted o (yielded ops a.tmps)=true then Oper.wp P o a w K Q else E:=by
 have s:Region.wanted o (yielded ops a.tmps)=true:=by simp[Region.wanted,q]
 rw[if_pos s];obtain⟨d,r,j,k⟩:=a5n (P:=P) m p f h c;unfold Oper.wp execOp;rw[g];simp[hx,u,Instr.storeAt,Instr.sureAddr,r,Result.andThen];exact l d j k
theorem a6o{o:Oper}{K:Act->World->Prop}{E:Prop}{t:TypeId}{x y:Operand}{b i:Nat}{d:Array Value}{v:Value}{T:TypeId}(r:o.guard=none)(f:o.op= .store t x y)(n:TyI P t 1)(hx:a.eval x= .pointer (some ⟨b,i,none⟩))(B:a.eval y=v)(z:v.cells=#[v])(c:v.oneCell'=true)(e:Bx w b d T)(hi:i<d.size)(m:∀j,Bx j b (d.set i v) T->ExtX (ob (some ⟨b,0,none⟩)) w j->K (a.put o.dst undef) j):if Region.wanted o (yielded ops a.tmps)=true then Oper.wp P o a w K Q else E:=by
 have A:Region.wanted o (yielded ops a.tmps)=true:=by simp[Region.wanted,r]
 rw[if_pos A];obtain⟨ti,s,h⟩:=n;obtain⟨k,l⟩:=a0G e v hi;have p:=e.cell i (u:=d[i]) (by simp[hi]);have q:=e.frozen i;unfold Oper.wp execOp;rw[f];subst B;have g:=run_store P w ⟨b,i,none⟩ (a.eval y) .plain c;rw[p,q]at g;simp only[Bool.false_eq_true,if_false]at g;simp[hx,Instr.storeAt,Instr.sureAddr,storeVar,sizeOf,typeInfo,s,h,z,Result.andThen,storeCells,Addr.add_zero',g];exact m _ k l
theorem a9b(X:Nat->Bool):un X none=X:=by funext k;simp[un,ob]
end
end Go.Rep
namespace Go.Proofs.YtnnpfhoigmegcaaGreat
open Go.RowKit Go.Rep
open Go.Lim
theorem b6p(X:Nat->Bool)(w:World)(u v:Value)(x y:Rat)(Q:HX X w)(i:QV (mk X w) u x)(j:QV (mk X w) v y):Calls Tryz.prog 94 #[u,v] w (a8n w (decide (b1A x y<0))):=by
 have T:=hid i.hq;have U:=hid j.hq;obtain⟨O,B,M,D,F,K,H,rfl⟩:=i.shape;obtain⟨P,C,N,E,G,L,I,rfl⟩:=j.shape;obtain⟨W,V,k,g,h,hz⟩:=a1a w #[.bool O, .slice B M D, .slice F K H] #[.bool P, .slice C N E, .slice G L I] 41 41;have a:HX (a0e X w.heap.size 2) W:=Q.boxes hz;have d:=QV.mono _ _ _ _ (a0i (nb:=2) k) i;have f:=QV.mono _ _ _ _ (a0i (nb:=2) k) j;obtain⟨b,R⟩:∃b,w.heap.size=b:=⟨_,rfl⟩;have S:w.heap.size<=b:=by omega
 rw[R]at g h hz a d f;have m:Ext W W.drew:=(ExtX.refl W).drew;have n:HX (a0e X b 2) W.drew:=a;have o:QV (mk (a0e X b 2) W.drew) (.agg #[.bool O, .slice B M D, .slice F K H]) x:=d;have p:QV (mk (a0e X b 2) W.drew) (.agg #[.bool P, .slice C N E, .slice G L I]) y:=f;have q:=g.cell 0 rfl;have r:=g.cell 1 rfl;have s:=g.cell 2 rfl;have t:=h.cell 0 rfl;have z:=h.cell 1 rfl;have A:=h.cell 2 rfl;clear i j;obtain⟨c,J⟩:∃c:Int,b1A x y=c:=⟨_,rfl⟩;have hq:=b3x (a0e X b 2) W _ _ x y a d f;rw[J]at hq |-;clear m n o p J;go_enter Tryz.func94,Tryz.ntmps94
 go_wp2_with fail
 refine hq.mono ?_;rintro e Y ⟨l,rfl⟩;clear q r s t z A hq;go_wp2_with fail
 go_ret
 exact⟨k.trans l,rfl⟩
theorem b7B(X:Nat->Bool)(w:World)(u v:Value)(x y:Rat)(hX:HX X w)(l:QV (mk X w) u x)(m:QV (mk X w) v y):Calls Tryz.prog 152 #[u,v] w (a1F X w QC (x/y)):=by
 have a3:=hid l.hq;have a4:=hid m.hq;obtain⟨s1,H,n1,L,O,V,R,rfl⟩:=l.shape;obtain⟨s2,I,n2,M,P,Y,S,rfl⟩:=m.shape;obtain⟨W,hW,o,j,k,K,hz⟩:=a1P w #[.bool s1, .slice H n1 L, .slice O V R] #[.bool s2, .slice I n2 M, .slice P Y S] #[.bool false, .slice none 0 0, .slice none 0 0] 41 41 41;have a:HX (a0e X w.heap.size 3) W:=hX.boxes hz;have c:=QV.mono _ _ _ _ (a0i (nb:=3) o) l;have d:=QV.mono _ _ _ _ (a0i (nb:=3) o) m;obtain⟨b,hb⟩:∃b,w.heap.size=b:=⟨_,rfl⟩;have a0:w.heap.size<=b:=by omega
 rw[hb]at j k K hz a c d;have p:Ext W W.drew:=(ExtX.refl W).drew;have r:HX (a0e X b 3) W.drew:=a;have s:QV (mk (a0e X b 3) W.drew) (.agg #[.bool s1, .slice H n1 L, .slice O V R]) x:=c;have t:QV (mk (a0e X b 3) W.drew) (.agg #[.bool s2, .slice I n2 M, .slice P Y S]) y:=d;have z:=j.cell 0 rfl;have A:=j.cell 1 rfl;have B:=j.cell 2 rfl;have C:=k.cell 0 rfl;have D:=k.cell 1 rfl;have E:=k.cell 2 rfl;clear l m;obtain⟨T,g⟩:∃T:Int,e5 (decide (y=0))=T:=⟨_,rfl⟩;obtain⟨q,hq⟩:∃q:Rat,x/y=q:=⟨_,rfl⟩;have hd:=b8b (a0e X b 3) W _ _ x y a c d;rw[g,hq]at hd;rw[hq];clear p r s t g hq;go_enter Tryz.func152,Tryz.ntmps152
 go_wp2_with fail
 refine hd.mono ?_;rintro e F ⟨f,u5,rfl,h⟩;have i:=hid h;obtain⟨s5,J,n5,N,Q,Z,U,rfl⟩:=h.shape;have b5:=K.ext0 f;have n:Ext F (F.alloc (.cells #[.bool s5, .slice J n5 N, .slice Q Z U] 41)):=(ExtX.refl _).alloc _;have G:=Bx.new F #[.bool s5, .slice J n5 N, .slice Q Z U] 41;have p0:=G.cell 0 rfl;have p1:=G.cell 1 rfl;have p2:=G.cell 2 rfl;have b6:=b5.ext0 n;clear z A B C D E hd;go_wp2_with ((with_reducible show wpList _ _ _ (⟨_, .store 41 _ _,_,_,_,_⟩::_) _ _);refine a0a a0k rfl rfl b6 rfl rfl (a1n _ _ _ _ _ _ _) ?_;intro w7 r1 r2)
 have h7:=QC.mono _ _ _ _ a0h (QC.mono _ _ _ _ (a0f r2 (by omega) (by omega)) (mkx QC.mono i.out n));exact bodyPost_ret (a0d rfl rfl a0k r1 rfl) rfl ⟨ExtX.box (o.trans (f.trans n)) r2 (by omega),_,rfl,h7⟩
theorem b3X(X:Nat->Bool)(w:World)(u v:Value)(x y:Rat)(hX:HX X w)(l:QV (mk X w) u x)(m:QV (mk X w) v y):Calls Tryz.prog 78 #[u,v] w (a1F X w QC (x/y)):=by
 have a3:=hid l.hq;have a4:=hid m.hq;obtain⟨s1,H,n1,L,O,V,R,rfl⟩:=l.shape;obtain⟨s2,I,n2,M,P,Y,S,rfl⟩:=m.shape;obtain⟨W,hW,o,j,k,K,hz⟩:=a1P w #[.bool s1, .slice H n1 L, .slice O V R] #[.bool s2, .slice I n2 M, .slice P Y S] #[.bool false, .slice none 0 0, .slice none 0 0] 41 41 41;have a:HX (a0e X w.heap.size 3) W:=hX.boxes hz;have c:=QV.mono _ _ _ _ (a0i (nb:=3) o) l;have d:=QV.mono _ _ _ _ (a0i (nb:=3) o) m;obtain⟨b,hb⟩:∃b,w.heap.size=b:=⟨_,rfl⟩;have a0:w.heap.size<=b:=by omega
 rw[hb]at j k K hz a c d;have p:Ext W W.drew:=(ExtX.refl W).drew;have r:HX (a0e X b 3) W.drew:=a;have s:QV (mk (a0e X b 3) W.drew) (.agg #[.bool s1, .slice H n1 L, .slice O V R]) x:=c;have t:QV (mk (a0e X b 3) W.drew) (.agg #[.bool s2, .slice I n2 M, .slice P Y S]) y:=d;have z:=j.cell 0 rfl;have A:=j.cell 1 rfl;have B:=j.cell 2 rfl;have C:=k.cell 0 rfl;have D:=k.cell 1 rfl;have E:=k.cell 2 rfl;clear l m;obtain⟨T,g⟩:∃T:Int,e5 (decide (y=0))=T:=⟨_,rfl⟩;obtain⟨q,hq⟩:∃q:Rat,x/y=q:=⟨_,rfl⟩;have hd:=b8A (a0e X b 3) W _ _ x y a c d;rw[g,hq]at hd;rw[hq];clear p r s t g hq;go_enter Tryz.func78,Tryz.ntmps78
 go_wp2_with fail
 refine hd.mono ?_;rintro e F ⟨f,u5,rfl,h⟩;have i:=hid h;obtain⟨s5,J,n5,N,Q,Z,U,rfl⟩:=h.shape;have b5:=K.ext0 f;have n:Ext F (F.alloc (.cells #[.bool s5, .slice J n5 N, .slice Q Z U] 41)):=(ExtX.refl _).alloc _;have G:=Bx.new F #[.bool s5, .slice J n5 N, .slice Q Z U] 41;have p0:=G.cell 0 rfl;have p1:=G.cell 1 rfl;have p2:=G.cell 2 rfl;have b6:=b5.ext0 n;clear z A B C D E hd;go_wp2_with ((with_reducible show wpList _ _ _ (⟨_, .store 41 _ _,_,_,_,_⟩::_) _ _);refine a0a a0k rfl rfl b6 rfl rfl (a1n _ _ _ _ _ _ _) ?_;intro w7 r1 r2)
 have h7:=QC.mono _ _ _ _ a0h (QC.mono _ _ _ _ (a0f r2 (by omega) (by omega)) (mkx QC.mono i.out n));exact bodyPost_ret (a0d rfl rfl a0k r1 rfl) rfl ⟨ExtX.box (o.trans (f.trans n)) r2 (by omega),_,rfl,h7⟩
open Go.Lin Go.Sort Go.Lib Go.Extern
def ltQ(x y:Rat):Bool:=decide (b1A x y<0)
theorem a2s{x y:Rat}:ltQ x y=true↔x<y:=by
 unfold ltQ b1A;simp only[decide_eq_true_eq];split
 ·rename_i h;simp[h]
 ·rename_i h
  constructor
  ·intro a;split at a<;>omega
  ·intro a;exact absurd a h
theorem a3L{x y:Rat}:ltQ x y=false↔y<=x:=by
 rw[<-Rat.not_lt,<-a2s];simp
theorem b6q:SWO ltQ:=
 ⟨fun x=>a3L.2 Rat.le_refl,fun x y z a b=>a2s.2 (by have:=a2s.1 a;have:=a2s.1 b;grind),fun x y z a b=>a3L.2 (Rat.le_trans (a3L.1 b) (a3L.1 a))⟩
structure Sorting (X:Nat->Bool) (base:Nat) (ao:Option Addr) (cap n b:Nat) (d:Array Rat) (w:World):Prop where
 own:OL QC 3 X base 41 w ao cap d.toList
 size:d.size=n
 var:w.cell? ⟨b,0,none⟩=some (.slice ao n cap)
 off:ob ao b=false
 hid:HX X w
 br:BR 68719476736 d.toList
theorem Sorting.ext{X:Nat->Bool}{base:Nat}{ao:Option Addr}{cap n b:Nat}{d:Array Rat}{w c:World}(h:Sorting X base ao cap n b d w)(a:Ext w c):Sorting X base ao cap n b d c:=
 ⟨h.own.ext0 QC.elem a,h.size,a.cell h.var,h.off,h.hid.ext a,h.br⟩
noncomputable def b2g:TypeInfo:=(Tryz.prog.info? 26).get (by kernel_rfl)
noncomputable def a6p:TypeInfo:=(Tryz.prog.info? 41).get (by kernel_rfl)
theorem swK(n:Nat):swapperK n a6p 25=if n=0 then 1 else if n=1 then 2 else 9:=by
 have a:a6p.hasPointers=true:=by kernel_rfl
 have b:(a6p.bytes==8)=false:=by kernel_rfl
 unfold swapperK;by_cases c:n=0
 ·simp[c]
 ·by_cases d:n=1
  ·simp[d]
  ·simp[c,d,a,b]
theorem b3Y(X:Nat->Bool)(w:World)(u:Value)(l:List Rat)(hX:HX X w)(hu:RV (mk X w) u l)(hn:l.length<=1000000)(r:∀k,k<=l.length->hq (sm k (fn l))<=68719476736):Calls Tryz.prog 188 #[u] w (a1F X w QC (sm l.length (fn l))):=by
 obtain⟨ao,ca,rfl,Z,J⟩:=hu;have a0:=J.hd;obtain⟨W,hW,hE,A,o,hz⟩:=a1a w #[.bool false, .slice none 0 0, .slice none 0 0] #[.bool false, .slice none 0 0, .slice none 0 0] 41 41;have E:HX (a0e X w.heap.size 2) W:=hX.boxes hz;have h0:QC (mk (a0e X w.heap.size 2) W) (.agg #[.bool false, .slice none 0 0, .slice none 0 0]) (sm 0 (fn l)):=QC.zero _;obtain⟨n,t⟩:∃n,l.length=n:=⟨_,rfl⟩;rw[t]at hn r Z a0 |-;have f:=hid t;have G:=hid r;clear t r;go_enter Tryz.func188,Tryz.ntmps188
 go_wp2_with fail
 obtain⟨b,hb⟩:∃b,w.heap.size=b:=⟨_,rfl⟩;have a2:Hid (∀wr,Ext w wr->Le (mk X w) (mk (a0e X b 2) wr)):=hid fun wr h=>by rw[<-hb];exact a0i h
 have b5:w.heap.size<=b:=by omega
 rw[hb]at A o E h0 |-;clear hW;go_loopw [8] (fun k wr=>∃(i:Nat) (s:Bool) (a:Option Addr) (O B:Nat) (d:Option Addr) (N e:Nat),k= .int .i64 i/\i<=n/\Bx wr b #[.bool false, .slice none 0 0, .slice none 0 0] 41/\Bx wr (b+1) #[.bool s, .slice a O B, .slice d N e] 41/\QC (mk (a0e X b 2) wr) (.agg #[.bool s, .slice a O B, .slice d N e]) (sm i (fn l))/\HX (a0e X b 2) wr/\Ext w wr) (fun k _=>n - (intOf k).toNat)
 case atStart=>exact⟨0,_,_,_,_,_,_,_,rfl,Nat.zero_le _,A,o,h0,E,hE⟩
 case round=>
  obtain⟨i,s,a,O,B,d,N,e,rfl,hi,A,o,hq,Y,q⟩:=hrel;by_cases a3:i<n
  ·have I:i<l.length:=by rw[f.out];exact a3
   have a6:=J.mono QV.mono (a2.out wr q);have gl:Hid (fn l i=l[i]):=hid (by simp[fn,List.getD_eq_getElem?_getD,I]);have m:Hid (sm i (fn l)+l[i]=sm (i+1) (fn l)):=hid (by rw[<-gl.out];rfl);have H:=hid (G.out i hi);obtain⟨x,hx⟩:∃x,l[i]=x:=⟨_,rfl⟩;rw[hx]at m;have a8:=hid hx;have bx:=Bx.new wr #[.bool false, .slice none 0 0, .slice none 0 0] 41;obtain⟨D,hD⟩:∃D,sm i (fn l)=D:=⟨_,rfl⟩;obtain⟨D2,p⟩:∃D2,sm (i+1) (fn l)=D2:=⟨_,rfl⟩;rw[hD]at hq m H;rw[p]at m;have C:=hid p;clear hx hD p;go_wp2_with (first|(with_reducible refine a1D a0J (by omega) (by assumption) ?_)|((with_reducible show wpList _ _ _ (⟨_, .load 41 _,_,_,_,_⟩::_) _ _);refine a0W a0k i a6 I rfl (by simp) QV.agg ?_;intro u5 v;rw[a8.out]at v;obtain⟨s5,a5,n5,c5,d5,k5,e5,rfl⟩:=v.shape)|((with_reducible show wpList _ _ _ (⟨_, .store _ _ _,_,_,_,_⟩::_) _ _);refine a0a a0k rfl rfl bx rfl rfl (a1n _ _ _ _ _ _ _) ?_;intro g z P;have c:Ext wr g:=ExtX.box ((ExtX.refl wr).alloc _) P (Nat.le_refl _);have j:=o.ext0 c;have K:g.cell? ⟨b+1,0,none⟩=some (.bool s):=j.cell 0 rfl;have L:g.cell? ⟨b+1,1,none⟩=some (.slice a O B):=j.cell 1 rfl;have M:g.cell? ⟨b+1,2,none⟩=some (.slice d N e):=j.cell 2 rfl;have b2:g.cell? ⟨wr.heap.size,0,none⟩=some (.bool s5):=z.cell 0 rfl;have b3:g.cell? ⟨wr.heap.size,1,none⟩=some (.slice a5 n5 c5):=z.cell 1 rfl;have b4:g.cell? ⟨wr.heap.size,2,none⟩=some (.slice d5 k5 e5):=z.cell 2 rfl;have F:=Y.ext c;have a9:QV (mk (a0e X b 2) g) (.agg #[.bool s5, .slice a5 n5 c5, .slice d5 k5 e5]) x:=mkx QV.mono v c;have a4:QV (mk (a0e X b 2) g) (.agg #[.bool s, .slice a O B, .slice d N e]) D:=(mkx QC.mono hq c).qv H.out;clear bx z)|(go_at_call 182;(with_reducible refine(b6S (a0e X b 2) g _ _ _ _ F a4 a9).mono ?_);rintro ee w7 ⟨Q,u7,rfl,y⟩;obtain⟨s7,a7,n7,c7,d7,k7,e7,rfl⟩:=y.shape;rw[m.out]at y;have T:=j.ext0 Q;clear K L M b2 b3 b4)|((with_reducible show wpList _ _ _ (⟨_, .store _ _ _,_,_,_,_⟩::_) _ _);refine a0a a0k rfl rfl T rfl rfl (a1n _ _ _ _ _ _ _) ?_;intro w8 z1 R))
   have h8:=QC.mono _ _ _ _ (a0f (lo:=b) (nb:=2) R (by omega) (by omega)) y;have S:=((A.ext0 c).ext0 Q).ext R (a0c (by omega));have U:Ext w _:=ExtX.box (q.trans (c.trans Q)) R (by omega);have V:=(F.ext Q).ext R;rw[<-C.out]at h8;go_roundw
   case rel=>exact⟨i+1,_,_,_,_,_,_,_,by go_num,by omega,S,z1,h8,V,U⟩
   case measure=>simp[intOf];omega
  ·have a1:i=n:=by omega
   subst a1;rw[<-f.out]at hq;have K:=o.cell 0 rfl;have L:=o.cell 1 rfl;have M:=o.cell 2 rfl;go_wp2_with ((with_reducible show wpList _ _ _ (⟨_, .store _ _ _,_,_,_,_⟩::_) _ _);refine a0a a0k rfl rfl A rfl rfl (a1n _ _ _ _ _ _ _) ?_;intro w7 z P)
   have h7:=QC.mono _ _ _ _ a0h (QC.mono _ _ _ _ (a0f P (by omega) (by omega)) hq);rw[f.out]at h7;exact bodyPost_ret (a0d rfl rfl a0k z rfl) rfl ⟨ExtX.box q P (by omega),_,rfl,h7⟩
end Go.Proofs.YtnnpfhoigmegcaaGreat
namespace Go.Rep
open Go.RowKit Go.Lim
section
variable {P:Program} {ops:Array Oper} {Q:Exit->Act->World->Prop} {a:Act} {w:World}
variable {α:Type} {R:Mem->Value->α->Prop} {sz:Nat} {X:Nat->Bool} {base:Nat} {e:TypeId} {ao:Option Addr} {cap:Nat} {l:List α}
theorem a6q{o:Oper}{K:Act->World->Prop}{E:Prop}{t j:Nat}{z:Value}{s x:Operand}{r:Option Addr}{B:Nat}(I:o.guard=none)(y:o.op=Op.call {callee:=Callee.builtin Builtin.append,args:=#[s,x],argTypes:=#[t,t]})(T:SliceT P t e sz j z)(A:z.cells.size=sz)(C:Elem R sz)(d:base<=w.heap.size)(H:∀k,X k=true->k<w.heap.size)(i:List α)(n m:Nat)(L:l.length=n)(J:i.length=m)(N:a.eval s= .slice ao n cap)(hx:a.eval x= .slice r m B)(h:OL R sz X base e w ao cap l)(hxs:Sl R sz (mk (un X ao) w) r i)(f:(n+m)*j<=140737488355328)(p:n+m<=9223372036854775807)(G:∀c b q,OL R sz X base e q c b (l++i)->ExtX (ob ao) w q->(c=ao\/∃g,c=some ⟨g,0,none⟩/\w.heap.size<=g)->K (a.put o.dst (.slice c (n+m) b)) q):if Region.wanted o (yielded ops a.tmps)=true then Oper.wp P o a w K Q else E:=by
 have O:Region.wanted o (yielded ops a.tmps)=true:=by simp[Region.wanted,I]
 rw[if_pos O];subst L J;obtain⟨us,D,u,v⟩:=hxs.at_ C;obtain⟨c,b,q,M,u,v,F⟩:=h.run_append (P:=P) T A C d H r B us i u D v f p o.type;unfold Oper.wp execOp;rw[y];simp only[resolve,invoke,builtin,Sem.run_bind,Sem.run_pure,Result.andThen_ok,List.map_toArray,List.map_cons,List.map_nil,N,hx];rw[M];have:=G c b q u v F;rw[show(l++i).length=l.length+i.length from by simp];exact this
end
end Go.Rep
namespace Go.Rep
open Go.RowKit Go.Lim
theorem b7C{α:Type}{R:Mem->Value->α->Prop}{sz:Nat}{Y:Nat->Bool}{w:World}{g:Nat}{u:Value}{T:TypeId}{y:α}(b:Bx w g u.cells T)(a:Y g=false)(f:R (mk Y w) u y)(e:u.cells.size=sz):Sl R sz (mk Y w) (some ⟨g,0,none⟩) [y]:=
 ⟨fun _=>⟨g,0,rfl⟩,fun i hi=>by
  have:i=0:=by simpa using hi
  subst this;refine⟨u,e,fun j d=>?_,f⟩;have c:=b.cell j (Array.getElem?_eq_getElem d);simp only[adr,Option.getD_some,Nat.zero_mul,Nat.zero_add];simp[mk,a,c]⟩
end Go.Rep
namespace Go.Lin
open Go.Lim Go.Rep
theorem a5c{B n:Nat}{l:List Rat}(h:BR B l)(d:l.length<=n):∀k,k<=l.length->hq (sm k (fn l))<=1+n*(B+1):=fun k c=>by
 have:=b7x (n:=k) (B:=B) (f:=fn l) fun i hi=>by
  have a:i<l.length:=by omega
  rw[show fn l i=l[i]by simp[fn,List.getD_eq_getElem?_getD,a]];exact h _ (List.getElem_mem a)
 have b:k*(B+1)<=n*(B+1):=Nat.mul_le_mul_right _ (by omega);omega
end Go.Lin
namespace Go.Proofs.YtnnpfhoigmegcaaGreat
open Go.RowKit Go.Rep Go.Lim Go.Lin
end Go.Proofs.YtnnpfhoigmegcaaGreat
namespace Go.Lin
open Go.Lim
def ddS(out:List Rat)(v:Rat):List Rat:=if out.getLast?=some v then out else out++[v]
def dd(s:List Rat):List Rat:=s.foldl ddS []
end Go.Lin
namespace Go
open Go.Rep
structure AS where
 op:Nat
 slot:Nat
 T:TypeId
 z:Array Value
section
variable (P:Program) (md:Region.Mode) (ops:Array Oper) (Q:Exit->Act->World->Prop) (S:World->Prop) (n fe:Nat) (le:Array Bool) (bs:List AS) (Z:Nat->Bool) (W0:World)
end
section
variable {P:Program} {md:Region.Mode} {ops:Array Oper} {Q:Exit->Act->World->Prop} {S:World->Prop} {n fe:Nat} {le:Array Bool} {bs:List AS} {Z:Nat->Bool} {W0:World}
end
end Go
namespace Go.Lin
open Go.Lim
end Go.Lin
namespace Go.Proofs.YtnnpfhoigmegcaaGreat
open Go.RowKit Go.Rep Go.Lim Go.Lin
def b9i(lo hi:Bool)(s1:Bool)(a1:Option Addr)(n1 c1:Nat)(d1:Option Addr)(k1 e1:Nat)(s2:Bool)(a2:Option Addr)(n2 c2:Nat)(d2:Option Addr)(k2 e2:Nat):Array Value:=
 #[.bool false, .slice none 0 0, .slice none 0 0, .bool false, .slice none 0 0, .slice none 0 0, .bool lo, .bool hi, .bool s1, .slice a1 n1 c1, .slice d1 k1 e1, .bool s2, .slice a2 n2 c2, .slice d2 k2 e2]
def b8U(h:Mem)(v:Value)(p:Rat×Rat):Prop:=∃s1 a1 n1 c1 d1 k1 e1 s2 a2 n2 c2 d2 k2 e2,v= .agg (b9i false false s1 a1 n1 c1 d1 k1 e1 s2 a2 n2 c2 d2 k2 e2)/\QC h (.agg #[.bool s1, .slice a1 n1 c1, .slice d1 k1 e1]) p.1/\QC h (.agg #[.bool s2, .slice a2 n2 c2, .slice d2 k2 e2]) p.2
theorem b8U.mono:a2X b8U:=by
 rintro h m u p a ⟨s,d,q,f,i,n,k,t,e,r,g,j,o,l,rfl,b,c⟩;exact⟨_,_,_,_,_,_,_,_,_,_,_,_,_,_,rfl,QC.mono _ _ _ _ a b,QC.mono _ _ _ _ a c⟩
end Go.Proofs.YtnnpfhoigmegcaaGreat
namespace Go.Lin
end Go.Lin
namespace Go.Proofs.YtnnpfhoigmegcaaGreat
open Go.RowKit Go.Rep Go.Lim Go.Lin
end Go.Proofs.YtnnpfhoigmegcaaGreat
namespace Go.Lin
open Go.Lim Go.Rep
def b3Z(k t n:Int):Int:=if a3m k t=false\/n<1\/64<n then 1 else if a7w k t n=false then 10 else 0
def b4T(k t n:Int):Int:=if b3Z k t n=0 then min ((rkA k t n.toNat:Int)+1) (n - (rkB k t n.toNat:Int)+1)else 0
def a2F(m:List (List Rat)):Bool:=decide (1<=m.length)&&decide (m.length<=64)&&a6b m 1 4
theorem a3f{m:List (List Rat)}(h:a2F m=true):Shp m.length (a0n m) m/\1<=m.length/\m.length<=64/\1<=a0n m/\a0n m<=4:=by
 unfold a2F a6b at h;simp only[Bool.and_eq_true,decide_eq_true_eq]at h;obtain⟨⟨b,c⟩,a⟩:=h;have e:=a 0 (by omega);refine⟨⟨rfl,fun r d=>?_⟩,b,c,by omega,by omega⟩;obtain⟨i,hi,rfl⟩:=List.getElem_of_mem d;exact(a i hi).1
end Go.Lin
namespace Go.Proofs.YtnnpfhoigmegcaaGreat
open Go.RowKit Go.Rep Go.Lim Go.Lin
theorem b2h(w:World)(k t n:Int)(hn1: -9223372036854775808<=n)(hn2:n<=9223372036854775807):Calls Tryz.prog 31 #[.agg #[.int .i64 k, .int .i64 t], .int .i64 n] w (fun e w'=>Ext w w'/\e= .returned (.tuple #[.int .i64 (b4T k t n), .int .i64 (b3Z k t n)])):=by
 obtain⟨W,hW,hE,b0,hz⟩:=a0Q w #[.int .i64 k, .int .i64 t] 53;obtain⟨b,hb⟩:∃b,w.heap.size=b:=⟨_,rfl⟩;rw[hb]at b0 hz;have hfi:=b8x W k t n hn1 hn2;have k0:W.cell? ⟨b,0,none⟩=some (.int .i64 k):=b0.cell 0 rfl;have k1:W.cell? ⟨b,1,none⟩=some (.int .i64 t):=b0.cell 1 rfl;obtain⟨kb,hkb⟩:∃kb,a3m k t=kb:=⟨_,rfl⟩;obtain⟨fb,hfb⟩:∃fb,a7w k t n=fb:=⟨_,rfl⟩;rw[hkb,hfb]at hfi;by_cases hbad:kb=false\/n<1\/64<n
 ·have e1:b3Z k t n=1:=by unfold b3Z;rw[hkb,if_pos hbad]
  have e2:b4T k t n=0:=by unfold b4T;rw[e1,if_neg (by decide)]
  rw[e1,e2];clear e1 e2 hkb hfb;rcases hbad with rfl|h|h
  ·go_enter Tryz.func31,Tryz.ntmps31
   go_wp2_with (first|(go_at_call 100;refine hfi.mono ?_;rintro ee w1 ⟨hE1,rfl⟩))
   go_ret2
   exact⟨hE.trans hE1,rfl⟩
  ·have h1:decide (n<1)=true:=decide_eq_true h
   cases kb
   all_goals
    go_enter Tryz.func31,Tryz.ntmps31
    go_wp2_with (first|(go_at_call 100;refine hfi.mono ?_;rintro ee w1 ⟨hE1,rfl⟩))
    go_ret2
    exact⟨hE.trans hE1,rfl⟩
  ·have h1:decide (n<1)=false:=decide_eq_false (by omega)
   have h2:decide (64<n)=true:=decide_eq_true h;cases kb
   all_goals
    go_enter Tryz.func31,Tryz.ntmps31
    go_wp2_with (first|(go_at_call 100;refine hfi.mono ?_;rintro ee w1 ⟨hE1,rfl⟩))
    go_ret2
    exact⟨hE.trans hE1,rfl⟩
 ·have hkt:kb=true:=by cases kb<;>simp_all
  subst hkt;have h1:decide (n<1)=false:=decide_eq_false (by omega);have h2:decide (64<n)=false:=decide_eq_false (by omega);obtain⟨m,rfl⟩:=Int.eq_ofNat_of_zero_le (show 0<=n by omega);cases hfc:fb with
  |false=>
   subst hfc;have e1:b3Z k t m=10:=by unfold b3Z;rw[hkb,hfb,if_neg hbad,if_pos rfl]
   have e2:b4T k t m=0:=by unfold b4T;rw[e1,if_neg (by decide)]
   rw[e1,e2];clear e1 e2 hkb hfb;go_enter Tryz.func31,Tryz.ntmps31
   go_wp2_with (first|(go_at_call 100;refine hfi.mono ?_;rintro ee w1 ⟨hE1,rfl⟩))
   go_ret2
   exact⟨hE.trans hE1,rfl⟩
  |true=>
   subst hfc;have hk:=b0A.1 hkb;have hf:=b2b.1 hfb;have hrk:=b8w hk hf;have e1:b3Z k t m=0:=by unfold b3Z;rw[hkb,hfb,if_neg hbad,if_neg (by decide)]
   have e2:b4T k t m=min ((rkA k t m:Int)+1) ((m:Int) - (rkB k t m:Int)+1):=by unfold b4T;rw[e1,if_pos rfl];rfl
   rw[e1,e2];have hra:=hid fun w'=>b7y w' k t m (by omega) hk hf;obtain⟨A,hA⟩:∃A,rkA k t m=A:=⟨_,rfl⟩;obtain⟨C,hC⟩:∃C,rkB k t m=C:=⟨_,rfl⟩;rw[hA,hC]at hra hrk |-;have w1':IntKind.i64.wrap ((m:Int) - (C:Int))=(m:Int) - (C:Int):=IntWalk.i64_in _ (by omega);have w2':IntKind.i64.wrap ((m:Int) - (C:Int)+1)=(m:Int) - (C:Int)+1:=IntWalk.i64_in _ (by omega);clear e1 e2 hkb hfb hA hC hk hf;go_enter Tryz.func31,Tryz.ntmps31
   go_wp2_with (first|(go_at_call 100;refine hfi.mono ?_;rintro ee w1 ⟨hE1,rfl⟩;have k2:w1.cell? ⟨b,0,none⟩=some (.int .i64 k):=hE1.cell k0;have k3:w1.cell? ⟨b,1,none⟩=some (.int .i64 t):=hE1.cell k1)|(go_at_call 101;refine(hra.out w1).mono ?_;rintro ee w2 ⟨hE2,rfl⟩))
   go_ret2
   refine⟨hE.trans (hE1.trans hE2),?_⟩
   show Ending.returned (.tuple #[.int .i64 (min (A:Int) ((m:Int) - (C:Int))+1), .int .i64 0])=_
   rw[show min (A:Int) ((m:Int) - (C:Int))+1=min ((A:Int)+1) ((m:Int) - (C:Int)+1)by omega]
theorem b2i(X:Nat->Bool)(w:World)(u:Value)(m:List (List Rat))(l:MV (mk X w) u m)(k:m.length<=1099511627776):Calls Tryz.prog 107 #[u] w (fun e o=>o=w/\e= .returned (.bool (a2F m))):=by
 have f:=hid fun(_:Unit)=>b1T (R:=QV) X w u m 1 4 l k;obtain⟨ao,p,rfl,c,g⟩:=l;have b:Hid (a2F m=(decide (1<=m.length)&&decide (m.length<=64)&&a6b m 1 4)):=hid rfl;obtain⟨h,a⟩:∃h,a6b m 1 4=h:=⟨_,rfl⟩;obtain⟨n,d⟩:∃n,m.length=n:=⟨_,rfl⟩;rw[a,d]at b;rw[d]at f |-;rw[a]at f;clear a d g c k;by_cases i:1<=n
 ·by_cases j:n<=64
  ·have e:Hid (a2F m=h):=hid (by rw[b.out,decide_eq_true i,decide_eq_true j];simp)
   rw[e.out];go_enter Tryz.func107,Tryz.ntmps107
   go_wp2_with (first|(go_at_call 172;refine(f.out ()).mono ?_;rintro q w1 ⟨rfl,rfl⟩))
   go_ret
   exact⟨rfl,rfl⟩
  ·have e:Hid (a2F m=false):=hid (by rw[b.out,decide_eq_false j];simp)
   rw[e.out];go_enter Tryz.func107,Tryz.ntmps107
   go_wp2_with fail
   go_ret
   exact⟨rfl,rfl⟩
 ·have e:Hid (a2F m=false):=hid (by rw[b.out,decide_eq_false i];simp)
  rw[e.out];go_enter Tryz.func107,Tryz.ntmps107
  go_wp2_with fail
  go_ret
  exact⟨rfl,rfl⟩
theorem b7D(X:Nat->Bool)(w:World)(u:Value)(m:List (List Rat))(B:Nat)(G:HX X w)(C:MV (mk X w) u m)(hd:a2F m=true)(F:BM B m)(o:1<=B)(p:B<=1000):Calls Tryz.prog 108 #[u] w (a8n w (decide ((a1C m (a0n m)).2.length=a0n m))):=by
 obtain⟨l,D,E,q,s⟩:=a3f hd;obtain⟨z,_⟩:=a2P l (by omega) q (by omega) (by omega);have k:=b6o X w u m G C z (b2a l (a5Y F o) p s).e;rw[a4C]at k;obtain⟨ao,M,rfl,I,j⟩:=C;obtain⟨K,L,H,d,x,t⟩:=j.row 0 (by omega);have a:m[0].length=a0n m:=l.2 _ (List.getElem_mem _);have J:=j.hd;rw[a]at d;obtain⟨r,f⟩:∃r,(a1C m (a0n m)).2.length=r:=⟨_,rfl⟩;obtain⟨c,b⟩:∃c,a0n m=c:=⟨_,rfl⟩;obtain⟨n,A⟩:∃n,m.length=n:=⟨_,rfl⟩;rw[f]at k;rw[b]at d;rw[f,b];rw[A]at J D k |-;have i:Hid (((r:Int)==(c:Int))=decide (r=c)):=hid (by rw[Bool.eq_iff_iff];simp;omega);obtain⟨v,h⟩:∃v,decide (r=c)=v:=⟨_,rfl⟩;rw[h]at i |-;have y:=i.out;clear f b A a t z l h;go_enter Tryz.func108,Tryz.ntmps108
 go_wp2_with (first|(go_at_call 189;refine k.mono ?_;rintro N w1 ⟨g,rfl⟩;have O:=d.out noY w1 g rfl)|(with_reducible refine a0m a0q (by omega) (by assumption) ?_))
 go_ret
 exact⟨g,rfl⟩
def a2R(b nb:Nat):Nat->Bool:=fun k=>decide (b<=k)&&decide (k<b+nb)
def a9c(b nb:Nat)(W W':World):Prop:=W.heap.size<=W'.heap.size/\∀k,a2R b nb k=true->W'.heap[k]? =W.heap[k]?
theorem a0V{b nb k:Nat}:a2R b nb k=true↔b<=k/\k<b+nb:=by simp[a2R]
theorem a9c.of{b nb:Nat}{Y:Nat->Bool}{W W':World}(c:ExtX Y W W')(d:∀k,Y k=true->a2R b nb k=false)(e:b+nb<=W.heap.size):a9c b nb W W':=⟨c.size,fun k a=>c.block k (by have:=a0V.1 a;omega) (by
 cases h:Y k
 ·rfl
 ·rw[d k h]at a;simp at a)⟩
section
variable (cb:Nat) (caps:Array Value) (Inv:List (List Rat)->World->Prop)
def b4U(b c:Nat)(x:Mat)(ao:Option Addr)(n ca:Nat)(D:List (List Int))(W:World):Prop:=Inv (D.filterMap (a4c x c)) W/\Bx W b #[.slice ao n ca] 25/\Bx W (b+1) #[.func (.func cb) #[] caps] 137/\b+2<=W.heap.size
theorem b8C(H:Nat->Bool)(w0:World)(b c n B:Nat)(x:Mat)(ao:Option Addr)(ca:Nat)(D:List (List Int))(s:List Int)(W:World)(hcf:∀(args:Array Value) (W:World),Sem.run Tryz.prog (callFunc cb args) W= .ok (.enter cb args) W)(_hb:w0.heap.size=b)(hH:∀k,H k=true->k<b+8)(_hH8:∀k,a2R b 8 k=true->H k=true)(hx:MV (mk H w0) (.slice ao n ca) x)(hs:Shp n c x)(_hn64:n<=64)(hc2:2<=c)(hc4:c<=4)(hB:BM B x)(hB1:1<=B)(hBB:B<=1000)(hIE:∀done W,Inv done W->ExtX H w0 W)(hInv:∀done W W',Inv done W->ExtX (a2R b 8) W W'->Inv done W')(hCB:∀done d W vd,Inv done W->(∃rest,done++[d]++rest=a0R x c)->RV (mk H W) vd d->d.length=c->b+8<=W.heap.size->Calls Tryz.prog cb (#[vd]++caps) W (fun e W'=>e= .returned (.tuple #[])/\Inv (done++[d]) W'/\a9c b 8 W W'))(hi:b4U cb caps Inv b c x ao n ca D W)(hss:∃rest,D++[s]++rest=a0z n (c - 1) 0)(hsl:Sl (a0v .i64) 1 W.cell? (some ⟨b+2+3,0,none⟩) s)(hW:b+2+6<=W.heap.size):Calls Tryz.prog 204 #[.slice (some ⟨b+2+3,0,none⟩) s.length (c - 1), .pointer (some ⟨b,0,none⟩), .pointer (some ⟨b+1,0,none⟩)] W (fun e W'=>e= .returned (.tuple #[])/\b4U cb caps Inv b c x ao n ca (D++[s]) W'/\b3P (b+2) W W'):=by
 obtain⟨hiv,bx,bf,_⟩:=hi;obtain⟨rest,hrest⟩:=hss;have hmem:s∈a0z n (c - 1) 0:=by rw[<-hrest];simp
 obtain⟨m1,m2,_⟩:=a1M n (c - 1) 0 s hmem;have hxl:x.length=n:=hs.1;have hsb:∀i∈s,0<=i/\i<(x.length:Int):=fun i hi=>by have:=m2 i hi;omega
 have hXW:HX H W:=fun k hk=>by have:=hH k hk;omega
 have hxW:MV (mk H W) (.slice ao n ca) x:=MV.mono _ _ _ _ (a0r (hIE _ _ hiv) fun _ h=>h) hx;have hT:=a9N hs (a5Y hB hB1) hBB hc4 hsb (by omega);have hrs:=a6d hs hsb;obtain⟨hf,hcl⟩:=a2P hrs (by omega) (by omega) (by omega) (by omega);have hNB:=b1G hT.2;have hNr:∀r∈a1j (a1p x s) c,r.length=c:=fun r hr=>a4n r hr;have hfm:(D++[s]).filterMap (a4c x c)=D.filterMap (a4c x c)++(match a4c x c s with|some d=>[d]|none=>[]):=by
  rw[List.filterMap_append];cases h:a4c x c s<;>simp[h]
 have hro:a4c x c s=match a1j (a1p x s) c with| [d]=>some d|_=>none:=rfl
 have hrr:a0R x c=(a0z n (c - 1) 0).filterMap (a4c x c):=by unfold a0R;rw[if_neg (by omega),hxl]
 have hpre:∀d,a4c x c s=some d->∃rest',D.filterMap (a4c x c)++[d]++rest'=a0R x c:=fun d hd=>by
  refine⟨rest.filterMap (a4c x c),?_⟩;rw[hrr,<-hrest,List.filterMap_append,hfm,hd]
 have kx:W.cell? ⟨b,0,none⟩=some (.slice ao n ca):=bx.cell 0 rfl;have hrow:=b1V H W (.slice ao n ca) x (some ⟨b+2+3,0,none⟩) s s.length hXW hxW hsl hsb (by omega);unfold b1U at hrow;rw[a2O]at hrow;have hnull:=hid fun w1 ra rc (h1:HX H w1) (h2:MV (mk H w1) (.slice ra s.length rc) (a1p x s))=>b6a H w1 (.slice ra s.length rc) (a1p x s) s.length c h1 h2 hf (a2O x s) hcl hT.1;obtain⟨N,hN⟩:∃N,a1j (a1p x s) c=N:=⟨_,rfl⟩;rw[show a1Y (ent (a1C (a1p x s) c).1) (a1C (a1p x s) c).2 c=a1j (a1p x s) c from rfl,hN]at hnull;rw[hN]at hNB hNr hro;have hrl:=hid (a2O x s);have hfm':=hid hfm;have hro':=hid hro;have hpre':=hid hpre;have hNB':=hid hNB;have hNr':=hid hNr;have hW':=hid hW;have hiv':=hid hiv;have hbx:=hid bx;have hbf:=hid bf;rw[m1]at hrow hrl hnull |-;clear hfm hro hpre hNB hNr hT hrs hf hcl hrest hmem m1 m2 hsb hrr hN hiv bx bf hxW hx;have hnone:=hid fun(h:N.length≠1)=>(by
  rw[hro'.out];split
  ·exact absurd rfl h
  ·rfl:a4c x c s=none)
 have hsome:=hid fun d (h:N= [d])=>(by rw[hro'.out,h]:a4c x c s=some d);by_cases hk:N.length=1
 ·obtain⟨d,rfl⟩:=List.length_eq_one_iff.1 hk
  have hsd:=hsome.out d rfl;obtain⟨rest',hrest'⟩:=hpre'.out d hsd;have hdl:d.length=c:=hNr'.out d (by simp);have hdB:BR 68719476736 d:=fun q hq=>by
   have:=hNB'.out d (by simp) q hq;have h2:=Nat.mul_le_mul_left 42875 hBB;omega
  have hdl':=hid hdl;have hdB':=hid hdB;clear hnone hsome hro' hNr' hNB' hk hpre' hdl hdB;go_enter Tryz.func204,Tryz.ntmps204
  go_upto_region 2 with(first
   |(go_at_call 92;refine hrow.mono ?_;rintro ee w1 ⟨t1,ra,rc,rfl,hO1⟩;have hM1:MV (mk H w1) (.slice ra (c - 1) rc) (a1p x s):=⟨ra,rc,by rw[hrl.out],by have:=hO1.lenCap;rw[hrl.out]at this;rw[hrl.out];exact this,hO1.sl RV.elem⟩)
   |(go_at_call 205;refine(hnull.out w1 ra rc (hXW.ext t1) hM1).mono ?_;rintro ee w2 ⟨t2,u2,rfl,na,nc,rfl,hnc,hns⟩))
  have tW2:=t1.trans t2;have hX2:HX H w2:=hXW.ext tW2;have hEd:Ext w2 w2.drew:=(ExtX.refl w2).drew;obtain⟨a1,c1,hX1,hc1,hcl1,hq1⟩:=hns.row 0 (by simp);have hh:Hd na 1:=hns.hd;have hc1':Hid (∀Y W',ExtX Y w2 W'->Y (adr na 0).block=false->W'.cell? (adr na 0)=some (.slice a1 c c1)):=hid fun Y W' h1 h2=>by have:=hc1.out Y W' h1 h2;simpa[hdl'.out]using this
  have hq1':Sl QC 3 (mk H w2) a1 d:=hq1;have hcc:d.length<=c1:=hcl1;have hvd:RV (mk H w2.drew) (.slice a1 c c1) d:=⟨a1,c1,by rw[hdl'.out],hcc,(hq1'.mono QC.mono (a0l hEd)).qv hdB'.out⟩;have i0:∀W,(Instr.indexAt 25 (.slice na 1 nc) (.int .i64 0)).run Tryz.prog W= .ok (.pointer (some (adr na 0))) W:=a0E a0q na 1 nc .i64 0 hh (by decide) rfl;have hwS:w2.drew.cell? ⟨b+1,0,none⟩=some (.func (.func cb) #[] caps)/\w2.drew.cell? (adr na 0)=some (.slice a1 c c1):=⟨(hbf.out.ext0 (tW2.trans hEd)).cell 0 rfl,hc1'.out noY _ hEd rfl⟩;have hiv2:=hInv _ _ _ hiv'.out (ExtX.of (tW2.trans hEd));have hcal:=hCB _ d w2.drew (.slice a1 c c1) hiv2 ⟨rest',hrest'⟩ hvd hdl'.out (by have:=(tW2.trans hEd).size;have:=hW'.out;omega);have hfin:=hid fun w3 (h1:Inv (D.filterMap (a4c x c)++[d]) w3) (h2:a9c b 8 w2.drew w3)=>(by
   have hks:∀k,a2R b 8 k=true->w3.heap[k]? =W.heap[k]?:=fun k hk=>by
    rw[h2.2 k hk];exact(tW2.trans hEd).block k (by have:=a0V.1 hk;have:=hW'.out;omega) rfl
   have hsz:W.heap.size<=w3.heap.size:=Nat.le_trans (tW2.trans hEd).size h2.1;refine⟨rfl,⟨?_,?_,?_,by have:=hW'.out;omega⟩,hsz,fun k hk=>hks k ?_⟩
   ·rw[hfm'.out,hsd];exact h1
   ·show w3.heap[b]? =_
    rw[hks b (a0V.2 (by omega))];exact hbx.out
   ·show w3.heap[b+1]? =_
    rw[hks (b+1) (a0V.2 (by omega))];exact hbf.out
   ·have:b+2<=k/\k<b+2+6:=by simpa[a6l]using hk
    exact a0V.2 (by omega):Ending.returned (.tuple #[])= .returned (.tuple #[])/\b4U cb caps Inv b c x ao n ca (D++[s]) w3/\b3P (b+2) W w3)
  clear hrow hnull hO1 hM1 hns hc1 hc1' hq1 hq1' hcl1 hnc hvd hiv2 t1 t2 tW2 hX2 hcc hrest' hiv' hX1
  (try simp only[Act.put])
  refine a0K 4 (fun w'=>w'.cell? ⟨b+1,0,none⟩=some (.func (.func cb) #[] caps)/\w'.cell? (adr na 0)=some (.slice a1 c c1)) (by kernel_rfl) (by kernel_rfl) hwS (fun hHeld hOnce=>?_);refine kt 0 hOnce ?_;refine kt 1 hOnce ?_;refine kt 2 hOnce ?_;refine kt 3 hOnce ?_;refine kl 4 (fun K hK=>?_);go_simp
  refine hcal.mono ?_;rintro ee w3 ⟨rfl,hiv3,hkp⟩;refine hK.out _ _ ?_;clear hK K;go_wp2_with fail
  go_end0
  exact⟨rfl,(hfin.out w3 hiv3 hkp).2⟩
 ·have hk1:((N.length:Int)==1)=false:=a2v (by omega)
  have hsd:=hnone.out hk;obtain⟨m,hm⟩:∃m,N.length=m:=⟨_,rfl⟩;rw[hm]at hk1;clear hnone hsome hk;go_enter Tryz.func204,Tryz.ntmps204
  go_wp2_with (first
   |(go_at_call 92;refine hrow.mono ?_;rintro ee w1 ⟨t1,ra,rc,rfl,hO1⟩;have hM1:MV (mk H w1) (.slice ra (c - 1) rc) (a1p x s):=⟨ra,rc,by rw[hrl.out],by have:=hO1.lenCap;rw[hrl.out]at this;rw[hrl.out];exact this,hO1.sl RV.elem⟩)
   |(go_at_call 205;refine(hnull.out w1 ra rc (hXW.ext t1) hM1).mono ?_;rintro ee w2 ⟨t2,u2,rfl,na,nc,rfl,hnc,hns⟩;rw[hm]))
  go_end0
  have tW2:=t1.trans t2;refine⟨rfl,⟨?_,hbx.out.ext0 tW2,hbf.out.ext0 tW2,by have:=tW2.size;have:=hW'.out;omega⟩,tW2.size,fun k hk=>tW2.block k (by have:b+2<=k/\k<b+2+6:=(by simpa[a6l]using hk);have:=hW'.out;omega) rfl⟩;rw[hfm'.out,hsd,List.append_nil];exact hInv _ _ _ hiv'.out (ExtX.of tW2)
theorem b4U.own{b c n f:Nat}{x:Mat}{ao:Option Addr}{D:List (List Int)}{W W':World}(a:∀done W W',Inv done W->ExtX (a2R b 8) W W'->Inv done W')(h:b4U cb caps Inv b c x ao n f D W)(d:ExtX (a6l (b+2)) W W'):b4U cb caps Inv b c x ao n f D W':=by
 obtain⟨i,j,l,m⟩:=h;have g:∀k,k<b+2->a6l (b+2) k=false:=fun k e=>by
  cases h:a6l (b+2) k
  ·rfl
  ·have:b+2<=k/\k<b+2+6:=by simpa[a6l]using h
   omega
 exact⟨a _ _ _ i (d.weaken fun k _ e=>by
  cases h:a6l (b+2) k
  ·rfl
  ·have:b+2<=k/\k<b+2+6:=by simpa[a6l]using h
   rw[a0V.2 (by omega)]at e;exact absurd e (by decide)),j.ext d (g _ (by omega)),l.ext d (g _ (by omega)),Nat.le_trans m d.size⟩
theorem b7E(H:Nat->Bool)(w:World)(u:Value)(x:Mat)(n c B nb:Nat)(i:nb=if c=1 then 2 else 8)(a9:∀(args:Array Value) (W:World),Sem.run Tryz.prog (callFunc cb args) W= .ok (.enter cb args) W)(V:∀k,H k=true->k<w.heap.size+nb)(y:∀k,a2R w.heap.size nb k=true->H k=true)(hx:MV (mk H w) u x)(hs:Shp n c x)(c5:1<=n)(o:n<=64)(c1:1<=c)(a7:c<=4)(hB:BM B x)(Z:1<=B)(a1:B<=1000)(F:∀done W,Inv done W->ExtX H w W)(a:∀done W W',Inv done W->ExtX (a2R w.heap.size nb) W W'->Inv done W')(h:∀done d W vd,Inv done W->(∃rest,done++[d]++rest=a0R x c)->RV (mk H W) vd d->d.length=c->w.heap.size+nb<=W.heap.size->Calls Tryz.prog cb (#[vd]++caps) W (fun e W'=>e= .returned (.tuple #[])/\Inv (done++[d]) W'/\a9c w.heap.size nb W W'))(h0:Inv [] w):Calls Tryz.prog 123 #[u, .func (.func cb) #[] caps] w (fun e W'=>e= .returned (.tuple #[])/\Inv (a0R x c) W'):=by
 have c3:∀(fn:Fn) (first cap:Array Value) (w:World),(Instr.makeFunc fn first cap).run Tryz.prog w= .ok (.func fn first cap) w:=fun _ _ _ _=>rfl;obtain⟨ao,t,rfl,a8,j⟩:=hx;have l:x.length=n:=hs.1;obtain⟨W,hW,D,C,U,hz⟩:=a1a w #[.slice ao x.length t] #[.func (.func cb) #[] caps] 25 137;have p:=j.mono RV.mono (a0l D);obtain⟨a0,c0,a2,A,J,b3⟩:=p.row 0 (by omega);have O:x[0].length=c:=hs.2 _ (List.getElem_mem _);have b2:=j.hd;rw[O]at A;have k0:=A.out noY W (ExtX.refl _) rfl;have g:=a _ _ _ h0 (ExtX.of D);have T:MV (mk H w) (.slice ao n t) x:=⟨ao,t,by rw[l],a8,j⟩;rw[l]at C b2 |-;obtain⟨b,hb⟩:∃b,w.heap.size=b:=⟨_,rfl⟩;have a5:=hid hb;rw[hb]at C U hz V y a h;rw[l]at hW;have kx:W.cell? ⟨b,0,none⟩=some (.slice ao n t):=C.cell 0 rfl;have a6:b+2<=W.heap.size:=by omega
 clear A b3 j p O J a2;by_cases hc:c=1
 ·subst hc
  rw[if_pos rfl]at i;subst i;have a3:HX H W:=fun k hk=>by have:=V k hk;omega
  have v:Ext W W.drew:=(ExtX.refl W).drew;have G:=a3.ext v;have N:a0R x 1= [[1]]:=by simp[a0R]
  have b5:W.drew.cell? ⟨b+1,0,none⟩=some (.func (.func cb) #[] caps):=v.cell (U.cell 0 rfl);go_enter Tryz.func123,Tryz.ntmps123
  go_upto_region 3 with(with_reducible refine a0m a0q (by omega) (by assumption) ?_)
  (try simp only[Act.put])
  refine a0K 3 (fun w'=>w'.cell? ⟨b+1,0,none⟩=some (.func (.func cb) #[] caps)) (by kernel_rfl) (by kernel_rfl) b5 (fun f z=>?_);refine kt 0 z ?_;refine ks 1 (fun K m=>?_);go_simp
  ((with_reducible refine(b3w H W.drew 1 G (by decide) (by decide)).mono ?_);rintro ee X ⟨Y,ua,rfl,R⟩;obtain⟨s4,a4,n4,c4,d4,k4,e4,rfl⟩:=R.shape)
  refine kcn m (Y.cell f) (fun f=>?_);clear m K;have hL:=(a9O H X s4 a4 n4 c4 d4 k4 e4 _ 41 (G.ext Y) R).sl QC.elem;obtain⟨wb,b6,gb,bq,b7⟩:=a0Q X #[.bool s4, .slice a4 n4 c4, .slice d4 k4 e4] 41;rw[b6]at hL;have S:RV (mk H wb) (.slice (some ⟨X.heap.size,0,none⟩) 1 1) [1]:=⟨_,1,rfl,Nat.le_refl _,hL.qv fun q hq=>by
   have:q=(((1:Int)):Rat):=by simpa using hq
   rw[this];decide+kernel⟩
  have E:Ext W wb:=v.trans (Y.trans gb);have I:=h [] [1] wb (.slice (some ⟨X.heap.size,0,none⟩) 1 1) (a _ _ _ g (ExtX.of E)) ⟨[],by rw[N];rfl⟩ S rfl (by have:=E.size;omega);clear hL S bq b7;refine ks 2 (fun K m=>?_);go_simp
  skip
  refine kcn m (gb.cell f) (fun f=>?_);clear m K;refine kl 3 (fun K m=>?_);go_simp
  refine I.mono ?_;rintro ee w3 ⟨rfl,L,c2⟩;refine m.out _ _ ?_;clear m K;go_wp2_with fail
  refine bodyPost_ret (results_none rfl _ _ _) rfl ?_;exact⟨rfl,by rw[N];exact L⟩
 ·rw[if_neg hc]at i
  subst i;have b8:((c:Int)==1)=false:=a2v (by omega);have b9:IntKind.i64.wrap ((c:Int) - 1)=((c - 1:Nat):Int):=by rw[IntWalk.i64_in _ (by omega)];omega
  have M:b4U cb caps Inv b c x ao n t [] W:=⟨g,C,U,a6⟩;have r:=a8Y 204 n (c - 1) #[.pointer (some ⟨b,0,none⟩), .pointer (some ⟨b+1,0,none⟩)] (b4U cb caps Inv b c x ao n t) W (fun _ _=>rfl) o (by omega)
   (fun done W1 W2 hi D=>hi.own cb caps Inv a (by rw[hz]at D;exact D))
   (fun done s W1 hi b4 Q h9=>by
    rw[hz]at Q h9 |-;exact b8C cb caps Inv H w b c n B x ao t done s W1 a9 a5.out V y T hs o (by omega) a7 hB Z a1 F a h hi b4 Q h9) M
  clear M g h a F V y T C U;go_enter Tryz.func123,Tryz.ntmps123
  go_wp2_with (first|(with_reducible refine a0m a0q (by omega) (by assumption) ?_))
  refine r.mono ?_;rintro ee w3 ⟨rfl,hr,_⟩;have P:a0R x c=(a0z n (c - 1) 0).filterMap (a4c x c):=by unfold a0R;rw[if_neg hc,l]
  rw[<-P]at hr;clear r P;go_wp2_with fail
  go_end0
  exact⟨rfl,hr⟩
end
end Go.Proofs.YtnnpfhoigmegcaaGreat
namespace Go.Lin
open Go.Lim Go.Rep
theorem a4J{q:Rat}:q.num.sign=0↔q=0:=by
 rw[Int.sign_eq_zero_iff_zero];exact Rat.num_eq_zero
def a3M(x:Mat)(c:Nat)(d:List Rat)(i:Nat):Nat:=a2u (x.take i) c d
theorem a6M{x:Mat}{c:Nat}{d:List Rat}{i:Nat}(h:i<x.length):a3M x c d (i+1)=a3M x c d i+(if dot c (vec d) (vec x[i])=0 then 1 else 0):=by
 unfold a3M a2u;rw[List.take_succ_eq_append_getElem h,List.countP_append,List.countP_singleton];by_cases a:dot c (vec d) (vec x[i])=0<;>simp[a]
theorem a8g(x:Mat)(c:Nat)(d:List Rat):a3M x c d x.length=a2u x c d:=by unfold a3M;rw[List.take_length]
theorem a9Q(x:Mat)(c:Nat)(d:List Rat)(i:Nat):a3M x c d i<=i:=by
 have:=a5O (x.take i) c d;unfold a3M;simp at this;omega
theorem a8h(l:List Nat)(k:Nat):a7L (l++[k])=max (a7L l) k:=by unfold a7L;rw[List.foldl_append];rfl
noncomputable def plE(m:List (List Rat)):Int:=if a2F m=true then 0 else 6
noncomputable def plN(m:List (List Rat)):Nat:=if a2F m=true then a3u m (a0n m)else 0
end Go.Lin
namespace Go.Proofs.YtnnpfhoigmegcaaGreat
open Go.RowKit Go.Rep Go.Lim Go.Lin
theorem b6r(H:Nat->Bool)(W:World)(vd:Value)(d:List Rat)(x:Mat)(n c B bx bm k:Nat)(ao:Option Addr)(ca:Nat)(E:HX H W)(hx:MV (mk H W) (.slice ao n ca) x)(hd:RV (mk H W) vd d)(O:d.length=c)(hs:Shp n c x)(a9:n<=64)(a3:c<=4)(hB:BM B x)(a2:B<=1000)(a4:BR 42875000 d)(a0:Bx W bx #[.slice ao n ca] 25)(Z:Bx W bm #[.int .i64 (k:Int)] 3)(_:k<=64):Calls Tryz.prog 124 #[vd, .pointer (some ⟨bx,0,none⟩), .pointer (some ⟨bm,0,none⟩)] W (fun e W'=>e= .returned (.tuple #[])/\ExtX (ob (some ⟨bm,0,none⟩)) W W'/\Bx W' bm #[.int .i64 ((max k (a2u x c d):Nat):Int)] 3):=by
 obtain⟨C,dc,rfl,N,P⟩:=hd;have U:Sl RV 1 (mk H W) ao x:=by
  obtain⟨_,_,he,_,h⟩:=hx;simp only[Value.slice.injEq]at he;obtain⟨rfl,_,rfl⟩:=he;exact h
 have w:x.length=n:=hs.1;have a6:=U.hd;rw[w]at a6;have Q:=hid (show RV (mk H W) (.slice C d.length dc) d from⟨C,dc,rfl,N,P⟩);have kx:W.cell? ⟨bx,0,none⟩=some (.slice ao n ca):=a0.cell 0 rfl;have z:=hid w;have a8:=hid hs;have y:=hid (a8g x c d);rw[w]at y;obtain⟨m,X⟩:∃m,d.length=m:=⟨_,rfl⟩;rw[X]at Q;have b1:Hid (m=c):=hid (by rw[<-X,O]);rw[X];clear X w hs hx P N;go_enter Tryz.func124,Tryz.ntmps124
 go_wp2_with fail
 go_loopw [4,9] (fun q cc wr=>∃i:Nat,cc= .int .i64 i/\q= .int .i64 (a3M x c d i:Int)/\i<=n/\Ext W wr) (fun _ cc _=>n - (intOf cc).toNat)
 case atStart=>exact⟨0,rfl,by simp[a3M,a2u],Nat.zero_le _,ExtX.refl _⟩
 case round=>
  obtain⟨i,rfl,rfl,hi,p⟩:=hrel;by_cases a7:i<n
  ·have I:i<x.length:=by rw[z.out];exact a7
   have t:=a9Q x c d i;have v:=hid (a6M (c:=c) (d:=d) I);obtain⟨Y,c1,b0,F,l,R⟩:=(U.mono RV.mono (a0l p)).row i I;have b:x[i].length=c:=a8.out.2 _ (List.getElem_mem _);have S:=hB _ (List.getElem_mem I);have r:=a6e b a3 S a4 (by decide) a2;have T:RV (mk H wr) (.slice Y c c1) x[i]:=⟨Y,c1,by rw[b],by rw[b]at l;rw[b];exact l,R⟩;have g:=hid (a9M H wr (.slice Y c c1) (.slice C m dc) x[i] d (E.ext p) T (mkx RV.mono Q.out p) (by omega) (by rw[b,O]) (fun q hq=>Nat.le_trans (r.1 q hq) (by decide)) (fun q hq=>Nat.le_trans (r.2 q hq) (by decide)));have s:Hid (hq (a8G x[i] d)<=68719476736):=hid (Nat.le_trans (r.1 _ (Nat.le_refl _)) (by decide));rw[a4j b]at g s;rw[b]at F;have k1:=F.out noY wr (ExtX.refl _) rfl;obtain⟨D,hD⟩:∃D,dot c (vec d) (vec x[i])=D:=⟨_,rfl⟩;rw[hD]at g s v;obtain⟨f,G⟩:∃f,a3M x c d i=f:=⟨_,rfl⟩;rw[G]at t v |-;have ef:IntKind.i64.wrap ((f:Int)+1)=(f:Int)+1:=IntWalk.i64_in _ (by omega);clear F R l b S r T hD G;by_cases M:D=0
   ·have J:(D.num.sign==(0:Int))=true:=by rw[a4J.2 M];rfl
    have o:Hid (a3M x c d (i+1)=f+1):=hid (by rw[v.out,if_pos M]);obtain⟨sg,a⟩:∃sg,D.num.sign=sg:=⟨_,rfl⟩;have K:=hid fun j u (h1:HX H j) (h2:QC (mk H j) u D)=>(by have:=a8H H j u D h1 (h2.qv s.out);rw[a]at this;exact this:Calls Tryz.prog 125 #[u] j (a2y j sg));rw[a]at J;clear a M;go_wp2_with (first|(with_reducible refine a0m a0q (by omega) (by assumption) ?_)|(go_at_call 98;refine g.out.mono ?_;rintro ee w1 ⟨V,u1,rfl,L⟩)|(go_at_call 125;refine(K.out w1 u1 ((E.ext p).ext V) L).mono ?_;rintro ee j ⟨t2,rfl⟩))
    go_roundw
    case rel=>exact⟨i+1,by go_num,by rw[o.out];go_num,by omega,p.trans (V.trans t2)⟩
    case measure=>simp[intOf];omega
   ·have J:(D.num.sign==(0:Int))=false:=a2v (fun h=>M (a4J.1 h))
    have o:Hid (a3M x c d (i+1)=f):=hid (by rw[v.out,if_neg M];rfl);obtain⟨sg,a⟩:∃sg,D.num.sign=sg:=⟨_,rfl⟩;have K:=hid fun j u (h1:HX H j) (h2:QC (mk H j) u D)=>(by have:=a8H H j u D h1 (h2.qv s.out);rw[a]at this;exact this:Calls Tryz.prog 125 #[u] j (a2y j sg));rw[a]at J;clear a M;go_wp2_with (first|(with_reducible refine a0m a0q (by omega) (by assumption) ?_)|(go_at_call 98;refine g.out.mono ?_;rintro ee w1 ⟨V,u1,rfl,L⟩)|(go_at_call 125;refine(K.out w1 u1 ((E.ext p).ext V) L).mono ?_;rintro ee j ⟨t2,rfl⟩))
    go_roundw
    case rel=>exact⟨i+1,by go_num,by rw[o.out],by omega,p.trans (V.trans t2)⟩
    case measure=>simp[intOf];omega
  ·obtain rfl:n=i:=by omega
   rw[y.out];have t:=a5O x c d;rw[z.out]at t;obtain⟨f,G⟩:∃f,a2u x c d=f:=⟨_,rfl⟩;rw[G]at t
   (try rw[G])
   have A:=Z.ext0 p;have km:wr.cell? ⟨bm,0,none⟩=some (.int .i64 (k:Int)):=A.cell 0 rfl;have a5:=hid G;clear G kx;have fm:wr.frozen? ⟨bm,0,none⟩=false:=A.frozen 0;obtain⟨r4,y4⟩:=a0G A (.int .i64 (max (k:Int) (f:Int))) (i:=0) (by simp);go_wp2_with fail
   go_end0
   refine⟨rfl,(ExtX.of p).trans y4,?_⟩;rw[a5.out,show((max k f:Nat):Int)=max (k:Int) (f:Int)by omega];exact r4
theorem b2j(X:Nat->Bool)(w:World)(u:Value)(x:List (List Rat))(B:Nat)(hX:HX X w)(hu:MV (mk X w) u x)(hl:x.length<=1099511627776)(hB:BM B x)(hB1:1<=B)(hBB:B<=1000):Calls Tryz.prog 50 #[u] w (fun e w'=>Ext w w'/\e= .returned (.tuple #[.int .i64 (plN x:Int), .int .i64 (plE x)])):=by
 have hmf:∀(fn:Fn) (first cap:Array Value) (w:World),(Instr.makeFunc fn first cap).run Tryz.prog w= .ok (.func fn first cap) w:=fun _ _ _ _=>rfl;obtain⟨ao,ca,rfl,hca,hsa⟩:=hu;obtain⟨n,hn⟩:∃n,x.length=n:=⟨_,rfl⟩;have hn':=hid hn;rw[hn]at hca hl |-;obtain⟨W,hW,hE,b0,hz⟩:=a0Q w #[.slice ao n ca] 25;have hsW:=hsa.mono RV.mono (a0l hE);have hXW:HX X W:=hX.ext hE;have huW:MV (mk X W) (.slice ao n ca) x:=⟨ao,ca,by rw[hn],by rw[hn];exact hca,hsW⟩;have hdes:=b2i X W (.slice ao n ca) x huW (by rw[hn];exact hl);obtain⟨b,hb⟩:∃b,w.heap.size=b:=⟨_,rfl⟩;rw[hb]at b0 hz;have k0:W.cell? ⟨b,0,none⟩=some (.slice ao n ca):=b0.cell 0 rfl;cases hd:a2F x with
 |false=>
  have e1:plE x=6:=by unfold plE;rw[hd,if_neg (by decide)]
  have e2:(plN x:Int)=0:=by unfold plN;rw[hd,if_neg (by decide)];rfl
  rw[hd]at hdes;rw[e1,e2];clear hd e1 e2 hsW huW hXW;go_enter Tryz.func50,Tryz.ntmps50
  go_wp2_with (first|(go_at_call 107;refine hdes.mono ?_;rintro ee w1 ⟨hw1,rfl⟩;obtain rfl:=hw1.symm))
  go_ret2
  exact⟨hE,rfl⟩
 |true=>
  obtain⟨hs,h1,h64,hc1,hc4⟩:=a3f hd;rw[hn]at hs h1 h64;have e1:plE x=0:=by unfold plE;rw[hd,if_pos rfl]
  have e2:plN x=a3u x (a0n x):=by unfold plN;rw[hd,if_pos rfl]
  rw[hd]at hdes;rw[e1,e2];have hfu:=hid fun w1 (h:Ext W w1)=>b7D X w1 (.slice ao n ca) x B (hXW.ext h) (mkx MV.mono huW h) hd hB hB1 hBB;have hpl:=hid (a6Y x (a0n x));obtain⟨c,hc⟩:∃c,a0n x=c:=⟨_,rfl⟩;rw[hc]at hs hc1 hc4 hfu hpl |-;by_cases hr:(a1C x c).2.length=c
  ·have hpe:a3u x c=a7L ((a0R x c).map (a2u x c)):=by unfold a3u;rw[if_neg (by omega)]
   rw[decide_eq_true hr]at hfu;rw[hpe];have hpe':=hid hpe;clear hpl hr hd e1 e2 hc hpe;go_enter Tryz.func50,Tryz.ntmps50
   go_wp2_with (first|(go_at_call 107;refine hdes.mono ?_;rintro ee w1 ⟨hw1,rfl⟩;obtain rfl:=hw1.symm)|(go_at_call 108;refine(hfu.out W (ExtX.refl _)).mono ?_;rintro ee w2 ⟨t2,rfl⟩;have k2:=t2.cell k0;obtain⟨w3,hw3,t3,b3,hz3⟩:=a0Q w2 #[.int .i64 0] 3;have k3:(w2.alloc (.cells #[.int .i64 0] 3)).cell? ⟨b,0,none⟩=some (.slice ao n ca):=by{rw[hw3];exact t3.cell k2};have hw3':=hid hw3;clear hw3))
   rw[hw3'.out];obtain⟨bm,hbm⟩:∃bm,w2.heap.size=bm:=⟨_,rfl⟩;rw[hbm]at b3 hz3
   (try rw[hbm])
   obtain⟨nb,hnb⟩:∃nb,nb=if c=1 then 2 else 8:=⟨_,rfl⟩
   have hE3:Ext W w3:=t2.trans t3;have hbbm:b<bm:=by have:=t2.size;omega
   have b03:=b0.ext0 hE3;have hwX:∀k,X k=true->k<w.heap.size:=hX;have hHm:∀k,(X k||((k==bm)||a2R (bm+1) nb k))=true↔X k=true\/k=bm\/(bm+1<=k/\k<bm+1+nb):=fun k=>by
    simp only[Bool.or_eq_true,beq_iff_eq,a0V]
   have hy:∀k,((k==bm)||a2R (bm+1) nb k)=true↔k=bm\/(bm+1<=k/\k<bm+1+nb):=fun k=>by
    simp only[Bool.or_eq_true,beq_iff_eq,a0V]
   have hHX:Le (mk X w2) (mk (fun k=>X k||((k==bm)||a2R (bm+1) nb k)) w3):=a0T t3 (fun k _ hk=>by simp[noY]at hk) fun k hk hz=>by
    rcases(hHm k).1 hz with h|h|h
    ·exact h
    ·omega
    ·omega
   have hx3:MV (mk (fun k=>X k||((k==bm)||a2R (bm+1) nb k)) w3) (.slice ao n ca) x:=MV.mono _ _ _ _ hHX (mkx MV.mono huW t2);have hnb2:2<=nb:=by rw[hnb];split<;>decide
   have hray:=b7E 124 #[.pointer (some ⟨b,0,none⟩), .pointer (some ⟨bm,0,none⟩)]
    (fun done W'=>ExtX (fun k=>(k==bm)||a2R (bm+1) nb k) w3 W'/\Bx W' b #[.slice ao n ca] 25/\Bx W' bm #[.int .i64 ((a7L (done.map (a2u x c)):Nat):Int)] 3/\(∀d∈done,True))
    (fun k=>X k||((k==bm)||a2R (bm+1) nb k)) w3 (.slice ao n ca) x n c B nb hnb (fun _ _=>rfl)
    (fun k hk=>by
     rcases(hHm k).1 hk with h|h|h
     ·have:=hwX k h;have:=hE.size;have:=hE3.size;omega
     ·omega
     ·omega)
    (fun k hk=>by rw[hz3]at hk;exact(hHm k).2 (Or.inr (Or.inr (a0V.1 hk)))) hx3 hs h1 h64 hc1 hc4 hB hB1 hBB
    (fun done W' hi=>hi.1.weaken fun k _ hk=>by
     cases h:((k==bm)||a2R (bm+1) nb k)
     ·rfl
     ·rw[(hHm k).2 (Or.inr ((hy k).1 h))]at hk;exact absurd hk (by decide))
    (fun done W' W'' hi hE9=>by
     rw[hz3]at hE9;have hob:∀k,k<=bm->a2R (bm+1) nb k=false:=fun k hk=>by
      cases h:a2R (bm+1) nb k
      ·rfl
      ·have:=a0V.1 h;omega
     exact⟨hi.1.trans (hE9.weaken fun k _ hk=>by
      cases h:a2R (bm+1) nb k
      ·rfl
      ·rw[(hy k).2 (Or.inr (a0V.1 h))]at hk;exact absurd hk (by decide)),hi.2.1.ext hE9 (hob _ (by omega)),hi.2.2.1.ext hE9 (hob _ (Nat.le_refl _)),hi.2.2.2⟩)
    (fun done d W' vd hi hpre hvd hdl hsz=>by
     obtain⟨rest,hrest⟩:=hpre;have hmem:∀q∈done++[d],q∈a0R x c:=fun q hq=>by rw[<-hrest];exact List.mem_append_left _ hq
     have hdm:=a2B hs hn'.out hc1 hc4 (a5Y hB hB1) hBB (hmem d (by simp));have hdB:BR 42875000 d:=fun q hq=>by
      have:=hdm.2 q hq;have h2:=Nat.mul_le_mul_left 42875 hBB;omega
     have hXW':HX (fun k=>X k||((k==bm)||a2R (bm+1) nb k)) W':=fun k hk=>by
      rcases(hHm k).1 hk with h|h|h
      ·have:=hwX k h;have:=hE.size;have:=hE3.size;omega
      ·omega
      ·omega
     have hxW':MV (mk (fun k=>X k||((k==bm)||a2R (bm+1) nb k)) W') (.slice ao n ca) x:=MV.mono _ _ _ _ (a0r hi.1 fun k hk=>(hHm k).2 (Or.inr ((hy k).1 hk))) hx3;have hkm:a7L (done.map (a2u x c))<=64:=a8v fun q hq=>by
      obtain⟨r,_,rfl⟩:=List.mem_map.1 hq;have:=a5O x c r;rw[hn'.out]at this;omega
     refine(b6r _ W' vd d x n c B b bm _ ao ca hXW' hxW' hvd hdl hs h64 hc4 hB hBB hdB hi.2.1 hi.2.2.1 hkm).mono ?_;rintro e W'' ⟨rfl,hE9,bm9⟩;have hobm:∀k,ob (some ⟨bm,0,none⟩) k=true->k=bm:=fun k hk=>by
      have:bm=k:=by simpa[ob]using hk
      exact this.symm
     refine⟨rfl,⟨hi.1.trans (hE9.weaken fun k _ hk=>?_),hi.2.1.ext hE9 (a0c (by omega)),?_,fun _ _=>trivial⟩,?_⟩
     ·cases h:ob (some ⟨bm,0,none⟩) k
      ·rfl
      ·rw[(hy k).2 (Or.inl (hobm k h))]at hk;exact absurd hk (by decide)
     ·rw[List.map_append,List.map_singleton,a8h];exact bm9
     ·rw[hz3]
      exact a9c.of hE9 (fun k hk=>by
       rw[hobm k hk];cases h:a2R (bm+1) nb bm
       ·rfl
       ·have:=a0V.1 h;omega) (by rw[hz3]at hsz;exact hsz))
    ⟨ExtX.refl _,b03,b3,fun _ _=>trivial⟩
   refine hray.mono ?_;rintro ee w4 ⟨rfl,hE4,bx4,bm4,_⟩;have km:w4.cell? ⟨bm,0,none⟩=some (.int .i64 ((a7L ((a0R x c).map (a2u x c)):Nat):Int)):=bm4.cell 0 rfl;obtain⟨R,hR⟩:∃R,a7L ((a0R x c).map (a2u x c))=R:=⟨_,rfl⟩;rw[hR]at km;have hR':=hid hR;clear hR;have hEw:Ext w w4:=(hE.trans hE3).then_ hE4 fun k hk _=>by
    cases h:((k==bm)||a2R (bm+1) nb k)
    ·rfl
    ·have:=(hy k).1 h;have:=hE.size;omega
   clear hray bm4 bx4;go_wp2_with fail
   go_ret2
   refine⟨hEw,?_⟩;rw[hR'.out];rfl
  ·have hlt:(a1C x c).2.length<c:=by have:=a4g hs;omega
   have hpe:a3u x c=n:=by unfold a3u;rw[if_pos hlt,hn]
   rw[decide_eq_false hr]at hfu;rw[hpe];clear hpl hr hd e1 e2 hc hpe;go_enter Tryz.func50,Tryz.ntmps50
   go_wp2_with (first|(go_at_call 107;refine hdes.mono ?_;rintro ee w1 ⟨hw1,rfl⟩;obtain rfl:=hw1.symm)|(go_at_call 108;refine(hfu.out W (ExtX.refl _)).mono ?_;rintro ee w2 ⟨t2,rfl⟩;have k2:=t2.cell k0))
   go_ret2
   exact⟨hE.trans t2,rfl⟩
end Go.Proofs.YtnnpfhoigmegcaaGreat
