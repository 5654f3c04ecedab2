/- Parts of a proof: each theorem states what it proves, and its conditions. -/
import Derived.Test.YtidbbddagfnfbaaGreatSgL
import Derived.IntWalk
import Derived.BigRegion
import Derived.Deep.AppendLies
namespace Go.Lin
open Go.Lim
theorem b1p {a b c:Rat} (h:a<b) (k:b<=c):a<c:=Rat.not_le.1 fun d=>absurd (Rat.le_trans k d) (Rat.not_le.2 h)
def a7B (f:List Int->Rat) (l:List (List Int)) (q:Rat) (n:Nat) (t:List (List Int)):Prop:=
 (l= []/\n=0/\t= [])\/(0<n/\(∃s∈l,q=f s)/\(∀s∈l,q<=f s)/\n=(l.filter fun s=>decide (f s=q)).length/\t=(l.filter fun s=>decide (f s=q)).take 64)
theorem a7B.zero (f:List Int->Rat) (q:Rat):a7B f [] q 0 []:= .inl ⟨rfl,rfl,rfl⟩
theorem a7B.new {f:List Int->Rat} {l:List (List Int)} {q:Rat} {n:Nat} {t:List (List Int)} (h:a7B f l q n t) (s:List Int) (hs:n=0\/f s<q):a7B f (l++[s]) (f s) 1 [s]:=by
 refine .inr ⟨Nat.one_pos,⟨s,by simp,rfl⟩,?_⟩;rcases h with⟨rfl,_,_⟩|⟨g,_,c,_,_⟩
 ·refine⟨fun x hx=>?_,by simp,by simp⟩
  have:x=s:=by simpa using hx
  subst this;exact Rat.le_refl
 ·have b:f s<q:=hs.resolve_left (by omega)
  have a:l.filter (fun x=>decide (f x=f s))= []:=List.filter_eq_nil_iff.2 fun x hx e=>by
   have d:=c x hx;have:f x=f s:=by simpa using e
   rw[this]at d;exact absurd (b1p b d) Rat.lt_irrefl
  refine⟨fun x hx=>?_,by simp[List.filter_append,a],by simp[List.filter_append,a]⟩;rcases List.mem_append.1 hx with hx|hx
  ·exact Rat.le_of_lt (b1p b (c x hx))
  ·have:x=s:=by simpa using hx
   subst this;exact Rat.le_refl
theorem a7B.tie {f:List Int->Rat} {l:List (List Int)} {q:Rat} {n:Nat} {t:List (List Int)} (h:a7B f l q n t) (s:List Int) (i:0<n) (hs:f s=q):a7B f (l++[s]) q (n+1) (if t.length<64 then t++[s]else t):=by
 rcases h with⟨_,j,_⟩|⟨_,⟨r,b,hq⟩,c,d,a⟩
 ·omega
 refine .inr ⟨by omega,⟨r,List.mem_append_left _ b,hq⟩,fun x hx=>?_,by rw[List.filter_append];simp[hs,d],?_⟩
 ·rcases List.mem_append.1 hx with hx|hx
  ·exact c x hx
  ·have:x=s:=by simpa using hx
   subst this;rw[hs];exact Rat.le_refl
 ·rw[List.filter_append]
  obtain⟨F,hF⟩:∃F,l.filter (fun x=>decide (f x=q))=F:=⟨_,rfl⟩;have e: [s].filter (fun x=>decide (f x=q))= [s]:=by simp[hs]
  rw[hF]at a |-;rw[e];subst a;by_cases g:F.length<64
  ·rw[List.take_of_length_le (by omega),if_pos g,List.take_of_length_le (by simp;omega)]
  ·rw[if_neg (by rw[List.length_take];omega),List.take_append_of_le_length (by omega)]
theorem a7B.more {f:List Int->Rat} {l:List (List Int)} {q:Rat} {n:Nat} {t:List (List Int)} (h:a7B f l q n t) (s:List Int) (c:0<n) (hs:q<f s):a7B f (l++[s]) q n t:=by
 rcases h with⟨_,i,_⟩|⟨_,⟨r,b,hq⟩,d,g,a⟩
 ·omega
 have e: [s].filter (fun x=>decide (f x=q))= []:=by
  have:¬f s=q:=fun e=>by rw[e]at hs;exact absurd hs Rat.lt_irrefl
  simp[this]
 refine .inr ⟨c,⟨r,List.mem_append_left _ b,hq⟩,fun x hx=>?_,by rw[List.filter_append,e,List.append_nil];exact g,by rw[List.filter_append,e,List.append_nil];exact a⟩;rcases List.mem_append.1 hx with hx|hx
 ·exact d x hx
 ·have:x=s:=by simpa using hx
  subst this;exact Rat.le_of_lt hs
theorem a7B.len {f:List Int->Rat} {l:List (List Int)} {q:Rat} {n:Nat} {t:List (List Int)} (h:a7B f l q n t):t.length<=n/\t.length<=64/\n<=l.length:=by
 rcases h with⟨rfl,rfl,rfl⟩|⟨_,_,_,b,a⟩
 ·simp
 ·have c:=List.length_filter_le (fun s=>decide (f s=q)) l
  subst a;rw[List.length_take];omega
end Go.Lin
namespace Go.Proofs.YtidbbddagfnfbaaGreat
open Go.RowKit Go.Rep Go.Lim
theorem b9q:SliceT Tryz.prog 46 22 1 24 (.slice none 0 0):=⟨Tryz.underlying46,by kernel_rfl⟩
def a6R (X:Nat->Bool) (w:World) (N H:Nat) (e:Ending) (w':World):Prop:=Ext w w'/\∃(oo:Option Addr) (co:Nat),e= .returned (.slice oo (a0C N H 0).length co)/\(a0C N H 0).length<=co/\OL (SlV (a0p .i64) 1) 1 X w.heap.size 22 w' oo co (a0C N H 0)
def mid (L:List Int) (H p j:Nat):List Int:=(List.range H).map fun q=>if q<p then L.getD q 0 else if q<j then L.getD p 0+1+((q:Int) - p)else L.getD q 0
theorem b6B {X:Nat->Bool} {lo oo a:Option Addr} {n:Nat} (h:∀k,ob a k=true->un X oo k=false) (c:∀k,ob a k=true->n<=k) (d:∀k,ob lo k=true->k<n):∀k,ob a k=true->un (un X lo) oo k=false:=fun k b=>by
 obtain⟨g,e⟩:=a1j (h k b);have f:ob lo k=false:=by
  cases i:ob lo k
  ·rfl
  ·have:=c k b;have:=d k i;omega
 simp[un,g,e,f]
theorem a1T (L:List Int) (H p j:Nat):(mid L H p j).length=H:=by simp[mid]
theorem a5E (L:List Int) (H p j q:Nat) (hq:q<(mid L H p j).length):(mid L H p j)[q]=if q<p then L.getD q 0 else if q<j then L.getD p 0+1+((q:Int) - p)else L.getD q 0:=by simp[mid]
theorem a5F {L:List Int} {q:Nat} {x:Int} (hq:q<L.length) (h:L[q]=x):L.getD q 0=x:=by simp[List.getD,hq,h]
theorem b4j {L:List Int} {H p:Nat} {x:Int} (c:L.length=H) (hp:p<L.length) (hx:L[p]=x):L.set p (x+1)=mid L H p (p+1):=by
 apply List.ext_getElem
 ·rw[a1T,List.length_set,c]
 ·intro q d e
  rw[a5E,List.getElem_set];have hq:q<L.length:=by simpa using d
  by_cases a:p=q
  ·subst a;rw[if_pos rfl,if_neg (by omega),if_pos (by omega),a5F hp hx];omega
  ·rw[if_neg a]
   by_cases b:q<p
   ·rw[if_pos b,a5F hq rfl]
   ·rw[if_neg b,if_neg (by omega),a5F hq rfl]
theorem b6C {L:List Int} {H p j:Nat} {y:Int} (e:p<j) (h:j<H) (b:(mid L H p j)[j - 1]'(by rw[a1T];omega)=y):(mid L H p j).set j (y+1)=mid L H p (j+1):=by
 apply List.ext_getElem
 ·rw[a1T,List.length_set,a1T]
 ·intro q g f
  rw[a5E]at b;rw[if_neg (by omega),if_pos (by omega)]at b;rw[a5E,List.getElem_set];by_cases c:j=q
  ·subst c;rw[if_pos rfl,if_neg (by omega),if_pos (by omega),<-b];omega
  ·rw[if_neg c,a5E]
   by_cases a:q<p
   ·rw[if_pos a,if_pos a]
   ·rw[if_neg a,if_neg a]
    by_cases d:q<j
    ·rw[if_pos d,if_pos (by omega)]
    ·rw[if_neg d,if_neg (by omega)]
theorem b6D {L:List Int} {H p:Nat} (d:L.length=H) (hp:p<L.length):mid L H p H=L.take p++up (L[p]+1) (L.length - p):=by
 apply List.ext_getElem
 ·rw[a1T,List.length_append,List.length_take,a6B];omega
 ·intro q b c
  rw[a1T]at b;rw[a5E,List.getElem_append];by_cases a:q<p
  ·rw[if_pos a,dif_pos (by simp;omega),List.getElem_take,a5F (by omega) rfl]
  ·rw[if_neg a,if_pos b,dif_neg (by simp;omega),b3d,a5F hp rfl]
   simp only[List.length_take];omega
theorem b2b (X:Nat->Bool) (N H:Nat) (w:World) (hN:N<=64) (hH:H<=N) (hch:ch N H<=1000000) (hX:∀k,X k=true->k<w.heap.size):
  Calls Tryz.prog 116 #[.int .i64 (N:Int), .int .i64 (H:Int)] w (a6R X w N H):=by
 have hfirst:=hid (a3A N H 0);go_enter Tryz.func116,Tryz.ntmps116
 go_wp2_with (at_make;refine a2y a2h (a0p.elem .i64) 0 (fun _=>rfl) X hX w.heap.size (Nat.le_refl _) H rfl rfl rfl (by omega) (by omega) ?_;intro lo w1 hL1 hE1)
 go_loopw [6,21] (fun s c wr=>∃(k:Nat) (L:List Int),c= .int .i64 k/\k<=H/\L.length=H/\Hid (∀q (hq:q<L.length),q<k->L[q]=q)/\OL (a0p .i64) 1 X w.heap.size 3 wr lo H L/\Ext w wr) (fun _ c _=>H - (intOf c).toNat)
 case atStart=>exact⟨0,List.replicate H 0,rfl,Nat.zero_le _,by simp,hid (fun q hq h0=>by omega),hL1,hE1⟩
 case round=>
  obtain⟨k,L,rfl,hk,hLl,hq,hL,hE⟩:=hrel;have hhl:Hd lo H:=hLl▸hL.hd;by_cases hlt:k<H
  ·go_wp2_with (first|(with_reducible refine a0q a2h (by omega) (by assumption) ?_)|((with_reducible show wpList _ _ _ (⟨_, .store _ _ _,_,_,_,_⟩::_) _ _);refine a4C a7N k (k:Int) rfl rfl hL (by omega) rfl rfl ?_;intro w2 hL2 hE2))
   have hE3:=hE.own hL (Nat.le_refl _) hE2;have hq2:Hid (∀q (hq:q<(L.set k (k:Int)).length),q<k+1->(L.set k (k:Int))[q]=q):=hid (fun q hq1 hqk=>by
    by_cases hqk':k=q
    ·subst hqk';simp
    ·rw[List.getElem_set_ne hqk'];exact hq.out q _ (by omega))
   go_roundw
   case rel=>exact⟨k+1,L.set k (k:Int),by go_num,by omega,by simpa using hLl,hq2,hL2,hE3⟩
   case measure=>simp[intOf];omega
  ·have hup:Hid ((a0C N H 0)[0]? =some L):=hid (by
    have hup:L=up 0 H:=by
     apply List.ext_getElem
     ·rw[a6B,hLl]
     ·intro i h1 h2
      rw[hq.out i h1 (by omega),b3d];omega
    rw[hup];have:=hfirst.out;rw[if_pos hH]at this;exact this)
   have hXr:∀k,X k=true->k<wr.heap.size:=fun k hk=>Nat.lt_of_lt_of_le (hX k hk) hE.size;have hXl:=hL.unX hXr;clear hq hfirst hE1 hL1;go_wp2_with (at_builtin;refine a8j a2h rfl (a0p.elem .i64) hXr L rfl rfl hLl.symm (hL.sl (a0p.elem .i64)) (by omega) (by omega) ?_;intro a2 c2 w2 hC hE2)
   have hC2:Sl (a0p .i64) 1 (mk (un X lo) w2) a2 L:=hC.rehide (a0p.elem .i64) (fun _ _ _ _ h=>h) (fun k hk=>by
    have h1:X k=false:=hC.1 k hk;have h2:=(hC.block hk).1;have h3:ob lo k=false:=hL.ob_ge h2;simp[un,h1,h3])
   have hXl2:∀k,un X lo k=true->k<w2.heap.size:=fun k hk=>Nat.lt_of_lt_of_le (hXl k hk) hE2.size;have hw2:w.heap.size<=w2.heap.size:=Nat.le_trans hE.size hE2.size;have hO:OL (SlV (a0p .i64) 1) 1 (un X lo) w.heap.size 22 (w2.alloc (.cells #[.slice a2 H c2] 22)) (some ⟨w2.heap.size,0,none⟩) 1 [L]:=
    OL.lit (SlV.elem (a0p.elem .i64)) hXl2 hw2 [.slice a2 H c2] [L] _ (by simp[a0i,Value.cells]) rfl
     (fun i hi _=>by
              match i,hi with
              |0,_=>exact⟨a2,c2,by rw[<-hLl];rfl,hC.lenCap,hC2⟩) (by simp)
   have hL2:OL (a0p .i64) 1 (un X (some ⟨w2.heap.size,0,none⟩)) w.heap.size 3 (w2.alloc (.cells #[.slice a2 H c2] 22)) lo H L:=
    (hL.ext0 (a0p.elem .i64) hE2).ext (a0p.elem .i64) (Y:=noY) ((ExtX.refl _).alloc _) (fun k _ hk=>by simp[noY]at hk) (fun k hk hz=>by
     by_cases hx:X k=true
     ·exact hx
     ·have:w2.heap.size=k:=by simpa[un,hx,ob]using hz
      omega)
   have hE4:Ext w (w2.alloc (.cells #[.slice a2 H c2] 22)):=(hE.trans hE2).alloc _;have hlen:=hid (a1H N H 0);have hO':OL (SlV (a0p .i64) 1) 1 (un X lo) w.heap.size 22 (w2.alloc (.cells #[.slice a2 H c2] 22)) (some ⟨w2.heap.size,0,none⟩) 1 ((a0C N H 0).take 1):=by
    have h0:=hup.out;rw[List.getElem?_eq_some_iff]at h0;obtain⟨h1,h2⟩:=h0;rw[List.take_succ_eq_append_getElem h1,h2];exact hO
   clear hO hC hC2 hL hE hE2;go_loopw [7] (fun s wr=>∃(k:Nat) (L:List Int) (oo:Option Addr) (co:Nat),s= .slice oo (k+1) co/\L.length=H/\Hid ((a0C N H 0)[k]? =some L)/\OL (SlV (a0p .i64) 1) 1 (un X lo) w.heap.size 22 wr oo co ((a0C N H 0).take (k+1))/\OL (a0p .i64) 1 (un X oo) w.heap.size 3 wr lo H L/\Ext w wr) (fun s _=>(a0C N H 0).length - lenOf s)
   case atStart=>exact⟨0,L,_,_,rfl,hLl,hup,hO',hL2,hE4⟩
   case round=>
    obtain⟨k2,M,oo,co,rfl,hMl,hM,hOO,hMM,hEE⟩:=hrel;clear hO' hL2 hE4 hup hLl;clear L;have hhl:Hd lo H:=hMl▸hMM.hd;go_wp2_with fail
    go_loop [8] (fun c=>∃(i:Int),c= .int .i64 i/\ -1<=i/\i<H/\Hid (∀q (hq:q<M.length),i<q->M[q]=(N:Int) - H+q)) (fun c=>((intOf c)+1).toNat)
    case atStart=>exact⟨(H:Int) - 1,rfl,by omega,by omega,hid (fun q hq h0=>by omega)⟩
    case round=>
     obtain⟨i,rfl,hi1,hi2,hq⟩:=hrel;by_cases hi0:0<=i
     ·obtain⟨p,rfl⟩:=Int.eq_ofNat_of_zero_le hi0
      have hp:p<M.length:=by omega
      have c1:=hMM.sl (a0p.elem .i64)|>.int p hp;obtain⟨x,hx⟩:∃x,M[p]=x:=⟨_,rfl⟩;rw[hx]at c1;have hx':=hid hx;clear hx;by_cases hxe:x=(N:Int) - H+p
      ·have hq2:Hid (∀q (hq:q<M.length),(p:Int) - 1<q->M[q]=(N:Int) - H+q):=hid (fun q hq1 hqp=>by
        by_cases hqe:q=p
        ·subst hqe;rw[hx'.out];exact hxe
        ·exact hq.out q hq1 (by omega))
       go_wp2_with (with_reducible refine a0q a2h (by omega) (by assumption) ?_)
       go_round
       case rel=>exact⟨(p:Int) - 1,rfl,by omega,by omega,hq2⟩
       case measure=>simp[intOf]
      ·have hmem:M∈a0C N H 0:=by
        have:=hM.out;rw[List.getElem?_eq_some_iff]at this;obtain⟨h1,h2⟩:=this;rw[<-h2];exact List.getElem_mem h1
       have hxb:0<=x/\x<(N:Int) - H+p:=by
        have h1:=(a1K N H 0 M hmem).2.1 x (hx'.out▸List.getElem_mem hp);have h2:=b3e N H 0 M hmem p hp;rw[hx'.out]at h2;omega
       have hnx:Hid ((a0C N H 0)[k2+1]? =some (mid M H p H)):=hid (by
        have h0:=hM.out;rw[List.getElem?_eq_some_iff]at h0;obtain⟨h1,h2⟩:=h0;rw[<-a4Y N H 0 k2 h1,h2,b6D hMl hp];have h3:=b0T (0+(N:Int)) M p hp (by rw[hx'.out,hMl];omega) (fun q hq1 hqp=>by rw[hq.out q hq1 (by omega),hMl];omega);exact h3)
       have hset:=hid (b4j hMl hp hx'.out);clear hmem hq;go_wp2_with (first|(with_reducible refine a0q a2h (by omega) (by assumption) ?_)|((with_reducible show wpList _ _ _ (⟨_, .store _ _ _,_,_,_,_⟩::_) _ _);refine a4C a7N p (x+1) rfl rfl hMM hp rfl rfl ?_;intro w3 hM3 hE3))
       have hO3:=hOO.ext (SlV.elem (a0p.elem .i64)) hE3 (fun k _ hk=>a0r hk) (fun _ _ h=>h);have hE4:=hEE.own hMM (Nat.le_refl _) hE3;rw[hset.out]at hM3;clear hOO hMM hEE hE3 c1;go_loopw [9] (fun c wr=>∃(j:Nat),c= .int .i64 j/\p<j/\j<=H/\OL (SlV (a0p .i64) 1) 1 (un X lo) w.heap.size 22 wr oo co ((a0C N H 0).take (k2+1))/\OL (a0p .i64) 1 (un X oo) w.heap.size 3 wr lo H (mid M H p j)/\Ext w wr) (fun c _=>H - (intOf c).toNat)
       case atStart=>exact⟨p+1,by go_num,by omega,by omega,hO3,hM3,hE4⟩
       case round=>
        obtain⟨j,rfl,hpj,hjH,hO5,hM5,hE5⟩:=hrel;clear hO3 hM3 hE4;by_cases hj:j<H
        ·have hj1:j - 1<(mid M H p j).length:=by rw[a1T];omega
         have hj2:j<(mid M H p j).length:=by rw[a1T];exact hj
         have c2:=hM5.sl (a0p.elem .i64)|>.int (j - 1) hj1;obtain⟨y,hy⟩:∃y,(mid M H p j)[j - 1]=y:=⟨_,rfl⟩;have hyb:0<=y/\y<=1000:=by
          rw[a5E,if_neg (by omega),if_pos (by omega),a5F hp hx'.out]at hy;omega
         rw[hy]at c2;have hnext:=hid (b6C hpj hj hy);clear hy;obtain⟨j',rfl⟩:∃j',j=j'+1:=⟨j - 1,by omega⟩;simp only[Nat.add_sub_cancel]at c2;go_wp2_with (first|(with_reducible refine a0q a2h (by omega) (by assumption) ?_)|((with_reducible show wpList _ _ _ (⟨_, .store _ _ _,_,_,_,_⟩::_) _ _);refine a4C a7N (j'+1) (y+1) rfl rfl hM5 hj2 rfl rfl ?_;intro w6 hM6 hE6))
         have hO6:=hO5.ext (SlV.elem (a0p.elem .i64)) hE6 (fun k _ hk=>a0r hk) (fun _ _ h=>h);have hE7:=hE5.own hM5 (Nat.le_refl _) hE6;rw[hnext.out]at hM6;go_roundw
         case rel=>exact⟨j'+1+1,by go_num,by omega,by omega,hO6,hM6,hE7⟩
         case measure=>simp[intOf];omega
        ·have hje:j=H:=by omega
         rw[hje]at hM5;obtain⟨T,hT⟩:∃T,mid M H p H=T:=⟨_,rfl⟩;have hTl:T.length=H:=by rw[<-hT,a1T]
         rw[hT]at hM5 hnx;have hX5:∀k,X k=true->k<wr.heap.size:=fun k hk=>Nat.lt_of_lt_of_le (hX k hk) hE5.size;have hbl:∀k,ob lo k=true->w.heap.size<=k/\k<wr.heap.size:=fun k hk=>hM5.block hk;have hbo:∀k,ob oo k=true->w.heap.size<=k/\k<wr.heap.size:=fun k hk=>hO5.block hk;have hXo5:∀k,un X oo k=true->k<wr.heap.size:=fun k hk=>by
          by_cases hx:X k=true
          ·exact hX5 k hx
          ·exact(hbo k (by simpa[un,hx]using hk)).2
         have hXl5:∀k,un X lo k=true->k<wr.heap.size:=fun k hk=>by
          by_cases hx:X k=true
          ·exact hX5 k hx
          ·exact(hbl k (by simpa[un,hx]using hk)).2
         have hklen:k2+1<(a0C N H 0).length:=(List.getElem?_eq_some_iff.1 hnx.out).1;have hkch:k2+1<ch N H:=by rw[<-hlen.out];exact hklen
         have htake:((a0C N H 0).take (k2+1)).length=k2+1:=by simp;omega
         have htake2:Hid ((a0C N H 0).take (k2+1)++[T]=(a0C N H 0).take (k2+1+1)):=hid (by
          obtain⟨h1,h2⟩:=List.getElem?_eq_some_iff.1 hnx.out;rw[List.take_succ_eq_append_getElem h1,h2])
         have hklen':=hid hklen;have htake':=hid htake;clear hklen htake;clear hXl hXl2 hXr;clear hset hX5;go_wp2_with (first|(at_builtin;refine a8j a2h rfl (a0p.elem .i64) hXo5 T rfl rfl hTl.symm (hM5.sl (a0p.elem .i64)) (by omega) (by omega) ?_;intro a3 c3 w6 hC hE6;have hO6:=hO5.ext0 (SlV.elem (a0p.elem .i64)) hE6;have hXl6:∀k,un X lo k=true->k<w6.heap.size:=fun k hk=>Nat.lt_of_lt_of_le (hXl5 k hk) hE6.size;have hb6:w.heap.size<=w6.heap.size:=Nat.le_trans hE5.size hE6.size;have hC3:Sl (a0p .i64) 1 (mk (un (un X lo) oo) w6) a3 T:=hC.rehide (a0p.elem .i64) (fun _ _ _ _ h=>h) (b6B hC.1 (fun k hk=>(hC.block hk).1) (fun k hk=>(hbl k hk).2)))|(at_builtin;refine a0u b9q rfl (SlV.elem (a0p.elem .i64)) hb6 hXl6 (k2+1) htake'.out rfl rfl hO6 (.slice a3 H c3) T rfl ⟨a3,c3,by rw[hTl],hC.lenCap,hC3⟩ (by omega) (by omega) ?_;intro oo7 co7 w7 hO7 hE7 hor))
         have hM7:=(hM5.ext0 (a0p.elem .i64) hE6).beside (a0p.elem .i64) hE7 hor;have hE8:=(hE5.trans hE6).own hO6 (Nat.le_refl _) hE7;rw[htake2.out]at hO7;go_roundw
         case rel=>exact⟨k2+1,T,oo7,co7,rfl,hTl,hnx,hO7,hM7,hE8⟩
         case measure=>
          have:=hklen'.out;simp[lenOf];omega
     ·have hall:Hid ((a0C N H 0).length<=k2+1):=hid (by
       have h0:=hM.out;rw[List.getElem?_eq_some_iff]at h0;obtain⟨h1,h2⟩:=h0;have h3:=a4Y N H 0 k2 h1;rw[h2,a8e (0+(N:Int)) M (fun q hq1=>by rw[hq.out q hq1 (by omega),hMl];omega)]at h3;exact List.getElem?_eq_none_iff.1 h3.symm)
      have hk3:(a0C N H 0).length=k2+1:=by
       have h1:=(List.getElem?_eq_some_iff.1 hM.out).1;have h2:=hall.out;omega
      have hO9:=hOO.ext (SlV.elem (a0p.elem .i64)) (ExtX.refl (Y:=noY) wr) (fun k _ hk=>by simp[noY]at hk) (Z:=X) (fun k _ hk=>a0f hk);rw[List.take_of_length_le hall.out]at hO9;have hk3':=hid hk3;clear hk3;have hcc:=hO9.lenCap;go_wp2_with fail
      go_ret
      exact⟨hEE,oo,co,a3O hk3'.out.symm,hcc,hO9⟩
theorem a6S (X:Nat->Bool) (ao:Option Addr) (l:List Int) (d:Nat) (w:World) (hs:Sl (a0p .i64) 1 (mk X w) ao l) (o:l.length<=1099511627776) (j:∀k,X k=true->k<w.heap.size):
  Calls Tryz.prog 82 #[.slice ao l.length d] w (fun e g=>Ext w g/\∃h c,e= .returned (.slice h l.length c)/\l.length<=c/\OL (a0p .i64) 1 X w.heap.size 3 g h c l):=by
 go_enter Tryz.func82,Tryz.ntmps82
 go_wp2_with (at_builtin;refine a8j a2h rfl (a0p.elem .i64) j l rfl rfl rfl hs (by omega) (by omega) ?_;intro i m n f a)
 have b:=f.lenCap;go_ret
 exact⟨a,i,m,rfl,b,f⟩
def b7C (r:List Nat) (k i j M:Nat):Prop:=r.length=k+1/\∀p (_:p<r.length),r[p]=min (if j<p then ch (i+1) p else ch i p) M
theorem b7C.start (k M:Nat) (hM:1<=M):b7C ((List.replicate (k+1) 0).set 0 1) k 0 k M:=by
 obtain⟨h1,h2⟩:=a3h.start k;refine⟨h1,fun p hp=>?_⟩;have:=h2 p hp;rw[this];have hle:(if k<p then ch (0+1) p else ch 0 p)<=1:=by
  rw[if_neg (by omega)];cases p with
  |zero=>simp[ch]
  |succ p=>simp[ch]
 omega
theorem b7C.step {r:List Nat} {k i j M:Nat} (h:b7C r k i j M) (o:0<j) (n:j<=k) {x y:Nat} (hx:r[j]'(by rw[h.1];omega)=x) (m:r[j - 1]'(by rw[h.1];omega)=y):b7C (r.set j (min (x+y) M)) k i (j - 1) M:=by
 obtain⟨l,b⟩:=h;refine⟨by simpa using l,fun p hp=>?_⟩;have f:=b j (by omega);have g:=b (j - 1) (by omega);rw[if_neg (by omega),hx]at f;rw[if_neg (by omega),m]at g;rw[List.getElem_set];by_cases a:j=p
 ·subst a
  rw[if_pos rfl,if_pos (by omega)];have e:ch (i+1) j=ch i (j - 1)+ch i j:=by
   obtain⟨c,rfl⟩:∃c,j=c+1:=⟨j - 1,by omega⟩;rfl
  rw[e];omega
 ·rw[if_neg a,b p (by simpa using hp)]
  by_cases d:j<p
  ·rw[if_pos d,if_pos (by omega)]
  ·rw[if_neg d,if_neg (by omega)]
theorem b7C.next {r:List Nat} {k i M:Nat} (h:b7C r k i 0 M):b7C r k (i+1) k M:=by
 obtain⟨c,a⟩:=h;refine⟨c,fun p hp=>?_⟩;rw[a p hp,if_neg (show¬k<p by omega)];by_cases b:0<p
 ·rw[if_pos b]
 ·obtain rfl:p=0:=by omega
  rw[if_neg (by omega),a3x,a3x]
end Go.Proofs.YtidbbddagfnfbaaGreat
namespace Go.Lim
def b0m (s:List Int):Nat->List Int
 |0=>[]
 |n+1=>b0m s n++(if(n:Int)∈s then[]else[(n:Int)])
end Go.Lim
namespace Go.Proofs.YtidbbddagfnfbaaGreat
open Go.RowKit Go.Rep Go.Lim
theorem a5m:SliceT Tryz.prog 46 22 1 24 (.slice none 0 0):=⟨Tryz.underlying46,by kernel_rfl⟩
theorem b2k (w:World):∀k,noY k=true->k<w.heap.size:=fun k a=>by simp[noY]at a
end Go.Proofs.YtidbbddagfnfbaaGreat
namespace Go.Lim
def b9r (N H:Nat):List c1h:=(a0C N H 0).map fun s=>(s,b0m s N)
def b9s (n h:Int):Int:=if n<1\/64<n\/h<0\/n<h then 1 else if 4096<ch n.toNat h.toNat then 2 else 0
def b6E (n h:Int):List c1h:=if b9s n h=0 then b9r n.toNat h.toNat else[]
end Go.Lim
namespace Go.Proofs.YtidbbddagfnfbaaGreat
open Go.RowKit Go.Rep Go.Lim
def b4k (X:Nat->Bool) (w:World) (n h:Int) (e:Ending) (w':World):Prop:=Ext w w'/\∃(ao:Option Addr) (c:Nat),e= .returned (.tuple #[.slice ao (b6E n h).length c, .int .i64 (b9s n h)])/\(b6E n h).length<=c/\Sl a6v 2 (mk X w') ao (b6E n h)
theorem b4k.nil {X:Nat->Bool} {w a:World} {n h v:Int} {e:Ending} (b:Ext w a) (hs:b9s n h=v/\b6E n h= []) (c:e= .returned (.tuple #[.slice none 0 0, .int .i64 v])):b4k X w n h e a:=by
 refine⟨b,none,0,?_,?_,?_⟩
 ·rw[hs.1,hs.2];exact c
 ·rw[hs.2];exact Nat.le_refl _
 ·rw[hs.2];exact Sl.nil _ _ _ _
def c2j (X:Nat->Bool) (bl bn B:Nat):Nat->Bool:=fun k=>X k||(k==bl)||(k==bn)||a4r B k
def c1L (X:Nat->Bool) (w0:World) (bl bn B N:Nat) (done:List (List Int)) (W:World):Prop:=
 W.heap[bn]? =some (.cells #[.int .i64 (N:Int)] 3 (0,0))/\Ext w0 W/\∃(oo:Option Addr) (co:Nat),W.heap[bl]? =some (.cells #[.slice oo done.length co] 77 (0,0))/\done.length<=co/\
  OL a6v 2 (c2j X bl bn B) w0.heap.size 143 W oo co (done.map fun s=>(s,b0m s N))
theorem c1L.own {X:Nat->Bool} {e W W':World} {bl b B N:Nat} {done:List (List Int)} (h:c1L X e bl b B N done W) (d:ExtX (a4r B) W W') (r:bl<B) (n:b<B) (t:e.heap.size<=B):c1L X e bl b B N done W':=by
 obtain⟨g,l,oo,q,f,o,m⟩:=h;have c:∀{j:Nat} {v:Obj},W.heap[j]? =some v->j<W.heap.size:=fun h=>(Array.getElem?_eq_some_iff.1 h).1;have a:∀j,j<B->a4r B j=false:=fun j s=>by simp[a4r];omega
 refine⟨by rw[d.block b (c g) (a b n)];exact g,l.then_ d (fun i hi _=>a i (by omega)),oo,q,by rw[d.block bl (c f) (a bl r)];exact f,o,m.ext a6v.elem d (fun k _ p=>by simp[c2j,p]) (fun _ _ h=>h)⟩
end Go.Proofs.YtidbbddagfnfbaaGreat
namespace Go.Lin
section
variable {c:Nat} {p B:F2} {x w:Vec}
end
def ps (a:Vec):Vec:=fun i=>if 0<a i then a i else 0
end Go.Lin
namespace Go.Lin
open Go.Lim
def c2A (c:Nat) (s:Mat):Mat:=ofF c c fun j i=>ent s (i+1) j - ent s 0 j
section
variable {c k:Nat} {s:Mat} {x:List Rat} (hc3:c<=3) (hs:Shp (c+1) c s) (hx:x.length=c) (hd:b9I (c2A c s) c≠0)
include hc3 hs hx hd
omit hs in
end
end Go.Lin
namespace Go.Lim
end Go.Lim
namespace Go.Lin
open Go.Lim Go.Rep
noncomputable def inS (p:Mat) (x:List Rat) (I:List Int):Bool:=decide (0<c2x (a2V p I) x)
noncomputable def c2B (p:Mat) (x:List Rat) (L:List (List Int)):Nat:=L.countP (inS p x)
section
variable {p:Mat} {x:List Rat} (hp:c2f p=true) (hx:x.length=a0x p)
include hp hx
end
end Go.Lin
namespace Go.Lin
open Go.Lim Go.Rep
end Go.Lin
namespace Go.Proofs.YtidbbddagfnfbaaGreat
open Go.RowKit Go.Rep Go.Lim Go.Lin
end Go.Proofs.YtidbbddagfnfbaaGreat
namespace Go.Lim
theorem a9m:∀(n k:Nat),ch n k<=n^k
 |n,0=>by rw[a3x];exact Nat.le_refl _
 |0,k+1=>Nat.zero_le _
 |n+1,k+1=>by
  have h1:=a9m n k;have h2:=a9m n (k+1);have h3:n^k<=(n+1)^k:=Nat.pow_le_pow_left (by omega) k;have h4:n*n^k<=n*(n+1)^k:=Nat.mul_le_mul_left _ h3;rw[ch];rw[Nat.pow_succ,Nat.mul_comm]at h2;rw[Nat.pow_succ,Nat.mul_comm,Nat.succ_mul];omega
theorem c0U {n k:Nat} (b:n<=64) (a:k<=4):ch n k<=16777216:=
 Nat.le_trans (a9m n k) (Nat.le_trans (Nat.pow_le_pow_left b k) (Nat.le_trans (Nat.pow_le_pow_right (by decide) a) (by decide)))
end Go.Lim
namespace Go.Rep
open Go.RowKit Go.Lim Go.Lin
theorem b6F {w c:World} {g b:Nat} {l:List Int} (h:Sl (a0p .i64) 1 w.cell? (some ⟨g,0,none⟩) l) (e:ExtX (ob (some ⟨b,0,none⟩)) w c) (a:g≠b):Sl (a0p .i64) 1 c.cell? (some ⟨g,0,none⟩) l:=
 ⟨h.1,fun i hi=>let ⟨u,k,d,f⟩:=h.2 i hi;⟨u,k,fun j m=>e.cellY (d j m) (a0b a),f⟩⟩
theorem b1q {w a:World} {ao:Option Addr} {l:List Int} (h:Sl (a0p .i64) 1 w.cell? ao l) (b:Ext w a):Sl (a0p .i64) 1 a.cell? ao l:=by
 rw[<-a1U]at h |-;exact h.mono (a0p.mono _) (a0l b)
end Go.Rep
namespace Go.Lin
open Go.Lim Go.Rep
end Go.Lin
namespace Go.Proofs.YtidbbddagfnfbaaGreat
open Go.RowKit Go.Rep Go.Lim Go.Lin
theorem b4l {b a k:Nat} (c:ob (some ⟨b,0,none⟩) k=true) (h:b<a):a4r a k=false:=by
 have:b=k:=by simpa[ob]using c
 subst this;simp[a4r];omega
structure SInv (w0:World) (bt bp bx bn:Nat) (P1 P2:Value) (p:Mat) (x:List Rat) (done:List (List Int)) (W:World):Prop where
 ext:Ext w0 W
 tot:Bx W bt #[.int .i64 (done.length:Int)] 3
 pts:Bx W bp #[P1] 23
 pt:Bx W bx #[P2] 24
 cnt:Bx W bn #[.int .i64 (c2B p x done:Int)] 3
theorem SInv.own {g W W':World} {e d k f a:Nat} {l m:Value} {p:Mat} {x:List Rat} {done:List (List Int)} (h:SInv g e d k f l m p x done W) (b:ExtX (a4r a) W W') (t:g.heap.size<=a) (n:e<a) (r:d<a) (o:k<a) (q:f<a):SInv g e d k f l m p x done W':=by
 have c:∀j,j<a->a4r a j=false:=fun j s=>by simp[a4r];omega
 exact⟨h.ext.then_ b fun i hi _=>c i (by omega),h.tot.ext b (c _ n),h.pts.ext b (c _ r),h.pt.ext b (c _ o),h.cnt.ext b (c _ q)⟩
end Go.Proofs.YtidbbddagfnfbaaGreat
namespace Go.Rep
open Go.RowKit Go.Lim
section
variable {P:Program} {ops:Array Oper} {Q:Exit->Act->World->Prop} {a:Act} {w:World}
theorem a5n {o:Oper} {K:Act->World->Prop} {E:Prop} {t:TypeId} {x y:Operand} {n b i:Nat} {c d:Array Value} {T:TypeId} (B:o.guard=none) (j:o.op= .store t x y) (s:a1D P t n) (hx:a.eval x= .pointer (some ⟨b,i,none⟩)) (A:a.eval y= .agg d) (l:Bx w b c T) (m:i+n<=c.size) (e:d.size=n) (g:∀v∈d.toList,v.oneCell'=true)
  (r:∀h,Bx h b (c.toList.take i++d.toList++c.toList.drop (i+n)).toArray T->ExtX (ob (some ⟨b,0,none⟩)) w h->K (a.put o.dst undef) h):
  if Region.wanted o (yielded ops a.tmps)=true then Oper.wp P o a w K Q else E:=by
 have p:Region.wanted o (yielded ops a.tmps)=true:=by simp[Region.wanted,B]
 rw[if_pos p];obtain⟨F,G,H,z,C⟩:=s;have f:=run_storeCells_at P b i T d.toList 0 c w l (by simp[e];omega) g;have u:(storeVar t ⟨b,i,none⟩ (.agg d)).run P w= .ok () (w.setRow b (c.toList.take (i+0)++d.toList++c.toList.drop (i+0+d.toList.length)).toArray):=by
  simp[storeVar,sizeOf,typeInfo,z,C,Value.cells,e];simp only[Nat.add_zero,Array.length_toList,e,List.append_assoc]at f |-;exact f
 unfold Oper.wp execOp;rw[j];simp[hx,A,Instr.storeAt,Instr.sureAddr,u,Result.andThen];refine r _ ?_ ?_
 ·unfold Bx
  have:=setRow_heap w b c (c.toList.take (i+0)++d.toList++c.toList.drop (i+0+d.toList.length)).toArray T (0,0) l;simp only[Nat.add_zero,Array.length_toList,e,List.append_assoc]at this |-;exact this
 ·exact⟨rfl,rfl,rfl,by simp,fun k _ D=>setRow_other w b k _ (fun q=>by subst q;simp[ob]at D)⟩
end
end Go.Rep
namespace Go.Lin
open Go.Lim Go.Rep
theorem b4m {x:Mat} {y:List Rat} {n c B:Nat} {S:List Int} (g:Shp n c x) (m:y.length=n) (k:n<=8) (i:BM B x) (d:BR B y) (b:1<=B) (j:B<=510/\n*(2*B+1)<=6540) (h:∀v∈S,0<=v/\v<(c:Int)) (f:S.length<=4):hq (a6b x y n S)<=600000000:=by
 have a:=a4g g S;have e:=b0l g i h;have o:=b3T (a8S e b) d k f j;have l:=b3U a e d o b f j;exact c0K l (by rw[a5i (by rw[m,a.1]),a.1];exact k)
end Go.Lin
namespace Go.Proofs.YtidbbddagfnfbaaGreat
open Go.RowKit Go.Rep Go.Lim Go.Lin
theorem b2c (x y:Rat):(b5D x y= -1/\x<y)\/(b5D x y=0/\x=y)\/(b5D x y=1/\y<x):=by
 unfold b5D;by_cases h:x<y
 ·exact .inl ⟨by rw[if_pos h],h⟩
 ·by_cases a:y<x
  ·exact .inr (.inr ⟨by rw[if_neg h,if_pos a],a⟩)
  ·exact .inr (.inl ⟨by rw[if_neg h,if_neg a],Rat.le_antisymm (Rat.not_lt.1 a) (Rat.not_lt.1 h)⟩)
theorem b6G:(Tryz.prog.info? 46).map (fun i=>(i.zero,i.size,i.bytes))=some (some (.slice none 0 0),1,24):=by kernel_rfl
theorem a8r:TyI Tryz.prog 46 1:=let ⟨i,h,_,a,_⟩:=info_parts b6G;⟨i,h,a⟩
def hSb (X:Nat->Bool) (bs B0:Nat):Nat->Bool:=fun k=>X k||(k==bs)||a4r B0 k
abbrev a5o (p:Nat) (s:Bool) (a:Option Addr) (n c:Nat) (d:Option Addr) (k e:Nat) (so:Option Addr) (tl sc cnt:Nat):Array Value:=#[.int .i64 (p:Int), .bool s, .slice a n c, .slice d k e, .bool false, .slice none 0 0, .slice none 0 0, .slice so tl sc, .int .i64 (cnt:Int), .bool true]
structure SelB (X:Nat->Bool) (w0:World) (bs B0 p:Nat) (f:List Int->Rat) (done:List (List Int)) (q:Rat) (cnt:Nat) (t:List (List Int)) (so:Option Addr) (sc:Nat) (s:Bool) (a:Option Addr) (n c:Nat) (d:Option Addr) (k e:Nat) (W:World):Prop where
 inv:a7B f done q cnt t
 hqq:hq q<=600000000
 ext:Ext w0 W
 box:Bx W bs (a5o p s a n c d k e so t.length sc cnt) 48
 rss:QC (mk (un (hSb X bs B0) so) W) (.agg #[.bool s, .slice a n c, .slice d k e]) q
 sub:OL (SlV (a0p .i64) 1) 1 (hSb X bs B0) w0.heap.size 22 W so sc t
def a5p (X:Nat->Bool) (w0:World) (bs B0 p:Nat) (f:List Int->Rat) (done:List (List Int)) (W:World):Prop:=
 ∃q cnt t so sc s a n c d k e,SelB X w0 bs B0 p f done q cnt t so sc s a n c d k e W
theorem b0n {X:Nat->Bool} {b a k:Nat} (h:a4r a k=true):hSb X b a k=true:=by simp[hSb,h]
theorem a4y {X:Nat->Bool} {a b k:Nat} (h:ob (some ⟨a,0,none⟩) k=true):hSb X a b k=true:=by
 have:a=k:=by simpa[ob]using h
 simp[hSb,this]
theorem b9t {X:Nat->Bool} {a b k:Nat} (h:X k=true):hSb X a b k=true:=by simp[hSb,h]
theorem c0V {X:Nat->Bool} {a:World} {c b k:Nat} (f:a.heap.size<=c) (d:a.heap.size<=b) (e:k<a.heap.size) (h:hSb X c b k=true):X k=true:=by
 simp only[hSb,a4r,Bool.or_eq_true,beq_iff_eq,Bool.and_eq_true,decide_eq_true_eq]at h;rcases h with(h|h)|h
 ·exact h
 ·omega
 ·omega
theorem a5p.own {X:Nat->Bool} {m W W':World} {o b p:Nat} {f:List Int->Rat} {done:List (List Int)} (h:a5p X m o b p f done W) (g:ExtX (a4r b) W W') (F:m.heap.size<=b) (v:o<b):a5p X m o b p f done W':=by
 obtain⟨q,l,t,w,x,s,a,n,c,d,k,e,D,B,C,A,y,z⟩:=h;have u:∀j,j<b->a4r b j=false:=fun j E=>by simp[a4r];omega
 exact⟨q,l,t,w,x,s,a,n,c,d,k,e,D,B,C.then_ g fun i hi _=>u i (by omega),A.ext g (u _ v),QC.mono _ _ _ _ (a0w g fun k r=>a0f (b0n r)) y,z.ext (SlV.elem (a0p.elem _)) g (fun k _ r=>b0n r) (fun _ _ h=>h)⟩
theorem b4n {X:Nat->Bool} {m W j u:World} {g i p:Nat} {f:List Int->Rat} {done:List (List Int)} {q:Rat} {b:Nat} {t:List (List Int)} {o:Option Addr} {w:Nat} {s:Bool} {a:Option Addr} {n c:Nat} {d:Option Addr} {k e:Nat} (A:a7B f done q b t) (x:hq q<=600000000) (z:Ext m j) (B:b1a i W j) (r:ExtX (ob (some ⟨g,0,none⟩)) j u) (C:Bx u g (a5o p s a n c d k e o t.length w b) 48)
  (E:QC (mk (un (hSb X g i) o) j) (.agg #[.bool s, .slice a n c, .slice d k e]) q) (F:OL (SlV (a0p .i64) 1) 1 (hSb X g i) m.heap.size 22 j o w t) (D:m.heap.size<=g) (y:g<i) (v:i+6<=j.heap.size):a5p X m g i p f done u/\b1a i W u:=
 ⟨⟨q,b,t,o,w,s,a,n,c,d,k,e,A,x,ExtX.box z r D,C,QC.mono _ _ _ _ (a0w r fun _ l=>a0f (a4y l)) E,F.ext (SlV.elem (a0p.elem _)) r (fun _ _ l=>a4y l) (fun _ _ h=>h)⟩,B.trans (a2Z r (fun _ l=>b4l l y) v)⟩
theorem a9n {Y:Nat->Bool} {W e f:World} {d:Option Addr} {a:Nat} {s:List Int} {T:TypeId} (c:HX Y W) (j:W.heap.size<=e.heap.size) (b:s.length<=a) (g:OL (a0p .i64) 1 noY e.heap.size T f d a s):SlV (a0p .i64) 1 (mk Y f) (.slice d s.length a) s:=
 ⟨d,a,rfl,b,g.rehide (a0p.elem _) b3s fun k i=>by
  have l:=(g.block i).1;cases h:Y k
  ·rfl
  ·have:=c k h;omega⟩
theorem b9u {X:Nat->Bool} {v W j w wL wE:World} {b c p:Nat} {f:List Int->Rat} {done:List (List Int)} {r:Rat} {O:Option Addr} {C:Bool} {E:Option Addr} {F D:Nat} {G:Option Addr} {B I:Nat} {n:Option Addr} {g:Nat} {s:List Int} {T:TypeId} (P:a7B f (done++[s]) r 1 [s]) (A:hq r<=600000000) (o:Ext v j) (J:b1a c W j) (u:HX (hSb X b c) j) (a:Ext j w)
  (S:QC (mk (un (hSb X b c) O) j) (.agg #[.bool C, .slice E F D, .slice G B I]) r) (x:s.length<=g) (N:OL (a0p .i64) 1 noY j.heap.size T w n g s) (t:ExtX (ob (some ⟨b,0,none⟩)) w wL) (L:ExtX (ob (some ⟨b,0,none⟩)) (wL.alloc (.cells #[.slice n s.length g] 22)) wE)
  (Q:Bx wE b (a5o p C E F D G B I (some ⟨wL.heap.size,0,none⟩) 1 1 1) 48) (R:v.heap.size<=b) (M:b<c) (q:c+6<=j.heap.size):a5p X v b c p f (done++[s]) wE/\b1a c W wE:=by
 have U:ExtX (ob (some ⟨b,0,none⟩)) w (wL.alloc (.cells #[.slice n s.length g] 22)):=t.trans (ExtX.of ((ExtX.refl wL).alloc _));have m:=U.trans L;have y:=a9n u (Nat.le_refl _) x N;have z:SlV (a0p .i64) 1 (mk (hSb X b c) wL) (.slice n s.length g) s:=SlV.mono (a0p.mono _) _ _ _ _ _ (a0w t fun _ d=>a4y d) y;have H:HX (hSb X b c) wL:=(u.ext a).ext t;have K:OL (SlV (a0p .i64) 1) 1 (hSb X b c) v.heap.size 22 (wL.alloc (.cells #[.slice n s.length g] 22)) (some ⟨wL.heap.size,0,none⟩) 1 [s]:=
  OL.lit (l:=[s]) (SlV.elem (a0p.elem _)) H (Nat.le_trans (o.trans a).size t.size) [.slice n s.length g] #[.slice n s.length g] rfl rfl (fun i hi _=>by
   have:i=0:=by simpa using hi
   subst this;exact z) (by simp)
 refine⟨⟨r,1,[s],some ⟨wL.heap.size,0,none⟩,1,C,E,F,D,G,B,I,P,A,ExtX.box (o.trans a) m R,Q,QC.mono _ _ _ _ (a0T m (fun _ _ d=>a0f (a4y d)) fun k d hz=>?_) (mkx QC.mono S a),K.ext (SlV.elem (a0p.elem _)) L (fun _ _ d=>a4y d) (fun _ _ h=>h)⟩,(J.trans (a2Z a (fun k d=>by simp[noY]at d) q)).trans (a2Z m (fun _ d=>b4l d M) (Nat.le_trans q a.size))⟩;rcases Bool.or_eq_true _ _|>.mp (show(hSb X b c k||ob (some ⟨wL.heap.size,0,none⟩) k)=true from hz)with h|h
 ·exact a0f h
 ·have e:wL.heap.size=k:=by simpa[ob]using h
  have:=t.size;omega
set_option maxRecDepth 100000 in
set_option maxHeartbeats 1600000 in
theorem b4o (X:Nat->Bool) (w0:World) (bm m C p kc:Nat) (N:Int) (xo:Option Addr) (xl xc:Nat) (yo:Option Addr) (yl yc:Nat) (sm:Bool) (am:Option Addr) (nm cm:Nat) (dm:Option Addr) (km em:Nat) (x:Mat) (y:List Rat) (n c B:Nat) (done:List (List Int)) (s:List Int) (W:World)
  (hX:HX X w0) (h9:Bx w0 bm #[.int .i64 N, .slice xo xl xc, .slice yo yl yc, .bool sm, .slice am nm cm, .slice dm km em] 117) (hm:a6N (mk X w0) (.agg #[.int .i64 N, .slice xo xl xc, .slice yo yl yc, .bool sm, .slice am nm cm, .slice dm km em]) (gmM x y c n)) (l1:w0.heap.size<=m) (l2:w0.heap.size<=C) (g1:m<C)
  (f5:Shp n c x) (hy:y.length=n) (hn:n<=8) (hc:c<=4) (e7:BM B x) (e3:BR B y) (h2:1<=B) (hB:B<=510/\n*(2*B+1)<=6540) (h5:∀v∈s,0<=v/\v<(c:Int)) (d2:s.length<=4) (i9:done.length<=4096)
  (hi:a5p X w0 m C p (a6b x y n) done W) (e9:Sl (a0p .i64) 1 W.cell? (some ⟨C+3,0,none⟩) s) (g8:C+6<=W.heap.size):
  Calls Tryz.prog 79 #[.slice (some ⟨C+3,0,none⟩) s.length kc, .pointer (some ⟨bm,0,none⟩), .pointer (some ⟨m,0,none⟩)] W (fun e W'=>e= .returned (.tuple #[])/\a5p X w0 m C p (a6b x y n) (done++[s]) W'/\b1a C W W'):=by
 obtain⟨q,l,t,P,sc,s1,a1,n1,c1,d1,k1,e1,I,c8,hE,c5,g2,c4⟩:=hi;obtain⟨i8,g7,f1⟩:=I.len;have f2:HX (hSb X m C) W:=fun k O=>by
  simp only[hSb,a4r,Bool.or_eq_true,beq_iff_eq,Bool.and_eq_true,decide_eq_true_eq]at O;have:=hE.size;rcases O with(h|h)|h
  ·have:=hX k h;omega
  ·omega
  ·omega
 have f0:HX (un (hSb X m C) P) W:=c4.unX f2;have h3:Le (mk X w0) (mk (un (hSb X m C) P) W):=b6l hE fun k O hz=>by
  rcases Bool.or_eq_true _ _|>.mp (show(hSb X m C k||ob P k)=true from hz)with h|h
  ·exact c0V l1 l2 O h
  ·rw[c4.ob_lt O]at h;cases h
 have h8:=a6N.mono _ _ _ _ h3 hm;have g9:=h9.ext0 hE;have Z:=hid (b6A (un (hSb X m C) P) W _ x y n c B (some ⟨C+3,0,none⟩) s kc f0 h8 e9 f5 hy hn hc e7 e3 h2 hB h5 d2);have f3:=b4m f5 hy hn e7 e3 h2 hB h5 d2;have j1:Hid ((done++[s]).length=done.length+1):=hid (by simp);obtain⟨r,hr⟩:∃r,a6b x y n s=r:=⟨_,rfl⟩;rw[hr]at Z f3;have b2:=hid hr;obtain⟨f,hf⟩:∃f,a6b x y n=f:=⟨_,rfl⟩;rw[hf]at I b2 |-;have d7:=hid e9;clear h8 hm e7 e3 f5 hy hr hf h3 e9;go_enter Tryz.func79,Tryz.ntmps79
 go_wp2_with ((with_reducible show wpList _ _ _ (⟨_, .load 117 _,_,_,_,_⟩::_) _ _);refine a3i b1o rfl g9 rfl ?_)
 refine Z.out.mono ?_;rintro e w5 ⟨d0,u5,rfl,c7⟩;obtain⟨s6,a6,n6,c6,d6,k6,e6,rfl⟩:=c7.shape;have bN:=Bx.new w5 #[.bool false, .slice none 0 0, .slice none 0 0] 45;clear Z g9 h9;have f4:=c5.ext0 d0;obtain⟨V,a2⟩:∃V,t.length=V:=⟨_,rfl⟩;rw[a2]at c5 f4 i8 g7;go_wp2_with ((with_reducible show wpList _ _ _ (⟨_, .store 45 _ _,_,_,_,_⟩::_) _ _);refine a0a a0t rfl rfl bN rfl rfl (a1Q _ _ _ _ _ _ _) ?_;intro w7 r1 r2;have b0:Ext w5 w7:=ExtX.box ((ExtX.refl w5).alloc _) r2 (Nat.le_refl _);have b7:=f4.ext0 b0;have q0:=r1.cell 0 rfl;have q1:=r1.cell 1 rfl;have q2:=r1.cell 2 rfl;have z1:w7.cell? ⟨m,1,none⟩=some (.bool s1):=b7.cell 1 rfl;have z2:w7.cell? ⟨m,1+1,none⟩=some (.slice a1 n1 c1):=b7.cell 2 rfl;have z3:w7.cell? ⟨m,1+2,none⟩=some (.slice d1 k1 e1):=b7.cell 3 rfl)
 have a7:=d0.trans b0;have i1:=hid (b5E (un (hSb X m C) P) w7 _ _ r q (f0.ext a7) ((mkx QC.mono c7 b0).qv (Nat.le_trans f3 (by decide))) ((mkx QC.mono g2 a7).qv (Nat.le_trans c8 (by decide))));refine i1.out.mono ?_;rintro e U ⟨c2,rfl⟩;have F:=a7.trans c2;have b8:=b7.ext0 c2;obtain⟨g4,e8⟩:∃g4,w5.heap.size=g4:=⟨_,rfl⟩;rw[e8]at r1;rw[e8];have r8:=r1.ext0 c2;have e2:ob (some ⟨m,0,none⟩) g4=false:=a0b (by have:=c5.lt;have:=d0.size;omega);have z8:U.cell? ⟨m,8,none⟩=some (.int .i64 (l:Int)):=b8.cell 8 rfl;have i0:=mkx QC.mono c7 (b0.trans c2);have a5:=mkx QC.mono g2 F;have a4:=c4.ext0 (SlV.elem (a0p.elem _)) F;have b3:=a2Z F (fun k O=>by simp[noY]at O) g8;have a3:=hE.trans F;have R:C+6<=U.heap.size:=Nat.le_trans g8 F.size;have d8:=f2.ext F;have b1:=hid (by rw[a1U];exact(b1q d7.out (F.trans ((ExtX.refl U).drew))):Sl (a0p .i64) 1 (mk noY U.drew) (some ⟨C+3,0,none⟩) s);obtain⟨cc,g3⟩:∃cc,b5D r q=cc:=⟨_,rfl⟩;have c9:=b2c r q;rw[g3];rw[g3]at c9;clear g3 i1 b7 f4 c5 g2 c4 c7 r1 r2 q0 q1 q2 z1 z2 z3 bN hE a7 c2 b0 d0 F e8 f0 f2 d7;by_cases hA:l=0\/r<q
 ·have d3:=hid (I.new s (by rw[b2.out];exact hA))
  rw[b2.out]at d3;have z:ob (some ⟨m,0,none⟩) g4=false:=e2;have i6:l=0\/(((l:Int)==0)=false/\cc= -1):=by
   rcases hA with h|h
   ·exact .inl h
   ·by_cases h0:l=0
    ·exact .inl h0
    ·refine .inr ⟨a2w (by omega),?_⟩
     rcases c9 with⟨h1,_⟩|⟨_,h1⟩|⟨_,h1⟩
     ·exact h1
     ·rw[h1]at h;exact absurd h Rat.lt_irrefl
     ·exact absurd h (Rat.not_lt.2 (Rat.le_of_lt h1))
  clear hA c9 I;have y0:=r8.cell 0 rfl;have y1:=r8.cell 1 rfl;have y2:=r8.cell 2 rfl;have f7:U.drew.cell? ⟨g4,0,none⟩=some (.bool s6)/\U.drew.cell? ⟨g4,1,none⟩=some (.slice a6 n6 c6)/\U.drew.cell? ⟨g4,2,none⟩=some (.slice d6 k6 e6):=⟨y0,y1,y2⟩;rcases i6 with rfl|⟨hz,rfl⟩
  all_goals
   go_upto_region 3 with fail
   refine a0O 9 (fun w'=>w'.cell? ⟨g4,0,none⟩=some (.bool s6)/\w'.cell? ⟨g4,1,none⟩=some (.slice a6 n6 c6)/\w'.cell? ⟨g4,2,none⟩=some (.slice d6 k6 e6)) (by kernel_rfl) (by kernel_rfl) f7 (fun a b=>?_);refine kt 0 b ?_;refine kt 1 b ?_;refine kt 4 b ?_;refine a0k (i:=2) (o:=⟨_,_,_,_,_,_⟩) (by kernel_rfl) rfl (fun K d=>?_);go_simp
   go_at_call 82;refine(a6S noY (some ⟨C+3,0,none⟩) s kc U.drew b1.out (by omega) (b2k _)).mono ?_;rintro ee H ⟨b4,bo,bc,rfl,a9,hC⟩
   refine d.out _ _ ⟨b4.cell a.1,b4.cell a.2.1,b4.cell a.2.2⟩ (fun a=>?_);clear d K
   (try simp only[Act.put,List.setIfInBounds_toArray,List.set_cons_zero,List.set_cons_succ])
   have b9:=(b8.ext0 ((ExtX.refl U).drew)).ext0 b4;have G:=hid (fun wL wE P1 P2 hb=>b9u (p:=p) (wL:=wL) (wE:=wE) d3.out f3 a3.drew (b3.trans (a2Z ((ExtX.refl (Y:=noY) U).drew) (fun k O=>by simp[noY]at O) R)) (d8.ext ((ExtX.refl (Y:=noY) U).drew)) b4 (mkx QC.mono i0 ((ExtX.refl U).drew)) a9 hC P1 P2 hb l1 g1 R);refine a1m (i:=3) (j:=5) (oi:=⟨_,_,_,_,_,_⟩) (oj:=⟨_,_,_,_,_,_⟩) (by kernel_rfl) rfl rfl (fun K d=>?_) (fun K d=>?_)
   ·skip
    go_simp
    skip
    refine d.out _ _ ⟨((ExtX.refl (Y:=noY) H).alloc _).cell a.1,((ExtX.refl (Y:=noY) H).alloc _).cell a.2.1,((ExtX.refl (Y:=noY) H).alloc _).cell a.2.2⟩ (fun a=>?_);clear d K
    (try simp only[Act.put,List.setIfInBounds_toArray,List.set_cons_zero,List.set_cons_succ])
    have bA:=b9.ext0 ((ExtX.refl (Y:=noY) H).alloc (.cells #[.slice bo s.length bc] 22));refine a0k (i:=5) (o:=⟨_,_,_,_,_,_⟩) (by kernel_rfl) rfl (fun K d=>?_);refine a5n rfl rfl a0t rfl rfl bA (by show 1+3<=10;omega) rfl (a1Q _ _ _ _ _ _ _) ?_;intro v1 x1 x2;refine d.out _ _ ⟨x2.cellY a.1 z,x2.cellY a.2.1 z,x2.cellY a.2.2 z⟩ (fun a=>?_);clear d K
    (try simp only[Act.put])
    have J:Bx v1 m (a5o p s6 a6 n6 c6 d6 k6 e6 P V sc _) 48:=x1;refine kt 6 b ?_;refine a0k (i:=7) (o:=⟨_,_,_,_,_,_⟩) (by kernel_rfl) rfl (fun K d=>?_);refine a1l (i:=8) rfl rfl a7N rfl rfl rfl rfl J (by show 8<10;omega) ?_;intro v2 x3 x4;refine d.out _ _ ⟨x4.cellY a.1 z,x4.cellY a.2.1 z,x4.cellY a.2.2 z⟩ (fun a=>?_);clear d K
    (try simp only[Act.put])
    have Q:Bx v2 m (a5o p s6 a6 n6 c6 d6 k6 e6 P V sc 1) 48:=x3;refine kt 8 b ?_;refine a0v (i:=9) (o:=⟨_,_,_,_,_,_⟩) (by kernel_rfl) rfl (by decide) (by kernel_rfl) (fun K d=>?_);refine a1l (i:=7) rfl rfl a8r rfl rfl rfl rfl Q (by show 7<10;omega) ?_;intro v3 x5 x6;refine d.out _ _ ?_;clear d K
    (try simp only[Act.put])
    have S:Bx v3 m (a5o p s6 a6 n6 c6 d6 k6 e6 (some ⟨H.heap.size,0,none⟩) 1 1 1) 48:=x5;have u:=hid (G.out H v3 (ExtX.refl _) (x2.trans (x4.trans x6)) S);clear G x1 J x3 Q x5 S;go_wp2_with fail
    go_end0
    exact⟨rfl,u.out⟩
   ·skip
    refine a5n rfl rfl a0t rfl rfl b9 (by show 1+3<=10;omega) rfl (a1Q _ _ _ _ _ _ _) ?_;intro v1 x1 x2;refine d.out _ _ ⟨x2.cellY a.1 z,x2.cellY a.2.1 z,x2.cellY a.2.2 z⟩ (fun a=>?_);clear d K
    (try simp only[Act.put])
    have J:Bx v1 m (a5o p s6 a6 n6 c6 d6 k6 e6 P V sc _) 48:=x1;refine kt 6 b ?_;refine a1m (i:=3) (j:=7) (oi:=⟨_,_,_,_,_,_⟩) (oj:=⟨_,_,_,_,_,_⟩) (by kernel_rfl) rfl rfl (fun K d=>?_) (fun K d=>?_)
    ·skip
     go_simp
     skip
     refine d.out _ _ ⟨((ExtX.refl (Y:=noY) v1).alloc _).cell a.1,((ExtX.refl (Y:=noY) v1).alloc _).cell a.2.1,((ExtX.refl (Y:=noY) v1).alloc _).cell a.2.2⟩ (fun a=>?_);clear d K
     (try simp only[Act.put,List.setIfInBounds_toArray,List.set_cons_zero,List.set_cons_succ])
     have bA:=J.ext0 ((ExtX.refl (Y:=noY) v1).alloc (.cells #[.slice bo s.length bc] 22));refine a0k (i:=7) (o:=⟨_,_,_,_,_,_⟩) (by kernel_rfl) rfl (fun K d=>?_);refine a1l (i:=8) rfl rfl a7N rfl rfl rfl rfl bA (by show 8<10;omega) ?_;intro v2 x3 x4;refine d.out _ _ ⟨x4.cellY a.1 z,x4.cellY a.2.1 z,x4.cellY a.2.2 z⟩ (fun a=>?_);clear d K
     (try simp only[Act.put])
     have Q:Bx v2 m (a5o p s6 a6 n6 c6 d6 k6 e6 P V sc 1) 48:=x3;refine kt 8 b ?_;refine a0v (i:=9) (o:=⟨_,_,_,_,_,_⟩) (by kernel_rfl) rfl (by decide) (by kernel_rfl) (fun K d=>?_);refine a1l (i:=7) rfl rfl a8r rfl rfl rfl rfl Q (by show 7<10;omega) ?_;intro v3 x5 x6;refine d.out _ _ ?_;clear d K
     (try simp only[Act.put])
     have S:Bx v3 m (a5o p s6 a6 n6 c6 d6 k6 e6 (some ⟨v1.heap.size,0,none⟩) 1 1 1) 48:=x5;have u:=hid (G.out v1 v3 x2 (x4.trans x6) S);clear G x1 J x3 Q x5 S;go_wp2_with fail
     go_end0
     exact⟨rfl,u.out⟩
    ·skip
     refine a1l (i:=8) rfl rfl a7N rfl rfl rfl rfl J (by show 8<10;omega) ?_;intro v2 x3 x4;refine d.out _ _ ⟨x4.cellY a.1 z,x4.cellY a.2.1 z,x4.cellY a.2.2 z⟩ (fun a=>?_);clear d K
     (try simp only[Act.put])
     have Q:Bx v2 m (a5o p s6 a6 n6 c6 d6 k6 e6 P V sc 1) 48:=x3;refine a0k (i:=3) (o:=⟨_,_,_,_,_,_⟩) (by kernel_rfl) rfl (fun K d=>?_);go_simp
     skip
     refine d.out _ _ ⟨((ExtX.refl (Y:=noY) v2).alloc _).cell a.1,((ExtX.refl (Y:=noY) v2).alloc _).cell a.2.1,((ExtX.refl (Y:=noY) v2).alloc _).cell a.2.2⟩ (fun a=>?_);clear d K
     (try simp only[Act.put,List.setIfInBounds_toArray,List.set_cons_zero,List.set_cons_succ])
     have bA:=Q.ext0 ((ExtX.refl (Y:=noY) v2).alloc (.cells #[.slice bo s.length bc] 22));refine kt 8 b ?_;refine a0v (i:=9) (o:=⟨_,_,_,_,_,_⟩) (by kernel_rfl) rfl (by decide) (by kernel_rfl) (fun K d=>?_);refine a1l (i:=7) rfl rfl a8r rfl rfl rfl rfl bA (by show 7<10;omega) ?_;intro v3 x5 x6;refine d.out _ _ ?_;clear d K
     (try simp only[Act.put])
     have S:Bx v3 m (a5o p s6 a6 n6 c6 d6 k6 e6 (some ⟨v2.heap.size,0,none⟩) 1 1 1) 48:=x5;have u:=hid (G.out v2 v3 (x2.trans x4) x6 S);clear G x1 J x3 Q x5 S;go_wp2_with fail
     go_end0
     exact⟨rfl,u.out⟩
 ·have h0:0<l:=by
   by_cases h:l=0
   ·exact absurd (.inl h) hA
   ·omega
  have hz:((l:Int)==0)=false:=a2w (by omega);have g0:¬r<q:=fun h=>hA (.inr h);rcases c9 with⟨_,h⟩|⟨rfl,h⟩|⟨rfl,h⟩
  ·exact absurd h g0
  ·have d5:=I.tie s h0 (by rw[b2.out];exact h)
   obtain⟨y1,y2⟩:=a0J b8 (.int .i64 ((l:Int)+1)) (i:=8) (by show 8<10;omega);have f6:((l:Int)+1)=((l+1:Nat):Int):=by omega
   have a8:Bx (U.setCell ⟨m,8,none⟩ (.int .i64 ((l:Int)+1))) m (a5o p s1 a1 n1 c1 d1 k1 e1 P V sc (l+1)) 48:=by
    have:Bx (U.setCell ⟨m,8,none⟩ (.int .i64 ((l:Int)+1))) m #[.int .i64 (p:Int), .bool s1, .slice a1 n1 c1, .slice d1 k1 e1, .bool false, .slice none 0 0, .slice none 0 0, .slice P V sc, .int .i64 ((l:Int)+1), .bool true] 48:=y1;rw[f6]at this |-;exact this
   have f8:=b8.frozen 8;obtain⟨H,e4⟩:∃H,U.setCell ⟨m,8,none⟩ (.int .i64 ((l:Int)+1))=H:=⟨_,rfl⟩;rw[e4]at a8 y2;have z7:H.cell? ⟨m,7,none⟩=some (.slice P V sc):=a8.cell 7 rfl;have i3:Ext w0 H:=ExtX.box a3 y2 l1;have e0:QC (mk (un (hSb X m C) P) H) (.agg #[.bool s1, .slice a1 n1 c1, .slice d1 k1 e1]) q:=QC.mono _ _ _ _ (a0w y2 fun _ O=>a0f (a4y O)) a5;have M:=a4.ext (SlV.elem (a0p.elem _)) y2 (fun _ _ O=>a4y O) (fun _ _ h=>h);have i2:=b3.trans (a2Z y2 (fun _ O=>b4l O g1) R);have b5:C+6<=H.heap.size:=Nat.le_trans R y2.size;have d9:HX (hSb X m C) H:=d8.ext y2;have j0:l<=4096:=Nat.le_trans f1 i9;have D:=hid (And.intro d5 f6);clear hA I g0 h e2 y1 f6 d5 i0 r8;by_cases g6:V<64
   ·rw[a2,if_pos g6]at D
    have i7:=hid (by rw[a1U];exact b1q (by rw[<-a1U];exact b6F (by rw[<-a1U];exact b1.out) y2 (by omega)) ((ExtX.refl (Y:=noY) H).drew):Sl (a0p .i64) 1 (mk noY H.drew) (some ⟨C+3,0,none⟩) s);have h7:(t++[s]).length=V+1:=by rw[List.length_append,a2];rfl
    have d4:ob P m=false:=M.not_ob (by simp[hSb]);have u:=hid (fun(w c3 b6:World) a0 c0 (A:Ext H w) (E:ExtX (ob P) w c3) (f9:a0=P\/∃g,a0=some ⟨g,0,none⟩/\w.heap.size<=g) (hO:OL (SlV (a0p .i64) 1) 1 (hSb X m C) w0.heap.size 22 c3 a0 c0 (t++[s])) (hD:ExtX (ob (some ⟨m,0,none⟩)) c3 b6) (hb:Bx b6 m (a5o p s1 a1 n1 c1 d1 k1 e1 a0 (V+1) c0 (l+1)) 48)=>
     b4n (X:=X) (p:=p) D.out.1 c8 ((i3.trans A).own (M.ext0 (SlV.elem (a0p.elem _)) A) (Nat.le_refl _) E) ((i2.trans (a2Z A (fun k O=>by simp[noY]at O) b5)).trans (a2Z E (fun k O=>by
      cases hh:a4r C k
      ·rfl
      ·rw[M.not_ob (b0n hh)]at O;cases O) (Nat.le_trans b5 A.size))) hD (by rw[h7];exact hb) (QC.mono _ _ _ _ (a2j E f9) (mkx QC.mono e0 A)) hO l1 g1 (Nat.le_trans (Nat.le_trans b5 A.size) E.size))
    have i4:=hid (fun w (h:Ext H w)=>M.ext0 (SlV.elem (a0p.elem _)) h);have f7:H.drew.cell? ⟨m,7,none⟩=some (.slice P V sc):=z7;have i5:=hid (fun(w:World) (T:TypeId) bo bc (a9:s.length<=bc) (h:OL (a0p .i64) 1 noY H.drew.heap.size T w bo bc s)=>a9n (M.unX d9) (Nat.le_refl _) a9 h);have h6:=hid (fun w (h:Ext H w)=>a8.ext0 h);have hdr:Ext H H.drew:=(ExtX.refl H).drew;clear D b1 y2 e0 M i2 a5 a4 b3 a8;go_upto_region 7 with((with_reducible show wpList _ _ _ (⟨_, .store 3 _ _,_,_,_,_⟩::_) _ _);refine a8i a7N rfl rfl rfl rfl z8 f8 ?_;rw[e4])
    refine a0O 7 (fun w'=>w'.cell? ⟨m,7,none⟩=some (.slice P V sc)) (by kernel_rfl) (by kernel_rfl) f7 (fun a b=>?_);refine kt 0 b ?_;refine kt 1 b ?_;refine kt 2 b ?_;refine a0k (i:=3) (o:=⟨_,_,_,_,_,_⟩) (by kernel_rfl) rfl (fun K d=>?_);go_simp
    go_at_call 82;refine(a6S noY (some ⟨C+3,0,none⟩) s kc H.drew i7.out (by omega) (b2k _)).mono ?_;rintro ee w ⟨A,bo,bc,rfl,a9,hC⟩
    refine d.out _ _ (A.cell a) (fun a=>?_);clear d K
    (try simp only[Act.put,List.setIfInBounds_toArray,List.set_cons_zero,List.set_cons_succ])
    have L:=hdr.trans A;refine a0k (i:=4) (o:=⟨_,_,_,_,_,_⟩) (by kernel_rfl) rfl (fun K d=>?_);go_simp
    skip
    refine d.out _ _ (((ExtX.refl (Y:=noY) w).alloc _).cell a) (fun a=>?_);clear d K
    (try simp only[Act.put,List.setIfInBounds_toArray,List.set_cons_zero,List.set_cons_succ])
    refine a0k (i:=5) (o:=⟨_,_,_,_,_,_⟩) (by kernel_rfl) rfl (fun K d=>?_);refine a1R rfl rfl a5m rfl (SlV.elem (a0p.elem _)) (Nat.le_trans i3.size L.size) (d9.ext L) V a2 rfl rfl (i4.out w L) (.slice bo s.length bc) s rfl (i5.out w _ bo bc a9 hC) (by omega) (by omega) ?_;intro a0 c0 c3 g5 E f9;refine d.out _ _ (E.cellY ((h6.out w L).cell 7 rfl) d4) (fun a=>?_);clear d K
    (try simp only[Act.put,List.setIfInBounds_toArray,List.set_cons_zero,List.set_cons_succ])
    refine kt 6 b ?_;have h4:=(h6.out w L).ext E d4;refine a0v (i:=7) (o:=⟨_,_,_,_,_,_⟩) (by kernel_rfl) rfl (by decide) (by kernel_rfl) (fun K d=>?_);refine a1l (i:=7) rfl rfl a8r rfl rfl rfl rfl h4 (by show 7<10;omega) ?_;intro b6 x1 x2;refine d.out _ _ ?_;clear d K
    (try simp only[Act.put])
    have J:Bx b6 m (a5o p s1 a1 n1 c1 d1 k1 e1 a0 (V+1) c0 (l+1)) 48:=x1;have G:=hid (u.out w c3 b6 a0 c0 L E f9 g5 x2 J);clear u x1 J h4;go_wp2_with fail
    go_end0
    exact⟨rfl,G.out⟩
   ·rw[a2,if_neg g6]at D
    have u:=hid (b4n (X:=X) (p:=p) D.out.1 c8 a3 b3 y2 (by rw[a2];exact a8) a5 a4 l1 g1 R);clear D a8 y2;go_wp2_with ((with_reducible show wpList _ _ _ (⟨_, .store 3 _ _,_,_,_,_⟩::_) _ _);refine a8i a7N rfl rfl rfl rfl z8 f8 ?_;rw[e4])
    go_end0
    exact⟨rfl,u.out⟩
  ·have u:=hid ((⟨⟨q,l,t,P,sc,s1,a1,n1,c1,d1,k1,e1,I.more s h0 (by rw[b2.out];exact h),c8,a3,by rw[a2];exact b8,a5,a4⟩,b3⟩:a5p X w0 m C p f (done++[s]) U/\b1a C W U))
   clear hA g0 h;go_wp2_with fail
   go_end0
   exact⟨rfl,u.out⟩
set_option maxRecDepth 100000 in
set_option maxHeartbeats 3200000 in
theorem b4p (X:Nat->Bool) (w:World) (u:Value) (R:Option Addr) (uc:Nat) (x:Mat) (p:List Nat) (n c:Nat) (hX:HX X w) (hu:MV (mk X w) u x) (O:Sl BlR 1 (mk X w) R (usedL p c)) (m:Shp n c x) (hn:n<=96) (hc:c<=96) (hp:p.Pairwise (· < ·)) (c4:∀j∈p,j<c):
  Calls Tryz.prog 86 #[u, .slice R c uc] w (a1Z X w MC (pkL x p)):=by
 obtain⟨M,hM⟩:∃M,pkL x p=M:=⟨_,rfl⟩;have K:Hid (M.length=n):=hid (by rw[<-hM,b3z];exact m.1);have b3:Hid (∀i (h1:i<x.length) (h:i<M.length),pkR x[i] (usedL p c) c=M[i]):=hid fun i h1 h=>by subst hM;rw[b9m hp c4];simp[pkL]
 obtain⟨e,o⟩:∃e,usedL p c=e:=⟨_,rfl⟩;have B:Hid (e.length=c):=hid (by rw[<-o];exact a3m p c);obtain⟨ua,f8,rfl,a0,Z⟩:=hu;have e1:=Z.hd;have d0:=hid m.1;have d1:=hid m.2;rw[o]at b3 O;have b4:=O.hd;rw[B.out]at b4;rw[m.1]at e1 a0 |-;rw[hM];clear hM o m hp c4;go_enter Tryz.func86,Tryz.ntmps86
 go_wp2_with fail
 go_loopw [5,6] (fun ov iv wr=>∃(i:Nat) (oo:Option Addr) (co:Nat),iv= .int .i64 i/\ov= .slice oo i co/\i<=n/\OL RC 1 X w.heap.size 24 wr oo co (M.take i)/\Ext w wr) (fun _ iv _=>n - (intOf iv).toNat)
 case atStart=>exact⟨0,none,0,rfl,rfl,Nat.zero_le _,OL.nil _ _ _ _ _ _,ExtX.refl _⟩
 case round=>
  obtain⟨i,oo,co,rfl,rfl,hi,H,J⟩:=hrel;have b5:HX X wr:=hX.ext J;have e2:HX (un X oo) wr:=H.unX b5;have f1:=J.size;by_cases c7:i<n
  ·have a8:i<x.length:=by rw[d0.out];exact c7
   have b7:i<M.length:=by rw[K.out];exact c7
   have c3:=hid (a0L M i b7);have d4:=hid (a0W (l:=M) (i:=i) (by omega));have a3:Sl RV 1 (mk (un X oo) wr) ua x:=Z.old RV.mono J (fun j hj=>H.ob_lt hj);obtain⟨a1,c1,f4,I,C,P⟩:=a3.row i a8;have c0:Sl BlR 1 (mk (un X oo) wr) R e:=O.old BlR.mono J (fun j hj=>H.ob_lt hj);have s:=d1.out x[i] (List.getElem_mem _);have g:=b3.out i a8 b7;obtain⟨r,hr⟩:∃r,x[i]=r:=⟨_,rfl⟩;rw[hr]at I C P s g;have a2:=hid s;rw[s]at I C;have f5:Hd a1 c:=by have:=P.hd;rw[s]at this;exact this
   obtain⟨Mi,D⟩:∃Mi,M[i]=Mi:=⟨_,rfl⟩;rw[D]at c3 g;have b1:=hid g;clear s hr g D a3;obtain⟨wo,f0⟩:∃wo,wo=wr:=⟨_,rfl⟩;subst f0;go_wp2_with fail
   go_loopw [7,8] (fun rv jv wx=>∃(j:Nat) (t:Option Addr) (N q:Nat),jv= .int .i64 j/\rv= .slice t q N/\j<=c/\q<=j/\Hid ((pkR r e j).length=q)/\OL QC 3 (un X oo) wo.heap.size 45 wx t N (pkR r e j)/\Ext wo wx) (fun _ jv _=>c - (intOf jv).toNat)
   case atStart=>exact⟨0,none,0,0,rfl,rfl,Nat.zero_le _,Nat.le_refl _,hid rfl,OL.nil _ _ _ _ _ _,ExtX.refl _⟩
   case round=>
    obtain⟨j,t,N,q,rfl,rfl,hj,f6,d,A,a⟩:=hrel;have a4:HX (un X oo) wr:=e2.ext a;have d7:HX (un (un X oo) t) wr:=A.unX a4;by_cases a7:j<c
    ·have T:j<r.length:=by rw[a2.out];exact a7
     have b6:j<e.length:=by rw[B.out];exact a7
     have f7:=a.size;have c9:Sl QV 3 (mk (un (un X oo) t) wr) a1 r:=P.old QV.mono a (fun k hk=>A.ob_lt hk);have kb:=a0S ((c0.mono BlR.mono (a0l a)).bl j b6);have d9:=I.out noY wr a rfl;have E:Hid (e.getD j false=e[j]):=hid (by simp[List.getD_eq_getElem?_getD,b6]);have e3:Hid (r.getD j 0=r[j]):=hid (by simp[List.getD_eq_getElem?_getD,T]);obtain⟨b,hb⟩:∃b,e[j]=b:=⟨_,rfl⟩;rw[hb]at kb E;have iu:∀W,(Instr.indexAt 49 (.slice R c uc) (.int .i64 (j:Int))).run Tryz.prog W= .ok (.pointer (some (adr R j))) W:=a0z b3Z R c uc .i64 j b4 (by omega) rfl;clear hb;cases b
     ·have e4:Hid (pkR r e (j+1)=pkR r e j):=hid (c0R E.out)
      go_wp2_with fail
      rw[<-e4.out]at A d;go_roundw
      case rel=>exact⟨j+1,t,N,q,by go_num,rfl,by omega,by omega,d,A,a⟩
      case measure=>simp[intOf];omega
     ·have f:Hid (pkR r e (j+1)=pkR r e j++[r[j]]):=hid (by rw[<-e3.out];exact b9l E.out)
      obtain⟨L,b8⟩:∃L,pkR r e j=L:=⟨_,rfl⟩;rw[b8]at A f d;obtain⟨v,hv⟩:∃v,r[j]=v:=⟨_,rfl⟩;have d8:=hid hv;rw[hv]at f;clear b8 hv;go_wp2_with (first|(with_reducible refine a0q a0s (by omega) (by assumption) ?_)|(with_reducible refine a1M a0B (by omega) (by assumption) ?_)|((with_reducible show wpList _ _ _ (⟨_, .load 45 _,_,_,_,_⟩::_) _ _);refine a0G a0t j c9 T rfl (by simp) QV.agg ?_;intro u5 y;obtain⟨s5,a5,n5,c5,d5,m5,e5,rfl⟩:=y.shape))
      rw[d8.out]at y;refine(a3F (un (un X oo) t) wr _ v d7 y).mono ?_;rintro ee w6 ⟨z,u6,rfl,V⟩;obtain⟨s6,a6,n6,c6,d6,k6,e6,rfl⟩:=V.shape;have c2:=A.ext0 QC.elem z;have G:=(a.trans z).size;clear d9 kb iu y;go_wp2_with (at_builtin;refine a0u (l:=L) a0B rfl QC.elem G (a4.ext z) q d.out rfl rfl c2 (.agg #[.bool s6, .slice a6 n6 c6, .slice d6 k6 e6]) v rfl V (by omega) (by omega) ?_;intro d3 d2 w7 a9 F f2)
      have Q:=(a.trans z).own c2 (Nat.le_refl _) F;rw[<-f.out]at a9;have S:Hid ((pkR r e (j+1)).length=q+1):=hid (by rw[f.out,List.length_append,d.out];rfl);go_roundw
      case rel=>exact⟨j+1,d3,d2,q+1,by go_num,by go_num,by omega,by omega,S,a9,Q⟩
      case measure=>simp[intOf];omega
    ·have e0:j=c:=by omega
     subst e0;rw[b1.out]at A d;have b2:=H.ext0 RC.elem a;have G:=(J.trans a).size;have Y:=A.sl QC.elem;have b9:=A.lenCap;rw[d.out]at b9;have b0:RC (mk (un X oo) wr) (.slice t q N) Mi:=⟨t,N,by rw[d.out],by rw[d.out];exact b9,Y⟩;clear Y;go_wp2_with (at_builtin;refine a0u (l:=M.take i) a0s rfl RC.elem G (b5.ext a) i d4.out rfl rfl b2 (.slice t q N) Mi rfl b0 (by omega) (by omega) ?_;intro e7 f3 w7 U F f2)
     have Q:=(J.trans a).own b2 (Nat.le_refl _) F;rw[c3.out]at U;go_roundw
     case rel=>exact⟨i+1,e7,f3,by go_num,by go_num,by omega,U,Q⟩
     case measure=>simp[intOf];omega
  ·have e8:i=n:=by omega
   subst e8;rw[List.take_of_length_le (by rw[K.out];exact Nat.le_refl _)]at H;have e9:=H.sl RC.elem;have c8:=H.lenCap;go_wp2_with fail
   go_ret
   exact⟨J,_,rfl,oo,co,by rw[K.out];rfl,c8,e9⟩
end Go.Proofs.YtidbbddagfnfbaaGreat
namespace Go.Lin
end Go.Lin
namespace Go.Proofs.YtidbbddagfnfbaaGreat
open Go.RowKit Go.Rep Go.Lim Go.Lin
end Go.Proofs.YtidbbddagfnfbaaGreat
namespace Go.Lin
theorem b9v (m:Mat) (n c j:Nat) (_:j<c) (h:j<(trL m n c).length):(trL m n c)[j]=(List.range n).map fun p=>ent m p j:=by simp[trL]
end Go.Lin
namespace Go.Proofs.YtidbbddagfnfbaaGreat
open Go.RowKit Go.Rep Go.Lim Go.Lin
set_option maxRecDepth 100000 in
set_option maxHeartbeats 800000 in
theorem a5q (X:Nat->Bool) (w:World) (u:Value) (m:List (List Rat)) (n c:Nat) (hX:HX X w) (hu:MV (mk X w) u m) (hf:a0H m=true) (k:m.length=n) (y:a0x m=c):Calls Tryz.prog 87 #[u] w (b8N X w (trL m n c)):=by
 obtain⟨H,d2,a2,_,_⟩:=a0U hf;rw[k,y]at H;rw[k]at d2;rw[y]at a2;have I:=a4j QV.mono X w u m hu (by omega);rw[hf]at I;have g:=hid (fun w' (h:Ext w w')=>a4o X w' u m (mkx MV.mono hu h));rw[y]at g;obtain⟨M,hM⟩:∃M,trL m n c=M:=⟨_,rfl⟩;have B:Hid (M.length=c):=hid (by rw[<-hM];exact(a1Y m n c).1);have c4:Hid (∀j (G:j<c) (h:j<M.length),M[j]=(List.range n).map fun p=>ent m p j):=hid fun j G h=>by subst hM;exact b9v m n c j G h
 have e2:M.length<=c:=by rw[B.out];exact Nat.le_refl _
 have e1:c<=M.length:=by rw[B.out];exact Nat.le_refl _
 have V:=hid k;have Y:=hid H;rw[hM];obtain⟨ua,e7,rfl,a7,a4⟩:=hu;have b8:=a4.hd;rw[k]at I g a7 b8 |-;clear hM hf k y H;go_enter Tryz.func87,Tryz.ntmps87
 go_wp2_with fail
 refine I.mono ?_;rintro e w1 ⟨b9,rfl⟩;go_wp2_with fail
 go_loopw [4,5] (fun o E wr=>∃(j:Nat) (oo:Option Addr) (co:Nat),E= .int .i64 j/\o= .slice oo j co/\j<=c/\OL RC 1 X w.heap.size 24 wr oo co (M.take j)/\Ext w wr) (fun _ E _=>c - (intOf E).toNat)
 case atStart=>exact⟨0,none,0,rfl,rfl,Nat.zero_le _,OL.nil _ _ _ _ _ _,b9⟩
 case round=>
  obtain⟨j,oo,co,rfl,rfl,G,Q,S⟩:=hrel;have a3:HX X wr:=hX.ext S;have c0:HX (un X oo) wr:=Q.unX a3;have d1:=S.size;have r:=g.out wr S;by_cases b7:j<c
  ·have A:j<M.length:=by omega
   have b4:=hid (a0L M j A);have d4:=hid (a0W (l:=M) (i:=j) (by omega));obtain⟨R,hR⟩:∃R,M[j]=R:=⟨_,rfl⟩;have s:=c4.out j b7 A;rw[hR]at s b4;have D:Hid (R.length=n):=hid (by rw[s];simp);have c7:Hid (∀i (hi:i<n) (h:i<R.length),R[i]=ent m i j):=hid fun i hi h=>by subst s;simp
   have d9:R.length<=n:=by rw[D.out];exact Nat.le_refl _
   have e0:n<=R.length:=by rw[D.out];exact Nat.le_refl _
   clear s hR;obtain⟨wo,c8⟩:∃wo,wo=wr:=⟨_,rfl⟩;subst c8;go_wp2_with fail
   refine r.mono ?_;rintro e w2 ⟨rfl,rfl⟩;go_wp2_with fail
   go_loopw [6,7] (fun o E wx=>∃(i:Nat) (q:Option Addr) (P:Nat),E= .int .i64 i/\o= .slice q i P/\i<=n/\OL QC 3 (un X oo) w2.heap.size 45 wx q P (R.take i)/\Ext w2 wx) (fun _ E _=>n - (intOf E).toNat)
   case atStart=>exact⟨0,none,0,rfl,rfl,Nat.zero_le _,OL.nil _ _ _ _ _ _,ExtX.refl _⟩
   case round=>
    obtain⟨i,q,P,rfl,rfl,hi,b,a⟩:=hrel;have b5:HX (un X oo) wr:=c0.ext a;have d0:HX (un (un X oo) q) wr:=b.unX b5;have e9:=a.size;by_cases U:i<n
    ·have T:i<m.length:=by rw[V.out];exact U
     have z:i<R.length:=by omega
     have O:=hid (a0L R i z);have b1:=hid (a0W (l:=R) (i:=i) (by omega));have b0:=c7.out i U z;rw[b0]at O;have a0:Sl RV 1 (mk (un X oo) w2) ua m:=a4.old RV.mono S (fun j G=>Q.ob_lt G);have d7:Sl RV 1 (mk (un (un X oo) q) wr) ua m:=a0.old RV.mono a (fun j G=>b.ob_lt G);obtain⟨a1,c1,e8,a9,a8,Z⟩:=d7.row i T;have b6:=a9.out noY wr (ExtX.refl _) rfl;have L:Hid (m[i].length=c):=hid (Y.out.2 m[i] (List.getElem_mem _));have b2:j<m[i].length:=by rw[L.out];exact b7
     have b3:=hid (b1m T b2);obtain⟨x,hx⟩:∃x,m[i]=x:=⟨_,rfl⟩;rw[L.out]at b6 a8;have e3:Hd a1 c:=by have:=Z.hd;rw[L.out]at this;exact this
     obtain⟨v,hv⟩:∃v,ent m i j=v:=⟨_,rfl⟩;rw[hv]at b3 O;clear a9 b0 hv hx;go_wp2_with (first|(with_reducible refine a0q a0s (by omega) (by assumption) ?_)|(with_reducible refine a1M a0B (by omega) (by assumption) ?_)|((with_reducible show wpList _ _ _ (⟨_, .load 45 _,_,_,_,_⟩::_) _ _);refine a0G a0t j Z b2 rfl (by simp) QV.agg ?_;intro u5 J;rw[b3.out]at J;obtain⟨s5,a5,n5,c5,d5,k5,e5,rfl⟩:=J.shape))
     refine(a3F (un (un X oo) q) wr _ _ d0 J).mono ?_;rintro e w6 ⟨t,u6,rfl,W⟩;obtain⟨s6,a6,n6,c6,d6,k6,e6,rfl⟩:=W.shape;have d:=b.ext0 QC.elem t;have e4:=t.size;clear b6;go_wp2_with (at_builtin;refine a0u (l:=R.take i) a0B rfl QC.elem (by omega) (b5.ext t) i b1.out rfl rfl d (.agg #[.bool s6, .slice a6 n6 c6, .slice d6 k6 e6]) v rfl W (by omega) (by omega) ?_;intro F N w7 f C d3)
     have K:=(a.trans t).own d (Nat.le_refl _) C;rw[O.out]at f;go_roundw
     case rel=>exact⟨i+1,F,N,by go_num,by go_num,by omega,f,K⟩
     case measure=>simp[intOf];omega
    ·have c2:i=n:=by omega
     subst c2;rw[List.take_of_length_le (by omega)]at b;have r:=b.lenCap;have c9:=b.sl QC.elem;have d:=Q.ext0 RC.elem a;have d8:RC (mk (un X oo) wr) (.slice q i P) R:=⟨q,P,by rw[D.out],r,c9⟩;go_wp2_with (at_builtin;refine a0u (l:=M.take j) a0s rfl RC.elem (by omega) (a3.ext a) j d4.out rfl rfl d (.slice q i P) R rfl d8 (by omega) (by omega) ?_;intro F N w7 f C d3)
     have K:=(S.trans a).own d (Nat.le_refl _) C;rw[b4.out]at f;go_roundw
     case rel=>exact⟨j+1,F,N,by go_num,by go_num,by omega,f,K⟩
     case measure=>simp[intOf];omega
  ·have c3:j=c:=by omega
   subst c3;rw[List.take_of_length_le (by omega)]at Q;have hc:=Q.lenCap;have hs:=Q.sl RC.elem;go_wp2_with fail
   refine r.mono ?_;rintro e w2 ⟨rfl,rfl⟩;go_wp2_with fail
   go_ret2
   exact⟨S,_,rfl,oo,co,by rw[B.out];rfl,hc,hs⟩
set_option maxRecDepth 100000 in
theorem a9o (X:Nat->Bool) (w:World) (u v:Value) (m:List (List Rat)) (x:List Rat) (B:Nat) (hX:HX X w) (hu:MV (mk X w) u m) (W:RV (mk X w) v x) (hf:a0H m=true) (S:x.length=a0x m) (hB:BM B m) (P:BR B x) (Y:1<=B) (c2:200*B<=68000000000):Calls Tryz.prog 90 #[u,v] w (c1D X w (a3j m x)):=by
 obtain⟨q,b3,f,_,_⟩:=a0U hf;have s:=a4j QV.mono X w u m hu (by omega);rw[hf]at s;have b:=hid (fun w' (h:Ext w w')=>a4o X w' u m (mkx MV.mono hu h));obtain⟨ua,c4,rfl,K,J⟩:=hu;obtain⟨va,D,rfl,H,a8⟩:=W;have Z:=J.hd;obtain⟨c,N⟩:∃c,a0x m=c:=⟨_,rfl⟩;rw[N]at b S f q;have c8:((x.length:Int) !=(c:Int))=false:=a6q (by omega);have G:=hid q;have b9:=hid S;have b0:=hid hB;have L:=hid P;obtain⟨n,U⟩:∃n,m.length=n:=⟨_,rfl⟩;rw[U]at s b K Z b3 |-;have b6:=hid U;have r:Hid ((a3j m x).length=n):=hid (by rw[a4X];exact U);clear hf q U S N hB P;go_enter Tryz.func90,Tryz.ntmps90
 go_wp2_with fail
 refine s.mono ?_;rintro e w1 ⟨z,rfl⟩;have a2:=b.out w1 z;go_wp2_with fail
 refine a2.mono ?_;rintro e w2 ⟨rfl,rfl⟩;go_wp2_with fail
 go_loopw [6,7] (fun o k wr=>∃(i:Nat) (oo:Option Addr) (V:Nat),k= .int .i64 i/\o= .slice oo i V/\i<=n/\OL QC 3 X w.heap.size 45 wr oo V ((a3j m x).take i)/\Ext w wr) (fun _ k _=>n - (intOf k).toNat)
 case atStart=>exact⟨0,none,0,rfl,rfl,Nat.zero_le _,OL.nil _ _ _ _ _ _,z⟩
 case round=>
  obtain⟨i,oo,V,rfl,rfl,hi,g,y⟩:=hrel;have I:HX X wr:=hX.ext y;have a0:HX (un X oo) wr:=g.unX I;have b2:=y.size;by_cases T:i<n
  ·have C:i<m.length:=by rw[b6.out];exact T
   have Q:i<(a3j m x).length:=by rw[r.out];exact T
   have b5:Sl RV 1 (mk (un X oo) wr) ua m:=J.old RV.mono y (fun j hj=>g.ob_lt hj);have a9:RV (mk (un X oo) wr) (.slice va x.length D) x:=a5Q RV.mono ⟨va,D,rfl,H,a8⟩ y (fun j hj=>g.ob_lt hj);have R:=hid (a0L (a3j m x) i Q);have b4:=hid (a0W (l:=a3j m x) (i:=i) (by omega));obtain⟨a1,c1,c5,O,M,a7⟩:=b5.row i C;have c0:=O.out noY wr (ExtX.refl _) rfl;have t:=hid (G.out.2 m[i] (List.getElem_mem _));have b1:=hid (a5W (v:=x) C Q);have p:=a2g (b0.out m[i] (List.getElem_mem _)) L.out Y (by rw[t.out];exact f) c2;have a:=a5l (un X oo) wr _ _ m[i] x a0 ⟨a1,c1,rfl,M,a7⟩ a9 (by rw[t.out];omega) (by rw[t.out,b9.out]) p.1 p.2;rw[<-b1.out]at a;obtain⟨v,W⟩:∃v,(a3j m x)[i]=v:=⟨_,rfl⟩;rw[W]at a R;clear W O p;go_wp2_with (with_reducible refine a0q a0s (by omega) (by assumption) ?_)
   refine a.mono ?_;rintro e w6 ⟨d,u6,rfl,F⟩;obtain⟨s6,a6,n6,c6,d6,k6,e6,rfl⟩:=F.shape;have A:=g.ext0 QC.elem d;have c3:=d.size;clear c0;go_wp2_with (at_builtin;refine a0u (l:=(a3j m x).take i) a0B rfl QC.elem (by omega) (I.ext d) i b4.out rfl rfl A (.agg #[.bool s6, .slice a6 n6 c6, .slice d6 k6 e6]) v rfl F (by omega) (by omega) ?_;intro a4 b8 w7 E a3 c7)
   have b7:=(y.trans d).own A (Nat.le_refl _) a3;rw[R.out]at E;go_roundw
   case rel=>exact⟨i+1,a4,b8,by go_num,by go_num,by omega,E,b7⟩
   case measure=>simp[intOf];omega
  ·have a5:i=n:=by omega
   subst a5;rw[List.take_of_length_le (by rw[r.out];exact Nat.le_refl _)]at g;have S:=g.lenCap;have hs:=g.sl QC.elem;go_wp2_with fail
   go_ret2
   exact⟨y,_,rfl,oo,V,by rw[r.out];rfl,S,hs⟩
end Go.Proofs.YtidbbddagfnfbaaGreat
namespace Go.Lin
theorem b9w {b:Mat} {n c j:Nat} {x:List Rat} (hx:x.length=n) (a:j<(trL b n c).length) (h:j<(a3j (trL b n c) x).length):(a3j (trL b n c) x)[j]=a2l x (trL b n c)[j]:=by
 rw[a5W a h];unfold a2l;rw[(a1Y b n c).2 _ (List.getElem_mem _),hx,b3c]
end Go.Lin
namespace Go.Proofs.YtidbbddagfnfbaaGreat
open Go.RowKit Go.Rep Go.Lim Go.Lin
set_option maxRecDepth 100000 in
set_option maxHeartbeats 800000 in
theorem b9x (X:Nat->Bool) (w:World) (u v:Value) (a b:List (List Rat)) (k n c B:Nat) (hX:HX X w) (hu:MV (mk X w) u a) (hv:MV (mk X w) v b) (Z:a0H a=true) (I:a0H b=true) (ha:a.length=k) (hb:b.length=n) (K:a0x a=n) (a5:a0x b=c) (hB:BM B a) (d2:BM B b) (d5:1<=B) (j3:200*B<=68000000000):Calls Tryz.prog 88 #[u,v] w (b8N X w (b0S a b n c)):=by
 obtain⟨U,d9,t,a8,h1⟩:=a0U Z;obtain⟨h7,e8,V,a0,i9⟩:=a0U I;rw[ha,K]at U;rw[ha]at d9;rw[hb]at e8;rw[K]at t;rw[a5]at V;have L:=a4j QV.mono X w u a hu (by omega);rw[Z]at L;have E:=hid (fun G (h:Ext w G)=>a4j QV.mono X G v b (mkx MV.mono hv h) (by omega));rw[I]at E;have A:=hid (fun G (h:Ext w G)=>a4o X G u a (mkx MV.mono hu h));rw[K]at A;have b2:=hid (fun G (h:Ext w G)=>a5q X G v b n c (hX.ext h) (mkx MV.mono hv h) I hb a5);have d4:=hid (a8h (b7u (n:=n) (c:=c) (a8S d2 d5)));obtain⟨M,hM⟩:∃M,b0S a b n c=M:=⟨_,rfl⟩;have a7:Hid (M.length=k):=hid (by rw[<-hM,b5Q];exact ha);have c8:Hid (∀i (hi:i<a.length) (h:i<M.length),M[i]=a3j (trL b n c) a[i]):=hid fun i hi h=>by subst hM;exact a8T hi h
 rw[hM];obtain⟨T,hT⟩:∃T,trL b n c=T:=⟨_,rfl⟩;have b3:Hid (T.length=c):=hid (by rw[<-hT];exact(a1Y b n c).1);have f8:Hid (∀j (f:j<T.length),T[j].length=n):=hid fun j f=>by subst hT;exact(a1Y b n c).2 _ (List.getElem_mem _)
 have i6:Hid (∀x:List Rat,x.length=n->∀j (f:j<T.length) (h:j<(a3j T x).length),(a3j T x)[j]=a2l x T[j]):=hid fun x hx j f h=>by subst hT;exact b9w hx f h
 rw[hT]at b2 d4 c8;obtain⟨N,e3,rfl,d0,c9⟩:=hu;obtain⟨va,j9,rfl,e0,i3⟩:=hv;have d7:=c9.hd;have f2:=hid U;have i5:=hid hB;have g1:=hid ha;rw[ha]at d0 d7 L A |-;rw[hb]at b2 e0 E |-;have k1:((n:Int) !=(n:Int))=false:=a6q rfl;have j7:M.length<=k:=by rw[a7.out];exact Nat.le_refl _
 have j4:k<=M.length:=by rw[a7.out];exact Nat.le_refl _
 clear Z I ha hb K a5 U h7 h1 i9 a8 a0 i3 hB d2 hM hT;go_enter Tryz.func88,Tryz.ntmps88
 go_wp2_with fail
 refine L.mono ?_;rintro e w1 ⟨d8,rfl⟩;have h2:=E.out w1 d8;go_wp2_with fail
 refine h2.mono ?_;rintro e w2 ⟨f7,rfl⟩;have z:=d8.trans f7;have h3:=A.out w2 z;go_wp2_with fail
 refine h3.mono ?_;rintro e w3 ⟨rfl,rfl⟩;have h4:=b2.out w3 z;go_wp2_with fail
 refine h4.mono ?_;rintro e w4 ⟨f4,ut,rfl,S,tc,rfl,i7,c7⟩;have y:=z.trans f4;have f5:=hX.ext y;have d1:=c9.mono RV.mono (a0l y);have b8:=c7.hd;rw[b3.out]at i7 b8 |-;clear L h2 h3 h4;go_wp2_with fail
 go_loopw [8,9] (fun o kk wr=>∃(i:Nat) (oo:Option Addr) (co:Nat),kk= .int .i64 i/\o= .slice oo i co/\i<=k/\OL RC 1 X w4.heap.size 24 wr oo co (M.take i)/\Ext w4 wr) (fun _ kk _=>k - (intOf kk).toNat)
 case atStart=>exact⟨0,none,0,rfl,rfl,Nat.zero_le _,OL.nil _ _ _ _ _ _,ExtX.refl _⟩
 case round=>
  obtain⟨i,oo,co,rfl,rfl,hi,hO,hE⟩:=hrel;have e2:HX X wr:=f5.ext hE;have g9:HX (un X oo) wr:=hO.unX e2;have i8:=hE.size;by_cases j2:i<k
  ·have b9:i<a.length:=by rw[g1.out];exact j2
   have Q:i<M.length:=by omega
   have f3:=hid (a0L M i Q);have g2:=hid (a0W (l:=M) (i:=i) (by omega));have r:Hid (a[i].length=n):=hid (f2.out.2 a[i] (List.getElem_mem _));obtain⟨R,hR⟩:∃R,M[i]=R:=⟨_,rfl⟩;have J:=c8.out i b9 Q;rw[hR]at J f3;have b0:Hid (R.length=c):=hid (by rw[J,a4X];exact b3.out);have h9:Hid (∀j (f:j<T.length) (h:j<R.length),R[j]=a2l a[i] T[j]):=hid fun j f h=>by subst J;exact i6.out _ r.out j f h
   have j5:R.length<=c:=by rw[b0.out];exact Nat.le_refl _
   have j6:c<=R.length:=by rw[b0.out];exact Nat.le_refl _
   clear J hR;obtain⟨wo,i0⟩:∃wo,wo=wr:=⟨_,rfl⟩;subst i0;go_wp2_with fail
   go_loopw [10,11] (fun o cc wx=>∃(j:Nat) (m:Option Addr) (cr:Nat),cc= .int .i64 j/\o= .slice m j cr/\j<=c/\OL QC 3 (un X oo) wo.heap.size 45 wx m cr (R.take j)/\Ext wo wx) (fun _ cc _=>c - (intOf cc).toNat)
   case atStart=>exact⟨0,none,0,rfl,rfl,Nat.zero_le _,OL.nil _ _ _ _ _ _,ExtX.refl _⟩
   case round=>
    obtain⟨j,m,cr,rfl,rfl,f,g,d⟩:=hrel;have d3:HX (un X oo) wr:=g9.ext d;have g0:HX (un (un X oo) m) wr:=g.unX d3;have k0:=d.size;by_cases g5:j<c
    ·have a9:j<T.length:=by rw[b3.out];exact g5
     have P:j<R.length:=by omega
     have b6:=hid (a0L R j P);have e9:=hid (a0W (l:=R) (i:=j) (by omega));have e7:=h9.out j a9 P;rw[e7]at b6;have g3:Sl RV 1 (mk (un (un X oo) m) wr) N a:=(d1.old RV.mono hE (fun j f=>hO.ob_lt f)).old RV.mono d (fun j f=>g.ob_lt f);have g8:Sl RC 1 (mk (un (un X oo) m) wr) S T:=(c7.old RC.mono hE (fun j f=>hO.ob_lt f)).old RC.mono d (fun j f=>g.ob_lt f);obtain⟨a1,c1,i4,a3,e4,e1⟩:=g3.row i b9;obtain⟨a2,c2,h0,b7,f1,c4⟩:=g8.row j a9;have C:=hid (f8.out j a9);have h8:=i5.out a[i] (List.getElem_mem _);have c3:=d4.out T[j] (List.getElem_mem _);have a4:=a2g h8 c3 d5 (by rw[r.out];exact t) j3;have O:=c4.qv (fun q hq=>Nat.le_trans (c3 q hq) (by omega));have p:Ext wr wr.drew:=(ExtX.refl wr).drew;have F:=a5l (un (un X oo) m) wr.drew _ _ a[i] T[j] g0 ⟨a1,c1,rfl,e4,e1⟩ ⟨a2,c2,rfl,f1,O⟩ (by rw[r.out];omega) (by rw[r.out,C.out]) a4.1 a4.2;obtain⟨v,hv⟩:∃v,a2l a[i] T[j]=v:=⟨_,rfl⟩;rw[hv]at F b6;rw[r.out,C.out]at F;have f0:ob m (adr N i).block=false:=(a1j i4).2;have c5:ob m (adr S j).block=false:=(a1j h0).2;rw[r.out]at a3;rw[C.out]at b7;have hS:Hid (∀Y W',ExtX Y wr.drew W'->Y (adr N i).block=false->Y (adr S j).block=false->W'.cell? (adr N i)=some (.slice a1 n c1)/\W'.cell? (adr S j)=some (.slice a2 n c2)):=hid fun Y W' h hg hb=>⟨a3.out Y W' ((ExtX.of p).trans h) hg,b7.out Y W' ((ExtX.of p).trans h) hb⟩;obtain⟨g6,h6⟩:=hS.out noY wr.drew (ExtX.refl _) rfl rfl;have i1:∀W,(Instr.indexAt 23 (.slice N k e3) (.int .i64 (i:Int))).run Tryz.prog W= .ok (.pointer (some (adr N i))) W:=a0z a0s N k e3 .i64 i d7 (by omega) rfl;have i2:∀W,(Instr.indexAt 23 (.slice S c tc) (.int .i64 (j:Int))).run Tryz.prog W= .ok (.pointer (some (adr S j))) W:=a0z a0s S c tc .i64 j b8 (by omega) rfl;clear hv a3 b7 e7 a4 e1 c4 O;go_wp2_with fail
     go_region_held3 (fun G=>G.cell? (adr N i)=some (.slice a1 n c1)/\G.cell? (adr S j)=some (.slice a2 n c2))
      (first|exact hS.out noY _ t1 rfl rfl|exact hS.out noY _ (ExtX.alloc t1 _) rfl rfl|exact hS.out (ob m) _ ((ExtX.of t1).trans H) f0 c5|go_keep)
      (first|(go_at_call 91;(with_reducible refine F.mono ?_);rintro ee w6 ⟨t1,u6,rfl,c0⟩;obtain⟨s6,a6,n6,c6,d6,k6,e6,rfl⟩:=c0.shape;have D:=g.ext0 QC.elem (p.trans t1);have j8:=(p.trans t1).size;have g4:=d3.ext (p.trans t1))|(refine a1R (l:=R.take j) rfl (by rfl) a0B rfl QC.elem (by omega) g4 j e9.out rfl rfl D (.agg #[.bool s6, .slice a6 n6 c6, .slice d6 k6 e6]) v rfl c0 (by omega) (by omega) ?_;intro b1 b5 w7 s H j0))
     have b4:=(d.trans (p.trans t1)).own D (Nat.le_refl _) H;rw[b6.out]at s;clear g6 h6 i1 i2;go_wp2_with fail
     go_roundw
     case rel=>exact⟨j+1,b1,b5,by go_num,by go_num,by omega,s,b4⟩
     case measure=>simp[intOf];omega
    ·have g7:j=c:=by omega
     subst g7;rw[List.take_of_length_le (by omega)]at g;have f6:=g.lenCap;have f9:=g.sl QC.elem;have D:=hO.ext0 RC.elem d;have j1:RC (mk (un X oo) wr) (.slice m j cr) R:=⟨m,cr,by rw[b0.out],f6,f9⟩;go_wp2_with (at_builtin;refine a0u (l:=M.take i) a0s rfl RC.elem (by omega) (e2.ext d) i g2.out rfl rfl D (.slice m j cr) R rfl j1 (by omega) (by omega) ?_;intro b1 b5 w7 s H j0)
     have b4:=(hE.trans d).own D (Nat.le_refl _) H;rw[f3.out]at s;go_roundw
     case rel=>exact⟨i+1,b1,b5,by go_num,by go_num,by omega,s,b4⟩
     case measure=>simp[intOf];omega
  ·have h5:i=k:=by omega
   subst h5;rw[List.take_of_length_le (by omega)]at hO;have hc:=hO.lenCap;have hs:=hO.sl RC.elem;go_wp2_with fail
   go_ret2
   exact⟨y.trans hE,_,rfl,oo,co,by rw[a7.out];rfl,hc,hs⟩
end Go.Proofs.YtidbbddagfnfbaaGreat
namespace Go.Lin
open Go.Lim
theorem b4q {m:Mat} {n i:Nat} (h:i<(a1E m n).length) (hi:i<m.length):(a1E m n)[i]=m[i]++(List.range n).map fun j=>if i=j then 1 else 0:=by
 have a:i<n:=by simpa[a1E]using h
 simp only[a1E,List.getElem_map,List.getElem_range];rw[a3n hi]
 congr 1
 refine List.ext_getElem (by simp) fun j c b=>?_;rw[List.getElem_set,List.getElem_map,List.getElem_range,List.getElem_replicate]
theorem b0o {m:Mat} {n:Nat} (hs:Shp n n m):a0x (a1E m n)=2*n:=a9g (a1F hs) (by omega)
theorem c1M {m:Mat} {n:Nat} (a:n<=4) (hs:Shp n n m):a6H m n↔a9y m n=0:=by rw[b3X a hs];exact b1h a hs
end Go.Lin
namespace Go.Proofs.YtidbbddagfnfbaaGreat
open Go.RowKit Go.Rep Go.Lim Go.Lin
def c1N (X:Nat->Bool) (w:World) (l:List Rat) (e:Ending) (w':World):Prop:=Ext w w'/\∃oo co,e= .returned (.slice oo l.length co)/\OL QC 3 X w.heap.size 45 w' oo co l
set_option maxRecDepth 100000 in
theorem b0p (X:Nat->Bool) (w:World) (u:Value) (l:List Rat) (O:HX X w) (K:RV (mk X w) u l) (hl:l.length<=1000000):Calls Tryz.prog 235 #[u] w (c1N X w l):=by
 obtain⟨ao,ca,rfl,F,h⟩:=K;have D:=h.hd;go_enter Tryz.func235,Tryz.ntmps235
 go_wp2_with fail
 go_loopw [3,4] (fun o c wr=>∃(i:Nat) (oo:Option Addr) (q:Nat),c= .int .i64 i/\o= .slice oo i q/\i<=l.length/\OL QC 3 X w.heap.size 45 wr oo q (l.take i)/\Ext w wr) (fun _ c _=>l.length - (intOf c).toNat)
 case atStart=>exact⟨0,none,0,rfl,rfl,Nat.zero_le _,OL.nil _ _ _ _ _ _,ExtX.refl _⟩
 case round=>
  obtain⟨i,oo,q,rfl,rfl,hi,f,k⟩:=hrel;have n:HX X wr:=O.ext k;have r:HX (un X oo) wr:=f.unX n;have t:=k.size;by_cases p:i<l.length
  ·have z:Sl QV 3 (mk (un X oo) wr) ao l:=h.old QV.mono k (fun j E=>f.ob_lt E)
   have C:=hid (a0L l i p);have y:=hid (a0W hi);go_wp2_with (first|(with_reducible refine a1M a0B (by omega) (by assumption) ?_)|((with_reducible show wpList _ _ _ (⟨_, .load _ _,_,_,_,_⟩::_) _ _);refine a0G a0t i z p rfl (by simp) QV.agg ?_;intro T m;obtain⟨S,W,Y,R,d5,k5,e5,rfl⟩:=m.shape))
   refine(a3F (un X oo) wr _ _ r m).mono ?_;rintro e V ⟨a,U,rfl,g⟩;obtain⟨H,L,N,I,P,G,Q,rfl⟩:=g.shape;have b:=f.ext0 QC.elem a;have J:=a.size;go_wp2_with (at_builtin;refine a0u (l:=l.take i) a0B rfl QC.elem (by omega) (n.ext a) i y.out rfl rfl b (.agg #[.bool H, .slice L N I, .slice P G Q]) l[i] rfl g (by omega) (by omega) ?_;intro v B Z d s M)
   have A:=(k.trans a).own b (Nat.le_refl _) s;rw[C.out]at d;go_roundw
   case rel=>exact⟨i+1,v,B,by go_num,by go_num,by omega,d,A⟩
   case measure=>simp[intOf];omega
  ·have x:i=l.length:=by omega
   subst x;rw[List.take_length]at f;go_wp2_with fail
   go_ret
   exact⟨k,oo,q,rfl,f⟩
set_option maxRecDepth 100000 in
set_option maxHeartbeats 800000 in
theorem b0q (X:Nat->Bool) (w:World) (u:Value) (m:List (List Rat)) (n:Nat) (hX:HX X w) (hu:MV (mk X w) u m) (P:Shp n n m) (hn:n<=96):Calls Tryz.prog 169 #[u] w (a1Z X w MC (a1E m n)):=by
 obtain⟨M,hM⟩:∃M,a1E m n=M:=⟨_,rfl⟩;have L:Hid (M.length=n):=hid (by rw[<-hM];simp[a1E]);have b9:Hid (∀i (hi:i<m.length) (h:i<M.length),M[i]=m[i]++(List.range n).map fun j=>if i=j then 1 else 0):=hid fun i hi h=>by subst hM;exact b4q h hi
 have d7:M.length<=n:=by rw[L.out];exact Nat.le_refl _
 have d5:n<=M.length:=by rw[L.out];exact Nat.le_refl _
 rw[hM];have Z:=hid P;have b0:=hid P.1;obtain⟨ua,d8,rfl,a4,a3⟩:=hu;have b3:=a3.hd;rw[b0.out]at a4 b3 |-;clear hM P;go_enter Tryz.func169,Tryz.ntmps169
 go_wp2_with fail
 go_loopw [3,4] (fun o O wr=>∃(i:Nat) (oo:Option Addr) (co:Nat),O= .int .i64 i/\o= .slice oo i co/\i<=n/\OL RC 1 X w.heap.size 24 wr oo co (M.take i)/\Ext w wr) (fun _ O _=>n - (intOf O).toNat)
 case atStart=>exact⟨0,none,0,rfl,rfl,Nat.zero_le _,OL.nil _ _ _ _ _ _,ExtX.refl _⟩
 case round=>
  obtain⟨i,oo,co,rfl,rfl,hi,V,hE⟩:=hrel;have a2:HX X wr:=hX.ext hE;have W:HX (un X oo) wr:=V.unX a2;have c4:=hE.size;by_cases d1:i<n
  ·have Y:i<m.length:=by rw[b0.out];exact d1
   have H:i<M.length:=by omega
   have b2:=hid (a0L M i H);have c7:=hid (a0W (l:=M) (i:=i) (by omega));have c:Hid (m[i].length=n):=hid (Z.out.2 m[i] (List.getElem_mem _));have c8:Sl RV 1 (mk (un X oo) wr) ua m:=a3.old RV.mono hE (fun j hj=>V.ob_lt hj);obtain⟨a1,c1,d9,a7,I,a0⟩:=c8.row i Y;have T:=a7.out noY wr (ExtX.refl _) rfl;have F:=b0p (un X oo) wr (.slice a1 m[i].length c1) m[i] W ⟨a1,c1,rfl,I,a0⟩ (by rw[c.out];omega);obtain⟨R,hR⟩:∃R,M[i]=R:=⟨_,rfl⟩;have p:=b9.out i Y H;rw[hR]at p b2;obtain⟨x,hx⟩:∃x,m[i]=x:=⟨_,rfl⟩;rw[hx]at c F p T;have N:Hid (R.length=n+n):=hid (by rw[p,List.length_append,c.out];simp);have b8:Hid (R.take n=x):=hid (by rw[p,List.take_append_of_le_length (by rw[c.out];exact Nat.le_refl _),List.take_of_length_le (by rw[c.out];exact Nat.le_refl _)]);have c0:Hid (∀j (hj:j<n) (h:n+j<R.length),R[n+j]=if i=j then 1 else 0):=hid fun j hj h=>by
    subst p;rw[List.getElem_append_right (by rw[c.out];omega)];simp[c.out]
   have d3:R.length<=n+n:=by rw[N.out];exact Nat.le_refl _
   have d4:n+n<=R.length:=by rw[N.out];exact Nat.le_refl _
   rw[c.out]at T F;clear p hR hx a7 a0 I;obtain⟨wo,c2⟩:∃wo,wo=wr:=⟨_,rfl⟩;subst c2;go_wp2_with (with_reducible refine a0q a0s (by omega) (by assumption) ?_)
   refine F.mono ?_;rintro e w5 ⟨b7,a5,b1,rfl,z⟩;rw[c.out];rw[<-b8.out]at z;have J:OL QC 3 (un X oo) wo.heap.size 45 w5 a5 b1 (R.take (n+0)):=z;clear T F z;go_wp2_with fail
   go_loopw [5,6] (fun o O wx=>∃(j:Nat) (D:Option Addr) (U k:Nat),O= .int .i64 j/\o= .slice D k U/\k=n+j/\j<=n/\OL QC 3 (un X oo) wo.heap.size 45 wx D U (R.take (n+j))/\Ext wo wx) (fun _ O _=>n - (intOf O).toNat)
   case atStart=>exact⟨0,a5,b1,n,rfl,rfl,rfl,Nat.zero_le _,J,b7⟩
   case round=>
    clear J;obtain⟨j,D,U,k,rfl,rfl,v,hj,q,g⟩:=hrel;have S:HX (un X oo) wr:=W.ext g;have a8:HX (un (un X oo) D) wr:=q.unX S;have e0:=g.size;by_cases d0:j<n
    ·have G:n+j<R.length:=by omega
     have C:=hid (a0L R (n+j) G);have K:=hid (a0W (l:=R) (i:=n+j) (by omega));have Q:=c0.out j d0 G;rw[Q]at C;have a:=hid v;by_cases E:i=j
     ·have hb:((i:Int)==(j:Int))=true:=a7q (by omega)
      have y:(((1:Int):Rat))=if i=j then 1 else 0:=by rw[if_pos E];rfl
      rw[<-y]at C;clear Q E y v;go_wp2_with fail
      refine(a4V (un (un X oo) D) wr 1 a8 (by decide) (by decide)).mono ?_;rintro e w6 ⟨b,u6,rfl,s⟩;obtain⟨s6,a6,n6,c6,d6,k6,e6,rfl⟩:=s.shape;have d:=q.ext0 QC.elem b;have b5:=b.size;go_wp2_with (at_builtin;refine a0u (l:=R.take (n+j)) a0B rfl QC.elem (by omega) (S.ext b) k (by rw[K.out,a.out]) rfl rfl d (.agg #[.bool s6, .slice a6 n6 c6, .slice d6 k6 e6]) _ rfl s (by have:=a.out;omega) (by have:=a.out;omega) ?_;intro t B w7 f r a9)
      have A:=(g.trans b).own d (Nat.le_refl _) r;rw[C.out]at f;go_roundw
      case rel=>exact⟨j+1,t,B,k+1,by go_num,by go_num,by have:=a.out;omega,by omega,f,A⟩
      case measure=>simp[intOf];omega
     ·have hb:((i:Int)==(j:Int))=false:=a2w (by omega)
      have y:(((0:Int):Rat))=if i=j then 1 else 0:=by rw[if_neg E];rfl
      rw[<-y]at C;clear Q E y v;go_wp2_with fail
      refine(a4V (un (un X oo) D) wr 0 a8 (by decide) (by decide)).mono ?_;rintro e w6 ⟨b,u6,rfl,s⟩;obtain⟨s6,a6,n6,c6,d6,k6,e6,rfl⟩:=s.shape;have d:=q.ext0 QC.elem b;have b5:=b.size;go_wp2_with (at_builtin;refine a0u (l:=R.take (n+j)) a0B rfl QC.elem (by omega) (S.ext b) k (by rw[K.out,a.out]) rfl rfl d (.agg #[.bool s6, .slice a6 n6 c6, .slice d6 k6 e6]) _ rfl s (by have:=a.out;omega) (by have:=a.out;omega) ?_;intro t B w7 f r a9)
      have A:=(g.trans b).own d (Nat.le_refl _) r;rw[C.out]at f;go_roundw
      case rel=>exact⟨j+1,t,B,k+1,by go_num,by go_num,by have:=a.out;omega,by omega,f,A⟩
      case measure=>simp[intOf];omega
    ·have d2:j=n:=by omega
     subst d2;rw[List.take_of_length_le (by omega)]at q;have b4:=q.lenCap;have c3:=q.sl QC.elem;have d:=V.ext0 RC.elem g;have c5:Hid (R.length=k):=hid (by rw[N.out,v]);have c9:RC (mk (un X oo) wr) (.slice D k U) R:=⟨D,U,by rw[c5.out],b4,c3⟩;clear v;go_wp2_with (at_builtin;refine a0u (l:=M.take i) a0s rfl RC.elem (by omega) (a2.ext g) i c7.out rfl rfl d (.slice D k U) R rfl c9 (by omega) (by omega) ?_;intro t B w7 f r a9)
     have A:=(hE.trans g).own d (Nat.le_refl _) r;rw[b2.out]at f;go_roundw
     case rel=>exact⟨i+1,t,B,by go_num,by go_num,by omega,f,A⟩
     case measure=>simp[intOf];omega
  ·have b6:i=n:=by omega
   subst b6;rw[List.take_of_length_le (by omega)]at V;have hc:=V.lenCap;have hs:=V.sl RC.elem;go_wp2_with fail
   go_ret
   exact⟨hE,_,rfl,oo,co,by rw[L.out];rfl,hc,hs⟩
end Go.Proofs.YtidbbddagfnfbaaGreat
namespace Go.Lin
open Go.Lim
theorem b9y {m:Mat} {n:Nat} (b:a7d m n):hq (a9y m n)<=68719476736:=by
 obtain⟨B,d,a⟩:=b;have c:=(a n (Nat.le_refl _)).2;unfold a9y;split
 ·rw[a0Z];decide
 ·omega
theorem b6H (m:Mat) (n:Nat):(a2J m n).length=(a1d (a1E m n) (2*n)).1.length:=by simp[a2J]
theorem b6I (m:Mat) (n i:Nat) (h:i<(a2J m n).length) (hi:i<(a1d (a1E m n) (2*n)).1.length):(a2J m n)[i]=(a1d (a1E m n) (2*n)).1[i].drop n:=by simp[a2J]
end Go.Lin
namespace Go.Proofs.YtidbbddagfnfbaaGreat
open Go.RowKit Go.Rep Go.Lim Go.Lin
def b4r (X:Nat->Bool) (w:World) (m:List (List Rat)) (n:Nat) (e:Ending) (w':World):Prop:=Ext w w'/\((a9y m n=0/\e= .returned (.tuple #[.slice none 0 0, .int .i64 7]))\/(a9y m n≠0/\∃u,e= .returned (.tuple #[u, .int .i64 0])/\MC (mk X w') u (a2J m n)))
set_option maxRecDepth 100000 in
set_option maxHeartbeats 800000 in
theorem b0r (X:Nat->Bool) (w:World) (u:Value) (m:List (List Rat)) (n:Nat) (hX:HX X w) (hu:MV (mk X w) u m) (hf:a0H m=true) (q:m.length=n) (V:a0x m=n) (b0:a7d m n) (hT:a7d (a1E m n) (2*n)) (hB:BM 68719476736 (a1E m n)):Calls Tryz.prog 89 #[u] w (b4r X w m n):=by
 obtain⟨r,c0,e9,_,_⟩:=a0U hf;rw[q,V]at r;rw[q]at c0;have a:=b9j X w u m n hX hu hf q V b0;have Q:=hid (b9y b0);have a3:=hid (fun Z (h:Ext w Z)=>b0q X Z u m n (hX.ext h) (mkx MV.mono hu h) r c0);have s:=a1F r;have k:=hid (b2p s).1;have y:=hid (b6H m n);have K:=hid (b6I m n);have b6:=hid (fun Z (h:Ext w Z) (v:Value) (hv:MC (mk X Z) v (a1E m n))=>a4F X Z v (a1E m n) n (2*n) (hX.ext h) (hv.mv hB) s (b0o r) (by omega) (by omega) hT);have c:=hid (a5Z s (2*n)).shp;rw[<-k.out]at c;obtain⟨D,hD⟩:∃D,a9y m n=D:=⟨_,rfl⟩;rw[hD]at a Q;have b4:=hid hD;obtain⟨ua,f2,rfl,f0,c5⟩:=hu;rw[q]at a a3 |-;clear hf q V r s hD c5;by_cases Y:D=0
 ·have d3:(D.num.sign==(0:Int))=true:=by rw[Y];rfl
  have hr:Hid (a9y m n=0):=hid (b4.out.trans Y);clear Y;go_enter Tryz.func89,Tryz.ntmps89
  go_wp2_with fail
  refine a.mono ?_;rintro e J ⟨M,u1,rfl,d⟩;obtain⟨s1,a1,n1,c1,d1,k1,e1,rfl⟩:=d.shape;have bx:=Bx.new J #[.bool false, .slice none 0 0, .slice none 0 0] 45;go_wp2_with ((with_reducible show wpList _ _ _ (⟨_, .store _ _ _,_,_,_,_⟩::_) _ _);refine a0a a0t rfl rfl bx rfl rfl (a1Q _ _ _ _ _ _ _) ?_;intro w3 F r2;have k0:=F.cell 0 rfl;have O:=F.cell 1 rfl;have L:=F.cell 2 rfl)
  have p:Ext J w3:=ExtX.box ((ExtX.refl J).alloc _) r2 (Nat.le_refl _);have b:=M.trans p;refine(a7u X w3 _ D (hX.ext b) ((mkx QC.mono d p).qv Q.out)).mono ?_;rintro e w4 ⟨H,rfl⟩;clear k0 O L;go_wp2_with fail
  go_ret2
  exact⟨b.trans H, .inl ⟨hr.out,rfl⟩⟩
 ·have d3:(D.num.sign==(0:Int))=false:=a2w (by intro h;exact Y (Rat.num_eq_zero.1 (Int.sign_eq_zero_iff_zero.1 h)))
  have hr:Hid (a9y m n≠0):=hid (by rw[b4.out];exact Y);clear Y;obtain⟨I,hI⟩:∃I,a2J m n=I:=⟨_,rfl⟩;rw[hI]at y K;have e3:=hid hI;obtain⟨S,hS⟩:∃S,rN (a1E m n) (2*n)=S:=⟨_,rfl⟩;rw[hS]at b6 k;obtain⟨R,P,f⟩:=S
  dsimp only at k
  obtain⟨z,a7⟩:∃z,(a1d (a1E m n) (2*n)).1=z:=⟨_,rfl⟩;rw[a7]at y K c k;obtain rfl:z=R:=k.out;have N:Hid (z.length=n):=hid c.out.1;have g:Hid (I.length=n):=hid (by rw[y.out];exact N.out);have f1:I.length<=n:=by rw[g.out];exact Nat.le_refl _
  have e8:n<=I.length:=by rw[g.out];exact Nat.le_refl _
  clear hI hS a7 y;go_enter Tryz.func89,Tryz.ntmps89
  go_wp2_with fail
  refine a.mono ?_;rintro e J ⟨M,u1,rfl,d⟩;obtain⟨s1,a1,n1,c1,d1,k1,e1,rfl⟩:=d.shape;have bx:=Bx.new J #[.bool false, .slice none 0 0, .slice none 0 0] 45;go_wp2_with ((with_reducible show wpList _ _ _ (⟨_, .store _ _ _,_,_,_,_⟩::_) _ _);refine a0a a0t rfl rfl bx rfl rfl (a1Q _ _ _ _ _ _ _) ?_;intro w3 F r2;have k0:=F.cell 0 rfl;have O:=F.cell 1 rfl;have L:=F.cell 2 rfl)
  have p:Ext J w3:=ExtX.box ((ExtX.refl J).alloc _) r2 (Nat.le_refl _);have b:=M.trans p;refine(a7u X w3 _ D (hX.ext b) ((mkx QC.mono d p).qv Q.out)).mono ?_;rintro e w4 ⟨H,rfl⟩;have A:=b.trans H;have h4:=a3.out w4 A;clear k0 O L bx a d F;go_wp2_with fail
  refine h4.mono ?_;rintro e w5 ⟨d6,ub,rfl,c6⟩;have B:=A.trans d6;have h5:=b6.out w5 B ub c6;clear h4;go_wp2_with fail
  refine h5.mono ?_;rintro e w6 ⟨d8,ro,f4,po,pc,uf,rfl,E,f6,t,c4,a9⟩
  dsimp only at E t |-
  obtain⟨s2,a2,n2,c2,d2,k2,e2,rfl⟩:=a9.shape;have a8:=Bx.new w6 #[.bool false, .slice none 0 0, .slice none 0 0] 45;have c7:=t.hd;rw[N.out]at E c7 |-;clear h5 c4 a9;go_wp2_with ((with_reducible show wpList _ _ _ (⟨_, .store _ _ _,_,_,_,_⟩::_) _ _);refine a0a a0t rfl rfl a8 rfl rfl (a1Q _ _ _ _ _ _ _) ?_;intro w7 r3 r4)
  have a4:Ext w6 w7:=ExtX.box ((ExtX.refl w6).alloc _) r4 (Nat.le_refl _);have C:=B.trans (d8.trans a4);have b2:=t.mono RC.mono (a0l a4);clear t a8 r3;go_loopw [9,10] (fun o cc wr=>∃(i:Nat) (oo:Option Addr) (co:Nat),cc= .int .i64 i/\o= .slice oo i co/\i<=n/\OL RC 1 X w7.heap.size 24 wr oo co (I.take i)/\Ext w7 wr) (fun _ cc _=>n - (intOf cc).toNat)
  case atStart=>exact⟨0,none,0,rfl,rfl,Nat.zero_le _,OL.nil _ _ _ _ _ _,ExtX.refl _⟩
  case round=>
   obtain⟨i,oo,co,rfl,rfl,hi,W,hE⟩:=hrel;have d7:HX X wr:=(hX.ext C).ext hE;have d9:=hE.size;by_cases e7:i<n
   ·have a6:i<z.length:=by rw[N.out];exact e7
    have b3:i<I.length:=by omega
    have U:=hid (a0L I i b3);have c8:=hid (a0W (l:=I) (i:=i) (by omega));have c9:Sl RC 1 (mk (un X oo) wr) ro z:=b2.old RC.mono hE (fun j hj=>W.ob_lt hj);obtain⟨a1,c1,f3,b1,G,b8⟩:=c9.row i a6;have b5:=b1.out noY wr (ExtX.refl _) rfl;have b9:=K.out i b3 a6;rw[b9]at U;have a5:Hid (n<=z[i].length):=hid (by rw[c.out.2 _ (List.getElem_mem _)];omega);obtain⟨x,hx⟩:∃x,z[i]=x:=⟨_,rfl⟩;rw[hx]at b5 G b8 U a5;have a0:=a5.out;clear b1 hx b9;go_wp2_with (first|(with_reducible refine a0q a0s (by omega) (by assumption) ?_)|((with_reducible show wpList _ _ _ (⟨_, .slice _ _ _ _ _,_,_,_,_⟩::_) _ _);refine b8i a0B n rfl rfl rfl b8 a0 G ?_;intro T d0;have e6:RC (mk (un X oo) wr) (.slice T (x.length - n) (c1 - n)) (x.drop n):=⟨T,c1 - n,by rw[List.length_drop],by rw[List.length_drop];omega,d0⟩)|(at_builtin;refine a0u (l:=I.take i) a0s rfl RC.elem (by omega) d7 i c8.out rfl rfl W (.slice T (x.length - n) (c1 - n)) (x.drop n) rfl e6 (by omega) (by omega) ?_;intro d4 e4 w8 b7 e0 f5))
    clear b5;have c3:=hE.own W (Nat.le_refl _) e0;rw[U.out]at b7;go_roundw
    case rel=>exact⟨i+1,d4,e4,by go_num,by go_num,by omega,b7,c3⟩
    case measure=>simp[intOf];omega
   ·have d5:i=n:=by omega
    subst d5;rw[List.take_of_length_le (by omega)]at W;have hc:=W.lenCap;have hs:=W.sl RC.elem;go_wp2_with fail
    go_ret2
    exact⟨C.trans hE, .inr ⟨hr.out, .slice oo i co,rfl,by rw[e3.out];exact⟨oo,co,by rw[g.out],hc,hs⟩⟩⟩
end Go.Proofs.YtidbbddagfnfbaaGreat
