/- The tape of choices: New, Mod, Next, Bool, Pick, Count. What is drawn is some number in the range. Conditions: none beyond small ranges. The tape of choices: New, Bool, Pick, Count, Subset, OddSubset. What is drawn is something in the range. Conditions: none beyond small ranges. The tape of choices: Subset, OddSubset. What is drawn is some list of numbers, laid in new blocks. Conditions: none beyond small ranges. halfspace: the search's callback. Conditions: at most 64 vectors of at most 3 numbers of few digits. halfspace: the search for the depth, whole. Conditions: at most 64 vectors of at most 3 numbers of few digits. halfspace: Depth. Conditions: numbers of few digits. exact: Clean, List, Matrix; halfspace: Witness. Conditions: numbers of few digits. selection: the residual sum of squares over some columns. Conditions: numbers of few digits. A drawn region by an invariant over what is listed: one proof per operation, for any number of orders. Conditions: none. reference 06: Dot. Conditions: few numbers of at most 2^36 digits. leastsq: residuals; reference 13: residuals. Conditions: few rows and columns, numbers of few digits. Rows that a call makes one behind the other, by append. Conditions: none. leastsq: chosen. Conditions: few rows and columns. leastsq: leverage. Conditions: at most 8 rows and 4 columns of few digits, whose products are invertible. leastsq: Fit. Conditions: at most 8 rows and 4 columns, numbers of few digits. selection: the residual sum of squares over some columns. Conditions: at most 8 rows and 4 columns, numbers of few digits. What a search for the least keeps: the least, how often, the first of the least ones. Conditions: none. ref23.Combos: all ascending lists, in order. Conditions: 0 <= h <= n <= 64, not too many. exact.Copy of ints, exact.Choose, ref23.Choose. Conditions: small numbers. selection.Others: the numbers that are not in an ascending list. Conditions: small numbers. certify.apart, certify.read, within. Conditions: lengths far below any machine's. certify.Cover. Conditions: lengths far below any machine's. The reference's Cover. Conditions: lengths far below any machine's. law42.awake: it returns true. Conditions: none. ref42.Subsets. Conditions: none. certify.Subsets. Conditions: none. Simplices: a point's weights and directions that part it from the corners; Helly's theorem for open half-spaces. Conditions: none. Simplices: the weights that the program computes say whether the depth is above 0. Conditions: at most three columns. Simplices: how many contain a point. Conditions: none. simplicial: contains. Conditions: at most 64 rows of at most 3 numbers of few digits. simplicial: Depth. Conditions: numbers of few digits. -/
import Derived.Test.YtidbbddagfnfbaaGreatSfL
import Derived.BigRegion
import Derived.IntWalk
import Derived.Deep.AppendLies
namespace Go.Proofs.YtidbbddagfnfbaaGreat
open Go.RowKit Go.Rep Go.Lim
def tbm (tb:Nat):Nat->Bool:=fun k=>k==tb
theorem b5c (tb:Nat):tbm tb tb=true:=by simp[tbm]
theorem a5J {tb k:Nat} (h:k≠tb):tbm tb k=false:=by simpa[tbm]using h
def a0V (X:Nat->Bool) (tb:Nat) (w:World):Prop:=
 X tb=true/\∃(lo:Option Addr) (l:List Int) (cap at_:Nat),w.heap[tb]? =some (.cells #[.slice lo l.length cap, .int .i64 (at_:Int)] 112 (0,0))/\l.length<=400/\at_<=l.length/\Sl (a0w .i64) 1 (mk X w) lo l
theorem a6x {X:Nat->Bool} {tb:Nat} (h:X tb=true):∀k,tbm tb k=true->X k=true:=fun k hk=>by
 have:k=tb:=by simpa[tbm]using hk
 rw[this];exact h
theorem a0V.lt {X:Nat->Bool} {tb:Nat} {w:World} (h:a0V X tb w):tb<w.heap.size:=by
 obtain⟨_,lo,l,cap,at_,h1,_⟩:=h;by_cases hl:tb<w.heap.size
 ·exact hl
 ·rw[Array.getElem?_eq_none (by omega)]at h1;simp at h1
theorem a0V.ext {X:Nat->Bool} {tb:Nat} {w w':World} (h:a0V X tb w) (hE:Ext w w'):a0V X tb w':=by
 have hlt:=h.lt;obtain⟨hX,lo,l,cap,at_,h1,h2,h3,h4⟩:=h;exact⟨hX,lo,l,cap,at_,by rw[hE.block tb hlt rfl];exact h1,h2,h3,h4.mono (a0w.mono _) (a0p hE)⟩
theorem a0V.extY {X Y:Nat->Bool} {tb:Nat} {w w':World} (h:a0V X tb w) (hE:ExtX Y w w') (hY:∀k,Y k=true->X k=true) (ht:Y tb=false):a0V X tb w':=by
 have hlt:=h.lt;obtain⟨hX,lo,l,cap,at_,h1,h2,h3,h4⟩:=h;exact⟨hX,lo,l,cap,at_,by rw[hE.block tb hlt ht];exact h1,h2,h3,h4.mono (a0w.mono _) (a0x hE hY)⟩
def b7P (X:Nat->Bool) (tb:Nat) (w:World) (n:Int) (e:Ending) (w':World):Prop:=
 ExtX (tbm tb) w w'/\a0V X tb w'/\∃m:Nat,e= .returned (.int .i64 (m:Int))/\((m:Int)<n\/m=0)
theorem b5d (v n:Int) (w:World) (h1:1<=n) (h2:n<=1099511627776):
  Calls Tryz.prog 111 #[.int .i64 v, .int .i64 n] w (fun e w'=>e= .returned (.int .i64 (v%n))/\w'=w):=by
 have hn0:(n==0)=false:=a2I (by omega);have hlo: -n<v.tmod n:=Int.lt_tmod_of_pos v (by omega);have hhi:v.tmod n<n:=Int.tmod_lt_of_pos v (by omega);have hem:(v.tmod n<0->v.tmod n+n=v%n)/\(0<=v.tmod n->v.tmod n=v%n):=by
  have h:=Int.tmod_eq_emod (a:=v) (b:=n);have e0:=Int.emod_nonneg v (show n≠0 by omega);have e1:=Int.emod_lt_of_pos v (show 0<n by omega);split at h<;>omega
 have hem':=hid hem;clear hem;go_enter Tryz.func111,Tryz.ntmps111
 go_wp2_with fail
 ·go_ret
  exact⟨a0J (hem'.out.1 (by assumption)),rfl⟩
 ·go_ret
  exact⟨a0J (hem'.out.2 (by assumption)),rfl⟩
theorem a0V.cells {X:Nat->Bool} {tb:Nat} {w:World} (h:a0V X tb w):∃(lo:Option Addr) (l:List Int) (cap at_:Nat),w.cell? ⟨tb,0,none⟩=some (.slice lo l.length cap)/\w.cell? ⟨tb,1,none⟩=some (.int .i64 (at_:Int))/\w.frozen? ⟨tb,1,none⟩=false/\l.length<=400/\at_<=l.length/\Sl (a0w .i64) 1 (mk X w) lo l/\
  ∀at':Nat,at'<=l.length->a0V X tb (w.setCell ⟨tb,1,none⟩ (.int .i64 (at':Int)))/\ExtX (tbm tb) w (w.setCell ⟨tb,1,none⟩ (.int .i64 (at':Int)))/\
   (w.setCell ⟨tb,1,none⟩ (.int .i64 (at':Int))).cell? ⟨tb,0,none⟩=some (.slice lo l.length cap)/\(w.setCell ⟨tb,1,none⟩ (.int .i64 (at':Int))).cell? ⟨tb,1,none⟩=some (.int .i64 (at':Int)):=by
 have hlt:=h.lt;obtain⟨hX,lo,l,cap,at_,h1,h2,h3,h4⟩:=h;refine⟨lo,l,cap,at_,by simp[World.cell?,h1],by simp[World.cell?,h1],by simp[World.frozen?,h1],h2,h3,h4,fun at' ha=>?_⟩;have hE:ExtX (tbm tb) w (w.setCell ⟨tb,1,none⟩ (.int .i64 (at':Int))):=
  ⟨rfl,rfl,rfl,by simp[World.setCell],fun k hk hy=>Below.heap_setCell _ _ _ _ (fun e=>by subst e;simp[tbm]at hy)⟩
 have hn:(w.setCell ⟨tb,1,none⟩ (.int .i64 (at':Int))).heap[tb]? =some (.cells #[.slice lo l.length cap, .int .i64 (at':Int)] 112 (0,0)):=by
  simp only[World.setCell,Array.getElem?_modify,h1];simp
 exact⟨⟨hX,lo,l,cap,at',hn,h2,ha,h4.mono (a0w.mono _) (a0x hE (a6x hX))⟩,hE,by unfold World.cell?;rw[hn];rfl,by unfold World.cell?;rw[hn];rfl⟩
theorem a0V.drewN {X:Nat->Bool} {tb:Nat} {w:World} (h:a0V X tb w) (n:Nat):a0V X tb (w.drewN n):=h
set_option maxHeartbeats 800000 in
theorem a2l (X:Nat->Bool) (tb:Nat) (n:Int) (w:World) (ht:a0V X tb w) (hn:n<=1099511627776):
  Calls Tryz.prog 40 #[.pointer (some ⟨tb,0,none⟩), .int .i64 n] w (b7P X tb w n):=by
 obtain⟨lo,l,cap,at_,c0,c1,f1,hl,hat,hs,hset⟩:=ht.cells;have hh:=hs.hd;by_cases h1:n<1
 ·have hd:decide (n<1)=true:=decide_eq_true h1
  go_enter Tryz.func40,Tryz.ntmps40
  go_wp2_with fail
  go_quiet (fail)
  go_wp2_with fail
  go_ret
  exact⟨(ExtX.refl _).drewN _,ht.drewN _,0,rfl, .inr rfl⟩
 have hd:decide (n<1)=false:=decide_eq_false h1;by_cases h2:at_<l.length
 ·obtain⟨ht2,hE2,k0,k1⟩:=hset (at_+1) (by omega)
  have hs2:=(hs.mono (a0w.mono _) (a0x hE2 (a6x ht.1))).int at_ h2;obtain⟨x,hx⟩:∃x,l[at_]=x:=⟨_,rfl⟩;rw[hx]at hs2;clear hx hset;have e1:((at_+1:Nat):Int)=(at_:Int)+1:=by omega
  rw[e1]at k0 k1 hs2 ht2 hE2;have kk0:∀N,((w.drewN N).setCell ⟨tb,1,none⟩ (.int .i64 ((at_:Int)+1))).cell? ⟨tb,0,none⟩=some (.slice lo l.length cap):=fun _=>k0;have kk1:∀N,((w.drewN N).setCell ⟨tb,1,none⟩ (.int .i64 ((at_:Int)+1))).cell? ⟨tb,1,none⟩=some (.int .i64 ((at_:Int)+1)):=fun _=>k1;have kk2:∀N,((w.drewN N).setCell ⟨tb,1,none⟩ (.int .i64 ((at_:Int)+1))).cell? (adr lo at_)=some (.int .i64 x):=fun _=>hs2;have ew:IntKind.i64.wrap ((at_:Int)+1 - 1)=(at_:Int):=by rw[IntWalk.i64_in _ (by omega)];omega
  have ht3:∀N,a0V X tb ((w.drewN N).setCell ⟨tb,1,none⟩ (.int .i64 ((at_:Int)+1))):=fun _=>ht2;have hE3:∀N,ExtX (tbm tb) w ((w.drewN N).setCell ⟨tb,1,none⟩ (.int .i64 ((at_:Int)+1))):=fun _=>⟨hE2.os,hE2.tape,hE2.output,hE2.size,hE2.block⟩;have ht4:=hid ht3;have hE4:=hid hE3;clear e1 ht2 hE2 k0 k1 ht3 hE3;have hd2:decide ((l.length:Int)<=(at_:Int))=false:=decide_eq_false (by omega);have i1:∀W,(Instr.indexAt 22 (.slice lo l.length cap) (.int .i64 (at_:Int))).run Tryz.prog W= .ok (.pointer (some (adr lo at_))) W:=a0C a4o lo l.length cap .i64 at_ hh h2 rfl;go_enter Tryz.func40,Tryz.ntmps40
  go_wp2_with fail
  go_quiet (fail)
  go_wp2_with fail
  have hm0:=Int.emod_nonneg x (show n≠0 by omega);have hm1:=Int.emod_lt_of_pos x (show 0<n by omega);obtain⟨m,hm⟩:=Int.eq_ofNat_of_zero_le hm0;have hm':=hid hm;have hm2:Hid ((m:Int)<n):=hid (by rw[<-hm];exact hm1);clear hm hm0 hm1
  go_quiet ((go_at_call 111;exact Calls.quiet_of_same (b5d x n _ (by omega) (by omega))))
  go_wp2_with fail
  go_ret
  exact⟨(hE4.out _).drewN _,(ht4.out _).drewN _,m,a0J hm'.out, .inl hm2.out⟩
 ·have hd2:decide ((l.length:Int)<=(at_:Int))=true:=decide_eq_true (by omega)
  go_enter Tryz.func40,Tryz.ntmps40
  go_wp2_with fail
  go_quiet (fail)
  go_wp2_with fail
  go_ret
  exact⟨(ExtX.refl _).drewN _,ht.drewN _,0,rfl, .inr rfl⟩
def b5e (X:Nat->Bool) (tb:Nat) (w:World) (e:Ending) (w':World):Prop:=ExtX (tbm tb) w w'/\a0V X tb w'/\∃b:Bool,e= .returned (.bool b)
def b3b (X:Nat->Bool) (tb:Nat) (w:World) (lo hi:Int) (e:Ending) (w':World):Prop:=ExtX (tbm tb) w w'/\a0V X tb w'/\∃m:Int,e= .returned (.int .i64 m)/\lo<=m/\m<=hi
theorem a6y (X:Nat->Bool) (tb:Nat) (n:Int) (w:World) (ht:a0V X tb w) (h1: -1000<=n) (hn:n<=1099511627776):
  Calls Tryz.prog 35 #[.pointer (some ⟨tb,0,none⟩), .int .i64 n] w (b5e X tb w):=by
 go_enter Tryz.func35,Tryz.ntmps35
 go_wp2_with fail
 refine(a2l X tb n _ ht hn).mono ?_;rintro e w1 ⟨hE,ht1,m,rfl,hm⟩;go_wp2_with fail
 go_ret
 exact⟨hE,ht1,_,rfl⟩
theorem b5f (X:Nat->Bool) (tb:Nat) (lo:Option Addr) (l:List Int) (cap:Nat) (w:World) (a b:Int) (ht:a0V X tb w) (hs:Sl (a0w .i64) 1 (mk X w) lo l) (h0:0<l.length) (hl:l.length<=1000) (hab:Hid (∀x∈l,a<=x/\x<=b)):
  Calls Tryz.prog 19 #[.pointer (some ⟨tb,0,none⟩), .slice lo l.length cap] w (b3b X tb w a b):=by
 have hh:=hs.hd;go_enter Tryz.func19,Tryz.ntmps19
 go_wp2_with fail
 refine(a2l X tb _ _ ht (by omega)).mono ?_;rintro e w1 ⟨hE,ht1,m,rfl,hm⟩;have hml:m<l.length:=by omega
 have hc:=(hs.mono (a0w.mono _) (a0x hE (a6x ht.1))).int m hml;have hr:=hab.out l[m] (List.getElem_mem hml);obtain⟨x,hx⟩:∃x,l[m]=x:=⟨_,rfl⟩;rw[hx]at hc hr;clear hx;go_wp2_with (with_reducible refine a0t a4o (by omega) (by assumption) ?_)
 go_ret
 exact⟨hE,ht1,x,rfl,hr.1,hr.2⟩
theorem b5g (lo:Option Addr) (l:List Int) (cap:Nat) (w:World) (hs:Sl (a0w .i64) 1 w.cell? lo l) (hl:l.length<=cap) (hb:l.length<=9223372036854775807):
  Calls Tryz.prog 16 #[.slice lo l.length cap] w (fun e w'=>e= .returned (.pointer (some ⟨w.heap.size,0,none⟩))/\Ext w w'/\a0V (tbm w.heap.size) w.heap.size w'/\w'.heap.size=w.heap.size+1):=by
 have key:∀(l:List Int),l.length<=400->Sl (a0w .i64) 1 w.cell? lo l->a0V (tbm w.heap.size) w.heap.size (w.alloc (.cells #[.slice lo l.length cap, .int .i64 0] 112)):=by
  intro l hl hs;refine⟨b5c _,lo,l,cap,0,heap_alloc_new w _,hl,Nat.zero_le _,?_⟩;rw[<-a2v]at hs;refine hs.mono (a0w.mono _) (a1f ((ExtX.refl (Y:=noY) w).alloc _) (fun k _ hk=>by simp[noY]at hk) fun k hk hz=>?_);have:k=w.heap.size:=by simpa[tbm]using hz
  omega
 have hE:∀u v,Ext w (w.alloc (.cells #[u,v] 112)):=fun u v=>(ExtX.refl w).alloc _;by_cases h4:400<l.length
 ·have ht:=hid (key (l.take 400) (by simp;omega) (hs.take 400))
  have hlen:(l.take 400).length=400:=by simp;omega
  rw[hlen]at ht;clear key hlen;go_enter Tryz.func16,Tryz.ntmps16
  go_wp2_with fail
  go_ret
  exact⟨rfl,hE _ _,ht.out,by simp⟩
 ·have ht:=hid (key l (by omega) hs)
  clear key;go_enter Tryz.func16,Tryz.ntmps16
  go_wp2_with fail
  go_ret
  exact⟨rfl,hE _ _,ht.out,by simp⟩
theorem b3c (l:List Int):(l.map (Value.int .i64)).flatMap a0j=l.map (Value.int .i64):=by
 induction l with
 |nil=>rfl
 |cons x l ih=>simp only[List.map_cons,List.flatMap_cons,ih];rfl
theorem b9w (X:Nat->Bool) (w:World) (l:List Int) (e:TypeId) (arr:Array Value) (harr:arr=(l.map (Value.int .i64)).toArray) (hX:∀k,X k=true->k<w.heap.size) (hl:l.length<=1000):
  OL (a0w .i64) 1 X w.heap.size e (w.alloc (.cells arr e)) (some ⟨w.heap.size,0,none⟩) l.length l:=by
 refine OL.lit (a0w.elem .i64) hX (Nat.le_refl _) (l.map (Value.int .i64)) l arr ?_ (by simp) (fun i hi hi'=>by simp[a0w]) (by omega);rw[harr,b3c]
theorem b5h (X:Nat->Bool) (tb:Nat) (l:List Int) (arr:Array Value) (e:TypeId) (len:Nat) (w:World) (a b:Int) (ht:a0V X tb w) (hX:∀k,X k=true->k<w.heap.size) (harr:arr=(l.map (Value.int .i64)).toArray) (hlen:len=l.length) (h0:0<l.length) (hl:l.length<=1000) (hab:Hid (∀x∈l,a<=x/\x<=b)):
  Calls Tryz.prog 19 #[.pointer (some ⟨tb,0,none⟩), .slice (some ⟨w.heap.size,0,none⟩) len len] (w.alloc (.cells arr e)) (b3b X tb w a b):=by
 subst hlen;have hE:Ext w (w.alloc (.cells arr e)):=(ExtX.refl w).alloc _;refine(b5f X tb _ l _ _ a b (ht.ext hE) (OL.sl (a0w.elem .i64) (b9w X w l e arr harr hX hl)) h0 hl hab).mono ?_;rintro e' w' ⟨hE',ht',r⟩;exact⟨(ExtX.of hE).trans hE',ht',r⟩
theorem a0V.unstep {X:Nat->Bool} {tb:Nat} {w w':World} {oo oo':Option Addr} (h:a0V (un X oo) tb w) (hb:ob oo tb=false) (hE:ExtX (ob oo) w w') (ho:oo'=oo\/∃g,oo'=some ⟨g,0,none⟩/\w.heap.size<=g):a0V (un X oo') tb w':=by
 have hlt:=h.lt;obtain⟨hX,lo,l,cap,at_,h1,h2,h3,h4⟩:=h;refine⟨?_,lo,l,cap,at_,by rw[hE.block tb hlt hb];exact h1,h2,h3,h4.unstep (a0w.mono _) hE ho⟩;have:X tb=true:=by simpa[un,hb]using hX
 exact a0k this
theorem a0V.unX {X:Nat->Bool} {tb:Nat} {w:World} {oo:Option Addr} (h:a0V (un X oo) tb w) (hX:X tb=true):a0V X tb w:=by
 obtain⟨_,lo,l,cap,at_,h1,h2,h3,h4⟩:=h;exact⟨hX,lo,l,cap,at_,h1,h2,h3,h4.unX (a0w.mono _)⟩
theorem a7J (X:Nat->Bool):un X none=X:=by funext k;simp[un,ob]
theorem a0V.none {X:Nat->Bool} {tb:Nat} {w:World} (h:a0V X tb w):a0V (un X none) tb w:=by rw[a7J];exact h
theorem a0V.old {X:Nat->Bool} {tb:Nat} {w w':World} {oo:Option Addr} (h:a0V X tb w) (hE:Ext w w') (hb:∀j,j<w.heap.size->ob oo j=false):a0V (un X oo) tb w':=by
 have hlt:=h.lt;obtain⟨hX,lo,l,cap,at_,h1,h2,h3,h4⟩:=h;exact⟨a0k hX,lo,l,cap,at_,by rw[hE.block tb hlt rfl];exact h1,h2,h3,h4.old (a0w.mono _) hE hb⟩
theorem _root_.Go.Rep.OL.not_ob {α:Type} {R:Mem->Value->α->Prop} {sz base cap:Nat} {e:TypeId} {ao:Option Addr} {l:List α} {X:Nat->Bool} {w:World} (ho:OL R sz X base e w ao cap l) {k:Nat} (hk:X k=true):ob ao k=false:=by
 have h:∀k,ob ao k=true->X k=false:=ho.1;cases hh:ob ao k
 ·rfl
 ·rw[h k hh]at hk;simp at hk
end Go.Proofs.YtidbbddagfnfbaaGreat
namespace Go.Lin
open Go.Lim Go.Rep
end Go.Lin
namespace Go.Proofs.YtidbbddagfnfbaaGreat
open Go.RowKit Go.Rep Go.Lim Go.Lin
end Go.Proofs.YtidbbddagfnfbaaGreat
namespace Go.Rep
open Go.RowKit
end Go.Rep
namespace Go.Lin
open Go.Lim Go.Rep
end Go.Lin
namespace Go.Proofs.YtidbbddagfnfbaaGreat
open Go.RowKit Go.Rep Go.Lim Go.Lin
theorem Bx.store {w:World} {b:Nat} {v0:Value} {T:TypeId} (h:Bx w b #[v0] T) (v:Value):Bx (w.setCell ⟨b,0,none⟩ v) b #[v] T/\ExtX (ob (some ⟨b,0,none⟩)) w (w.setCell ⟨b,0,none⟩ v):=by
 obtain⟨h1,h2⟩:=a0K h v (i:=0) (by simp);exact⟨by simpa using h1,h2⟩
end Go.Proofs.YtidbbddagfnfbaaGreat
namespace Go.Lin
open Go.Lim Go.Rep
open Classical in
noncomputable def c1b (c:Nat) (z:List Vec):Nat:=if h:∃k,a4e c z k then h.choose else 0
def c0q (p:Mat) (y:List Rat):Bool:=c0K p&&decide (y.length=a0B p)
noncomputable def c1c (p:Mat) (y:List Rat):Nat:=if c0q p y then c1b (a0B p) (a4N (c0f (a0B p) p y))else 0
end Go.Lin
namespace Go.Proofs.YtidbbddagfnfbaaGreat
open Go.RowKit Go.Rep Go.Lim Go.Lin
set_option maxRecDepth 100000 in
theorem b5Z (X:Nat->Bool) (w:World) (u:Value) (x:Rat) (hX:HX X w) (hu:QV (mk X w) u x):Calls Tryz.prog 83 #[u] w (a1Z X w QC x):=by
 obtain⟨s1,a1,n1,c1,d1,k1,e1,rfl⟩:=hu.shape;obtain⟨W,hW,hE,b0,b1,hz⟩:=a1v w #[.bool s1, .slice a1 n1 c1, .slice d1 k1 e1] #[.bool false, .slice none 0 0, .slice none 0 0] 45 45;have hXW:HX (a0f X w.heap.size 2) W:=hX.boxes hz;have hu1:=QV.mono _ _ _ _ (a0o (nb:=2) hE) hu;obtain⟨b,hb⟩:∃b,w.heap.size=b:=⟨_,rfl⟩;have hbw:w.heap.size<=b:=by omega
 rw[hb]at b0 b1 hz hXW hu1;have k00:=b0.cell 0 rfl;have k01:=b0.cell 1 rfl;have k02:=b0.cell 2 rfl;have h0:QV (mk (a0f X b 2) W) (.agg #[.bool false, .slice none 0 0, .slice none 0 0]) 0:=(QC.zero _).qv (by decide+kernel);have hx0:x+0=x:=by grind
 clear hu;go_enter Tryz.func83,Tryz.ntmps83
 go_wp2_with fail
 refine(b5L (a0f X b 2) W _ _ x 0 hXW hu1 h0).mono ?_;rintro ee w5 ⟨hE5,u5,rfl,hq5⟩;rw[hx0]at hq5;obtain⟨s5,a5,n5,c5,d5,k5,e5,rfl⟩:=hq5.shape;have b1':=b1.ext0 hE5;clear k00 k01 k02;go_wp2_with ((with_reducible show wpList _ _ _ (⟨_, .store 45 _ _,_,_,_,_⟩::_) _ _);refine a0c a0u rfl rfl b1' rfl rfl (a2g _ _ _ _ _ _ _) ?_;intro w7 r1 r2)
 have h7:=QC.mono _ _ _ _ a0l (QC.mono _ _ _ _ (a0i r2 (by omega) (by omega)) hq5);exact bodyPost_ret (a0e rfl rfl a0u r1 rfl) rfl ⟨ExtX.box (hE.trans hE5) r2 (by omega),_,rfl,h7⟩
set_option maxRecDepth 100000 in
theorem b3d (X:Nat->Bool) (w:World) (u:Value) (m:Mom) (ro:Option Addr) (rc:Nat) (hX:HX X w) (hu:b2B (mk X w) u m):
  Calls Tryz.prog 80 #[u, .slice ro 0 rc] w (a1Z X w QC m.yy):=by
 obtain⟨xo,xl,xc,yo,yl,yc,s,a,n0,c0,d,k,e0,rfl,h1,h2,h3⟩:=hu;obtain⟨N,hN⟩:∃N,m.n=N:=⟨_,rfl⟩;rw[hN];obtain⟨W,hW,hE,b0,b1,hz⟩:=a1v w #[.int .i64 N, .slice xo xl xc, .slice yo yl yc, .bool s, .slice a n0 c0, .slice d k e0] #[.bool false, .slice none 0 0, .slice none 0 0] 117 45;have hXW:HX (a0f X w.heap.size 2) W:=hX.boxes hz;have hle:Hid (∀w',Ext W w'->Le (mk X w) (mk (a0f X w.heap.size 2) w')):=hid fun w' h=>a0o (hE.trans h);obtain⟨b,hb⟩:∃b,w.heap.size=b:=⟨_,rfl⟩;have hbw:w.heap.size<=b:=by omega
 rw[hb]at b0 b1 hz hXW hle;have hq:=QV.mono _ _ _ _ (hle.out W (ExtX.refl _)) h3;have hc:=b5Z (a0f X b 2) W _ m.yy hXW hq;obtain⟨y,hy⟩:∃y,m.yy=y:=⟨_,rfl⟩;rw[hy]at hc |-;have k3:W.cell? ⟨b,3,none⟩=some (.bool s):=b0.cell 3 rfl;have k4:W.cell? ⟨b,3+1,none⟩=some (.slice a n0 c0):=b0.cell 4 rfl;have k5:W.cell? ⟨b,3+2,none⟩=some (.slice d k e0):=b0.cell 5 rfl;clear hy h1 h2 h3 hq hN hle;go_enter Tryz.func80,Tryz.ntmps80
 go_wp2_with fail
 refine hc.mono ?_;rintro e w1 ⟨hE1,u1,rfl,hu1⟩;obtain⟨s6,a6,n6,c6,d6,k6,e6,rfl⟩:=hu1.shape;have b1':=b1.ext0 hE1;go_wp2_with ((with_reducible show wpList _ _ _ (⟨_, .store 45 _ _,_,_,_,_⟩::_) _ _);refine a0c a0u rfl rfl b1' rfl rfl (a2g _ _ _ _ _ _ _) ?_;intro w7 r1 r2)
 have h7:=QC.mono _ _ _ _ a0l (QC.mono _ _ _ _ (a0i r2 (by omega) (by omega)) hu1);exact bodyPost_ret (a0e rfl rfl a0u r1 rfl) rfl ⟨ExtX.box (hE.trans hE1) r2 (by omega),_,rfl,h7⟩
end Go.Proofs.YtidbbddagfnfbaaGreat
namespace Go
section
variable {P:Program} {ops:Array Oper} {Q:Exit->Act->World->Prop} {md:Region.Mode} {S:World->Prop} {n:Nat}
def b9R (l:Array Bool):Nat:=l.toList.count false
def c1d {T:Type} [DecidableEq T] (md:Region.Mode) (ops:Array Oper) (all:List T) (L:T->Array Bool) (next:T->Nat->Option T) (fin:T->Bool):Bool:=
 all.all fun s=>fin s||(!(Region.ready md ops (L s)).isEmpty&&(Region.ready md ops (L s)).all fun i=>match next s i with
  |some t=>decide (t∈all)&&decide (L t=(L s).setIfInBounds i true)&&decide (b9R (L t)+1=b9R (L s))
  |none=>false)
theorem a3f {i:Nat} {o:Oper} {K:Act->World->Prop} {a:Act} {w:World} (ho:ops[i]? =some o)
  (h:∀K':Act->World->Prop,Shut (∀a w,K a w->K' a w)->if Region.wanted o (yielded ops a.tmps)=true then Oper.wp P o a w K' Q else K' (a.put o.dst undef) w):wpOp P ops Q i K a w:=wpOp_step ho fun K' hK=>h K' hK
theorem b1a {T:Type} [DecidableEq T] {I:T->Act->World->Prop} (all:List T) (L:T->Array Bool) (next:T->Nat->Option T) (fin:T->Bool) (hc:c1d md ops all L next fin=true)
  (hstep:∀s i t a w,s∈all->next s i=some t->I s a w->wpOp P ops Q i (fun a' w'=>S w'/\I t a' w') a w)
  (hexit:∀s a w,s∈all->fin s=true->I s a w->a1O P md ops Q S n (b9R (L s)) (L s) a w):
  ∀(fuel:Nat) (s:T) (a:Act) (w:World),s∈all->b9R (L s)=fuel->I s a w->a1O P md ops Q S n fuel (L s) a w:=by
 intro fuel
 induction fuel with
 |zero=>
  intro s a w hs hf hI;have h:=List.all_eq_true.1 hc s hs;cases hfin:fin s
  ·rw[hfin,Bool.false_or]at h
   obtain⟨h1,h2⟩:=(Bool.and_eq_true _ _).mp h;cases hr:Region.ready md ops (L s)with
   |nil=>rw[hr]at h1;cases h1
   |cons i r=>
    have h3:=List.all_eq_true.1 h2 i (by rw[hr];exact List.mem_cons_self);cases hn:next s i with
    |none=>rw[hn]at h3;cases h3
    |some t=>
     rw[hn]at h3;obtain⟨_,h5⟩:=(Bool.and_eq_true _ _).mp h3;have:=of_decide_eq_true h5;omega
  ·have:=hexit s a w hs hfin hI
   rwa[hf]at this
 |succ fuel ih=>
  intro s a w hs hf hI;have h:=List.all_eq_true.1 hc s hs;cases hfin:fin s
  ·rw[hfin,Bool.false_or]at h
   obtain⟨h1,h2⟩:=(Bool.and_eq_true _ _).mp h;refine⟨fun h0=>(by rw[h0]at h1;cases h1),fun i hi=>?_⟩;have h3:=List.all_eq_true.1 h2 i hi;cases hn:next s i with
   |none=>rw[hn]at h3;cases h3
   |some t=>
    rw[hn]at h3;obtain⟨h4,h5⟩:=(Bool.and_eq_true _ _).mp h3;obtain⟨h6,h7⟩:=(Bool.and_eq_true _ _).mp h4;have e1:=of_decide_eq_true h5;have e2:=of_decide_eq_true h6;have e3:=of_decide_eq_true h7;refine wpOp_mono (fun a' w' h=>⟨fun _=>h.1,?_⟩) (hstep s i t a w hs hn hI);rw[<-e3];exact ih t a' w' e2 (by omega) h.2
  ·have:=hexit s a w hs hfin hI
   rwa[hf]at this
end
end Go
namespace Go.Proofs.YtidbbddagfnfbaaGreat
open Go.RowKit Go.Rep Go.Lim Go.Lin
set_option maxRecDepth 100000 in
set_option maxHeartbeats 1600000 in
theorem a5b (X:Nat->Bool) (w:World) (u v:Value) (l m:List Rat) (hX:HX X w) (hu:RV (mk X w) u l) (hv:RV (mk X w) v m) (hn:l.length<=1000000) (hml:m.length=l.length) (hb1:∀k,k<=l.length->hq (a3L l m k)<=68719476736) (hb2:∀k,k<l.length->hq (l.getD k 0*m.getD k 0)<=68719476736):
  Calls Tryz.prog 91 #[u,v] w (a1Z X w QC (a2d l m)):=by
 obtain⟨ao,ca,rfl,hca,hsa⟩:=hu;obtain⟨bo,cb,rfl,hcb,hsb⟩:=hv;have hha:=hsa.hd;have hhb:=hsb.hd;obtain⟨W,hW,hE,b0,b1,hz⟩:=a1v w #[.bool false, .slice none 0 0, .slice none 0 0] #[.bool false, .slice none 0 0, .slice none 0 0] 45 45;have hXW:HX (a0f X w.heap.size 2) W:=hX.boxes hz;have h0:QC (mk (a0f X w.heap.size 2) W) (.agg #[.bool false, .slice none 0 0, .slice none 0 0]) (a3L l m 0):=QC.zero _;obtain⟨n,hln⟩:∃n,l.length=n:=⟨_,rfl⟩;rw[hln]at hn hml hb1 hb2 hca hha |-;rw[hml]at hcb hhb |-;have hln':=hid hln;have hml':=hid hml;have hb1':=hid hb1;have hb2':=hid hb2;have hdot:Hid (a3L l m n=a2d l m):=hid (by unfold a2d;rw[hln]);clear hln hml hb1 hb2;go_enter Tryz.func91,Tryz.ntmps91
 go_wp2_with ((with_reducible show wpList _ _ _ (⟨_, .store _ _ _,_,_,_,_⟩::_) _ _);refine a0c a0u rfl rfl b1 rfl rfl (a2g _ _ _ _ _ _ _) ?_;intro W2 b1 r2)
 obtain⟨b,hb⟩:∃b,w.heap.size=b:=⟨_,rfl⟩;have hle:Hid (∀wr,Ext w wr->Le (mk X w) (mk (a0f X b 2) wr)):=hid fun wr h=>by rw[<-hb];exact a0o h
 have hbw:w.heap.size<=b:=by omega
 have hE2:Ext w W2:=ExtX.box hE r2 (by omega);have b02:=b0.ext r2 (a0b (by omega));have hXW2:=hXW.ext r2;have h02:QC (mk (a0f X w.heap.size 2) W2) (.agg #[.bool false, .slice none 0 0, .slice none 0 0]) (a3L l m 0):=QC.zero _;rw[hb]at b02 b1 hXW2 h02;rw[hb]at b0 hXW h0 |-;clear hW b0 hXW h0 hE;go_loopw [6] (fun k wr=>∃(i:Nat) (s:Bool) (a:Option Addr) (n' c':Nat) (d:Option Addr) (kk e:Nat),k= .int .i64 i/\i<=n/\Bx wr b #[.bool false, .slice none 0 0, .slice none 0 0] 45/\Bx wr (b+1) #[.bool s, .slice a n' c', .slice d kk e] 45/\QC (mk (a0f X b 2) wr) (.agg #[.bool s, .slice a n' c', .slice d kk e]) (a3L l m i)/\HX (a0f X b 2) wr/\Ext w wr) (fun k _=>n - (intOf k).toNat)
 case atStart=>exact⟨0,_,_,_,_,_,_,_,rfl,Nat.zero_le _,b02,b1,h02,hXW2,hE2⟩
 case round=>
  obtain⟨i,s,a,n',c',d,kk,e,rfl,hi,b0,b1,hq,hXr,hEr⟩:=hrel;by_cases hlt:i<n
  ·have hil:i<l.length:=by rw[hln'.out];exact hlt
   have him:i<m.length:=by rw[hml'.out];exact hlt
   have hsr:=hsa.mono QV.mono (hle.out wr hEr);have hsr2:=hsb.mono QV.mono (hle.out wr hEr);obtain⟨g1,o1,s1,p1,n1,q1,d1,k1,e1,hg1,hX1,hc1,hq1⟩:=hsr.rat QV.shaped i hil;obtain⟨g2,o2,s2,p2,n2,q2,d2,k2,e2,hg2,hX2,hc2,hq2⟩:=hsr2.rat QV.shaped i him;have gl:Hid (l.getD i 0=l[i]):=hid (by simp[List.getD_eq_getElem?_getD,hil]);have gm:Hid (m.getD i 0=m[i]):=hid (by simp[List.getD_eq_getElem?_getD,him]);have hst:Hid (a3L l m i+l[i]*m[i]=a3L l m (i+1)):=hid (by rw[<-gl.out,<-gm.out];rfl);have hbo:=hid (hb1'.out i hi);have hbp:=hid (hb2'.out i hlt);rw[gl.out,gm.out]at hbp;obtain⟨x,hx⟩:∃x,l[i]=x:=⟨_,rfl⟩;obtain⟨y,hy⟩:∃y,m[i]=y:=⟨_,rfl⟩;rw[hx,hy]at hst hbp;rw[hx]at hq1;rw[hy]at hq2;have i1:∀W,(Instr.indexAt 24 (.slice ao n ca) (.int .i64 (i:Int))).run Tryz.prog W= .ok (.pointer (some ⟨g1,o1,none⟩)) W:=by rw[<-hg1];exact a0h a0D ao n ca .i64 i hha (by omega)
   have i2:∀W,(Instr.indexAt 24 (.slice bo n cb) (.int .i64 (i:Int))).run Tryz.prog W= .ok (.pointer (some ⟨g2,o2,none⟩)) W:=by rw[<-hg2];exact a0h a0D bo n cb .i64 i hhb (by omega)
   obtain⟨D,hD⟩:∃D,a3L l m i=D:=⟨_,rfl⟩;obtain⟨D2,hD2⟩:∃D2,a3L l m (i+1)=D2:=⟨_,rfl⟩;rw[hD]at hq hst hbo;rw[hD2]at hst;have hD2':=hid hD2;clear hx hy hg1 hg2 hD hD2;have hE5d:Ext wr wr.drew:=(ExtX.refl wr).drew;have b05:=b0.ext0 hE5d;have b15:=b1.ext0 hE5d;have k00:=b15.cell 0 rfl;have k01:=b15.cell 1 rfl;have k02:=b15.cell 2 rfl;obtain⟨k10,k11,k12⟩:=hc1.out noY wr.drew hE5d rfl;obtain⟨k20,k21,k22⟩:=hc2.out noY wr.drew hE5d rfl;have hXd:=hXr.ext hE5d;have hx5:QV (mk (a0f X b 2) wr.drew) (.agg #[.bool s1, .slice p1 n1 q1, .slice d1 k1 e1]) x:=mkx QV.mono hq1 hE5d;have hy5:QV (mk (a0f X b 2) wr.drew) (.agg #[.bool s2, .slice p2 n2 q2, .slice d2 k2 e2]) y:=mkx QV.mono hq2 hE5d;have hq5:QV (mk (a0f X b 2) wr.drew) (.agg #[.bool s, .slice a n' c', .slice d kk e]) D:=(mkx QC.mono hq hE5d).qv hbo.out;clear hc1 hc2;go_wp2_with fail
   go_region_with (first|(go_at_call 52;(with_reducible refine(b1E (a0f X b 2) wr.drew _ _ _ _ hXd hx5 hy5).mono ?_);rintro ee w6 ⟨t1,u6,rfl,hu6⟩;obtain⟨s6,a6,n6,c6,d6,k6,e6,rfl⟩:=hu6.shape;have hX6:=hXd.ext t1;have hq6:=mkx QV.mono hq5 t1;have hm6:=hu6.qv hbp.out;have b16:=b15.ext0 t1;have m0:=b16.cell 0 rfl;have m1:=b16.cell 1 rfl;have m2:=b16.cell 2 rfl)|(go_at_call 51;(with_reducible refine(b3V (a0f X b 2) w6 _ _ _ _ hX6 hq6 hm6).mono ?_);rintro ee w7 ⟨t7,u7,rfl,hu7⟩;obtain⟨s7,a7,n7,c7,d7,k7,e7,rfl⟩:=hu7.shape;rw[hst.out]at hu7;have b17:=b16.ext0 t7;have g0:=b17.cell 0 rfl;have g1':=b17.cell 1 rfl;have g2':=b17.cell 2 rfl;have f0:=b17.frozen 0;have f1:=b17.frozen 1;have f2:=b17.frozen 2))
   all_goals
    obtain⟨z1,z2⟩:=b17.set3 (.bool s7) (.slice a7 n7 c7) (.slice d7 k7 e7);have h8:=QC.mono _ _ _ _ (a0i (lo:=b) (nb:=2) z2 (by omega) (by omega)) hu7;have b08:=((b05.ext0 t1).ext0 t7).ext z2 (a0b (by omega));have hE8:Ext w _:=ExtX.box (hEr.trans (hE5d.trans (t1.trans t7))) z2 (by omega);have hX8:=(hX6.ext t7).ext z2;rw[<-hD2'.out]at h8;clear k00 k01 k02 k10 k11 k12 k20 k21 k22 m0 m1 m2 g0 g1' g2' f0 f1 f2 i1 i2;go_wp2_with fail
    go_roundw
    case rel=>exact⟨i+1,_,_,_,_,_,_,_,by go_num,by omega,b08,z1,h8,hX8,hE8⟩
    case measure=>simp[intOf];omega
  ·have hin:i=n:=by omega
   subst hin;rw[hdot.out]at hq;have k00:=b1.cell 0 rfl;have k01:=b1.cell 1 rfl;have k02:=b1.cell 2 rfl;go_wp2_with ((with_reducible show wpList _ _ _ (⟨_, .store _ _ _,_,_,_,_⟩::_) _ _);refine a0c a0u rfl rfl b0 rfl rfl (a2g _ _ _ _ _ _ _) ?_;intro w7 r1 r2)
   have h7:=QC.mono _ _ _ _ a0l (QC.mono _ _ _ _ (a0i r2 (by omega) (by omega)) hq);exact bodyPost_ret (a0e rfl rfl a0u r1 rfl) rfl ⟨ExtX.box hEr r2 (by omega),_,rfl,h7⟩
set_option maxRecDepth 100000 in
set_option maxHeartbeats 1600000 in
theorem b5i (X:Nat->Bool) (w:World) (u v t:Value) (x:Mat) (y b:List Rat) (n c B:Nat) (hX:HX X w) (hu:MV (mk X w) u x) (hv:RV (mk X w) v y) (ht:RV (mk X w) t b) (hsh:Shp n c x) (hy:y.length=n) (hb:b.length=c) (hn:n<=96) (hc:c<=96) (hxB:BM B x) (hbB:BR B b) (hB1:1<=B) (hBB:200*B<=68000000000):
  Calls Tryz.prog 92 #[u,v,t] w (a1Z X w RC (a2T x y b)):=by
 obtain⟨L,hL⟩:∃L,a2T x y b=L:=⟨_,rfl⟩;have hLl:Hid (L.length=n):=hid (by rw[<-hL,a4X (by rw[hy,hsh.1]),hsh.1]);have hLi:Hid (∀i (h1:i<x.length) (h2:i<y.length) (h:i<L.length),L[i]=y[i] - a2d x[i] b):=hid fun i h1 h2 h=>by subst hL;exact a6s h h1 h2
 have hLn:L.length<=n:=by rw[hLl.out];exact Nat.le_refl _
 have hnL:n<=L.length:=by rw[hLl.out];exact Nat.le_refl _
 obtain⟨ua,uc,rfl,huc,hus⟩:=hu;obtain⟨va,vc,rfl,hvc,hvs⟩:=hv;have hhu:=hus.hd;have hhv:=hvs.hd;have hxl:=hid hsh.1;have hyl:=hid hy;have hbl:=hid hb;have hrw:=hid hsh.2;have hxB':=hid hxB;have hbB':=hid hbB;rw[hsh.1]at hhu huc |-;rw[hy]at hhv hvc |-;rw[hL];clear hL hsh hy hb hxB hbB;go_enter Tryz.func92,Tryz.ntmps92
 go_wp2_with fail
 go_loopw [7,8] (fun o k wr=>∃(i:Nat) (oo:Option Addr) (co:Nat),k= .int .i64 i/\o= .slice oo i co/\i<=n/\OL QC 3 X w.heap.size 45 wr oo co (L.take i)/\Ext w wr) (fun _ k _=>n - (intOf k).toNat)
 case atStart=>exact⟨0,none,0,rfl,rfl,Nat.zero_le _,OL.nil _ _ _ _ _ _,ExtX.refl _⟩
 case round=>
  obtain⟨i,oo,co,rfl,rfl,hi,hO,hE⟩:=hrel;have hXr:HX X wr:=hX.ext hE;have hXu:HX (un X oo) wr:=hO.unX hXr;have hbase:=hE.size;by_cases hlt:i<n
  ·have hix:i<x.length:=by rw[hxl.out];exact hlt
   have hiy:i<y.length:=by rw[hyl.out];exact hlt
   have hiL:i<L.length:=by omega
   have hEd:Ext wr wr.drew:=(ExtX.refl wr).drew;have hsr:Sl RV 1 (mk (un X oo) wr) ua x:=hus.old RV.mono hE (fun j hj=>hO.ob_lt hj);have hyr:Sl QV 3 (mk (un X oo) wr) va y:=hvs.old QV.mono hE (fun j hj=>hO.ob_lt hj);have hbr:RV (mk (un X oo) wr) t b:=a6b RV.mono ht hE (fun j hj=>hO.ob_lt hj);have htk:=hid (a0N L i hiL);have hln:=hid (a1a (l:=L) (i:=i) (by omega));obtain⟨a1,c1,hX1,hc1,hcl1,hq1⟩:=hsr.row i hix;obtain⟨g2,o2,s2,a2,n2,c2,d2,k2,e2,hg2,hX2,hc2,hq2⟩:=hyr.rat QV.shaped i hiy;have hob1:=(a1q hX1).2;have hob2:=(a1q hX2).2;have hrl:=hrw.out x[i] (List.getElem_mem _);have hdb:=a1Y (hxB'.out x[i] (List.getElem_mem _)) hbB'.out hB1 (by rw[hrl];exact hc) hBB;have hdq:Hid (hq (a2d x[i] b)<=68719476736):=hid (hdb.1 _ (Nat.le_refl _));have hdot:=a5b (un X oo) wr.drew (.slice a1 x[i].length c1) t x[i] b (hXu.ext hEd) (mkx RV.mono ⟨a1,c1,rfl,hcl1,hq1⟩ hEd) (mkx RV.mono hbr hEd) (by rw[hrl];omega) (by rw[hrl,hbl.out]) hdb.1 hdb.2;have hel:=hLi.out i hix hiy hiL;have hyd:=mkx QV.mono hq2 hEd;obtain⟨D,hD⟩:∃D,a2d x[i] b=D:=⟨_,rfl⟩;obtain⟨yi,hyi⟩:∃yi,y[i]=yi:=⟨_,rfl⟩;obtain⟨z,hz⟩:∃z,L[i]=z:=⟨_,rfl⟩;rw[hD]at hdq hdot hel;rw[hyi]at hyd hel;rw[hz]at hel htk;rw[hrl]at hc1 hdot;have hel':=hid hel;have hXd:HX (un X oo) wr.drew:=hXu;have i2:∀W,(Instr.indexAt 24 (.slice va n vc) (.int .i64 (i:Int))).run Tryz.prog W= .ok (.pointer (some ⟨g2,o2,none⟩)) W:=by rw[<-hg2];exact a0h a0D va n vc .i64 i hhv (by omega)
   have i1:∀W,(Instr.indexAt 23 (.slice ua n uc) (.int .i64 (i:Int))).run Tryz.prog W= .ok (.pointer (some (adr ua i))) W:=a0C a0r ua n uc .i64 i hhu (by omega) rfl;have hS:Hid (∀Y W',ExtX Y wr.drew W'->Y g2=false->Y (adr ua i).block=false->W'.cell? ⟨g2,o2,none⟩=some (.bool s2)/\W'.cell? ⟨g2,o2+1,none⟩=some (.slice a2 n2 c2)/\W'.cell? ⟨g2,o2+2,none⟩=some (.slice d2 k2 e2)/\W'.cell? (adr ua i)=some (.slice a1 c c1)):=hid fun Y W' h hg hg1=>by
    have p2:=hc2.out Y W' ((ExtX.of hEd).trans h) hg;exact⟨p2.1,p2.2.1,p2.2.2,hc1.out Y W' ((ExtX.of hEd).trans h) hg1⟩
   obtain⟨k00,k01,k02,k10⟩:=hS.out noY wr.drew (ExtX.refl _) rfl rfl;have k10w:=hc1.out noY wr (ExtX.refl _) rfl;clear hc1 hc2 hg2 hq1 hq2 hrl hcl1 hdb hel hD hyi hz;go_wp2_with fail
   go_region_held3 (fun w'=>w'.cell? ⟨g2,o2,none⟩=some (.bool s2)/\w'.cell? ⟨g2,o2+1,none⟩=some (.slice a2 n2 c2)/\w'.cell? ⟨g2,o2+2,none⟩=some (.slice d2 k2 e2)/\w'.cell? (adr ua i)=some (.slice a1 c c1))
    (first|exact hS.out noY _ t1 rfl rfl|exact hS.out noY _ (t1.trans t7) rfl rfl|exact hS.out noY _ (ExtX.alloc (t1.trans t7) _) rfl rfl|exact hS.out (ob oo) _ ((ExtX.of (t1.trans t7)).trans hE7) hob2 hob1|go_keep)
    (first|(go_at_call 91;(with_reducible refine hdot.mono ?_);rintro ee w6 ⟨t1,u6,rfl,hu6⟩;have hu6v:=hu6.qv hdq.out;have hyd6:=mkx QV.mono hyd t1;have hX6:=hXd.ext t1)|(go_at_call 50;(with_reducible refine(b8M (un X oo) w6 _ _ _ _ hX6 hyd6 hu6v).mono ?_);rintro ee w8 ⟨t7,u7,rfl,hu7⟩;obtain⟨s6,a6,n6,c6,d6,k6,e6,rfl⟩:=hu7.shape;rw[<-hel'.out]at hu7;have hO6:=hO.ext0 QC.elem (hEd.trans (t1.trans t7));have hb6:=(hEd.trans (t1.trans t7)).size;have hX8:=hXr.ext (hEd.trans (t1.trans t7)))|(refine a1K (l:=L.take i) rfl (by rfl) a0D rfl QC.elem (by omega) hX8 i hln.out rfl rfl hO6 (.agg #[.bool s6, .slice a6 n6 c6, .slice d6 k6 e6]) z rfl hu7 (by omega) (by omega) ?_;intro oo2 co2 w7 hO7 hE7 hor))
   have hE8:=(hE.trans (hEd.trans (t1.trans t7))).own hO6 (Nat.le_refl _) hE7;rw[htk.out]at hO7;clear k00 k01 k02 k10 k10w i1 i2;go_wp2_with fail
   go_roundw
   case rel=>exact⟨i+1,oo2,co2,by go_num,by go_num,by omega,hO7,hE8⟩
   case measure=>simp[intOf];omega
  ·have hil:i=n:=by omega
   subst hil;rw[List.take_of_length_le (by omega)]at hO;have hc:=hO.lenCap;have hs:=hO.sl QC.elem;go_wp2_with fail
   go_ret
   exact⟨hE,_,rfl,oo,co,by rw[hLl.out];rfl,hc,hs⟩
end Go.Proofs.YtidbbddagfnfbaaGreat
namespace Go.Rep
open Go.RowKit Go.Lim Go.Lin
theorem b9x {X:Nat->Bool} {oo oo2:Option Addr} {w:World} (hor:oo2=oo\/∃g,oo2=some ⟨g,0,none⟩/\w.heap.size<=g):∀k,k<w.heap.size->un X oo2 k=true->un X oo k=true:=fun k hk h=>by
 rcases hor with rfl|⟨g,rfl,hg⟩
 ·exact h
 ·by_cases hx:X k=true
  ·exact a0k hx
  ·exfalso
   have:g=k:=by simpa[un,hx,ob]using h
   omega
def b3y (hs:List Hdr) (i:Nat):Option Addr:=(hs.getD i (none,0,0)).1
theorem a5Q {hs:List Hdr} {i:Nat} (h:i<hs.length):b3y hs i=hs[i].1:=by simp[b3y,List.getD_eq_getElem?_getD,h]
structure CS (R:Mem->Value->Rat->Prop) (X:Nat->Bool) (base:Nat) (e1 e2:TypeId) (w:World) (oo:Option Addr) (co:Nat) (hs:List Hdr) (M:Mat) (i:Nat) (L:List Rat):Prop where
 outer:OL HdR 1 X base e1 w oo co hs
 len:hs.length=M.length
 done:∀k (_:k<i) (h1:k<hs.length) (h2:k<M.length),hs[k].2.1=M[k].length/\hs[k].2.1<=hs[k].2.2/\Sl R 3 (mk (un (un X oo) (b3y hs i)) w) hs[k].1 M[k]
 row:∀h1:i<hs.length,hs[i].2.1=L.length/\OL R 3 (un X oo) base e2 w (b3y hs i) hs[i].2.2 L
 rest:∀k,i<k->(h:k<hs.length)->hs[k]=(none,0,0)
section
variable {R:Mem->Value->Rat->Prop} {X:Nat->Bool} {base:Nat} {e1 e2:TypeId} {w w':World} {oo:Option Addr} {co:Nat} {hs:List Hdr} {M:Mat} {i:Nat} {L:List Rat}
theorem CS.start {n:Nat} (ho:OL HdR 1 X base e1 w oo co (List.replicate n (none,0,0))) (hM:M.length=n) (e2:TypeId):CS R X base e1 e2 w oo co (List.replicate n (none,0,0)) M 0 []:=by
 refine⟨ho,by rw[List.length_replicate,hM],fun k hk=>by omega,fun h1=>?_,fun k _ h=>by simp⟩;have hc:b3y (List.replicate n (none,0,0)) 0=none:=by rw[a5Q h1];simp
 rw[hc];refine⟨by simp,?_⟩;have:((List.replicate n ((none,0,0):Hdr))[0]).2.2=0:=by simp
 rw[this];exact OL.nil _ _ _ _ _ _
theorem CS.ext0 (hR:Elem R 3) (h:CS R X base e1 e2 w oo co hs M i L) (hE:Ext w w'):CS R X base e1 e2 w' oo co hs M i L:=
 ⟨h.outer.ext0 HdR.elem hE,h.len,fun k hk h1 h2=>let ⟨a,b,c⟩:=h.done k hk h1 h2;⟨a,b,c.mono hR.mono (a0p hE)⟩,fun h1=>let ⟨a,b⟩:=h.row h1;⟨a,b.ext0 hR hE⟩,h.rest⟩
theorem CS.next (hR:Elem R 3) (h:CS R X base e1 e2 w oo co hs M i L) (hi:i<M.length) (hL:L=M[i]):CS R X base e1 e2 w oo co hs M (i+1) []:=by
 have hih:i<hs.length:=by rw[h.len];exact hi
 obtain⟨r1,r2⟩:=h.row hih;have hnone:∀h1:i+1<hs.length,hs[i+1]=(none,0,0):=fun h1=>h.rest (i+1) (by omega) h1;have hc:b3y hs (i+1)=none:=by
  by_cases h1:i+1<hs.length
  ·rw[a5Q h1,hnone h1]
  ·simp[b3y,List.getD_eq_getElem?_getD,h1]
 have hun:un (un X oo) none=un X oo:=by funext k;simp[un,ob]
 refine⟨h.outer,h.len,fun k hk h1 h2=>?_,fun h1=>?_,fun k hk h1=>h.rest k (by omega) h1⟩
 ·rw[hc,hun]
  by_cases e:k=i
  ·subst e
   have e2:=a5Q h1;rw[e2]at r2;refine⟨by rw[r1,hL],by rw[r1];exact r2.lenCap,?_⟩;rw[<-hL];exact r2.sl hR
  ·obtain⟨a,b,c⟩:=h.done k (by omega) h1 h2
   exact⟨a,b,c.mono hR.mono (a1E fun k _ hk=>a0k hk)⟩
 ·rw[hc]
  refine⟨by rw[hnone h1];rfl,?_⟩;have:hs[i+1].2.2=0:=by rw[hnone h1]
  rw[this];exact OL.nil _ _ _ _ _ _
theorem CS.mc (hR:Elem R 3) (h:CS R X base e1 e2 w oo co hs M M.length []):SlV (SlV R 3) 1 (_root_.Go.Rep.mk X w) (.slice oo M.length co) M:=by
 have hl:=h.len;refine⟨oo,co,rfl,by rw[<-hl];exact h.outer.lenCap,fun hp=>?_,fun k hk=>?_⟩
 ·have:=h.outer.hd;rw[hl]at this;exact this hp
 ·have hkh:k<hs.length:=by omega
  obtain⟨u,h1,h2,rfl⟩:=h.outer.cell HdR.one k hkh;obtain⟨a,b,c⟩:=h.done k hk hkh hk;refine⟨.slice hs[k].1 hs[k].2.1 hs[k].2.2,rfl,fun j hj=>?_,?_⟩
  ·have hj0:j=0:=by simp[Value.cells]at hj;omega
   subst hj0;unfold _root_.Go.Rep.mk;have hX:X (adr oo (k*1+0)).block=false:=by
    obtain⟨b,off,rfl⟩:=h.outer.hd (by omega);exact h.outer.1 _ (by simp[ob,adr])
   rw[hX];simpa[Value.cells]using h1
  ·rw[a]
   exact⟨_,_,rfl,by rw[<-a];exact b,c.mono hR.mono (a1E fun k _ hk=>a0k (a0k hk))⟩
theorem CS.push (hR:Elem R 3) (h:CS R X base e1 e2 w oo co hs M i L) (hi:i<hs.length) {v:Rat} {ai:Option Addr} {ci n:Nat} {w7 w8:World} (hn:n=L.length+1) (hR7:OL R 3 (un X oo) base e2 w7 ai ci (L++[v])) (hE7:ExtX (ob (b3y hs i)) w w7) (hor:ai=b3y hs i\/∃g,ai=some ⟨g,0,none⟩/\w.heap.size<=g)
  (hE8:ExtX (ob oo) w7 w8) (hO8:OL HdR 1 X base e1 w8 oo co (hs.set i (ai,n,ci))):CS R X base e1 e2 w8 oo co (hs.set i (ai,n,ci)) M i (L++[v]):=by
 subst hn;have hc:b3y (hs.set i (ai,L.length+1,ci)) i=ai:=by rw[a5Q (by rw[List.length_set];exact hi)];simp
 refine⟨hO8,by rw[List.length_set];exact h.len,fun k hk h1 h2=>?_,fun h1=>?_,fun k hk h1=>?_⟩
 ·have hk1:k<hs.length:=by simpa using h1
  obtain⟨a,b,c⟩:=h.done k hk hk1 h2;rw[hc,List.getElem_set_ne (by omega)];refine⟨a,b,?_⟩;have c7:=c.mono hR.mono (a1f (Z:=un (un X oo) ai) hE7 (fun q _ hq=>a0q hq) (fun q hq hz=>b9x (X:=un X oo) hor q hq hz));exact c7.mono hR.mono (a1f hE8 (fun q _ hq=>a0k (a0q hq)) (fun _ _ h=>h))
 ·rw[hc]
  refine⟨by simp,?_⟩;have:(hs.set i (ai,L.length+1,ci))[i].2.2=ci:=by simp
  rw[this];exact hR7.ext hR hE8 (fun k _ hk=>a0q hk) (fun _ _ h=>h)
 ·rw[List.getElem_set_ne (by omega)]
  exact h.rest k hk (by simpa using h1)
end
end Go.Rep
namespace Go.Lin
theorem a6z {p:List Nat} {c:Nat} (hp:p.Pairwise (· < ·)) (hc:∀j∈p,j<c):(List.range c).filter (fun j=>decide (j∈p))=p:=by
 refine a9R _ _ ?_ hp fun x=>?_
 ·exact(List.pairwise_lt_range (n:=c)).filter _
 ·simp only[List.mem_filter,List.mem_range,decide_eq_true_eq]
  exact⟨fun h=>h.2,fun h=>⟨hc x h,h⟩⟩
def pkR (r:List Rat) (us:List Bool) (j:Nat):List Rat:=((List.range j).filter fun i=>us.getD i false).map fun i=>r.getD i 0
theorem b7Q {r:List Rat} {us:List Bool} {j:Nat} (h:us.getD j false=true):pkR r us (j+1)=pkR r us j++[r.getD j 0]:=by
 unfold pkR;rw[List.range_succ,List.filter_append,show List.filter (fun i=>us.getD i false) [j]= [j]from by simp only[List.filter,h],List.map_append];rfl
theorem b9y {r:List Rat} {us:List Bool} {j:Nat} (h:us.getD j false=false):pkR r us (j+1)=pkR r us j:=by
 unfold pkR;rw[List.range_succ,List.filter_append,show List.filter (fun i=>us.getD i false) [j]= []from by simp only[List.filter,h],List.append_nil]
theorem b7R {r:List Rat} {p:List Nat} {c:Nat} (hp:p.Pairwise (· < ·)) (hc:∀j∈p,j<c):pkR r (Go.Rep.usedL p c) c=p.map fun j=>r.getD j 0:=by
 have e:(List.range c).filter (fun i=>(Go.Rep.usedL p c).getD i false)=p:=by
  rw[<-a6z hp hc];refine List.filter_congr fun j hj=>?_;have hj:=List.mem_range.1 hj;simp[Go.Rep.usedL,List.getD_eq_getElem?_getD,hj]
 unfold pkR;rw[e]
end Go.Lin
namespace Go.Proofs.YtidbbddagfnfbaaGreat
open Go.RowKit Go.Rep Go.Lim Go.Lin
end Go.Proofs.YtidbbddagfnfbaaGreat
namespace Go.Lin
open Go.Lim
def a3g (L:List Rat) (i:Nat):List Rat:=L.take i++List.replicate (L.length - i) 0
theorem a7c (L:List Rat):a3g L 0=List.replicate L.length 0:=by simp[a3g]
theorem a8E {L:List Rat} {i:Nat} (h:i<=L.length):(a3g L i).length=L.length:=by simp[a3g];omega
theorem a7d (L:List Rat):a3g L L.length=L:=by simp[a3g]
theorem a8F {L:List Rat} {i:Nat} (h:i<L.length):(a3g L i).set i L[i]=a3g L (i+1):=by
 unfold a3g;rw[List.set_append_right _ _ (by simp;omega),show L.length - i=(L.length - (i+1))+1 by omega,List.replicate_succ,show i - (L.take i).length=0 by simp;omega,List.set_cons_zero,<-List.take_append_getElem h,List.append_assoc];rfl
theorem b5j {u:Mat} {n m i:Nat} (hi:i<u.length) (h:i<(a7S u n m).length):(a7S u n m)[i]=a2d u[i] (a2Z (a2B (a1T u n m) m) u[i]):=a8y hi h
end Go.Lin
namespace Go.Proofs.YtidbbddagfnfbaaGreat
open Go.RowKit Go.Rep Go.Lim Go.Lin
end Go.Proofs.YtidbbddagfnfbaaGreat
namespace Go.Lin
open Go.Lim Go.Rep
noncomputable def b7S (x:Mat) (y:List Rat) (n c:Nat):Fit:=⟨(a1b x c).2.length,usedL (a1b x c).2 c,a1y x y n c,a2T x y (a1y x y n c),a2d (a2T x y (a1y x y n c)) (a2T x y (a1y x y n c)),a7S (pkL x (a1b x c).2) n (a1b x c).2.length⟩
theorem b5k {x:Mat} {y:List Rat} {n c:Nat} (hs:Shp n c x) (hn:n<=8) (hc1:1<=c) (hc:c<=4):
  a5N (gmM x y c n)=true/\(gmM x y c n).xx.length=c/\c∉(fmS (gmM x y c n)).2/\fmC (gmM x y c n)=a1y x y n c/\a8m (gmM x y c n).xx c=(a1b x c).2.length:=by
 have h1:(gmM x y c n).xx.length=c:=(a2F x n c).1;have h2:fmS (gmM x y c n)=lsS x y n c:=by unfold fmS lsS;rw[h1];rfl
 have h3:fmC (gmM x y c n)=a1y x y n c:=by unfold fmC a1y;rw[h2,h1]
 have h4:a0B (gmM x y c n).xx=c:=b7p (a2F x n c) hc1;refine⟨?_,h1,by rw[h2];exact(a6r hs).1,h3,by rw[a8n];exact congrArg List.length (b9f hs)⟩;unfold a5N;rw[h1,h4,show a0G (gmM x y c n).xx=true from b8n (a2F x n c) (by omega) hc1 (by omega),show(gmM x y c n).xy.length=c from a9j x y n c];simp only[Bool.true_and,Bool.and_eq_true,decide_eq_true_eq];exact⟨⟨by show(0:Int)<=(n:Int);omega,by show(n:Int)<=1099511627776;omega⟩,trivial,trivial,by omega⟩
end Go.Lin
namespace Go.Proofs.YtidbbddagfnfbaaGreat
open Go.RowKit Go.Rep Go.Lim Go.Lin
theorem a6A {P:Program} {ops:Array Oper} {Q:Exit->Act->World->Prop} {rest:List Oper} {a:Act} {w:World} {d:Option Tmp} {ty:TypeId} {ps:String} {af:Array Edge} {t:TypeId} {x y:Operand} {n b o:Nat} {cs vs:Array Value} {T:TypeId} (hT:a1A P t n) (hx:a.eval x= .pointer (some ⟨b,o,none⟩)) (hy:a.eval y= .agg vs) (hb:Bx w b cs T) (hcs:o+n<=cs.size) (hvs:vs.size=n) (hone:∀v∈vs.toList,v.oneCell'=true)
  (K:∀w',Bx w' b (cs.toList.take o++vs.toList++cs.toList.drop (o+n)).toArray T->ExtX (ob (some ⟨b,0,none⟩)) w w'->wpList P ops Q rest (a.put d undef) w'):
  wpList P ops Q (⟨d, .store t x y,ty,ps,af,none⟩::rest) a w:=by
 refine wpList_plain rfl fun K' hK'=>?_;obtain⟨fs,ti,h1,h2,h3⟩:=hT;have hst:=run_storeCells_at P b o T vs.toList 0 cs w hb (by simp[hvs];omega) hone;have hr:(storeVar t ⟨b,o,none⟩ (.agg vs)).run P w= .ok () (w.setRow b (cs.toList.take (o+0)++vs.toList++cs.toList.drop (o+0+vs.toList.length)).toArray):=by
  simp[storeVar,sizeOf,typeInfo,h2,h3,Value.cells,hvs];simp only[Nat.add_zero,Array.length_toList,hvs,List.append_assoc]at hst |-;exact hst
 unfold Oper.wp;simp[execOp,hx,hy,Instr.storeAt,Instr.sureAddr,hr,Result.andThen];refine hK' _ _ (K _ ?_ ?_)
 ·unfold Bx
  have:=setRow_heap w b cs (cs.toList.take (o+0)++vs.toList++cs.toList.drop (o+0+vs.toList.length)).toArray T (0,0) hb;simp only[Nat.add_zero,Array.length_toList,hvs,List.append_assoc]at this |-;exact this
 ·exact⟨rfl,rfl,rfl,by simp,fun k _ hk=>setRow_other w b k _ (fun ek=>by subst ek;simp[ob]at hk)⟩
def b3e (X:Nat->Bool) (w:World) (f:Fit) (e:Ending) (w':World):Prop:=Ext w w'/\∃u,e= .returned (.tuple #[u, .int .i64 0])/\c0l (mk X w') u f
end Go.Proofs.YtidbbddagfnfbaaGreat
namespace Go.Lin
open Go.Lim Go.Rep
theorem b6a {x:Mat} {y:List Rat} {n c B:Nat} (hxB:BM B x) (hyB:BR B y) (hn:n<=8) (hB1:1<=B) (hB:B<=370):BMo 5929 (gmM x y c n):=by
 have hhb:=a8q hxB hB1;refine⟨a7D (b2K hhb hn hB),b2L hhb hyB hn hB,Nat.le_trans (b2I (B:=2*B) fun r _=>Nat.le_trans (hq_mul _ _) (by have:=b7F hyB hB1 r;omega)) (a5a hn hB)⟩
theorem b3f {x:Mat} {n c B:Nat} (hs:Shp n c x) (hB:BM B x) {s:List Int} (hb:∀v∈s,0<=v/\v<(c:Int)):BM B (a0Z x s):=fun r hr q hq=>by
 obtain⟨r0,h0,rfl⟩:=List.mem_map.1 hr;obtain⟨i,hi,rfl⟩:=List.mem_map.1 hq;have hl:=hs.2 r0 h0;have h1:=hb i hi;have h2:i.toNat<r0.length:=by omega
 simp only[List.getD_eq_getElem?_getD,List.getElem?_eq_getElem h2,Option.getD_some];exact hB r0 h0 _ (List.getElem_mem _)
theorem b5l {x:Mat} {y:List Rat} {n c:Nat} (hs:Shp n c x) {s:List Int} (hb:∀v∈s,0<=v/\v<(c:Int)):(gmM (a0Z x s) y s.length n).xx=a0Z (a2L (gmM x y c n).xx s) s/\(gmM (a0Z x s) y s.length n).xy=a2M (gmM x y c n).xy s/\(gmM (a0Z x s) y s.length n).yy=(gmM x y c n).yy/\(gmM (a0Z x s) y s.length n).n=(gmM x y c n).n:=
 ⟨(b7t hs hb).symm,(b7u hs hb).symm,rfl,rfl⟩
theorem b9z {x:Mat} {y:List Rat} {n c:Nat} (hs:Shp n c x) (hy:y.length=n) (s:List Int) (h3:fmC (gmM (a0Z x s) y s.length n)=a1y (a0Z x s) y n s.length):
  (gmM (a0Z x s) y s.length n).yy - a2d (fmC (gmM (a0Z x s) y s.length n)) (gmM (a0Z x s) y s.length n).xy=a4Z x y n s:=by
 rw[h3,a7I hs hy,a3Q (l:=y) hy];rfl
end Go.Lin
namespace Go.Rep
open Go.RowKit
def zz (b:Bool) (g:Nat) (Z:Nat->Bool):Nat->Bool:=if b=true then un Z (some ⟨g,0,none⟩)else Z
theorem b7T {Z:Nat->Bool} {b:Bool} {g:Nat} {w w':World} (hE:Ext w w') (hg:b=true->w.heap.size<=g):Le (mk Z w) (mk (zz b g Z) w'):=by
 cases b
 ·exact a0p hE
 ·exact a2f hE (hg rfl)
theorem b3g {Z:Nat->Bool} {g:Nat} {w w':World} (hE:Ext w w'):Le (mk (zz false g Z) w) (mk (zz true w.heap.size Z) w'):=a2f hE (Nat.le_refl _)
theorem b7U {Z:Nat->Bool} {b:Bool} {g:Nat} {w:World} (h:HX Z w) (hg:b=true->g<w.heap.size):HX (zz b g Z) w:=by
 cases b
 ·exact h
 ·exact a1c h (hg rfl)
end Go.Rep
namespace Go.Proofs.YtidbbddagfnfbaaGreat
open Go.RowKit Go.Rep Go.Lim Go.Lin
abbrev TR:=Bool×Bool×Bool×Bool×Bool
def c0M:List TR:=[true,false].flatMap fun e=>[(false,false,false,false,e),(true,false,false,false,e),(false,true,false,false,e),(true,true,false,false,e),(false,true,true,false,e),(true,true,true,false,e),(true,true,true,true,e)]
def lR (s:TR):Array Bool:=#[true,true,true,true,true,true,true,s.1,true,true,true,s.2.1,true,s.2.2.1,s.2.2.2.1,s.2.2.2.2,false]
def b9A (s:TR) (i:Nat):Option TR:=
 if i=7/\s.1=false then some (true,s.2)else if i=11/\s.2.1=false then some (s.1,true,s.2.2)else if i=13/\s.2.1=true/\s.2.2.1=false then some (s.1,s.2.1,true,s.2.2.2)
 else if i=14/\s.2.2.2.1=false/\s.1=true/\s.2.2.1=true then some (s.1,s.2.1,s.2.2.1,true,s.2.2.2.2)else if i=15/\s.2.2.2.2=false then some (s.1,s.2.1,s.2.2.1,s.2.2.2.1,true)else none
def c1e (s:TR):Bool:=s.2.2.2.1&&s.2.2.2.2
def a8G (a:Act) (v7 v11 v13 v14 v15:Value):Act:=((((a.put (some 23) v7).put (some 27) v11).put (some 29) v13).put (some 30) v14).put (some 5) v15
theorem a8H:∀s∈c0M,s.2.2.2.1=true->s.1=true/\s.2.2.1=true:=by decide
theorem b1b {P:Program} {ops:Array Oper} {Q:Exit->Act->World->Prop} {md:Region.Mode} {S:World->Prop} {n f:Nat} {l:Array Bool} {a:Act} {w:World} (h:∀a0,a0=a->a1O P md ops Q S n f l a0 w):a1O P md ops Q S n f l a w:=h a rfl
abbrev c0N:Array Value:=#[.int .i64 0, .slice none 0 0, .slice none 0 0, .bool false, .slice none 0 0, .slice none 0 0]
set_option maxRecDepth 100000 in
set_option maxHeartbeats 1600000 in
theorem b3h (X:Nat->Bool) (w:World) (u:Value) (m m':Mom) (ro:Option Addr) (S:List Int) (rc:Nat) (q:Rat) (hX:HX X w) (hu:b2B (mk X w) u m) (hs:Sl (a0w .i64) 1 w.cell? ro S) (hk0:1<=S.length) (hk4:S.length<=4)
  (hb1:∀v∈S,0<=v/\v<(m.xy.length:Int)) (hb2:∀v∈S,0<=v/\v<(m.xx.length:Int)) (hb3:∀r∈m.xx,r.length=m.xx.length)
  (e1:m'.xx=a0Z (a2L m.xx S) S) (e2:m'.xy=a2M m.xy S) (e3:m'.yy=m.yy) (e4:m'.n=m.n) (hB:BMo 5929 m') (hok:a5N m'=true) (hnp:m'.xx.length∉(fmS m').2) (hq:m'.yy - a2d (fmC m') m'.xy=q):
  Calls Tryz.prog 80 #[u, .slice ro S.length rc] w (a1Z X w QC q):=by
 obtain⟨xo,xl,xc,yo,yl,yc,s,ya,n0,c0,d,k,e0,rfl,h1,h2,h3⟩:=hu;obtain⟨N,hN⟩:∃N,m.n=N:=⟨_,rfl⟩;rw[hN]at e4 |-;obtain⟨W,hW,hE,b0,b1,hz⟩:=a1v w #[.int .i64 N, .slice xo xl xc, .slice yo yl yc, .bool s, .slice ya n0 c0, .slice d k e0] #[.bool false, .slice none 0 0, .slice none 0 0] 117 45;have hXW:HX (a0f X w.heap.size 2) W:=hX.boxes hz;have hle:Hid (∀w',Ext W w'->Le (mk X w) (mk (a0f X w.heap.size 2) w')):=hid fun w' h=>a0o (hE.trans h);obtain⟨b,hb⟩:∃b,w.heap.size=b:=⟨_,rfl⟩;have hbw:w.heap.size<=b:=by omega
 rw[hb]at b0 b1 hz hXW hle;obtain⟨Z0,hZ0⟩:∃Z0,a0f X b 2=Z0:=⟨_,rfl⟩;have hZX:=hid (fun k (h:X k=true)=>(by rw[<-hZ0];exact b1y h:Z0 k=true));have hZ1:Hid (∀k,ob (some ⟨b+1,0,none⟩) k=true->Z0 k=true):=hid fun k hk=>by
  have:b+1=k:=by simpa[ob]using hk
  rw[<-hZ0,<-this];exact a5j (by omega) (by omega)
 rw[hZ0]at hXW hle;have hE0:Ext W W.drew:=(ExtX.refl W).drew;obtain⟨W0,hW0⟩:∃W0,W.drew=W0:=⟨_,rfl⟩;rw[hW0]at hE0;have hX0:HX Z0 W0:=hXW.ext hE0;have hl0:=hle.out W0 hE0;have hc1:Hid (∀(b:Bool) (g:Nat) w',Ext W0 w'->(b=true->W0.heap.size<=g/\g<w'.heap.size)->Calls Tryz.prog 120 #[.slice yo yl yc, .slice ro S.length rc] w' (fun e w2=>Ext w' w2/\∃ao cap,e= .returned (.slice ao S.length cap)/\RV (mk (zz b g Z0) w2) (.slice ao S.length cap) m'.xy)):=hid fun b g w' h hg=>by
  refine(a6Z (zz b g Z0) w' _ m.xy ro S rc (b7U (hX0.ext h) fun hb=>(hg hb).2) (RV.mono _ _ _ _ (b7T h fun hb=>(hg hb).1) (RV.mono _ _ _ _ hl0 h2)) ((by rw[a2v];exact hs:Sl (a0w .i64) 1 (mk noY w) ro S).mono (a0w.mono _) (a0p (hE.trans (hE0.trans h)))) hb1 (by omega)).mono ?_;rintro e w2 ⟨g1,ao,cap,g2,g3⟩;have hc:=g3.lenCap;have hl:=a3M m.xy S;exact⟨g1,ao,cap,g2,ao,cap,by rw[e2,hl],by rw[e2];exact hc,by rw[e2];exact g3.sl QV.elem⟩
 have hc2:Hid (∀(b:Bool) (g:Nat) w',Ext W0 w'->(b=true->W0.heap.size<=g/\g<w'.heap.size)->Calls Tryz.prog 119 #[.slice xo xl xc, .slice ro S.length rc] w' (fun e w2=>Ext w' w2/\∃v,e= .returned v/\MV (mk (zz b g Z0) w2) v (a2L m.xx S))):=hid fun b g w' h hg=>by
  refine(b2c (zz b g Z0) w' _ m.xx ro S rc (b7U (hX0.ext h) fun hb=>(hg hb).2) (MV.mono _ _ _ _ (b7T h fun hb=>(hg hb).1) (MV.mono _ _ _ _ hl0 h1)) (by rw[<-a2v]at hs |-;exact hs.mono (a0w.mono _) (a0p (hE.trans (hE0.trans h)))) hb2 (by omega)).mono ?_;rintro e w2 ⟨g1,ao,cap,g2,g3⟩;exact⟨g1,_,g2,ao,cap,rfl,g3.lenCap,g3.sl RV.elem⟩
 have hc3:Hid (∀(b:Bool) (g:Nat) w' v,Ext W0 w'->(b=true->W0.heap.size<=g/\g<w'.heap.size)->MV (mk (zz b g Z0) w') v (a2L m.xx S)->Calls Tryz.prog 158 #[v, .slice ro S.length rc] w' (fun e w2=>Ext w' w2/\∃ao cap,e= .returned (.slice ao S.length cap)/\MV (mk (zz b g Z0) w2) (.slice ao S.length cap) m'.xx)):=hid fun b g w' v h hg hv=>by
  refine(b2d (zz b g Z0) w' v (a2L m.xx S) ro S rc (b7U (hX0.ext h) fun hb=>(hg hb).2) hv ((by rw[a2v];exact hs:Sl (a0w .i64) 1 (mk noY w) ro S).mono (a0w.mono _) (a0p (hE.trans (hE0.trans h)))) (fun r hr x hx=>by rw[hb3 r (b2b hb2 r hr)];exact hb2 x hx) (by omega) (by rw[a4P];omega)).mono ?_;rintro e w2 ⟨g1,ao,cap,g2,g3⟩;have hc:=g3.lenCap;have hl:=a3N (a2L m.xx S) S;have hl2:=a4P m.xx S;rw[hl2]at g2 hl;exact⟨g1,ao,cap,g2,ao,cap,by rw[e1,hl],by rw[e1];exact hc,by rw[e1];exact g3.sl RV.elem⟩
 have hyq:=hid (fun(b:Bool) (g:Nat) w' (h:Ext W0 w') (hg:b=true->W0.heap.size<=g)=>QV.mono _ _ _ _ (b7T h hg) (QV.mono _ _ _ _ hl0 h3));rw[<-e3]at hyq;have hml:=hid (show m'.xx.length<=4 by rw[e1,a3N,a4P];exact hk4);have hfm:=hid (fun(Y:Nat->Bool) w' (v:Value) (hY:HX Y w') (h:b2B (mk Y w') v m')=>b2Y Y w' v m' hY h hml.out hB);have hpos:((S.length:Int)==0)=false:=a2I (by omega);have hin:=hid hnp;have hok':=hid hok;have hq':=hid hq;unfold b2X at hfm;obtain⟨kk,hkk⟩:∃kk,S.length=kk:=⟨_,rfl⟩;rw[hkk]at hc1 hc2 hc3 hpos |-;have k00:=b0.cell 0 rfl;have k01:=b0.cell 1 rfl;have k02:=b0.cell 2 rfl;have k03:W.cell? ⟨b,3,none⟩=some (.bool s):=b0.cell 3 rfl;have k04:W.cell? ⟨b,3+1,none⟩=some (.slice ya n0 c0):=b0.cell 4 rfl;have k05:W.cell? ⟨b,3+2,none⟩=some (.slice d k e0):=b0.cell 5 rfl;have hbx:=hid (fun w' (h:Ext W0 w')=>b1.ext0 (hE0.trans h));have hhe:=hid (hE.trans hE0);have hEE:=hE0;have k10:W0.cell? ⟨b,0,none⟩=some (.int .i64 N):=hEE.cell k00;have k11:W0.cell? ⟨b,1,none⟩=some (.slice xo xl xc):=hEE.cell k01;have k12:W0.cell? ⟨b,2,none⟩=some (.slice yo yl yc):=hEE.cell k02;have k13:W0.cell? ⟨b,3,none⟩=some (.bool s):=hEE.cell k03;have k14:W0.cell? ⟨b,3+1,none⟩=some (.slice ya n0 c0):=hEE.cell k04;have k15:W0.cell? ⟨b,3+2,none⟩=some (.slice d k e0):=hEE.cell k05;have hSall:=hid (fun w' (h:Ext W0 w')=>(⟨h.cell k10,h.cell k11,h.cell k12,h.cell k13,h.cell k14,h.cell k15⟩:w'.cell? ⟨b,0,none⟩=some (.int .i64 N)/\w'.cell? ⟨b,1,none⟩=some (.slice xo xl xc)/\w'.cell? ⟨b,2,none⟩=some (.slice yo yl yc)/\w'.cell? ⟨b,3,none⟩=some (.bool s)/\w'.cell? ⟨b,3+1,none⟩=some (.slice ya n0 c0)/\w'.cell? ⟨b,3+2,none⟩=some (.slice d k e0)));clear hs hb1 hb2 hb3 e1 e2 e3 hB hok hnp hq h1 h2 h3 hl0 hle b0 b1 hkk hEE hE hXW hX hk0 hk4;go_enter Tryz.func80,Tryz.ntmps80
 go_upto_region 3 with fail
 refine a0M 16 (fun w'=>w'.cell? ⟨b,0,none⟩=some (.int .i64 N)/\w'.cell? ⟨b,1,none⟩=some (.slice xo xl xc)/\w'.cell? ⟨b,2,none⟩=some (.slice yo yl yc)/\w'.cell? ⟨b,3,none⟩=some (.bool s)/\w'.cell? ⟨b,3+1,none⟩=some (.slice ya n0 c0)/\w'.cell? ⟨b,3+2,none⟩=some (.slice d k e0)) (by kernel_rfl) (by kernel_rfl) (by rw[hW0];exact hSall.out W0 (ExtX.refl _)) (fun hHeld hOnce=>?_);rw[hW0]at hHeld |-;clear k00 k01 k02 k03 k04 k05 k10 k11 k12 k13 k14 k15;refine a0a hOnce (i:=0) (oi:=⟨_,_,_,_,_,_⟩) (v:=?_) rfl (by kernel_rfl) (fun _ _ _ h=>h) (by assumption) (by rfl) (fun w hSw=>?_) ?_
 rotate_left
 ·(try dsimp only at hSw)
  go_simp
  all_goals with_reducible rfl
 (try simp only[Act.put,List.setIfInBounds_toArray,List.set_cons_zero,List.set_cons_succ])
 refine a0a hOnce (i:=1) (oi:=⟨_,_,_,_,_,_⟩) (v:=?_) rfl (by kernel_rfl) (fun _ _ _ h=>h) (by assumption) (by rfl) (fun w hSw=>?_) ?_
 rotate_left
 ·(try dsimp only at hSw)
  go_simp
  all_goals with_reducible rfl
 (try simp only[Act.put,List.setIfInBounds_toArray,List.set_cons_zero,List.set_cons_succ])
 refine a0a hOnce (i:=2) (oi:=⟨_,_,_,_,_,_⟩) (v:=?_) rfl (by kernel_rfl) (fun _ _ _ h=>h) (by assumption) (by rfl) (fun w hSw=>?_) ?_
 rotate_left
 ·(try dsimp only at hSw)
  go_simp
  all_goals with_reducible rfl
 (try simp only[Act.put,List.setIfInBounds_toArray,List.set_cons_zero,List.set_cons_succ])
 refine a0a hOnce (i:=3) (oi:=⟨_,_,_,_,_,_⟩) (v:=?_) rfl (by kernel_rfl) (fun _ _ _ h=>h) (by assumption) (by rfl) (fun w hSw=>?_) ?_
 rotate_left
 ·(try dsimp only at hSw)
  go_simp
  all_goals with_reducible rfl
 (try simp only[Act.put,List.setIfInBounds_toArray,List.set_cons_zero,List.set_cons_succ])
 refine a0a hOnce (i:=4) (oi:=⟨_,_,_,_,_,_⟩) (v:=?_) rfl (by kernel_rfl) (fun _ _ _ h=>h) (by assumption) (by rfl) (fun w hSw=>?_) ?_
 rotate_left
 ·(try dsimp only at hSw)
  go_simp
  all_goals with_reducible rfl
 (try simp only[Act.put,List.setIfInBounds_toArray,List.set_cons_zero,List.set_cons_succ])
 refine a0a hOnce (i:=5) (oi:=⟨_,_,_,_,_,_⟩) (v:=?_) rfl (by kernel_rfl) (fun _ _ _ h=>h) (by assumption) (by rfl) (fun w hSw=>?_) ?_
 rotate_left
 ·(try dsimp only at hSw)
  go_simp
  all_goals with_reducible rfl
 (try simp only[Act.put,List.setIfInBounds_toArray,List.set_cons_zero,List.set_cons_succ])
 refine a0a hOnce (i:=6) (oi:=⟨_,_,_,_,_,_⟩) (v:=?_) rfl (by kernel_rfl) (fun _ _ _ h=>h) (by assumption) (by rfl) (fun w hSw=>?_) ?_
 rotate_left
 ·(try dsimp only at hSw)
  go_simp
  all_goals with_reducible rfl
 (try simp only[Act.put,List.setIfInBounds_toArray,List.set_cons_zero,List.set_cons_succ])
 refine a0a hOnce (i:=8) (oi:=⟨_,_,_,_,_,_⟩) (v:=?_) rfl (by kernel_rfl) (fun _ _ _ h=>h) (by assumption) (by rfl) (fun w hSw=>?_) ?_
 rotate_left
 ·(try dsimp only at hSw)
  go_simp
  all_goals with_reducible rfl
 (try simp only[Act.put,List.setIfInBounds_toArray,List.set_cons_zero,List.set_cons_succ])
 refine a0a hOnce (i:=9) (oi:=⟨_,_,_,_,_,_⟩) (v:=?_) rfl (by kernel_rfl) (fun _ _ _ h=>h) (by assumption) (by rfl) (fun w hSw=>?_) ?_
 rotate_left
 ·(try dsimp only at hSw)
  go_simp
  all_goals with_reducible rfl
 (try simp only[Act.put,List.setIfInBounds_toArray,List.set_cons_zero,List.set_cons_succ])
 refine a0a hOnce (i:=10) (oi:=⟨_,_,_,_,_,_⟩) (v:=?_) rfl (by kernel_rfl) (fun _ _ _ h=>h) (by assumption) (by rfl) (fun w hSw=>?_) ?_
 rotate_left
 ·(try dsimp only at hSw)
  go_simp
  all_goals with_reducible rfl
 (try simp only[Act.put,List.setIfInBounds_toArray,List.set_cons_zero,List.set_cons_succ])
 refine a0a hOnce (i:=12) (oi:=⟨_,_,_,_,_,_⟩) (v:=?_) rfl (by kernel_rfl) (fun _ _ _ h=>h) (by assumption) (by rfl) (fun w hSw=>?_) ?_
 rotate_left
 ·(try dsimp only at hSw)
  go_simp
  all_goals with_reducible rfl
 (try simp only[Act.put,List.setIfInBounds_toArray,List.set_cons_zero,List.set_cons_succ])
 refine b1b fun a0 ha0=>?_;refine b1a (I:=fun s1 a w'=>∃v7 v11 v13 v14 v15 yo2 yc2 xo2 xc2 g,a=a8G a0 v7 v11 v13 v14 v15/\Ext W0 w'/\(s1.1=true->v7= .slice yo2 kk yc2/\RV (mk (zz s1.2.2.2.2 g Z0) w') v7 m'.xy)/\(s1.2.1=true->MV (mk (zz s1.2.2.2.2 g Z0) w') v11 (a2L m.xx S))/\(s1.2.2.1=true->v13= .slice xo2 kk xc2/\MV (mk (zz s1.2.2.2.2 g Z0) w') v13 m'.xx)/\(s1.2.2.2.1=true->v14= .agg #[.int .i64 N,v13,v7, .bool s, .slice ya n0 c0, .slice d k e0])/\(s1.2.2.2.2=true->v15= .pointer (some ⟨g,0,none⟩)/\Bx w' g c0N 173/\W0.heap.size<=g))
  c0M lR b9A c1e (by kernel_rfl) ?st ?ex 6 (false,false,false,false,false) a0 W0 (by decide) (by decide) ?hi
 case hi=>
  subst ha0;exact⟨undef,undef,undef,undef,undef,none,0,none,0,0,by simp only[a8G,Act.put,List.setIfInBounds_toArray,List.set_cons_zero,List.set_cons_succ],ExtX.refl _,fun h=>(by cases h),fun h=>(by cases h),fun h=>(by cases h),fun h=>(by cases h),fun h=>(by cases h)⟩
 case st=>
  rintro ⟨b7,b11,b13,b14,b15⟩ i t a w' hs ht ⟨v7,v11,v13,v14,v15,yo2,yc2,xo2,xc2,g,rfl,hEx,f7,f11,f13,f14,f15⟩;have h4:=a8H _ hs
  dsimp only at f7 f11 f13 f14 f15 h4
  have hg:b15=true->W0.heap.size<=g/\g<w'.heap.size:=fun h=>⟨(f15 h).2.2,(f15 h).2.1.lt⟩;subst ha0;unfold b9A at ht
  dsimp only at ht
  split at ht
  ·rename_i hc
   obtain⟨rfl,rfl⟩:=hc;cases ht
   simp only[a8G,Act.put,List.setIfInBounds_toArray,List.set_cons_zero,List.set_cons_succ];refine a3f (o:=⟨_,_,_,_,_,_⟩) rfl (fun K hK=>?_);go_simp
   go_at_call 120
   (with_reducible refine(hc1.out b15 g w' hEx hg).mono ?_)
   rintro ee w2 ⟨hE2,yo3,yc3,rfl,hY⟩;refine hK.out _ _ ⟨hSall.out w2 (hEx.trans hE2),_,v11,v13,v14,v15,yo3,yc3,xo2,xc2,g,rfl,hEx.trans hE2,fun _=>⟨rfl,hY⟩,fun h=>MV.mono _ _ _ _ (a0p hE2) (f11 h),fun h=>⟨(f13 h).1,MV.mono _ _ _ _ (a0p hE2) (f13 h).2⟩,fun h=>absurd (h4 h).1 (by decide),fun h=>⟨(f15 h).1,(f15 h).2.1.ext0 hE2,(f15 h).2.2⟩⟩
  ·split at ht
   ·rename_i hc
    obtain⟨rfl,rfl⟩:=hc;cases ht
    simp only[a8G,Act.put,List.setIfInBounds_toArray,List.set_cons_zero,List.set_cons_succ];refine a3f (o:=⟨_,_,_,_,_,_⟩) rfl (fun K hK=>?_);go_simp
    go_at_call 119
    (with_reducible refine(hc2.out b15 g w' hEx hg).mono ?_)
    rintro ee w2 ⟨hE2,v2,rfl,hM⟩;refine hK.out _ _ ⟨hSall.out w2 (hEx.trans hE2),v7,v2,v13,v14,v15,yo2,yc2,xo2,xc2,g,rfl,hEx.trans hE2,fun h=>⟨(f7 h).1,RV.mono _ _ _ _ (a0p hE2) (f7 h).2⟩,fun _=>hM,fun h=>⟨(f13 h).1,MV.mono _ _ _ _ (a0p hE2) (f13 h).2⟩,f14,fun h=>⟨(f15 h).1,(f15 h).2.1.ext0 hE2,(f15 h).2.2⟩⟩
   ·split at ht
    ·rename_i hc
     obtain⟨rfl,rfl,rfl⟩:=hc;cases ht
     simp only[a8G,Act.put,List.setIfInBounds_toArray,List.set_cons_zero,List.set_cons_succ];refine a3f (o:=⟨_,_,_,_,_,_⟩) rfl (fun K hK=>?_);go_simp
     go_at_call 158
     (with_reducible refine(hc3.out b15 g w' v11 hEx hg (f11 rfl)).mono ?_)
     rintro ee w2 ⟨hE2,xo3,xc3,rfl,hM⟩;refine hK.out _ _ ⟨hSall.out w2 (hEx.trans hE2),v7,v11,_,v14,v15,yo2,yc2,xo3,xc3,g,rfl,hEx.trans hE2,fun h=>⟨(f7 h).1,RV.mono _ _ _ _ (a0p hE2) (f7 h).2⟩,fun _=>MV.mono _ _ _ _ (a0p hE2) (f11 rfl),fun _=>⟨rfl,hM⟩,fun h=>absurd (h4 h).2 (by decide),fun h=>⟨(f15 h).1,(f15 h).2.1.ext0 hE2,(f15 h).2.2⟩⟩
    ·split at ht
     ·rename_i hc
      obtain⟨rfl,rfl,rfl,rfl⟩:=hc;cases ht
      obtain⟨rfl,hY⟩:=f7 rfl;obtain⟨rfl,hM⟩:=f13 rfl;simp only[a8G,Act.put,List.setIfInBounds_toArray,List.set_cons_zero,List.set_cons_succ];refine a3f (o:=⟨_,_,_,_,_,_⟩) rfl (fun K hK=>?_);go_simp
      refine hK.out _ _ ⟨hSall.out w' hEx,_,v11,_,_,v15,yo2,yc2,xo2,xc2,g,rfl,hEx,fun _=>⟨rfl,hY⟩,f11,fun _=>⟨rfl,hM⟩,fun _=>rfl,f15⟩
     ·split at ht
      ·rename_i hc
       obtain⟨rfl,rfl⟩:=hc;cases ht
       simp only[a8G,Act.put,List.setIfInBounds_toArray,List.set_cons_zero,List.set_cons_succ];refine a3f (o:=⟨_,_,_,_,_,_⟩) rfl (fun K hK=>?_);go_simp
       have hE2:Ext w' (w'.alloc (.cells c0N 173)):=(ExtX.refl _).alloc _;refine hK.out _ _ ⟨hSall.out _ (hEx.trans hE2),v7,v11,v13,v14, .pointer (some ⟨w'.heap.size,0,none⟩),yo2,yc2,xo2,xc2,w'.heap.size,rfl,hEx.trans hE2,fun h=>⟨(f7 h).1,RV.mono _ _ _ _ (b3g hE2) (f7 h).2⟩,fun h=>MV.mono _ _ _ _ (b3g hE2) (f11 h),fun h=>⟨(f13 h).1,MV.mono _ _ _ _ (b3g hE2) (f13 h).2⟩,f14,fun _=>⟨rfl,Bx.new w' _ _,hEx.size⟩⟩
      ·cases ht
 case ex=>
  rintro ⟨b7,b11,b13,b14,b15⟩ a w' hs hf ⟨v7,v11,v13,v14,v15,yo2,yc2,xo2,xc2,g,rfl,hEx,f7,f11,f13,f14,f15⟩;obtain⟨rfl,rfl⟩:=(Bool.and_eq_true _ _).mp hf;obtain⟨h7,h13⟩:=a8H _ hs rfl
  dsimp only at f7 f11 f13 f14 f15 h7 h13
  subst h7 h13 ha0;obtain⟨rfl,hY⟩:=f7 rfl;obtain⟨rfl,hM⟩:=f13 rfl;obtain rfl:=f14 rfl;obtain⟨rfl,bg,hg⟩:=f15 rfl;clear f7 f11 f13 f14 f15 hf;have hb11:b11=true:=by
   revert hs;revert b11;decide
  subst hb11;clear hs hc1 hc2 hc3
  show a1O _ _ _ _ _ _ 1 #[true,true,true,true,true,true,true,true,true,true,true,true,true,true,true,true,false] _ _
  simp only[a8G,Act.put,List.setIfInBounds_toArray,List.set_cons_zero,List.set_cons_succ];refine a0s (i:=16) (o:=⟨_,_,_,_,_,_⟩) (by kernel_rfl) rfl (by decide) (by kernel_rfl) (fun K hK=>?_)
  (refine a0z rfl rfl a3u rfl rfl bg rfl rfl (c0m _ _ _ _ _ _ _ _ _ _ _ _ _ _) ?_;intro w9 y1 y2)
  refine hK.out _ _ ?_;clear hK K
  (try simp only[Act.put])
  have hE9:Ext W0 w9:=ExtX.box hEx y2 hg;have hle9:Le (mk (un Z0 (some ⟨g,0,none⟩)) w') (mk (un Z0 (some ⟨g,0,none⟩)) w9):=a0x y2 (fun k hk=>a0q hk);have hm9:b2B (mk (un Z0 (some ⟨g,0,none⟩)) w9) (.agg #[.int .i64 N, .slice xo2 kk xc2, .slice yo2 kk yc2, .bool s, .slice ya n0 c0, .slice d k e0]) m':=by
   rw[<-e4];exact⟨_,_,_,_,_,_,_,_,_,_,_,_,_,rfl,MV.mono _ _ _ _ hle9 hM,RV.mono _ _ _ _ hle9 hY,QV.mono _ _ _ _ hle9 (hyq.out true g w' hEx fun _=>hg)⟩
  have hX9:HX (un Z0 (some ⟨g,0,none⟩)) w9:=a1c (hX0.ext hE9) y1.lt;have hf:=hid (hfm.out _ w9 _ hX9 hm9);clear hM hY hyq hle9 y2 bg;go_wp2_with ((with_reducible show wpList _ _ _ (⟨_, .load 173 _,_,_,_,_⟩::_) _ _);refine a3X a3u rfl y1 rfl ?_)
  refine hf.out.mono ?_;rintro e w5 ⟨hE5,z,u5,k5,c5,rfl,hor⟩;have hr:QC (mk (un Z0 (some ⟨g,0,none⟩)) w5) u5 q:=by
   rcases hor with⟨h,_⟩|⟨_,h,_⟩|⟨_,_,_,_,_,h⟩
   ·rw[hok'.out]at h;cases h
   ·exact absurd h hin.out
   ·rw[<-hq'.out];exact h
  obtain⟨s6,a6,n6,c6,d6,k6,e6,rfl⟩:=hr.shape;have bN:=Bx.new w5 #[.bool false, .slice none 0 0, .slice none 0 0] 45;have b15:=hbx.out w5 (hE9.trans hE5);clear hor hf y1;go_wp2_with ((with_reducible show wpList _ _ _ (⟨_, .store 45 _ _,_,_,_,_⟩::_) _ _);first|(refine a0c a0u rfl rfl bN rfl rfl (a2g _ _ _ _ _ _ _) ?_;intro w7 r1 r2;have hE7:Ext w5 w7:=ExtX.box ((ExtX.refl w5).alloc _) r2 (Nat.le_refl _);have b17:=b15.ext0 hE7;have q0:=r1.cell 0 rfl;have q1:=r1.cell 1 rfl;have q2:=r1.cell 2 rfl)|(refine a0c a0u rfl rfl b17 rfl rfl (a2g _ _ _ _ _ _ _) ?_;intro w8 r3 r4))
  have hq7:=mkx QC.mono hr hE7;have h8:=QC.mono _ _ _ _ (a4s r4 (fun k hk=>a0k (hZ1.out k hk)) (fun k hk=>a0k (hZX.out k hk))) hq7;exact bodyPost_ret (a0e rfl rfl a0u r3 rfl) rfl ⟨ExtX.box (hhe.out.trans (hE9.trans (hE5.trans hE7))) r4 (by omega),_,rfl,h8⟩
theorem b5m (X:Nat->Bool) (w:World) (u:Value) (x:Mat) (y:List Rat) (n c B:Nat) (ro:Option Addr) (S:List Int) (rc:Nat) (hX:HX X w) (hu:a6v (mk X w) u (gmM x y c n)) (hs:Sl (a0w .i64) 1 w.cell? ro S) (hsh:Shp n c x) (hy:y.length=n) (hn:n<=8) (_hc:c<=4) (hxB:BM B x) (hyB:BR B y) (hB1:1<=B) (hB:B<=370) (hsb:∀v∈S,0<=v/\v<(c:Int)) (hsl:S.length<=4):
  Calls Tryz.prog 80 #[u, .slice ro S.length rc] w (a1Z X w QC (a4Z x y n S)):=by
 have hbm:=b6a (n:=n) (c:=c) hxB hyB hn hB1 hB;have hv:=hu.mv ⟨fun r hr q hq=>Nat.le_trans (hbm.1 r hr q hq) (by decide),fun q hq=>Nat.le_trans (hbm.2.1 q hq) (by decide),Nat.le_trans hbm.2.2 (by decide)⟩;by_cases h0:S.length=0
 ·obtain rfl:S= []:=List.eq_nil_of_length_eq_zero h0
  have e:a4Z x y n []=(gmM x y c n).yy:=by
   have e:a2d (a1y (a0Z x []) y n ([]:List Int).length) (gyL (a0Z x []) y n ([]:List Int).length)=0:=by
    rw[a3Q (a3b (a0Z x []) y n ([]:List Int).length)];rfl
   rw[a7I hsh hy,e,a3Q hy]
   show _ - 0=sm n _
   grind
  rw[e];exact b3d X w u _ ro rc hX hv
 ·have hps:=a3c hsh S
  obtain⟨f1,f2,f3,f4,f5⟩:=b5k (y:=y) hps hn (by omega) hsl;obtain⟨g1,g2,g3,g4⟩:=b5l (y:=y) hsh hsb;have gs:=a2F x n c;refine b3h X w u (gmM x y c n) (gmM (a0Z x S) y S.length n) ro S rc _ hX hv hs (by omega) hsl ?_ ?_ ?_ g1 g2 g3 g4 (b6a (b3f hsh hxB hsb) hyB hn hB1 hB) f1 (by rw[f2];exact f3) (b9z hsh hy S f4)
  ·rw[show(gmM x y c n).xy.length=c from a9j x y n c];exact hsb
  ·rw[show(gmM x y c n).xx.length=c from gs.1];exact hsb
  ·intro r hr
   rw[show(gmM x y c n).xx.length=c from gs.1];exact gs.2 r hr
end Go.Proofs.YtidbbddagfnfbaaGreat
namespace Go.Lin
open Go.Lim
theorem b6b {a b c:Rat} (h:a<b) (k:b<=c):a<c:=Rat.not_le.1 fun h2=>absurd (Rat.le_trans k h2) (Rat.not_le.2 h)
def a5R (f:List Int->Rat) (l:List (List Int)) (q:Rat) (n:Nat) (t:List (List Int)):Prop:=
 (l= []/\n=0/\t= [])\/(0<n/\(∃s∈l,q=f s)/\(∀s∈l,q<=f s)/\n=(l.filter fun s=>decide (f s=q)).length/\t=(l.filter fun s=>decide (f s=q)).take 64)
theorem a5R.zero (f:List Int->Rat) (q:Rat):a5R f [] q 0 []:= .inl ⟨rfl,rfl,rfl⟩
theorem a5R.new {f:List Int->Rat} {l:List (List Int)} {q:Rat} {n:Nat} {t:List (List Int)} (h:a5R f l q n t) (s:List Int) (hs:n=0\/f s<q):a5R f (l++[s]) (f s) 1 [s]:=by
 refine .inr ⟨Nat.one_pos,⟨s,by simp,rfl⟩,?_⟩;rcases h with⟨rfl,_,_⟩|⟨h0,_,h2,_,_⟩
 ·refine⟨fun x hx=>?_,by simp,by simp⟩
  have:x=s:=by simpa using hx
  subst this;exact Rat.le_refl
 ·have hlt:f s<q:=hs.resolve_left (by omega)
  have hno:l.filter (fun x=>decide (f x=f s))= []:=List.filter_eq_nil_iff.2 fun x hx he=>by
   have h3:=h2 x hx;have:f x=f s:=by simpa using he
   rw[this]at h3;exact absurd (b6b hlt h3) Rat.lt_irrefl
  refine⟨fun x hx=>?_,by simp[List.filter_append,hno],by simp[List.filter_append,hno]⟩;rcases List.mem_append.1 hx with hx|hx
  ·exact Rat.le_of_lt (b6b hlt (h2 x hx))
  ·have:x=s:=by simpa using hx
   subst this;exact Rat.le_refl
theorem a5R.tie {f:List Int->Rat} {l:List (List Int)} {q:Rat} {n:Nat} {t:List (List Int)} (h:a5R f l q n t) (s:List Int) (h0:0<n) (hs:f s=q):a5R f (l++[s]) q (n+1) (if t.length<64 then t++[s]else t):=by
 rcases h with⟨_,h1,_⟩|⟨_,⟨r,hr,hq⟩,h2,h3,h4⟩
 ·omega
 refine .inr ⟨by omega,⟨r,List.mem_append_left _ hr,hq⟩,fun x hx=>?_,by rw[List.filter_append];simp[hs,h3],?_⟩
 ·rcases List.mem_append.1 hx with hx|hx
  ·exact h2 x hx
  ·have:x=s:=by simpa using hx
   subst this;rw[hs];exact Rat.le_refl
 ·rw[List.filter_append]
  obtain⟨F,hF⟩:∃F,l.filter (fun x=>decide (f x=q))=F:=⟨_,rfl⟩;have e: [s].filter (fun x=>decide (f x=q))= [s]:=by simp[hs]
  rw[hF]at h4 |-;rw[e];subst h4;by_cases hl:F.length<64
  ·rw[List.take_of_length_le (by omega),if_pos hl,List.take_of_length_le (by simp;omega)]
  ·rw[if_neg (by rw[List.length_take];omega),List.take_append_of_le_length (by omega)]
theorem a5R.more {f:List Int->Rat} {l:List (List Int)} {q:Rat} {n:Nat} {t:List (List Int)} (h:a5R f l q n t) (s:List Int) (h0:0<n) (hs:q<f s):a5R f (l++[s]) q n t:=by
 rcases h with⟨_,h1,_⟩|⟨_,⟨r,hr,hq⟩,h2,h3,h4⟩
 ·omega
 have e: [s].filter (fun x=>decide (f x=q))= []:=by
  have:¬f s=q:=fun e=>by rw[e]at hs;exact absurd hs Rat.lt_irrefl
  simp[this]
 refine .inr ⟨h0,⟨r,List.mem_append_left _ hr,hq⟩,fun x hx=>?_,by rw[List.filter_append,e,List.append_nil];exact h3,by rw[List.filter_append,e,List.append_nil];exact h4⟩;rcases List.mem_append.1 hx with hx|hx
 ·exact h2 x hx
 ·have:x=s:=by simpa using hx
  subst this;exact Rat.le_of_lt hs
theorem a5R.len {f:List Int->Rat} {l:List (List Int)} {q:Rat} {n:Nat} {t:List (List Int)} (h:a5R f l q n t):t.length<=n/\t.length<=64/\n<=l.length:=by
 rcases h with⟨rfl,rfl,rfl⟩|⟨_,_,_,h3,h4⟩
 ·simp
 ·have h5:=List.length_filter_le (fun s=>decide (f s=q)) l
  subst h4;rw[List.length_take];omega
end Go.Lin
namespace Go.Proofs.YtidbbddagfnfbaaGreat
open Go.RowKit Go.Rep Go.Lim
theorem a6B (X:Nat->Bool) (ao:Option Addr) (l:List Int) (cap:Nat) (w:World) (hs:Sl (a0w .i64) 1 (mk X w) ao l) (hl:l.length<=1099511627776) (hX:∀k,X k=true->k<w.heap.size):
  Calls Tryz.prog 82 #[.slice ao l.length cap] w (fun e w'=>Ext w w'/\∃bo c,e= .returned (.slice bo l.length c)/\l.length<=c/\OL (a0w .i64) 1 X w.heap.size 3 w' bo c l):=by
 go_enter Tryz.func82,Tryz.ntmps82
 go_wp2_with (at_builtin;refine b7M a4o rfl (a0w.elem .i64) hX l rfl rfl rfl hs (by omega) (by omega) ?_;intro a2 c2 w2 hC hE2)
 have hcc:=hC.lenCap;go_ret
 exact⟨hE2,a2,c2,rfl,hcc,hC⟩
def b6c (r:List Nat) (k i j M:Nat):Prop:=r.length=k+1/\∀p (_:p<r.length),r[p]=min (if j<p then ch (i+1) p else ch i p) M
theorem b6c.start (k M:Nat) (hM:1<=M):b6c ((List.replicate (k+1) 0).set 0 1) k 0 k M:=by
 obtain⟨h1,h2⟩:=a2W.start k;refine⟨h1,fun p hp=>?_⟩;have:=h2 p hp;rw[this];have hle:(if k<p then ch (0+1) p else ch 0 p)<=1:=by
  rw[if_neg (by omega)];cases p with
  |zero=>simp[ch]
  |succ p=>simp[ch]
 omega
theorem b6c.step {r:List Nat} {k i j M:Nat} (h:b6c r k i j M) (h0:0<j) (hj:j<=k) {x y:Nat} (hx:r[j]'(by rw[h.1];omega)=x) (hy:r[j - 1]'(by rw[h.1];omega)=y):b6c (r.set j (min (x+y) M)) k i (j - 1) M:=by
 obtain⟨h1,h2⟩:=h;refine⟨by simpa using h1,fun p hp=>?_⟩;have e1:=h2 j (by omega);have e2:=h2 (j - 1) (by omega);rw[if_neg (by omega),hx]at e1;rw[if_neg (by omega),hy]at e2;rw[List.getElem_set];by_cases hp2:j=p
 ·subst hp2
  rw[if_pos rfl,if_pos (by omega)];have e3:ch (i+1) j=ch i (j - 1)+ch i j:=by
   obtain⟨j',rfl⟩:∃j',j=j'+1:=⟨j - 1,by omega⟩;rfl
  rw[e3];omega
 ·rw[if_neg hp2,h2 p (by simpa using hp)]
  by_cases h3:j<p
  ·rw[if_pos h3,if_pos (by omega)]
  ·rw[if_neg h3,if_neg (by omega)]
theorem b6c.next {r:List Nat} {k i M:Nat} (h:b6c r k i 0 M):b6c r k (i+1) k M:=by
 obtain⟨h1,h2⟩:=h;refine⟨h1,fun p hp=>?_⟩;rw[h2 p hp,if_neg (show¬k<p by omega)];by_cases h3:0<p
 ·rw[if_pos h3]
 ·obtain rfl:p=0:=by omega
  rw[if_neg (by omega),a3l,a3l]
end Go.Proofs.YtidbbddagfnfbaaGreat
namespace Go.Lim
def a9w (s:List Int):Nat->List Int
 |0=>[]
 |n+1=>a9w s n++(if(n:Int)∈s then[]else[(n:Int)])
end Go.Lim
namespace Go.Proofs.YtidbbddagfnfbaaGreat
open Go.RowKit Go.Rep Go.Lim
theorem b6d:SliceT Tryz.prog 46 22 1 24 (.slice none 0 0):=⟨Tryz.underlying46,by kernel_rfl⟩
theorem b1h (w:World):∀k,noY k=true->k<w.heap.size:=fun k hk=>by simp[noY]at hk
end Go.Proofs.YtidbbddagfnfbaaGreat
namespace Go.Lim
def b7V (N H:Nat):List b9M:=(a1g N H 0).map fun s=>(s,a9w s N)
def b7W (n h:Int):Int:=if n<1\/64<n\/h<0\/n<h then 1 else if 4096<ch n.toNat h.toNat then 2 else 0
def b5n (n h:Int):List b9M:=if b7W n h=0 then b7V n.toNat h.toNat else[]
end Go.Lim
namespace Go.Proofs.YtidbbddagfnfbaaGreat
open Go.RowKit Go.Rep Go.Lim
def b3i (X:Nat->Bool) (w:World) (n h:Int) (e:Ending) (w':World):Prop:=Ext w w'/\∃(ao:Option Addr) (c:Nat),e= .returned (.tuple #[.slice ao (b5n n h).length c, .int .i64 (b7W n h)])/\(b5n n h).length<=c/\Sl a5X 2 (mk X w') ao (b5n n h)
theorem b3i.nil {X:Nat->Bool} {w w':World} {n h v:Int} {e:Ending} (hE:Ext w w') (hs:b7W n h=v/\b5n n h= []) (he:e= .returned (.tuple #[.slice none 0 0, .int .i64 v])):b3i X w n h e w':=by
 refine⟨hE,none,0,?_,?_,?_⟩
 ·rw[hs.1,hs.2];exact he
 ·rw[hs.2];exact Nat.le_refl _
 ·rw[hs.2];exact Sl.nil _ _ _ _
def c0O (X:Nat->Bool) (bl bn B:Nat):Nat->Bool:=fun k=>X k||(k==bl)||(k==bn)||a4f B k
def c0r (X:Nat->Bool) (w0:World) (bl bn B N:Nat) (done:List (List Int)) (W:World):Prop:=
 W.heap[bn]? =some (.cells #[.int .i64 (N:Int)] 3 (0,0))/\Ext w0 W/\∃(oo:Option Addr) (co:Nat),W.heap[bl]? =some (.cells #[.slice oo done.length co] 77 (0,0))/\done.length<=co/\
  OL a5X 2 (c0O X bl bn B) w0.heap.size 143 W oo co (done.map fun s=>(s,a9w s N))
theorem c0r.own {X:Nat->Bool} {w0 W W':World} {bl bn B N:Nat} {done:List (List Int)} (h:c0r X w0 bl bn B N done W) (hE:ExtX (a4f B) W W') (h1:bl<B) (h2:bn<B) (h0:w0.heap.size<=B):c0r X w0 bl bn B N done W':=by
 obtain⟨q1,q2,oo,co,q3,q4,q5⟩:=h;have hlt:∀{j:Nat} {v:Obj},W.heap[j]? =some v->j<W.heap.size:=fun h=>(Array.getElem?_eq_some_iff.1 h).1;have hno:∀j,j<B->a4f B j=false:=fun j hj=>by simp[a4f];omega
 refine⟨by rw[hE.block bn (hlt q1) (hno bn h2)];exact q1,q2.then_ hE (fun i hi _=>hno i (by omega)),oo,co,by rw[hE.block bl (hlt q3) (hno bl h1)];exact q3,q4,q5.ext a5X.elem hE (fun k _ hk=>by simp[c0O,hk]) (fun _ _ h=>h)⟩
end Go.Proofs.YtidbbddagfnfbaaGreat
namespace Go.Lin
section
variable {c:Nat} {p B:F2} {x w:Vec}
end
def ps (a:Vec):Vec:=fun i=>if 0<a i then a i else 0
end Go.Lin
namespace Go.Lin
open Go.Lim
def c1f (c:Nat) (s:Mat):Mat:=ofF c c fun j i=>ent s (i+1) j - ent s 0 j
section
variable {c k:Nat} {s:Mat} {x:List Rat} (hc3:c<=3) (hs:Shp (c+1) c s) (hx:x.length=c) (hd:b8m (c1f c s) c≠0)
include hc3 hs hx hd
omit hs in
end
end Go.Lin
namespace Go.Lim
end Go.Lim
namespace Go.Lin
open Go.Lim Go.Rep
noncomputable def inS (p:Mat) (x:List Rat) (I:List Int):Bool:=decide (0<c1c (a2L p I) x)
noncomputable def c1g (p:Mat) (x:List Rat) (L:List (List Int)):Nat:=L.countP (inS p x)
section
variable {p:Mat} {x:List Rat} (hp:c0K p=true) (hx:x.length=a0B p)
include hp hx
end
end Go.Lin
namespace Go.Lin
open Go.Lim Go.Rep
end Go.Lin
namespace Go.Proofs.YtidbbddagfnfbaaGreat
open Go.RowKit Go.Rep Go.Lim Go.Lin
end Go.Proofs.YtidbbddagfnfbaaGreat
namespace Go.Lim
theorem b0u:∀(n k:Nat),ch n k<=n^k
 |n,0=>by rw[a3l];exact Nat.le_refl _
 |0,k+1=>Nat.zero_le _
 |n+1,k+1=>by
  have h1:=b0u n k;have h2:=b0u n (k+1);have h3:n^k<=(n+1)^k:=Nat.pow_le_pow_left (by omega) k;have h4:n*n^k<=n*(n+1)^k:=Nat.mul_le_mul_left _ h3;rw[ch];rw[Nat.pow_succ,Nat.mul_comm]at h2;rw[Nat.pow_succ,Nat.mul_comm,Nat.succ_mul];omega
theorem b9B {n k:Nat} (hn:n<=64) (hk:k<=4):ch n k<=16777216:=
 Nat.le_trans (b0u n k) (Nat.le_trans (Nat.pow_le_pow_left hn k) (Nat.le_trans (Nat.pow_le_pow_right (by decide) hk) (by decide)))
end Go.Lim
namespace Go.Rep
open Go.RowKit Go.Lim Go.Lin
theorem b5o {w w':World} {g b:Nat} {l:List Int} (h:Sl (a0w .i64) 1 w.cell? (some ⟨g,0,none⟩) l) (hE:ExtX (ob (some ⟨b,0,none⟩)) w w') (hne:g≠b):Sl (a0w .i64) 1 w'.cell? (some ⟨g,0,none⟩) l:=
 ⟨h.1,fun i hi=>let ⟨u,h1,h2,h3⟩:=h.2 i hi;⟨u,h1,fun j hj=>hE.cellY (h2 j hj) (a0b hne),h3⟩⟩
theorem b6e {w w':World} {ao:Option Addr} {l:List Int} (h:Sl (a0w .i64) 1 w.cell? ao l) (hE:Ext w w'):Sl (a0w .i64) 1 w'.cell? ao l:=by
 rw[<-a2v]at h |-;exact h.mono (a0w.mono _) (a0p hE)
end Go.Rep
namespace Go.Lin
open Go.Lim Go.Rep
end Go.Lin
namespace Go.Proofs.YtidbbddagfnfbaaGreat
open Go.RowKit Go.Rep Go.Lim Go.Lin
theorem b3j {b B0 k:Nat} (hk:ob (some ⟨b,0,none⟩) k=true) (h:b<B0):a4f B0 k=false:=by
 have:b=k:=by simpa[ob]using hk
 subst this;simp[a4f];omega
structure SInv (w0:World) (bt bp bx bn:Nat) (P1 P2:Value) (p:Mat) (x:List Rat) (done:List (List Int)) (W:World):Prop where
 ext:Ext w0 W
 tot:Bx W bt #[.int .i64 (done.length:Int)] 3
 pts:Bx W bp #[P1] 23
 pt:Bx W bx #[P2] 24
 cnt:Bx W bn #[.int .i64 (c1g p x done:Int)] 3
theorem SInv.own {w0 W W':World} {bt bp bx bn B0:Nat} {P1 P2:Value} {p:Mat} {x:List Rat} {done:List (List Int)} (h:SInv w0 bt bp bx bn P1 P2 p x done W) (hE:ExtX (a4f B0) W W') (h0:w0.heap.size<=B0) (g1:bt<B0) (g2:bp<B0) (g3:bx<B0) (g4:bn<B0):SInv w0 bt bp bx bn P1 P2 p x done W':=by
 have no:∀j,j<B0->a4f B0 j=false:=fun j hj=>by simp[a4f];omega
 exact⟨h.ext.then_ hE fun i hi _=>no i (by omega),h.tot.ext hE (no _ g1),h.pts.ext hE (no _ g2),h.pt.ext hE (no _ g3),h.cnt.ext hE (no _ g4)⟩
end Go.Proofs.YtidbbddagfnfbaaGreat
