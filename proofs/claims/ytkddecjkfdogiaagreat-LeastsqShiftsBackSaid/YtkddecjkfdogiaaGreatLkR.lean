/- made: Data's Table. Conditions: few rows and columns. made: the table's numbers; Vector; reference 03: Less. Conditions: few rows and columns. reference 06: Transpose, Apply, Mul. Conditions: few rows and columns, numbers of few digits. A drawn region: an operation whose guard is not met is passed. Conditions: none. law 13: LeastsqIsOrthogonal returns true. Conditions: none but Go's own. Arguments, opened to lists: []int. Conditions: none. Arguments, opened: six of them; bounds of integers; []int with its numbers' bounds. Conditions: none. Arguments, opened to lists: rational numbers as they came, rows, matrices of them. Conditions: none. -/
import Derived.Test.YtkddecjkfdogiaaGreatLkQ
import Derived.Deep.QuietTactic
import Derived.BigQuiet
import Derived.WalkKit
import Derived.ProofKit
import Derived.OpenShut
import Derived.ShutString
import Derived.ChangeOld
import Derived.Below
import Derived.Deep.Slices
import Derived.Deep.Fields
import Derived.ChangeSame
namespace Go.Lin
open Go.Lim
def b4s (ones:Bool) (r:List Rat):List Rat:=if ones then r.set 0 1 else r
def b2S (ones:Bool) (n k:Nat) (raw:List Int):Mat:=(a7o n (k+1) raw).map (b4s ones)
def a9z (ones:Bool) (n k:Nat) (raw:List Int):Mat:=(b2S ones n k raw).map fun r=>r.take k
def b0X (ones:Bool) (n k:Nat) (raw:List Int):List Rat:=(b2S ones n k raw).map fun r=>r.getD k 0
end Go.Lin
namespace Go.Rep
open Go.RowKit Go.Lim Go.Lin
def hK (k:Nat) (h:Hdr):Hdr:=(h.1,k,k)
def b0O (X:Nat->Bool) (w:World) (x:Mat) (y:List Rat) (e:Ending) (w':World):Prop:=Ext w w'/\∃u v,e= .returned (.tuple #[u,v])/\MC (mk X w') u x/\RC (mk X w') v y
theorem b5C {X Z A:Nat->Bool} {base:Nat} {e1 e2 e3:TypeId} {w:World} {ao xo:Option Addr} {cap xc k:Nat} {hds:List Hdr} {m:Mat} (hM:MO Z base e1 e2 w ao cap hds m) (hx:OL HdR 1 A base e3 w xo xc (hds.map (hK k))) (hZ:∀q,X q=true->Z q=true) (hA:∀q,X q=true->A q=true) (hk:∀r∈m,k<=r.length):
  MC (mk X w) (.slice xo m.length xc) (m.map fun r=>r.take k):=by
 have hl:=hM.len;have hsx:=hx.sl HdR.elem;refine⟨xo,xc,by simp,?_,?_,fun i hi=>?_⟩
 ·have:=hx.lenCap;simp at this |-;omega
 ·have:=hsx.hd;simp at this |-;rw[<-hl];exact this
 ·have him:i<m.length:=by simpa using hi
  have hih:i<hds.length:=by omega
  obtain⟨u,hu1,hu2,hu3⟩:=hsx.2 i (by simp;exact hih);have hkr:=hk m[i] (List.getElem_mem him);have hrow:=((hM.rowX hih him).mono QC.mono (a1m fun q _ hq=>hZ q hq)).take k;refine⟨u,hu1,fun j hj=>a1m (X:=X) (fun q _ hq=>hA q hq) _ _ (hu2 j hj),?_⟩;have hu4:u= .slice hds[i].1 k k:=by simpa[HdR,hK]using hu3
  subst hu4;refine⟨hds[i].1,k,?_,?_,?_⟩
  ·simp;omega
  ·simp;omega
  ·simpa using hrow
def b5D (X:Nat->Bool) (w1 wr:World) (e1 e2:TypeId) (mo:Option Addr) (mc:Nat) (hds:List Hdr) (F M:Mat) (Y:List Rat) (k i:Nat) (xo:Option Addr) (xc:Nat) (yo:Option Addr) (yc:Nat):Prop:=
 MO (un (un X xo) yo) w1.heap.size e1 e2 wr mo mc hds (mix F M i)/\OL HdR 1 (un (mz X mo hds) yo) w1.heap.size e1 wr xo xc ((hds.map (hK k)).take i)/\OL QC 3 (un (mz X mo hds) xo) w1.heap.size e2 wr yo yc (Y.take i)/\Ext w1 wr
theorem a8P {X:Nat->Bool} {xo yo:Option Addr} {k:Nat} (h:un (un X xo) yo k=false):two xo yo k=false:=by
 have h1:=a1v h;have h2:=a1v h1.1;unfold two;simp[h1.2,h2.2]
theorem b5D.next {X:Nat->Bool} {w1 wa v:World} {e1 e2:TypeId} {mo:Option Addr} {mc:Nat} {hds:List Hdr} {F M:Mat} {Y:List Rat} {k i:Nat} {xo yo xo' yo':Option Addr} {xc yc xc' yc':Nat} {a:Option Addr} {kp cr:Nat} {yv:Rat}
  (hM:MO (un (un X xo) yo) w1.heap.size e1 e2 wa mo mc hds (mix F M (i+1))) (hx:OL HdR 1 (un (mz X mo hds) yo) w1.heap.size e1 wa xo xc ((hds.map (hK k)).take i)) (hy:OL QC 3 (un (mz X mo hds) xo) w1.heap.size e2 wa yo yc (Y.take i)) (hE:Ext w1 wa)
  (hih:i<hds.length) (hd:hds[i]=(a,kp,cr)) (hiY:i<Y.length) (hyv:Y[i]=yv)
  (D:ExtX (two xo yo) wa.drew v) (o1:xo'=xo\/∃g,xo'=some ⟨g,0,none⟩/\wa.drew.heap.size<=g) (o2:yo'=yo\/∃g,yo'=some ⟨g,0,none⟩/\wa.drew.heap.size<=g)
  (h1:OL HdR 1 (un (mz X mo hds) yo') w1.heap.size e1 v xo' xc' ((hds.map (hK k)).take i++[(a,k,k)])) (h2:OL QC 3 (un (mz X mo hds) xo') w1.heap.size e2 v yo' yc' (Y.take i++[yv])):
  b5D X w1 v e1 e2 mo mc hds F M Y k (i+1) xo' xc' yo' yc':=by
 have hEd:Ext wa wa.drew:=(ExtX.refl wa).drew;have D':ExtX (two xo yo) wa v:=(ExtX.of hEd).trans D;refine⟨hM.ext D' (fun q _ hq=>?_) (fun q hq h=>b2O (w:=wa.drew) o1 o2 q hq h),?_,?_,hE.then_ D' fun q hq _=>?_⟩
 ·exact b2P q hq
 ·rw[List.take_succ_eq_append_getElem (by simpa using hih)]
  simp only[List.getElem_map,hd,hK];exact h1
 ·rw[List.take_succ_eq_append_getElem hiY,hyv];exact h2
 ·unfold two
  rw[hx.ob_lt hq,hy.ob_lt hq];rfl
theorem a6s (ones:Bool) (n k:Nat) (raw:List Int):(b2S ones n k raw).length=n:=by simp[b2S,(a4R n (k+1) raw).1]
theorem a6t (ones:Bool) (n k:Nat) (raw:List Int):∀r∈b2S ones n k raw,r.length=k+1:=fun r hr=>by
 obtain⟨r',h1,rfl⟩:=List.mem_map.1 hr;have:=(a4R n (k+1) raw).2 r' h1;unfold b4s;split<;>simp[this]
end Go.Rep
namespace Go.Proofs.YtkddecjkfdogiaaGreat
open Go.RowKit Go.Rep Go.Lim Go.Lin
set_option maxRecDepth 100000 in
set_option maxHeartbeats 3200000 in
theorem b0P (X:Nat->Bool) (w:World) (N K:Int) (ones:Bool) (ro:Option Addr) (raw:List Int) (rcap r c n k:Nat) (hX:HX X w) (hs:Sl (a1P .i64) 1 (mk X w) ro raw) (hraw:∀x∈raw,-9223372036854775808<=x/\x<=9223372036854775807) (hr1:1<=r) (hr:r<=800) (hc1:1<=c) (hc:c<=800) (hn:1+wrap64 (N - 1)%(r:Int)=(n:Int)) (hk:1+wrap64 (K - 1)%(c:Int)=(k:Int)):
  Calls Tryz.prog 38 #[.agg #[.int .i64 N, .int .i64 K, .bool ones, .slice ro raw.length rcap], .int .i64 (r:Int), .int .i64 (c:Int)] w (b0O X w (a9z ones n k raw) (b0X ones n k raw)):=by
 have b1:=Int.emod_nonneg (wrap64 (N - 1)) (show(r:Int)≠0 by omega);have b2:=Int.emod_lt_of_pos (wrap64 (N - 1)) (show(0:Int)<r by omega);have b3:=Int.emod_nonneg (wrap64 (K - 1)) (show(c:Int)≠0 by omega);have b4:=Int.emod_lt_of_pos (wrap64 (K - 1)) (show(0:Int)<c by omega);obtain⟨NA,hNA⟩:∃NA,wrap64 (N - 1)=NA:=⟨_,rfl⟩;obtain⟨KA,hKA⟩:∃KA,wrap64 (K - 1)=KA:=⟨_,rfl⟩;rw[hNA]at hn b1 b2;rw[hKA]at hk b3 b4;have hn1:1<=n/\n<=800:=by omega
 have hk1:1<=k/\k<=800:=by omega
 have hm1:=hid fun w'=>a6i w' NA r (by omega) (by omega);have hm2:=hid fun w'=>a6i w' KA c (by omega) (by omega);have hw1:IntKind.i64.wrap (1+NA%(r:Int))=(n:Int):=by rw[IntWalk.i64_left,hn];exact IntWalk.wrap64_in _ (by omega)
 have hw2:IntKind.i64.wrap (1+KA%(c:Int))=(k:Int):=by rw[IntWalk.i64_left,hk];exact IntWalk.wrap64_in _ (by omega)
 rw[<-IntWalk.i64_left]at hNA hKA;clear b1 b2 b3 b4 hn hk;obtain⟨W,hW,hE,b0,hz⟩:=a1L w #[.int .i64 N, .int .i64 K, .bool ones, .slice ro raw.length rcap] 69;obtain⟨b,hb⟩:∃b,w.heap.size=b:=⟨_,rfl⟩;have hbw:w.heap.size<=b:=by omega
 rw[hb]at b0 hz;have k0:=b0.cell 0 rfl;have k1:=b0.cell 1 rfl;obtain⟨T,hT⟩:∃T,b0O X w (a9z ones n k raw) (b0X ones n k raw)=T:=⟨_,rfl⟩;rw[hT];have hT':=hid hT;clear hT;go_enter Tryz.func38,Tryz.ntmps38
 go_wp2_with fail
 have hEd:Ext W W.drew:=(ExtX.refl W).drew;have b0':=b0.ext0 hEd;have hSS:W.drew.cell? ⟨b,0,none⟩=some (.int .i64 N)/\W.drew.cell? ⟨b,1,none⟩=some (.int .i64 K):=⟨b0'.cell 0 rfl,b0'.cell 1 rfl⟩
 (try simp only[Act.put])
 go_cut [8,9]from 14 to 25 (fun v8 v9 wx=>v8= .int .i64 (n:Int)/\v9= .int .i64 (k:Int)/\wx=W.drew)
 case first=>
  refine a0L 13 (fun w'=>w'.cell? ⟨b,0,none⟩=some (.int .i64 N)/\w'.cell? ⟨b,1,none⟩=some (.int .i64 K)) (by kernel_rfl) (by kernel_rfl) hSS (fun hHeld hOnce=>?_);refine a0a hOnce (i:=0) (oi:=⟨_,_,_,_,_,_⟩) (v:=?_) rfl (by kernel_rfl) (fun _ _ _ h=>h) (by assumption) (by rfl) (fun w hSw=>?_) ?_
  rotate_left
  ·(try dsimp only at hSw)
   go_simp
   all_goals with_reducible rfl
  (try simp only[Act.put,List.setIfInBounds_toArray,List.set_cons_zero,List.set_cons_succ])
  refine a0a hOnce (i:=1) (oi:=⟨_,_,_,_,_,_⟩) (v:=?_) rfl (by kernel_rfl) (fun _ _ _ h=>h) (by assumption) (by rfl) (fun w hSw=>?_) ?_
  rotate_left
  ·(try dsimp only at hSw)
   go_simp
   all_goals with_reducible rfl
  (try simp only[Act.put,List.setIfInBounds_toArray,List.set_cons_zero,List.set_cons_succ])
  refine a0a hOnce (i:=2) (oi:=⟨_,_,_,_,_,_⟩) (v:=?_) rfl (by kernel_rfl) (fun _ _ _ h=>h) (by assumption) (by rfl) (fun w hSw=>?_) ?_
  rotate_left
  ·(try dsimp only at hSw)
   go_simp
   all_goals with_reducible rfl
  (try simp only[Act.put,List.setIfInBounds_toArray,List.set_cons_zero,List.set_cons_succ])
  refine a0a hOnce (i:=3) (oi:=⟨_,_,_,_,_,_⟩) (v:=?_) rfl (by kernel_rfl) (fun _ _ _ h=>h) (by assumption) (by rfl) (fun w hSw=>?_) ?_
  rotate_left
  ·(try dsimp only at hSw)
   go_simp
   all_goals with_reducible rfl
  (try simp only[Act.put,List.setIfInBounds_toArray,List.set_cons_zero,List.set_cons_succ])
  refine a0a hOnce (i:=6) (oi:=⟨_,_,_,_,_,_⟩) (v:=?_) rfl (by kernel_rfl) (fun _ _ _ h=>h) (by assumption) (by rfl) (fun w hSw=>?_) ?_
  rotate_left
  ·(try dsimp only at hSw)
   go_simp
   all_goals with_reducible rfl
  (try simp only[Act.put,List.setIfInBounds_toArray,List.set_cons_zero,List.set_cons_succ])
  refine a0a hOnce (i:=7) (oi:=⟨_,_,_,_,_,_⟩) (v:=?_) rfl (by kernel_rfl) (fun _ _ _ h=>h) (by assumption) (by rfl) (fun w hSw=>?_) ?_
  rotate_left
  ·(try dsimp only at hSw)
   go_simp
   all_goals with_reducible rfl
  (try simp only[Act.put,List.setIfInBounds_toArray,List.set_cons_zero,List.set_cons_succ])
  refine a0a hOnce (i:=8) (oi:=⟨_,_,_,_,_,_⟩) (v:=?_) rfl (by kernel_rfl) (fun _ _ _ h=>h) (by assumption) (by rfl) (fun w hSw=>?_) ?_
  rotate_left
  ·(try dsimp only at hSw)
   go_simp
   all_goals with_reducible rfl
  (try simp only[Act.put,List.setIfInBounds_toArray,List.set_cons_zero,List.set_cons_succ])
  refine a0a hOnce (i:=9) (oi:=⟨_,_,_,_,_,_⟩) (v:=?_) rfl (by kernel_rfl) (fun _ _ _ h=>h) (by assumption) (by rfl) (fun w hSw=>?_) ?_
  rotate_left
  ·(try dsimp only at hSw)
   go_simp
   all_goals with_reducible rfl
  (try simp only[Act.put,List.setIfInBounds_toArray,List.set_cons_zero,List.set_cons_succ])
  refine a0d (i:=4) (o:=⟨_,_,_,_,_,_⟩) (by kernel_rfl) rfl (fun K hK=>?_);go_simp
  (go_at_call 108;(with_reducible refine(hm1.out _).mono ?_);rintro ee w5 ⟨rfl,rfl⟩)
  refine hK.out _ _ hSS (fun hHeld=>?_);clear hK K
  (try simp only[Act.put,List.setIfInBounds_toArray,List.set_cons_zero,List.set_cons_succ])
  refine a0a hOnce (i:=5) (oi:=⟨_,_,_,_,_,_⟩) (v:=?_) rfl (by kernel_rfl) (fun _ _ _ h=>h) (by assumption) (by rfl) (fun w hSw=>?_) ?_
  rotate_left
  ·(try dsimp only at hSw)
   go_simp
   all_goals with_reducible rfl
  (try simp only[Act.put,List.setIfInBounds_toArray,List.set_cons_zero,List.set_cons_succ])
  refine a0d (i:=10) (o:=⟨_,_,_,_,_,_⟩) (by kernel_rfl) rfl (fun K hK=>?_);go_simp
  (go_at_call 108;(with_reducible refine(hm2.out _).mono ?_);rintro ee w5 ⟨rfl,rfl⟩)
  refine hK.out _ _ hSS (fun hHeld=>?_);clear hK K
  (try simp only[Act.put,List.setIfInBounds_toArray,List.set_cons_zero,List.set_cons_succ])
  refine a0a hOnce (i:=11) (oi:=⟨_,_,_,_,_,_⟩) (v:=?_) rfl (by kernel_rfl) (fun _ _ _ h=>h) (by assumption) (by rfl) (fun w hSw=>?_) ?_
  rotate_left
  ·(try dsimp only at hSw)
   go_simp
   all_goals with_reducible rfl
  (try simp only[Act.put,List.setIfInBounds_toArray,List.set_cons_zero,List.set_cons_succ])
  refine a0a hOnce (i:=12) (oi:=⟨_,_,_,_,_,_⟩) (v:=?_) rfl (by kernel_rfl) (fun _ _ _ h=>h) (by assumption) (by rfl) (fun w hSw=>?_) ?_
  rotate_left
  ·(try dsimp only at hSw)
   go_simp
   all_goals with_reducible rfl
  (try simp only[Act.put,List.setIfInBounds_toArray,List.set_cons_zero,List.set_cons_succ])
  refine a0j (i:=13) (o:=⟨_,_,_,_,_,_⟩) (by kernel_rfl) rfl (by decide) (by kernel_rfl) (fun K hK=>?_);go_simp
  refine hK.out _ _ ?_;clear hK K;go_wp2_with fail
  go_meet
  case rel=>exact⟨rfl,rfl,rfl⟩
 case rest=>
  obtain⟨rfl,rfl,rfl⟩:=hcut;obtain⟨F,hF⟩:∃F,b2S ones n k raw=F:=⟨_,rfl⟩;obtain⟨M,hMd⟩:∃M,a7o n (k+1) raw=M:=⟨_,rfl⟩;obtain⟨Y,hY⟩:∃Y,F.map (fun r=>r.getD k 0)=Y:=⟨_,rfl⟩;have hFl:F.length=n:=by rw[<-hF];exact a6s _ _ _ _
  have hMl:M.length=n:=by rw[<-hMd];exact(a4R _ _ _).1
  have hMr:∀r∈M,r.length=k+1:=by rw[<-hMd];exact(a4R _ _ _).2
  have hFr:∀r∈F,r.length=k+1:=by rw[<-hF];exact a6t _ _ _ _
  have hFM:Hid (∀i (h1:i<F.length) (h2:i<M.length),F[i]=b4s ones M[i]):=hid fun i h1 h2=>by subst hF hMd;simp[b2S]
  have hYl:Y.length=n:=by rw[<-hY,List.length_map,hFl]
  have hYi:Hid (∀i (h1:i<Y.length) (h2:i<F.length),Y[i]=F[i].getD k 0):=hid fun i h1 h2=>by subst hY;simp
  have hXd:HX X W.drew:=hX.ext (hE.trans hEd);have hcm:=a7Q X W.drew n (k+1) ro raw rcap hXd (hs.mono (a1P.mono _) (a0o (hE.trans hEd))) (by omega) (by omega) hraw;rw[hMd]at hcm;have k3:=b0'.cell 3 rfl;obtain⟨kp,hkp⟩:∃kp,k+1=kp:=⟨_,rfl⟩;have hkI:((k:Int)+1)=(kp:Int):=by omega
  rw[hkp]at hcm hMr hFr;go_wp2_with fail
  refine hcm.mono ?_;rintro ee w1 ⟨hE1,mo,mc,hds,rfl,hM0⟩;rw[hMl];have hhl:hds.length=n:=by rw[hM0.len,hMl]
  have hmc:n<=mc:=by have:=hM0.capLen;rw[hMl]at this;exact this
  have hhO:Hd mo n:=by have:=hM0.outer.hd;rw[hhl]at this;exact this
  have hrl:Hid (∀i (hi:i<hds.length),hds[i].2.1=kp):=hid fun i hi=>by rw[hM0.rlen i hi (by omega)];exact hMr _ (List.getElem_mem _)
  have hFM':F.length=M.length:=by omega
  clear k3 hcm;go_wp2_with fail
  go_loopw [11,12,13] (fun xv yv kv wr=>∃(i:Nat) (xo:Option Addr) (xc:Nat) (yo:Option Addr) (yc:Nat),kv= .int .i64 i/\xv= .slice xo i xc/\yv= .slice yo i yc/\i<=n/\b5D X W.drew wr 45 32 mo mc hds F M Y k i xo xc yo yc) (fun _ _ kv _=>n - (intOf kv).toNat)
  case atStart=>
   refine⟨0,none,0,none,0,rfl,rfl,rfl,Nat.zero_le _,?_,OL.nil _ _ _ _ _ _,OL.nil _ _ _ _ _ _,hE1⟩;rw[a2B,a6n,a6n];exact hM0
  case round=>
   obtain⟨i,xo,xc,yo,yc,rfl,rfl,rfl,hi,hMa,hxa,hya,hEa⟩:=hrel;by_cases hlt:i<n
   ·have hih:i<hds.length:=by omega
    have hiM:i<M.length:=by omega
    have hiF:i<F.length:=by omega
    obtain⟨a,na,cr,hhd⟩:∃a na cr,hds[i]=(a,na,cr):=⟨_,_,_,rfl⟩;have hna:na=kp:=by have:=hrl.out i hih;rw[hhd]at this;exact this
    subst hna;have hhd':=hid hhd;obtain⟨f,hf⟩:∃f,F[i]=f:=⟨_,rfl⟩;obtain⟨r,hr0⟩:∃r,M[i]=r:=⟨_,rfl⟩;have hFi:=hid hf;have hfl':Hid (f.length=na):=hid (by rw[<-hf];exact hFr _ (List.getElem_mem _));have hrl':Hid (r.length=na):=hid (by rw[<-hr0];exact hMr _ (List.getElem_mem _));have hfr:f=b4s ones r:=by rw[<-hf,hFM.out i hiF hiM,hr0]
    have hset1:Hid ((mix F M i).set i f=mix F M (i+1)):=hid (by rw[<-hf];exact a3r hFM' hiF);have hset2:Hid ((mix F M i).set i r=mix F M i):=hid (by rw[<-hr0];exact b2L hFM' hiM);have hmr:Hid (∀h,(mix F M i)[i]'h=r):=hid fun h=>by rw[a0N hFM',if_neg (by omega),hr0]
    have k2:=(b0'.ext0 hEa).cell 2 rfl;clear hf hr0 hhd;cases ones
    ·have hfr':f=r:=hfr
     have hMa:MO (un (un X xo) yo) W.drew.heap.size 45 32 wr mo mc hds (mix F M (i+1)):=by rw[<-hset1.out,hfr',hset2.out];exact hMa
     clear hfr hfr' hset1 hset2 hmr;have hXw:HX (mz X mo hds) wr:=fun q hq=>by
      rcases a0y.1 hq with h|h
      ·exact(hX.ext (hE.trans (hEd.trans hEa))) q h
      ·exact(hMa.mb_block (a1t.2 h)).2
     have hOr:=hMa.row i hih (by rw[a1p hFM'];omega);rw[a0N hFM',if_pos (by omega)]at hOr;simp only[hhd'.out]at hOr;rw[hFi.out]at hOr;have hda:Hd a na:=by have:=hOr.hd;rw[hfl'.out]at this;exact this
     have hcr:k<=cr:=by have:=hOr.lenCap;rw[hfl'.out]at this;omega
     obtain⟨g,o,hg⟩:∃g o,adr a (k*3)=⟨g,o,none⟩:=⟨_,_,rfl⟩;have hEw:Ext wr wr.drew:=(ExtX.refl _).drew;have hOd:=hOr.ext0 QC.elem hEw;obtain⟨u,c0,c1,c2,hcl,⟨g0,_⟩,⟨g1,_⟩,⟨g2,_⟩,hu⟩:=hOd.cell3 k (by rw[hfl'.out];omega) hg;obtain⟨s1,a1,n1,c9,d1,k9,e1,rfl⟩:=hu.shape;have hcl2:c0= .bool s1/\c1= .slice a1 n1 c9/\c2= .slice d1 k9 e1:=by simpa[a0g,Value.cells,eq_comm]using hcl
     obtain⟨rfl,rfl,rfl⟩:=hcl2;have hhdr:=hEw.cell (hMa.hdr i hih).1;rw[hhd'.out]at hhdr
     dsimp only at hhdr
     have hmo:ob mo (adr mo i).block=true:=by obtain⟨b9,o9,rfl⟩:=hMa.outer.hd (by omega);simp[ob,adr]
     have hga:ob a g=true:=by obtain⟨b9,o9,rfl⟩:=hda (by omega);simp[adr]at hg;simp[ob,hg.1]
     have hy1:=a8P (hMa.out_sep hmo).1;have hy2:=a8P (hMa.sep i hih g (by rw[hhd'.out];exact hga)).1;have hS:Hid (∀w',ExtX (two xo yo) wr.drew w'->w'.cell? (adr mo i)=some (.slice a na cr)/\w'.cell? ⟨g,o,none⟩=some (.bool s1)/\w'.cell? ⟨g,o+1,none⟩=some (.slice a1 n1 c9)/\w'.cell? ⟨g,o+2,none⟩=some (.slice d1 k9 e1)):=hid fun w' h=>⟨h.cellY hhdr hy1,h.cellY g0 hy2,h.cellY g1 hy2,h.cellY g2 hy2⟩;obtain⟨yv,hyv⟩:∃yv,Y[i]'(by omega)=yv:=⟨_,rfl⟩;have hyv2:f[k]'(by rw[hfl'.out];omega)=yv:=by
      rw[<-hyv,hYi.out i (by omega) (by omega),hFi.out,List.getD_eq_getElem?_getD,List.getElem?_eq_getElem (by rw[hfl'.out];omega)];rfl
     rw[hyv2]at hu;have hq0:QC (mk (un (un (mz X mo hds) xo) yo) wr.drew) (.agg #[.bool s1, .slice a1 n1 c9, .slice d1 k9 e1]) yv:=QC.mono _ _ _ _ (a1m fun q _ hq=>by
      rw[a2I (fun q h=>by have:=hMa.mz_sub hih q;rw[hhd'.out]at this;exact this h)];rcases a5r hq with h|h
      ·rcases a5r h with h|h
       ·rcases a0y.1 h with h|h
        ·exact a0y.2 (.inl (a0p (a0p h)))
        ·exact a0y.2 (.inr h)
       ·exact a0y.2 (.inl (a0p (a0q h)))
      ·exact a0y.2 (.inl (a0q h))) hu
     have hend:=hid fun v xo' xc' yo' yc' (D:ExtX (two xo yo) wr.drew v) o1 o2 h1 h2=>b5D.next (k:=k) (xo':=xo') (yo':=yo') (xc':=xc') (yc':=yc') hMa hxa hya hEa hih hhd'.out (by omega) hyv D o1 o2 h1 h2;have hbs:W.drew.heap.size<=wr.drew.heap.size:=hEa.size;have i1:∀w',(Instr.indexAt 25 (.slice mo n mc) (.int .i64 (i:Int))).run Tryz.prog w'= .ok (.pointer (some (adr mo i))) w':=a0z a0r mo n mc .i64 i hhO (by omega) rfl;have i2:∀w',(Instr.indexAt 45 (.slice a na cr) (.int .i64 (k:Int))).run Tryz.prog w'= .ok (.pointer (some ⟨g,o,none⟩)) w':=by rw[<-hg];exact a0n a0E a na cr .i64 k hda (by omega)
     have i3:∀w',(Instr.sliceAt 45 (.slice a na cr) none (some (.int .i64 (k:Int))) (some (.int .i64 (k:Int)))).run Tryz.prog w'= .ok (.slice a k k) w':=a2v a0E na cr k .i64 .i64 hcr;have hx:=hxa.ext0 HdR.elem hEw;have hy:=hya.ext0 QC.elem hEw;have hxA:HX (mz X mo hds) wr.drew:=hXw.ext hEw;obtain⟨LX,hLX⟩:∃LX,(hds.map (hK k)).take i=LX:=⟨_,rfl⟩;obtain⟨LY,hLY⟩:∃LY,Y.take i=LY:=⟨_,rfl⟩;have hlx:Hid (LX.length=i):=hid (by rw[<-hLX];simp;omega);have hly:Hid (LY.length=i):=hid (by rw[<-hLY];simp;omega);rw[hLX]at hx hend;rw[hLY]at hy hend;clear hLX hLY hOr hOd hhdr hMa hxa hya hu hyv hyv2 g0 g1 g2 hga hmo hEw hXw;go_wp2_with fail
     refine a0L 21 (fun w'=>w'.cell? (adr mo i)=some (.slice a na cr)/\w'.cell? ⟨g,o,none⟩=some (.bool s1)/\w'.cell? ⟨g,o+1,none⟩=some (.slice a1 n1 c9)/\w'.cell? ⟨g,o+2,none⟩=some (.slice d1 k9 e1)) (by kernel_rfl) (by kernel_rfl) (hS.out _ (ExtX.refl _)) (fun hHeld hOnce=>?_);have D0:ExtX (two xo yo) wr.drew wr.drew:=ExtX.refl _;have hXA:=hxA
     skip
     obtain⟨wd,hwd⟩:∃wd,wr.drew=wd:=⟨_,rfl⟩;rw[hwd]at hx hy hq0 hS hend hXA hbs D0 |-
     (try rw[hwd]at hHeld)
     clear hwd;refine a0a hOnce (i:=0) (oi:=⟨_,_,_,_,_,_⟩) (v:=?_) rfl (by kernel_rfl) (fun _ _ _ h=>h) (by assumption) (by rfl) (fun w hSw=>?_) ?_
     rotate_left
     ·(try dsimp only at hSw)
      go_simp
      all_goals with_reducible rfl
     (try simp only[Act.put,List.setIfInBounds_toArray,List.set_cons_zero,List.set_cons_succ])
     refine a0a hOnce (i:=1) (oi:=⟨_,_,_,_,_,_⟩) (v:=?_) rfl (by kernel_rfl) (fun _ _ _ h=>h) (by assumption) (by rfl) (fun w hSw=>?_) ?_
     rotate_left
     ·(try dsimp only at hSw)
      go_simp
      all_goals with_reducible rfl
     (try simp only[Act.put,List.setIfInBounds_toArray,List.set_cons_zero,List.set_cons_succ])
     refine a0a hOnce (i:=2) (oi:=⟨_,_,_,_,_,_⟩) (v:=?_) rfl (by kernel_rfl) (fun _ _ _ h=>h) (by assumption) (by rfl) (fun w hSw=>?_) ?_
     rotate_left
     ·(try dsimp only at hSw)
      go_simp
      all_goals with_reducible rfl
     (try simp only[Act.put,List.setIfInBounds_toArray,List.set_cons_zero,List.set_cons_succ])
     refine a0a hOnce (i:=3) (oi:=⟨_,_,_,_,_,_⟩) (v:=?_) rfl (by kernel_rfl) (fun _ _ _ h=>h) (by assumption) (by rfl) (fun w hSw=>?_) ?_
     rotate_left
     ·(try dsimp only at hSw)
      go_simp
      all_goals with_reducible rfl
     (try simp only[Act.put,List.setIfInBounds_toArray,List.set_cons_zero,List.set_cons_succ])
     refine a0a hOnce (i:=4) (oi:=⟨_,_,_,_,_,_⟩) (v:=?_) rfl (by kernel_rfl) (fun _ _ _ h=>h) (by assumption) (by rfl) (fun w hSw=>?_) ?_
     rotate_left
     ·(try dsimp only at hSw)
      go_simp
      all_goals with_reducible rfl
     (try simp only[Act.put,List.setIfInBounds_toArray,List.set_cons_zero,List.set_cons_succ])
     refine a0a hOnce (i:=5) (oi:=⟨_,_,_,_,_,_⟩) (v:=?_) rfl (by kernel_rfl) (fun _ _ _ h=>h) (by assumption) (by rfl) (fun w hSw=>?_) ?_
     rotate_left
     ·(try dsimp only at hSw)
      go_simp
      all_goals with_reducible rfl
     (try simp only[Act.put,List.setIfInBounds_toArray,List.set_cons_zero,List.set_cons_succ])
     refine a0a hOnce (i:=6) (oi:=⟨_,_,_,_,_,_⟩) (v:=?_) rfl (by kernel_rfl) (fun _ _ _ h=>h) (by assumption) (by rfl) (fun w hSw=>?_) ?_
     rotate_left
     ·(try dsimp only at hSw)
      go_simp
      all_goals with_reducible rfl
     (try simp only[Act.put,List.setIfInBounds_toArray,List.set_cons_zero,List.set_cons_succ])
     refine a0a hOnce (i:=7) (oi:=⟨_,_,_,_,_,_⟩) (v:=?_) rfl (by kernel_rfl) (fun _ _ _ h=>h) (by assumption) (by rfl) (fun w hSw=>?_) ?_
     rotate_left
     ·(try dsimp only at hSw)
      go_simp
      all_goals with_reducible rfl
     (try simp only[Act.put,List.setIfInBounds_toArray,List.set_cons_zero,List.set_cons_succ])
     refine a0a hOnce (i:=10) (oi:=⟨_,_,_,_,_,_⟩) (v:=?_) rfl (by kernel_rfl) (fun _ _ _ h=>h) (by assumption) (by rfl) (fun w hSw=>?_) ?_
     rotate_left
     ·(try dsimp only at hSw)
      go_simp
      all_goals with_reducible rfl
     (try simp only[Act.put,List.setIfInBounds_toArray,List.set_cons_zero,List.set_cons_succ])
     refine a0a hOnce (i:=11) (oi:=⟨_,_,_,_,_,_⟩) (v:=?_) rfl (by kernel_rfl) (fun _ _ _ h=>h) (by assumption) (by rfl) (fun w hSw=>?_) ?_
     rotate_left
     ·(try dsimp only at hSw)
      go_simp
      all_goals with_reducible rfl
     (try simp only[Act.put,List.setIfInBounds_toArray,List.set_cons_zero,List.set_cons_succ])
     refine a0a hOnce (i:=12) (oi:=⟨_,_,_,_,_,_⟩) (v:=?_) rfl (by kernel_rfl) (fun _ _ _ h=>h) (by assumption) (by rfl) (fun w hSw=>?_) ?_
     rotate_left
     ·(try dsimp only at hSw)
      go_simp
      all_goals with_reducible rfl
     (try simp only[Act.put,List.setIfInBounds_toArray,List.set_cons_zero,List.set_cons_succ])
     refine a0a hOnce (i:=13) (oi:=⟨_,_,_,_,_,_⟩) (v:=?_) rfl (by kernel_rfl) (fun _ _ _ h=>h) (by assumption) (by rfl) (fun w hSw=>?_) ?_
     rotate_left
     ·(try dsimp only at hSw)
      go_simp
      all_goals with_reducible rfl
     (try simp only[Act.put,List.setIfInBounds_toArray,List.set_cons_zero,List.set_cons_succ])
     refine a0a hOnce (i:=14) (oi:=⟨_,_,_,_,_,_⟩) (v:=?_) rfl (by kernel_rfl) (fun _ _ _ h=>h) (by assumption) (by rfl) (fun w hSw=>?_) ?_
     rotate_left
     ·(try dsimp only at hSw)
      go_simp
      all_goals with_reducible rfl
     (try simp only[Act.put,List.setIfInBounds_toArray,List.set_cons_zero,List.set_cons_succ])
     refine a0a hOnce (i:=15) (oi:=⟨_,_,_,_,_,_⟩) (v:=?_) rfl (by kernel_rfl) (fun _ _ _ h=>h) (by assumption) (by rfl) (fun w hSw=>?_) ?_
     rotate_left
     ·(try dsimp only at hSw)
      go_simp
      all_goals with_reducible rfl
     (try simp only[Act.put,List.setIfInBounds_toArray,List.set_cons_zero,List.set_cons_succ])
     refine a0a hOnce (i:=16) (oi:=⟨_,_,_,_,_,_⟩) (v:=?_) rfl (by kernel_rfl) (fun _ _ _ h=>h) (by assumption) (by rfl) (fun w hSw=>?_) ?_
     rotate_left
     ·(try dsimp only at hSw)
      go_simp
      all_goals with_reducible rfl
     (try simp only[Act.put,List.setIfInBounds_toArray,List.set_cons_zero,List.set_cons_succ])
     refine a0a hOnce (i:=17) (oi:=⟨_,_,_,_,_,_⟩) (v:=?_) rfl (by kernel_rfl) (fun _ _ _ h=>h) (by assumption) (by rfl) (fun w hSw=>?_) ?_
     rotate_left
     ·(try dsimp only at hSw)
      go_simp
      all_goals with_reducible rfl
     (try simp only[Act.put,List.setIfInBounds_toArray,List.set_cons_zero,List.set_cons_succ])
     refine a0F (i:=8) (j:=18) (oi:=⟨_,_,_,_,_,_⟩) (oj:=⟨_,_,_,_,_,_⟩) (by kernel_rfl) rfl rfl (fun K hK=>?_) (fun K hK=>?_)
     ·skip
      go_simp
      skip
      refine hK.out _ _ (hS.out _ (D0.trans (ExtX.of ((ExtX.refl _).alloc _)))) (fun hHeld=>?_);clear hK K
      (try simp only[Act.put,List.setIfInBounds_toArray,List.set_cons_zero,List.set_cons_succ])
      have xe1:Ext wd (wd.alloc (.cells #[.slice a k k] 45)):=(ExtX.refl _).alloc _;have l1:Bx (wd.alloc (.cells #[.slice a k k] 45)) wd.heap.size #[.slice a k k] 45:=Bx.new wd _ _;have ge1:=Nat.le_refl wd.heap.size;obtain⟨v1,hv1⟩:∃v1,wd.alloc (.cells #[.slice a k k] 45)=v1:=⟨_,rfl⟩;rw[hv1]at xe1 l1 |-;obtain⟨g1,hg1⟩:∃g1,wd.heap.size=g1:=⟨_,rfl⟩;have gv1:wd.heap.size<=g1:=by rw[<-hg1];exact ge1
      have gg1:wd.heap.size<=g1:=by rw[<-hg1];exact D0.size
      rw[hg1]at l1 |-;clear hg1 hv1 ge1;have D1:=D0.trans (ExtX.of xe1);have h0_1:=hx.ext0 HdR.elem xe1;have h1_1:=hy.ext0 QC.elem xe1;refine a0F (i:=9) (j:=18) (oi:=⟨_,_,_,_,_,_⟩) (oj:=⟨_,_,_,_,_,_⟩) (by kernel_rfl) rfl rfl (fun K hK=>?_) (fun K hK=>?_)
      ·skip
       (refine a0D (l:=LX) rfl rfl a0r rfl HdR.elem (Nat.le_trans hbs D1.size) (a2a (a2k hXA D1.size) (fun k hk=>(h1_1.block hk).2)) i hlx.out rfl rfl l1 h0_1 (.slice a k k) (a,k,k) rfl rfl (by omega) (by omega) ?_;intro o2 c2 v2 h0_2 E2 r2)
       refine hK.out _ _ (hS.out _ (D1.trans (a1D (b:=yo) E2))) (fun hHeld=>?_);clear hK K
       (try simp only[Act.put,List.setIfInBounds_toArray,List.set_cons_zero,List.set_cons_succ])
       have D2:=D1.trans (a1D (b:=yo) E2);have r20:=r2;have r2:=a4L r2 D1.size;have h1_2:=OL.after (A:=(mz X mo hds)) QC.elem h1_1 E2 r20;refine a0d (i:=18) (o:=⟨_,_,_,_,_,_⟩) (by kernel_rfl) rfl (fun K hK=>?_);go_simp
       skip
       refine hK.out _ _ (hS.out _ (D2.trans (ExtX.of ((ExtX.refl _).alloc _)))) (fun hHeld=>?_);clear hK K
       (try simp only[Act.put,List.setIfInBounds_toArray,List.set_cons_zero,List.set_cons_succ])
       have xe3:Ext v2 (v2.alloc (.cells #[.bool s1, .slice a1 n1 c9, .slice d1 k9 e1] 32)):=(ExtX.refl _).alloc _;have l3:Bx (v2.alloc (.cells #[.bool s1, .slice a1 n1 c9, .slice d1 k9 e1] 32)) v2.heap.size #[.bool s1, .slice a1 n1 c9, .slice d1 k9 e1] 32:=Bx.new v2 _ _;have ge3:=Nat.le_refl v2.heap.size;obtain⟨v3,hv3⟩:∃v3,v2.alloc (.cells #[.bool s1, .slice a1 n1 c9, .slice d1 k9 e1] 32)=v3:=⟨_,rfl⟩;rw[hv3]at xe3 l3 |-;obtain⟨g3,hg3⟩:∃g3,v2.heap.size=g3:=⟨_,rfl⟩;have gv3:v2.heap.size<=g3:=by rw[<-hg3];exact ge3
       have gg3:wd.heap.size<=g3:=by rw[<-hg3];exact D2.size
       rw[hg3]at l3 |-;clear hg3 hv3 ge3;have D3:=D2.trans (ExtX.of xe3);have h0_3:=h0_2.ext0 HdR.elem xe3;have h1_3:=h1_2.ext0 QC.elem xe3;refine a0d (i:=19) (o:=⟨_,_,_,_,_,_⟩) (by kernel_rfl) rfl (fun K hK=>?_)
       (refine a0D (l:=LY) rfl rfl a0E rfl QC.elem (Nat.le_trans hbs D3.size) (a2a (a2k hXA D3.size) (fun k hk=>(h0_3.block hk).2)) i hly.out rfl rfl l3 h1_3 (.agg #[.bool s1, .slice a1 n1 c9, .slice d1 k9 e1]) yv rfl (QC.mono _ _ _ _ (a5I D3 r2) hq0) (by omega) (by omega) ?_;intro o4 c4 v4 h1_4 E4 r4)
       refine hK.out _ _ (hS.out _ (D3.trans (a1o (a:=xo) E4))) (fun hHeld=>?_);clear hK K
       (try simp only[Act.put,List.setIfInBounds_toArray,List.set_cons_zero,List.set_cons_succ])
       have D4:=D3.trans (a1o (a:=xo) E4);have r40:=r4;have r4:=a4L r4 D3.size;have h0_4:=OL.after (A:=(mz X mo hds)) HdR.elem h0_3 E4 r40;refine a0a hOnce (i:=20) (oi:=⟨_,_,_,_,_,_⟩) (v:=?_) rfl (by kernel_rfl) (fun _ _ _ h=>h) (by assumption) (by rfl) (fun w hSw=>?_) ?_
       rotate_left
       ·(try dsimp only at hSw)
        go_simp
        all_goals with_reducible rfl
       (try simp only[Act.put,List.setIfInBounds_toArray,List.set_cons_zero,List.set_cons_succ])
       refine a0j (i:=21) (o:=⟨_,_,_,_,_,_⟩) (by kernel_rfl) rfl (by decide) (by kernel_rfl) (fun K hK=>?_);go_simp
       refine hK.out _ _ ?_;clear hK K;have fin:=hend.out _ _ _ _ _ D4 r2 r4 h0_4 h1_4;clear hS i1 i2 i3 hHeld hOnce;go_wp2_with fail
       go_roundw
       case rel=>exact⟨i+1,_,_,_,_,by go_num,by go_num,by go_num,by omega,fin⟩
       case measure=>simp[intOf];omega
      ·skip
       go_simp
       skip
       refine hK.out _ _ (hS.out _ (D1.trans (ExtX.of ((ExtX.refl _).alloc _)))) (fun hHeld=>?_);clear hK K
       (try simp only[Act.put,List.setIfInBounds_toArray,List.set_cons_zero,List.set_cons_succ])
       have xe5:Ext v1 (v1.alloc (.cells #[.bool s1, .slice a1 n1 c9, .slice d1 k9 e1] 32)):=(ExtX.refl _).alloc _;have l5:Bx (v1.alloc (.cells #[.bool s1, .slice a1 n1 c9, .slice d1 k9 e1] 32)) v1.heap.size #[.bool s1, .slice a1 n1 c9, .slice d1 k9 e1] 32:=Bx.new v1 _ _;have ge5:=Nat.le_refl v1.heap.size;obtain⟨v5,hv5⟩:∃v5,v1.alloc (.cells #[.bool s1, .slice a1 n1 c9, .slice d1 k9 e1] 32)=v5:=⟨_,rfl⟩;rw[hv5]at xe5 l5 |-;obtain⟨g5,hg5⟩:∃g5,v1.heap.size=g5:=⟨_,rfl⟩;have gv5:v1.heap.size<=g5:=by rw[<-hg5];exact ge5
       have gg5:wd.heap.size<=g5:=by rw[<-hg5];exact D1.size
       rw[hg5]at l5 |-;clear hg5 hv5 ge5;have D5:=D1.trans (ExtX.of xe5);have h0_5:=h0_1.ext0 HdR.elem xe5;have h1_5:=h1_1.ext0 QC.elem xe5;have lit5:=l1.ext0 xe5;refine a0d (i:=9) (o:=⟨_,_,_,_,_,_⟩) (by kernel_rfl) rfl (fun K hK=>?_)
       (refine a0D (l:=LX) rfl rfl a0r rfl HdR.elem (Nat.le_trans hbs D5.size) (a2a (a2k hXA D5.size) (fun k hk=>(h1_5.block hk).2)) i hlx.out rfl rfl lit5 h0_5 (.slice a k k) (a,k,k) rfl rfl (by omega) (by omega) ?_;intro o6 c6 v6 h0_6 E6 r6)
       refine hK.out _ _ (hS.out _ (D5.trans (a1D (b:=yo) E6))) (fun hHeld=>?_);clear hK K
       (try simp only[Act.put,List.setIfInBounds_toArray,List.set_cons_zero,List.set_cons_succ])
       have D6:=D5.trans (a1D (b:=yo) E6);have r60:=r6;have r6:=a4L r6 D5.size;have lit6:=l5.ext E6 (OL.ob_ge hx gg5);have h1_6:=OL.after (A:=(mz X mo hds)) QC.elem h1_5 E6 r60;refine a0d (i:=19) (o:=⟨_,_,_,_,_,_⟩) (by kernel_rfl) rfl (fun K hK=>?_)
       (refine a0D (l:=LY) rfl rfl a0E rfl QC.elem (Nat.le_trans hbs D6.size) (a2a (a2k hXA D6.size) (fun k hk=>(h0_6.block hk).2)) i hly.out rfl rfl lit6 h1_6 (.agg #[.bool s1, .slice a1 n1 c9, .slice d1 k9 e1]) yv rfl (QC.mono _ _ _ _ (a5I D6 r6) hq0) (by omega) (by omega) ?_;intro o7 c7 v7 h1_7 E7 r7)
       refine hK.out _ _ (hS.out _ (D6.trans (a1o (a:=xo) E7))) (fun hHeld=>?_);clear hK K
       (try simp only[Act.put,List.setIfInBounds_toArray,List.set_cons_zero,List.set_cons_succ])
       have D7:=D6.trans (a1o (a:=xo) E7);have r70:=r7;have r7:=a4L r7 D6.size;have h0_7:=OL.after (A:=(mz X mo hds)) HdR.elem h0_6 E7 r70;refine a0a hOnce (i:=20) (oi:=⟨_,_,_,_,_,_⟩) (v:=?_) rfl (by kernel_rfl) (fun _ _ _ h=>h) (by assumption) (by rfl) (fun w hSw=>?_) ?_
       rotate_left
       ·(try dsimp only at hSw)
        go_simp
        all_goals with_reducible rfl
       (try simp only[Act.put,List.setIfInBounds_toArray,List.set_cons_zero,List.set_cons_succ])
       refine a0j (i:=21) (o:=⟨_,_,_,_,_,_⟩) (by kernel_rfl) rfl (by decide) (by kernel_rfl) (fun K hK=>?_);go_simp
       refine hK.out _ _ ?_;clear hK K;have fin:=hend.out _ _ _ _ _ D7 r6 r7 h0_7 h1_7;clear hS i1 i2 i3 hHeld hOnce;go_wp2_with fail
       go_roundw
       case rel=>exact⟨i+1,_,_,_,_,by go_num,by go_num,by go_num,by omega,fin⟩
       case measure=>simp[intOf];omega
     ·skip
      go_simp
      skip
      refine hK.out _ _ (hS.out _ (D0.trans (ExtX.of ((ExtX.refl _).alloc _)))) (fun hHeld=>?_);clear hK K
      (try simp only[Act.put,List.setIfInBounds_toArray,List.set_cons_zero,List.set_cons_succ])
      have xe8:Ext wd (wd.alloc (.cells #[.bool s1, .slice a1 n1 c9, .slice d1 k9 e1] 32)):=(ExtX.refl _).alloc _;have l8:Bx (wd.alloc (.cells #[.bool s1, .slice a1 n1 c9, .slice d1 k9 e1] 32)) wd.heap.size #[.bool s1, .slice a1 n1 c9, .slice d1 k9 e1] 32:=Bx.new wd _ _;have ge8:=Nat.le_refl wd.heap.size;obtain⟨v8,hv8⟩:∃v8,wd.alloc (.cells #[.bool s1, .slice a1 n1 c9, .slice d1 k9 e1] 32)=v8:=⟨_,rfl⟩;rw[hv8]at xe8 l8 |-;obtain⟨g8,hg8⟩:∃g8,wd.heap.size=g8:=⟨_,rfl⟩;have gv8:wd.heap.size<=g8:=by rw[<-hg8];exact ge8
      have gg8:wd.heap.size<=g8:=by rw[<-hg8];exact D0.size
      rw[hg8]at l8 |-;clear hg8 hv8 ge8;have D8:=D0.trans (ExtX.of xe8);have h0_8:=hx.ext0 HdR.elem xe8;have h1_8:=hy.ext0 QC.elem xe8;refine a0d (i:=8) (o:=⟨_,_,_,_,_,_⟩) (by kernel_rfl) rfl (fun K hK=>?_);go_simp
      skip
      refine hK.out _ _ (hS.out _ (D8.trans (ExtX.of ((ExtX.refl _).alloc _)))) (fun hHeld=>?_);clear hK K
      (try simp only[Act.put,List.setIfInBounds_toArray,List.set_cons_zero,List.set_cons_succ])
      have xe9:Ext v8 (v8.alloc (.cells #[.slice a k k] 45)):=(ExtX.refl _).alloc _;have l9:Bx (v8.alloc (.cells #[.slice a k k] 45)) v8.heap.size #[.slice a k k] 45:=Bx.new v8 _ _;have ge9:=Nat.le_refl v8.heap.size;obtain⟨v9,hv9⟩:∃v9,v8.alloc (.cells #[.slice a k k] 45)=v9:=⟨_,rfl⟩;rw[hv9]at xe9 l9 |-;obtain⟨g9,hg9⟩:∃g9,v8.heap.size=g9:=⟨_,rfl⟩;have gv9:v8.heap.size<=g9:=by rw[<-hg9];exact ge9
      have gg9:wd.heap.size<=g9:=by rw[<-hg9];exact D8.size
      rw[hg9]at l9 |-;clear hg9 hv9 ge9;have D9:=D8.trans (ExtX.of xe9);have h0_9:=h0_8.ext0 HdR.elem xe9;have h1_9:=h1_8.ext0 QC.elem xe9;have lit9:=l8.ext0 xe9;refine a0d (i:=9) (o:=⟨_,_,_,_,_,_⟩) (by kernel_rfl) rfl (fun K hK=>?_)
      (refine a0D (l:=LX) rfl rfl a0r rfl HdR.elem (Nat.le_trans hbs D9.size) (a2a (a2k hXA D9.size) (fun k hk=>(h1_9.block hk).2)) i hlx.out rfl rfl l9 h0_9 (.slice a k k) (a,k,k) rfl rfl (by omega) (by omega) ?_;intro o10 c10 v10 h0_10 E10 r10)
      refine hK.out _ _ (hS.out _ (D9.trans (a1D (b:=yo) E10))) (fun hHeld=>?_);clear hK K
      (try simp only[Act.put,List.setIfInBounds_toArray,List.set_cons_zero,List.set_cons_succ])
      have D10:=D9.trans (a1D (b:=yo) E10);have r100:=r10;have r10:=a4L r10 D9.size;have lit10:=lit9.ext E10 (OL.ob_ge hx gg8);have h1_10:=OL.after (A:=(mz X mo hds)) QC.elem h1_9 E10 r100;refine a0d (i:=19) (o:=⟨_,_,_,_,_,_⟩) (by kernel_rfl) rfl (fun K hK=>?_)
      (refine a0D (l:=LY) rfl rfl a0E rfl QC.elem (Nat.le_trans hbs D10.size) (a2a (a2k hXA D10.size) (fun k hk=>(h0_10.block hk).2)) i hly.out rfl rfl lit10 h1_10 (.agg #[.bool s1, .slice a1 n1 c9, .slice d1 k9 e1]) yv rfl (QC.mono _ _ _ _ (a5I D10 r10) hq0) (by omega) (by omega) ?_;intro o11 c11 v11 h1_11 E11 r11)
      refine hK.out _ _ (hS.out _ (D10.trans (a1o (a:=xo) E11))) (fun hHeld=>?_);clear hK K
      (try simp only[Act.put,List.setIfInBounds_toArray,List.set_cons_zero,List.set_cons_succ])
      have D11:=D10.trans (a1o (a:=xo) E11);have r110:=r11;have r11:=a4L r11 D10.size;have h0_11:=OL.after (A:=(mz X mo hds)) HdR.elem h0_10 E11 r110;refine a0a hOnce (i:=20) (oi:=⟨_,_,_,_,_,_⟩) (v:=?_) rfl (by kernel_rfl) (fun _ _ _ h=>h) (by assumption) (by rfl) (fun w hSw=>?_) ?_
      rotate_left
      ·(try dsimp only at hSw)
       go_simp
       all_goals with_reducible rfl
      (try simp only[Act.put,List.setIfInBounds_toArray,List.set_cons_zero,List.set_cons_succ])
      refine a0j (i:=21) (o:=⟨_,_,_,_,_,_⟩) (by kernel_rfl) rfl (by decide) (by kernel_rfl) (fun K hK=>?_);go_simp
      refine hK.out _ _ ?_;clear hK K;have fin:=hend.out _ _ _ _ _ D11 r10 r11 h0_11 h1_11;clear hS i1 i2 i3 hHeld hOnce;go_wp2_with fail
      go_roundw
      case rel=>exact⟨i+1,_,_,_,_,by go_num,by go_num,by go_num,by omega,fin⟩
      case measure=>simp[intOf];omega
    ·have hfr':f=r.set 0 1:=hfr
     obtain⟨Zm,hZm⟩:∃Zm,mz (un (un X xo) yo) mo hds=Zm:=⟨_,rfl⟩;have hXx:HX (un (un X xo) yo) wr:=a2a (a2a (hX.ext (hE.trans (hEd.trans hEa))) fun q hq=>(hxa.block hq).2) fun q hq=>(hya.block hq).2;have hXz:HX Zm wr.drew:=by rw[<-hZm];exact(hMa.hz hXx).ext (ExtX.refl (Y:=noY) wr).drew
     have hOr:=hMa.row i hih (by rw[a1p hFM'];omega);rw[hmr.out]at hOr;simp only[hhd'.out]at hOr;have hda:Hd a na:=by have:=hOr.hd;rw[hrl'.out]at this;exact this
     have hun:Hid (un (cut Zm a) a=Zm):=hid (a2I fun q h=>by rw[<-hZm];have:=hMa.mz_sub hih q;rw[hhd'.out]at this;exact this h);rw[hZm]at hOr;obtain⟨gz,oz,hg⟩:∃g o,adr a (0*3)=⟨g,o,none⟩:=⟨_,_,rfl⟩;have hEw:Ext wr wr.drew:=(ExtX.refl _).drew;have hhdr:=hEw.cell (hMa.hdr i hih).1;rw[hhd'.out]at hhdr
     dsimp only at hhdr
     have i1:∀w',(Instr.indexAt 25 (.slice mo n mc) (.int .i64 (i:Int))).run Tryz.prog w'= .ok (.pointer (some (adr mo i))) w':=a0z a0r mo n mc .i64 i hhO (by omega) rfl;have i2:∀w',(Instr.indexAt 45 (.slice a na cr) (.int .i64 0)).run Tryz.prog w'= .ok (.pointer (some ⟨gz,oz,none⟩)) w':=by rw[<-hg];exact a0n a0E a na cr .i64 0 hda (by omega)
     clear hfr hmr hset2;go_wp2_with fail
     refine a0L 6 (fun w'=>w'.cell? (adr mo i)=some (.slice a na cr)) (by kernel_rfl) (by kernel_rfl) hhdr (fun hHeld hOnce=>?_);refine a0a hOnce (i:=0) (oi:=⟨_,_,_,_,_,_⟩) (v:=?_) rfl (by kernel_rfl) (fun _ _ _ h=>h) (by assumption) (by rfl) (fun w hSw=>?_) ?_
     rotate_left
     ·(try dsimp only at hSw)
      go_simp
      all_goals with_reducible rfl
     (try simp only[Act.put,List.setIfInBounds_toArray,List.set_cons_zero,List.set_cons_succ])
     refine a0a hOnce (i:=1) (oi:=⟨_,_,_,_,_,_⟩) (v:=?_) rfl (by kernel_rfl) (fun _ _ _ h=>h) (by assumption) (by rfl) (fun w hSw=>?_) ?_
     rotate_left
     ·(try dsimp only at hSw)
      go_simp
      all_goals with_reducible rfl
     (try simp only[Act.put,List.setIfInBounds_toArray,List.set_cons_zero,List.set_cons_succ])
     refine a0a hOnce (i:=2) (oi:=⟨_,_,_,_,_,_⟩) (v:=?_) rfl (by kernel_rfl) (fun _ _ _ h=>h) (by assumption) (by rfl) (fun w hSw=>?_) ?_
     rotate_left
     ·(try dsimp only at hSw)
      go_simp
      all_goals with_reducible rfl
     (try simp only[Act.put,List.setIfInBounds_toArray,List.set_cons_zero,List.set_cons_succ])
     refine a0a hOnce (i:=3) (oi:=⟨_,_,_,_,_,_⟩) (v:=?_) rfl (by kernel_rfl) (fun _ _ _ h=>h) (by assumption) (by rfl) (fun w hSw=>?_) ?_
     rotate_left
     ·(try dsimp only at hSw)
      go_simp
      all_goals with_reducible rfl
     (try simp only[Act.put,List.setIfInBounds_toArray,List.set_cons_zero,List.set_cons_succ])
     refine a0d (i:=4) (o:=⟨_,_,_,_,_,_⟩) (by kernel_rfl) rfl (fun K hK=>?_);go_simp
     (go_at_call 48;(with_reducible refine(a5i Zm wr.drew 1 hXz (by decide) (by decide)).mono ?_);rintro ee w6 ⟨t1,u6,rfl,hu6⟩)
     refine hK.out _ _ (t1.cell hhdr) (fun hHeld=>?_);clear hK K
     (try simp only[Act.put,List.setIfInBounds_toArray,List.set_cons_zero,List.set_cons_succ])
     obtain⟨s6,a6,n6,c6,d6,k6,e6,rfl⟩:=hu6.shape;have hO6:=hOr.ext0 QC.elem (hEw.trans t1);obtain⟨_,v0,v1,v2,_,⟨g0,f0⟩,⟨g1,f1⟩,⟨g2,f2⟩,_⟩:=hO6.cell3 0 (by rw[hrl'.out];omega) hg;have hset:=hO6.set3 a6c QC.elem 0 (by rw[hrl'.out];omega) hg (v0:= .bool s6) (v1:= .slice a6 n6 c6) (v2:= .slice d6 k6 e6) (x:=1) (by rw[hun.out];exact hu6);refine a0a hOnce (i:=5) (oi:=⟨_,_,_,_,_,_⟩) (v:=?_) rfl (by kernel_rfl) (fun _ _ _ h=>h) (by assumption) (by rfl) (fun w hSw=>?_) ?_
     rotate_left
     ·(try dsimp only at hSw)
      go_simp
      all_goals with_reducible rfl
     (try simp only[Act.put,List.setIfInBounds_toArray,List.set_cons_zero,List.set_cons_succ])
     refine a0j (i:=6) (o:=⟨_,_,_,_,_,_⟩) (by kernel_rfl) rfl (by decide) (by kernel_rfl) (fun K hK=>?_);go_simp
     refine hK.out _ _ ?_;clear hK K;obtain⟨q1,q2⟩:=hset;rw[<-hfr']at q1;obtain⟨w7,hw7⟩:∃w7,((w6.setCell ⟨gz,oz,none⟩ (.bool s6)).setCell ⟨gz,oz+1,none⟩ (.slice a6 n6 c6)).setCell ⟨gz,oz+2,none⟩ (.slice d6 k6 e6)=w7:=⟨_,rfl⟩;rw[hw7]at q1 q2 |-;have q2':ExtX (ob hds[i].1) w6 w7:=by rw[hhd'.out];exact q2
     have hM6:=hMa.ext0 (hEw.trans t1);have hM7:=hM6.upd hih (l:=f) q2' (fun hi'=>by rw[a0N hFM',if_neg (by omega),hfl'.out];exact(hMr _ (List.getElem_mem _)).symm) (by rw[hZm,hhd'.out];exact q1);rw[hset1.out]at hM7;have hE7:=hM6.ext_from (hEa.trans (hEw.trans t1)) (Nat.le_refl _) (ExtX.row hih q2');have hx7:=(hxa.ext0 HdR.elem (hEw.trans t1)).ext HdR.elem q2' (fun q _ hq=>a0p (a0y.2 (.inr (.inr (a0T hih hq))))) (fun _ _ h=>h);have hy7:=(hya.ext0 QC.elem (hEw.trans t1)).ext QC.elem q2' (fun q _ hq=>a0p (a0y.2 (.inr (.inr (a0T hih hq))))) (fun _ _ h=>h);clear hMa hxa hya hEa hOr hO6 hM6 q1 q2 q2' g0 g1 g2 f0 f1 f2 hw7 i1 i2 hhdr hHeld hOnce hg hset1 hfr' hEw hXz hXx hun k2 t1 hu6 hZm hda;have hMa:=hM7;have hxa:=hx7;have hya:=hy7;have hEa:=hE7;clear hM7 hx7 hy7 hE7;have hXw:HX (mz X mo hds) w7:=fun q hq=>by
      rcases a0y.1 hq with h|h
      ·exact(hX.ext (hE.trans (hEd.trans hEa))) q h
      ·exact(hMa.mb_block (a1t.2 h)).2
     have hOr:=hMa.row i hih (by rw[a1p hFM'];omega);rw[a0N hFM',if_pos (by omega)]at hOr;simp only[hhd'.out]at hOr;rw[hFi.out]at hOr;have hda:Hd a na:=by have:=hOr.hd;rw[hfl'.out]at this;exact this
     have hcr:k<=cr:=by have:=hOr.lenCap;rw[hfl'.out]at this;omega
     obtain⟨g,o,hg⟩:∃g o,adr a (k*3)=⟨g,o,none⟩:=⟨_,_,rfl⟩;have hEw:Ext w7 w7.drew:=(ExtX.refl _).drew;have hOd:=hOr.ext0 QC.elem hEw;obtain⟨u,c0,c1,c2,hcl,⟨g0,_⟩,⟨g1,_⟩,⟨g2,_⟩,hu⟩:=hOd.cell3 k (by rw[hfl'.out];omega) hg;obtain⟨s1,a1,n1,c9,d1,k9,e1,rfl⟩:=hu.shape;have hcl2:c0= .bool s1/\c1= .slice a1 n1 c9/\c2= .slice d1 k9 e1:=by simpa[a0g,Value.cells,eq_comm]using hcl
     obtain⟨rfl,rfl,rfl⟩:=hcl2;have hhdr:=hEw.cell (hMa.hdr i hih).1;rw[hhd'.out]at hhdr
     dsimp only at hhdr
     have hmo:ob mo (adr mo i).block=true:=by obtain⟨b9,o9,rfl⟩:=hMa.outer.hd (by omega);simp[ob,adr]
     have hga:ob a g=true:=by obtain⟨b9,o9,rfl⟩:=hda (by omega);simp[adr]at hg;simp[ob,hg.1]
     have hy1:=a8P (hMa.out_sep hmo).1;have hy2:=a8P (hMa.sep i hih g (by rw[hhd'.out];exact hga)).1;have hS:Hid (∀w',ExtX (two xo yo) w7.drew w'->w'.cell? (adr mo i)=some (.slice a na cr)/\w'.cell? ⟨g,o,none⟩=some (.bool s1)/\w'.cell? ⟨g,o+1,none⟩=some (.slice a1 n1 c9)/\w'.cell? ⟨g,o+2,none⟩=some (.slice d1 k9 e1)):=hid fun w' h=>⟨h.cellY hhdr hy1,h.cellY g0 hy2,h.cellY g1 hy2,h.cellY g2 hy2⟩;obtain⟨yv,hyv⟩:∃yv,Y[i]'(by omega)=yv:=⟨_,rfl⟩;have hyv2:f[k]'(by rw[hfl'.out];omega)=yv:=by
      rw[<-hyv,hYi.out i (by omega) (by omega),hFi.out,List.getD_eq_getElem?_getD,List.getElem?_eq_getElem (by rw[hfl'.out];omega)];rfl
     rw[hyv2]at hu;have hq0:QC (mk (un (un (mz X mo hds) xo) yo) w7.drew) (.agg #[.bool s1, .slice a1 n1 c9, .slice d1 k9 e1]) yv:=QC.mono _ _ _ _ (a1m fun q _ hq=>by
      rw[a2I (fun q h=>by have:=hMa.mz_sub hih q;rw[hhd'.out]at this;exact this h)];rcases a5r hq with h|h
      ·rcases a5r h with h|h
       ·rcases a0y.1 h with h|h
        ·exact a0y.2 (.inl (a0p (a0p h)))
        ·exact a0y.2 (.inr h)
       ·exact a0y.2 (.inl (a0p (a0q h)))
      ·exact a0y.2 (.inl (a0q h))) hu
     have hend:=hid fun v xo' xc' yo' yc' (D:ExtX (two xo yo) w7.drew v) o1 o2 h1 h2=>b5D.next (k:=k) (xo':=xo') (yo':=yo') (xc':=xc') (yc':=yc') hMa hxa hya hEa hih hhd'.out (by omega) hyv D o1 o2 h1 h2;have hbs:W.drew.heap.size<=w7.drew.heap.size:=hEa.size;have i1:∀w',(Instr.indexAt 25 (.slice mo n mc) (.int .i64 (i:Int))).run Tryz.prog w'= .ok (.pointer (some (adr mo i))) w':=a0z a0r mo n mc .i64 i hhO (by omega) rfl;have i2:∀w',(Instr.indexAt 45 (.slice a na cr) (.int .i64 (k:Int))).run Tryz.prog w'= .ok (.pointer (some ⟨g,o,none⟩)) w':=by rw[<-hg];exact a0n a0E a na cr .i64 k hda (by omega)
     have i3:∀w',(Instr.sliceAt 45 (.slice a na cr) none (some (.int .i64 (k:Int))) (some (.int .i64 (k:Int)))).run Tryz.prog w'= .ok (.slice a k k) w':=a2v a0E na cr k .i64 .i64 hcr;have hx:=hxa.ext0 HdR.elem hEw;have hy:=hya.ext0 QC.elem hEw;have hxA:HX (mz X mo hds) w7.drew:=hXw.ext hEw;obtain⟨LX,hLX⟩:∃LX,(hds.map (hK k)).take i=LX:=⟨_,rfl⟩;obtain⟨LY,hLY⟩:∃LY,Y.take i=LY:=⟨_,rfl⟩;have hlx:Hid (LX.length=i):=hid (by rw[<-hLX];simp;omega);have hly:Hid (LY.length=i):=hid (by rw[<-hLY];simp;omega);rw[hLX]at hx hend;rw[hLY]at hy hend;clear hLX hLY hOr hOd hhdr hMa hxa hya hu hyv hyv2 g0 g1 g2 hga hmo hEw hXw;go_wp2_with fail
     refine a0L 21 (fun w'=>w'.cell? (adr mo i)=some (.slice a na cr)/\w'.cell? ⟨g,o,none⟩=some (.bool s1)/\w'.cell? ⟨g,o+1,none⟩=some (.slice a1 n1 c9)/\w'.cell? ⟨g,o+2,none⟩=some (.slice d1 k9 e1)) (by kernel_rfl) (by kernel_rfl) (hS.out _ (ExtX.refl _)) (fun hHeld hOnce=>?_);have D0:ExtX (two xo yo) w7.drew w7.drew:=ExtX.refl _;have hXA:=hxA
     skip
     obtain⟨wd,hwd⟩:∃wd,w7.drew=wd:=⟨_,rfl⟩;rw[hwd]at hx hy hq0 hS hend hXA hbs D0 |-
     (try rw[hwd]at hHeld)
     clear hwd;refine a0a hOnce (i:=0) (oi:=⟨_,_,_,_,_,_⟩) (v:=?_) rfl (by kernel_rfl) (fun _ _ _ h=>h) (by assumption) (by rfl) (fun w hSw=>?_) ?_
     rotate_left
     ·(try dsimp only at hSw)
      go_simp
      all_goals with_reducible rfl
     (try simp only[Act.put,List.setIfInBounds_toArray,List.set_cons_zero,List.set_cons_succ])
     refine a0a hOnce (i:=1) (oi:=⟨_,_,_,_,_,_⟩) (v:=?_) rfl (by kernel_rfl) (fun _ _ _ h=>h) (by assumption) (by rfl) (fun w hSw=>?_) ?_
     rotate_left
     ·(try dsimp only at hSw)
      go_simp
      all_goals with_reducible rfl
     (try simp only[Act.put,List.setIfInBounds_toArray,List.set_cons_zero,List.set_cons_succ])
     refine a0a hOnce (i:=2) (oi:=⟨_,_,_,_,_,_⟩) (v:=?_) rfl (by kernel_rfl) (fun _ _ _ h=>h) (by assumption) (by rfl) (fun w hSw=>?_) ?_
     rotate_left
     ·(try dsimp only at hSw)
      go_simp
      all_goals with_reducible rfl
     (try simp only[Act.put,List.setIfInBounds_toArray,List.set_cons_zero,List.set_cons_succ])
     refine a0a hOnce (i:=3) (oi:=⟨_,_,_,_,_,_⟩) (v:=?_) rfl (by kernel_rfl) (fun _ _ _ h=>h) (by assumption) (by rfl) (fun w hSw=>?_) ?_
     rotate_left
     ·(try dsimp only at hSw)
      go_simp
      all_goals with_reducible rfl
     (try simp only[Act.put,List.setIfInBounds_toArray,List.set_cons_zero,List.set_cons_succ])
     refine a0a hOnce (i:=4) (oi:=⟨_,_,_,_,_,_⟩) (v:=?_) rfl (by kernel_rfl) (fun _ _ _ h=>h) (by assumption) (by rfl) (fun w hSw=>?_) ?_
     rotate_left
     ·(try dsimp only at hSw)
      go_simp
      all_goals with_reducible rfl
     (try simp only[Act.put,List.setIfInBounds_toArray,List.set_cons_zero,List.set_cons_succ])
     refine a0a hOnce (i:=5) (oi:=⟨_,_,_,_,_,_⟩) (v:=?_) rfl (by kernel_rfl) (fun _ _ _ h=>h) (by assumption) (by rfl) (fun w hSw=>?_) ?_
     rotate_left
     ·(try dsimp only at hSw)
      go_simp
      all_goals with_reducible rfl
     (try simp only[Act.put,List.setIfInBounds_toArray,List.set_cons_zero,List.set_cons_succ])
     refine a0a hOnce (i:=6) (oi:=⟨_,_,_,_,_,_⟩) (v:=?_) rfl (by kernel_rfl) (fun _ _ _ h=>h) (by assumption) (by rfl) (fun w hSw=>?_) ?_
     rotate_left
     ·(try dsimp only at hSw)
      go_simp
      all_goals with_reducible rfl
     (try simp only[Act.put,List.setIfInBounds_toArray,List.set_cons_zero,List.set_cons_succ])
     refine a0a hOnce (i:=7) (oi:=⟨_,_,_,_,_,_⟩) (v:=?_) rfl (by kernel_rfl) (fun _ _ _ h=>h) (by assumption) (by rfl) (fun w hSw=>?_) ?_
     rotate_left
     ·(try dsimp only at hSw)
      go_simp
      all_goals with_reducible rfl
     (try simp only[Act.put,List.setIfInBounds_toArray,List.set_cons_zero,List.set_cons_succ])
     refine a0a hOnce (i:=10) (oi:=⟨_,_,_,_,_,_⟩) (v:=?_) rfl (by kernel_rfl) (fun _ _ _ h=>h) (by assumption) (by rfl) (fun w hSw=>?_) ?_
     rotate_left
     ·(try dsimp only at hSw)
      go_simp
      all_goals with_reducible rfl
     (try simp only[Act.put,List.setIfInBounds_toArray,List.set_cons_zero,List.set_cons_succ])
     refine a0a hOnce (i:=11) (oi:=⟨_,_,_,_,_,_⟩) (v:=?_) rfl (by kernel_rfl) (fun _ _ _ h=>h) (by assumption) (by rfl) (fun w hSw=>?_) ?_
     rotate_left
     ·(try dsimp only at hSw)
      go_simp
      all_goals with_reducible rfl
     (try simp only[Act.put,List.setIfInBounds_toArray,List.set_cons_zero,List.set_cons_succ])
     refine a0a hOnce (i:=12) (oi:=⟨_,_,_,_,_,_⟩) (v:=?_) rfl (by kernel_rfl) (fun _ _ _ h=>h) (by assumption) (by rfl) (fun w hSw=>?_) ?_
     rotate_left
     ·(try dsimp only at hSw)
      go_simp
      all_goals with_reducible rfl
     (try simp only[Act.put,List.setIfInBounds_toArray,List.set_cons_zero,List.set_cons_succ])
     refine a0a hOnce (i:=13) (oi:=⟨_,_,_,_,_,_⟩) (v:=?_) rfl (by kernel_rfl) (fun _ _ _ h=>h) (by assumption) (by rfl) (fun w hSw=>?_) ?_
     rotate_left
     ·(try dsimp only at hSw)
      go_simp
      all_goals with_reducible rfl
     (try simp only[Act.put,List.setIfInBounds_toArray,List.set_cons_zero,List.set_cons_succ])
     refine a0a hOnce (i:=14) (oi:=⟨_,_,_,_,_,_⟩) (v:=?_) rfl (by kernel_rfl) (fun _ _ _ h=>h) (by assumption) (by rfl) (fun w hSw=>?_) ?_
     rotate_left
     ·(try dsimp only at hSw)
      go_simp
      all_goals with_reducible rfl
     (try simp only[Act.put,List.setIfInBounds_toArray,List.set_cons_zero,List.set_cons_succ])
     refine a0a hOnce (i:=15) (oi:=⟨_,_,_,_,_,_⟩) (v:=?_) rfl (by kernel_rfl) (fun _ _ _ h=>h) (by assumption) (by rfl) (fun w hSw=>?_) ?_
     rotate_left
     ·(try dsimp only at hSw)
      go_simp
      all_goals with_reducible rfl
     (try simp only[Act.put,List.setIfInBounds_toArray,List.set_cons_zero,List.set_cons_succ])
     refine a0a hOnce (i:=16) (oi:=⟨_,_,_,_,_,_⟩) (v:=?_) rfl (by kernel_rfl) (fun _ _ _ h=>h) (by assumption) (by rfl) (fun w hSw=>?_) ?_
     rotate_left
     ·(try dsimp only at hSw)
      go_simp
      all_goals with_reducible rfl
     (try simp only[Act.put,List.setIfInBounds_toArray,List.set_cons_zero,List.set_cons_succ])
     refine a0a hOnce (i:=17) (oi:=⟨_,_,_,_,_,_⟩) (v:=?_) rfl (by kernel_rfl) (fun _ _ _ h=>h) (by assumption) (by rfl) (fun w hSw=>?_) ?_
     rotate_left
     ·(try dsimp only at hSw)
      go_simp
      all_goals with_reducible rfl
     (try simp only[Act.put,List.setIfInBounds_toArray,List.set_cons_zero,List.set_cons_succ])
     refine a0F (i:=8) (j:=18) (oi:=⟨_,_,_,_,_,_⟩) (oj:=⟨_,_,_,_,_,_⟩) (by kernel_rfl) rfl rfl (fun K hK=>?_) (fun K hK=>?_)
     ·skip
      go_simp
      skip
      refine hK.out _ _ (hS.out _ (D0.trans (ExtX.of ((ExtX.refl _).alloc _)))) (fun hHeld=>?_);clear hK K
      (try simp only[Act.put,List.setIfInBounds_toArray,List.set_cons_zero,List.set_cons_succ])
      have xe1:Ext wd (wd.alloc (.cells #[.slice a k k] 45)):=(ExtX.refl _).alloc _;have l1:Bx (wd.alloc (.cells #[.slice a k k] 45)) wd.heap.size #[.slice a k k] 45:=Bx.new wd _ _;have ge1:=Nat.le_refl wd.heap.size;obtain⟨v1,hv1⟩:∃v1,wd.alloc (.cells #[.slice a k k] 45)=v1:=⟨_,rfl⟩;rw[hv1]at xe1 l1 |-;obtain⟨g1,hg1⟩:∃g1,wd.heap.size=g1:=⟨_,rfl⟩;have gv1:wd.heap.size<=g1:=by rw[<-hg1];exact ge1
      have gg1:wd.heap.size<=g1:=by rw[<-hg1];exact D0.size
      rw[hg1]at l1 |-;clear hg1 hv1 ge1;have D1:=D0.trans (ExtX.of xe1);have h0_1:=hx.ext0 HdR.elem xe1;have h1_1:=hy.ext0 QC.elem xe1;refine a0F (i:=9) (j:=18) (oi:=⟨_,_,_,_,_,_⟩) (oj:=⟨_,_,_,_,_,_⟩) (by kernel_rfl) rfl rfl (fun K hK=>?_) (fun K hK=>?_)
      ·skip
       (refine a0D (l:=LX) rfl rfl a0r rfl HdR.elem (Nat.le_trans hbs D1.size) (a2a (a2k hXA D1.size) (fun k hk=>(h1_1.block hk).2)) i hlx.out rfl rfl l1 h0_1 (.slice a k k) (a,k,k) rfl rfl (by omega) (by omega) ?_;intro o2 c2 v2 h0_2 E2 r2)
       refine hK.out _ _ (hS.out _ (D1.trans (a1D (b:=yo) E2))) (fun hHeld=>?_);clear hK K
       (try simp only[Act.put,List.setIfInBounds_toArray,List.set_cons_zero,List.set_cons_succ])
       have D2:=D1.trans (a1D (b:=yo) E2);have r20:=r2;have r2:=a4L r2 D1.size;have h1_2:=OL.after (A:=(mz X mo hds)) QC.elem h1_1 E2 r20;refine a0d (i:=18) (o:=⟨_,_,_,_,_,_⟩) (by kernel_rfl) rfl (fun K hK=>?_);go_simp
       skip
       refine hK.out _ _ (hS.out _ (D2.trans (ExtX.of ((ExtX.refl _).alloc _)))) (fun hHeld=>?_);clear hK K
       (try simp only[Act.put,List.setIfInBounds_toArray,List.set_cons_zero,List.set_cons_succ])
       have xe3:Ext v2 (v2.alloc (.cells #[.bool s1, .slice a1 n1 c9, .slice d1 k9 e1] 32)):=(ExtX.refl _).alloc _;have l3:Bx (v2.alloc (.cells #[.bool s1, .slice a1 n1 c9, .slice d1 k9 e1] 32)) v2.heap.size #[.bool s1, .slice a1 n1 c9, .slice d1 k9 e1] 32:=Bx.new v2 _ _;have ge3:=Nat.le_refl v2.heap.size;obtain⟨v3,hv3⟩:∃v3,v2.alloc (.cells #[.bool s1, .slice a1 n1 c9, .slice d1 k9 e1] 32)=v3:=⟨_,rfl⟩;rw[hv3]at xe3 l3 |-;obtain⟨g3,hg3⟩:∃g3,v2.heap.size=g3:=⟨_,rfl⟩;have gv3:v2.heap.size<=g3:=by rw[<-hg3];exact ge3
       have gg3:wd.heap.size<=g3:=by rw[<-hg3];exact D2.size
       rw[hg3]at l3 |-;clear hg3 hv3 ge3;have D3:=D2.trans (ExtX.of xe3);have h0_3:=h0_2.ext0 HdR.elem xe3;have h1_3:=h1_2.ext0 QC.elem xe3;refine a0d (i:=19) (o:=⟨_,_,_,_,_,_⟩) (by kernel_rfl) rfl (fun K hK=>?_)
       (refine a0D (l:=LY) rfl rfl a0E rfl QC.elem (Nat.le_trans hbs D3.size) (a2a (a2k hXA D3.size) (fun k hk=>(h0_3.block hk).2)) i hly.out rfl rfl l3 h1_3 (.agg #[.bool s1, .slice a1 n1 c9, .slice d1 k9 e1]) yv rfl (QC.mono _ _ _ _ (a5I D3 r2) hq0) (by omega) (by omega) ?_;intro o4 c4 v4 h1_4 E4 r4)
       refine hK.out _ _ (hS.out _ (D3.trans (a1o (a:=xo) E4))) (fun hHeld=>?_);clear hK K
       (try simp only[Act.put,List.setIfInBounds_toArray,List.set_cons_zero,List.set_cons_succ])
       have D4:=D3.trans (a1o (a:=xo) E4);have r40:=r4;have r4:=a4L r4 D3.size;have h0_4:=OL.after (A:=(mz X mo hds)) HdR.elem h0_3 E4 r40;refine a0a hOnce (i:=20) (oi:=⟨_,_,_,_,_,_⟩) (v:=?_) rfl (by kernel_rfl) (fun _ _ _ h=>h) (by assumption) (by rfl) (fun w hSw=>?_) ?_
       rotate_left
       ·(try dsimp only at hSw)
        go_simp
        all_goals with_reducible rfl
       (try simp only[Act.put,List.setIfInBounds_toArray,List.set_cons_zero,List.set_cons_succ])
       refine a0j (i:=21) (o:=⟨_,_,_,_,_,_⟩) (by kernel_rfl) rfl (by decide) (by kernel_rfl) (fun K hK=>?_);go_simp
       refine hK.out _ _ ?_;clear hK K;have fin:=hend.out _ _ _ _ _ D4 r2 r4 h0_4 h1_4;clear hS i1 i2 i3 hHeld hOnce;go_wp2_with fail
       go_roundw
       case rel=>exact⟨i+1,_,_,_,_,by go_num,by go_num,by go_num,by omega,fin⟩
       case measure=>simp[intOf];omega
      ·skip
       go_simp
       skip
       refine hK.out _ _ (hS.out _ (D1.trans (ExtX.of ((ExtX.refl _).alloc _)))) (fun hHeld=>?_);clear hK K
       (try simp only[Act.put,List.setIfInBounds_toArray,List.set_cons_zero,List.set_cons_succ])
       have xe5:Ext v1 (v1.alloc (.cells #[.bool s1, .slice a1 n1 c9, .slice d1 k9 e1] 32)):=(ExtX.refl _).alloc _;have l5:Bx (v1.alloc (.cells #[.bool s1, .slice a1 n1 c9, .slice d1 k9 e1] 32)) v1.heap.size #[.bool s1, .slice a1 n1 c9, .slice d1 k9 e1] 32:=Bx.new v1 _ _;have ge5:=Nat.le_refl v1.heap.size;obtain⟨v5,hv5⟩:∃v5,v1.alloc (.cells #[.bool s1, .slice a1 n1 c9, .slice d1 k9 e1] 32)=v5:=⟨_,rfl⟩;rw[hv5]at xe5 l5 |-;obtain⟨g5,hg5⟩:∃g5,v1.heap.size=g5:=⟨_,rfl⟩;have gv5:v1.heap.size<=g5:=by rw[<-hg5];exact ge5
       have gg5:wd.heap.size<=g5:=by rw[<-hg5];exact D1.size
       rw[hg5]at l5 |-;clear hg5 hv5 ge5;have D5:=D1.trans (ExtX.of xe5);have h0_5:=h0_1.ext0 HdR.elem xe5;have h1_5:=h1_1.ext0 QC.elem xe5;have lit5:=l1.ext0 xe5;refine a0d (i:=9) (o:=⟨_,_,_,_,_,_⟩) (by kernel_rfl) rfl (fun K hK=>?_)
       (refine a0D (l:=LX) rfl rfl a0r rfl HdR.elem (Nat.le_trans hbs D5.size) (a2a (a2k hXA D5.size) (fun k hk=>(h1_5.block hk).2)) i hlx.out rfl rfl lit5 h0_5 (.slice a k k) (a,k,k) rfl rfl (by omega) (by omega) ?_;intro o6 c6 v6 h0_6 E6 r6)
       refine hK.out _ _ (hS.out _ (D5.trans (a1D (b:=yo) E6))) (fun hHeld=>?_);clear hK K
       (try simp only[Act.put,List.setIfInBounds_toArray,List.set_cons_zero,List.set_cons_succ])
       have D6:=D5.trans (a1D (b:=yo) E6);have r60:=r6;have r6:=a4L r6 D5.size;have lit6:=l5.ext E6 (OL.ob_ge hx gg5);have h1_6:=OL.after (A:=(mz X mo hds)) QC.elem h1_5 E6 r60;refine a0d (i:=19) (o:=⟨_,_,_,_,_,_⟩) (by kernel_rfl) rfl (fun K hK=>?_)
       (refine a0D (l:=LY) rfl rfl a0E rfl QC.elem (Nat.le_trans hbs D6.size) (a2a (a2k hXA D6.size) (fun k hk=>(h0_6.block hk).2)) i hly.out rfl rfl lit6 h1_6 (.agg #[.bool s1, .slice a1 n1 c9, .slice d1 k9 e1]) yv rfl (QC.mono _ _ _ _ (a5I D6 r6) hq0) (by omega) (by omega) ?_;intro o7 c7 v7 h1_7 E7 r7)
       refine hK.out _ _ (hS.out _ (D6.trans (a1o (a:=xo) E7))) (fun hHeld=>?_);clear hK K
       (try simp only[Act.put,List.setIfInBounds_toArray,List.set_cons_zero,List.set_cons_succ])
       have D7:=D6.trans (a1o (a:=xo) E7);have r70:=r7;have r7:=a4L r7 D6.size;have h0_7:=OL.after (A:=(mz X mo hds)) HdR.elem h0_6 E7 r70;refine a0a hOnce (i:=20) (oi:=⟨_,_,_,_,_,_⟩) (v:=?_) rfl (by kernel_rfl) (fun _ _ _ h=>h) (by assumption) (by rfl) (fun w hSw=>?_) ?_
       rotate_left
       ·(try dsimp only at hSw)
        go_simp
        all_goals with_reducible rfl
       (try simp only[Act.put,List.setIfInBounds_toArray,List.set_cons_zero,List.set_cons_succ])
       refine a0j (i:=21) (o:=⟨_,_,_,_,_,_⟩) (by kernel_rfl) rfl (by decide) (by kernel_rfl) (fun K hK=>?_);go_simp
       refine hK.out _ _ ?_;clear hK K;have fin:=hend.out _ _ _ _ _ D7 r6 r7 h0_7 h1_7;clear hS i1 i2 i3 hHeld hOnce;go_wp2_with fail
       go_roundw
       case rel=>exact⟨i+1,_,_,_,_,by go_num,by go_num,by go_num,by omega,fin⟩
       case measure=>simp[intOf];omega
     ·skip
      go_simp
      skip
      refine hK.out _ _ (hS.out _ (D0.trans (ExtX.of ((ExtX.refl _).alloc _)))) (fun hHeld=>?_);clear hK K
      (try simp only[Act.put,List.setIfInBounds_toArray,List.set_cons_zero,List.set_cons_succ])
      have xe8:Ext wd (wd.alloc (.cells #[.bool s1, .slice a1 n1 c9, .slice d1 k9 e1] 32)):=(ExtX.refl _).alloc _;have l8:Bx (wd.alloc (.cells #[.bool s1, .slice a1 n1 c9, .slice d1 k9 e1] 32)) wd.heap.size #[.bool s1, .slice a1 n1 c9, .slice d1 k9 e1] 32:=Bx.new wd _ _;have ge8:=Nat.le_refl wd.heap.size;obtain⟨v8,hv8⟩:∃v8,wd.alloc (.cells #[.bool s1, .slice a1 n1 c9, .slice d1 k9 e1] 32)=v8:=⟨_,rfl⟩;rw[hv8]at xe8 l8 |-;obtain⟨g8,hg8⟩:∃g8,wd.heap.size=g8:=⟨_,rfl⟩;have gv8:wd.heap.size<=g8:=by rw[<-hg8];exact ge8
      have gg8:wd.heap.size<=g8:=by rw[<-hg8];exact D0.size
      rw[hg8]at l8 |-;clear hg8 hv8 ge8;have D8:=D0.trans (ExtX.of xe8);have h0_8:=hx.ext0 HdR.elem xe8;have h1_8:=hy.ext0 QC.elem xe8;refine a0d (i:=8) (o:=⟨_,_,_,_,_,_⟩) (by kernel_rfl) rfl (fun K hK=>?_);go_simp
      skip
      refine hK.out _ _ (hS.out _ (D8.trans (ExtX.of ((ExtX.refl _).alloc _)))) (fun hHeld=>?_);clear hK K
      (try simp only[Act.put,List.setIfInBounds_toArray,List.set_cons_zero,List.set_cons_succ])
      have xe9:Ext v8 (v8.alloc (.cells #[.slice a k k] 45)):=(ExtX.refl _).alloc _;have l9:Bx (v8.alloc (.cells #[.slice a k k] 45)) v8.heap.size #[.slice a k k] 45:=Bx.new v8 _ _;have ge9:=Nat.le_refl v8.heap.size;obtain⟨v9,hv9⟩:∃v9,v8.alloc (.cells #[.slice a k k] 45)=v9:=⟨_,rfl⟩;rw[hv9]at xe9 l9 |-;obtain⟨g9,hg9⟩:∃g9,v8.heap.size=g9:=⟨_,rfl⟩;have gv9:v8.heap.size<=g9:=by rw[<-hg9];exact ge9
      have gg9:wd.heap.size<=g9:=by rw[<-hg9];exact D8.size
      rw[hg9]at l9 |-;clear hg9 hv9 ge9;have D9:=D8.trans (ExtX.of xe9);have h0_9:=h0_8.ext0 HdR.elem xe9;have h1_9:=h1_8.ext0 QC.elem xe9;have lit9:=l8.ext0 xe9;refine a0d (i:=9) (o:=⟨_,_,_,_,_,_⟩) (by kernel_rfl) rfl (fun K hK=>?_)
      (refine a0D (l:=LX) rfl rfl a0r rfl HdR.elem (Nat.le_trans hbs D9.size) (a2a (a2k hXA D9.size) (fun k hk=>(h1_9.block hk).2)) i hlx.out rfl rfl l9 h0_9 (.slice a k k) (a,k,k) rfl rfl (by omega) (by omega) ?_;intro o10 c10 v10 h0_10 E10 r10)
      refine hK.out _ _ (hS.out _ (D9.trans (a1D (b:=yo) E10))) (fun hHeld=>?_);clear hK K
      (try simp only[Act.put,List.setIfInBounds_toArray,List.set_cons_zero,List.set_cons_succ])
      have D10:=D9.trans (a1D (b:=yo) E10);have r100:=r10;have r10:=a4L r10 D9.size;have lit10:=lit9.ext E10 (OL.ob_ge hx gg8);have h1_10:=OL.after (A:=(mz X mo hds)) QC.elem h1_9 E10 r100;refine a0d (i:=19) (o:=⟨_,_,_,_,_,_⟩) (by kernel_rfl) rfl (fun K hK=>?_)
      (refine a0D (l:=LY) rfl rfl a0E rfl QC.elem (Nat.le_trans hbs D10.size) (a2a (a2k hXA D10.size) (fun k hk=>(h0_10.block hk).2)) i hly.out rfl rfl lit10 h1_10 (.agg #[.bool s1, .slice a1 n1 c9, .slice d1 k9 e1]) yv rfl (QC.mono _ _ _ _ (a5I D10 r10) hq0) (by omega) (by omega) ?_;intro o11 c11 v11 h1_11 E11 r11)
      refine hK.out _ _ (hS.out _ (D10.trans (a1o (a:=xo) E11))) (fun hHeld=>?_);clear hK K
      (try simp only[Act.put,List.setIfInBounds_toArray,List.set_cons_zero,List.set_cons_succ])
      have D11:=D10.trans (a1o (a:=xo) E11);have r110:=r11;have r11:=a4L r11 D10.size;have h0_11:=OL.after (A:=(mz X mo hds)) HdR.elem h0_10 E11 r110;refine a0a hOnce (i:=20) (oi:=⟨_,_,_,_,_,_⟩) (v:=?_) rfl (by kernel_rfl) (fun _ _ _ h=>h) (by assumption) (by rfl) (fun w hSw=>?_) ?_
      rotate_left
      ·(try dsimp only at hSw)
       go_simp
       all_goals with_reducible rfl
      (try simp only[Act.put,List.setIfInBounds_toArray,List.set_cons_zero,List.set_cons_succ])
      refine a0j (i:=21) (o:=⟨_,_,_,_,_,_⟩) (by kernel_rfl) rfl (by decide) (by kernel_rfl) (fun K hK=>?_);go_simp
      refine hK.out _ _ ?_;clear hK K;have fin:=hend.out _ _ _ _ _ D11 r10 r11 h0_11 h1_11;clear hS i1 i2 i3 hHeld hOnce;go_wp2_with fail
      go_roundw
      case rel=>exact⟨i+1,_,_,_,_,by go_num,by go_num,by go_num,by omega,fin⟩
      case measure=>simp[intOf];omega
   ·have hin:i=n:=by omega
    rw[a2C (by omega) (by omega)]at hMa;have hxl:(hds.map (hK k)).take i=hds.map (hK k):=List.take_of_length_le (by simp;omega);rw[hxl]at hxa;rw[List.take_of_length_le (by omega)]at hya;have hEo:Ext w wr:=hE.trans (hEd.trans hEa);have hmc1:=b5C (X:=X) hMa hxa (fun q hq=>a0p (a0p hq)) (fun q hq=>a0p (a0y.2 (.inl hq))) (fun r hr=>by rw[hFr r hr];omega);have hrc1:RC (mk X wr) (.slice yo Y.length yc) Y:=⟨yo,yc,rfl,hya.lenCap,(hya.sl QC.elem).mono QC.mono (a1m fun q _ hq=>a0p (a0y.2 (.inl hq)))⟩;have hfin:T (.returned (.tuple #[.slice xo n xc, .slice yo n yc])) wr:=by
     rw[<-hT'.out];refine⟨hEo,_,_,rfl,?_,?_⟩
     ·unfold a9z;rw[hF];rw[hFl]at hmc1;exact hmc1
     ·unfold b0X;rw[hF,hY];rw[hYl]at hrc1;exact hrc1
    subst hin;clear hmc1 hrc1 hMa hxa hya hFr hMr;go_wp2_with fail
    exact hfin
end Go.Proofs.YtkddecjkfdogiaaGreat
namespace Go.Lin
open Go.Lim Go.Rep
theorem b5E:hq 1<=2:=by decide+kernel
theorem b4j {ones:Bool} {r:List Rat} (h:BR 2 r):BR 2 (b4s ones r):=fun q hq'=>by
 unfold b4s at hq';split at hq'
 ·rcases List.mem_or_eq_of_mem_set hq' with h1|h1
  ·exact h q h1
  ·subst h1;exact b5E
 ·exact h q hq'
theorem b0Q (ones:Bool) (n k:Nat) (raw:List Int):BM 2 (b2S ones n k raw):=fun r hr q hq'=>by
 obtain⟨r',h1,rfl⟩:=List.mem_map.1 hr;exact b4j (fun q hq=>b3H n (k+1) raw r' h1 q hq) q hq'
theorem b0R (ones:Bool) (n k:Nat) (raw:List Int) (hn:1<=n) (hn8:n<=8) (hk:1<=k) (hk4:k<=4):
  Shp n k (a9z ones n k raw)/\colsL (a9z ones n k raw)=k/\BM 2 (a9z ones n k raw)/\BR 2 (b0X ones n k raw)/\(b0X ones n k raw).length=n/\a0x (a9z ones n k raw)=true/\a7I (a9z ones n k raw) (b0X ones n k raw)=true:=by
 have h1:Shp n k (a9z ones n k raw):=⟨by simp[a9z,a6s],fun r hr=>by
  obtain⟨r',h1,rfl⟩:=List.mem_map.1 hr;have:=a6t ones n k raw r' h1;simp;omega⟩
 have h2:(b0X ones n k raw).length=n:=by simp[b0X,a6s]
 have h3:=a8y h1 hn;have h4:=b0V h1 (by omega) hk (by omega);refine⟨h1,h3,fun r hr q hq'=>?_,fun q hq'=>?_,h2,h4,a2N.2 ⟨h4,by rw[h1.1];omega,by rw[h1.1];omega,by rw[h3];omega,by rw[h2,h1.1]⟩⟩
 ·obtain⟨r',h1,rfl⟩:=List.mem_map.1 hr
  exact b0Q ones n k raw r' h1 q (List.mem_of_mem_take hq')
 ·obtain⟨r',h1,rfl⟩:=List.mem_map.1 hq'
  have hl:=a6t ones n k raw r' h1;rw[List.getD_eq_getElem?_getD,List.getElem?_eq_getElem (by omega)];exact b0Q ones n k raw r' h1 _ (List.getElem_mem _)
def b2T (k:Nat) (raw:List Int):List Rat:=(List.range k).map fun j=>a9c (atL raw j)
theorem b2m (k:Nat) (raw:List Int):(b2T k raw).length=k:=by simp[b2T]
theorem b4k (k:Nat) (raw:List Int):BR 2 (b2T k raw):=fun q hq'=>by
 obtain⟨j,_,rfl⟩:=List.mem_map.1 hq';exact a7C _
theorem b2n (k:Nat) (raw:List Int):a7o 1 k raw= [b2T k raw]:=by
 unfold a7o b2T;rw[List.range_one];simp
end Go.Lin
namespace Go.Proofs.YtkddecjkfdogiaaGreat
open Go.RowKit Go.Rep Go.Lim Go.Lin
set_option maxRecDepth 100000 in
theorem a9u (X:Nat->Bool) (w:World) (k:Nat) (ro:Option Addr) (raw:List Int) (cap:Nat) (hX:HX X w) (hs:Sl (a1P .i64) 1 (mk X w) ro raw) (hk:k<=900) (hraw:∀x∈raw,-9223372036854775808<=x/\x<=9223372036854775807):
  Calls Tryz.prog 56 #[.int .i64 (k:Int), .slice ro raw.length cap] w (a2w X w RC (b2T k raw)):=by
 have hm:=a9d X w 1 k ro raw cap hX hs (by omega) hk hraw;rw[b2n]at hm;obtain⟨V,hV⟩:∃V,b2T k raw=V:=⟨_,rfl⟩;rw[hV]at hm |-;clear hV;go_enter Tryz.func56,Tryz.ntmps56
 go_wp2_with fail
 refine hm.mono ?_;rintro ee w1 ⟨hE1,u,rfl,ao,ca,rfl,hca,hsa⟩;obtain⟨a1,c1,hX1,hc1,hcl1,hq1⟩:=hsa.row 0 (by simp);have k00:=hc1.out noY w1 (ExtX.refl _) rfl;have hh:Hd ao 1:=hsa.hd;have hca:1<=ca:=hca;rw[show([V]:List (List Rat)).length=1 from rfl];have hrow:RC (mk X w1) (.slice a1 V.length c1) V:=⟨a1,c1,rfl,hcl1,hq1⟩;clear hm hc1 hsa;go_wp2_with (with_reducible refine a0t a0r (by omega) (by assumption) ?_)
 go_ret
 exact⟨hE1,_,rfl,hrow⟩
end Go.Proofs.YtkddecjkfdogiaaGreat
namespace Go.Lin
end Go.Lin
namespace Go.Proofs.YtkddecjkfdogiaaGreat
open Go.RowKit Go.Rep Go.Lim Go.Lin
end Go.Proofs.YtkddecjkfdogiaaGreat
namespace Go
section
variable {P:Program} {ops:Array Oper} {Q:Exit->Act->World->Prop} {md:Region.Mode} {S:World->Prop} {n:Nat}
end
end Go
namespace Go.Lin
open Go.Lim Go.Rep
end Go.Lin
namespace Go.Proofs.YtkddecjkfdogiaaGreat
open Go.RowKit Go.Rep Go.Lim Go.Lin
open Go.ChangeShapes Go.WideShapes Go.ChangeAt Go.Deep
section
variable {H:Type} {enc:TypeId×Value->H} {w:World} {base:Nat} {spare:Nat->Bool} {held:Bool}
theorem a1h {x:Addr} {v:Value} (h:w.cell? (x.add 0)=some v):(∀j,x.add j=adr (some x) j)/\∃b off,x=⟨b,off,none⟩:=by
 have hs:=World.cell?_spot h;obtain⟨b,off,spot⟩:=x;have hspot:spot=none:=by simpa[Addr.add]using hs
 subst hspot;exact⟨fun j=>by rw[Addr.add_lit];simp[adr],b,off,rfl⟩
end
end Go.Proofs.YtkddecjkfdogiaaGreat
namespace Go.Proofs.YtkddecjkfdogiaaGreat
open Go.ChangeShapes Go.WideShapes Go.ChangeAt Go.RowKit Go.Rep Go.Deep
theorem b0S {n:Int} (h:(Lit.int .i64 n).wf=true): -9223372036854775808<=n/\n<=9223372036854775807:=by
 unfold Lit.wf at h;simpa[IntKind.min,IntKind.max,IntKind.signed,IntKind.bits]using h
section
variable {H:Type} {enc:TypeId×Value->H} {P:Program} {w:World} {base:Nat} {spare:Nat->Bool} {held:Bool}
theorem b0T {fuel:Nat} {v:Value} {x:DataW H×List MemPlace} (h:DataW.trod enc Tryz.prog w base spare held fuel 22 [v]=some x):
  ∃(a:Option Addr) (l:List Int) (cap:Nat),v= .slice a l.length cap/\l.length<=cap/\l.length<=9223372036854775807/\Sl (a1P .i64) 1 (mk noY w) a l/\∀x∈l,-9223372036854775808<=x/\x<=9223372036854775807:=by
 rw[a5u];rcases open_ints Tryz.underlying22 Tryz.underlying3 (by kernel_rfl) h with⟨hcs,_⟩|⟨x,len,c,zs,hcs,_,hl,hm,hz,_,hcell,hwf⟩
 ·refine⟨none,[],0,by simpa using hcs,by simp,by simp,Sl.nil _ _ _ _,by simp⟩
 ·have hzl:len<=zs.length:=by
   rw[hz];split<;>omega
  have hlen:(zs.take len).length=len:=by simp;omega
  have hmax:c<=9223372036854775807:=by simpa[maxLen]using hm
  refine⟨some x,zs.take len,c,by rw[hlen];simpa using hcs,by omega,by omega,⟨fun h0=>?_,fun i hi=>?_⟩,fun y hy=>b0S (hwf y (List.mem_of_mem_take hy))⟩
  ·obtain⟨_,b,off,hx⟩:=a1h (hcell 0 (by omega))
   exact⟨b,off,by rw[hx]⟩
  ·have hi':i<zs.length:=by omega
   refine⟨.int .i64 (zs.take len)[i],rfl,fun j hj=>?_,rfl⟩;have hj0:j=0:=by simp[Value.cells]at hj;exact hj
   subst hj0;have h1:=hcell i hi';have h2:=(a1h (hcell 0 (by omega))).1 i;rw[h2]at h1;simp only[Nat.mul_one,Nat.add_zero,List.getElem_take];rw[h1];simp[List.getD_eq_getElem?_getD,hi',Value.cells]
end
end Go.Proofs.YtkddecjkfdogiaaGreat
namespace Go.Rep
open Go.RowKit Go.Lim
abbrev a7R:=Bool×List Nat×List Nat
def QR (h:Mem) (u:Value) (x:a7R):Prop:=∃ao c bo e,u= .agg #[.bool x.1, .slice ao x.2.1.length c, .slice bo x.2.2.length e]/\x.2.1.length<=c/\x.2.2.length<=e/\Dig x.2.1/\Dig x.2.2/\x.2.1.length<=9223372036854775807/\x.2.2.length<=9223372036854775807/\Sl (a0b .u32) 1 h ao x.2.1/\Sl (a0b .u32) 1 h bo x.2.2
theorem QR.mono:a3c QR:=by rintro h h' u x hl ⟨ao,c,bo,e,rfl,h1,h2,h3,h4,h5,h6,h7,h8⟩;exact⟨ao,c,bo,e,rfl,h1,h2,h3,h4,h5,h6,h7.mono (a0b.mono _) hl,h8.mono (a0b.mono _) hl⟩
theorem QR.elem:Elem QR 3:=⟨QR.mono,by rintro h u x ⟨ao,c,bo,e,rfl,_⟩;rfl,by
 rintro h u x ⟨ao,c,bo,e,rfl,_⟩ v hv;simp[a0g,Value.cells]at hv;rcases hv with rfl|rfl|rfl<;>rfl,by decide⟩
theorem QR.shape {h:Mem} {u:Value} {x:a7R} (hu:QR h u x):∃ao c bo e,u= .agg #[.bool x.1, .slice ao x.2.1.length c, .slice bo x.2.2.length e]:=by
 obtain⟨ao,c,bo,e,rfl,_⟩:=hu;exact⟨_,_,_,_,rfl⟩
theorem QR.agg:∀h u y,QR h u y->∃cs,u= .agg cs:=by rintro h u x ⟨ao,c,bo,e,rfl,_⟩;exact⟨_,rfl⟩
noncomputable def b4l (x:a7R):Rat:=b1k x.1 x.2.1 x.2.2
abbrev Few (k:Nat) (x:a7R):Prop:=x.2.1.length<=k/\x.2.2.length<=k
theorem QR.qv {h:Mem} {u:Value} {x:a7R} (hu:QR h u x) (hf:Few 68719476736 x):QV h u (b4l x):=by
 obtain⟨ao,c,bo,e,rfl,h1,h2,h3,h4,_,_,h7,h8⟩:=hu;exact⟨_,ao,c,_,bo,e,_,rfl,h1,h2,h3,h4,hf.1,hf.2,h7,h8,rfl⟩
theorem QR.hq {h:Mem} {u:Value} {x:a7R} {k:Nat} (hu:QR h u x) (hf:Few k x) (hk:1<=k):hq (b4l x)<=k:=by
 obtain⟨ao,c,bo,e,rfl,h1,h2,h3,h4,_,_,h7,h8⟩:=hu;exact a9P _ _ _ k h3 h4 hf.1 hf.2 hk
theorem Sl.qvR {h:Mem} {ao:Option Addr} {l:List a7R} (s:Sl QR 3 h ao l) (hf:∀x∈l,Few 68719476736 x):Sl QV 3 h ao (l.map b4l):=
 ⟨fun hp=>s.1 (by simpa using hp),fun i hi=>by
  have hi':i<l.length:=by simpa using hi
  obtain⟨u,h1,h2,h3⟩:=s.2 i hi';exact⟨u,h1,h2,by rw[List.getElem_map];exact h3.qv (hf _ (List.getElem_mem _))⟩⟩
theorem Sl.brR {h:Mem} {ao:Option Addr} {l:List a7R} {k:Nat} (s:Sl QR 3 h ao l) (hf:∀x∈l,Few k x) (hk:1<=k):BR k (l.map b4l):=fun q hq=>by
 obtain⟨x,hx,rfl⟩:=List.mem_map.1 hq;obtain⟨i,hi,rfl⟩:=List.getElem_of_mem hx;obtain⟨u,h1,h2,h3⟩:=s.2 i hi;exact h3.hq (hf _ (List.getElem_mem _)) hk
abbrev RR:Mem->Value->List a7R->Prop:=SlV QR 3
abbrev MR:Mem->Value->List (List a7R)->Prop:=SlV RR 1
theorem RR.mono:a3c RR:=SlV.mono QR.mono 3
theorem RR.elem:Elem RR 1:=SlV.elem QR.elem
theorem MR.mono:a3c MR:=SlV.mono RR.mono 1
theorem RR.rv {h:Mem} {u:Value} {l:List a7R} (hu:RR h u l) (hf:∀x∈l,Few 68719476736 x):RV h u (l.map b4l):=by
 obtain⟨ao,c,rfl,h1,h2⟩:=hu;exact⟨ao,c,by rw[List.length_map],by rw[List.length_map];exact h1,h2.qvR hf⟩
theorem RR.br {h:Mem} {u:Value} {l:List a7R} {k:Nat} (hu:RR h u l) (hf:∀x∈l,Few k x) (hk:1<=k):BR k (l.map b4l):=by
 obtain⟨ao,c,rfl,h1,h2⟩:=hu;exact h2.brR hf hk
noncomputable def b4m (m:List (List a7R)):List (List Rat):=m.map fun r=>r.map b4l
theorem MR.mv {h:Mem} {u:Value} {m:List (List a7R)} (hu:MR h u m) (hf:∀r∈m,∀x∈r,Few 68719476736 x):MV h u (b4m m):=by
 obtain⟨ao,c,rfl,h1,h2⟩:=hu;refine⟨ao,c,by rw[b4m,List.length_map],by rw[b4m,List.length_map];exact h1,fun hp=>h2.1 (by simpa[b4m]using hp),fun i hi=>?_⟩;have hi':i<m.length:=by simpa[b4m]using hi
 obtain⟨u,k1,k2,k3⟩:=h2.2 i hi';exact⟨u,k1,k2,by simp only[b4m,List.getElem_map];exact RR.rv k3 (hf _ (List.getElem_mem _))⟩
theorem MR.bm {h:Mem} {u:Value} {m:List (List a7R)} {k:Nat} (hu:MR h u m) (hf:∀r∈m,∀x∈r,Few k x) (hk:1<=k):BM k (b4m m):=fun r hr=>by
 obtain⟨ao,c,rfl,h1,h2⟩:=hu;obtain⟨y,hy,rfl⟩:=List.mem_map.1 hr;obtain⟨i,hi,rfl⟩:=List.getElem_of_mem hy;obtain⟨u,k1,k2,k3⟩:=h2.2 i hi;exact RR.br k3 (hf _ (List.getElem_mem _)) hk
end Go.Rep
namespace Go.Proofs.YtkddecjkfdogiaaGreat
open Go.ChangeShapes Go.WideShapes Go.ChangeAt Go.RowKit Go.Rep Go.Deep Go.Lim
section
variable {H:Type} {enc:TypeId×Value->H} {w:World} {base:Nat} {spare:Nat->Bool} {held:Bool}
end
end Go.Proofs.YtkddecjkfdogiaaGreat
