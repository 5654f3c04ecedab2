/- The tape of choices: lists of rows that may be no points. What is drawn is some list of rows of few digits. Conditions: none beyond small ranges. The tape of choices: a point for points. What is drawn is some row of few digits. Conditions: none beyond small ranges. law 25: awake. Conditions: none. law 26: awake. Conditions: none. reference 23: Dot. Conditions: few numbers of at most 2^36 digits. reference 06: Dot. Conditions: few numbers of at most 2^36 digits. reference 06: Transpose, Apply, Mul. Conditions: few rows and columns, numbers of few digits. reference 25: pick, count. Conditions: at most 1000 rows, numbers of at most 10^10 digits. The memory of the reference's elimination: rows, pivots, factor, and what each step leaves of them. Conditions: none. reference 06: what its elimination needs of plain lists. Conditions: none. -/
import Derived.Test.YtoibhmjjhgaimaaGreatSaL
namespace Go.Rep
open Go.RowKit Go.Lim
theorem OL.toRV {X:Nat->Bool} {base:Nat} {e:TypeId} {w:World} {ao:Option Addr} {cap:Nat} {l:List (List Rat)} (h:OL RC 1 X base e w ao cap l) (hb:BM 68719476736 l):OL RV 1 X base e w ao cap l:=by
 obtain⟨hx,us,h1,h2,h22,h3,h5⟩:=h;exact⟨hx,us,h1,h2,h22,h3,fun i hi hi'=>RC.rv (h5 i hi hi') (hb _ (List.getElem_mem _))⟩
theorem BM.le {B C:Nat} {m:List (List Rat)} (h:BM B m) (hBC:B<=C):BM C m:=fun r hr q hq=>Nat.le_trans (h r hr q hq) hBC
theorem BM.set {B:Nat} {m:List (List Rat)} (h:BM B m) {r:List Rat} (hr:BR B r) (i:Nat):BM B (m.set i r):=fun x hx=>by
 rcases List.mem_or_eq_of_mem_set hx with hx|rfl
 ·exact h x hx
 ·exact hr
end Go.Rep
namespace Go.Proofs.YtoibhmjjhgaimaaGreat
open Go.RowKit Go.Rep Go.Lim
def b0e (X:Nat->Bool) (tb:Nat) (n:Nat) (w:World) (e:Ending) (w':World):Prop:=ExtX (tbm tb) w w'/\a0H X tb w'/\∃v l,e= .returned v/\MV (mk X w') v l/\BM 510 l/\(l.length<=n\/l.length=65)/\∀r∈l,r.length<=4
theorem a9v {X:Nat->Bool} {tb n k b co:Nat} {T:TypeId} {w wz:World} {oo:Option Addr} {l:List (List Rat)} (hE:ExtX (tbm tb) w wz) (ht:a0H (un X oo) tb wz) (htX:X tb=true) (hO:OL RV 1 X b T wz oo co l) (hB:BM 510 l) (hl:k<=n\/k=65) (hr:∀r∈l,r.length<=4) (hk:l.length=k):b0e X tb n w (.returned (.slice oo k co)) wz:=by
 subst hk;exact⟨hE,ht.unX htX,_,l,rfl,⟨oo,co,rfl,hO.lenCap,hO.sl RV.elem⟩,hB,hl,hr⟩
theorem a6s {X:Nat->Bool} {tb n k b co:Nat} {T:TypeId} {w wz:World} {oo:Option Addr} {l:List (List Rat)} (hE:ExtX (tbm tb) w wz) (ht:a0H (un X oo) tb wz) (htX:X tb=true) (hO:OL RC 1 X b T wz oo co l) (hB:BM 510 l) (hl:k<=n\/k=65) (hr:∀r∈l,r.length<=4) (hk:l.length=k):b0e X tb n w (.returned (.slice oo k co)) wz:=
 a9v hE ht htX (hO.toRV (hB.le (by omega))) hB hl hr hk
set_option maxRecDepth 100000 in
set_option maxHeartbeats 3200000 in
theorem a8A (X:Nat->Bool) (tb n:Nat) (w:World) (ht:a0H X tb w) (hX:HX X w) (hn1:1<=n) (hn:n<=8):
  Calls Tryz.prog 14 #[.pointer (some ⟨tb,0,none⟩), .int .i64 (n:Int)] w (b0e X tb n w):=by
 have hsub:=a3t ht.1;have htX:=ht.1;go_enter Tryz.func14,Tryz.ntmps14
 go_wp2_with fail
 refine(a0T X tb 3 _ ht (by omega)).mono ?_;rintro e w1 ⟨hE1,ht1,d,rfl,hd⟩;have hd1:(1+(d:Int))=((d+1:Nat):Int):=by omega
 go_wp2_with fail
 refine(a7e X tb n (d+1) w1 ht1 (hX.ext hE1) hn1 hn (by omega)).mono ?_;rintro e w2 ⟨hE2,oo,l,co,rfl,hlc,hl1,hln,hrl,hBM,ht2,hO2⟩;have hF2:=hE1.trans hE2;have hO:=hO2.base_le (b':=w.heap.size) hE1.size;have hr4:∀r∈l,r.length<=4:=fun r hr=>by have:=hrl r hr;omega
 obtain⟨k,hk⟩:∃k,l.length=k:=⟨_,rfl⟩;have hk':=hid hk;rw[hk]at hlc hl1 hln |-;clear hO2 hE2 hE1 ht1 hk hd1;go_wp2_with fail
 refine(a0T (un X oo) tb 14 _ ht2 (by omega)).mono ?_;rintro e w3 ⟨hE3,ht3,m,rfl,hm⟩;have hO3:=hO.ext RC.elem hE3 (fun k _ hk=>hsub k hk) (fun _ _ h=>h);have hF3:=hF2.trans hE3;have hX3:=hX.ext hF3;clear hO hF2 ht2 hE3;have hcase:m=9\/m=10\/m=11\/m=12\/m=13\/(m≠9/\m≠10/\m≠11/\m≠12/\m≠13):=by omega
 rcases hcase with rfl|rfl|rfl|rfl|rfl|hno
 ·go_wp2_with fail
  go_ret
  exact⟨hF3,ht3.unX htX,_,[],rfl,SlV.zero _ _ _,fun r hr=>by simp at hr, .inl (by simp),fun r hr=>by simp at hr⟩
 ·go_wp2_with fail
  refine(a0T (un X oo) tb k w3 ht3 (by omega)).mono ?_;rintro e w4 ⟨hE4,ht4,i,rfl,hi⟩;go_wp2_with fail
  refine(a0T (un X oo) tb 5 w4 ht4 (by omega)).mono ?_;rintro e w5 ⟨hE5,ht5,c,rfl,hc⟩;have hO5:=(hO3.ext RC.elem hE4 (fun k _ hk=>hsub k hk) (fun _ _ h=>h)).ext RC.elem hE5 (fun k _ hk=>hsub k hk) (fun _ _ h=>h);have hF5:=(hF3.trans hE4).trans hE5;have hXu5:=hO5.unX (hX.ext hF5);go_wp2_with fail
  refine(a4x (un X oo) tb c w5 ht5 hXu5 (by omega)).mono ?_;rintro e w6 ⟨hE6,po,p,pc,rfl,hpl,hpc,hpB,ht6,hP⟩;have hO6:=hO5.ext RC.elem hE6 (fun k _ hk=>hsub k hk) (fun _ _ h=>h);have hF6:=hF5.trans hE6;have hRC:RC (mk (un X oo) w6) (.slice po c pc) p:=⟨po,pc,by rw[hpl],by rw[hpl];exact hpc,hP.sl QC.elem⟩;have ht6u:a0H (un X oo) tb w6:=ht6.unX (a0v htX);have hik:i<k:=by omega
  have hil:i<l.length:=by rw[hk'.out];exact hik
  have hhd:=hO6.hd;rw[hk'.out]at hhd;have hls:(l.set i p).length=k:=by rw[List.length_set];exact hk'.out
  have hBs:BM 510 (l.set i p):=hBM.set (fun q hq=>Nat.le_trans (hpB q hq) (by omega)) i;have hrs:∀r∈l.set i p,r.length<=4:=fun r hr=>by
   rcases List.mem_or_eq_of_mem_set hr with hr|rfl
   ·exact hr4 r hr
   ·omega
  clear hO3 ht3 hF3 hE4 hE5 hO5 hF5 hXu5 ht5 hE6 ht6 hP hX3 ht4;go_wp2_with (first
   |(with_reducible refine a0n a0o (by omega) (by assumption) ?_)
   |((with_reducible show wpList _ _ _ (⟨_, .store _ _ _,_,_,_,_⟩::_) _ _);refine a1O a4H RC.elem i rfl (by simp) hO6 hil _ p rfl hRC ?_;intro w7 hO7 hE7))
  have hF7:=hF6.own hO6 (Nat.le_refl _) hE7;have ht7:=ht6u.unstep (hO6.not_ob htX) hE7 (.inl rfl);go_ret
  exact a6s hF7 ht7 htX hO7 hBs (.inl hln) hrs hls
 ·have ht3X:=ht3.unX htX
  go_wp2_with fail
  refine(b1t X tb [0,4] _ _ _ w3 0 4 ht3X hX3 rfl rfl (by simp) (by simp) (hid (by simp))).mono ?_;rintro e w4 ⟨hE4,ht4,x,rfl,hx1,hx2⟩;obtain⟨c,rfl⟩:=Int.eq_ofNat_of_zero_le hx1;have hF4:=hF3.trans hE4;go_wp2_with fail
  refine(a4x X tb c w4 ht4 (hX.ext hF4) (by omega)).mono ?_;rintro e w5 ⟨hE5,po,p,pc,rfl,hpl,hpc,hpB,ht5,hP⟩;have hF5:=hF4.trans hE5;have hX5:=hX.ext hF5;have hRC:RC (mk X w5) (.slice po c pc) p:=⟨po,pc,by rw[hpl],by rw[hpl];exact hpc,hP.sl QC.elem⟩;have hL:=b1A X w5 po c pc p 45 hX5 hRC;have htL:=(ht5.unX htX).old (oo:=some ⟨w5.heap.size,0,none⟩) ((ExtX.refl (Y:=noY) w5).alloc (.cells #[.slice po c pc] 45)) (b4n w5);have hFL:ExtX (tbm tb) w (w5.alloc (.cells #[.slice po c pc] 45)):=hF5.alloc _;go_wp2_with fail
  go_ret
  exact a6s hFL htL htX hL (fun r hr q hq=>by rw[List.mem_singleton.1 hr]at hq;exact Nat.le_trans (hpB q hq) (by omega)) (.inl hn1) (fun r hr=>by rw[List.mem_singleton.1 hr];omega) rfl
 ·go_wp2_with fail
  go_loopw [5] (fun s wr=>∃(q:Nat) (ao:Option Addr) (ca:Nat) (m:List (List Rat)),s= .slice ao q ca/\m.length=q/\1<=q/\q<=65/\BM 510 m/\(∀r∈m,r.length<=4)/\OL RC 1 X w.heap.size 45 wr ao ca m/\a0H (un X ao) tb wr/\ExtX (tbm tb) w wr) (fun s _=>65 - lenOf s)
  case atStart=>exact⟨k,oo,co,l,rfl,hk'.out,hl1,by omega,hBM,hr4,hO3,ht3,hF3⟩
  case round=>
   clear hO3 ht3 hF3 hX3;obtain⟨q,ao,ca,m,rfl,hmq,hq1,hq65,hB,hr,hO,htr,hE⟩:=hrel;have hXr:=hX.ext hE;have hb:=hE.size;by_cases hlt:q<65
   ·have h0:0<m.length:=by omega
    obtain⟨u,hc,_,hru⟩:=hO.cell SlV.one 0 h0;obtain⟨a0,c0,rfl,hcl0,hs0⟩:=hru;have hhd:=hO.hd;rw[hmq]at hhd;have hr0:=hr m[0] (List.getElem_mem _);have hB0:=hB m[0] (List.getElem_mem _);have hRC:RC (mk (un X ao) wr) (.slice a0 m[0].length c0) m[0]:=⟨a0,c0,rfl,hcl0,hs0⟩;obtain⟨r,hre⟩:∃r,m[0]=r:=⟨_,rfl⟩;rw[hre]at hc hr0 hB0 hRC;obtain⟨d0,hd0⟩:∃d0,r.length=d0:=⟨_,rfl⟩;rw[hd0]at hc hRC;have hmq':=hid hmq;have hl2:(m++[r]).length=q+1:=by rw[List.length_append,hmq];rfl
    have hB2:BM 510 (m++[r]):=fun x hx=>by
     rcases List.mem_append.1 hx with h|h
     ·exact hB x h
     ·rw[List.mem_singleton.1 h];exact hB0
    have hr2:∀x∈m++[r],x.length<=4:=fun x hx=>by
     rcases List.mem_append.1 hx with h|h
     ·exact hr x h
     ·rw[List.mem_singleton.1 h];exact hr0
    clear hs0 hcl0 hre hd0 hmq h0;go_wp2_with (first
     |(with_reducible refine a0n a0o (by omega) (by assumption) ?_)
     |(at_builtin;refine a0r (l:=m) a0o rfl RC.elem hb hXr q hmq'.out rfl rfl hO (.slice a0 d0 c0) r rfl hRC (by omega) (by omega) ?_;intro oo2 co2 w7 hO7 hE7 hor))
    have hE8:=hE.own hO (Nat.le_refl _) hE7;have ht8:=htr.unstep (hO.not_ob htX) hE7 hor;go_roundw
    case rel=>exact⟨q+1,oo2,co2,_,by go_num,hl2,by omega,by omega,hB2,hr2,hO7,ht8,hE8⟩
    case measure=>simp[lenOf];omega
   ·have hq:q=65:=by omega
    subst hq;go_wp2_with fail
    go_ret
    exact a6s hE htr htX hO hB (.inr rfl) hr hmq
 ·have hhd:=hO3.hd
  rw[hk'.out]at hhd;have h0:0<l.length:=by rw[hk'.out];omega
  obtain⟨u,hc,_,hru⟩:=hO3.cell SlV.one 0 h0;obtain⟨a0,c0,rfl,hcl0,hs0⟩:=hru;have hd0:=hrl l[0] (List.getElem_mem _);obtain⟨dd,hdd⟩:∃dd,d+1=dd:=⟨_,rfl⟩;have hdd4:dd<=4:=by omega
  rw[hd0,hdd]at hc;clear hdd;have hobt:ob oo tb=false:=hO3.not_ob htX;have htd:a0H (un X oo) tb w3.drew:=ht3.ext (ExtX.refl _).drew;have hS:Hid (∀w',ExtX (tbm tb) w3.drew w'->w'.cell? (adr oo 0)=some (.slice a0 dd c0)):=hid fun w' h=>h.cellY (show w3.drew.cell? _=_ from hc) (a2O (b7t hhd (by omega) hobt));have k0:=hS.out _ (ExtX.refl _);have i1:∀m,m<k->∀W,(Instr.indexAt 25 (.slice oo k co) (.int .i64 (m:Int))).run Tryz.prog W= .ok (.pointer (some (adr oo m))) W:=fun m hm=>a0A a0o oo k co .i64 m hhd hm rfl;have i1':=hid i1;have i0:∀W,(Instr.indexAt 25 (.slice oo k co) (.int .i64 0)).run Tryz.prog W= .ok (.pointer (some (adr oo 0))) W:=i1 0 (by omega);have hkb:(k:Int)<=1099511627776:=by omega
  have hOd:=hO3.ext0 RC.elem (ExtX.refl _).drew;have hFd:ExtX (tbm tb) w w3.drew:=hF3.drew;clear hs0 hcl0 hd0 i1 h0 hO3 hF3 ht3 hX3;go_wp2_with fail
  refine a3s 12 (fun w'=>w'.cell? (adr oo 0)=some (.slice a0 dd c0)) (by kernel_rfl) (by kernel_rfl) (hS.out _ (ExtX.refl _)) (fun hHeld hOnce=>?_);clear k0;refine a0f hOnce (i:=0) (oi:=⟨_,_,_,_,_,_⟩) (v:=?_) rfl (by kernel_rfl) (fun _ _ _ h=>h) (by assumption) (by rfl) (fun w hSw=>?_) ?_
  rotate_left
  ·(try dsimp only at hSw)
   go_simp
   all_goals with_reducible rfl
  (try simp only[Act.put,List.setIfInBounds_toArray,List.set_cons_zero,List.set_cons_succ])
  refine a0f hOnce (i:=1) (oi:=⟨_,_,_,_,_,_⟩) (v:=?_) rfl (by kernel_rfl) (fun _ _ _ h=>h) (by assumption) (by rfl) (fun w hSw=>?_) ?_
  rotate_left
  ·(try dsimp only at hSw)
   go_simp
   all_goals with_reducible rfl
  (try simp only[Act.put,List.setIfInBounds_toArray,List.set_cons_zero,List.set_cons_succ])
  refine a0f hOnce (i:=2) (oi:=⟨_,_,_,_,_,_⟩) (v:=?_) rfl (by kernel_rfl) (fun _ _ _ h=>h) (by assumption) (by rfl) (fun w hSw=>?_) ?_
  rotate_left
  ·(try dsimp only at hSw)
   go_simp
   all_goals with_reducible rfl
  (try simp only[Act.put,List.setIfInBounds_toArray,List.set_cons_zero,List.set_cons_succ])
  refine a0f hOnce (i:=3) (oi:=⟨_,_,_,_,_,_⟩) (v:=?_) rfl (by kernel_rfl) (fun _ _ _ h=>h) (by assumption) (by rfl) (fun w hSw=>?_) ?_
  rotate_left
  ·(try dsimp only at hSw)
   go_simp
   all_goals with_reducible rfl
  (try simp only[Act.put,List.setIfInBounds_toArray,List.set_cons_zero,List.set_cons_succ])
  refine a0f hOnce (i:=5) (oi:=⟨_,_,_,_,_,_⟩) (v:=?_) rfl (by kernel_rfl) (fun _ _ _ h=>h) (by assumption) (by rfl) (fun w hSw=>?_) ?_
  rotate_left
  ·(try dsimp only at hSw)
   go_simp
   all_goals with_reducible rfl
  (try simp only[Act.put,List.setIfInBounds_toArray,List.set_cons_zero,List.set_cons_succ])
  refine a0f hOnce (i:=6) (oi:=⟨_,_,_,_,_,_⟩) (v:=?_) rfl (by kernel_rfl) (fun _ _ _ h=>h) (by assumption) (by rfl) (fun w hSw=>?_) ?_
  rotate_left
  ·(try dsimp only at hSw)
   go_simp
   all_goals with_reducible rfl
  (try simp only[Act.put,List.setIfInBounds_toArray,List.set_cons_zero,List.set_cons_succ])
  refine a0f hOnce (i:=7) (oi:=⟨_,_,_,_,_,_⟩) (v:=?_) rfl (by kernel_rfl) (fun _ _ _ h=>h) (by assumption) (by rfl) (fun w hSw=>?_) ?_
  rotate_left
  ·(try dsimp only at hSw)
   go_simp
   all_goals with_reducible rfl
  (try simp only[Act.put,List.setIfInBounds_toArray,List.set_cons_zero,List.set_cons_succ])
  refine a0f hOnce (i:=8) (oi:=⟨_,_,_,_,_,_⟩) (v:=?_) rfl (by kernel_rfl) (fun _ _ _ h=>h) (by assumption) (by rfl) (fun w hSw=>?_) ?_
  rotate_left
  ·(try dsimp only at hSw)
   go_simp
   all_goals with_reducible rfl
  (try simp only[Act.put,List.setIfInBounds_toArray,List.set_cons_zero,List.set_cons_succ])
  refine a0f hOnce (i:=9) (oi:=⟨_,_,_,_,_,_⟩) (v:=?_) rfl (by kernel_rfl) (fun _ _ _ h=>h) (by assumption) (by rfl) (fun w hSw=>?_) ?_
  rotate_left
  ·(try dsimp only at hSw)
   go_simp
   all_goals with_reducible rfl
  (try simp only[Act.put,List.setIfInBounds_toArray,List.set_cons_zero,List.set_cons_succ])
  refine a1s (i:=4) (o:=⟨_,_,_,_,_,_⟩) (by kernel_rfl) rfl (fun K hK=>?_);go_simp
  (go_at_call 40;(with_reducible refine(a0T (un X oo) tb k w3.drew htd hkb).mono ?_);rintro ee w4 ⟨t1,ht4,i,rfl,hi⟩)
  refine hK.out _ _ (hS.out w4 t1) (fun hHeld=>?_);clear hK K
  (try simp only[Act.put,List.setIfInBounds_toArray,List.set_cons_zero,List.set_cons_succ])
  have hik:i<k:=by omega
  have hil:i<l.length:=by rw[hk'.out];exact hik
  have i4:=i1'.out i hik;have hO4:=hOd.ext RC.elem t1 (fun k _ hk=>hsub k hk) (fun _ _ h=>h);have hF4:=hFd.trans t1;have hXu4:HX (un X oo) w4:=hO4.unX (hX.ext hF4);have hd4:dd<=1000:=by omega
  refine a1s (i:=10) (o:=⟨_,_,_,_,_,_⟩) (by kernel_rfl) rfl (fun K hK=>?_);go_simp
  (go_at_call 60;(with_reducible refine(a7d (un X oo) tb dd w4 ht4 hXu4 hd4).mono ?_);rintro ee w5 ⟨t2,po,p,pc,rfl,hpl,hpc,hpB,ht5,hP⟩)
  refine hK.out _ _ (hS.out w5 (t1.trans t2)) (fun hHeld=>?_);clear hK K
  (try simp only[Act.put,List.setIfInBounds_toArray,List.set_cons_zero,List.set_cons_succ])
  have hO5:=hO4.ext RC.elem t2 (fun k _ hk=>hsub k hk) (fun _ _ h=>h);have hF5:=hF4.trans t2;have hRV:RV (mk (un X oo) w5) (.slice po dd pc) p:=⟨po,pc,by rw[hpl],by rw[hpl];exact hpc,hP.sl QV.elem⟩;have ht5u:a0H (un X oo) tb w5:=ht5.unX (a0v htX);have hO6:=hO5.toRV (hBM.le (by omega));obtain⟨_,q0,f0,_⟩:=hO6.cell SlV.one i hil;refine a0f hOnce (i:=11) (oi:=⟨_,_,_,_,_,_⟩) (v:=?_) rfl (by kernel_rfl) (fun _ _ _ h=>h) (by assumption) (by rfl) (fun w hSw=>?_) ?_
  rotate_left
  ·(try dsimp only at hSw)
   go_simp
   all_goals with_reducible rfl
  (try simp only[Act.put,List.setIfInBounds_toArray,List.set_cons_zero,List.set_cons_succ])
  refine a3r (i:=12) (o:=⟨_,_,_,_,_,_⟩) (by kernel_rfl) rfl (by decide) (by kernel_rfl) (fun K hK=>?_);go_simp
  refine hK.out _ _ ?_;clear hK K;obtain⟨hO7,hE7⟩:=hO6.set1 a4H RV.elem SlV.one i hil (.slice po dd pc) p hRV;have hF7:=hF5.own hO6 (Nat.le_refl _) hE7;have ht7:=ht5u.unstep (hO6.not_ob htX) hE7 (.inl rfl);have hls:(l.set i p).length=k:=by rw[List.length_set];exact hk'.out
  have hBs:BM 510 (l.set i p):=hBM.set (fun q hq=>Nat.le_trans (hpB q hq) (by omega)) i;have hrs:∀r∈l.set i p,r.length<=4:=fun r hr=>by
   rcases List.mem_or_eq_of_mem_set hr with hr|rfl
   ·exact hr4 r hr
   ·omega
  clear q0 f0 i0 i4;go_wp2_with fail
  go_ret
  exact a9v hF7 ht7 htX hO7 hBs (.inl hln) hrs hls
 ·obtain⟨n1,n2,n3,n4,n5⟩:=hno
  have t1:((m:Int)==9)=false:=a1S (by omega);have t2:((m:Int)==10)=false:=a1S (by omega);have t3:((m:Int)==11)=false:=a1S (by omega);have t4:((m:Int)==12)=false:=a1S (by omega);have t5:((m:Int)==13)=false:=a1S (by omega);go_wp2_with fail
  go_ret
  exact a6s hF3 ht3 htX hO3 hBM (.inl hln) hr4 hk'.out
def b4y (X:Nat->Bool) (tb B L:Nat) (w:World) (e:Ending) (w':World):Prop:=ExtX (tbm tb) w w'/\a0H X tb w'/\∃v y,e= .returned v/\RV (mk X w') v y/\BR B y/\y.length<=L
def b9u (a b:List Rat):List Rat:=List.zipWith (fun x y=>((1:Int):Rat)/((2:Int):Rat)*(x+y)) a b
theorem b7u {x y:Rat} {B:Nat} (hx:hq x<=B) (hy:hq y<=B):hq (x+y)<=2*B+1/\hq (((1:Int):Rat)/((2:Int):Rat))<=2/\hq (((1:Int):Rat)/((2:Int):Rat)*(x+y))<=2*B+3:=by
 have h1:=b0Q x y;have h2:=b0c (a:=1) (k:=2) (by omega) (by omega) (by omega) (by omega);have h3:=hq_mul (((1:Int):Rat)/((2:Int):Rat)) (x+y);omega
theorem b9f {a b:List Rat} {B:Nat} (ha:BR B a) (hb:BR B b):BR (2*B+3) (b9u a b):=fun q hq'=>by
 unfold b9u at hq';obtain⟨i,hi,rfl⟩:=List.getElem_of_mem hq';rw[List.getElem_zipWith];simp at hi;exact(b7u (ha _ (List.getElem_mem (by omega))) (hb _ (List.getElem_mem (by omega)))).2.2
set_option maxRecDepth 100000 in
set_option maxHeartbeats 3200000 in
theorem b4z (X:Nat->Bool) (tb:Nat) (w:World) (u:Value) (m:List (List Rat)) (B L:Nat) (ht:a0H X tb w) (hX:HX X w) (hu:MV (mk X w) u m) (hm:m.length<=1000) (hB:BM B m) (hL:∀r∈m,r.length<=L) (hBB:B<=1000000000) (hL4:4<=L) (hLL:L<=1000):
  Calls Tryz.prog 38 #[.pointer (some ⟨tb,0,none⟩),u] w (b4y X tb (2*B+3) L w):=by
 have hsub:=a3t ht.1;have htX:=ht.1;obtain⟨po,pc,rfl,hpc,hpp⟩:=hu;obtain⟨f,hf⟩:=hpp.rowsF;have hhd:=hpp.hd;obtain⟨g,hg⟩:∃g:Nat->Nat,∀j (hj:j<m.length),m[j].length=g j:=⟨fun j=>(m.getD j []).length,fun j hj=>by simp[List.getD_eq_getElem?_getD,hj]⟩;have hgd:=hid hg;obtain⟨k,hk⟩:∃k,m.length=k:=⟨_,rfl⟩;have hk':=hid hk;have hB':=hid hB;have hL':=hid hL;have hf':=hid hf;have hpp':=hid hpp;rw[hk]at hpc hhd hm |-;clear hk hB hL hf hpp hg;have hodd:Hid (∀w1,ExtX (tbm tb) w w1->a0H X tb w1->∀c:Nat,c<5->Calls Tryz.prog 60 #[.pointer (some ⟨tb,0,none⟩), .int .i64 (c:Int)] w1 (fun e w'=>b4y X tb (2*B+3) L w e w'/\∃ao n cap,e= .returned (.slice ao n cap))):=hid fun w1 hE1 ht1 c hc=>by
  refine(a7d X tb c w1 ht1 (hX.ext hE1) (by omega)).mono ?_;rintro e w2 ⟨hE2,ao,l,cap,rfl,hl,hcap,hB2,ht2,hO2⟩;exact⟨⟨hE1.trans hE2,ht2.unX htX,_,l,rfl,⟨ao,cap,by rw[hl],by omega,hO2.sl QV.elem⟩,fun q hq=>Nat.le_trans (hB2 q hq) (by omega),by omega⟩,_,_,_,rfl⟩
 by_cases h0:k=0
 ·have t0:((k:Int)==0)=true:=a7w (by omega)
  go_enter Tryz.func38,Tryz.ntmps38
  go_wp2_with fail
  refine(a0T X tb 5 _ ht (by omega)).mono ?_;rintro e w1 ⟨hE1,ht1,c,rfl,hc⟩;go_wp2_with fail
  refine(hodd.out w1 hE1 ht1 c (by omega)).mono ?_;rintro e w2 ⟨h2,ao,n,cap,rfl⟩;go_wp2_with fail
  go_ret
  exact h2
 have t0:((k:Int)==0)=false:=a1S (by omega);go_enter Tryz.func38,Tryz.ntmps38
 go_wp2_with fail
 refine(a7a X tb 12 _ ht (by omega) (by omega)).mono ?_;rintro e w1 ⟨hE1,ht1,b1,rfl⟩;cases b1
 rotate_left 1
 ·go_wp2_with fail
  refine(a0T X tb 5 _ ht1 (by omega)).mono ?_;rintro e w2 ⟨hE2,ht2,c,rfl,hc⟩;go_wp2_with fail
  refine(hodd.out w2 (hE1.trans hE2) ht2 c (by omega)).mono ?_;rintro e w3 ⟨h3,ao,n,cap,rfl⟩;go_wp2_with fail
  go_ret
  exact h3
 clear hodd;have hbt:Hid (∀j,j<k->(adr po j).block≠tb):=hid fun j hj=>by
  obtain⟨u,h1,_⟩:=hpp'.out.cell SlV.one j (by rw[hk'.out];exact hj);intro he;simp[mk,he,htX]at h1
 have hS:Hid (∀w',ExtX (tbm tb) w1.drew w'->∀j,j<k->w'.cell? (adr po j)=some (.slice (f j).1 (g j) (f j).2)):=hid fun w' h j hj=>by
  have hjl:j<m.length:=by rw[hk'.out];exact hj
  have h1:=a1u (hf'.out j hjl).1;rw[hgd.out j hjl]at h1;exact(hE1.drew.trans h).cellY h1 (a2O (hbt.out j hj))
 have htd:a0H X tb w1.drew:=ht1.ext (ExtX.refl _).drew;have i1:∀j,j<k->∀W,(Instr.indexAt 25 (.slice po k pc) (.int .i64 (j:Int))).run Tryz.prog W= .ok (.pointer (some (adr po j))) W:=fun j hj=>a0A a0o po k pc .i64 j hhd hj rfl;have i1':=hid i1;have hkb:(k:Int)<=1099511627776:=by omega
 clear i1;go_wp2_with fail
 go_region_held3 (fun w'=>∀j,j<k->w'.cell? (adr po j)=some (.slice (f j).1 (g j) (f j).2))
  (first|exact hS.out _ (ExtX.refl _)|exact hS.out _ t1|exact hS.out _ (t1.trans t2)|go_keep)
  (first|(go_at_call 40;(with_reducible refine(a0T X tb k w1.drew htd hkb).mono ?_);rintro ee w4 ⟨t1,ht4,m4,rfl,hm4⟩;have hm4k:m4<k:=(by omega);have i4:=i1'.out m4 hm4k)|(go_at_call 40;(with_reducible refine(a0T X tb k w4 ht4 hkb).mono ?_);rintro ee w5 ⟨t2,ht5,m5,rfl,hm5⟩;have hm5k:m5<k:=(by omega);have i5:=i1'.out m5 hm5k)|fail)
 have hla:m4<m.length:=by rw[hk'.out];exact hm4k
 have hlb:m5<m.length:=by rw[hk'.out];exact hm5k
 have hE5:ExtX (tbm tb) w w5:=hE1.trans (((ExtX.refl _).drew).trans (t1.trans t2));obtain⟨_,hca,hsa⟩:=hf'.out m4 hla;obtain⟨_,hcb,hsb⟩:=hf'.out m5 hlb;have hBa:=hid (hB'.out _ (List.getElem_mem hla));have hBb:=hid (hB'.out _ (List.getElem_mem hlb));have hLa:=hL'.out _ (List.getElem_mem hla);have hLb:=hL'.out _ (List.getElem_mem hlb);have ga:=hgd.out m4 hla;have gb:=hgd.out m5 hlb;obtain⟨ra,hra⟩:∃ra,m[m4]=ra:=⟨_,rfl⟩;obtain⟨rb,hrb⟩:∃rb,m[m5]=rb:=⟨_,rfl⟩;obtain⟨⟨aa,ac⟩,hfa⟩:∃q,f m4=q:=⟨_,rfl⟩;obtain⟨⟨ba,bc⟩,hfb⟩:∃q,f m5=q:=⟨_,rfl⟩;rw[hra]at hca hsa hBa hLa ga;rw[hrb]at hcb hsb hBb hLb gb;rw[hfa]at hca hsa;rw[hfb]at hcb hsb
 dsimp only at hca hcb hsa hsb
 obtain⟨da,hda⟩:∃da,ra.length=da:=⟨_,rfl⟩;obtain⟨db,hdb⟩:∃db,rb.length=db:=⟨_,rfl⟩;have hda':=hid hda;have hdb':=hid hdb;have hha:=hsa.hd;have hhb:=hsb.hd;rw[hda]at hca hLa hha ga;rw[hdb]at hcb hLb hhb gb;have ga':=hid ga;have gb':=hid gb;have hfa':=hid hfa;have hfb':=hid hfb;have hX5:=hX.ext hE5;have hsa5:=hsa.mono QV.mono (a0u hE5 hsub);have hsb5:=hsb.mono QV.mono (a0u hE5 hsub);clear hra hrb hfa hfb hS hbt htd ht4 i4 i5 hm4 hm5 t1 t2 hE1 ht1 hsa hsb hda hdb i1' ht ga gb;rw[hfa'.out,hfb'.out,<-ga'.out,<-gb'.out]
 dsimp only
 go_wp2_with fail
 have hrow:Hid (∀w1,ExtX (tbm tb) w w1->a0H X tb w1->Calls Tryz.prog 42 #[.pointer (some ⟨tb,0,none⟩), .int .i64 (da:Int)] w1 (fun e w'=>b4y X tb (2*B+3) L w e w'/\∃ao n cap,e= .returned (.slice ao n cap))):=hid fun w1 hE1 ht1=>by
  refine(a4x X tb da w1 ht1 (hX.ext hE1) (by omega)).mono ?_;rintro e w2 ⟨hE2,ao,l,cap,rfl,hl,hcap,hB2,ht2,hO2⟩;have hRC:RC (mk X w2) (.slice ao da cap) l:=⟨ao,cap,by rw[hl],by omega,hO2.sl QC.elem⟩;exact⟨⟨hE1.trans hE2,ht2.unX htX,_,l,rfl,hRC.rv (fun q hq=>Nat.le_trans (hB2 q hq) (by omega)),fun q hq=>Nat.le_trans (hB2 q hq) (by omega),by omega⟩,_,_,_,rfl⟩
 refine(a7a X tb 3 _ ht5 (by omega) (by omega)).mono ?_;rintro e w6 ⟨hE6,ht6,b2,rfl⟩;have hF6:=hE5.trans hE6;cases b2
 rotate_left 1
 ·go_wp2_with fail
  refine(hrow.out w6 hF6 ht6).mono ?_;rintro e w7 ⟨h7,ao,n,cap,rfl⟩;go_wp2_with fail
  go_ret
  exact h7
 by_cases hab:da=db
 rotate_left 1
 ·have t1:((da:Int) !=(db:Int))=true:=a5C (by omega)
  go_wp2_with fail
  refine(hrow.out w6 hF6 ht6).mono ?_;rintro e w7 ⟨h7,ao,n,cap,rfl⟩;go_wp2_with fail
  go_ret
  exact h7
 have t1:((da:Int) !=(db:Int))=false:=a6k (by omega);have hab':=hid hab;have hab1:da<=db:=by omega
 have hab2:db<=da:=by omega
 clear hab hrow;go_wp2_with fail
 refine(a7a X tb 2 _ ht6 (by omega) (by omega)).mono ?_;rintro e w7 ⟨hE7,ht7,b3,rfl⟩;have hF7:=hF6.trans hE7;have hX7:=hX.ext hF7;have hsa7:=hsa5.mono QV.mono (a0u (hE6.trans hE7) hsub);have hsb7:=hsb5.mono QV.mono (a0u (hE6.trans hE7) hsub);clear hE5 hE6 hE7 ht5 ht6 hF6 hsa5 hsb5;cases b3
 rotate_left 1
 ·go_wp2_with (at_builtin;refine a7K a0J rfl QV.elem w7.heap.size (Nat.le_refl _) hX7 ra da hda'.out rfl rfl hsa7 (by omega) (by omega) ?_;intro po5 pc5 w8 hO8 hc8 hE8)
  go_ret
  exact⟨hF7.trans (ExtX.of hE8),ht7.ext hE8,_,ra,rfl,⟨po5,pc5,by rw[hda'.out];rfl,by rw[hda'.out];exact hc8,hO8.sl QV.elem⟩,fun q hq=>Nat.le_trans (hBa.out q hq) (by omega),by rw[hda'.out];exact hLa⟩
 have hml:Hid ((b9u ra rb).length=da):=hid (by unfold b9u;simp[hda'.out,hdb'.out,hab'.out]);obtain⟨M,hM⟩:∃M,b9u ra rb=M:=⟨_,rfl⟩;have hMB:BR (2*B+3) M:=by rw[<-hM];exact b9f hBa.out hBb.out
 have hMi:=hid (show∀j (h1:j<ra.length) (h2:j<rb.length) (h3:j<M.length),M[j]=((1:Int):Rat)/((2:Int):Rat)*(ra[j]+rb[j])from fun j h1 h2 h3=>by subst hM;simp[b9u]);rw[hM]at hml;clear hM;have hMl1:M.length<=da:=by rw[hml.out];exact Nat.le_refl _
 have hMl2:da<=M.length:=by rw[hml.out];exact Nat.le_refl _
 obtain⟨wo,hwo⟩:∃wo,wo=w7:=⟨_,rfl⟩;subst hwo;go_wp2_with fail
 go_loopw [7,55] (fun o cc wr=>∃(j:Nat) (oo:Option Addr) (co:Nat),cc= .int .i64 j/\o= .slice oo j co/\j<=da/\OL QC 3 X wo.heap.size 32 wr oo co (M.take j)/\Ext wo wr) (fun _ cc _=>da - (intOf cc).toNat)
 case atStart=>exact⟨0,none,0,rfl,rfl,Nat.zero_le _,OL.nil _ _ _ _ _ _,ExtX.refl _⟩
 case round=>
  obtain⟨j,oo,co,rfl,rfl,hj,hO,hE⟩:=hrel;have hXr:HX X wr:=hX7.ext hE;have hXu:HX (un X oo) wr:=hO.unX hXr;have hbase:=hE.size;by_cases hlt:j<da
  ·have hja:j<ra.length:=by rw[hda'.out];exact hlt
   have hjb:j<rb.length:=by rw[hdb'.out];omega
   have hsr:Sl QV 3 (mk (un X oo) wr) aa ra:=hsa7.old QV.mono hE (fun j hj=>hO.ob_lt hj);have hsr2:Sl QV 3 (mk (un X oo) wr) ba rb:=hsb7.old QV.mono hE (fun j hj=>hO.ob_lt hj);have hltM:j<M.length:=by omega
   have htk:=hid (a0S M j hltM);have hln:=hid (a1e (l:=M) (i:=j) (by omega));obtain⟨g1,o1,s1,a1,n1,c1,d1,k1,e1,hg1,hX1,hc1,hq1⟩:=hsr.rat QV.shaped j hja;obtain⟨g2,o2,s2,a2,n2,c2,d2,k2,e2,hg2,hX2,hc2,hq2⟩:=hsr2.rat QV.shaped j hjb;have hob1:=(a0P hX1).2;have hob2:=(a0P hX2).2;have i1:∀W,(Instr.indexAt 45 (.slice aa da ac) (.int .i64 (j:Int))).run Tryz.prog W= .ok (.pointer (some ⟨g1,o1,none⟩)) W:=by rw[<-hg1];exact a0h a0J aa da ac .i64 j hha (by omega)
   have i2:∀W,(Instr.indexAt 45 (.slice ba db bc) (.int .i64 (j:Int))).run Tryz.prog W= .ok (.pointer (some ⟨g2,o2,none⟩)) W:=by rw[<-hg2];exact a0h a0J ba db bc .i64 j hhb (by omega)
   have hbx:=hid (hBa.out _ (List.getElem_mem hja));have hby:=hid (hBb.out _ (List.getElem_mem hjb));have hMj:=hMi.out j hja hjb hltM;obtain⟨x,hx⟩:∃x,ra[j]=x:=⟨_,rfl⟩;obtain⟨y,hy⟩:∃y,rb[j]=y:=⟨_,rfl⟩;rw[hx]at hq1 hbx hMj;rw[hy]at hq2 hby hMj;rw[hMj]at htk;obtain⟨h,hh⟩:∃h,((1:Int):Rat)/((2:Int):Rat)=h:=⟨_,rfl⟩;have hmb:=hid (b7u hbx.out hby.out);have hfr:=hid (fun W (hW:HX (un X oo) W)=>a4q (un X oo) W 1 2 hW (by decide) (by decide) (by decide) (by decide) (by decide) (Nat.le_trans (lgI (by decide) (by decide)) (by decide)) (Nat.le_trans (lgI (by decide) (by decide)) (by decide)));rw[hh]at htk hmb hfr;have hsq:Hid (hq (x+y)<=68719476736):=hid (by have:=hmb.out.1;omega);have hhq:Hid (hq h<=68719476736):=hid (by have:=hmb.out.2.1;omega);have hEd:Ext wr wr.drew:=(ExtX.refl wr).drew;have hS:Hid (∀Y W',ExtX Y wr.drew W'->Y g1=false->Y g2=false->W'.cell? ⟨g1,o1,none⟩=some (.bool s1)/\W'.cell? ⟨g1,o1+1,none⟩=some (.slice a1 n1 c1)/\W'.cell? ⟨g1,o1+2,none⟩=some (.slice d1 k1 e1)/\W'.cell? ⟨g2,o2,none⟩=some (.bool s2)/\W'.cell? ⟨g2,o2+1,none⟩=some (.slice a2 n2 c2)/\W'.cell? ⟨g2,o2+2,none⟩=some (.slice d2 k2 e2)):=hid fun Y W' h hg hb=>by
    have p1:=hc1.out Y W' ((ExtX.of hEd).trans h) hg;have p2:=hc2.out Y W' ((ExtX.of hEd).trans h) hb;exact⟨p1.1,p1.2.1,p1.2.2,p2.1,p2.2.1,p2.2.2⟩
   obtain⟨k00,k01,k02,k10,k11,k12⟩:=hS.out noY wr.drew (ExtX.refl _) rfl rfl;have hxd:QV (mk (un X oo) wr.drew) (.agg #[.bool s1, .slice a1 n1 c1, .slice d1 k1 e1]) x:=hq1;have hyd:QV (mk (un X oo) wr.drew) (.agg #[.bool s2, .slice a2 n2 c2, .slice d2 k2 e2]) y:=hq2;have hXd:HX (un X oo) wr.drew:=hXu;clear hc1 hg1 hq1 hc2 hg2 hq2 hx hy hMj hh;go_wp2_with fail
   go_region_held3 (fun w'=>w'.cell? ⟨g1,o1,none⟩=some (.bool s1)/\w'.cell? ⟨g1,o1+1,none⟩=some (.slice a1 n1 c1)/\w'.cell? ⟨g1,o1+2,none⟩=some (.slice d1 k1 e1)/\w'.cell? ⟨g2,o2,none⟩=some (.bool s2)/\w'.cell? ⟨g2,o2+1,none⟩=some (.slice a2 n2 c2)/\w'.cell? ⟨g2,o2+2,none⟩=some (.slice d2 k2 e2))
    (first|exact hS.out (ob oo) _ ((ExtX.of t123).trans hE7) hob1 hob2|exact hS.out noY _ (ExtX.alloc t123 _) rfl rfl|exact hS.out noY _ t123 rfl rfl|exact hS.out noY _ t12 rfl rfl|exact hS.out noY _ t1 rfl rfl|go_keep)
    (first
     |(go_at_call 50;(with_reducible refine(hfr.out wr.drew hXd).mono ?_);rintro ee w6 ⟨t1,u6,rfl,hu6⟩;obtain⟨s6,a6,n6,c6,d6,k6,e6,rfl⟩:=hu6.shape;have hX6:=hXd.ext t1;have hu6v:=hu6.qv hhq.out;have hx6:=mkx QV.mono hxd t1;have hy6:=mkx QV.mono hyd t1)
     |(go_at_call 98;(with_reducible refine(b5O (un X oo) w6 _ _ x y hX6 hx6 hy6).mono ?_);rintro ee w7 ⟨t2,u7,rfl,hu7⟩;obtain⟨s7,a7,n7,c7,d7,k7,e7,rfl⟩:=hu7.shape;have t12:=t1.trans t2;have hX7':=hXd.ext t12;have hu7v:=hu7.qv hsq.out;have hf7:=mkx QV.mono hu6v t2)
     |(go_at_call 77;(with_reducible refine(b3E (un X oo) w7 _ _ h (x+y) hX7' hf7 hu7v).mono ?_);rintro ee w8 ⟨t3,u8,rfl,hu8⟩;obtain⟨s8,a8,n8,c8,d8,k8,e8,rfl⟩:=hu8.shape;have t123:=t12.trans t3;have hO8:=hO.ext0 QC.elem (hEd.trans t123);have hb8:=(hEd.trans t123).size;have hX8:=hXr.ext (hEd.trans t123))
     |(refine a1J (l:=M.take j) rfl (by rfl) a0J rfl QC.elem (by omega) hX8 j hln.out rfl rfl hO8 (.agg #[.bool s8, .slice a8 n8 c8, .slice d8 k8 e8]) (h*(x+y)) rfl hu8 (by omega) (by omega) ?_;intro oo2 co2 w9 hO9 hE7 hor)
     |fail)
   have hE9:=(hE.trans (hEd.trans t123)).own hO8 (Nat.le_refl _) hE7;rw[htk.out]at hO9;clear k00 k01 k02 k10 k11 k12;go_wp2_with fail
   go_roundw
   case rel=>exact⟨j+1,oo2,co2,by go_num,by go_num,by omega,hO9,hE9⟩
   case measure=>simp[intOf];omega
  ·have hjl:j=da:=by omega
   subst hjl;rw[List.take_of_length_le (by omega)]at hO;have hc:=hO.lenCap;have hRC:RC (mk X wr) (.slice oo j co) M:=⟨oo,co,by rw[hml.out],hc,hO.sl QC.elem⟩;go_wp2_with fail
   go_ret
   exact⟨hF7.trans (ExtX.of hE),ht7.ext hE,_,M,rfl,hRC.rv (fun q hq=>Nat.le_trans (hMB q hq) (by omega)),hMB,by rw[hml.out];exact hLa⟩
end Go.Proofs.YtoibhmjjhgaimaaGreat
namespace Go.Lin
open Go.Lim Go.Rep
def P4:Mat:=[[0],[1],[2],[3]]
end Go.Lin
namespace Go.Proofs.YtoibhmjjhgaimaaGreat
open Go.RowKit Go.Rep Go.Lim Go.Lin
theorem b4X (w:World):HX noY w:=fun k hk=>by simp[noY]at hk
end Go.Proofs.YtoibhmjjhgaimaaGreat
namespace Go.Lin
open Go.Lim Go.Rep
def P3:Mat:=[[0],[1],[2]]
theorem b9g:BM 2 P3:=by
 intro r hr q hq;have:(P3.all fun r=>r.all fun q=>decide (Go.Lim.hq q<=2))=true:=by decide+kernel
 rw[List.all_eq_true]at this;have:=this r hr;rw[List.all_eq_true]at this;simpa using this q hq
theorem c0v (i:Nat) (h:i<P3.length):P3[i]= [((i:Nat):Rat)]:=by
 match i,h with
 |0,_=>rfl
 |1,_=>rfl
 |2,_=>rfl
theorem b9v (q:Mat) (x:Rat) (b:Bool) (h:a2z q [x]=true) (hc:a0l q=1) (e:decide (0<q.length - max (a2P 1 [1] (a1a 1 q [x])) (a4W 1 [1] (a1a 1 q [x])))=b):decide (0<a6g q [x])=b:=by
 have h1:=b3Y (a1a 1 q [x]);have e2:(a1a 1 q [x]).length=q.length:=by simp[a1a]
 rw[e2]at h1;rw[a4w h (by rw[hc];exact h1)];exact e
theorem c1n:a0s 3 2 0= [[0,1],[0,2],[1,2]]:=by decide
theorem c0w (x:List Rat) (h:sdE P3 x=0) (hx:x.length=1):sdL P3 x= [[0,1],[0,2],[1,2]]:=by
 unfold sdL;rw[h,if_pos rfl,hx];exact c1n
theorem c0x:sdE P3 [1]=0:=by decide+kernel
theorem c0y:sdE P3 [mkRat 3 2]=0:=by decide+kernel
theorem c1o:sdL P3 [1]= [[0,1],[0,2],[1,2]]:=c0w _ c0x rfl
theorem c1p:sdL P3 [mkRat 3 2]= [[0,1],[0,2],[1,2]]:=c0w _ c0y rfl
theorem c1q:a4i P3 [1] [[0,1],[0,2],[1,2]]=3:=by
 have a:inS P3 [1] [0,1]=true:=b9v _ _ _ (by decide+kernel) (by decide+kernel) (by decide+kernel);have b:inS P3 [1] [0,2]=true:=b9v _ _ _ (by decide+kernel) (by decide+kernel) (by decide+kernel);have c:inS P3 [1] [1,2]=true:=b9v _ _ _ (by decide+kernel) (by decide+kernel) (by decide+kernel);simp[a4i,a,b,c]
theorem c1r:a4i P3 [mkRat 3 2] [[0,1],[0,2],[1,2]]=2:=by
 have a:inS P3 [mkRat 3 2] [0,1]=false:=b9v _ _ _ (by decide+kernel) (by decide+kernel) (by decide+kernel);have b:inS P3 [mkRat 3 2] [0,2]=true:=b9v _ _ _ (by decide+kernel) (by decide+kernel) (by decide+kernel);have c:inS P3 [mkRat 3 2] [1,2]=true:=b9v _ _ _ (by decide+kernel) (by decide+kernel) (by decide+kernel);simp[a4i,a,b,c]
end Go.Lin
namespace Go.Proofs.YtoibhmjjhgaimaaGreat
open Go.RowKit Go.Rep Go.Lim Go.Lin
set_option maxRecDepth 100000 in
set_option maxHeartbeats 800000 in
theorem a0X (w:World):Calls Tryz.prog 36 #[] w (a7A w true):=by
 go_enter Tryz.func36,Tryz.ntmps36
 go_wp2_with fail
 go_loopw [1,2] (fun o cx wr=>∃(i:Nat) (po:Option Addr) (pc:Nat),cx= .int .i64 i/\o= .slice po i pc/\i<=3/\OL RC 1 noY w.heap.size 45 wr po pc (P3.take i)/\Ext w wr) (fun _ cx _=>3 - (intOf cx).toNat)
 case atStart=>exact⟨0,none,0,rfl,rfl,Nat.zero_le _,OL.nil _ _ _ _ _ _,ExtX.refl _⟩
 case round=>
  obtain⟨i,po,pc,rfl,rfl,hi,hO,hE⟩:=hrel;by_cases hlt:i<3
  ·have hil:i<P3.length:=hlt
   have htk:=hid (a0S P3 i hil);have hln:=hid (a1e (l:=P3) (i:=i) (Nat.le_of_lt hil));have hg:=hid (c0v i hil);rw[hg.out]at htk;have hXu:HX (un noY po) wr:=hO.unX (b4X wr);have hiv:Hid ((((i:Int):Rat))=((i:Nat):Rat)):=hid rfl;go_wp2_with fail
   refine(a4b (un noY po) wr (i:Int) hXu (by omega) (by omega)).mono ?_;rintro e w5 ⟨hE5,u5,rfl,hu5⟩;rw[hiv.out]at hu5;obtain⟨s5,a5,n5,c5,d5,m5,e5,rfl⟩:=hu5.shape;have hL1:=(a6q (un noY po) w5 s5 a5 n5 c5 d5 m5 e5 ((i:Nat):Rat) 32 (hXu.ext hE5) hu5).sl QC.elem;have hEA:Ext w5 (w5.alloc (.cells #[.bool s5, .slice a5 n5 c5, .slice d5 m5 e5] 32)):=(ExtX.refl _).alloc _;obtain⟨wA,hwA⟩:∃wA,w5.alloc (.cells #[.bool s5, .slice a5 n5 c5, .slice d5 m5 e5] 32)=wA:=⟨_,rfl⟩;obtain⟨gA,hgA⟩:∃gA:Option Addr,some ⟨w5.heap.size,0,none⟩=gA:=⟨_,rfl⟩;rw[hwA,hgA]at hL1;rw[hwA]at hEA;have hOA:=hO.ext0 RC.elem (hE5.trans hEA);have hRC:RC (mk (un noY po) wA) (.slice gA 1 1) [((i:Nat):Rat)]:=⟨gA,1,rfl,Nat.le_refl _,hL1⟩;have hbA:=(hE.trans (hE5.trans hEA)).size;have hEwA:=hE.trans (hE5.trans hEA);clear hO hu5 hL1;go_wp2_with (at_builtin;refine a0r (l:=P3.take i) a0o rfl RC.elem hbA (b4X wA) i hln.out rfl rfl hOA (.slice gA 1 1) [((i:Nat):Rat)] rfl hRC (by omega) (by omega) ?_;intro oo2 co2 w7 hO7 hE7 hor)
   have hE8:=hEwA.own hOA (Nat.le_refl _) hE7;rw[htk.out]at hO7;go_roundw
   case rel=>exact⟨i+1,oo2,co2,by go_num,by go_num,by omega,hO7,hE8⟩
   case measure=>simp[intOf];omega
  ·have hi4:i=3:=by omega
   subst hi4;have ht4:P3.take 3=P3:=rfl;rw[ht4]at hO;have hP:=(hO.toRV (b9g.le (by decide))).sl RV.elem;have hPc:=hO.lenCap;have hPV:MV (mk noY wr) (.slice po 3 pc) P3:=⟨po,pc,rfl,hPc,hP⟩;obtain⟨a1,c1,hX1,hc1,hcl1,hq1⟩:=hP.row 1 (by decide);have k00:=hc1.out noY wr (ExtX.refl _) rfl;have hh:Hd po 3:=hP.hd;have hrow:RV (mk noY wr) (.slice a1 1 c1) [1]:=⟨a1,c1,rfl,hcl1,hq1⟩;have hd1:=a2V noY wr (.slice po 3 pc) (.slice a1 1 c1) P3 [1] 2 (b4X wr) hPV hrow (by decide) b9g (fun q hq=>by rw[List.mem_singleton.1 hq];decide+kernel) (by decide) (by decide);unfold a3v at hd1;rw[c0x,c1o,c1q]at hd1;have k01:wr.cell? (adr po 1)=some (.slice a1 1 c1):=k00;clear k00 hc1 hO hP;go_wp2_with (with_reducible refine a0n a0o (by omega) (by assumption) ?_)
   refine hd1.mono ?_;rintro e w2 ⟨hE2,rfl⟩;clear hd1 k01;have hEw2:=hE.trans hE2;go_wp2_with fail
   refine(a4q noY w2 3 2 (b4X w2) (by decide) (by decide) (by decide) (by decide) (by decide) (by decide+kernel) (by decide+kernel)).mono ?_;rintro e w3 ⟨hE3,u3,rfl,hu3⟩;have hf2:((3:Int):Rat)/((2:Int):Rat)=mkRat 3 2:=by decide+kernel
   rw[hf2]at hu3;obtain⟨s3,a3,n3,c3,d3,m3,e3,rfl⟩:=hu3.shape;have hL3:=(a6q noY w3 s3 a3 n3 c3 d3 m3 e3 (mkRat 3 2) 32 (b4X w3) hu3).sl QC.elem;have hEA:Ext w3 (w3.alloc (.cells #[.bool s3, .slice a3 n3 c3, .slice d3 m3 e3] 32)):=(ExtX.refl _).alloc _;obtain⟨wA,hwA⟩:∃wA,w3.alloc (.cells #[.bool s3, .slice a3 n3 c3, .slice d3 m3 e3] 32)=wA:=⟨_,rfl⟩;obtain⟨gA,hgA⟩:∃gA:Option Addr,some ⟨w3.heap.size,0,none⟩=gA:=⟨_,rfl⟩;rw[hwA,hgA]at hL3;rw[hwA]at hEA;have hEw3:=hEw2.trans (hE3.trans hEA);have hd2:=a2V noY wA (.slice po 3 pc) (.slice gA 1 1) P3 [mkRat 3 2] 2 (b4X wA) (mkx MV.mono hPV (hE2.trans (hE3.trans hEA))) ⟨gA,1,rfl,Nat.le_refl _,hL3.qv fun q hq=>by rw[List.mem_singleton.1 hq];decide+kernel⟩ (by decide) b9g (fun q hq=>by rw[List.mem_singleton.1 hq];decide+kernel) (by decide) (by decide);unfold a3v at hd2;rw[c0y,c1p,c1r]at hd2;clear hL3 hu3 hrow;go_wp2_with fail
   refine hd2.mono ?_;rintro e w4 ⟨hE4,rfl⟩;clear hd2;have hEw4:=hEw3.trans hE4;go_wp2_with fail
   go_ret
   exact⟨hEw4,rfl⟩
set_option maxRecDepth 100000 in
set_option maxHeartbeats 1600000 in
theorem a7L (X:Nat->Bool) (w:World) (u v:Value) (l m:List Rat) (hX:HX X w) (hu:RV (mk X w) u l) (hv:RV (mk X w) v m) (hn:l.length<=1000000) (hml:m.length=l.length) (hb1:∀k,k<=l.length->hq (a6j l m k)<=68719476736) (hb2:∀k,k<l.length->hq (l.getD k 0*m.getD k 0)<=68719476736):
  Calls Tryz.prog 35 #[u,v] w (a1Z X w QC (b0X l m)):=by
 obtain⟨ao,ca,rfl,hca,hsa⟩:=hu;obtain⟨bo,cb,rfl,hcb,hsb⟩:=hv;have hha:=hsa.hd;have hhb:=hsb.hd;obtain⟨W,hW,hE,b0,b1,hz⟩:=a2a w #[.bool false, .slice none 0 0, .slice none 0 0] #[.bool false, .slice none 0 0, .slice none 0 0] 32 32;have hXW:HX (a0e X w.heap.size 2) W:=hX.boxes hz;have h0:QC (mk (a0e X w.heap.size 2) W) (.agg #[.bool false, .slice none 0 0, .slice none 0 0]) (a6j l m 0):=QC.zero _;obtain⟨n,hln⟩:∃n,l.length=n:=⟨_,rfl⟩;rw[hln]at hn hml hb1 hb2 hca hha |-;rw[hml]at hcb hhb |-;have hln':=hid hln;have hml':=hid hml;have hb1':=hid hb1;have hb2':=hid hb2;have hdot:Hid (a6j l m n=b0X l m):=hid (by unfold b0X;rw[hln]);clear hln hml hb1 hb2;go_enter Tryz.func35,Tryz.ntmps35
 go_wp2_with fail
 obtain⟨b,hb⟩:∃b,w.heap.size=b:=⟨_,rfl⟩;have hle:Hid (∀wr,Ext w wr->Le (mk X w) (mk (a0e X b 2) wr)):=hid fun wr h=>by rw[<-hb];exact a0q h
 have hbw:w.heap.size<=b:=by omega
 rw[hb]at b0 b1 hXW h0 |-;clear hW;go_loopw [9] (fun k wr=>∃(i:Nat) (s:Bool) (a:Option Addr) (n' c':Nat) (d:Option Addr) (kk e:Nat),k= .int .i64 i/\i<=n/\Bx wr b #[.bool false, .slice none 0 0, .slice none 0 0] 32/\Bx wr (b+1) #[.bool s, .slice a n' c', .slice d kk e] 32/\QC (mk (a0e X b 2) wr) (.agg #[.bool s, .slice a n' c', .slice d kk e]) (a6j l m i)/\HX (a0e X b 2) wr/\Ext w wr) (fun k _=>n - (intOf k).toNat)
 case atStart=>exact⟨0,_,_,_,_,_,_,_,rfl,Nat.zero_le _,b0,b1,h0,hXW,hE⟩
 case round=>
  obtain⟨i,s,a,n',c',d,kk,e,rfl,hi,b0,b1,hq,hXr,hEr⟩:=hrel;by_cases hlt:i<n
  ·have hil:i<l.length:=by rw[hln'.out];exact hlt
   have him:i<m.length:=by rw[hml'.out];exact hlt
   have hsr:=hsa.mono QV.mono (hle.out wr hEr);have hsr2:=hsb.mono QV.mono (hle.out wr hEr);obtain⟨g1,o1,s1,p1,n1,q1,d1,k1,e1,hg1,hX1,hc1,hq1⟩:=hsr.rat QV.shaped i hil;obtain⟨g2,o2,s2,p2,n2,q2,d2,k2,e2,hg2,hX2,hc2,hq2⟩:=hsr2.rat QV.shaped i him;have gl:Hid (l.getD i 0=l[i]):=hid (by simp[List.getD_eq_getElem?_getD,hil]);have gm:Hid (m.getD i 0=m[i]):=hid (by simp[List.getD_eq_getElem?_getD,him]);have hst:Hid (a6j l m i+l[i]*m[i]=a6j l m (i+1)):=hid (by rw[<-gl.out,<-gm.out];rfl);have hbo:=hid (hb1'.out i hi);have hbp:=hid (hb2'.out i hlt);rw[gl.out,gm.out]at hbp;obtain⟨x,hx⟩:∃x,l[i]=x:=⟨_,rfl⟩;obtain⟨y,hy⟩:∃y,m[i]=y:=⟨_,rfl⟩;rw[hx,hy]at hst hbp;rw[hx]at hq1;rw[hy]at hq2;have i1:∀W,(Instr.indexAt 45 (.slice ao n ca) (.int .i64 (i:Int))).run Tryz.prog W= .ok (.pointer (some ⟨g1,o1,none⟩)) W:=by rw[<-hg1];exact a0h a0J ao n ca .i64 i hha (by omega)
   have i2:∀W,(Instr.indexAt 45 (.slice bo n cb) (.int .i64 (i:Int))).run Tryz.prog W= .ok (.pointer (some ⟨g2,o2,none⟩)) W:=by rw[<-hg2];exact a0h a0J bo n cb .i64 i hhb (by omega)
   obtain⟨D,hD⟩:∃D,a6j l m i=D:=⟨_,rfl⟩;obtain⟨D2,hD2⟩:∃D2,a6j l m (i+1)=D2:=⟨_,rfl⟩;rw[hD]at hq hst hbo;rw[hD2]at hst;have hD2':=hid hD2;clear hx hy hg1 hg2 hD hD2;have hE5d:Ext wr wr.drew:=(ExtX.refl wr).drew;have b05:=b0.ext0 hE5d;have b15:=b1.ext0 hE5d;have k00:=b15.cell 0 rfl;have k01:=b15.cell 1 rfl;have k02:=b15.cell 2 rfl;obtain⟨k10,k11,k12⟩:=hc1.out noY wr.drew hE5d rfl;obtain⟨k20,k21,k22⟩:=hc2.out noY wr.drew hE5d rfl;have hXd:=hXr.ext hE5d;have hx5:QV (mk (a0e X b 2) wr.drew) (.agg #[.bool s1, .slice p1 n1 q1, .slice d1 k1 e1]) x:=mkx QV.mono hq1 hE5d;have hy5:QV (mk (a0e X b 2) wr.drew) (.agg #[.bool s2, .slice p2 n2 q2, .slice d2 k2 e2]) y:=mkx QV.mono hq2 hE5d;have hq5:QV (mk (a0e X b 2) wr.drew) (.agg #[.bool s, .slice a n' c', .slice d kk e]) D:=(mkx QC.mono hq hE5d).qv hbo.out;clear hc1 hc2;go_wp2_with fail
   go_region_with (first|(go_at_call 77;(with_reducible refine(b3E (a0e X b 2) wr.drew _ _ _ _ hXd hx5 hy5).mono ?_);rintro ee w6 ⟨t1,u6,rfl,hu6⟩;obtain⟨s6,a6,n6,c6,d6,k6,e6,rfl⟩:=hu6.shape;have hX6:=hXd.ext t1;have hq6:=mkx QV.mono hq5 t1;have hm6:=hu6.qv hbp.out;have b16:=b15.ext0 t1;have m0:=b16.cell 0 rfl;have m1:=b16.cell 1 rfl;have m2:=b16.cell 2 rfl)|(go_at_call 98;(with_reducible refine(b5O (a0e X b 2) w6 _ _ _ _ hX6 hq6 hm6).mono ?_);rintro ee w7 ⟨t7,u7,rfl,hu7⟩;obtain⟨s7,a7,n7,c7,d7,k7,e7,rfl⟩:=hu7.shape;rw[hst.out]at hu7;have b17:=b16.ext0 t7;have g0:=b17.cell 0 rfl;have g1':=b17.cell 1 rfl;have g2':=b17.cell 2 rfl;have f0:=b17.frozen 0;have f1:=b17.frozen 1;have f2:=b17.frozen 2))
   all_goals
    obtain⟨z1,z2⟩:=b17.set3 (.bool s7) (.slice a7 n7 c7) (.slice d7 k7 e7);have h8:=QC.mono _ _ _ _ (a0i (lo:=b) (nb:=2) z2 (by omega) (by omega)) hu7;have b08:=((b05.ext0 t1).ext0 t7).ext z2 (a0b (by omega));have hE8:Ext w _:=ExtX.box (hEr.trans (hE5d.trans (t1.trans t7))) z2 (by omega);have hX8:=(hX6.ext t7).ext z2;rw[<-hD2'.out]at h8;clear k00 k01 k02 k10 k11 k12 k20 k21 k22 m0 m1 m2 g0 g1' g2' f0 f1 f2 i1 i2;go_wp2_with fail
    go_roundw
    case rel=>exact⟨i+1,_,_,_,_,_,_,_,by go_num,by omega,b08,z1,h8,hX8,hE8⟩
    case measure=>simp[intOf];omega
  ·have hin:i=n:=by omega
   subst hin;rw[hdot.out]at hq;have k00:=b1.cell 0 rfl;have k01:=b1.cell 1 rfl;have k02:=b1.cell 2 rfl;go_wp2_with ((with_reducible show wpList _ _ _ (⟨_, .store _ _ _,_,_,_,_⟩::_) _ _);refine a0c a0w rfl rfl b0 rfl rfl (a2C _ _ _ _ _ _ _) ?_;intro w7 r1 r2)
   have h7:=QC.mono _ _ _ _ a0k (QC.mono _ _ _ _ (a0i r2 (by omega) (by omega)) hq);exact bodyPost_ret (a0d rfl rfl a0w r1 rfl) rfl ⟨ExtX.box hEr r2 (by omega),_,rfl,h7⟩
end Go.Proofs.YtoibhmjjhgaimaaGreat
namespace Go.Lin
end Go.Lin
namespace Go.Proofs.YtoibhmjjhgaimaaGreat
open Go.RowKit Go.Rep Go.Lim Go.Lin
end Go.Proofs.YtoibhmjjhgaimaaGreat
namespace Go.Lin
open Go.Lim Go.Rep
theorem b4A {z:Mat} {p:List Nat} {i:Nat} (hi:i<z.length) (h:i<(a1T z p).length):(a1T z p)[i]=p.map fun q=>z[i].getD q 0:=by simp[a1T]
theorem b6D {B:Nat} {z:Mat} {p:List Nat} (h:BM B z) (hB:1<=B):BM B (a1T z p):=fun r hr q hq'=>by
 unfold a1T at hr;obtain⟨s,hs,rfl⟩:=List.mem_map.1 hr;obtain⟨j,_,rfl⟩:=List.mem_map.1 hq';exact brD (h s hs) hB j
end Go.Lin
namespace Go.Proofs.YtoibhmjjhgaimaaGreat
open Go.RowKit Go.Rep Go.Lim Go.Lin
set_option maxRecDepth 100000 in
set_option maxHeartbeats 800000 in
theorem b4B (X:Nat->Bool) (w:World) (u:Value) (z:List (List Rat)) (po:Option Addr) (p:List Nat) (pc c:Nat) (hX:HX X w) (hu:MV (mk X w) u z) (hsh:∀r∈z,r.length=c) (hz:z.length<=1000) (hp:Sl (a0a .i64) 1 (mk X w) po p) (_hpc:p.length<=pc) (hpl:p.length<=1000) (hb:∀x∈p,x<c):
  Calls Tryz.prog 159 #[u, .slice po p.length pc] w (a1Z X w MV (a1T z p)):=by
 obtain⟨M,hM⟩:∃M,a1T z p=M:=⟨_,rfl⟩;have hMl:Hid (M.length=z.length):=hid (by rw[<-hM];simp[a1T]);have hMr:Hid (∀i (hi:i<z.length) (h:i<M.length),M[i]=p.map fun q=>z[i].getD q 0):=hid fun i hi h=>by subst hM;exact b4A hi h
 obtain⟨n,hn⟩:∃n,z.length=n:=⟨_,rfl⟩;obtain⟨k,hk⟩:∃k,p.length=k:=⟨_,rfl⟩;have hn':=hid hn;have hk':=hid hk;have hsh':=hid hsh;have hb':=hid hb;have hhp:=hp.hd;rw[hM];obtain⟨ua,uca,rfl,huca,hua⟩:=hu;have hhu:=hua.hd;rw[hn]at hMl hz huca hhu |-;rw[hk]at hhp hpl |-;have hMl2:M.length<=n:=by rw[hMl.out];exact Nat.le_refl _
 have hMl3:n<=M.length:=by rw[hMl.out];exact Nat.le_refl _
 clear hM hn hk hsh hb;go_enter Tryz.func159,Tryz.ntmps159
 go_wp2_with fail
 go_loopw [5,13] (fun o cc wr=>∃(i:Nat) (oo:Option Addr) (co:Nat),cc= .int .i64 i/\o= .slice oo i co/\i<=n/\OL RV 1 X w.heap.size 45 wr oo co (M.take i)/\Ext w wr) (fun _ cc _=>n - (intOf cc).toNat)
 case atStart=>exact⟨0,none,0,rfl,rfl,Nat.zero_le _,OL.nil _ _ _ _ _ _,ExtX.refl _⟩
 case round=>
  obtain⟨i,oo,co,rfl,rfl,hi,hO,hE⟩:=hrel;have hXr:HX X wr:=hX.ext hE;have hXu:HX (un X oo) wr:=hO.unX hXr;have hbase:=hE.size;by_cases hlt:i<n
  ·have hiz:i<z.length:=by rw[hn'.out];exact hlt
   have hltM:i<M.length:=by omega
   have htk:=hid (a0S M i hltM);have hln:=hid (a1e (l:=M) (i:=i) (by omega));obtain⟨R,hR⟩:∃R,M[i]=R:=⟨_,rfl⟩;have hRd:=hMr.out i hiz hltM;rw[hR]at hRd htk;have hsr:Sl RV 1 (mk (un X oo) wr) ua z:=hua.old RV.mono hE (fun j hj=>hO.ob_lt hj);have hpr:Sl (a0a .i64) 1 (mk (un X oo) wr) po p:=hp.old (a0a.mono _) hE (fun j hj=>hO.ob_lt hj);obtain⟨a1,c1,hX1,hc1,hcl1,hq1⟩:=hsr.row i hiz;have k00:=hc1.out noY wr (ExtX.refl _) rfl;have hrl:Hid (z[i].length=c):=hid (hsh'.out z[i] (List.getElem_mem _));obtain⟨x,hx⟩:∃x,z[i]=x:=⟨_,rfl⟩;rw[hrl.out]at k00 hcl1;have hh1:Hd a1 c:=by have:=hq1.hd;rw[hrl.out]at this;exact this
   rw[hx]at hq1 hRd hrl;have hRl:Hid (R.length=k):=hid (by rw[hRd,<-hk'.out];simp);have hRi:Hid (∀j (hj:j<p.length) (h:j<R.length) (hh:p[j]<x.length),R[j]=x[p[j]]):=hid fun j hj h hh=>by subst hRd;simp[List.getD_eq_getElem?_getD,hh]
   have hRl2:R.length<=k:=by rw[hRl.out];exact Nat.le_refl _
   have hRl3:k<=R.length:=by rw[hRl.out];exact Nat.le_refl _
   clear hRd hR hx hc1;obtain⟨wo,hwo⟩:∃wo,wo=wr:=⟨_,rfl⟩;subst hwo;go_wp2_with (with_reducible refine a0n a0o (by omega) (by assumption) ?_)
   go_loopw [8,19] (fun o cc wx=>∃(j:Nat) (ro:Option Addr) (cr:Nat),cc= .int .i64 j/\o= .slice ro j cr/\j<=k/\OL QV 3 (un X oo) wo.heap.size 32 wx ro cr (R.take j)/\Ext wo wx) (fun _ cc _=>k - (intOf cc).toNat)
   case atStart=>exact⟨0,none,0,rfl,rfl,Nat.zero_le _,OL.nil _ _ _ _ _ _,ExtX.refl _⟩
   case round=>
    obtain⟨j,ro,cr,rfl,rfl,hj,hOr,hEr⟩:=hrel;have hXx:HX (un X oo) wr:=hXu.ext hEr;have hXy:HX (un (un X oo) ro) wr:=hOr.unX hXx;have hbr:=hEr.size;clear k00;by_cases hlj:j<k
    ·have hjp:j<p.length:=by rw[hk'.out];exact hlj
     have hjR:j<R.length:=by omega
     have htj:=hid (a0S R j hjR);have hlnj:=hid (a1e (l:=R) (i:=j) (by omega));have hpq:p[j]<c:=hb'.out p[j] (List.getElem_mem _);have hpx:p[j]<x.length:=by rw[hrl.out];exact hpq
     have hRj:=hRi.out j hjp hjR hpx;rw[hRj]at htj;have k01:=(hpr.mono (a0a.mono _) (a0m hEr)).nat j hjp;have hq2:Sl QV 3 (mk (un (un X oo) ro) wr) a1 x:=hq1.old QV.mono hEr (fun j hj=>hOr.ob_lt hj);obtain⟨q,hq⟩:∃q,p[j]=q:=⟨_,rfl⟩;simp only[hq]at hpq hpx htj k01;obtain⟨v,hv⟩:∃v,x[q]=v:=⟨_,rfl⟩;rw[hv]at htj;have hv':=hid hv;clear hRj hq hv;go_wp2_with (first|(with_reducible refine a0n a1G (by omega) (by assumption) ?_)|(with_reducible refine a1E a0J (by omega) (by assumption) ?_)|((with_reducible show wpList _ _ _ (⟨_, .load 32 _,_,_,_,_⟩::_) _ _);refine a0W a0w q hq2 hpx rfl (by simp) QV.agg ?_;intro u5 hu5;rw[hv'.out]at hu5;obtain⟨s5,a5,n5,c5,d5,k5,e5,rfl⟩:=hu5.shape)|(at_builtin;refine a0r (l:=R.take j) a0J rfl QV.elem (by omega) hXx j hlnj.out rfl rfl hOr (.agg #[.bool s5, .slice a5 n5 c5, .slice d5 k5 e5]) v rfl hu5 (by omega) (by omega) ?_;intro oo2 co2 w7 hO7 hE7 hor))
     have hE8:=hEr.own hOr (Nat.le_refl _) hE7;rw[htj.out]at hO7;go_roundw
     case rel=>exact⟨j+1,oo2,co2,by go_num,by go_num,by omega,hO7,hE8⟩
     case measure=>simp[intOf];omega
    ·have hjk:j=k:=by omega
     subst hjk;rw[List.take_of_length_le (by omega)]at hOr;have hcr:=hOr.lenCap;have hsR:=hOr.sl QV.elem;have hO6:=hO.ext0 RV.elem hEr;have hRC:RV (mk (un X oo) wr) (.slice ro j cr) R:=⟨ro,cr,by rw[hRl.out],hcr,hsR⟩;go_wp2_with (at_builtin;refine a0r (l:=M.take i) a0o rfl RV.elem (by omega) (hXr.ext hEr) i hln.out rfl rfl hO6 (.slice ro j cr) R rfl hRC (by omega) (by omega) ?_;intro oo2 co2 w7 hO7 hE7 hor)
     have hE8:=(hE.trans hEr).own hO6 (Nat.le_refl _) hE7;rw[htk.out]at hO7;go_roundw
     case rel=>exact⟨i+1,oo2,co2,by go_num,by go_num,by omega,hO7,hE8⟩
     case measure=>simp[intOf];omega
  ·have hil:i=n:=by omega
   subst hil;rw[List.take_of_length_le (by omega)]at hO;have hc:=hO.lenCap;have hs:=hO.sl RV.elem;go_wp2_with fail
   go_ret
   exact⟨hE,_,rfl,oo,co,by rw[hMl.out];rfl,by rw[hMl.out];rw[hMl.out]at hc;exact hc,hs⟩
def c0z (w:World) (a b:Nat) (e:Ending) (w':World):Prop:=Ext w w'/\e= .returned (.tuple #[.int .i64 (a:Int), .int .i64 (b:Int)])
set_option maxRecDepth 100000 in
set_option maxHeartbeats 800000 in
theorem b1B (X:Nat->Bool) (w:World) (u v:Value) (z:List (List Rat)) (y:List Rat) (c B C:Nat) (hX:HX X w) (hu:MV (mk X w) u z) (hv:RV (mk X w) v y) (hsh:∀r∈z,r.length=c) (hy:y.length=c) (hc3:c<=1000) (hz:z.length<=1000) (hzB:BM B z) (hyC:BR C y) (hB1:1<=B) (hC1:1<=C) (hBC:B+C<=60000000):
  Calls Tryz.prog 160 #[u,v] w (c0z w (a2P c y z) (a4W c y z)):=by
 obtain⟨n,hn⟩:∃n,z.length=n:=⟨_,rfl⟩;have hn':=hid hn;have hsh':=hid hsh;have hzB':=hid hzB;have hy':=hid hy;obtain⟨va,vca,rfl,hvca,hva⟩:=hv;obtain⟨ua,uca,rfl,huca,hua⟩:=hu;have hhu:=hua.hd;have hfin:Hid (a2P c y (z.take n)=a2P c y z/\a4W c y (z.take n)=a4W c y z):=hid (by rw[<-hn,List.take_length];exact⟨rfl,rfl⟩);rw[hn]at hz huca hhu |-;clear hn hsh hzB hy;go_enter Tryz.func160,Tryz.ntmps160
 go_wp2_with fail
 go_loopw [6,7,12] (fun a b cc wr=>∃i:Nat,cc= .int .i64 i/\i<=n/\a= .int .i64 (a2P c y (z.take i):Int)/\b= .int .i64 (a4W c y (z.take i):Int)/\Ext w wr) (fun _ _ cc _=>n - (intOf cc).toNat)
 case atStart=>exact⟨0,rfl,Nat.zero_le _,rfl,rfl,ExtX.refl _⟩
 case round=>
  obtain⟨i,rfl,hi,rfl,rfl,hE⟩:=hrel;have hXr:HX X wr:=hX.ext hE;by_cases hlt:i<n
  ·have hiz:i<z.length:=by rw[hn'.out];exact hlt
   have hsr:=hua.mono RV.mono (a0m hE);obtain⟨a1,c1,hX1,hc1,hcl1,hq1⟩:=hsr.row i hiz;have k00:=hc1.out noY wr (ExtX.refl _) rfl;have hrl:=hsh'.out z[i] (List.getElem_mem _);have hrB:=hzB'.out z[i] (List.getElem_mem _);have hps:=hid (a6V c y hiz);have hns:=hid (b3S c y hiz);have hpl:=a9U c y (z.take i);have hnl:=a9V c y (z.take i);rw[List.length_take]at hpl hnl;have hdv:=hid (a9S (u:=y) (z:=z[i]) hy'.out);have hdb:=a4S (l:=y) (m:=z[i]) hyC hrB hC1 hB1 (by
    rw[hy'.out];have:c*(C+B+1)<=1000*(C+B+1):=Nat.mul_le_mul_right _ hc3;omega)
   have hdot:=a7L X wr (.slice va y.length vca) (.slice a1 z[i].length c1) y z[i] hXr ⟨va,vca,rfl,hvca,hva.mono QV.mono (a0m hE)⟩ ⟨a1,c1,rfl,hcl1,hq1⟩ (by rw[hy'.out];omega) (by rw[hy'.out];exact hrl) hdb.1 hdb.2;have hdq:Hid (hq (b0X y z[i])<=68719476736):=hid (hdb.1 _ (Nat.le_refl _));rw[<-hdv.out]at hps hns;rw[hrl]at k00 hdot;obtain⟨D,hD⟩:∃D,b0X y z[i]=D:=⟨_,rfl⟩;rw[hD]at hps hns hdot hdq;obtain⟨P,hP⟩:∃P,a2P c y (z.take i)=P:=⟨_,rfl⟩;obtain⟨Q,hQ⟩:∃Q,a4W c y (z.take i)=Q:=⟨_,rfl⟩;rw[hP]at hps hpl |-;rw[hQ]at hns hnl |-;have hP1:P<=1000000:=by omega
   have hQ1:Q<=1000000:=by omega
   clear hc1 hrl hrB hdb hD hP hQ hdv hcl1 hq1 hpl hnl;rcases a1y D with⟨hs,hsg⟩|⟨hs,hsg⟩|⟨hs,hsg⟩
   ·have hp2:Hid (Value.int .i64 ((P+1:Nat):Int)= .int .i64 (a2P c y (z.take (i+1)):Int)):=hid (by rw[hps.out,if_pos hs])
    have hn2:Hid (Value.int .i64 (Q:Int)= .int .i64 (a4W c y (z.take (i+1)):Int)):=hid (by rw[hns.out,if_neg (by grind)];rfl);have hsg':=hid hsg;clear hs hsg hps hns;go_wp2_with (with_reducible refine a0n a0o (by omega) (by assumption) ?_)
    refine hdot.mono ?_;rintro e w5 ⟨hE5,u5,rfl,hu5⟩;go_wp2_with fail
    refine(a6f X w5 u5 D (hXr.ext hE5) (hu5.qv hdq.out)).mono ?_;rintro e w6 ⟨hE6,rfl⟩;rw[hsg'.out];have hE9:=hE.trans (hE5.trans hE6);clear k00 hdot;go_wp2_with fail
    go_roundw
    case rel=>exact⟨i+1,by go_num,by omega,by rw[<-hp2.out];go_num,by rw[<-hn2.out],hE9⟩
    case measure=>simp[intOf];omega
   ·have hp2:Hid (Value.int .i64 (P:Int)= .int .i64 (a2P c y (z.take (i+1)):Int)):=hid (by rw[hps.out,if_neg (by grind)];rfl)
    have hn2:Hid (Value.int .i64 (Q:Int)= .int .i64 (a4W c y (z.take (i+1)):Int)):=hid (by rw[hns.out,if_neg (by grind)];rfl);have hsg':=hid hsg;clear hs hsg hps hns;go_wp2_with (with_reducible refine a0n a0o (by omega) (by assumption) ?_)
    refine hdot.mono ?_;rintro e w5 ⟨hE5,u5,rfl,hu5⟩;go_wp2_with fail
    refine(a6f X w5 u5 D (hXr.ext hE5) (hu5.qv hdq.out)).mono ?_;rintro e w6 ⟨hE6,rfl⟩;rw[hsg'.out];have hE9:=hE.trans (hE5.trans hE6);clear k00 hdot;go_wp2_with fail
    go_roundw
    case rel=>exact⟨i+1,by go_num,by omega,by rw[<-hp2.out],by rw[<-hn2.out],hE9⟩
    case measure=>simp[intOf];omega
   ·have hp2:Hid (Value.int .i64 (P:Int)= .int .i64 (a2P c y (z.take (i+1)):Int)):=hid (by rw[hps.out,if_neg (by grind)];rfl)
    have hn2:Hid (Value.int .i64 ((Q+1:Nat):Int)= .int .i64 (a4W c y (z.take (i+1)):Int)):=hid (by rw[hns.out,if_pos hs]);have hsg':=hid hsg;clear hs hsg hps hns;go_wp2_with (with_reducible refine a0n a0o (by omega) (by assumption) ?_)
    refine hdot.mono ?_;rintro e w5 ⟨hE5,u5,rfl,hu5⟩;go_wp2_with fail
    refine(a6f X w5 u5 D (hXr.ext hE5) (hu5.qv hdq.out)).mono ?_;rintro e w6 ⟨hE6,rfl⟩;rw[hsg'.out];have hE9:=hE.trans (hE5.trans hE6);clear k00 hdot;go_wp2_with fail
    go_roundw
    case rel=>exact⟨i+1,by go_num,by omega,by rw[<-hp2.out],by rw[<-hn2.out];go_num,hE9⟩
    case measure=>simp[intOf];omega
  ·have hin:i=n:=by omega
   subst hin;obtain⟨f1,f2⟩:=hfin.out;obtain⟨P,hP⟩:∃P,a2P c y z=P:=⟨_,rfl⟩;obtain⟨Q,hQ⟩:∃Q,a4W c y z=Q:=⟨_,rfl⟩;rw[f1,f2,hP,hQ];have hPQ:=hid (⟨hP,hQ⟩:a2P c y z=P/\a4W c y z=Q);clear f1 f2 hP hQ hfin;go_wp2_with fail
   go_ret2
   exact⟨hE,by rw[hPQ.out.1,hPQ.out.2];rfl⟩
end Go.Proofs.YtoibhmjjhgaimaaGreat
namespace Go.Rep
open Go.RowKit Go.Lim
abbrev b0f (X:Nat->Bool) (fb:Nat):Nat->Bool:=un X (some ⟨fb,0,none⟩)
abbrev a7f (X:Nat->Bool) (fb:Nat) (po oo:Option Addr):Nat->Bool:=un (un (b0f X fb) po) oo
structure RS (X:Nat->Bool) (w0:World) (b fb base:Nat) (T1 T2 T3:TypeId) (w:World) (oo:Option Addr) (co:Nat) (po:Option Addr) (pc:Nat) (M:List (List Rat)) (p:List Nat) (f:Rat):Prop where
 rows:OL RC 1 (un (b0f X fb) po) base T1 w oo co M
 piv:OL (a0a .i64) 1 (un (b0f X fb) oo) base T3 w po pc p
 fac:∃s a n c d k e,Bx w fb #[.bool s, .slice a n c, .slice d k e] T2/\QC (mk (a7f X fb po oo) w) (.agg #[.bool s, .slice a n c, .slice d k e]) f
 hx:HX X w
 res:Bx w b #[.bool false, .slice none 0 0, .slice none 0 0] T2
 rb:X b=true
 fb0:fb≠b
 ext:Ext w0 w
 low:w0.heap.size<=base
 lowf:w0.heap.size<=fb
section
variable {X:Nat->Bool} {w0 w w':World} {b fb base:Nat} {T1 T2 T3:TypeId} {oo po:Option Addr} {co pc:Nat} {M M':List (List Rat)} {p:List Nat} {f f':Rat}
theorem RS.oF (h:RS X w0 b fb base T1 T2 T3 w oo co po pc M p f):ob oo fb=false:=by
 cases hb:ob oo fb
 ·rfl
 ·have:=h.rows.1 fb hb;rw[a0v (a0y (a9M fb))]at this;simp at this
theorem RS.pF (h:RS X w0 b fb base T1 T2 T3 w oo co po pc M p f):ob po fb=false:=by
 cases hb:ob po fb
 ·rfl
 ·have:=h.piv.1 fb hb;rw[a0v (a0y (a9M fb))]at this;simp at this
theorem RS.oB (h:RS X w0 b fb base T1 T2 T3 w oo co po pc M p f):ob oo b=false:=by
 cases hb:ob oo b
 ·rfl
 ·have:=h.rows.1 b hb;rw[a0v (a0v h.rb)]at this;simp at this
theorem RS.pB (h:RS X w0 b fb base T1 T2 T3 w oo co po pc M p f):ob po b=false:=by
 cases hb:ob po b
 ·rfl
 ·have:=h.piv.1 b hb;rw[a0v (a0v h.rb)]at this;simp at this
theorem RS.po_oo (h:RS X w0 b fb base T1 T2 T3 w oo co po pc M p f) (k:Nat) (hk:ob po k=true):ob oo k=false:=(a0P (h.piv.1 k hk)).2
theorem RS.flt (h:RS X w0 b fb base T1 T2 T3 w oo co po pc M p f):fb<w.heap.size:=by
 obtain⟨_,_,_,_,_,_,_,h1,_⟩:=h.fac;exact h1.lt
theorem RS.hz (h:RS X w0 b fb base T1 T2 T3 w oo co po pc M p f):HX (a7f X fb po oo) w:=fun k hk=>by
 by_cases h1:ob oo k=true
 ·exact(h.rows.block h1).2
 ·by_cases h2:ob po k=true
  ·exact(h.piv.block h2).2
  ·by_cases h3:X k=true
   ·exact h.hx k h3
   ·have h1':ob oo k=false:=by simpa using h1
    have h2':ob po k=false:=by simpa using h2
    have h3':X k=false:=by simpa using h3
    have h4:ob (some ⟨fb,0,none⟩) k=true:=by simpa[a7f,b0f,un,h1',h2',h3']using hk
    have:fb=k:=by simpa[ob]using h4
    rw[<-this];exact h.flt
theorem RS.row (h:RS X w0 b fb base T1 T2 T3 w oo co po pc M p f) (i:Nat) (hi:i<M.length):∃a c,w.cell? (adr oo i)=some (.slice a M[i].length c)/\w.frozen? (adr oo i)=false/\M[i].length<=c/\Sl QC 3 (_root_.Go.Rep.mk (a7f X fb po oo) w) a M[i]:=by
 obtain⟨u,h1,h2,a,c,rfl,h4,h5⟩:=h.rows.cell SlV.one i hi;exact⟨a,c,h1,h2,h4,h5⟩
theorem RS.ext0 (h:RS X w0 b fb base T1 T2 T3 w oo co po pc M p f) (hE:Ext w w'):RS X w0 b fb base T1 T2 T3 w' oo co po pc M p f:=by
 obtain⟨s,a,n,c,d,k,e,h1,h2⟩:=h.fac;exact⟨h.rows.ext0 RC.elem hE,h.piv.ext0 (a0a.elem _) hE,⟨s,a,n,c,d,k,e,h1.ext0 hE,mkx QC.mono h2 hE⟩,h.hx.ext hE,h.res.ext0 hE,h.rb,h.fb0,h.ext.trans hE,h.low,h.lowf⟩
theorem RS.setRows (h:RS X w0 b fb base T1 T2 T3 w oo co po pc M p f) (hE:ExtX (ob oo) w w') (hO:OL RC 1 (un (b0f X fb) po) base T1 w' oo co M'):RS X w0 b fb base T1 T2 T3 w' oo co po pc M' p f:=by
 obtain⟨s,a,n,c,d,k,e,h1,h2⟩:=h.fac;exact⟨hO,h.piv.frame (a0a.pure _) hE (fun k hk=>h.po_oo k hk) h.piv.1,⟨s,a,n,c,d,k,e,h1.ext hE h.oF,QC.mono _ _ _ _ (a0u hE fun k hk=>a0y hk) h2⟩,h.hx.ext hE,h.res.ext hE h.oB,h.rb,h.fb0,h.ext.own h.rows h.low hE,h.low,h.lowf⟩
theorem RS.setFac (h:RS X w0 b fb base T1 T2 T3 w oo co po pc M p f) (hE:ExtX (ob (some ⟨fb,0,none⟩)) w w') {s:Bool} {a:Option Addr} {n c:Nat} {d:Option Addr} {k e:Nat} (hB:Bx w' fb #[.bool s, .slice a n c, .slice d k e] T2) (hq:QC (_root_.Go.Rep.mk (a7f X fb po oo) w') (.agg #[.bool s, .slice a n c, .slice d k e]) f'):RS X w0 b fb base T1 T2 T3 w' oo co po pc M p f':=by
 have hf:∀k,ob (some ⟨fb,0,none⟩) k=true->k=fb:=fun k hk=>by
  have:fb=k:=by simpa[ob]using hk
  exact this.symm
 refine⟨h.rows.ext RC.elem hE (fun k _ hk=>a0v (a0y hk)) (fun _ _ h=>h),h.piv.frame (a0a.pure _) hE (fun k hk=>?_) h.piv.1,⟨s,a,n,c,d,k,e,hB,hq⟩,h.hx.ext hE,h.res.ext hE (a0b (Ne.symm h.fb0)),h.rb,h.fb0,h.ext.then_ hE fun k hk _=>?_,h.low,h.lowf⟩
 ·cases hb:ob (some ⟨fb,0,none⟩) k
  ·rfl
  ·have:=hf k hb;subst this;rw[h.pF]at hk;simp at hk
 ·cases hb:ob (some ⟨fb,0,none⟩) k
  ·rfl
  ·have:=hf k hb;have:=h.lowf;omega
theorem RS.push (h:RS X w0 b fb base T1 T2 T3 w oo co po pc M p f) {po2:Option Addr} {pc2 j:Nat} (hE:ExtX (ob po) w w') (hP:OL (a0a .i64) 1 (un (b0f X fb) oo) base T3 w' po2 pc2 (p++[j])) (hor:po2=po\/∃g,po2=some ⟨g,0,none⟩/\w.heap.size<=g):RS X w0 b fb base T1 T2 T3 w' oo co po2 pc2 M (p++[j]) f:=by
 obtain⟨s,a,n,c,d,k,e,h1,h2⟩:=h.fac;have hold:∀k,k<w.heap.size->ob po2 k=true->ob po k=true:=fun k hk h9=>by
  rcases hor with rfl|⟨g,rfl,hg⟩
  ·exact h9
  ·have:g=k:=by simpa[ob]using h9
   omega
 have hF:∀k,k<w.heap.size->un (b0f X fb) po2 k=true->un (b0f X fb) po k=true:=fun k hk hz=>by
  by_cases hx:b0f X fb k=true
  ·exact a0v hx
  ·exact a0y (hold k hk (by simpa[un,hx]using hz))
 refine⟨h.rows.ext RC.elem hE (fun k _ hk=>a0y hk) hF,hP,⟨s,a,n,c,d,k,e,h1.ext hE h.pF,QC.mono _ _ _ _ (a1g hE (fun k _ hk=>a0v (a0y hk)) fun k hk hz=>?_) h2⟩,h.hx.ext hE,h.res.ext hE h.pB,h.rb,h.fb0,h.ext.own h.piv h.low hE,h.low,h.lowf⟩;by_cases ho:ob oo k=true
 ·exact a0y ho
 ·exact a0v (hF k hk (by simpa[un,ho]using hz))
end
end Go.Rep
namespace Go.Lin
open Go.Lim
def a9w (m:Mat) (c:Nat):Prop:=∃B,6*B<=68719476736/\∀j,j<=c->HB B (rN m j).1/\hq (rN m j).2.2<=B
theorem b9h {n c:Nat} {m:Mat} (hs:Shp n c m) (k:Nat):(rN m k).2.1.length<=n:=(b1Q hs k).ref.le
theorem b1C {n c B:Nat} {m:Mat} (hs:Shp n c m) (h:HB B m) (hB:6*(6^n*B)<=68719476736):a9w m c:=
 ⟨6^n*B,hB,fun j _=>by
  obtain⟨h1,h2⟩:=h.rN hs j;have hp:6^(rN m j).2.1.length*B<=6^n*B:=Nat.mul_le_mul_right _ (Nat.pow_le_pow_right (by decide) (b9h hs j));exact⟨h1.mono hp,Nat.le_trans h2 hp⟩⟩
theorem b4C (m:Mat) (k:Nat):rN m (k+1)=a5F (rN m k) k:=rfl
theorem a4k {m:Mat} {i:Nat} (h:i<m.length):m.getD i []=m[i]:=by simp[List.getD_eq_getElem?_getD,h]
theorem b0g {m:Mat} {i:Nat} (h:i<m.length) (j:Nat):ent m i j=(m[i]).getD j 0:=by unfold ent;rw[a4k h]
theorem b9i {m:Mat} {n t col:Nat} (hl:m.length=n) (h:∀q,t<=q->q<n->ent m q col=0):b2D m t col=none:=by
 unfold b2D;rw[List.findIdx?_eq_none_iff];intro r hr;obtain⟨i,hi,rfl⟩:=List.getElem_of_mem hr;rw[List.length_drop]at hi;have:=h (t+i) (by omega) (by omega);rw[b0g (by omega)]at this;simpa using this
theorem b9j {m:Mat} {n t col a:Nat} (hl:m.length=n) (h:∀q,t<=q->q<t+a->ent m q col=0) (ha:t+a<n) (hne:ent m (t+a) col≠0):b2D m t col=some a:=by
 unfold b2D;rw[List.findIdx?_eq_some_iff_getElem];refine⟨by rw[List.length_drop];omega,?_,fun j hj=>?_⟩
 ·rw[List.getElem_drop,<-b0g (by omega)];simpa using hne
 ·rw[List.getElem_drop,<-b0g (by omega)];simpa using h (t+j) (by omega) (by omega)
theorem b6E (m:Mat) (t col:Nat):out m t col 0=m:=by
 unfold out rows;refine List.ext_getElem (by simp) fun q h1 h2=>?_;rw[List.getElem_mapIdx,if_neg (by omega)]
theorem a4V (m:Mat) (t col s:Nat):(out m t col s).length=m.length:=by simp[out,rows]
theorem a5U {m:Mat} {t col s i:Nat} (h:i<(out m t col s).length) (h2:i<m.length):(out m t col s)[i]=if i≠t/\i<s then List.zipWith (· + ·) m[i] ((m.getD t []).map (· * - m[i].getD col 0))else m[i]:=by
 show(m.mapIdx _)[i]'(by simpa using h2)=_
 rw[List.getElem_mapIdx]
theorem b9k {m:Mat} {t col s:Nat} (h:s<m.length) (hst:s≠t):(out m t col s).set s (List.zipWith (· + ·) m[s] ((m.getD t []).map (· * - m[s].getD col 0)))=out m t col (s+1):=by
 refine List.ext_getElem (by simp[a4V]) fun q h1 h2=>?_;have hq:q<m.length:=by rw[a4V]at h2;exact h2
 rw[List.getElem_set,a5U h2 hq];split
 ·subst_vars;rw[if_pos ⟨hst,by omega⟩]
 ·rw[a5U (by simpa[a4V]using hq) hq]
  by_cases a:q≠t/\q<s
  ·rw[if_pos a,if_pos ⟨a.1,by omega⟩]
  ·rw[if_neg a,if_neg (by omega)]
theorem b6F {m:Mat} {t col:Nat}:out m t col t=out m t col (t+1):=by
 refine List.ext_getElem (by simp[a4V]) fun q h1 h2=>?_;have hq:q<m.length:=by rw[a4V]at h2;exact h2
 rw[a5U h1 hq,a5U h2 hq];by_cases a:q≠t/\q<t
 ·rw[if_pos a,if_pos ⟨a.1,by omega⟩]
 ·rw[if_neg a,if_neg (by omega)]
theorem b4D {m:Mat} {i k:Nat} (hi:i<m.length) (hk:k<m.length):(m.set i m[k]).set k m[i]=a1b m i k:=by
 unfold a1b;rw[a4k hi,a4k hk]
theorem c0A {n c:Nat} {m M:Mat} {P:List Nat} {f:Rat} {j pl a:Nat} (hs:Shp n c m) (hst:rN m j=(M,P,f)) (hpl:P.length=pl) (hz:∀q,pl<=q->q<pl+a->ent M q j=0) (ha:pl+a<n) (hne:ent M (pl+a) j≠0):
  rN m (j+1)=(out (pv (a1b M (pl+a) pl) pl j) pl j n,P++[j],(if a=0 then f else - f)*ent (a1b M (pl+a) pl) pl j):=by
 have hM:Shp n c M:=by have:=(b1Q hs j).shp;rw[hst]at this;exact this
 subst hpl;rw[b4C,hst];unfold a5F
 dsimp only
 rw[b9j hM.1 hz ha hne]
 dsimp only
 rw[hM.1]
theorem b9l {n c:Nat} {m M:Mat} {P:List Nat} {f:Rat} {j pl:Nat} (hs:Shp n c m) (hst:rN m j=(M,P,f)) (hpl:P.length=pl) (hz:∀q,pl<=q->q<n->ent M q j=0):rN m (j+1)=(M,P,f):=by
 have hM:Shp n c M:=by have:=(b1Q hs j).shp;rw[hst]at this;exact this
 subst hpl;rw[b4C,hst];unfold a5F
 dsimp only
 rw[b9i hM.1 hz]
end Go.Lin
namespace Go.Rep
open Go.RowKit
theorem b4E {X:Nat->Bool} {b k:Nat} (h:X b=true) (hk:ob (some ⟨b,0,none⟩) k=true):X k=true:=by
 have:b=k:=by simpa[ob]using hk
 subst this;exact h
section
variable {P:Program} {w:World}
theorem b0h {fn:Func} {tmps:Array Value} {c d e:Tmp} {t:TypeId} {n b:Nat} {cs:Array Value} {T:TypeId} (h:fn.results=#[.tmp d, .tmp e, .cell c t]) (hp:tmps.getD c undef= .pointer (some ⟨b,0,none⟩)) (hT:a2J P t n) (hb:Bx w b cs T) (hcs:cs.size=n):
  (results fn tmps).run P w= .ok (.tuple #[tmps.getD d undef,tmps.getD e undef, .agg cs]) w:=by
 have hl:=a2K (P:=P) hT hb hcs;rw[Array.getD_eq_getD_getElem?]at hp;simp[results,h,hp,asAddr,hl]
end
end Go.Rep
