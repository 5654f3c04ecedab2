/- Parts of a proof: each theorem states what it proves, and its conditions. -/
import Derived.Test.YtidbbddagfnfbaaGreatSgO
import Derived.WalkKit
import Derived.ProofKit
import Derived.OpenShut
import Derived.ShutString
import Derived.ChangeOld
import Derived.Below
import Derived.Deep.Slices
import Derived.Deep.Fields
import Derived.ChangeSame
import Derived.Test.YtidbbddagfnfbaaGreatRows
import Derived.JoinedOf
namespace Go.Proofs.YtidbbddagfnfbaaGreat
open Go.RowKit Go.Rep Go.Lim
def a6W (X:Nat->Bool) (tb n:Nat) (w:World) (e:Ending) (w':World):Prop:=ExtX (tbm tb) w w'/\a0K X tb w'/\∃vx vy p y,e= .returned (.tuple #[vx,vy])/\MV (mk X w') vx p/\RV (mk X w') vy y/\BM 4 p/\BR 4 y/\p.length<=n/\y.length<=n+1/\((∀r∈p,r.length<=4)\/(∀r∈p,12<=r.length/\r.length<=13))
theorem a9u {X:Nat->Bool} {b a:Nat} {T:TypeId} {w:World} {oo:Option Addr} {l:List (List Rat)} (c:OL RV 1 X b T w oo a l):MV (mk X w) (.slice oo l.length a) l:=⟨oo,a,rfl,c.lenCap,c.sl RV.elem⟩
theorem b4C {B C:Nat} {l:List Rat} (h:BR B l) (a:B<=C):BR C l:=fun q hq=>Nat.le_trans (h q hq) a
set_option maxRecDepth 100000 in
set_option maxHeartbeats 3200000 in
theorem b0A (X:Nat->Bool) (tb n:Nat) (w:World) (u v:Value) (p:List (List Rat)) (y:List Rat) (ht:a0K X tb w) (hX:HX X w) (hu:MV (mk X w) u p) (hv:RV (mk X w) v y) (hp1:1<=p.length) (hpn:p.length<=n) (hn:n<=8) (hyl:y.length=p.length) (hpB:BM 4 p) (hyB:BR 4 y) (hpr:∀r∈p,r.length<=4):
  Calls Tryz.prog 36 #[.pointer (some ⟨tb,0,none⟩),u,v] w (a6W X tb n w):=by
 have hsub:=a3B ht.1;have htX:=ht.1;obtain⟨po,pc,rfl,hpc,hps⟩:=id hu;obtain⟨yo,yc,rfl,hyc,hys⟩:=id hv;obtain⟨k,hk⟩:∃k,p.length=k:=⟨_,rfl⟩;have hk':=hid hk;rw[hyl]at hyc hv;rw[hk]at hp1 hpn hpc hyc hv;have hyk:=hid (hyl.trans hk);rw[hyl,hk];clear hu hys hk hyl;go_enter Tryz.func36,Tryz.ntmps36
 go_wp2_with (at_builtin;refine a8j a0s rfl RV.elem hX p rfl rfl hk'.out.symm hps (by omega) (by omega) ?_;intro oo co w1 hO1 hE1)
 have ht1:=ht.old hE1 (fun j hj=>hO1.ob_lt hj);have hX1:=hX.ext hE1;have hF1:ExtX (tbm tb) w w1:=ExtX.of hE1;have hv1:RV (mk (un X oo) w1) (.slice yo k yc) y:=a5Q RV.mono hv hE1 (fun j hj=>hO1.ob_lt hj);clear hps hE1 hv;refine(a1C (un X oo) tb 6 w1 ht1 (by omega)).mono ?_;rintro e w3 ⟨hE3,ht3,m,rfl,hm⟩;have hO3:=hO1.ext RV.elem hE3 (fun k _ hk=>hsub k hk) (fun _ _ h=>h);have hF3:=hF1.trans hE3;have hX3:=hX.ext hF3;have hv3:RV (mk (un X oo) w3) (.slice yo k yc) y:=RV.mono _ _ _ _ (a0w hE3 fun k hk=>a0f (hsub k hk)) hv1;clear hO1 hF1 ht1 hE3 hv1;have hcase:m=0\/m=1\/m=2\/m=3\/m=4\/m=5:=by omega
 rcases hcase with rfl|rfl|rfl|rfl|rfl|rfl
 ·have hd1:Hid (((k:Int)+1)=((k+1:Nat):Int)):=hid (by omega)
  have hXu3:HX (un X oo) w3:=hO3.unX hX3;clear hv3;go_wp2_with fail
  rw[hd1.out];refine(a5r (un X oo) tb (k+1) w3 ht3 hXu3 (by omega)).mono ?_;rintro e w6 ⟨hE6,zo,z,zc,rfl,hzl,hzc,hzB,ht6,hZ⟩;have hO6:=hO3.ext RV.elem hE6 (fun k _ hk=>hsub k hk) (fun _ _ h=>h);have hm6:=a9u hO6;rw[hk'.out]at hm6;have hRC:RC (mk (un X oo) w6) (.slice zo (k+1) zc) z:=⟨zo,zc,by rw[hzl],by rw[hzl];exact hzc,hZ.sl QC.elem⟩;have hRV:=RV.mono _ _ _ _ (a1u (X:=X) fun k _ hk=>a0f hk) (RC.rv hRC (fun q hq=>Nat.le_trans (hzB q hq) (by decide)));have hout:a6W X tb n w (.returned (.tuple #[.slice oo k co, .slice zo (k+1) zc])) w6:=⟨hF3.trans hE6,(ht6.unX (a0f htX)).unX htX,_,_,p,z,rfl,hm6,hRV,hpB,b4C hzB (by decide),by rw[hk'.out];exact hpn,by omega, .inl hpr⟩;have hout':=hid hout;clear hout hm6 hRC hRV hO6 hZ;go_wp2_with fail
  go_ret2
  exact hout'.out
 ·have hout:a6W X tb n w (.returned (.tuple #[.slice none 0 0, .slice none 0 0])) w3:=⟨hF3,ht3.unX htX,_,_,[],[],rfl,SlV.zero _ _ _,SlV.zero _ _ _,fun r hr=>by simp at hr,fun r hr=>by simp at hr,by simp,by simp, .inl fun r hr=>by simp at hr⟩
  have hout':=hid hout;clear hout;go_wp2_with fail
  go_ret2
  exact hout'.out
 ·go_wp2_with fail
  refine(a1C (un X oo) tb k w3 ht3 (by omega)).mono ?_;rintro e w4 ⟨hE4,ht4,i,rfl,hi⟩;go_wp2_with fail
  refine(a1C (un X oo) tb 5 w4 ht4 (by omega)).mono ?_;rintro e w5 ⟨hE5,ht5,c,rfl,hc⟩;have hE45:=hE4.trans hE5;have hO5:=hO3.ext RV.elem hE45 (fun k _ hk=>hsub k hk) (fun _ _ h=>h);have hF5:=hF3.trans hE45;have hXu5:=hO5.unX (hX.ext hF5);go_wp2_with fail
  refine(a5r (un X oo) tb c w5 ht5 hXu5 (by omega)).mono ?_;rintro e w6 ⟨hE6,zo,z,zc,rfl,hzl,hzc,hzB,ht6,hZ⟩;have hO6:=hO5.ext RV.elem hE6 (fun k _ hk=>hsub k hk) (fun _ _ h=>h);have hF6:=hF5.trans hE6;have hRC:RC (mk (un X oo) w6) (.slice zo c zc) z:=⟨zo,zc,by rw[hzl],by rw[hzl];exact hzc,hZ.sl QC.elem⟩;have hRV:=RC.rv hRC (fun q hq=>Nat.le_trans (hzB q hq) (by decide));have ht6u:a0K (un X oo) tb w6:=ht6.unX (a0f htX);have hik:i<k:=by omega
  have hil:i<p.length:=by rw[hk'.out];exact hik
  have hhd:=hO6.hd;rw[hk'.out]at hhd;have hls:(p.set i z).length=k:=by rw[List.length_set];exact hk'.out
  have hBs:BM 4 (p.set i z):=hpB.set (b4C hzB (by decide)) i;have hrs:∀r∈p.set i z,r.length<=4:=fun r hr=>by
   rcases List.mem_or_eq_of_mem_set hr with hr|rfl
   ·exact hpr r hr
   ·omega
  have hv6:RV (mk (un X oo) w6) (.slice yo k yc) y:=RV.mono _ _ _ _ (a0w (hE45.trans hE6) fun k hk=>a0f (hsub k hk)) hv3;clear hO3 ht3 hF3 hE4 hE5 hE45 hO5 hF5 hXu5 ht5 hE6 ht6 hZ hX3 ht4 hRC hv3;go_wp2_with (first
   |(with_reducible refine a0q a0s (by omega) (by assumption) ?_)
   |((with_reducible show wpList _ _ _ (⟨_, .store _ _ _,_,_,_,_⟩::_) _ _);refine a2F a3Y RV.elem i rfl (by simp) hO6 hil _ z rfl hRV ?_;intro w7 hO7 hE7))
  have hF7:=hF6.own hO6 (Nat.le_refl _) hE7;have ht7:=ht6u.unstep (hO6.not_ob htX) hE7 (.inl rfl);have hm7:=a9u hO7;rw[hls]at hm7;have hv7:RV (mk X w7) (.slice yo k yc) y:=RV.mono _ _ _ _ (a0T hE7 (fun _ _ hk=>a0r hk) (fun _ _ hk=>a0f hk)) hv6;have hyk2:=hyk.out;have hout':Hid (a6W X tb n w (.returned (.tuple #[.slice oo k co, .slice yo k yc])) w7):=hid ⟨hF7,ht7.unX htX,_,_,_,y,rfl,hm7,hv7,hBs,hyB,by rw[hls];exact hpn,by omega, .inl hrs⟩;clear hm7 hv7 hO7 hBs hrs hls hyk2;go_wp2_with fail
  go_ret2
  exact hout'.out
 ·have hhd:=hO3.hd
  rw[hk'.out]at hhd;have h0:0<p.length:=by rw[hk'.out];omega
  obtain⟨u,hc,_,hru⟩:=hO3.cell SlV.one 0 h0;obtain⟨a0,c0,rfl,hcl0,hs0⟩:=hru;have hdd4:=hpr p[0] (List.getElem_mem _);obtain⟨dd,hdd⟩:∃dd,p[0].length=dd:=⟨_,rfl⟩;rw[hdd]at hc hdd4;clear hdd;have hobt:ob oo tb=false:=hO3.not_ob htX;have htd:a0K (un X oo) tb w3.drew:=ht3.ext (ExtX.refl _).drew;have hS:Hid (∀w',ExtX (tbm tb) w3.drew w'->w'.cell? (adr oo 0)=some (.slice a0 dd c0)):=hid fun w' h=>h.cellY (show w3.drew.cell? _=_ from hc) (a3k (b7H hhd (by omega) hobt));have k0:=hS.out _ (ExtX.refl _);have i1:∀m,m<k->∀W,(Instr.indexAt 23 (.slice oo k co) (.int .i64 (m:Int))).run Tryz.prog W= .ok (.pointer (some (adr oo m))) W:=fun m hm=>a0z a0s oo k co .i64 m hhd hm rfl;have i1':=hid i1;have i0:∀W,(Instr.indexAt 23 (.slice oo k co) (.int .i64 0)).run Tryz.prog W= .ok (.pointer (some (adr oo 0))) W:=i1 0 (by omega);have hkb:(k:Int)<=1099511627776:=by omega
  have hEd3:ExtX (tbm tb) w3 w3.drew:=ExtX.of ((ExtX.refl _).drew);have hOd:=hO3.ext0 RV.elem (ExtX.refl _).drew;have hFd:ExtX (tbm tb) w w3.drew:=hF3.drew;clear hs0 hcl0 i1 h0 hO3 hF3 ht3 hX3;go_wp2_with fail
  refine a0O 12 (fun w'=>w'.cell? (adr oo 0)=some (.slice a0 dd c0)) (by kernel_rfl) (by kernel_rfl) (hS.out _ (ExtX.refl _)) (fun hHeld hOnce=>?_);clear k0;refine kt 0 hOnce ?_;refine kt 1 hOnce ?_;refine kt 2 hOnce ?_;refine kt 3 hOnce ?_;refine kt 5 hOnce ?_;refine kt 6 hOnce ?_;refine kt 7 hOnce ?_;refine kt 8 hOnce ?_;refine kt 9 hOnce ?_;refine a0k (i:=4) (o:=⟨_,_,_,_,_,_⟩) (by kernel_rfl) rfl (fun K hK=>?_);go_simp
  (go_at_call 40;(with_reducible refine(a1C (un X oo) tb k w3.drew htd hkb).mono ?_);rintro ee w4 ⟨t1,ht4,i,rfl,hi⟩)
  refine hK.out _ _ (hS.out w4 t1) (fun hHeld=>?_);clear hK K
  (try simp only[Act.put,List.setIfInBounds_toArray,List.set_cons_zero,List.set_cons_succ])
  have hik:i<k:=by omega
  have hil:i<p.length:=by rw[hk'.out];exact hik
  have i4:=i1'.out i hik;have hO4:=hOd.ext RV.elem t1 (fun k _ hk=>hsub k hk) (fun _ _ h=>h);have hF4:=hFd.trans t1;have hXu4:HX (un X oo) w4:=hO4.unX (hX.ext hF4);have hd4:dd<=1000:=by omega
  refine a0k (i:=10) (o:=⟨_,_,_,_,_,_⟩) (by kernel_rfl) rfl (fun K hK=>?_);go_simp
  (go_at_call 109;(with_reducible refine(a6V (un X oo) tb dd w4 ht4 hXu4 hd4).mono ?_);rintro ee w5 ⟨t2,zo,z,zc,rfl,hzl,hzc,hzB,ht5,hZ⟩)
  refine hK.out _ _ (hS.out w5 (t1.trans t2)) (fun hHeld=>?_);clear hK K
  (try simp only[Act.put,List.setIfInBounds_toArray,List.set_cons_zero,List.set_cons_succ])
  have hO5:=hO4.ext RV.elem t2 (fun k _ hk=>hsub k hk) (fun _ _ h=>h);have hF5:=hF4.trans t2;have hRV:RV (mk (un X oo) w5) (.slice zo dd zc) z:=⟨zo,zc,by rw[hzl],by rw[hzl];exact hzc,hZ.sl QV.elem⟩;have ht5u:a0K (un X oo) tb w5:=ht5.unX (a0f htX);obtain⟨_,q0,f0,_⟩:=hO5.cell SlV.one i hil;refine kt 11 hOnce ?_;refine a0v (i:=12) (o:=⟨_,_,_,_,_,_⟩) (by kernel_rfl) rfl (by decide) (by kernel_rfl) (fun K hK=>?_);go_simp
  refine hK.out _ _ ?_;clear hK K;obtain⟨hO7,hE7⟩:=hO5.set1 a3Y RV.elem SlV.one i hil (.slice zo dd zc) z hRV;have hF7:=hF5.own hO5 (Nat.le_refl _) hE7;have ht7:=ht5u.unstep (hO5.not_ob htX) hE7 (.inl rfl);have hls:(p.set i z).length=k:=by rw[List.length_set];exact hk'.out
  have hBs:BM 4 (p.set i z):=hpB.set (b4C hzB (by decide)) i;have hrs:∀r∈p.set i z,r.length<=4:=fun r hr=>by
   rcases List.mem_or_eq_of_mem_set hr with hr|rfl
   ·exact hpr r hr
   ·omega
  clear q0 f0 i0 i4;have hXu7:=hO7.unX (hX.ext hF7);have hm7:=a9u hO7;rw[hls]at hm7;obtain⟨w7,hw7⟩:∃w7,w5.setCell (adr oo i) (.slice zo dd zc)=w7:=⟨_,rfl⟩;rw[hw7]at hO7 hF7 ht7 hXu7 hm7 |-;clear hS hEd3 hOd hFd htd hO4 hF4 hXu4 ht4 hO5 hF5 hE7 ht5u ht5 hZ hRV t1 t2 hHeld hw7;go_wp2_with fail
  refine(a6V (un X oo) tb k w7 ht7 hXu7 (by omega)).mono ?_;rintro e w8 ⟨hE8,zo2,z2,zc2,rfl,hzl2,hzc2,hzB2,ht8,hZ2⟩;have hRV2:RV (mk (un X oo) w8) (.slice zo2 k zc2) z2:=⟨zo2,zc2,by rw[hzl2],by rw[hzl2];exact hzc2,hZ2.sl QV.elem⟩;have hm8:MV (mk X w8) (.slice oo k co) (p.set i z):=MV.mono _ _ _ _ (a0w hE8 hsub) hm7;have hout':Hid (a6W X tb n w (.returned (.tuple #[.slice oo k co, .slice zo2 k zc2])) w8):=hid ⟨hF7.trans hE8,(ht8.unX (a0f htX)).unX htX,_,_,_,z2,rfl,hm8,RV.mono _ _ _ _ (a1u fun k _ hk=>a0f hk) hRV2,hBs,b4C hzB2 (by decide),by rw[hls];exact hpn,by omega, .inl hrs⟩;clear hm7 hm8 hRV2 hO7 hBs hrs hls hZ2;go_wp2_with fail
  go_ret2
  exact hout'.out
 ·go_wp2_with fail
  go_loopw [58] (fun o wr=>∃(i:Nat) (m:List (List Rat)),o= .int .i64 i/\i<=k/\Hid (m.length=k)/\(∀j (h:j<m.length),j<i->12<=m[j].length/\m[j].length<=13)/\BM 4 m/\OL RV 1 X w.heap.size 24 wr oo co m/\a0K (un X oo) tb wr/\ExtX (tbm tb) w wr/\RV (mk (un X oo) wr) (.slice yo k yc) y) (fun o _=>k - (intOf o).toNat)
  case atStart=>exact⟨0,p,rfl,Nat.zero_le _,hk',fun j _ h=>by omega,hpB,hO3,ht3,hF3,hv3⟩
  case round=>
   clear hO3 ht3 hF3 hX3 hv3;obtain⟨i,m,rfl,hi,hml,hlo,hmB,hO,htr,hE,hvr⟩:=hrel;have hXr:=hX.ext hE;have hhd:=hO.hd;rw[hml.out]at hhd;by_cases hlt:i<k
   ·have hil:i<m.length:=by rw[hml.out];exact hlt
    go_wp2_with fail
    refine(a1C (un X oo) tb 2 wr htr (by omega)).mono ?_;rintro e w4 ⟨hE4,ht4,c,rfl,hc⟩;have hO4:=hO.ext RV.elem hE4 (fun k _ hk=>hsub k hk) (fun _ _ h=>h);have hF4:=hE.trans hE4;have hXu4:=hO4.unX (hX.ext hF4);have hd1:Hid ((12:Int)+(c:Int)=((12+c:Nat):Int)):=hid (by omega);go_wp2_with fail
    rw[hd1.out];refine(a5r (un X oo) tb (12+c) w4 ht4 hXu4 (by omega)).mono ?_;rintro e w6 ⟨hE6,zo,z,zc,rfl,hzl,hzc,hzB,ht6,hZ⟩;have hO6:=hO4.ext RV.elem hE6 (fun k _ hk=>hsub k hk) (fun _ _ h=>h);have hF6:=hF4.trans hE6;have hRC:RC (mk (un X oo) w6) (.slice zo (12+c) zc) z:=⟨zo,zc,by rw[hzl],by rw[hzl];exact hzc,hZ.sl QC.elem⟩;have hRV:=RC.rv hRC (fun q hq=>Nat.le_trans (hzB q hq) (by decide));have ht6u:a0K (un X oo) tb w6:=ht6.unX (a0f htX);have hls:Hid ((m.set i z).length=k):=hid (by rw[List.length_set];exact hml.out);have hBs:BM 4 (m.set i z):=hmB.set (b4C hzB (by decide)) i;have hlo2:∀j (h:j<(m.set i z).length),j<i+1->12<=(m.set i z)[j].length/\(m.set i z)[j].length<=13:=fun j h hj=>by
     by_cases e:i=j
     ·subst e
      rw[List.getElem_set_self];omega
     ·rw[List.getElem_set_ne e]
      exact hlo j (by simpa using h) (by omega)
    have hv6:RV (mk (un X oo) w6) (.slice yo k yc) y:=RV.mono _ _ _ _ (a0w (hE4.trans hE6) fun k hk=>a0f (hsub k hk)) hvr;clear hO htr hE hE4 hO4 hF4 hXu4 ht4 hE6 ht6 hZ hRC hvr hXr hlo hmB;go_wp2_with (first
     |(with_reducible refine a0q a0s (by omega) (by assumption) ?_)
     |((with_reducible show wpList _ _ _ (⟨_, .store _ _ _,_,_,_,_⟩::_) _ _);refine a2F a3Y RV.elem i rfl (by simp) hO6 hil _ z rfl hRV ?_;intro w7 hO7 hE7))
    have hF7:=hF6.own hO6 (Nat.le_refl _) hE7;have ht7:=ht6u.unstep (hO6.not_ob htX) hE7 (.inl rfl);have hv7:RV (mk (un X oo) w7) (.slice yo k yc) y:=RV.mono _ _ _ _ (a0w hE7 fun _ hk=>a0r hk) hv6;go_roundw
    case rel=>exact⟨i+1,m.set i z,by go_num,by omega,hls,hlo2,hBs,hO7,ht7,hF7,hv7⟩
    case measure=>simp[intOf];omega
   ·have hie:i=k:=by omega
    have hm7:=a9u hO;rw[hml.out]at hm7;have hyk2:=hyk.out;have hml2:=hml.out;have hout':Hid (a6W X tb n w (.returned (.tuple #[.slice oo k co, .slice yo k yc])) wr):=hid ⟨hE,htr.unX htX,_,_,_,y,rfl,hm7,RV.mono _ _ _ _ (a1u fun k _ hk=>a0f hk) hvr,hmB,hyB,by omega,by omega, .inr fun r hr=>by
     obtain⟨j,hj,rfl⟩:=List.getElem_of_mem hr;exact hlo j hj (by omega)⟩
    clear hm7 hvr hO hyk2 hml2 hlo;go_wp2_with fail
    go_ret2
    exact hout'.out
 ·have hm7:=a9u hO3
  rw[hk'.out]at hm7;have hyk2:=hyk.out;have hout':Hid (a6W X tb n w (.returned (.tuple #[.slice oo k co, .slice yo k yc])) w3):=hid ⟨hF3,ht3.unX htX,_,_,_,y,rfl,hm7,RV.mono _ _ _ _ (a1u fun k _ hk=>a0f hk) hv3,hpB,hyB,by rw[hk'.out];exact hpn,by omega, .inl hpr⟩;clear hm7 hv3 hO3 hyk2;go_wp2_with fail
  go_ret2
  exact hout'.out
end Go.Proofs.YtidbbddagfnfbaaGreat
namespace Go.Lin
open Go.Lim Go.Rep
def X38:Mat:=[[1,2],[2,1],[2,2]]
def Y38:List Rat:=[1,2,2]
theorem b7I (x:Mat) (y:List Rat) (n:Nat) (s:List Int):0<=a6b x y n s:=by
 unfold a6b;rw[a4f rfl];exact b8S _ _
theorem b4D:Shp 3 2 X38:=⟨rfl,by intro r a;simp[X38]at a;rcases a with rfl|rfl|rfl<;>rfl⟩
theorem b7J:BM 2 X38:=by
 intro r a q hq;have:(X38.all fun r=>r.all fun q=>decide (Go.Lim.hq q<=2))=true:=by decide+kernel
 rw[List.all_eq_true]at this;have:=this r a;rw[List.all_eq_true]at this;simpa using this q hq
theorem b7K:BR 2 Y38:=by
 intro q hq;have:(Y38.all fun q=>decide (Go.Lim.hq q<=2))=true:=by decide+kernel
 rw[List.all_eq_true]at this;simpa using this q hq
theorem c1e:a6b X38 Y38 3 [0]=0:=by
 refine Rat.le_antisymm ?_ (b7I _ _ _ _);have h:=b3F (x:=a1c X38 [0]) (y:=Y38) (n:=3) (c:=1) (a4g b4D [0]) rfl [1];have e:a2l (a3G (a1c X38 [0]) Y38 [1]) (a3G (a1c X38 [0]) Y38 [1])=0:=by decide+kernel
 rw[e]at h;exact h
theorem c1S {q:Rat} {n:Nat} {t:List (List Int)} (h:a7B (a6b X38 Y38 3) (a0C 2 1 0) q n t):q=0/\∃r,t= [0]::r:=by
 have f:a0C 2 1 0= [[0],[1]]:=by decide
 rw[f]at h;rcases h with⟨h,_⟩|⟨_,⟨s,_,hq⟩,d,_,b⟩
 ·cases h
 ·have c:=d [0] (by simp)
  rw[c1e]at c;have g:0<=q:=by rw[hq];exact b7I _ _ _ _
  have a:q=0:=Rat.le_antisymm c g;refine⟨a,?_⟩;rw[a]at b;have e:([[0],[1]]:List (List Int)).filter (fun s=>decide (a6b X38 Y38 3 s=0))= [0]::([[1]]:List (List Int)).filter (fun s=>decide (a6b X38 Y38 3 s=0)):=by
   rw[List.filter_cons,if_pos (by simp[c1e])]
  rw[e]at b;exact⟨_,by rw[b,List.take_succ_cons]⟩
end Go.Lin
namespace Go.Rep
open Go.RowKit Go.Lim Go.Lin
theorem Sl.size {X:Nat->Bool} {w:World} {ao:Option Addr} {l:List SizeT} (s:Sl a4k 10 (mk X w) ao l) (i:Nat) (hi:i<l.length):
  ∃g o sg a n c d k e h j,adr ao (i*10)=⟨g,o,none⟩/\Hid (∀W',Ext w W'->W'.cell? ⟨g,o,none⟩=some (.int .i64 (l[i].p:Int))/\W'.cell? ⟨g,o+1,none⟩=some (.bool sg)/\W'.cell? ⟨g,o+1+1,none⟩=some (.slice a n c)/\W'.cell? ⟨g,o+1+2,none⟩=some (.slice d k e)/\W'.cell? ⟨g,o+7,none⟩=some (.slice h l[i].t.length j)/\W'.cell? ⟨g,o+8,none⟩=some (.int .i64 (l[i].cnt:Int)))/\
   QC (mk X w) (.agg #[.bool sg, .slice a n c, .slice d k e]) l[i].q/\l[i].t.length<=j/\Sl (SlV (a0p .i64) 1) 1 (mk X w) h l[i].t:=by
 obtain⟨u,L,f,sg,a,n,c,d,k,e,K,D,F,H,E,G,I,h,j,rfl,C,J,A,B⟩:=s.2 i hi;have y:=f 0 (by show 0<10;omega);have v:=f 1 (by show 1<10;omega);have m:=f 2 (by show 2<10;omega);have z:=f 3 (by show 3<10;omega);have x:=f 7 (by show 7<10;omega);have r:=f 8 (by show 8<10;omega);exact⟨(adr ao (i*10)).block,(adr ao (i*10)).off,sg,a,n,c,d,k,e,h,j,rfl,hid fun W' b=>⟨b.cell (a0S y),b.cell (a0S v),b.cell (a0S m),b.cell (a0S z),b.cell (a0S x),b.cell (a0S r)⟩,C,A,B⟩
theorem b6T {X:Nat->Bool} {w:World} {e:TypeId} (hX:HX X w) {u v t:Value} {x y z:List Rat} (hu:RC (mk X w) u x) (hv:RC (mk X w) v y) (ht:RC (mk X w) t z) {arr:Array Value} (harr:arr=(a0i u++a0i v++a0i t).toArray):MC (mk X (w.alloc (.cells arr e))) (.slice (some ⟨w.heap.size,0,none⟩) 3 3) [x,y,z]:=by
 have:=OL.lit (w:=w) (base:=w.heap.size) (e:=e) RC.elem hX (Nat.le_refl _) [u,v,t] [x,y,z] arr (by rw[harr];simp) rfl (fun i hi hi'=>by
  match i,hi with
  |0,_=>exact hu
  |1,_=>exact hv
  |2,_=>exact ht) (by simp)
 exact⟨_,_,rfl,Nat.le_refl _,this.sl RC.elem⟩
theorem a8t {X:Nat->Bool} {w:World} {e:TypeId} (hX:HX X w) {u v:Value} {x y:Rat} (hu:QC (mk X w) u x) (hv:QC (mk X w) v y) {arr:Array Value} (harr:arr=(a0i u++a0i v).toArray):RC (mk X (w.alloc (.cells arr e))) (.slice (some ⟨w.heap.size,0,none⟩) 2 2) [x,y]:=by
 have:=OL.lit (w:=w) (base:=w.heap.size) (e:=e) QC.elem hX (Nat.le_refl _) [u,v] [x,y] arr (by rw[harr];simp) rfl (fun i hi hi'=>by
  match i,hi with
  |0,_=>exact hu
  |1,_=>exact hv) (by simp)
 exact⟨_,_,rfl,Nat.le_refl _,this.sl QC.elem⟩
theorem b6U {X:Nat->Bool} {w:World} {e:TypeId} (hX:HX X w) {u v t:Value} {x y z:Rat} (hu:QC (mk X w) u x) (hv:QC (mk X w) v y) (ht:QC (mk X w) t z) {arr:Array Value} (harr:arr=(a0i u++a0i v++a0i t).toArray):RC (mk X (w.alloc (.cells arr e))) (.slice (some ⟨w.heap.size,0,none⟩) 3 3) [x,y,z]:=by
 have:=OL.lit (w:=w) (base:=w.heap.size) (e:=e) QC.elem hX (Nat.le_refl _) [u,v,t] [x,y,z] arr (by rw[harr];simp) rfl (fun i hi hi'=>by
  match i,hi with
  |0,_=>exact hu
  |1,_=>exact hv
  |2,_=>exact ht) (by simp)
 exact⟨_,_,rfl,Nat.le_refl _,this.sl QC.elem⟩
end Go.Rep
namespace Go.Proofs.YtidbbddagfnfbaaGreat
open Go.RowKit Go.Rep Go.Lim Go.Lin
theorem c1T (w:World) {k:Bool} {o:Option Addr} {j l:Nat} {m:Option Addr} {n i:Nat} {h:Bool} {a:Option Addr} {c f:Nat} {b:Option Addr} {d g:Nat} (E:QC (mk noY w) (.agg #[.bool k, .slice o j l, .slice m n i]) 1) (r:QC (mk noY w) (.agg #[.bool h, .slice a c f, .slice b d g]) 2):
  ∃W,((((w.alloc (.cells #[.bool k, .slice o j l, .slice m n i, .bool h, .slice a c f, .slice b d g] 45)).alloc (.cells #[.bool h, .slice a c f, .slice b d g, .bool k, .slice o j l, .slice m n i] 45)).alloc (.cells #[.bool h, .slice a c f, .slice b d g, .bool h, .slice a c f, .slice b d g] 45)).alloc (.cells #[.slice (some ⟨w.heap.size,0,none⟩) 2 2, .slice (some ⟨w.heap.size+1,0,none⟩) 2 2, .slice (some ⟨w.heap.size+1+1,0,none⟩) 2 2] 24)).alloc (.cells #[.bool k, .slice o j l, .slice m n i, .bool h, .slice a c f, .slice b d g, .bool h, .slice a c f, .slice b d g] 45)=W/\
   Ext w W/\MC (mk noY W) (.slice (some ⟨w.heap.size+1+1+1,0,none⟩) 3 3) X38/\RC (mk noY W) (.slice (some ⟨w.heap.size+1+1+1+1,0,none⟩) 3 3) Y38:=by
 have H:=a8t (e:=45) (arr:=#[.bool k, .slice o j l, .slice m n i, .bool h, .slice a c f, .slice b d g]) (b2k w) E r rfl;obtain⟨J,B,z,_,O⟩:=a1g w #[.bool k, .slice o j l, .slice m n i, .bool h, .slice a c f, .slice b d g] 45;rw[B]at H |-;have D:=a8t (e:=45) (arr:=#[.bool h, .slice a c f, .slice b d g, .bool k, .slice o j l, .slice m n i]) (b2k J) (mkx QC.mono r z) (mkx QC.mono E z) rfl;obtain⟨M,A,L,_,F⟩:=a1g J #[.bool h, .slice a c f, .slice b d g, .bool k, .slice o j l, .slice m n i] 45;rw[A]at D |-;have q:=z.trans L;have u:=a8t (e:=45) (arr:=#[.bool h, .slice a c f, .slice b d g, .bool h, .slice a c f, .slice b d g]) (b2k M) (mkx QC.mono r q) (mkx QC.mono r q) rfl;obtain⟨wc,t,x,_,zc⟩:=a1g M #[.bool h, .slice a c f, .slice b d g, .bool h, .slice a c f, .slice b d g] 45;rw[t]at u |-;rw[O]at D F;rw[F]at u zc;have v:=b6T (e:=24) (arr:=#[.slice (some ⟨w.heap.size,0,none⟩) 2 2, .slice (some ⟨w.heap.size+1,0,none⟩) 2 2, .slice (some ⟨w.heap.size+1+1,0,none⟩) 2 2]) (b2k wc) (mkx RC.mono H (L.trans x)) (mkx RC.mono D x) u rfl;obtain⟨I,y,N,_,G⟩:=a1g wc #[.slice (some ⟨w.heap.size,0,none⟩) 2 2, .slice (some ⟨w.heap.size+1,0,none⟩) 2 2, .slice (some ⟨w.heap.size+1+1,0,none⟩) 2 2] 24;rw[y]at v |-;have p:=(q.trans x).trans N;have C:=b6U (e:=45) (arr:=#[.bool k, .slice o j l, .slice m n i, .bool h, .slice a c f, .slice b d g, .bool h, .slice a c f, .slice b d g]) (b2k I) (mkx QC.mono E p) (mkx QC.mono r p) (mkx QC.mono r p) rfl;obtain⟨P,s,K,_,Q⟩:=a1g I #[.bool k, .slice o j l, .slice m n i, .bool h, .slice a c f, .slice b d g, .bool h, .slice a c f, .slice b d g] 45;rw[s]at C;rw[zc]at v G;rw[G]at C;exact⟨P,s,p.trans K,mkx MC.mono v K,C⟩
set_option maxRecDepth 100000 in
set_option maxHeartbeats 1600000 in
theorem a2S (w:World):Calls Tryz.prog 15 #[] w (a8K w true):=by
 go_enter Tryz.func15,Tryz.ntmps15
 go_wp2_with fail
 refine(a4V noY w 1 (b2k w) (by decide) (by decide)).mono ?_;rintro ee w1 ⟨a0,u1,rfl,O⟩;obtain⟨s1,a1,n1,c1,d1,k1,e1,rfl⟩:=O.shape;go_wp2_with fail
 refine(a4V noY w1 2 (b2k w1) (by decide) (by decide)).mono ?_;rintro ee t ⟨K,u2,rfl,F⟩;obtain⟨s2,a2,n2,c2,d2,k2,e2,rfl⟩:=F.shape;obtain⟨W,hW,hE,b0,b1,hz⟩:=a1v t #[.bool false, .slice none 0 0, .slice none 0 0] #[.bool false, .slice none 0 0, .slice none 0 0] 45 45;subst hW;have hz:=hid hz;go_wp2_with ((with_reducible show wpList _ _ _ (⟨_, .store 45 _ _,_,_,_,_⟩::_) _ _);first|(refine a0a a0t rfl rfl b0 rfl rfl (a1Q _ _ _ _ _ _ _) ?_;intro w3 p1 p2;have R:=b1.ext p2 (a0b (by omega)))|(refine a0a a0t rfl rfl R rfl rfl (a1Q _ _ _ _ _ _ _) ?_;intro E X p4;have V:=p1.ext p4 (a0b (by omega));have z0:=V.cell 0 rfl;have z1:=V.cell 1 rfl;have z2:=V.cell 2 rfl;have z3:=X.cell 0 rfl;have z4:=X.cell 1 rfl;have z5:=X.cell 2 rfl;have hz:=hid (fun p (h:Ext E p)=>(⟨h.cell z0,h.cell z1,h.cell z2,h.cell z3,h.cell z4,h.cell z5⟩:p.cell? ⟨t.heap.size,0,none⟩=some (.bool s1)/\p.cell? ⟨t.heap.size,1,none⟩=some (.slice a1 n1 c1)/\p.cell? ⟨t.heap.size,2,none⟩=some (.slice d1 k1 e1)/\p.cell? ⟨t.heap.size+1,0,none⟩=some (.bool s2)/\p.cell? ⟨t.heap.size+1,1,none⟩=some (.slice a2 n2 c2)/\p.cell? ⟨t.heap.size+1,2,none⟩=some (.slice d2 k2 e2)));have y1:=fun o=>hz.out (E.alloc o) ((ExtX.refl _).alloc _);have y2:=fun o o'=>hz.out ((E.alloc o).alloc o') (((ExtX.refl _).alloc _).alloc _);have y4:=fun o o' o3 o4=>hz.out ((((E.alloc o).alloc o').alloc o3).alloc o4) (((((ExtX.refl _).alloc _).alloc _).alloc _).alloc _)))
 have y:Ext t E:=ExtX.box (ExtX.box hE p2 (Nat.le_refl _)) p4 (by omega);obtain⟨w5,M,a3,G,H⟩:=c1T E (mkx QC.mono O (K.trans y)) (mkx QC.mono F y);rw[M];have hb:=b1u noY w5 _ _ X38 Y38 3 2 2 100 (b2k w5) (G.mv (fun r hr q hq=>Nat.le_trans (b7J r hr q hq) (by decide))) (H.rv (fun q hq=>Nat.le_trans (b7K q hq) (by decide))) (by decide+kernel) b4D (by decide) (by decide) b7J b7K (by decide) (by decide) (by decide) (by decide);have N:=a0.trans (K.trans (y.trans a3));clear y1 y2 y4 hz z0 z1 z2 z3 z4 z5 V p1 p2 X p4 b0 b1 R M;refine hb.mono ?_;rintro e Z ⟨a4,ao,T,L,rfl,b3,hL,z,P⟩;have S:1<L.length:=by omega
 obtain⟨g,o,sg,a,n,c,d,k,e,Y,sc,u,b,hq,b5,x⟩:=z.size 1 S;obtain⟨hp,hI,_⟩:=P 1 S;obtain⟨a7,r,ht⟩:=c1S hI;have hd:Hd ao 3:=by have:=z.hd;rw[hL]at this;exact this
 have i1:∀W,(Instr.indexAt 36 (.slice ao 3 T) (.int .i64 1)).run Tryz.prog W= .ok (.pointer (some ⟨g,o,none⟩)) W:=by rw[<-u];exact a0m b1s ao 3 T .i64 1 hd (by omega)
 rw[hp,ht]at b;rw[a7]at hq;rw[ht]at x;obtain⟨ta,tc,U,b2,J⟩:=x.slice 0 (by simp);have C:=x.hd;have a8:Hid (([0]::r:List (List Int)).length=r.length+1):=hid rfl;rw[a8.out]at b C;obtain⟨D,v⟩:∃D,r.length+1=D:=⟨_,rfl⟩;rw[v]at b C;have a6:0<D:=by omega
 have b4:decide ((0:Int)<(D:Int))=true:=decide_eq_true (by omega);have B:=a7u noY Z _ 0 (b2k Z) (hq.qv (by rw[a0Z];decide));rw[show((0:Rat).num.sign)=0 from rfl]at B;obtain⟨j0,j1,j2,j3,j7,_⟩:=b.out Z (ExtX.refl _);have a5:Z.cell? ⟨g,o,none⟩=some (.int .i64 1):=j0;clear P hI z hL hb G H hp ht u v j0;go_wp2_with fail
 refine B.mono ?_;rintro e f ⟨j,rfl⟩;obtain⟨_,_,_,_,y7,_⟩:=b.out f j;have yt:f.cell? (adr Y 0)=some (.slice ta 1 tc):=j.cell U;have i2:∀W,(Instr.indexAt 46 (.slice Y D sc) (.int .i64 0)).run Tryz.prog W= .ok (.pointer (some (adr Y 0))) W:=a0z a5m Y D sc .i64 0 C a6 rfl;have s:Sl (a0p .i64) 1 (mk noY (f.alloc (.cells #[.int .i64 0] 3))) (some ⟨f.heap.size,0,none⟩) [0]:=(OL.lit (w:=f) (base:=f.heap.size) (e:=3) (l:=[0]) (a0p.elem .i64) (b2k f) (Nat.le_refl _) [.int .i64 0] #[.int .i64 0] rfl rfl (fun i hi _=>by
  have:i=0:=by simpa using hi
  subst this;rfl) (by simp)).sl (a0p.elem _)
 have I:Ext f (f.alloc (.cells #[.int .i64 0] 3)):=(ExtX.refl _).alloc _;have A:Calls Tryz.prog 72 #[.slice ta 1 tc, .slice (some ⟨f.heap.size,0,none⟩) 1 1] (f.alloc (.cells #[.int .i64 0] 3)) (fun e p=>e= .returned (.bool ([0]==([0]:List Int)))/\∃m,p=(f.alloc (.cells #[.int .i64 0] 3)).drewN m):=a7C noY ta (some ⟨f.heap.size,0,none⟩) [0] [0] tc 1 _ (J.mono (a0p.mono _) (a0l (j.trans I))) s (by decide);have Q:(([0]:List Int)==[0])=true:=by decide
 rw[Q]at A;clear B j1 j2 j3 j7 a5 s Q U b2 J hq;go_wp2_with fail
 refine A.mono ?_;rintro e w8 ⟨rfl,m,rfl⟩;have a9:=(N.trans (a4.trans (j.trans I))).drewN m;clear A;go_wp2_with fail
 go_ret
 exact⟨a9,rfl⟩
open Go.ChangeShapes Go.WideShapes Go.ChangeAt Go.Deep
section
variable {H:Type} {enc:TypeId×Value->H} {w:World} {base:Nat} {spare:Nat->Bool} {held:Bool}
theorem a1h {x:Addr} {v:Value} (h:w.cell? (x.add 0)=some v):(∀j,x.add j=adr (some x) j)/\∃b c,x=⟨b,c,none⟩:=by
 have e:=World.cell?_spot h;obtain⟨b,c,d⟩:=x;have a:d=none:=by simpa[Addr.add]using e
 subst a;exact⟨fun j=>by rw[Addr.add_lit];simp[adr],b,c,rfl⟩
end
end Go.Proofs.YtidbbddagfnfbaaGreat
namespace Go.Rep
open Go.RowKit Go.Lim
abbrev a5t:=Bool×List Nat×List Nat
def QR (h:Mem) (u:Value) (x:a5t):Prop:=∃ao c bo e,u= .agg #[.bool x.1, .slice ao x.2.1.length c, .slice bo x.2.2.length e]/\x.2.1.length<=c/\x.2.2.length<=e/\Dig x.2.1/\Dig x.2.2/\x.2.1.length<=9223372036854775807/\x.2.2.length<=9223372036854775807/\Sl (a0c .u32) 1 h ao x.2.1/\Sl (a0c .u32) 1 h bo x.2.2
theorem QR.mono:a3E QR:=by rintro h n u x a ⟨ao,c,k,e,rfl,l,i,j,f,b,d,m,g⟩;exact⟨ao,c,k,e,rfl,l,i,j,f,b,d,m.mono (a0c.mono _) a,g.mono (a0c.mono _) a⟩
theorem QR.elem:Elem QR 3:=⟨QR.mono,by rintro h u x ⟨ao,c,b,e,rfl,_⟩;rfl,by
 rintro h u x ⟨ao,c,b,e,rfl,_⟩ v a;simp[a0i,Value.cells]at a;rcases a with rfl|rfl|rfl<;>rfl,by decide⟩
theorem QR.shape {h:Mem} {u:Value} {x:a5t} (b:QR h u x):∃ao c a e,u= .agg #[.bool x.1, .slice ao x.2.1.length c, .slice a x.2.2.length e]:=by
 obtain⟨ao,c,a,e,rfl,_⟩:=b;exact⟨_,_,_,_,rfl⟩
theorem QR.agg:∀h u y,QR h u y->∃a,u= .agg a:=by rintro h u x ⟨ao,c,b,e,rfl,_⟩;exact⟨_,rfl⟩
noncomputable def b7L (x:a5t):Rat:=b2F x.1 x.2.1 x.2.2
abbrev Few (k:Nat) (x:a5t):Prop:=x.2.1.length<=k/\x.2.2.length<=k
theorem QR.qv {h:Mem} {u:Value} {x:a5t} (d:QR h u x) (a:Few 68719476736 x):QV h u (b7L x):=by
 obtain⟨ao,c,g,e,rfl,k,b,f,i,_,_,l,j⟩:=d;exact⟨_,ao,c,_,g,e,_,rfl,k,b,f,i,a.1,a.2,l,j,rfl⟩
theorem QR.hq {h:Mem} {u:Value} {x:a5t} {k:Nat} (b:QR h u x) (a:Few k x) (g:1<=k):hq (b7L x)<=k:=by
 obtain⟨ao,c,j,e,rfl,m,i,d,f,_,_,n,l⟩:=b;exact a9H _ _ _ k d f a.1 a.2 g
theorem Sl.qvR {h:Mem} {ao:Option Addr} {l:List a5t} (s:Sl QR 3 h ao l) (d:∀x∈l,Few 68719476736 x):Sl QV 3 h ao (l.map b7L):=
 ⟨fun f=>s.1 (by simpa using f),fun i hi=>by
  have a:i<l.length:=by simpa using hi
  obtain⟨u,e,b,c⟩:=s.2 i a;exact⟨u,e,b,by rw[List.getElem_map];exact c.qv (d _ (List.getElem_mem _))⟩⟩
theorem Sl.brR {h:Mem} {ao:Option Addr} {l:List a5t} {k:Nat} (s:Sl QR 3 h ao l) (b:∀x∈l,Few k x) (c:1<=k):BR k (l.map b7L):=fun q hq=>by
 obtain⟨x,hx,rfl⟩:=List.mem_map.1 hq;obtain⟨i,hi,rfl⟩:=List.getElem_of_mem hx;obtain⟨u,e,d,a⟩:=s.2 i hi;exact a.hq (b _ (List.getElem_mem _)) c
abbrev RR:Mem->Value->List a5t->Prop:=SlV QR 3
abbrev MR:Mem->Value->List (List a5t)->Prop:=SlV RR 1
theorem RR.mono:a3E RR:=SlV.mono QR.mono 3
theorem RR.elem:Elem RR 1:=SlV.elem QR.elem
theorem MR.mono:a3E MR:=SlV.mono RR.mono 1
theorem RR.rv {h:Mem} {u:Value} {l:List a5t} (b:RR h u l) (d:∀x∈l,Few 68719476736 x):RV h u (l.map b7L):=by
 obtain⟨ao,c,rfl,e,a⟩:=b;exact⟨ao,c,by rw[List.length_map],by rw[List.length_map];exact e,a.qvR d⟩
theorem RR.br {h:Mem} {u:Value} {l:List a5t} {k:Nat} (b:RR h u l) (d:∀x∈l,Few k x) (e:1<=k):BR k (l.map b7L):=by
 obtain⟨ao,c,rfl,f,a⟩:=b;exact a.brR d e
noncomputable def b7M (m:List (List a5t)):List (List Rat):=m.map fun r=>r.map b7L
theorem MR.mv {h:Mem} {u:Value} {m:List (List a5t)} (d:MR h u m) (f:∀r∈m,∀x∈r,Few 68719476736 x):MV h u (b7M m):=by
 obtain⟨ao,c,rfl,g,b⟩:=d;refine⟨ao,c,by rw[b7M,List.length_map],by rw[b7M,List.length_map];exact g,fun e=>b.1 (by simpa[b7M]using e),fun i hi=>?_⟩;have a:i<m.length:=by simpa[b7M]using hi
 obtain⟨u,k,j,l⟩:=b.2 i a;exact⟨u,k,j,by simp only[b7M,List.getElem_map];exact RR.rv l (f _ (List.getElem_mem _))⟩
theorem MR.bm {h:Mem} {u:Value} {m:List (List a5t)} {k:Nat} (a:MR h u m) (b:∀r∈m,∀x∈r,Few k x) (g:1<=k):BM k (b7M m):=fun r d=>by
 obtain⟨ao,c,rfl,l,e⟩:=a;obtain⟨y,f,rfl⟩:=List.mem_map.1 d;obtain⟨i,hi,rfl⟩:=List.getElem_of_mem f;obtain⟨u,o,n,j⟩:=e.2 i hi;exact RR.br j (b _ (List.getElem_mem _)) g
end Go.Rep
namespace Go.Proofs.YtidbbddagfnfbaaGreat
open Go.ChangeShapes Go.WideShapes Go.ChangeAt Go.RowKit Go.Rep Go.Deep Go.Lim
section
variable {H:Type} {enc:TypeId×Value->H} {w:World} {base:Nat} {spare:Nat->Bool} {held:Bool}
theorem b1w {α:Type} {R:Mem->Value->α->Prop} {t e:TypeId} {sz:Nat} (ht:Tryz.prog.underlying t=some (.slice e)) (hC:Tryz.prog.cellsOf e=sz) (hz:0<sz) (hsize:∀h u x,R h u x->u.cells.size=sz)
  (hel:∀(n:Nat) (cs:List Value) (y:DataW H×List MemPlace),cs.length=sz->DataW.trod enc Tryz.prog w base spare held n e cs=some y->∃u x,a0i u=cs/\R w.cell? u x)
  {fuel:Nat} {v:Value} {x:DataW H×List MemPlace} (h:DataW.trod enc Tryz.prog w base spare held fuel t [v]=some x):
  ∃(a:Option Addr) (L:List α) (cap:Nat),v= .slice a L.length cap/\L.length<=cap/\cap<=9223372036854775807/\Sl R sz w.cell? a L:=by
 rcases open_slice ht h with⟨hcs,_⟩|⟨x,len,c,m,n,D,Pl,hcs,_,hl,hm,hmm,_,hi⟩
 ·exact⟨none,[],0,by simpa using hcs,by simp,by simp,Sl.nil _ _ _ _⟩
 ·have hml:len<=m:=by rw[hmm];split<;>omega
  have hmax:c<=9223372036854775807:=by simpa[maxLen]using hm
  have key:∀k,k<=len->∃L:List α,L.length=k/\∀i (hi:i<L.length),∃u,u.cells.size=sz/\(∀j (hj:j<u.cells.size),w.cell? (x.add (i*sz+j))=some u.cells[j])/\R w.cell? u L[i]:=by
   intro k
   induction k with
   |zero=>intro _;exact⟨[],rfl,by simp⟩
   |succ k ih=>
    intro hk;obtain⟨L,h1,h3⟩:=ih (by omega);obtain⟨cs',hc,ht'⟩:=hi k (by omega);rw[hC]at hc;obtain⟨_,hcl,hat⟩:=World.cells?_some hc;obtain⟨u,y,hu,hR⟩:=hel n cs' _ hcl ht';refine⟨L++[y],by simp[h1],fun i hi=>?_⟩;by_cases hik:i<L.length
    ·obtain⟨u,q1,q2,q3⟩:=h3 i hik
     exact⟨u,q1,q2,by simpa[List.getElem_append_left hik]using q3⟩
    ·have hik2:i=k:=by simp at hi;omega
     subst hik2;refine⟨u,hsize _ _ _ hR,fun j hj=>?_,?_⟩
     ·have hj2:j<sz:=by rw[hsize _ _ _ hR]at hj;exact hj
      have h5:=hat j (by omega);rw[Go.Deep.add_add]at h5;rw[h5];have h6:cs'[j]? =(a0i u)[j]?:=by rw[hu]
      rw[h6];simp[a0i,hj]
     ·simp only[h1.symm,List.getElem_concat_length]
      exact hR
  obtain⟨L,h1,h3⟩:=key len (Nat.le_refl _);refine⟨some x,L,c,by rw[h1];simpa using hcs,by omega,by omega,⟨fun h0=>?_,fun i hi=>?_⟩⟩
  ·obtain⟨u,q1,q2,_⟩:=h3 0 h0
   obtain⟨_,b,off,hx⟩:=a1h (by simpa using q2 0 (by omega));exact⟨b,off,by rw[hx]⟩
  ·obtain⟨u,q1,q2,q3⟩:=h3 i hi
   obtain⟨v,p1,p2,_⟩:=h3 0 (by omega);have ha:=(a1h (by simpa using p2 0 (by omega))).1;exact⟨u,q1,fun j hj=>by rw[<-ha];exact q2 j hj,q3⟩
theorem b4E {m:Nat} {v:Value} {x:DataW H×List MemPlace} (h:DataW.trod enc Tryz.prog w base spare held m 41 [v]=some x):
  ∃(a:Option Addr) (l:List Nat) (o:Nat),v= .slice a l.length o/\l.length<=o/\l.length<=9223372036854775807/\Dig l/\Sl (a0c .u32) 1 w.cell? a l:=by
 rcases open_ints Tryz.underlying41 Tryz.underlying147 (by kernel_rfl) h with⟨f,_⟩|⟨x,len,c,g,f,_,K,D,hz,_,e,s⟩
 ·exact⟨none,[],0,by simpa using f,by simp,by simp,by simp[Dig],Sl.nil _ _ _ _⟩
 ·have G:len<=g.length:=by
   rw[hz];split<;>omega
  have A:∀n∈g,0<=n/\n<4294967296:=fun n C=>by
   have:=s n C;unfold Lit.wf at this;have:0<=n/\n<=4294967295:=by simpa[IntKind.min,IntKind.max,IntKind.signed,IntKind.bits]using this
   omega
  have p:((g.take len).map Int.toNat).length=len:=by simp;omega
  have y:c<=9223372036854775807:=by simpa[maxLen]using D
  refine⟨some x,(g.take len).map Int.toNat,c,by rw[p];simpa using f,by omega,by omega,fun d hd=>?_,fun I=>?_,fun i hi=>?_⟩
  ·obtain⟨z,r,rfl⟩:=List.mem_map.1 hd
   have:=A z (List.mem_of_mem_take r);rw[a1n];omega
  ·obtain⟨_,b,q,hx⟩:=a1h (e 0 (by omega))
   exact⟨b,q,by rw[hx]⟩
  ·have k:i<g.length:=by omega
   have E:i<len:=by omega
   refine⟨.int .u32 (((g.take len).map Int.toNat)[i]:Nat),rfl,fun j u=>?_,rfl⟩;have t:j=0:=by simp[Value.cells]at u;exact u
   subst t;have B:=e i k;have F:=(a1h (e 0 (by omega))).1 i;rw[F]at B;have J:=A g[i] (List.getElem_mem _);simp only[Nat.mul_one,Nat.add_zero,List.getElem_map,List.getElem_take];rw[B];simp[List.getD_eq_getElem?_getD,k,Value.cells];omega
theorem c1f {f:Nat} {e:List Value} {x:DataW H×List MemPlace} (g:e.length=3) (h:DataW.trod enc Tryz.prog w base spare held f 45 e=some x):∃u y,a0i u=e/\QR w.cell? u y:=by
 obtain⟨l,v,V,Y,K,i,F⟩:=DataW.trod_struct Tryz.underlying45 h;have T:Tryz.prog.cellsOf 43=2:=by kernel_rfl
 have E:Tryz.prog.cellsOf 41=1:=by kernel_rfl
 have S:Tryz.prog.cellsOf 4=1:=by kernel_rfl
 have t:DataW.trod enc Tryz.prog w base spare held v 43 ((e.drop 0).take (Tryz.prog.cellsOf 43))=l[0]?:=F 0 _ rfl;have p:DataW.trod enc Tryz.prog w base spare held v 41 ((e.drop 2).take (Tryz.prog.cellsOf 41))=l[1]?:=F 1 _ rfl;have D:l.length=2:=i;obtain⟨a,b,c,rfl⟩:∃a b c,e= [a,b,c]:=by
  rcases e with _|⟨a,_|⟨b,_|⟨c,_|⟨d,r⟩⟩⟩⟩
  ·simp at g
  ·simp at g
  ·simp at g
  ·exact⟨a,b,c,rfl⟩
  ·simp at g
 rw[T]at t;rw[E]at p;rw[List.getElem?_eq_getElem (by omega)]at t p;obtain⟨k,B,_,_,_,q,J⟩:=DataW.trod_struct Tryz.underlying43 t;have o:DataW.trod enc Tryz.prog w base spare held B 4 (([a,b].drop 0).take (Tryz.prog.cellsOf 4))=k[0]?:=J 0 _ rfl;have j:DataW.trod enc Tryz.prog w base spare held B 41 (([a,b].drop 1).take (Tryz.prog.cellsOf 41))=k[1]?:=J 1 _ rfl;have z:k.length=2:=q;rw[S]at o;rw[E]at j;rw[List.getElem?_eq_getElem (by omega)]at o j;obtain⟨I,m,G,L,X,Q,O,W⟩:=b4E j;obtain⟨A,d,C,U,N,M,R,P⟩:=b4E p;obtain⟨s,n,_⟩:=DataW.trod_bool Tryz.underlying4 o;have n:a= .bool s:=by simpa using n
 subst n L U;exact⟨.agg #[.bool s, .slice I m.length G, .slice A d.length C],(s,m,d),rfl,I,G,A,C,rfl,X,N,O,R,Q,M,W,P⟩
theorem b4F {c:Nat} {v:Value} {x:DataW H×List MemPlace} (h:DataW.trod enc Tryz.prog w base spare held c 24 [v]=some x):
  ∃(a:Option Addr) (L:List a5t) (b:Nat),v= .slice a L.length b/\L.length<=b/\b<=9223372036854775807/\Sl QR 3 w.cell? a L:=
 b1w (R:=QR) Tryz.underlying24 (by kernel_rfl) (by decide) QR.elem.size (fun _ _ _ d h=>c1f d h) h
theorem b6V {fuel:Nat} {v:Value} {x:DataW H×List MemPlace} (h:DataW.trod enc Tryz.prog w base spare held fuel 23 [v]=some x):
  ∃(a:Option Addr) (L:List (List a5t)) (cap:Nat),v= .slice a L.length cap/\L.length<=cap/\cap<=9223372036854775807/\Sl RR 1 w.cell? a L:=
 b1w (R:=RR) Tryz.underlying23 (by kernel_rfl) (by decide) RR.elem.size (fun _ cs _ hl h=>by
  match cs,hl with
  | [a],_=>
   obtain⟨ao,L,cap,rfl,h1,h2,h3⟩:=b4F h;exact⟨.slice ao L.length cap,L,rfl,ao,cap,rfl,h1,h3⟩) h
end
end Go.Proofs.YtidbbddagfnfbaaGreat
namespace Go.Rep
open Go.RowKit Go.Lim
theorem Sl.raw {X:Nat->Bool} {w:World} {ao:Option Addr} {l:List a5t} (s:Sl QR 3 (mk X w) ao l) (i:Nat) (hi:i<l.length):
  ∃g o a c d e,adr ao (i*3)=⟨g,o,none⟩/\X g=false/\Hid (∀Y W',ExtX Y w W'->Y g=false->W'.cell? ⟨g,o,none⟩=some (.bool l[i].1)/\W'.cell? ⟨g,o+1,none⟩=some (.slice a l[i].2.1.length c)/\W'.cell? ⟨g,o+2,none⟩=some (.slice d l[i].2.2.length e))/\QR (mk X w) (.agg #[.bool l[i].1, .slice a l[i].2.1.length c, .slice d l[i].2.2.length e]) l[i]:=by
 obtain⟨u,q,f,k⟩:=s.2 i hi;obtain⟨a,c,d,e,rfl⟩:=k.shape;have j:=f 0 (by simp[Value.cells]);have m:=f 1 (by simp[Value.cells]);have p:=f 2 (by simp[Value.cells]);refine⟨(adr ao (i*3)).block,(adr ao (i*3)).off,a,c,d,e,rfl,?_,hid fun Y W' b h=>⟨?_,?_,?_⟩,k⟩
 ·cases hx:X (adr ao (i*3)).block
  ·rfl
  ·have n:mk X w (adr ao (i*3))=some (.bool l[i].1):=j
   simp[mk,hx]at n
 ·exact b.cellY (a0S j) h
 ·exact b.cellY (a0S m) h
 ·exact b.cellY (a0S p) h
theorem Sl.rowR {α:Type} {R:Mem->Value->α->Prop} {sz:Nat} {X:Nat->Bool} {w:World} {ao:Option Addr} {m:List (List α)} (s:Sl (SlV R sz) 1 (mk X w) ao m) (i:Nat) (hi:i<m.length):
  ∃a c,X (adr ao i).block=false/\Hid (∀Y W',ExtX Y w W'->Y (adr ao i).block=false->W'.cell? (adr ao i)=some (.slice a m[i].length c))/\m[i].length<=c/\Sl R sz (mk X w) a m[i]:=by
 obtain⟨u,b,a,c,rfl,e,f⟩:=s.cell SlV.one i hi;refine⟨a,c,?_,hid fun Y W' d g=>d.cellY (a0S b) g,e,f⟩;cases hx:X (adr ao i).block
 ·rfl
 ·simp[mk,hx]at b
theorem Few.dec {k n m:Nat} {x:a5t} (b:x.2.1.length=n) (a:x.2.2.length=m):(decide (n<=k)&&decide (m<=k))=true↔Few k x:=by
 rw[Bool.and_eq_true,decide_eq_true_eq,decide_eq_true_eq];subst b a;exact Iff.rfl
end Go.Rep
namespace Go.Proofs.YtidbbddagfnfbaaGreat
open Go.RowKit Go.Rep Go.Lim
set_option maxRecDepth 100000 in
theorem a7E (w:World) (s:Bool) (ao l:Option Addr) (n c k e:Nat):Calls Tryz.prog 71 #[.agg #[.bool s, .slice ao n c, .slice l k e]] w (a8K w (decide (n<=8)&&decide (k<=8))):=by
 obtain⟨W,r,h,g,hz⟩:=a1g w #[.bool s, .slice ao n c, .slice l k e] 45;obtain⟨b,o⟩:∃b,w.heap.size=b:=⟨_,rfl⟩;rw[o]at g hz;have q:=g.cell 0 rfl;have p:=g.cell 1 rfl;have m:=g.cell 2 rfl;clear hz;by_cases d:n<=8
 ·have i:(n:Int)<=8:=by omega
  by_cases f:k<=8
  ·have j:(k:Int)<=8:=by omega
   have a:=hid (show true=(decide (n<=8)&&decide (k<=8))by simp[d,f]);clear d f;go_enter Tryz.func71,Tryz.ntmps71
   go_wp2_with fail
   go_ret
   exact⟨h,a0j a.out⟩
  ·have j:¬(k:Int)<=8:=by omega
   have a:=hid (show false=(decide (n<=8)&&decide (k<=8))by simp[f]);clear d f;go_enter Tryz.func71,Tryz.ntmps71
   go_wp2_with fail
   go_ret
   exact⟨h,a0j a.out⟩
 ·have i:¬(n:Int)<=8:=by omega
  have a:=hid (show false=(decide (n<=8)&&decide (k<=8))by simp[d]);clear d;go_enter Tryz.func71,Tryz.ntmps71
  go_wp2_with fail
  go_ret
  exact⟨h,a0j a.out⟩
def lightL (l:List a5t) (most:Nat):Bool:=decide (l.length<=most/\∀x∈l,Few 8 x)
def lightM (m:List (List a5t)) (r c:Nat):Bool:=decide (m.length<=r/\∀x∈m,lightL x c=true)
set_option maxRecDepth 100000 in
theorem a5s (X:Nat->Bool) (w:World) (u:Value) (l:List a5t) (b:Nat) (Q:RR (mk X w) u l) (W:b<=1000):Calls Tryz.prog 14 #[u, .int .i64 (b:Int)] w (a8K w (lightL l b)):=by
 obtain⟨ao,Z,rfl,E,v⟩:=Q;have N:=v.hd;by_cases C:l.length<=b
 ·have I:¬(b:Int)<(l.length:Int):=by omega
  have s:Hid ((∀p (f:p<l.length),Few 8 l[p])->lightL l b=true):=hid fun h=>decide_eq_true ⟨C,fun x hx=>by obtain⟨p,f,rfl⟩:=List.getElem_of_mem hx;exact h p f⟩;have F:Hid (∀p (f:p<l.length),¬Few 8 l[p]->lightL l b=false):=hid fun p f h=>decide_eq_false fun U=>h (U.2 _ (List.getElem_mem _));obtain⟨n,D⟩:∃n,l.length=n:=⟨_,rfl⟩;have y:=hid D;have M:n<=1000:=by omega
  rw[D]at N I |-;clear C D E;go_enter Tryz.func14,Tryz.ntmps14
  go_wp2_with fail
  go_loopw [5] (fun c wr=>∃i:Nat,c= .int .i64 i/\i<=n/\Hid (∀p (f:p<l.length),p<i->Few 8 l[p])/\Ext w wr) (fun c _=>n - (intOf c).toNat)
  case atStart=>exact⟨0,rfl,Nat.zero_le _,hid (fun p f h=>by omega),ExtX.refl _⟩
  case round=>
   obtain⟨i,rfl,hi,z,B⟩:=hrel;by_cases J:i<n
   ·have j:i<l.length:=by rw[y.out];exact J
    have q:=v.mono QR.mono (a0l B);obtain⟨g,o,a,c,d,e,_,_,_,hq⟩:=q.raw i j;by_cases r:Few 8 l[i]
    ·have H:Hid ((decide (l[i].2.1.length<=8)&&decide (l[i].2.2.length<=8))=true):=hid ((Few.dec rfl rfl).2 r)
     have t:Hid (∀p (f:p<l.length),p<i+1->Few 8 l[p]):=hid fun p f L=>by
      by_cases h:p=i
      ·subst h;exact r
      ·exact z.out p f (by omega)
     clear r;go_wp2_with (first|(with_reducible refine a1M a0B (by omega) (by assumption) ?_)|((with_reducible show wpList _ _ _ (⟨_, .load 45 _,_,_,_,_⟩::_) _ _);refine a0G a0t i q j rfl (by simp) QR.agg ?_;intro O m;obtain⟨R,K,V,e5,rfl⟩:=m.shape))
     refine(a7E wr _ _ _ _ _ _ _).mono ?_;rintro P T ⟨k,rfl⟩;rw[H.out];go_wp2_with fail
     go_roundw
     case rel=>exact⟨i+1,by go_num,by omega,t,B.trans k⟩
     case measure=>simp[intOf];omega
    ·have H:Hid ((decide (l[i].2.1.length<=8)&&decide (l[i].2.2.length<=8))=false):=hid (by
      cases S:(decide (l[i].2.1.length<=8)&&decide (l[i].2.2.length<=8))
      ·rfl
      ·exact absurd ((Few.dec rfl rfl).1 S) r)
     have A:=hid (F.out i j r).symm;clear r;go_wp2_with (first|(with_reducible refine a1M a0B (by omega) (by assumption) ?_)|((with_reducible show wpList _ _ _ (⟨_, .load 45 _,_,_,_,_⟩::_) _ _);refine a0G a0t i q j rfl (by simp) QR.agg ?_;intro O m;obtain⟨R,K,V,e5,rfl⟩:=m.shape))
     refine(a7E wr _ _ _ _ _ _ _).mono ?_;rintro P T ⟨k,rfl⟩;rw[H.out];go_wp2_with fail
     go_ret
     exact⟨B.trans k,a0j A.out⟩
   ·have A:=hid (s.out fun p f=>z.out p f (by rw[y.out]at f;omega)).symm
    have G:i=n:=by omega
    subst G;go_wp2_with fail
    go_ret
    exact⟨B,a0j A.out⟩
 ·have Y:(b:Int)<(l.length:Int):=by omega
  have A:Hid (false=lightL l b):=hid (decide_eq_false fun h=>C h.1).symm;clear C;go_enter Tryz.func14,Tryz.ntmps14
  go_wp2_with fail
  go_ret
  exact⟨ExtX.refl _,a0j A.out⟩
set_option maxRecDepth 100000 in
theorem a9v (X:Nat->Bool) (w:World) (u:Value) (m:List (List a5t)) (r c:Nat) (Q:MR (mk X w) u m) (f:r<=1000) (T:c<=1000):Calls Tryz.prog 13 #[u, .int .i64 (r:Int), .int .i64 (c:Int)] w (a8K w (lightM m r c)):=by
 obtain⟨ao,V,rfl,C,o⟩:=Q;have N:=o.hd;by_cases A:m.length<=r
 ·have H:¬(r:Int)<(m.length:Int):=by omega
  have g:Hid ((∀p (a:p<m.length),lightL m[p] c=true)->lightM m r c=true):=hid fun h=>decide_eq_true ⟨A,fun x hx=>by obtain⟨p,a,rfl⟩:=List.getElem_of_mem hx;exact h p a⟩;have D:Hid (∀p (a:p<m.length),lightL m[p] c=false->lightM m r c=false):=hid fun p a h=>decide_eq_false fun S=>by have:=S.2 _ (List.getElem_mem a);rw[h]at this;simp at this
  obtain⟨n,B⟩:∃n,m.length=n:=⟨_,rfl⟩;have s:=hid B;have M:n<=1000:=by omega
  rw[B]at N H |-;clear A B C;go_enter Tryz.func13,Tryz.ntmps13
  go_wp2_with fail
  go_loopw [7] (fun E wr=>∃i:Nat,E= .int .i64 i/\i<=n/\Hid (∀p (a:p<m.length),p<i->lightL m[p] c=true)/\Ext w wr) (fun E _=>n - (intOf E).toNat)
  case atStart=>exact⟨0,rfl,Nat.zero_le _,hid (fun p a h=>by omega),ExtX.refl _⟩
  case round=>
   obtain⟨i,rfl,hi,t,z⟩:=hrel;by_cases I:i<n
   ·have q:i<m.length:=by rw[s.out];exact I
    have G:=o.mono RR.mono (a0l z);obtain⟨K,J,O,l,j,v⟩:=G.rowR i q;have y:=l.out noY wr (ExtX.refl _) rfl;have b:=a5s X wr (.slice K m[i].length J) m[i] c ⟨K,J,rfl,j,v⟩ T;clear l v;cases e:lightL m[i] c
    ·rw[e]at b
     have f:=hid (D.out i q e).symm;clear e;go_wp2_with (with_reducible refine a0q a0s (by omega) (by assumption) ?_)
     refine b.mono ?_;rintro P R ⟨d,rfl⟩;clear y;go_wp2_with fail
     go_ret
     exact⟨z.trans d,a0j f.out⟩
    ·rw[e]at b
     have k:Hid (∀p (a:p<m.length),p<i+1->lightL m[p] c=true):=hid fun p a L=>by
      by_cases h:p=i
      ·subst h;exact e
      ·exact t.out p a (by omega)
     clear e;go_wp2_with (with_reducible refine a0q a0s (by omega) (by assumption) ?_)
     refine b.mono ?_;rintro P R ⟨d,rfl⟩;clear y;go_wp2_with fail
     go_roundw
     case rel=>exact⟨i+1,by go_num,by omega,k,z.trans d⟩
     case measure=>simp[intOf];omega
   ·have f:=hid (g.out fun p a=>t.out p a (by rw[s.out]at a;omega)).symm
    have F:i=n:=by omega
    subst F;go_wp2_with fail
    go_ret
    exact⟨z,a0j f.out⟩
 ·have U:(r:Int)<(m.length:Int):=by omega
  have f:Hid (false=lightM m r c):=hid (decide_eq_false fun h=>A h.1).symm;clear A;go_enter Tryz.func13,Tryz.ntmps13
  go_wp2_with fail
  go_ret
  exact⟨ExtX.refl _,a0j f.out⟩
end Go.Proofs.YtidbbddagfnfbaaGreat
namespace Go.Rep
open Go.RowKit Go.Lim
theorem b6W {m:List (List a5t)} {r c:Nat} (h:Go.Proofs.YtidbbddagfnfbaaGreat.lightM m r c=true):m.length<=r/\∀x∈m,x.length<=c/\∀q∈x,Few 8 q:=by
 have a:=of_decide_eq_true h;exact⟨a.1,fun x hx=>of_decide_eq_true (a.2 x hx)⟩
theorem b6X {l:List a5t} {c:Nat} (h:Go.Proofs.YtidbbddagfnfbaaGreat.lightL l c=true):l.length<=c/\∀q∈l,Few 8 q:=of_decide_eq_true h
theorem Few.bigB {x:a5t} (h:Few 8 x):Few 68719476736 x:=⟨Nat.le_trans h.1 (by decide),Nat.le_trans h.2 (by decide)⟩
end Go.Rep
namespace Go.Proofs.YtidbbddagfnfbaaGreat
open Go.RowKit Go.Rep Go.Lim Go.Lin
def b7N (X:Nat->Bool) (tb:Nat) (w:World) (e:Ending) (w':World):Prop:=ExtX (tbm tb) w w'/\a0K X tb w'/\∃vx vy p y,e= .returned (.tuple #[vx,vy])/\MV (mk X w') vx p/\RV (mk X w') vy y/\p.length<=8/\y.length<=9/\(a6c p y=true->p.length<=8/\a0x p<=4/\∃B,BM B p/\BR B y/\1<=B/\(B<=510/\p.length*(2*B+1)<=6540))
theorem b6Y {p:Mat} {c:Nat} (h:∀r∈p,r.length<=c):a0x p<=c:=by
 by_cases a:0<p.length
 ·rw[a1J a];exact h _ (List.getElem_mem _)
 ·obtain rfl:p= []:=List.eq_nil_of_length_eq_zero (by omega)
  exact Nat.zero_le _
set_option maxRecDepth 100000 in
theorem a9w (X:Nat->Bool) (A:Nat) (w:World) (ht:a0K X A w) (hX:HX X w):
  Calls Tryz.prog 17 #[.pointer (some ⟨A,0,none⟩), .int .i64 4] w (b7N X A w):=by
 have D:=a3B ht.1;have h4:((4:Nat):Int)=4:=rfl;have J:=b0z X A 6 4 w ht hX (by decide) (by decide) (by decide) (by decide);rw[h4]at J;go_enter Tryz.func17,Tryz.ntmps17
 go_wp2_with fail
 refine J.mono ?_;rintro e w1 ⟨I,a3,S,Q,p,y,d,rfl,hp,hy,V,L,b3,a6,z,O,a9,P⟩;have a8:=hX.ext I;have c:Hid (∀(N:World) (S Q:Value) (p:Mat) (y:List Rat),ExtX (tbm A) w N->a0K X A N->MV (mk X N) S p->RV (mk X N) Q y->BM 4 p->BR 4 y->p.length<=6->y.length<=7->(∀r∈p,r.length<=4)->b7N X A w (.returned (.tuple #[S,Q])) N):=hid fun N S Q p y h1 h2 h3 h4 h5 h6 h7 h8 h9=>⟨h1,h2,S,Q,p,y,rfl,h3,h4,by omega,by omega,fun _=>⟨by omega,b6Y h9,4,h5,h6,by decide,by decide,by omega⟩⟩;have E:BM 4 p:=a9.le (by decide);clear J;go_wp2_with fail
 refine(a5g X A 8 w1 a3 (by decide) (by decide)).mono ?_;rintro e w2 ⟨v,a1,b,rfl⟩;have F:=I.trans v;have i:=MV.mono _ _ _ _ (a0w v D) hp;have k:=RV.mono _ _ _ _ (a0w v D) hy;have a5:=a8.ext v;have U:∀r∈p,r.length<=4:=fun r h=>by rw[z r h];exact a6
 clear hp hy a3 I v;cases b
 ·obtain⟨po,pc,rfl,s,f⟩:=id i
  have l:0<p.length:=by omega
  obtain⟨a0,c0,Z,g,j,x⟩:=f.row 0 l;have Y:=g.out noY w2 (ExtX.refl _) rfl;have M:=f.hd;rw[z (p[0]'l) (List.getElem_mem _)]at Y;have a:=hid (c.out w2 _ _ p y F a1 i k E P L (by omega) U);obtain⟨n,B⟩:∃n,p.length=n:=⟨_,rfl⟩;rw[B]at M a l |-;clear B g x j f i k s O V L c;go_wp2_with (with_reducible refine a0q a0s (by omega) (by assumption) ?_)
  go_ret2
  exact a.out
 ·go_wp2_with fail
  refine(b0A X A 6 w2 _ _ p y a1 a5 i k V L (by decide) O E P U).mono ?_;rintro e R ⟨b0,K,b1,b2,o,y3,rfl,m,q,H,G,W,C,a4⟩;have u:=F.trans b0;obtain⟨po,pc,rfl,s,f⟩:=id m;have M:=f.hd;rcases a4 with h|h
  ·have a:=hid (c.out R _ _ o y3 u K m q H G W C h)
   by_cases l:0<o.length
   ·obtain⟨a0,c0,Z,g,j,x⟩:=f.row 0 l
    have Y:=g.out noY R (ExtX.refl _) rfl;have hd:=h (o[0]'l) (List.getElem_mem _);obtain⟨T,t⟩:∃T,(o[0]'l).length=T:=⟨_,rfl⟩;rw[t]at Y hd;obtain⟨n,B⟩:∃n,o.length=n:=⟨_,rfl⟩;rw[B]at M a |-;have a7:0<n:=by omega
    clear t B g x j f m q s c h i k l;go_wp2_with (with_reducible refine a0q a0s (by omega) (by assumption) ?_)
    go_ret2
    exact a.out
   ·have hz:o.length=0:=by omega
    rw[hz]at a |-;clear hz f m q s c h i k l M;go_wp2_with (with_reducible refine a0q a0s (by omega) (by assumption) ?_)
    go_ret2
    exact a.out
  ·by_cases l:0<o.length
   ·obtain⟨a0,c0,Z,g,j,x⟩:=f.row 0 l
    have Y:=g.out noY R (ExtX.refl _) rfl;have hd:=h (o[0]'l) (List.getElem_mem _);obtain⟨T,t⟩:∃T,(o[0]'l).length=T:=⟨_,rfl⟩;rw[t]at Y hd;have a:=hid (c.out R (.slice none 0 0) (.slice none 0 0) [] [] u K (SlV.zero _ _ _) (SlV.zero _ _ _) (fun r z=>by simp at z) (fun r z=>by simp at z) (by simp) (by simp) (fun r z=>by simp at z));obtain⟨n,B⟩:∃n,o.length=n:=⟨_,rfl⟩;rw[B]at M |-;have a7:0<n:=by omega
    clear t B g x j f m q s c h i k l;go_wp2_with (with_reducible refine a0q a0s (by omega) (by assumption) ?_)
    go_ret2
    exact a.out
   ·have hz:o.length=0:=by omega
    have a2:o= []:=List.eq_nil_of_length_eq_zero hz;have a:=hid (c.out R _ _ o y3 u K m q H G W C (fun r z=>by rw[a2]at z;simp at z));rw[hz]at a |-;clear hz f m q s c h i k l M a2;go_wp2_with (with_reducible refine a0q a0s (by omega) (by assumption) ?_)
    go_ret2
    exact a.out
set_option maxRecDepth 100000 in
set_option maxHeartbeats 3200000 in
theorem b2j (lo:Option Addr) (l:List Int) (cl:Nat) (ua uv:Value) (ra:List (List a5t)) (rx:List a5t) (c2:Int) (w:World) (hl:Sl (a0p .i64) 1 w.cell? lo l) (d9:l.length<=cl) (d3:l.length<=9223372036854775807)
  (J:MR (mk noY w) ua ra) (L:RR (mk noY w) uv rx):
  Calls Tryz.prog 3 #[.slice lo l.length cl,ua,uv, .int .i64 c2] w (a8K w true):=by
 have G:=a9v noY w ua ra 200 200 J (by decide) (by decide);have l3:=hid (fun f (h:Ext w f)=>a5s noY f uv rx 200 (mkx RR.mono L h) (by decide));cases C:lightM ra 200 200
 ·rw[C]at G
  clear C;go_enter Tryz.func3,Tryz.ntmps3
  go_wp2_with fail
  refine G.mono ?_;rintro e R ⟨c,rfl⟩;clear G;go_wp2_with fail
  refine(a2S R).mono ?_;rintro e H ⟨I,rfl⟩;go_wp2_with fail
  go_ret
  exact⟨c.trans I,rfl⟩
 rw[C]at G;cases Z:lightL rx 200
 ·rw[Z]at l3
  clear C Z;go_enter Tryz.func3,Tryz.ntmps3
  go_wp2_with fail
  refine G.mono ?_;rintro e R ⟨c,rfl⟩;have t:=l3.out R c;clear G;go_wp2_with fail
  refine t.mono ?_;rintro e w3 ⟨q,rfl⟩;clear t;go_wp2_with fail
  refine(a2S w3).mono ?_;rintro e w4 ⟨a,rfl⟩;go_wp2_with fail
  go_ret
  exact⟨c.trans (q.trans a),rfl⟩
 rw[Z]at l3;obtain⟨n1,f1⟩:=b6W C;obtain⟨n3,f3⟩:=b6X Z;have d2:=J.mv (fun r hr x hx=>((f1 r hr).2 x hx).bigB);have b4:=L.rv (fun x hx=>(f3 x hx).bigB);have ba:=J.bm (fun r hr=>(f1 r hr).2) (by decide);have bv:=L.br f3 (by decide);obtain⟨n,a9⟩:∃n,b7M ra=n:=⟨_,rfl⟩;obtain⟨P,a1⟩:∃P,rx.map b7L=P:=⟨_,rfl⟩;have d7:P.length<=200:=by rw[<-a1,List.length_map];exact n3
 rw[a9]at d2 ba;rw[a1]at b4 bv;have d:=hid (fun f u v (h5:n.length<=5) (h4:a0x n<=4) (C:MV (mk noY f) u n) (h2:RV (mk noY f) v P)=>a7D noY f u v n P c2 (HX.none _) C h2 (by omega) (by omega) fun _=>⟨by omega,h4,8,ba,bv,by decide,by decide,by omega⟩);obtain⟨aa,ca,rfl,a3,E⟩:=d2;obtain⟨ax,cx,rfl,b0,c3⟩:=b4;have s:Hid (n.length=0->a0x n=0):=hid fun h=>by
  obtain rfl:n= []:=List.eq_nil_of_length_eq_zero h;rfl
 have j:=hid (fun(h:0<n.length)=>(by
  obtain⟨D,F,_,a8,_,_⟩:=E.row 0 h;rw[<-a1J h]at a8;exact⟨D,F,fun f hw=>a8.out noY f hw rfl⟩:∃D F,∀f,Ext w f->f.cell? (adr aa 0)=some (.slice D (a0x n) F)))
 have e0:=E.hd;obtain⟨z,M⟩:∃z,n.length=z:=⟨_,rfl⟩;obtain⟨nx,Y⟩:∃nx,P.length=nx:=⟨_,rfl⟩;obtain⟨cc,d0⟩:∃cc,a0x n=cc:=⟨_,rfl⟩;have N:Hid (MV (mk noY w) (.slice aa z ca) n):=hid ⟨aa,ca,by rw[M],a3,E⟩;have S:Hid (RV (mk noY w) (.slice ax nx cx) P):=hid ⟨ax,cx,by rw[Y],b0,c3⟩;rw[M,d0]at d j s;rw[M]at G a3 e0 |-;rw[Y]at l3 |-;clear C Z f1 f3 n1 n3 J L a9 a1 E c3 a3 b0 M Y d0 d7 ba bv;go_enter Tryz.func3,Tryz.ntmps3
 go_wp2_with fail
 refine G.mono ?_;rintro e v1 ⟨V,rfl⟩;have t:=l3.out v1 V;clear G;go_wp2_with fail
 refine t.mono ?_;rintro e B ⟨b6,rfl⟩;have g:=V.trans b6;clear t l3;have W:5<z\/(z<=5/\0<z/\4<cc)\/(z=0/\cc<=4)\/(z<=5/\0<z/\cc<=4):=by
  have:=s.out;omega
 clear s;have b8:Sl (a0p .i64) 1 B.cell? lo l:=by
  rw[<-a1U]at hl |-;exact hl.mono (a0p.mono _) (a0l g)
 have K:=hid (b5Y lo l cl B b8 d9 d3);have b2:Hid (MV (mk noY B) (.slice aa z ca) n):=hid (mkx MV.mono N.out g);have c8:Hid (RV (mk noY B) (.slice ax nx cx) P):=hid (mkx RV.mono S.out g);have U:=hid (fun(h:0<z)=>(by
  obtain⟨D,F,h2⟩:=j.out h;exact⟨D,F,h2 B g⟩:∃D F,B.cell? (adr aa 0)=some (.slice D cc F)))
 clear j N S V b6 b8 hl;rcases W with hc|⟨c5,a5,a2⟩|⟨rfl,a2⟩|⟨c5,a5,a2⟩
 ·clear d K
  go_wp2_with fail
  refine(a2S B).mono ?_;rintro e w4 ⟨a,rfl⟩;go_wp2_with fail
  go_ret
  exact⟨g.trans a,rfl⟩
 ·obtain⟨D,F,k0⟩:=U.out a5
  clear d K;go_wp2_with (with_reducible refine a0q a0s (by omega) (by assumption) ?_)
  refine(a2S B).mono ?_;rintro e w4 ⟨a,rfl⟩;clear k0;go_wp2_with fail
  go_ret
  exact⟨g.trans a,rfl⟩
 case' inr.inr.inl=>
  have c5:0<=5:=by omega
 case' inr.inr.inr=>
  obtain⟨D,F,k0⟩:=U.out a5
 all_goals
  go_wp2_with (with_reducible refine a0q a0s (by omega) (by assumption) ?_)
  refine K.out.mono ?_;rintro e R ⟨rfl,c,a6,b3⟩
  (try clear k0)
  obtain⟨A,d1⟩:∃A,B.heap.size=A:=⟨_,rfl⟩;have a4:HX (tbm A) R:=fun k hk=>by
   have:k=A:=by simpa[tbm]using hk
   omega
  have b5:=hid (fun H (h:ExtX (tbm A) R H)=>(g.trans (c.then_ h fun i hi _=>a3k (by omega)):Ext w H));have T:=hid (fun H (h:ExtX (tbm A) R H)=>(by
   have hE:Ext B H:=c.then_ h fun i hi _=>a3k (by omega);exact d.out H _ _ (by omega) a2 (mkx MV.mono b2.out hE) (mkx RV.mono c8.out hE)))
  rw[d1]at a6 |-;obtain⟨X,hX⟩:∃X,tbm A=X:=⟨_,rfl⟩;have Q:∀k,tbm A k=true->X k=true:=fun k hk=>by rw[<-hX];exact hk
  rw[hX]at a6 a4;clear c b3 d1 hX K b2 c8 U d;go_wp2_with fail
  refine(a9w X A R a6 a4).mono ?_;rintro e H ⟨I,e3,vx,vy,p,y,rfl,hp,hy,e7,e4,hd⟩;have b1:=a4.ext I;have O:=hid (fun f (b:Int) (C:HX X f) (h2:MV (mk X f) vx p) (Z:RV (mk X f) vy y)=>a7D X f vx vy p y b C h2 Z (by omega) (by omega) hd);clear hd;have b9:=hid (b1b X A [1,2,16,64,0,-1,1048576,1048577] #[.int .i64 1, .int .i64 2, .int .i64 16, .int .i64 64, .int .i64 0, .int .i64 (-1), .int .i64 1048576, .int .i64 1048577] 3 8 H (-1) 1048577 e3 b1 rfl rfl (by simp) (by simp) (hid (by simp)));go_wp2_with fail
  refine b9.out.mono ?_;rintro e w3 ⟨q,e6,m,rfl,_,_⟩;have c7:=b1.ext q;have b7:=MV.mono _ _ _ _ (a0w q Q) hp;have c6:=RV.mono _ _ _ _ (a0w q Q) hy;have a7:=I.trans q;have c4:=hid (O.out w3 m c7 b7 c6);clear b9;go_wp2_with fail
  refine c4.out.mono ?_;rintro e w4 ⟨a,rfl⟩;have e1:=a7.then_ a (fun _ _ _=>rfl);have c1:=hid (T.out w4 e1);clear c4;go_wp2_with fail
  refine c1.out.mono ?_;rintro e w5 ⟨d6,rfl⟩;have o:=a.trans d6;have e2:=a7.then_ o (fun _ _ _=>rfl);have c9:=hid (O.out w5 64 (c7.ext o) (mkx MV.mono b7 o) (mkx RV.mono c6 o));clear c1;go_wp2_with fail
  refine c9.out.mono ?_;rintro e w6 ⟨d8,rfl⟩;clear c9;go_wp2_with fail
  refine(a2S w6).mono ?_;rintro e w7 ⟨d5,rfl⟩;have d4:=b5.out w7 (e2.then_ (d8.trans d5) (fun _ _ _=>rfl));go_wp2_with fail
  go_ret
  exact⟨d4,rfl⟩
open Go.ChangeShapes Go.WideShapes Go.ChangeAt Go.Deep
theorem b4G {n:Int} (h:(Lit.int .i64 n).wf=true): -9223372036854775808<=n/\n<=9223372036854775807:=by
 unfold Lit.wf at h;simpa[IntKind.min,IntKind.max,IntKind.signed,IntKind.bits]using h
section
variable {H:Type} {enc:TypeId×Value->H} {P:Program} {w:World} {base:Nat} {spare:Nat->Bool} {held:Bool}
theorem b9F {f:Nat} {v:Value} {x:DataW H×List MemPlace} (h:DataW.trod enc Tryz.prog w base spare held f 22 [v]=some x):
  ∃(a:Option Addr) (l:List Int) (m:Nat),v= .slice a l.length m/\l.length<=m/\l.length<=9223372036854775807/\Sl (a0p .i64) 1 (mk noY w) a l/\∀x∈l,-9223372036854775808<=x/\x<=9223372036854775807:=by
 rw[a1U];rcases open_ints Tryz.underlying22 Tryz.underlying3 (by kernel_rfl) h with⟨e,_⟩|⟨x,len,c,k,e,_,D,u,hz,_,d,o⟩
 ·refine⟨none,[],0,by simpa using e,by simp,by simp,Sl.nil _ _ _ _,by simp⟩
 ·have B:len<=k.length:=by
   rw[hz];split<;>omega
  have n:(k.take len).length=len:=by simp;omega
  have r:c<=9223372036854775807:=by simpa[maxLen]using u
  refine⟨some x,k.take len,c,by rw[n];simpa using e,by omega,by omega,⟨fun C=>?_,fun i hi=>?_⟩,fun y A=>b4G (o y (List.mem_of_mem_take A))⟩
  ·obtain⟨_,b,p,hx⟩:=a1h (d 0 (by omega))
   exact⟨b,p,by rw[hx]⟩
  ·have g:i<k.length:=by omega
   refine⟨.int .i64 (k.take len)[i],rfl,fun j s=>?_,rfl⟩;have q:j=0:=by simp[Value.cells]at s;exact s
   subst q;have t:=d i g;have z:=(a1h (d 0 (by omega))).1 i;rw[z]at t;simp only[Nat.mul_one,Nat.add_zero,List.getElem_take];rw[t];simp[List.getD_eq_getElem?_getD,g,Value.cells]
end
end Go.Proofs.YtidbbddagfnfbaaGreat
namespace Go.Proofs.YtidbbddagfnfbaaGreat.seat
open Go.RowKit
theorem and_t {a b:Bool} (c:a=true) (d:b=true):(a&&b)=true:=by rw[c,d];rfl
theorem laid:laidOutB Tryz.pinned.checked.prog=true:=by kernel_rfl
theorem maps:mapsRowed Tryz.pinned.checked.prog=true:=by kernel_rfl
theorem stops:(Program.stops Tryz.pinned.checked.prog==[])=true:=by kernel_rfl
theorem knobs:(Program.stopKnobs Tryz.pinned.checked.prog==[])=true:=by kernel_rfl
theorem heard:Program.stopsHeard Tryz.pinned.checked.prog=true:=by kernel_rfl
theorem enter:Program.mayEnter Tryz.pinned.checked.prog=true:=by kernel_rfl
theorem lifts:(Rows.selectionBestRow.lifted==Program.liftsFinal Tryz.pinned.checked.prog)=true:=by kernel_rfl
theorem make:(Program.make Tryz.pinned.checked.prog==some Rows.selectionBestRow.make)=true:=by kernel_rfl
theorem plain:(Rows.selectionBestRow.plainKeys==Program.plainKeys Tryz.pinned.checked.prog)=true:=by kernel_rfl
end Go.Proofs.YtidbbddagfnfbaaGreat.seat
