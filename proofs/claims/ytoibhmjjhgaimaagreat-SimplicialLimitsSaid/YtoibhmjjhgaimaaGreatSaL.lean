/- simplicial: contains. Conditions: at most 64 rows of at most 3 numbers of few digits. simplicial: Depth. Conditions: numbers of few digits. simplicial: Depth. Conditions: numbers of few digits. The tape of choices: rational numbers, rows of them. What is drawn is some number of few digits. Conditions: none beyond small ranges. The tape of choices: rows of rational numbers. Conditions: none beyond small ranges. The tape of choices: numbers that may not be valid, rows of them. What is drawn is some number of few digits. Conditions: none beyond small ranges. The tape of choices: points. What is drawn is some list of rows of few digits. Conditions: none beyond small ranges. -/
import Derived.Test.YtoibhmjjhgaimaaGreatSaK
import Derived.BigQuiet
import Derived.Deep.RegionHeld
import Derived.Deep.RegionHeld3
namespace Go.Lin
open Go.Lim Go.Rep
theorem b8V {c B:Nat} {s:Mat} (hs:BM B s) (hB:1<=B):BM (2*B+1) (a8J c s):=fun r hr q hq=>by
 unfold a8J ofF at hr;obtain⟨j,_,rfl⟩:=List.mem_map.1 hr;obtain⟨i,_,rfl⟩:=List.mem_map.1 hq;have h:=a8p hs hB;exact Nat.le_trans (a6F _ _) (by have:=h (i+1) j;have:=h 0 j;omega)
theorem b8W {B:Nat} {s:Mat} {x:List Rat} (hs:BM B s) (hx:BR B x):BR (2*B+1) (a9f s x):=fun q hm=>by
 unfold a9f at hm;obtain⟨i,hi,rfl⟩:=List.getElem_of_mem hm;rw[List.getElem_zipWith];have h1:i<x.length:=by rw[List.length_zipWith]at hi;omega
 have h2:i<(s.getD 0 []).length:=by rw[List.length_zipWith]at hi;omega
 have h3:=hx x[i] (List.getElem_mem _);have h4:hq ((s.getD 0 [])[i])<=B:=by
  by_cases h0:0<s.length
  ·have e:s.getD 0 []=s[0]:=by simp[List.getD_eq_getElem?_getD,h0]
   exact hs s[0] (List.getElem_mem _) _ (by rw[<-e];exact List.getElem_mem _)
  ·have e:s= []:=List.eq_nil_of_length_eq_zero (by omega)
   subst e;simp at h2
 exact Nat.le_trans (a6F _ _) (by omega)
theorem b4t {l:List Rat} {B:Nat} (h:BR B l) (hB:1<=B):∀i,hq (1 - sm i (vec l))<=3+i*(B+1)
 |0=>by
  have:hq (1 - sm 0 (vec l))<=1:=by show hq (1 - 0)<=1;decide+kernel
  omega
 |i+1=>by
  have ih:=b4t h hB i;have e:1 - sm (i+1) (vec l)=(1 - sm i (vec l)) - vec l i:=by show 1 - (sm i (vec l)+vec l i)=_;grind
  rw[e,Nat.succ_mul];exact Nat.le_trans (a6F _ _) (by have:=brD h hB i;rw[show vec l i=l.getD i 0 from rfl];omega)
theorem b4u (l:List Rat) (i:Nat):1 - sm (i+1) (vec l)=(1 - sm i (vec l)) - vec l i:=by show 1 - (sm i (vec l)+vec l i)=_;grind
theorem b8X {n c:Nat} {s:Mat} (hsh:Shp n c s) (h1:1<=n) (h2:n<=64) (h3:1<=c) (h4:c<=3):a2k s=true/\a0l s=c:=by
 have e:a0l s=c:=by
  have:=hsh.row (show 0<n by omega);exact this
 exact⟨a0L.2 ⟨by rw[hsh.1];exact h1,by rw[hsh.1];exact h2,by omega,by omega,fun i hi=>by rw[e];exact hsh.2 _ (List.getElem_mem _)⟩,e⟩
theorem b8Y {c:Nat} {s:Mat} {x:List Rat} (hc1:1<=c) (hc3:c<=3) (hs:Shp (c+1) c s) (hx:x.length=c) (hd:b2y (a8J c s) c≠0):0<a6g s x↔(∀i,i<c->0<=vec (b2z c s x) i)/\0<=1 - sm c (vec (b2z c s x)):=by
 obtain⟨h1,h2⟩:=b8X hs (by omega) (by omega) hc1 hc3;obtain⟨k,hk,he⟩:=a8z h1 (x:=x) (by omega);rw[h2]at hk;rw[he];exact b8z hc3 hs hx hd hk
theorem c0t {c:Nat} {s M:Mat} (hent:Eqm c c (ent M) fun j i=>ent s (i+1) j - ent s 0 j) (i j:Nat) (hi:i<c) (hj:j<c) (h1:j<M.length) (h2:i<M[j].length) (h3:i<(s.drop 1).length) (h4:j<(s.drop 1)[i].length) (h5:0<s.length) (h6:j<s[0].length):(s.drop 1)[i][j] - s[0][j]=M[j][i]:=by
 rw[a7J h1 h2,hent j hj i hi,a7J h5 h6]
 congr 1
 have h3':i+1<s.length:=by rw[List.length_drop]at h3;omega
 have e:(s.drop 1)[i]=s[i+1]:=by simp
 unfold ent;simp only[e]at h4 |-;simp[List.getD_eq_getElem?_getD,h3',h4]
end Go.Lin
namespace Go.Proofs.YtoibhmjjhgaimaaGreat
open Go.RowKit Go.Rep Go.Lim Go.Lin
set_option maxRecDepth 100000 in
set_option maxHeartbeats 1600000 in
theorem b8Z (X:Nat->Bool) (w:World) (u v:Value) (s:Mat) (x:List Rat) (n c B:Nat) (hX:HX X w) (hu:MV (mk X w) u s) (hv:RV (mk X w) v x) (hsh:Shp n c s) (hn:n<=64) (hc3:c<=3) (hx:x.length=c) (hsB:BM B s) (hxB:BR B x) (hB1:1<=B) (hB:B<=2000) (hne:n≠c+1):
  Calls Tryz.prog 100 #[u,v] w (a7A w (decide (0<a6g s x))):=by
 have hdep:=a7I X w u v s x B hX hu hv (by rw[hsh.1];omega) hsB hxB hB1 (by omega);obtain⟨ua,uca,rfl,huca,hua⟩:=hu;obtain⟨va,vca,rfl,hvca,hva⟩:=hv;rw[hsh.1,hx]at hdep |-;obtain⟨dv,hdv⟩:∃k,a6g s x=k:=⟨_,rfl⟩;rw[hdv]at hdep |-;have hq:((n:Int)==(c:Int)+1)=false:=a1S (by omega);have hq2:((n:Int)==((c+1:Nat):Int))=false:=a1S (by omega);clear hsh hx hdv hua hva huca hvca;go_enter Tryz.func100,Tryz.ntmps100
 go_wp2_with fail
 refine hdep.mono ?_;rintro e w1 ⟨hE1,rfl⟩;clear hdep;go_wp2_with fail
 go_ret
 exact⟨hE1,rfl⟩
theorem c2c {c:Nat} (h:c<=3):35^c<=42875:=Nat.le_trans (Nat.pow_le_pow_right (by decide) h) (by decide)
set_option maxRecDepth 100000 in
set_option maxHeartbeats 3200000 in
theorem b9a (X:Nat->Bool) (w:World) (u v:Value) (s:Mat) (x:List Rat) (c B:Nat) (hX:HX X w) (hu:MV (mk X w) u s) (hv:RV (mk X w) v x) (hsh:Shp (c+1) c s) (hc1:1<=c) (hc3:c<=3) (hx:x.length=c) (hsB:BM B s) (hxB:BR B x) (hB1:1<=B) (hB:B<=2000):
  Calls Tryz.prog 100 #[u,v] w (a7A w (decide (0<a6g s x))):=by
 have hdep:=hid (fun w' (h:Ext w w')=>a7I X w' u v s x B (hX.ext h) (mkx MV.mono hu h) (mkx RV.mono hv h) (by rw[hsh.1];omega) hsB hxB hB1 (by omega));have hMs:=a6m c s;have hMB:=b8V (c:=c) hsB hB1;have hbB:=b8W hsB hxB;have hbl:=b5U hsh hx;obtain⟨hMf,hMc⟩:=sqf hMs (by omega);have hMt:=b8v hMs (by omega) hMB (by omega) (by omega);have hpw:35^c*(2*B+1)<=42875*4001:=Nat.mul_le_mul (c2c hc3) (by omega);have hWT:a9C (a3f (a8J c s) (a9f s x) c) (c+1):=b3h (a2h hMs) (b1v hMs (a8p hMB (by omega)) hbB) (by omega);have hWB:BR 171542875 (b2z c s x):=fun q hq=>Nat.le_trans (c0r hMs (a8p hMB (by omega)) hbB q hq) (by omega);have hdet:=hid (fun w' um (h:Ext w w') (hm:MC (mk X w') um (a8J c s))=>c0o X w' um _ c (hX.ext h) (hm.mv fun r hr q hq=>Nat.le_trans (hMB r hr q hq) (by omega)) hMf hMs.1 hMc (by omega) hMt.e);have hsol:=hid (fun w' um ub (h:Ext w w') (hm:MC (mk X w') um (a8J c s)) (hb:RC (mk X w') ub (a9f s x))=>(show Calls Tryz.prog 156 #[um,ub] w' (b1x X w' (b8x c s x) c)from b6y X w' um ub _ _ c c (hX.ext h) (hm.mv fun r hr q hq=>Nat.le_trans (hMB r hr q hq) (by omega)) (hb.rv fun q hq=>Nat.le_trans (hbB q hq) (by omega)) hMf hMs.1 hMc hbl hWT));have h0s:0<s.length:=by rw[hsh.1];omega
 have hmin:=hid (fun w' u0 (h:Ext w w') (h0:RV (mk X w') u0 s[0])=>(by
  have:=b7p X w' v u0 x s[0] (hX.ext h) (mkx RV.mono hv h) h0 (by omega) (by rw[hx];exact hsh.2 _ (List.getElem_mem _));have e:List.zipWith (· - ·) x s[0]=a9f s x:=by unfold a9f;simp[List.getD_eq_getElem?_getD,h0s]
  rw[e]at this;exact this:Calls Tryz.prog 157 #[v,u0] w' (a1Z X w' RC (a9f s x))))
 have hval:=hid (b8Y hc1 hc3 hsh hx);have hcons:=hid (b1k (s:=s) hc3 hx);have hent:=hid (a8r c s);have hMr:=hid hMs.2;have hMl:Hid ((a8J c s).length=c):=hid hMs.1;have hWl:Hid ((b2z c s x).length=c):=hid (b5V c s x);have hWS:Hid (b8w (b8x c s x).1 (b8x c s x).2 c=b2z c s x):=hid rfl;obtain⟨dv,hdv⟩:∃k,a6g s x=k:=⟨_,rfl⟩;obtain⟨M,hM⟩:∃M,a8J c s=M:=⟨_,rfl⟩;obtain⟨W,hW⟩:∃W,b2z c s x=W:=⟨_,rfl⟩;obtain⟨S,hS⟩:∃S,b8x c s x=S:=⟨_,rfl⟩;obtain⟨b,hb⟩:∃b,a9f s x=b:=⟨_,rfl⟩;obtain⟨dd,hdd⟩:∃d,b2y M c=d:=⟨_,rfl⟩;rw[hM]at hdet hsol hval hcons hent hMr hMl;rw[hdd]at hdet hval hcons;rw[hdv]at hdep hval |-;rw[hW]at hval hWB hWl hWS;rw[hS]at hsol hcons hWS;rw[hb]at hsol hmin;have hddB:=hid (b8u hMt.e (by omega));rw[hM,hdd]at hddB;have hsl:=hid hsh.1;have hsr:=hid hsh.2;have hxl:=hid hx;have hsB':=hid (fun i (h:i<s.length) j (hj:j<s[i].length)=>hsB s[i] (List.getElem_mem h) s[i][j] (List.getElem_mem hj));have hWB':=hid hWB;obtain⟨ua,uca,rfl,huca,hua⟩:=hu;obtain⟨va,vca,rfl,hvca,hva⟩:=hv;have hhu:=hua.hd;have hhv:=hva.hd;rw[hx]at hdep hmin hvca hhv |-;obtain⟨a0,c0,hX0',hc0,hcl0,hq0⟩:=hua.row 0 h0s;rw[hsh.2 s[0] (List.getElem_mem _)]at hc0 hcl0;have hh0:Hd a0 c:=by have:=hq0.hd;rw[hsh.2 s[0] (List.getElem_mem _)]at this;exact this
 have k00w:=hc0.out noY w (ExtX.refl _) rfl;have hmb:=hid (a4M k00w);have hq:((s.length:Int)==(c:Int)+1)=true:=a7w (by have:=hsl.out;omega);have hs4:s.length<=4:=by have:=hsl.out;omega
 have hs1:1<=s.length:=h0s;have hdl:Hid ((s.drop 1).length=c):=hid (by rw[List.length_drop];have:=hsl.out;omega);have hXw:=hid hX;clear hsh hx hdv hM hW hS hb hdd hMs hMB hbB hbl hMf hMc hMt hpw hWT hWB hsB hxB k00w;go_enter Tryz.func100,Tryz.ntmps100
 go_wp2_with ((with_reducible show wpList _ _ _ (⟨_, .makeSlice _ _ _,_,_,_,_⟩::_) _ _);refine a1F (R:=HdR) a0o HdR.elem (none,0,0) (fun _=>rfl) X hX w.heap.size (Nat.le_refl _) c rfl rfl rfl (by omega) (by omega) ?_;intro oo w1 hO1 hE1)
 have hC1:=CS.start (R:=QC) hO1 hMl.out 32;clear hO1;go_loopw [30] (fun k wr=>∃(j:Nat) (hs:List Hdr),k= .int .i64 j/\j<=c/\hs.length=c/\CS QC X w.heap.size 45 32 wr oo c hs M j []/\Ext w wr) (fun k _=>c - (intOf k).toNat)
 case atStart=>exact⟨0,_,rfl,Nat.zero_le _,List.length_replicate,hC1,hE1⟩
 case round=>
  obtain⟨j,hs,rfl,hj,hhl,hC,hE⟩:=hrel;clear hC1 hE1;by_cases hlt:j<c
  ·have hXr:HX X wr:=hX.ext hE
   have hjM:j<M.length:=by rw[hMl.out];exact hlt
   have hMjl:Hid (M[j].length=c):=hid (hMr.out M[j] (List.getElem_mem _));have hel:=hid (fun i (hi:i<c) h2 h3 h4 h6=>c0t hent.out i j hi hlt hjM h2 h3 h4 h0s h6);obtain⟨Mj,hMj⟩:∃Mj,M[j]=Mj:=⟨_,rfl⟩;have hMj':=hid hMj;have hel2:=hid (fun i (hi:i<c) (h2:i<Mj.length) (h3:i<(s.drop 1).length) (h4:j<(s.drop 1)[i].length) (h6:j<s[0].length)=>(by subst hMj;exact hel.out i hi h2 h3 h4 h6:(s.drop 1)[i][j] - s[0][j]=Mj[i]));rw[hMj]at hMjl;have hj0:j<s[0].length:=by rw[hsr.out s[0] (List.getElem_mem _)];exact hlt
   clear hMj hel;obtain⟨wo,hwo⟩:∃wo,wo=wr:=⟨_,rfl⟩;subst hwo;go_wp2_with ((with_reducible show wpList _ _ _ (⟨_, .slice _ _ _ _ _,_,_,_,_⟩::_) _ _);refine b7T a0o 1 rfl rfl rfl hua hs1 huca ?_;intro so hso;rw[hdl.out])
   have hhs:Hd so c:=by have:=hso.hd;rw[hdl.out]at this;exact this
   go_loopw [36] (fun k wx=>∃(i:Nat) (hs:List Hdr),k= .int .i64 i/\i<=c/\hs.length=c/\CS QC X w.heap.size 45 32 wx oo c hs M j (Mj.take i)/\Ext w wx) (fun k _=>c - (intOf k).toNat)
   case atStart=>exact⟨0,hs,rfl,Nat.zero_le _,hhl,hC,hE⟩
   case round=>
    clear hC hhl;obtain⟨i,hs,rfl,hi,hhl,hC,hE⟩:=hrel;have hXx:HX X wr:=hX.ext hE;by_cases hli:i<c
    ·have hid1:i<(s.drop 1).length:=by rw[hdl.out];exact hli
     have hih:j<hs.length:=by rw[hhl];exact hlt
     have hiMj:i<Mj.length:=by rw[hMjl.out];exact hli
     obtain⟨a1,c1,hX1',hc1,hcl1,hq1⟩:=hso.row i hid1;have hrl:(s.drop 1)[i].length=c:=hsr.out _ (List.mem_of_mem_drop (List.getElem_mem _));have hjr:j<(s.drop 1)[i].length:=by rw[hrl];exact hlt
     have he:=hid (hel2.out i hli hiMj hid1 hjr hj0);have hh1:Hd a1 c:=by have:=hq1.hd;rw[hrl]at this;exact this
     rw[hrl]at hc1;obtain⟨r,hr⟩:∃r,(s.drop 1)[i]=r:=⟨_,rfl⟩;simp only[hr]at he;rw[hr]at hq1;have hjr2:j<r.length:=by rw[<-hr];exact hjr
     have k00:=hc1.out noY wr hE rfl;have htk:=hid (a0S Mj i hiMj);have hln:=hid (a1e (l:=Mj) (i:=i) (by omega));have hrow0:=hC.row hih;have hai:=a5B hih;obtain⟨h0,hh0'⟩:∃h0,hs[j]=h0:=⟨_,rfl⟩;rw[hh0']at hrow0 hai;obtain⟨ai,qi,ci⟩:=h0;obtain⟨hr1,hr2⟩:=hrow0
     dsimp only at hr1 hr2 hai
     rw[hai]at hr2;obtain rfl:qi=i:=by rw[hr1,hln.out]
     have hai':=hid hai;have hh0'':=hid hh0';have hho:Hd oo c:=by have:=hC.outer.hd;rw[hhl]at this;exact this
     have hmono:Le (mk X w) (mk (un (un X oo) ai) wr):=a1g hE (fun k _ hk=>by simp[noY]at hk) fun k hk hz=>by
      by_cases hx:X k=true
      ·exact hx
      ·exfalso
       have e1:ob oo k=false:=hC.outer.ob_lt hk;have e2:ob ai k=false:=hr2.ob_lt hk;simp[un,hx,e1,e2]at hz
     have hsep:∀k,ob oo k=true->ob ai k=false:=fun k hk=>by
      cases hc:ob ai k
      ·rfl
      ·have:=(a0P (hr2.1 k hc)).2;rw[hk]at this;cases this
     obtain⟨g1,o1,s1,p1,n1,q1,d1,m1,e1,hg1,hXg1,hcg1,hv1⟩:=(hq1.mono QV.mono hmono).rat QV.shaped j hjr2;obtain⟨g2,o2,s2,p2,n2,q2,d2,m2,e2,hg2,hXg2,hcg2,hv2⟩:=(hq0.mono QV.mono hmono).rat QV.shaped j hj0;have hb1:ob ai g1=false:=(a0P hXg1).2;have hb2:ob ai g2=false:=(a0P hXg2).2;have hb0:ob ai (adr ua 0).block=false:=hr2.ob_lt hmb.out;obtain⟨y1,hy1⟩:∃y,r[j]=y:=⟨_,rfl⟩;obtain⟨y2,hy2⟩:∃y,s[0][j]=y:=⟨_,rfl⟩;rw[hy1]at hv1 he;rw[hy2]at hv2 he;rw[<-he.out]at htk;clear hai hh0' hr1 hr hq1 hjr hrl hy1 hy2 hc1;go_wp2_with (with_reducible refine a0n a0o (by omega) (by assumption) ?_)
     have hEd:Ext wr wr.drew:=(ExtX.refl wr).drew;have hCd:=hC.ext0 QC.elem hEd;have hXd:HX (un X oo) wr.drew:=hCd.outer.unX (hX.ext (hE.trans hEd));have hrd:=hr2.ext0 QC.elem hEd;have hXa:HX (un (un X oo) ai) wr.drew:=hrd.unX hXd;obtain⟨u0,q0,q0f,hu0⟩:=hC.outer.cell HdR.one j hih;rw[hh0''.out]at hu0;obtain rfl:u0= .slice ai qi ci:=hu0;have hS:Hid (∀Y w',ExtX Y wr.drew w'->(∀k,ob oo k=true->Y k=false)->Y (adr ua 0).block=false->Y g1=false->Y g2=false->w'.cell? (adr oo j)=some (.slice ai qi ci)/\w'.cell? (adr ua 0)=some (.slice a0 c c0)/\w'.cell? ⟨g1,o1,none⟩=some (.bool s1)/\w'.cell? ⟨g1,o1+1,none⟩=some (.slice p1 n1 q1)/\w'.cell? ⟨g1,o1+2,none⟩=some (.slice d1 m1 e1)/\w'.cell? ⟨g2,o2,none⟩=some (.bool s2)/\w'.cell? ⟨g2,o2+1,none⟩=some (.slice p2 n2 q2)/\w'.cell? ⟨g2,o2+2,none⟩=some (.slice d2 m2 e2)):=hid fun Y w' h h1 h2 h3 h4=>by
      have z1:=hcg1.out Y w' ((ExtX.of hEd).trans h) h3;have z2:=hcg2.out Y w' ((ExtX.of hEd).trans h) h4;refine⟨((ExtX.of hEd).trans h).cellY q0 (h1 _ ?_),hc0.out Y w' ((ExtX.of (hE.trans hEd)).trans h) h2,z1.1,z1.2.1,z1.2.2,z2.1,z2.2.1,z2.2.2⟩;obtain⟨b,off,rfl⟩:=hho (by omega);simp[ob,adr]
     have i4:∀W,(Instr.indexAt 25 (.slice oo c c) (.int .i64 (j:Int))).run Tryz.prog W= .ok (.pointer (some (adr oo j))) W:=a0A a0o oo c c .i64 j hho (by omega) rfl;have i8:∀W,(Instr.indexAt 45 (.slice a1 c c1) (.int .i64 (j:Int))).run Tryz.prog W= .ok (.pointer (some ⟨g1,o1,none⟩)) W:=by rw[<-hg1];exact a0h a0J a1 c c1 .i64 j hh1 (by omega)
     have i11:∀W,(Instr.indexAt 25 (.slice ua s.length uca) (.int .i64 0)).run Tryz.prog W= .ok (.pointer (some (adr ua 0))) W:=a0A a0o ua s.length uca .i64 0 hhu (by omega) rfl;have i14:∀W,(Instr.indexAt 45 (.slice a0 c c0) (.int .i64 (j:Int))).run Tryz.prog W= .ok (.pointer (some ⟨g2,o2,none⟩)) W:=by rw[<-hg2];exact a0h a0J a0 c c0 .i64 j hh0 (by omega)
     have hv1d:=mkx QV.mono hv1 hEd;have hv2d:=mkx QV.mono hv2 hEd;clear k00 hcg1 hcg2 hg1 hg2 hv1 hv2;refine a3s 20 (fun w'=>w'.cell? (adr oo j)=some (.slice ai qi ci)/\w'.cell? (adr ua 0)=some (.slice a0 c c0)/\w'.cell? ⟨g1,o1,none⟩=some (.bool s1)/\w'.cell? ⟨g1,o1+1,none⟩=some (.slice p1 n1 q1)/\w'.cell? ⟨g1,o1+2,none⟩=some (.slice d1 m1 e1)/\w'.cell? ⟨g2,o2,none⟩=some (.bool s2)/\w'.cell? ⟨g2,o2+1,none⟩=some (.slice p2 n2 q2)/\w'.cell? ⟨g2,o2+2,none⟩=some (.slice d2 m2 e2)) (by kernel_rfl) (by kernel_rfl) (hS.out noY _ (ExtX.refl _) (fun _ _=>rfl) rfl rfl rfl) (fun hHeld hOnce=>?_);refine a0f hOnce (i:=0) (oi:=⟨_,_,_,_,_,_⟩) (v:=?_) rfl (by kernel_rfl) (fun _ _ _ h=>h) (by assumption) (by rfl) (fun w hSw=>?_) ?_
     rotate_left
     ·(try dsimp only at hSw)
      go_simp
      all_goals with_reducible rfl
     (try simp only[Act.put,List.setIfInBounds_toArray,List.set_cons_zero,List.set_cons_succ])
     refine a0f hOnce (i:=1) (oi:=⟨_,_,_,_,_,_⟩) (v:=?_) rfl (by kernel_rfl) (fun _ _ _ h=>h) (by assumption) (by rfl) (fun w hSw=>?_) ?_
     rotate_left
     ·(try dsimp only at hSw)
      go_simp
      all_goals with_reducible rfl
     (try simp only[Act.put,List.setIfInBounds_toArray,List.set_cons_zero,List.set_cons_succ])
     refine a0f hOnce (i:=2) (oi:=⟨_,_,_,_,_,_⟩) (v:=?_) rfl (by kernel_rfl) (fun _ _ _ h=>h) (by assumption) (by rfl) (fun w hSw=>?_) ?_
     rotate_left
     ·(try dsimp only at hSw)
      go_simp
      all_goals with_reducible rfl
     (try simp only[Act.put,List.setIfInBounds_toArray,List.set_cons_zero,List.set_cons_succ])
     refine a0f hOnce (i:=3) (oi:=⟨_,_,_,_,_,_⟩) (v:=?_) rfl (by kernel_rfl) (fun _ _ _ h=>h) (by assumption) (by rfl) (fun w hSw=>?_) ?_
     rotate_left
     ·(try dsimp only at hSw)
      go_simp
      all_goals with_reducible rfl
     (try simp only[Act.put,List.setIfInBounds_toArray,List.set_cons_zero,List.set_cons_succ])
     refine a0f hOnce (i:=4) (oi:=⟨_,_,_,_,_,_⟩) (v:=?_) rfl (by kernel_rfl) (fun _ _ _ h=>h) (by assumption) (by rfl) (fun w hSw=>?_) ?_
     rotate_left
     ·(try dsimp only at hSw)
      go_simp
      all_goals with_reducible rfl
     (try simp only[Act.put,List.setIfInBounds_toArray,List.set_cons_zero,List.set_cons_succ])
     refine a0f hOnce (i:=5) (oi:=⟨_,_,_,_,_,_⟩) (v:=?_) rfl (by kernel_rfl) (fun _ _ _ h=>h) (by assumption) (by rfl) (fun w hSw=>?_) ?_
     rotate_left
     ·(try dsimp only at hSw)
      go_simp
      all_goals with_reducible rfl
     (try simp only[Act.put,List.setIfInBounds_toArray,List.set_cons_zero,List.set_cons_succ])
     refine a0f hOnce (i:=6) (oi:=⟨_,_,_,_,_,_⟩) (v:=?_) rfl (by kernel_rfl) (fun _ _ _ h=>h) (by assumption) (by rfl) (fun w hSw=>?_) ?_
     rotate_left
     ·(try dsimp only at hSw)
      go_simp
      all_goals with_reducible rfl
     (try simp only[Act.put,List.setIfInBounds_toArray,List.set_cons_zero,List.set_cons_succ])
     refine a0f hOnce (i:=7) (oi:=⟨_,_,_,_,_,_⟩) (v:=?_) rfl (by kernel_rfl) (fun _ _ _ h=>h) (by assumption) (by rfl) (fun w hSw=>?_) ?_
     rotate_left
     ·(try dsimp only at hSw)
      go_simp
      all_goals with_reducible rfl
     (try simp only[Act.put,List.setIfInBounds_toArray,List.set_cons_zero,List.set_cons_succ])
     refine a0f hOnce (i:=8) (oi:=⟨_,_,_,_,_,_⟩) (v:=?_) rfl (by kernel_rfl) (fun _ _ _ h=>h) (by assumption) (by rfl) (fun w hSw=>?_) ?_
     rotate_left
     ·(try dsimp only at hSw)
      go_simp
      all_goals with_reducible rfl
     (try simp only[Act.put,List.setIfInBounds_toArray,List.set_cons_zero,List.set_cons_succ])
     refine a0f hOnce (i:=9) (oi:=⟨_,_,_,_,_,_⟩) (v:=?_) rfl (by kernel_rfl) (fun _ _ _ h=>h) (by assumption) (by rfl) (fun w hSw=>?_) ?_
     rotate_left
     ·(try dsimp only at hSw)
      go_simp
      all_goals with_reducible rfl
     (try simp only[Act.put,List.setIfInBounds_toArray,List.set_cons_zero,List.set_cons_succ])
     refine a0f hOnce (i:=10) (oi:=⟨_,_,_,_,_,_⟩) (v:=?_) rfl (by kernel_rfl) (fun _ _ _ h=>h) (by assumption) (by rfl) (fun w hSw=>?_) ?_
     rotate_left
     ·(try dsimp only at hSw)
      go_simp
      all_goals with_reducible rfl
     (try simp only[Act.put,List.setIfInBounds_toArray,List.set_cons_zero,List.set_cons_succ])
     refine a0f hOnce (i:=11) (oi:=⟨_,_,_,_,_,_⟩) (v:=?_) rfl (by kernel_rfl) (fun _ _ _ h=>h) (by assumption) (by rfl) (fun w hSw=>?_) ?_
     rotate_left
     ·(try dsimp only at hSw)
      go_simp
      all_goals with_reducible rfl
     (try simp only[Act.put,List.setIfInBounds_toArray,List.set_cons_zero,List.set_cons_succ])
     refine a0f hOnce (i:=12) (oi:=⟨_,_,_,_,_,_⟩) (v:=?_) rfl (by kernel_rfl) (fun _ _ _ h=>h) (by assumption) (by rfl) (fun w hSw=>?_) ?_
     rotate_left
     ·(try dsimp only at hSw)
      go_simp
      all_goals with_reducible rfl
     (try simp only[Act.put,List.setIfInBounds_toArray,List.set_cons_zero,List.set_cons_succ])
     refine a0f hOnce (i:=13) (oi:=⟨_,_,_,_,_,_⟩) (v:=?_) rfl (by kernel_rfl) (fun _ _ _ h=>h) (by assumption) (by rfl) (fun w hSw=>?_) ?_
     rotate_left
     ·(try dsimp only at hSw)
      go_simp
      all_goals with_reducible rfl
     (try simp only[Act.put,List.setIfInBounds_toArray,List.set_cons_zero,List.set_cons_succ])
     refine a0f hOnce (i:=14) (oi:=⟨_,_,_,_,_,_⟩) (v:=?_) rfl (by kernel_rfl) (fun _ _ _ h=>h) (by assumption) (by rfl) (fun w hSw=>?_) ?_
     rotate_left
     ·(try dsimp only at hSw)
      go_simp
      all_goals with_reducible rfl
     (try simp only[Act.put,List.setIfInBounds_toArray,List.set_cons_zero,List.set_cons_succ])
     refine a0f hOnce (i:=15) (oi:=⟨_,_,_,_,_,_⟩) (v:=?_) rfl (by kernel_rfl) (fun _ _ _ h=>h) (by assumption) (by rfl) (fun w hSw=>?_) ?_
     rotate_left
     ·(try dsimp only at hSw)
      go_simp
      all_goals with_reducible rfl
     (try simp only[Act.put,List.setIfInBounds_toArray,List.set_cons_zero,List.set_cons_succ])
     refine a1s (i:=16) (o:=⟨_,_,_,_,_,_⟩) (by kernel_rfl) rfl (fun K hK=>?_);go_simp
     (go_at_call 111;(with_reducible refine(c0N (un (un X oo) ai) wr.drew _ _ _ _ hXa hv1d hv2d).mono ?_);rintro ee w6 ⟨t1,u6,rfl,hu6⟩;obtain⟨s6,a6,n6,c6,d6,m6,e6,rfl⟩:=hu6.shape)
     refine hK.out _ _ (hS.out noY _ t1 (fun _ _=>rfl) rfl rfl rfl) (fun hHeld=>?_);clear hK K
     (try simp only[Act.put,List.setIfInBounds_toArray,List.set_cons_zero,List.set_cons_succ])
     have hr6:=hrd.ext0 QC.elem t1;have hX6:HX (un X oo) w6:=hXd.ext t1;have hC6:=hCd.ext0 QC.elem t1;refine a1s (i:=17) (o:=⟨_,_,_,_,_,_⟩) (by kernel_rfl) rfl (fun K hK=>?_);go_simp
     skip
     refine hK.out _ _ (hS.out noY _ (t1.alloc _) (fun _ _=>rfl) rfl rfl rfl) (fun hHeld=>?_);clear hK K
     (try simp only[Act.put,List.setIfInBounds_toArray,List.set_cons_zero,List.set_cons_succ])
     refine a1s (i:=18) (o:=⟨_,_,_,_,_,_⟩) (by kernel_rfl) rfl (fun K hK=>?_)
     (refine a1J (l:=Mj.take qi) rfl (by rfl) a0J rfl QC.elem (Nat.le_trans hE.size (hEd.trans t1).size) hX6 qi hln.out rfl rfl hr6 (.agg #[.bool s6, .slice a6 n6 c6, .slice d6 m6 e6]) (y1 - y2) rfl hu6 (by omega) (by omega) ?_;intro ai2 ci2 w7 hR7 hE7 hor)
     refine hK.out _ _ (hS.out (ob ai) w7 ((ExtX.of t1).trans hE7) hsep hb0 hb1 hb2) (fun hHeld=>?_);clear hK K
     (try simp only[Act.put,List.setIfInBounds_toArray,List.set_cons_zero,List.set_cons_succ])
     have hO7:=hC6.outer7 hih (by rw[hai'.out];exact hE7);obtain⟨_,p0,f0,_⟩:=hO7.cell HdR.one j hih;refine a0f hOnce (i:=19) (oi:=⟨_,_,_,_,_,_⟩) (v:=?_) rfl (by kernel_rfl) (fun _ _ _ h=>h) (by assumption) (by rfl) (fun w hSw=>?_) ?_
     rotate_left
     ·(try dsimp only at hSw)
      go_simp
      all_goals with_reducible rfl
     (try simp only[Act.put,List.setIfInBounds_toArray,List.set_cons_zero,List.set_cons_succ])
     refine a3r (i:=20) (o:=⟨_,_,_,_,_,_⟩) (by kernel_rfl) rfl (by decide) (by kernel_rfl) (fun K hK=>?_);go_simp
     refine hK.out _ _ ?_;clear hK K;obtain⟨hO8,hE8⟩:=hO7.set1 a4H HdR.elem HdR.one j hih (.slice ai2 (qi+1) ci2) (ai2,qi+1,ci2) rfl;have hC8:=hC6.push QC.elem (n:=qi+1) hih (by rw[hln.out]) hR7 (by rw[hai'.out];exact hE7) (by rw[hai'.out];exact hor) hE8 hO8;have hE9:=((hE.trans (hEd.trans t1)).own hr6 (Nat.le_refl _) hE7).own hO7 (Nat.le_refl _) hE8;rw[htk.out]at hC8;have hl8:(hs.set j (ai2,qi+1,ci2)).length=c:=by rw[List.length_set];exact hhl
     clear p0 f0 i4 i8 i11 i14;go_wp2_with fail
     go_roundw
     case rel=>exact⟨qi+1,_,by go_num,by omega,hl8,hC8,hE9⟩
     case measure=>simp[intOf];omega
    ·have hic:i=c:=by omega
     subst hic;have hful:Mj.take i=M[j]:=by rw[hMj'.out,List.take_of_length_le (by rw[hMjl.out];exact Nat.le_refl _)]
     have hC2:=hC.next QC.elem hjM hful;go_wp2_with fail
     go_roundw
     case rel=>exact⟨j+1,hs,by go_num,by omega,hhl,hC2,hE⟩
     case measure=>simp[intOf];omega
  ·have hjc:j=c:=by omega
   rw[hjc,show c=M.length from hMl.out.symm]at hC;have hm:=hC.mc QC.elem;rw[hMl.out]at hm;have hXr:HX X wr:=hX.ext hE;clear hC hjc hhl;go_wp2_with fail
   refine(hdet.out wr _ hE hm).mono ?_;rintro e w5 ⟨hE5,ud,rfl,hud⟩;obtain⟨s5,a5,n5,c5,d5,m5,e5,rfl⟩:=hud.shape;have hE05:=hE.trans hE5;have bx:=Bx.new w5 #[.bool false, .slice none 0 0, .slice none 0 0] 32;go_wp2_with ((with_reducible show wpList _ _ _ (⟨_, .store 32 _ _,_,_,_,_⟩::_) _ _);refine a0c a0w rfl rfl bx rfl rfl (a2C _ _ _ _ _ _ _) ?_;intro w6 y1 y2;have hE6:Ext w5 w6:=ExtX.box ((ExtX.refl w5).alloc _) y2 (Nat.le_refl _);have k10:=y1.cell 0 rfl;have k11:=y1.cell 1 rfl;have k12:=y1.cell 2 rfl)
   have hE06:=hE05.trans hE6;refine(a5P X w6 _ dd (hX.ext hE06) ((mkx QC.mono hud hE6).qv hddB.out)).mono ?_;rintro e w7 ⟨hE7,rfl⟩;have hE07:=hE06.trans hE7;have hm7:=mkx MC.mono hm (hE5.trans (hE6.trans hE7));clear bx y1 y2 k10 k11 k12 hud hm;by_cases hd0:dd=0
   ·have hsg:dd.num.sign=0:=by rw[hd0];rfl
    rw[hsg];clear hsg hd0;go_wp2_with fail
    refine(hdep.out w7 hE07).mono ?_;rintro e w8 ⟨hE8,rfl⟩;go_wp2_with fail
    go_ret
    exact⟨hE07.trans hE8,rfl⟩
   have hv:=hid (hval.out hd0);have hco:=hid (hcons.out hd0);have hsg:dd.num.sign≠0:=by
    rcases a1y dd with⟨_,h⟩|⟨h,_⟩|⟨_,h⟩
    ·rw[h];decide
    ·exact absurd h hd0
    ·rw[h];decide
   obtain⟨sg,hsge⟩:∃sg,dd.num.sign=sg:=⟨_,rfl⟩;rw[hsge]at hsg |-;have hsb:((sg:Int) !=0)=true:=a5C hsg;have hdep':=hid hdep;clear hd0 hsge hval hcons hdep hdet hsg;have k00:=hc0.out noY w7 hE07 rfl;go_wp2_with (with_reducible refine a0n a0o (by omega) (by assumption) ?_)
   refine(hmin.out w7 (.slice a0 c c0) hE07 ⟨a0,c0,by rw[hsr.out s[0] (List.getElem_mem _)],by rw[hsr.out s[0] (List.getElem_mem _)];exact hcl0,hq0.mono QV.mono (a0m hE07)⟩).mono ?_;rintro e w8 ⟨hE8,ub,rfl,hub⟩;have hE08:=hE07.trans hE8;clear k00;go_wp2_with fail
   refine(hsol.out w8 _ _ hE08 (mkx MC.mono hm7 hE8) hub).mono ?_;rintro e w9 ⟨hE9,hor⟩;rcases hor with⟨hbad,_⟩|⟨_,uw,rfl,huw⟩
   ·exact absurd hbad hco.out
   rw[hWS.out]at huw;have huw2:=huw.rv fun q hq=>Nat.le_trans (hWB'.out q hq) (by decide);obtain⟨wo,wc,rfl,hwc,hws⟩:=huw2;rw[hWl.out]at hwc |-;have hE09:=hE08.trans hE9;have hX9:=hX.ext hE09;have hhw:Hd wo c:=by have:=hws.hd;rw[hWl.out]at this;exact this
   clear huw hub hm7 hsol hmin;go_wp2_with fail
   refine(b2e X w9 1 hX9 (by decide) (by decide)).mono ?_;rintro e w10 ⟨hE10,u1,rfl,hu1⟩;obtain⟨s1,a1,n1,c1,d1,m1,e1,rfl⟩:=hu1.shape;have hE010:=hE09.trans hE10;have hX10:=hX9.ext hE10;obtain⟨g,hg⟩:∃g,w10.heap.size=g:=⟨_,rfl⟩;have hgw:w.heap.size<=g:=by have:=hE010.size;omega
   have bx:=Bx.new w10 #[.bool false, .slice none 0 0, .slice none 0 0] 32;rw[hg]at bx;go_wp2_with ((with_reducible show wpList _ _ _ (⟨_, .store 32 _ _,_,_,_,_⟩::_) _ _);refine a0c a0w rfl rfl bx rfl rfl (a2C _ _ _ _ _ _ _) ?_;intro w11 y1 y2;have hE11:Ext w10 w11:=ExtX.box ((ExtX.refl w10).alloc _) y2 (by omega))
   have hE011:=hE010.trans hE11;have hXg:HX (a0e X g 1) w11:=fun k hk=>by
    simp only[a0e,Bool.or_eq_true,Bool.and_eq_true,decide_eq_true_eq]at hk;rcases hk with h|h
    ·exact hX10.ext hE11 k h
    ·have:=y1.lt;omega
   have hle11:Le (mk X w10) (mk (a0e X g 1) w11):=by rw[<-hg];exact a0q hE11
   have hw11:Sl QV 3 (mk (a0e X g 1) w11) wo W:=(hws.mono QV.mono (a0m hE10)).mono QV.mono hle11;have h1:=QC.mono _ _ _ _ hle11 hu1;rw[show((1:Int):Rat)=1 - sm 0 (vec W)by show(1:Rat)=1 - 0;grind]at h1;have hrB:=hid (b4t hWB'.out (by decide));have hrS:=hid (b4u W);clear y2 hu1 hE11 hle11 hws bx hX10;go_loopw [83] (fun k wr=>∃(i:Nat) (s:Bool) (a:Option Addr) (n' c':Nat) (d:Option Addr) (kk e:Nat),k= .int .i64 i/\i<=c/\Bx wr g #[.bool s, .slice a n' c', .slice d kk e] 32/\QC (mk (a0e X g 1) wr) (.agg #[.bool s, .slice a n' c', .slice d kk e]) (1 - sm i (vec W))/\Hid (∀j,j<i->0<=vec W j)/\HX (a0e X g 1) wr/\Sl QV 3 (mk (a0e X g 1) wr) wo W/\Ext w wr) (fun k _=>c - (intOf k).toNat)
   case atStart=>exact⟨0,_,_,_,_,_,_,_,rfl,Nat.zero_le _,y1,h1,hid (fun j hj=>by omega),hXg,hw11,hE011⟩
   case round=>
    clear y1 h1 hXg hw11;obtain⟨i,s7,a7,n7,c7,d7,m7,e7,rfl,hi,bg,hq,hpos,hXr,hwr,hEr⟩:=hrel;by_cases hli:i<c
    ·have hiW:i<W.length:=by rw[hWl.out];exact hli
     have hvi:Hid (vec W i=W[i]):=hid (by simp[vec,List.getD_eq_getElem?_getD,hiW]);have bx:=Bx.new wr #[.bool false, .slice none 0 0, .slice none 0 0] 32;go_wp2_with (first|(with_reducible refine a1E a0J (by omega) (by assumption) ?_)|((with_reducible show wpList _ _ _ (⟨_, .load 32 _,_,_,_,_⟩::_) _ _);refine a0W a0w i hwr hiW rfl (by simp) QV.agg ?_;intro u5 hu5;obtain⟨s5,a5,n5,c5,d5,m5,e5,rfl⟩:=hu5.shape)|((with_reducible show wpList _ _ _ (⟨_, .store 32 _ _,_,_,_,_⟩::_) _ _);refine a0c a0w rfl rfl bx rfl rfl (a2C _ _ _ _ _ _ _) ?_;intro w5 r1 r2;have hE5:Ext wr w5:=ExtX.box ((ExtX.refl wr).alloc _) r2 (Nat.le_refl _);have k10:=r1.cell 0 rfl;have k11:=r1.cell 1 rfl;have k12:=r1.cell 2 rfl;have hX5:=hXr.ext hE5;have hu6:=mkx QV.mono hu5 hE5))
     refine(a5P (a0e X g 1) _ _ _ hX5 hu6).mono ?_;rintro e w7 ⟨hE7,rfl⟩;have hE57:=hE5.trans hE7;have bg7:=bg.ext0 hE57;have r17:=r1.ext0 hE7;have hq7:=(mkx QC.mono hq hE57).qv (Nat.le_trans (hrB.out i) (by have:=Nat.mul_le_mul_right (171542875+1) (show i<=3 by omega);omega));have hu7:=mkx QV.mono hu6 hE7;clear k10 k11 k12;by_cases hneg:W[i]<0
     ·have hsg:W[i].num.sign= -1:=by
       rcases a1y W[i]with⟨h,_⟩|⟨h,_⟩|⟨_,h⟩
       ·exact absurd h (by grind)
       ·exact absurd h (by grind)
       ·exact h
      have hfin:Hid (false=decide (0<dv)):=hid (by
       symm;rw[decide_eq_false_iff_not,hv.out];intro h;have:=h.1 i hli;rw[hvi.out]at this;grind)
      rw[hsg];clear hsg hneg;go_wp2_with fail
      go_ret
      exact⟨hEr.trans hE57,a0p hfin.out⟩
     ·have hsg:0<=W[i].num.sign:=by
       rcases a1y W[i]with⟨_,h⟩|⟨_,h⟩|⟨h,_⟩
       ·rw[h];decide
       ·rw[h];decide
       ·exact absurd h hneg
      have hpos2:=hid (fun j (hj:j<i+1)=>(by
       by_cases e:j=i
       ·subst e;rw[hvi.out];grind
       ·exact hpos.out j (by omega):0<=vec W j))
      have hrs:=hid (hrS.out i);rw[hvi.out]at hrs;obtain⟨sg,hsge⟩:∃sg,W[i].num.sign=sg:=⟨_,rfl⟩;rw[hsge]at hsg |-;obtain⟨y,hy⟩:∃y,W[i]=y:=⟨_,rfl⟩;rw[hy]at hu7 hrs;have k0:=bg7.cell 0 rfl;have k1:=bg7.cell 1 rfl;have k2:=bg7.cell 2 rfl;have k10:=r17.cell 0 rfl;have k11:=r17.cell 1 rfl;have k12:=r17.cell 2 rfl;clear hneg hsge hy hvi hu5 hu6;go_wp2_with fail
      refine(c0N (a0e X g 1) w7 _ _ _ _ (hX5.ext hE7) hq7 hu7).mono ?_;rintro e w8 ⟨hE8,u8,rfl,hu8⟩;obtain⟨s8,a8,n8,c8,d8,m8,e8,rfl⟩:=hu8.shape;rw[<-hrs.out]at hu8;have bg8:=bg7.ext0 hE8;clear k0 k1 k2 k10 k11 k12;go_wp2_with ((with_reducible show wpList _ _ _ (⟨_, .store 32 _ _,_,_,_,_⟩::_) _ _);refine a0c a0w rfl rfl bg8 rfl rfl (a2C _ _ _ _ _ _ _) ?_;intro w9 z1 z2)
      have h9:=QC.mono _ _ _ _ (a0i (lo:=g) (nb:=1) z2 (by omega) (by omega)) hu8;have hW9:=((hwr.mono QV.mono (a0m (hE57.trans hE8))).mono QV.mono (a0i (lo:=g) (nb:=1) z2 (by omega) (by omega)));have hE9:Ext w w9:=ExtX.box (hEr.trans (hE57.trans hE8)) z2 hgw;have hX9:HX (a0e X g 1) w9:=((hX5.ext hE7).ext hE8).ext z2;go_roundw
      case rel=>exact⟨i+1,_,_,_,_,_,_,_,by go_num,by omega,z1,h9,hpos2,hX9,hW9,hE9⟩
      case measure=>simp[intOf];omega
    ·have hqv:=hq.qv (Nat.le_trans (hrB.out i) (by have:=Nat.mul_le_mul_right (171542875+1) (show i<=3 by omega);omega))
     have hfin:Hid (decide (0<=(1 - sm i (vec W)).num.sign)=decide (0<dv)):=hid (by
      have hic:i=c:=by omega
      rw[decide_eq_decide,hv.out,<-hic];constructor
      ·intro h
       refine⟨hpos.out,?_⟩;rcases a1y (1 - sm i (vec W))with⟨h1,_⟩|⟨h1,_⟩|⟨_,h1⟩
       ·grind
       ·grind
       ·rw[h1]at h;omega
      ·rintro ⟨_,h⟩
       rcases a1y (1 - sm i (vec W))with⟨_,h1⟩|⟨_,h1⟩|⟨h1,_⟩
       ·rw[h1];decide
       ·rw[h1];decide
       ·grind)
     obtain⟨sg2,hsg2⟩:∃sg2,(1 - sm i (vec W)).num.sign=sg2:=⟨_,rfl⟩;have hsi:=a5P (a0e X g 1) wr _ _ hXr hqv;rw[hsg2]at hfin hsi;have k0:=bg.cell 0 rfl;have k1:=bg.cell 1 rfl;have k2:=bg.cell 2 rfl;clear hsg2 hqv hq;go_wp2_with fail
     refine hsi.mono ?_;rintro e w7 ⟨hE7,rfl⟩;clear hsi;go_wp2_with fail
     go_ret
     exact⟨hEr.trans hE7,a0p hfin.out⟩
end Go.Proofs.YtoibhmjjhgaimaaGreat
namespace Go.Lim
theorem a7c:∀(n k:Nat),ch n k<=n^k
 |n,0=>by rw[a3W];exact Nat.le_refl _
 |0,k+1=>Nat.zero_le _
 |n+1,k+1=>by
  have h1:=a7c n k;have h2:=a7c n (k+1);have h3:n^k<=(n+1)^k:=Nat.pow_le_pow_left (by omega) k;have h4:n*n^k<=n*(n+1)^k:=Nat.mul_le_mul_left _ h3;rw[ch];rw[Nat.pow_succ,Nat.mul_comm]at h2;rw[Nat.pow_succ,Nat.mul_comm,Nat.succ_mul];omega
theorem b7q {n k:Nat} (hn:n<=64) (hk:k<=4):ch n k<=16777216:=
 Nat.le_trans (a7c n k) (Nat.le_trans (Nat.pow_le_pow_left hn k) (Nat.le_trans (Nat.pow_le_pow_right (by decide) hk) (by decide)))
end Go.Lim
namespace Go.Rep
open Go.RowKit Go.Lim Go.Lin
theorem a2i {P:Program} {w:World} {fn:Func} {tmps:Array Value} {c1 c2 c3:Tmp} {t1 t2:TypeId} {A1 A2:Addr} {v1 v2:Value} (h:fn.results=#[.cell c1 t1, .cell c2 t2, .tmp c3]) (hp1:tmps.getD c1 undef= .pointer (some A1)) (hp2:tmps.getD c2 undef= .pointer (some A2))
  (g1:∀w,(isAgg t1).run P w= .ok false w) (g2:∀w,(isAgg t2).run P w= .ok false w) (h1:w.cell? A1=some v1) (h2:w.cell? A2=some v2):(results fn tmps).run P w= .ok (.tuple #[v1,v2,tmps.getD c3 undef]) w:=by
 rw[Array.getD_eq_getD_getElem?]at hp1 hp2;simp[results,h,hp1,hp2,asAddr,loadVar,g1,g2,h1,h2]
theorem b6z {w w':World} {g b:Nat} {l:List Int} (h:Sl (a0x .i64) 1 w.cell? (some ⟨g,0,none⟩) l) (hE:ExtX (ob (some ⟨b,0,none⟩)) w w') (hne:g≠b):Sl (a0x .i64) 1 w'.cell? (some ⟨g,0,none⟩) l:=
 ⟨h.1,fun i hi=>let ⟨u,h1,h2,h3⟩:=h.2 i hi;⟨u,h1,fun j hj=>hE.cellY (h2 j hj) (a0b hne),h3⟩⟩
end Go.Rep
namespace Go.Lin
open Go.Lim Go.Rep
def b7r (p:Mat) (x:List Rat):Bool:=a2k p&&decide (x.length=a0l p)
def sdE (p:Mat) (x:List Rat):Int:=if b7r p x then(if 24<p.length/\x.length=3 then 2 else 0)else 6
def sdL (p:Mat) (x:List Rat):List (List Int):=if sdE p x=0 then a0s p.length (x.length+1) 0 else[]
end Go.Lin
namespace Go.Proofs.YtoibhmjjhgaimaaGreat
open Go.RowKit Go.Rep Go.Lim Go.Lin
theorem b1y (X:Nat->Bool) (w:World) (u v:Value) (s:Mat) (x:List Rat) (n c B:Nat) (hX:HX X w) (hu:MV (mk X w) u s) (hv:RV (mk X w) v x) (hsh:Shp n c s) (hn:n<=64) (hc1:1<=c) (hc3:c<=3) (hx:x.length=c) (hsB:BM B s) (hxB:BR B x) (hB1:1<=B) (hB:B<=2000):
  Calls Tryz.prog 100 #[u,v] w (a7A w (decide (0<a6g s x))):=by
 by_cases h:n=c+1
 ·subst h
  exact b9a X w u v s x c B hX hu hv hsh hc1 hc3 hx hsB hxB hB1 hB
 ·exact b8Z X w u v s x n c B hX hu hv hsh hn hc3 hx hsB hxB hB1 hB h
theorem b2q {n k:Nat} {done rest:List (List Int)} {s:List Int} (hn:n<=64) (hk:k<=4) (h:done++[s]++rest=a0s n k 0):done.length<=16777216:=by
 have h1:=a0Y n k 0;have h2:=b7q hn hk;rw[<-h]at h1;simp at h1;omega
theorem b7s {b B0 k:Nat} (hk:ob (some ⟨b,0,none⟩) k=true) (h:b<B0):a6Y B0 k=false:=by
 have:b=k:=by simpa[ob]using hk
 subst this;simp[a6Y];omega
structure SInv (w0:World) (bt bp bx bn:Nat) (P1 P2:Value) (p:Mat) (x:List Rat) (done:List (List Int)) (W:World):Prop where
 ext:Ext w0 W
 tot:Bx W bt #[.int .i64 (done.length:Int)] 3
 pts:Bx W bp #[P1] 25
 pt:Bx W bx #[P2] 45
 cnt:Bx W bn #[.int .i64 (a4i p x done:Int)] 3
theorem SInv.own {w0 W W':World} {bt bp bx bn B0:Nat} {P1 P2:Value} {p:Mat} {x:List Rat} {done:List (List Int)} (h:SInv w0 bt bp bx bn P1 P2 p x done W) (hE:ExtX (a6Y B0) W W') (h0:w0.heap.size<=B0) (g1:bt<B0) (g2:bp<B0) (g3:bx<B0) (g4:bn<B0):SInv w0 bt bp bx bn P1 P2 p x done W':=by
 have no:∀j,j<B0->a6Y B0 j=false:=fun j hj=>by simp[a6Y];omega
 exact⟨h.ext.then_ hE fun i hi _=>no i (by omega),h.tot.ext hE (no _ g1),h.pts.ext hE (no _ g2),h.pt.ext hE (no _ g3),h.cnt.ext hE (no _ g4)⟩
set_option maxRecDepth 100000 in
set_option maxHeartbeats 1600000 in
theorem b4v (X:Nat->Bool) (w0:World) (bt bp bx bn B0 c B:Nat) (po vo:Option Addr) (pc vc:Nat) (p:Mat) (x:List Rat) (done:List (List Int)) (s:List Int) (W:World)
  (hX:HX X w0) (hu:MV (mk X w0) (.slice po p.length pc) p) (hv:RV (mk X w0) (.slice vo c vc) x) (hsh:∀r∈p,r.length=c) (_hp:p.length<=64) (hc1:1<=c) (hc3:c<=3) (hx:x.length=c) (hpB:BM B p) (hxB:BR B x) (hB1:1<=B) (hB:B<=2000)
  (l1:w0.heap.size<=bt) (l2:w0.heap.size<=bn) (g1:bt<B0) (_g2:bp<B0) (_g3:bx<B0) (g4:bn<B0) (n1:bt≠bp) (n2:bt≠bx) (n3:bt≠bn) (n4:bn≠bp) (n5:bn≠bx)
  (hi:SInv w0 bt bp bx bn (.slice po p.length pc) (.slice vo c vc) p x done W) (hs:s.length=c+1) (hsb:∀i∈s,0<=i/\i<(p.length:Int)) (hdl:done.length<=16777216) (hsl:Sl (a0x .i64) 1 W.cell? (some ⟨B0+3,0,none⟩) s) (hB0:B0+6<=W.heap.size):
  Calls Tryz.prog 99 #[.slice (some ⟨B0+3,0,none⟩) s.length s.length, .pointer (some ⟨bt,0,none⟩), .pointer (some ⟨bp,0,none⟩), .pointer (some ⟨bx,0,none⟩), .pointer (some ⟨bn,0,none⟩)] W
   (fun e W'=>e= .returned (.tuple #[])/\SInv w0 bt bp bx bn (.slice po p.length pc) (.slice vo c vc) p x (done++[s]) W'/\b2o B0 W W'):=by
 obtain⟨hE,h1,h2,h3,h4⟩:=hi;have hone:=b1u p x done s;have hcl:=a7b p x done;have hrsh:Shp (c+1) c (a0B p s):=⟨by rw[a1M,hs],fun r hr=>hsh r (a2u hsb r hr)⟩;have hrB:BM B (a0B p s):=fun r hr=>hpB r (a2u hsb r hr);obtain⟨y1,hE1⟩:=Bx.store h1 (.int .i64 ((done.length:Int)+1));have ct:=h1.cell 0 rfl;have ft:=h1.frozen 0;obtain⟨W1,hW1⟩:∃W1,W.setCell ⟨bt,0,none⟩ (.int .i64 ((done.length:Int)+1))=W1:=⟨_,rfl⟩;rw[hW1]at y1 hE1;have hEw1:Ext w0 W1:=ExtX.box hE hE1 l1;have z2:=h2.ext hE1 (a0b n1.symm);have z3:=h3.ext hE1 (a0b n2.symm);have z4:=h4.ext hE1 (a0b n3.symm);have hsl1:=b6z hsl hE1 (by omega);have hro:=hid (a9j X W1.drew (.slice po p.length pc) p (some ⟨B0+3,0,none⟩) s s.length (hX.ext hEw1.drew) (mkx MV.mono hu hEw1.drew) hsl1 hsb (by omega));have hcon:=hid (fun w' um (h:Ext w0 w') (hm:MV (mk X w') um (a0B p s))=>b1y X w' um (.slice vo c vc) (a0B p s) x (c+1) c B (hX.ext h) hm (mkx RV.mono hv h) hrsh (by omega) hc1 hc3 hx hrB hxB hB1 hB);obtain⟨bb,hbb⟩:∃bb,inS p x s=bb:=⟨_,rfl⟩;have hbb':Hid (decide (0<a6g (a0B p s) x)=bb):=hid hbb;rw[hbb]at hone;have hrl:Hid ((a0B p s).length=s.length):=hid (a1M p s);obtain⟨cn,hcn⟩:∃cn,a4i p x done=cn:=⟨_,rfl⟩;rw[hcn]at hone hcl z4 h4;have hone':=hid hone;have hdd:Hid ((done++[s]).length=done.length+1):=hid (by simp);have hcn16:cn<=16777216:=by omega
 unfold a9T at hro;rw[hrl.out]at hro;have hs4:s.length<=4:=by omega
 have kp:=(z2.ext0 ((ExtX.refl (Y:=noY) W1).drew)).cell 0 rfl;have kx:=(z3.ext0 ((ExtX.refl (Y:=noY) W1).drew)).cell 0 rfl;have hEd:Ext W1 W1.drew:=(ExtX.refl W1).drew;clear hone hbb hcn hsl hsl1 hrsh hrB hu hv hs hcl hpB hxB hx;go_enter Tryz.func99,Tryz.ntmps99
 go_wp2_with ((with_reducible show wpList _ _ _ (⟨_, .store 3 _ _,_,_,_,_⟩::_) _ _);refine a1r a3R rfl rfl rfl rfl ct ft ?_;rw[hW1])
 go_region_with (first
  |(go_at_call 101;(with_reducible refine hro.out.mono ?_);rintro ee w2 ⟨t1,ra,rc,rfl,hO1⟩;have kx2:=t1.cell kx;have hr2:Calls Tryz.prog 100 #[.slice ra s.length rc, .slice vo c vc] w2 (a7A w2 bb):=(by rw[<-hbb'.out];exact hcon.out w2 _ (hEw1.trans (hEd.trans t1)) ⟨ra,rc,by rw[hrl.out],hO1.lenCap,hO1.sl RV.elem⟩))
  |(go_at_call 100;(with_reducible refine hr2.mono ?_);rintro ee w3 ⟨t2,rfl⟩))
 all_goals
  have t13:=hEd.trans (t1.trans t2);have v1:=y1.ext0 t13;have v2:=z2.ext0 t13;have v3:=z3.ext0 t13;have v4:=z4.ext0 t13;have ht3:=hEw1.trans t13;have cn4:=v4.cell 0 rfl;have fn4:=v4.frozen 0;have hsz:B0+6<=W1.heap.size:=Nat.le_trans hB0 hE1.size;have hkp:=(a6p hE1 (fun k hk=>b7s hk g1) hB0).trans (a6p t13 (fun k hk=>by simp[noY]at hk) hsz);have hdl2:((done.length:Int)+1)=((done++[s]).length:Int):=by rw[hdd.out];omega
  rw[hdl2]at v1;have hsz3:B0+6<=w3.heap.size:=Nat.le_trans hsz t13.size;clear kp kx hr2 hro hcon hdl2;cases bb
  ·have hc0:a4i p x (done++[s])=cn:=by rw[hone'.out];rfl
   have hfin:SInv w0 bt bp bx bn (.slice po p.length pc) (.slice vo c vc) p x (done++[s]) w3:=⟨ht3,v1,v2,v3,by rw[hc0];exact v4⟩;clear hc0 cn4 fn4;go_wp2_with fail
   go_end0
   exact⟨rfl,hfin,hkp⟩
  ·have hc1:((cn:Int)+1)=(a4i p x (done++[s]):Int):=by rw[hone'.out];rfl
   obtain⟨q1,hq1⟩:=Bx.store v4 (.int .i64 ((cn:Int)+1));have r1:=v1.ext hq1 (a0b n3);have r2:=v2.ext hq1 (a0b n4.symm);have r3:=v3.ext hq1 (a0b n5.symm);have hfin:SInv w0 bt bp bx bn (.slice po p.length pc) (.slice vo c vc) p x (done++[s]) (w3.setCell ⟨bn,0,none⟩ (.int .i64 ((cn:Int)+1))):=⟨ExtX.box ht3 hq1 l2,r1,r2,r3,by rw[<-hc1];exact q1⟩;have hkp2:=hkp.trans (a6p hq1 (fun k hk=>b7s hk g4) hsz3);clear hc1 q1 hq1 r1 r2 r3 v1 v2 v3 v4;go_wp2_with ((with_reducible show wpList _ _ _ (⟨_, .store 3 _ _,_,_,_,_⟩::_) _ _);refine a1r a3R rfl rfl rfl rfl cn4 fn4 ?_)
   go_end0
   exact⟨rfl,hfin,hkp2⟩
def a3v (w:World) (p:Mat) (x:List Rat) (e:Ending) (w':World):Prop:=Ext w w'/\e= .returned (.tuple #[.int .i64 (a4i p x (sdL p x):Int), .int .i64 ((sdL p x).length:Int), .int .i64 (sdE p x)])
theorem a3v.no {w w':World} {p:Mat} {x:List Rat} {c:Int} (hE:Ext w w') (hc:c≠0) (h:sdE p x=c):a3v w p x (.returned (.tuple #[.int .i64 0, .int .i64 0, .int .i64 c])) w':=by
 refine⟨hE,?_⟩;have:sdL p x= []:=by unfold sdL;rw[h,if_neg hc]
 rw[this,h];rfl
theorem a4j {p:Mat} {x:List Rat}:b7r p x=true↔a2k p=true/\x.length=a0l p:=by unfold b7r;simp
theorem a9t {w W:World} {b2 b3:Nat} {v2 v3 u2 u3:Value} {T:TypeId} (hE:Ext w W) (h2:Bx W b2 #[v2] T) (h3:Bx W b3 #[v3] T) (hne:b2≠b3) (l2:w.heap.size<=b2) (l3:w.heap.size<=b3):
  W.cell? ⟨b2,0,none⟩=some v2/\W.frozen? ⟨b2,0,none⟩=false/\(W.setCell ⟨b2,0,none⟩ u2).cell? ⟨b3,0,none⟩=some v3/\(W.setCell ⟨b2,0,none⟩ u2).frozen? ⟨b3,0,none⟩=false/\
  Bx ((W.setCell ⟨b2,0,none⟩ u2).setCell ⟨b3,0,none⟩ u3) b2 #[u2] T/\Bx ((W.setCell ⟨b2,0,none⟩ u2).setCell ⟨b3,0,none⟩ u3) b3 #[u3] T/\Ext w ((W.setCell ⟨b2,0,none⟩ u2).setCell ⟨b3,0,none⟩ u3):=by
 obtain⟨x2,hE2⟩:=Bx.store h2 u2;have x3:=h3.ext hE2 (a0b hne.symm);obtain⟨y3,hE3⟩:=Bx.store x3 u3;have y2:=x2.ext hE3 (a0b hne);exact⟨h2.cell 0 rfl,h2.frozen 0,x3.cell 0 rfl,x3.frozen 0,y2,y3,ExtX.box (ExtX.box hE hE2 l2) hE3 l3⟩
set_option maxRecDepth 100000 in
set_option maxHeartbeats 1600000 in
theorem a2V (X:Nat->Bool) (w:World) (u v:Value) (p:Mat) (y:List Rat) (B:Nat) (hX:HX X w) (hu:MV (mk X w) u p) (hv:RV (mk X w) v y) (hp:p.length<=1000) (hpB:BM B p) (hyB:BR B y) (hB:1<=B) (hBB:B<=2000):
  Calls Tryz.prog 37 #[u,v] w (a3v w p y):=by
 have hpt:=hid (fun w' (h:Ext w w')=>(a4R X w' u p (mkx MV.mono hu h) (by omega)).mono fun e w'' (h:w''=w'/\e= .returned (.bool (a2k p)))=>(⟨h.2,h.1⟩:e= .returned (.bool (a2k p))/\w''=w'));obtain⟨pa,pca,rfl,hpca,hpa⟩:=id hu;obtain⟨va,vca,rfl,hvca,hva⟩:=id hv;obtain⟨W,hW,hE,b0,b1,b2,b3,hz⟩:=b3x w #[.slice pa p.length pca] #[.slice va y.length vca] #[.int .i64 0] #[.int .i64 0] 25 45 3 3;obtain⟨b,hb⟩:∃b,w.heap.size=b:=⟨_,rfl⟩;rw[hb]at b0 b1 b2 b3 hz;have hbw:w.heap.size<=b:=by omega
 have k0:W.cell? ⟨b,0,none⟩=some (.slice pa p.length pca):=b0.cell 0 rfl;have k1:W.cell? ⟨b+1,0,none⟩=some (.slice va y.length vca):=b1.cell 0 rfl;have hPW:=hid (fun k=>hpt.out (W.drewN k) (hE.drewN k));have herr:=hid (fun nq=>a9t (u2:= .int .i64 0) (u3:= .int .i64 0) (hE.drewN nq) (b2.ext0 ((ExtX.refl W).drewN nq)) (b3.ext0 ((ExtX.refl W).drewN nq)) (by omega) (by omega) (by omega));cases hok:b7r p y
 ·have he:Hid (sdE p y=6):=hid (by unfold sdE;rw[hok];rfl)
  cases hpts:a2k p
  ·rw[hpts]at hPW
   clear hok hpts hpt;go_enter Tryz.func37,Tryz.ntmps37
   go_wp2_with fail
   go_quiet ((go_at_call 61;exact Calls.quiet_of_same (hPW.out _)))
   obtain⟨c2,f2,c3,f3,z2,z3,hEf⟩:=herr.out nq;clear k0 k1;go_wp2_with ((with_reducible show wpList _ _ _ (⟨_, .store 3 _ _,_,_,_,_⟩::_) _ _);first|refine a1r a3R rfl rfl rfl rfl c2 f2 ?_|refine a1r a3R rfl rfl rfl rfl c3 f3 ?_)
   exact bodyPost_ret (a2i rfl rfl rfl a4h a4h (z2.cell 0 rfl) (z3.cell 0 rfl)) rfl (a3v.no hEf (by decide) he.out)
  ·have hyc:y.length≠a0l p:=fun h=>by rw[a4j.2 ⟨hpts,h⟩]at hok;cases hok
   rw[hpts]at hPW;obtain⟨g1,g2,g3,g4,g5⟩:=a0L.1 hpts;have h0p:0<p.length:=by omega
   obtain⟨a0,c0,hX0,hc0,hcl0,hq0⟩:=hpa.row 0 h0p;rw[g5 0 h0p]at hc0;have hhp:=hpa.hd;have k00:=hc0.out noY W hE rfl;have i0:∀W,(Instr.indexAt 25 (.slice pa p.length pca) (.int .i64 0)).run Tryz.prog W= .ok (.pointer (some (adr pa 0))) W:=a0A a0o pa p.length pca .i64 0 hhp h0p rfl;obtain⟨c,hc⟩:∃c,a0l p=c:=⟨_,rfl⟩;obtain⟨yl,hyl⟩:∃yl,y.length=yl:=⟨_,rfl⟩;rw[hc]at k00 hyc;rw[hyl]at hyc;rw[hyl]at k1 hW |-;have d1:((yl:Int) !=(c:Int))=true:=a5C (by omega);clear hok hpts hpt hc hyl hyc g1 g2 g3 g4 g5 hc0 hcl0 hq0;go_enter Tryz.func37,Tryz.ntmps37
   go_wp2_with fail
   go_quiet ((go_at_call 61;exact Calls.quiet_of_same (hPW.out _)))
   obtain⟨c2,f2,c3,f3,z2,z3,hEf⟩:=herr.out nq;clear k0 k1 k00 i0;go_wp2_with ((with_reducible show wpList _ _ _ (⟨_, .store 3 _ _,_,_,_,_⟩::_) _ _);first|refine a1r a3R rfl rfl rfl rfl c2 f2 ?_|refine a1r a3R rfl rfl rfl rfl c3 f3 ?_)
   exact bodyPost_ret (a2i rfl rfl rfl a4h a4h (z2.cell 0 rfl) (z3.cell 0 rfl)) rfl (a3v.no hEf (by decide) he.out)
 obtain⟨hpts,hyc⟩:=a4j.1 hok;obtain⟨g1,g2,g3,g4,g5⟩:=a0L.1 hpts;have h0p:0<p.length:=by omega
 obtain⟨a0,c0,hX0,hc0,hcl0,hq0⟩:=hpa.row 0 h0p;rw[g5 0 h0p]at hc0;have hhp:=hpa.hd;have k00:=hc0.out noY W hE rfl;have i0:∀W,(Instr.indexAt 25 (.slice pa p.length pca) (.int .i64 0)).run Tryz.prog W= .ok (.pointer (some (adr pa 0))) W:=a0A a0o pa p.length pca .i64 0 hhp h0p rfl;rw[hpts]at hPW;have hrow:=a4u hpts;rw[hyc]at k1 hW b1 hvca hv |-;by_cases hlim:24<p.length/\a0l p=3
 ·have he:Hid (sdE p y=2):=hid (by unfold sdE;rw[hok,if_pos rfl,if_pos (by rw[hyc];exact hlim)])
  obtain⟨l1,l2⟩:=hlim;rw[l2]at k1 k00 hW |-;clear hok hpts hpt hyc g1 g2 g3 g4 g5 hc0 hcl0 hq0 l2 b0 b1 hrow;go_enter Tryz.func37,Tryz.ntmps37
  go_wp2_with fail
  go_quiet ((go_at_call 61;exact Calls.quiet_of_same (hPW.out _)))
  obtain⟨c2,f2,c3,f3,z2,z3,hEf⟩:=herr.out nq;go_wp2_with ((with_reducible show wpList _ _ _ (⟨_, .store 3 _ _,_,_,_,_⟩::_) _ _);first|refine a1r a3R rfl rfl rfl rfl c2 f2 ?_|refine a1r a3R rfl rfl rfl rfl c3 f3 ?_)
  exact bodyPost_ret (a2i rfl rfl rfl a4h a4h (z2.cell 0 rfl) (z3.cell 0 rfl)) rfl (a3v.no hEf (by decide) he.out)
 have he:sdE p y=0:=by unfold sdE;rw[hok,if_pos rfl,if_neg (by rw[hyc];exact hlim)]
 have hL:sdL p y=a0s p.length (a0l p+1) 0:=by unfold sdL;rw[he,if_pos rfl,hyc]
 have hout:=hid (fun(e:Ending) (w':World) (hE:Ext w w') (h:e= .returned (.tuple #[.int .i64 (a4i p y (a0s p.length (a0l p+1) 0):Int), .int .i64 ((a0s p.length (a0l p+1) 0).length:Int), .int .i64 0]))=>(⟨hE,by rw[h,hL,he]⟩:a3v w p y e w'));obtain⟨c,hc⟩:∃c,a0l p=c:=⟨_,rfl⟩;rw[hc]at k00 k1 hW hyc hlim g3 g4 hrow hvca b1 hv hout |-;have hcc:((c:Int) !=(c:Int))=false:=a6k rfl;have hcase:p.length<=24\/(24<p.length/\((c:Int)==3)=false):=by
  rcases Nat.lt_or_ge 24 p.length with h|h
  ·exact .inr ⟨h,a1S (by omega)⟩
  ·exact .inl h
 have hsub:=hid (fun Wn (hEn:Ext w Wn) (hzn:Wn.heap.size=b+4) (x0:Bx Wn b #[.slice pa p.length pca] 25) (x1:Bx Wn (b+1) #[.slice va c vca] 45) (x2:Bx Wn (b+1+1) #[.int .i64 0] 3) (x3:Bx Wn (b+1+1+1) #[.int .i64 0] 3)=>
  a6Z 99 p.length (c+1) #[.pointer (some ⟨b+1+1+1,0,none⟩), .pointer (some ⟨b,0,none⟩), .pointer (some ⟨b+1,0,none⟩), .pointer (some ⟨b+1+1,0,none⟩)] (SInv w (b+1+1+1) b (b+1) (b+1+1) (.slice pa p.length pca) (.slice va c vca) p y) Wn (fun _ _=>rfl) g2 (by omega)
   (fun done W W' hi hE=>hi.own hE (by omega) (by omega) (by omega) (by omega) (by omega))
   (fun done s W hi hss hsl hB9=>by
    obtain⟨rest,hrest⟩:=hss;have hmem:s∈a0s p.length (c+1) 0:=by rw[<-hrest];simp
    obtain⟨m1,m2,_⟩:=a1w p.length (c+1) 0 s hmem;have hdl:=b2q g2 (by omega) hrest;rw[hzn]at hsl hB9 |-;rw[<-m1];exact b4v X w (b+1+1+1) b (b+1) (b+1+1) (b+4) c B pa va pca vca p y done s W hX hu hv hrow g2 g3 g4 hyc hpB hyB hB hBB (by omega) (by omega) (by omega) (by omega) (by omega) (by omega) (by omega) (by omega) (by omega) (by omega) (by omega) hi m1 (fun x hx=>by have:=m2 x hx;omega) hdl hsl hB9)
   ⟨hEn,x3,x0,x1,x2⟩)
 clear hok hpts hpt hyc g1 g3 hc0 hcl0 hq0 hrow he hL hpa hva hu hv hpB hyB;go_enter Tryz.func37,Tryz.ntmps37
 go_wp2_with fail
 go_quiet ((go_at_call 61;exact Calls.quiet_of_same (hPW.out _)))
 have hWn:Ext W (W.drewN nq):=(ExtX.refl W).drewN nq;have hsn:=hsub.out (W.drewN nq) (hE.drewN nq) (by simpa using hz) (b0.ext0 hWn) (b1.ext0 hWn) (b2.ext0 hWn) (b3.ext0 hWn);rw[show((c+1:Nat):Int)=(c:Int)+1 by omega]at hsn;have hsn':=hid hsn;have hbw':=hid hbw;clear hsn hsub herr hWn hPW;rcases hcase with h24|⟨h24,h3⟩
 all_goals
  go_wp2_with fail
  refine hsn'.out.mono ?_;rintro e w3 ⟨rfl,hE3,q1,_,_,q2⟩;have hEd:Ext w3 w3.drew:=(ExtX.refl w3).drew;obtain⟨c2,f2,c3,f3,z2,z3,hEf⟩:=a9t (u2:= .int .i64 (a4i p y (a0s p.length (c+1) 0):Int)) (u3:= .int .i64 ((a0s p.length (c+1) 0).length:Int)) hE3 q2 q1 (by omega) (by have:=hbw'.out;omega) (by have:=hbw'.out;omega);have d2:=(q2.ext0 hEd).cell 0 rfl;have d3:=(q1.ext0 hEd).cell 0 rfl;have e3:=q1.cell 0 rfl;obtain⟨CN,hCN⟩:∃CN,a4i p y (a0s p.length (c+1) 0)=CN:=⟨_,rfl⟩;obtain⟨TN,hTN⟩:∃TN,(a0s p.length (c+1) 0).length=TN:=⟨_,rfl⟩;rw[hCN]at c2 c3 f3 z2 z3 hEf d2;rw[hTN]at z2 z3 c3 hEf e3 d3;have hout':=hout.out;rw[hCN,hTN]at hout';have hout2:=hid hout';clear hout' hCN hTN q1 q2 k0 k1 k00 i0;go_wp2_with fail
  go_region
  have hEf2:=hEf.drew;have y2:=z2.ext0 ((ExtX.refl (Y:=noY) _).drew);have y3:=z3.ext0 ((ExtX.refl (Y:=noY) _).drew);clear c2 f2 c3 f3 d2 d3 e3;go_wp2_with fail
  exact bodyPost_ret (a2i rfl rfl rfl a4h a4h (y2.cell 0 rfl) (y3.cell 0 rfl)) rfl (hout2.out _ _ hEf2 rfl)
def b9b (X:Nat->Bool) (tb:Nat) (R:Mem->Value->Rat->Prop) (k:Nat) (w:World) (e:Ending) (w':World):Prop:=ExtX (tbm tb) w w'/\a0H X tb w'/\∃u q,e= .returned u/\R (mk X w') u q/\hq q<=k
theorem a0H.box {X:Nat->Bool} {tb nb:Nat} {w W:World} (h:a0H X tb w) (hE:Ext w W):a0H (a0e X w.heap.size nb) tb W:=by
 have hlt:=h.lt;obtain⟨hX,lo,l,cap,at_,h1,h2,h3,h4⟩:=h;exact⟨b0U hX,lo,l,cap,at_,by rw[hE.block tb hlt rfl];exact h1,h2,h3,h4.mono (a0x.mono _) (a0q hE)⟩
theorem a0H.unbox {X:Nat->Bool} {tb b nb:Nat} {w:World} (h:a0H (a0e X b nb) tb w) (hX:X tb=true):a0H X tb w:=by
 obtain⟨_,lo,l,cap,at_,h1,h2,h3,h4⟩:=h;exact⟨hX,lo,l,cap,at_,h1,h2,h3,h4.mono (a0x.mono _) a0k⟩
theorem a0H.store {X:Nat->Bool} {tb b nb:Nat} {w w':World} (h:a0H (a0e X b nb) tb w) (hE:ExtX (ob (some ⟨b,0,Option.none⟩)) w w') (hb:0<nb) (ht:tb≠b):a0H (a0e X b nb) tb w':=
 h.extY hE (fun k hk=>by
  have:k=b:=by
   have:=hk;simp[ob]at this;omega
  subst this;simp[a0e];omega) (a0b ht)
theorem _root_.Go.Rep.ExtX.tbox {tb b:Nat} {w w4 w7:World} (h:ExtX (tbm tb) w w4) (hE:ExtX (ob (some ⟨b,0,none⟩)) w4 w7) (hb:w.heap.size<=b):ExtX (tbm tb) w w7:=h.then_ hE (fun i hi _=>a0b (by omega))
theorem c0u {n:Nat} (h:n<4294967296):lg n<=1:=by
 by_cases h0:n=0
 ·subst h0;simp[a5J]
 ·rw[a2F (by omega) h];exact Nat.le_refl _
theorem lgI {a:Int} (h1: -100000<=a) (h2:a<=100000):lg a.natAbs<=1:=c0u (by omega)
theorem b0c {a k:Int} (h1: -100000<=a) (h2:a<=100000) (h3: -100000<=k) (h4:k<=100000):hq ((a:Rat)/(k:Rat))<=2:=by
 have:=hq_div (a:Rat) (k:Rat);have:=a6G a 1 (lgI h1 h2) (by omega);have:=a6G k 1 (lgI h3 h4) (by omega);omega
set_option maxRecDepth 100000 in
theorem b1z (X:Nat->Bool) (tb:Nat) (w:World) (ht:a0H X tb w) (hX:HX X w):Calls Tryz.prog 54 #[.pointer (some ⟨tb,0,none⟩)] w (b9b X tb QC 2 w):=by
 have htb:=ht.lt;have htX:=ht.1;obtain⟨W,hW,hE,b0,hz⟩:=a1I w #[.bool false, .slice none 0 0, .slice none 0 0] 32;have hXW:HX (a0e X w.heap.size 1) W:=hX.boxes hz;have htW:a0H (a0e X w.heap.size 1) tb W:=ht.box hE;obtain⟨b,hb⟩:∃b,w.heap.size=b:=⟨_,rfl⟩;have hbw:w.heap.size<=b:=by omega
 have htb':tb≠b:=by omega
 have hbt:b≠tb:=by omega
 rw[hb]at b0 hz hXW htW;have hEb:ExtX (tbm tb) w W:=ExtX.of hE;clear hE;go_enter Tryz.func54,Tryz.ntmps54
 go_wp2_with fail
 refine(a0T (a0e X b 1) tb 8 _ htW (by omega)).mono ?_;rintro e w1 ⟨hE1,ht1,m,rfl,hm⟩;have b1:=b0.ext hE1 (a2O hbt);have hX1:=hXW.ext hE1;have hF1:=hEb.trans hE1;clear b0 hXW htW hEb hE1;by_cases h6:m=6
 ·subst h6
  go_wp2_with fail
  refine(a0T (a0e X b 1) tb 13 _ ht1 (by omega)).mono ?_;rintro e w2 ⟨hE2,ht2,m2,rfl,hm2⟩;have hm2':m2<13:=by omega
  have b2:=b1.ext hE2 (a2O hbt);have hX2:=hX1.ext hE2;have hF2:=hF1.trans hE2;go_wp2_with fail
  refine(a0T (a0e X b 1) tb 6 _ ht2 (by omega)).mono ?_;rintro e w3 ⟨hE3,ht3,m3,rfl,hm3⟩;have hm3':m3<6:=by omega
  have b3:=b2.ext hE3 (a2O hbt);have hX3:=hX2.ext hE3;have hF3:=hF2.trans hE3;go_wp2_with fail
  refine(a4q (a0e X b 1) w3 _ _ hX3 (by omega) (by omega) (by omega) (by omega) (by omega) (Nat.le_trans (lgI (by omega) (by omega)) (by omega)) (Nat.le_trans (lgI (by omega) (by omega)) (by omega))).mono ?_;rintro e w4 ⟨hE4,u4,rfl,hu4⟩;obtain⟨s6,a6,n6,c6,d6,k6,e6,rfl⟩:=hu4.shape;have b4:=b3.ext0 hE4;have ht4:=ht3.ext hE4;have hF4:=hF3.trans (ExtX.of hE4);go_wp2_with ((with_reducible show wpList _ _ _ (⟨_, .store _ _ _,_,_,_,_⟩::_) _ _);refine a0c a0w rfl rfl b4 rfl rfl (a2C _ _ _ _ _ _ _) ?_;intro w7 r1 r2)
  have h7:=QC.mono _ _ _ _ a0k (QC.mono _ _ _ _ (a0i r2 (by omega) (by omega)) hu4);exact bodyPost_ret (a0d rfl rfl a0w r1 rfl) rfl ⟨hF4.tbox r2 hbw,(ht4.store r2 (by omega) htb').unbox htX,_,_,rfl,h7,b0c (by omega) (by omega) (by omega) (by omega)⟩
 ·by_cases h7:m=7
  ·subst h7
   go_wp2_with fail
   refine(a0T (a0e X b 1) tb 2001 _ ht1 (by omega)).mono ?_;rintro e w2 ⟨hE2,ht2,m2,rfl,hm2⟩;have hm2':m2<2001:=by omega
   have b2:=b1.ext hE2 (a2O hbt);have hX2:=hX1.ext hE2;have hF2:=hF1.trans hE2;go_wp2_with fail
   refine(b1t (a0e X b 1) tb [1,1,7] _ _ _ w2 1 7 ht2 hX2 rfl rfl (by simp) (by simp) (hid (by simp))).mono ?_;rintro e w3 ⟨hE3,ht3,m3,rfl,hm3,hm3'⟩;have b3:=b2.ext hE3 (a2O hbt);have hX3:=hX2.ext hE3;have hF3:=hF2.trans hE3;go_wp2_with fail
   refine(a4q (a0e X b 1) w3 _ _ hX3 (by omega) (by omega) (by omega) (by omega) (by omega) (Nat.le_trans (lgI (by omega) (by omega)) (by omega)) (Nat.le_trans (lgI (by omega) (by omega)) (by omega))).mono ?_;rintro e w4 ⟨hE4,u4,rfl,hu4⟩;obtain⟨s6,a6,n6,c6,d6,k6,e6,rfl⟩:=hu4.shape;have b4:=b3.ext0 hE4;have ht4:=ht3.ext hE4;have hF4:=hF3.trans (ExtX.of hE4);go_wp2_with ((with_reducible show wpList _ _ _ (⟨_, .store _ _ _,_,_,_,_⟩::_) _ _);refine a0c a0w rfl rfl b4 rfl rfl (a2C _ _ _ _ _ _ _) ?_;intro w7 r1 r2)
   have h7:=QC.mono _ _ _ _ a0k (QC.mono _ _ _ _ (a0i r2 (by omega) (by omega)) hu4);exact bodyPost_ret (a0d rfl rfl a0w r1 rfl) rfl ⟨hF4.tbox r2 hbw,(ht4.store r2 (by omega) htb').unbox htX,_,_,rfl,h7,b0c (by omega) (by omega) (by omega) (by omega)⟩
  ·have t6:((m:Int)==6)=false:=a1S (by omega)
   have t7:((m:Int)==7)=false:=a1S (by omega);go_wp2_with fail
   refine(a0T (a0e X b 1) tb 9 _ ht1 (by omega)).mono ?_;rintro e w2 ⟨hE2,ht2,m2,rfl,hm2⟩;have hm2':m2<9:=by omega
   have b2:=b1.ext hE2 (a2O hbt);have hX2:=hX1.ext hE2;have hF2:=hF1.trans hE2;go_wp2_with fail
   refine(a4b (a0e X b 1) w2 _ hX2 (by omega) (by omega)).mono ?_;rintro e w4 ⟨hE4,u4,rfl,hu4⟩;obtain⟨s6,a6,n6,c6,d6,k6,e6,rfl⟩:=hu4.shape;have b4:=b2.ext0 hE4;have ht4:=ht2.ext hE4;have hF4:=hF2.trans (ExtX.of hE4);go_wp2_with ((with_reducible show wpList _ _ _ (⟨_, .store _ _ _,_,_,_,_⟩::_) _ _);refine a0c a0w rfl rfl b4 rfl rfl (a2C _ _ _ _ _ _ _) ?_;intro w7 r1 r2)
   have h7:=QC.mono _ _ _ _ a0k (QC.mono _ _ _ _ (a0i r2 (by omega) (by omega)) hu4);exact bodyPost_ret (a0d rfl rfl a0w r1 rfl) rfl ⟨hF4.tbox r2 hbw,(ht4.store r2 (by omega) htb').unbox htX,_,_,rfl,h7,Nat.le_trans (a6G _ 1 (lgI (by omega) (by omega)) (by omega)) (by omega)⟩
def b4w (X:Nat->Bool) (tb:Nat) (R:Mem->Value->Rat->Prop) (k n:Nat) (w:World) (e:Ending) (w':World):Prop:=ExtX (tbm tb) w w'/\∃(ao:Option Addr) (l:List Rat) (cap:Nat),e= .returned (.slice ao n cap)/\l.length=n/\n<=cap/\BR k l/\a0H (un X ao) tb w'/\OL R 3 X w.heap.size 32 w' ao cap l
theorem a4x (X:Nat->Bool) (tb n:Nat) (w:World) (ht:a0H X tb w) (hX:HX X w) (hn:n<=1000):
  Calls Tryz.prog 42 #[.pointer (some ⟨tb,0,none⟩), .int .i64 (n:Int)] w (b4w X tb QC 2 n w):=by
 have hsub:=a3t ht.1;go_enter Tryz.func42,Tryz.ntmps42
 go_wp2_with fail
 go_loopw [5,6] (fun s c wr=>∃(i:Nat) (oo:Option Addr) (co:Nat) (l:List Rat),c= .int .i64 i/\s= .slice oo i co/\l.length=i/\i<=n/\BR 2 l/\OL QC 3 X w.heap.size 32 wr oo co l/\a0H (un X oo) tb wr/\ExtX (tbm tb) w wr) (fun _ c _=>n - (intOf c).toNat)
 case atStart=>exact⟨0,none,0,[],rfl,rfl,rfl,Nat.zero_le _,fun x hx=>by simp at hx,OL.nil _ _ _ _ _ _,ht.none,ExtX.refl _⟩
 case round=>
  obtain⟨i,oo,co,l,rfl,rfl,hli,hin,hB,hO,htr,hE⟩:=hrel;have hXr:HX X wr:=hX.ext hE;by_cases hlt:i<n
  ·have hXu:HX (un X oo) wr:=hO.unX hXr
   have hln:=hid hli;clear hli;go_wp2_with fail
   refine(b1z (un X oo) tb _ htr hXu).mono ?_;rintro e w2 ⟨hE2,ht2,u6,q,rfl,hu6,hq6⟩;obtain⟨s6,a6,n6,c6,d6,k6,e6,rfl⟩:=hu6.shape;have hO2:=hO.ext QC.elem hE2 (fun k _ hk=>hsub k hk) (fun _ _ h=>h);have hX2:HX X w2:=hXr.ext hE2;have hE3:=hE.trans hE2;have hbase:=hE3.size;clear hO htr hE hE2 hXr hXu;go_wp2_with (at_builtin;refine a0r (l:=l) a0J rfl QC.elem (by omega) hX2 i hln.out rfl rfl hO2 (.agg #[.bool s6, .slice a6 n6 c6, .slice d6 k6 e6]) q rfl hu6 (by omega) (by omega) ?_;intro oo2 co2 w7 hO7 hE7 hor)
   have hE8:=hE3.own hO2 (Nat.le_refl _) hE7;have ht3:=ht2.unstep (hO2.not_ob ht.1) hE7 hor;have hB2:BR 2 (l++[q]):=fun x hx=>by
    rcases List.mem_append.1 hx with h|h
    ·exact hB x h
    ·rw[List.mem_singleton.1 h];exact hq6
   have hl2:(l++[q]).length=i+1:=by rw[List.length_append,hln.out];rfl
   go_roundw
   case rel=>exact⟨i+1,oo2,co2,_,by go_num,by go_num,hl2,by omega,hB2,hO7,ht3,hE8⟩
   case measure=>simp[intOf];omega
  ·have hil:i=n:=by omega
   subst hil;have hc:=hO.lenCap;rw[hli]at hc;go_wp2_with fail
   go_ret
   exact⟨hE,oo,l,co,rfl,hli,hc,hB,htr,hO⟩
theorem b0d (n:Nat) (h:n<100):Dig [n]:=fun x hx=>by
 have:x=n:=by simpa using hx
 subst this;have:=a1j;omega
theorem a0a.lit1 (X:Nat->Bool) (w:World) (n:Nat) (e:TypeId) (hX:HX X w):Sl (a0a .u32) 1 (mk X (w.alloc (.cells #[.int .u32 (n:Int)] e))) (some ⟨w.heap.size,0,none⟩) [n]:=
 (OL.lit (a0a.elem .u32) hX (Nat.le_refl _) [.int .u32 (n:Int)] [n] _ (by simp[a0g,Value.cells]) rfl (fun i hi _=>by
  have:i=0:=by simpa using hi
  subst this;rfl) (by simp)).sl (a0a.elem _)
theorem b6A {h:Mem} {s:Bool} {ma da:Option Addr} {mc dc:Nat} {m d:List Nat} (hm:Sl (a0a .u32) 1 h ma m) (hd:Sl (a0a .u32) 1 h da d) (hmc:m.length<=mc) (hdc:d.length<=dc) (hmd:Dig m) (hdd:Dig d) (hml:m.length<=3) (hdl:d.length<=3):
  ∃q,QV h (.agg #[.bool s, .slice ma m.length mc, .slice da d.length dc]) q/\hq q<=3:=
 ⟨_,⟨s,ma,mc,m,da,dc,d,rfl,hmc,hdc,hmd,hdd,by omega,by omega,hm,hd,rfl⟩,a9F s m d 3 hmd hdd hml hdl (by omega)⟩
set_option maxRecDepth 100000 in
set_option maxHeartbeats 1600000 in
theorem b6B (X:Nat->Bool) (tb:Nat) (w:World) (ht:a0H X tb w) (hX:HX X w):Calls Tryz.prog 19 #[.pointer (some ⟨tb,0,none⟩)] w (b9b X tb QV 3 w):=by
 have htb:=ht.lt;have htX:=ht.1;obtain⟨W,hW,hE,b0,hz⟩:=a1I w #[.bool false, .slice none 0 0, .slice none 0 0] 32;have hXW:HX (a0e X w.heap.size 1) W:=hX.boxes hz;have htW:a0H (a0e X w.heap.size 1) tb W:=ht.box hE;obtain⟨b,hb⟩:∃b,w.heap.size=b:=⟨_,rfl⟩;have hbw:w.heap.size<=b:=by omega
 have htb':tb≠b:=by omega
 have hbt:b≠tb:=by omega
 rw[hb]at b0 hz hXW htW;have hEb:ExtX (tbm tb) w W:=ExtX.of hE;clear hE;go_enter Tryz.func19,Tryz.ntmps19
 go_wp2_with fail
 refine(b1z (a0e X b 1) tb _ htW hXW).mono ?_;rintro e w1 ⟨hE1,ht1,u1,q,rfl,hu1,hq1⟩;obtain⟨s,ma,mc,m,da,dc,d,rfl,hmc,hdc,hcq,hms,hds⟩:=hu1;have hmd:Dig m:=hcq.1.2.1;have hdd:Dig d:=hcq.2.1;have hml:m.length<=2:=by have:=a0F q;rw[hcq.1.len];omega
 have hdl:d.length<=2:=by have:=b7Q q;rw[hcq.2.len];omega
 have b1:=b0.ext hE1 (a2O hbt);have hX1:=hXW.ext hE1;have hF1:=hEb.trans hE1;have hz1:=hE1.size;have bx:=Bx.new w1 #[.bool false, .slice none 0 0, .slice none 0 0] 32;obtain⟨bo,hbo⟩:∃bo,w1.heap.size=bo:=⟨_,rfl⟩;rw[hbo]at bx;have hbnew:∀j,j<w1.heap.size->ob (some ⟨bo,0,none⟩) j=false:=fun j hj=>a0b (by omega);have hbob:b<bo:=by have:=b1.lt;omega
 have htbo:tb<bo:=by have:=ht1.lt;omega
 clear b0 hXW htW hEb hcq hz;go_wp2_with ((with_reducible show wpList _ _ _ (⟨_, .store 32 _ _,_,_,_,_⟩::_) _ _);refine a0c a0w rfl rfl bx rfl rfl (a2C _ _ _ _ _ _ _) ?_;intro w2 r1 r2)
 have hE2:Ext w1 w2:=ExtX.box ((ExtX.refl w1).alloc _) r2 (by omega);have ht2:a0H (un (a0e X b 1) (some ⟨bo,0,none⟩)) tb w2:=ht1.old hE2 hbnew;have hms2:=hms.old (oo:=some ⟨bo,0,none⟩) (a0a.mono _) hE2 hbnew;have hds2:=hds.old (oo:=some ⟨bo,0,none⟩) (a0a.mono _) hE2 hbnew;have hX2:HX (un (a0e X b 1) (some ⟨bo,0,none⟩)) w2:=fun k hk=>by
  by_cases hx:a0e X b 1 k=true
  ·exact hX1.ext hE2 k hx
  ·have:bo=k:=by simpa[un,hx,ob]using hk
   have:=r1.lt;omega
 have b2:=b1.ext0 hE2;have hF2:=hF1.trans (ExtX.of hE2);clear bx hms hds ht1 hE1 hE2 hX1 hF1;refine(a0T (un (a0e X b 1) (some ⟨bo,0,none⟩)) tb 24 _ ht2 (by omega)).mono ?_;rintro e w3 ⟨hE3,ht3,k,rfl,hk⟩;have hsub:=a3t ht3.1;have hms3:=hms2.mono (a0a.mono _) (a0u hE3 hsub);have hds3:=hds2.mono (a0a.mono _) (a0u hE3 hsub);have hX3:=hX2.ext hE3;have b3:=b2.ext hE3 (a2O hbt);have r3:=r1.ext hE3 (a2O (by omega));have hF3:=hF2.trans hE3;have hz3:=r3.lt;clear hms2 hds2 hX2 b2 r1 r2 hF2 ht2 hE3 hbnew hz1;have hdone:Hid (∀(wz w7:World) (s:Bool) (ma da:Option Addr) (mc dc:Nat) (m d:List Nat),ExtX (tbm tb) w wz->a0H (un (a0e X b 1) (some ⟨bo,0,none⟩)) tb wz->Sl (a0a .u32) 1 (mk (un (a0e X b 1) (some ⟨bo,0,none⟩)) wz) ma m->Sl (a0a .u32) 1 (mk (un (a0e X b 1) (some ⟨bo,0,none⟩)) wz) da d->m.length<=mc->d.length<=dc->Dig m->Dig d->m.length<=3->d.length<=3->ExtX (ob (some ⟨b,0,none⟩)) wz w7->b9b X tb QV 3 w (.returned (.agg #[.bool s, .slice ma m.length mc, .slice da d.length dc])) w7):=hid fun wz w7 s ma da mc dc m d g1 g2 g3 g4 g5 g6 g7 g8 g9 g10 g11=>by
  have hle:Le (mk (un (a0e X b 1) (some ⟨bo,0,none⟩)) wz) (mk X w7):=by
   refine a1g g11 (fun j hj hk=>?_) (fun j _ hk=>a0v (b0U hk));have:b=j:=by simpa[ob]using hk
   subst this;exact a0v (a8n (Nat.le_refl _) (by omega))
  obtain⟨q,p1,p2⟩:=b6A (s:=s) (g3.mono (a0a.mono _) hle) (g4.mono (a0a.mono _) hle) g5 g6 g7 g8 g9 g10;have t1:a0H X tb w7:=by
   have hlt:=g2.lt;obtain⟨_,lo,l,cap,at_,h1,h2,h3,h4⟩:=g2;exact⟨htX,lo,l,cap,at_,by rw[g11.block tb hlt (a0b htb')];exact h1,h2,h3,h4.mono (a0x.mono _) hle⟩
  exact⟨g1.tbox g11 hbw,t1,_,q,rfl,p1,p2⟩
 have hcase:k<20\/k=20\/k=21\/k=22\/k=23:=by omega
 rcases hcase with h|rfl|rfl|rfl|rfl
 ·have k0:=r3.cell 0 rfl
  have k1:=r3.cell 1 rfl;have k2:=r3.cell 2 rfl;have t20:((k:Int)==20)=false:=a1S (by omega);have t21:((k:Int)==21)=false:=a1S (by omega);have t22:((k:Int)==22)=false:=a1S (by omega);have t23:((k:Int)==23)=false:=a1S (by omega);go_wp2_with ((with_reducible show wpList _ _ _ (⟨_, .store 32 _ _,_,_,_,_⟩::_) _ _);refine a0c a0w rfl rfl b3 rfl rfl (a2C _ _ _ _ _ _ _) ?_;intro w7 r1 r2)
  exact bodyPost_ret (a0d rfl rfl a0w r1 rfl) rfl (hdone.out w3 w7 _ _ _ _ _ _ _ hF3 ht3 hms3 hds3 hmc hdc hmd hdd (by omega) (by omega) r2)
 ·have hEa:Ext w3 (w3.alloc (.cells #[.int .u32 1] 110)):=(ExtX.refl _).alloc _
  have r4:=r3.ext0 hEa;have hdn:=a0a.lit1 (un (a0e X b 1) (some ⟨bo,0,none⟩)) w3 1 110 hX3;have k2:=r4.cell 2 rfl;have f2:=r4.frozen 2;obtain⟨g1,g2⟩:=a0R r4 (.slice (some ⟨w3.heap.size,0,none⟩) 1 1) (i:=2) (by simp);obtain⟨w5,hw5⟩:∃w5,(w3.alloc (.cells #[.int .u32 1] 110)).setCell ⟨bo,2,none⟩ (.slice (some ⟨w3.heap.size,0,none⟩) 1 1)=w5:=⟨_,rfl⟩;rw[hw5]at g1 g2;have k0:w5.cell? ⟨bo,0,none⟩=some (.bool s):=g1.cell 0 rfl;have k1:w5.cell? ⟨bo,1,none⟩=some (.slice ma m.length mc):=g1.cell 1 rfl;have k5:w5.cell? ⟨bo,2,none⟩=some (.slice (some ⟨w3.heap.size,0,none⟩) 1 1):=g1.cell 2 rfl;have hE5:ExtX (ob (some ⟨bo,0,none⟩)) w3 w5:=(ExtX.of hEa).trans g2;have hle:Le (mk (un (a0e X b 1) (some ⟨bo,0,none⟩)) w3) (mk (un (a0e X b 1) (some ⟨bo,0,none⟩)) w5):=a0u hE5 fun _ hk=>a0y hk;have hle2:Le (mk (un (a0e X b 1) (some ⟨bo,0,none⟩)) (w3.alloc (.cells #[.int .u32 1] 110))) (mk (un (a0e X b 1) (some ⟨bo,0,none⟩)) w5):=a0u g2 fun _ hk=>a0y hk;have b5:=(b3.ext0 hEa).ext g2 (a0b (by omega));have hfin:=hid (hdone.out w5 · s ma (some ⟨w3.heap.size,0,none⟩) mc 1 m [1] (hF3.tbox hE5 (by omega)) (ht3.extY hE5 (fun _ hk=>a0y hk) (a0b (by omega))) (hms3.mono (a0a.mono _) hle) (hdn.mono (a0a.mono _) hle2) hmc (by simp) hmd (b0d 1 (by omega)) (by omega) (by simp));go_wp2_with (first|((with_reducible show wpList _ _ _ (⟨_, .store 28 _ _,_,_,_,_⟩::_) _ _);refine a1r b9L rfl rfl rfl rfl k2 f2 ?_;rw[hw5];clear k2 f2)|((with_reducible show wpList _ _ _ (⟨_, .store 32 _ _,_,_,_,_⟩::_) _ _);refine a0c a0w rfl rfl b5 rfl rfl (a2C _ _ _ _ _ _ _) ?_;intro w7 r1 r2))
  exact bodyPost_ret (a0d rfl rfl a0w r1 rfl) rfl (hfin.out w7 r2)
 ·have k1:=r3.cell 1 rfl
  have h0:=hid (show Sl (a0a .u32) 1 (mk (un (un (a0e X b 1) (some ⟨bo,0,none⟩)) none) w3) ma m from by rw[b4m];exact hms3);go_wp2_with (first
   |(at_builtin;refine a2m (l:=([]:List Nat)) a0Q rfl (a0a.elem .u32) (Nat.le_refl w3.heap.size) hX3 m rfl rfl (OL.nil _ _ _ _ _ _) h0.out (by simp;omega) (by simp;omega) ?_;intro oo4 co4 w4 hO4 hE4 hor4;have hE34:Ext w3 w4:=hE4.weaken (fun _ _ _=>rfl);have hX4:=hX3.ext hE34;have hb4:=hE34.size)
   |(at_builtin;refine a3c (l:=[]++m) a0Q rfl (a0a.elem .u32) hb4 hX4 rfl rfl hO4 (.int .u32 0) 0 rfl rfl (by simp;omega) (by simp;omega) ?_;intro oo5 co5 w5 hO5 hE5 hor5;have hE35:Ext w3 w5:=hE34.own hO4 (Nat.le_refl _) hE5;have r5:=r3.ext0 hE35;have k2:=r5.cell 1 rfl;have f2:=r5.frozen 1;obtain⟨g1,g2⟩:=a0R r5 (.slice oo5 (m.length+1) co5) (i:=1) (by simp);obtain⟨w6,hw6⟩:∃w6,w5.setCell ⟨bo,1,none⟩ (.slice oo5 (m.length+1) co5)=w6:=⟨_,rfl⟩;rw[hw6]at g1 g2;have q0:w6.cell? ⟨bo,0,none⟩=some (.bool s):=g1.cell 0 rfl;have q1:w6.cell? ⟨bo,1,none⟩=some (.slice oo5 (m.length+1) co5):=g1.cell 1 rfl;have q2:w6.cell? ⟨bo,2,none⟩=some (.slice da d.length dc):=g1.cell 2 rfl;have b6:=(b3.ext0 hE35).ext g2 (a0b (by omega)))
   |((with_reducible show wpList _ _ _ (⟨_, .store 32 _ _,_,_,_,_⟩::_) _ _);refine a0c a0w rfl rfl b6 rfl rfl (a2C _ _ _ _ _ _ _) ?_;intro w7 r1 r2))
  have hE6:ExtX (ob (some ⟨bo,0,none⟩)) w3 w6:=(ExtX.of hE35).trans g2;have hle:Le (mk (un (a0e X b 1) (some ⟨bo,0,none⟩)) w3) (mk (un (a0e X b 1) (some ⟨bo,0,none⟩)) w6):=a0u hE6 fun _ hk=>a0y hk;have hle2:Le (mk (un (a0e X b 1) (some ⟨bo,0,none⟩)) w5) (mk (un (a0e X b 1) (some ⟨bo,0,none⟩)) w6):=a0u g2 fun _ hk=>a0y hk;have hc5:=hO5.lenCap;have hlen:([]++m++[0]).length=m.length+1:=by simp
  rw[hlen]at hc5;have hfin:=hdone.out w6 w7 s oo5 da co5 dc ([]++m++[0]) d (hF3.tbox hE6 (by omega)) (ht3.extY hE6 (fun _ hk=>a0y hk) (a0b (by omega))) ((hO5.sl (a0a.elem _)).mono (a0a.mono _) hle2) (hds3.mono (a0a.mono _) hle) (by rw[hlen];exact hc5) hdc (fun x hx=>by
   rcases List.mem_append.1 hx with h|h
   ·exact hmd x (by simpa using h)
   ·rw[List.mem_singleton.1 h];exact a2l) hdd (by simp;omega) (by omega) r2
  rw[hlen]at hfin;exact bodyPost_ret (a0d rfl rfl a0w r1 rfl) rfl hfin
 ·go_wp2_with ((with_reducible show wpList _ _ _ (⟨_, .store 32 _ _,_,_,_,_⟩::_) _ _);refine a0c a0w rfl rfl b3 rfl rfl (a2C _ _ _ _ _ _ _) ?_;intro w7 r1 r2)
  exact bodyPost_ret (a0d rfl rfl a0w r1 rfl) rfl (hdone.out w3 w7 true none none 0 0 [] [] hF3 ht3 (Sl.nil _ _ _ _) (Sl.nil _ _ _ _) (by simp) (by simp) (fun x hx=>by simp at hx) (fun x hx=>by simp at hx) (by simp) (by simp) r2)
 ·obtain⟨w4,hw4⟩:∃w4,w3.alloc (.cells #[.int .u32 2] 110)=w4:=⟨_,rfl⟩
  have hE4:Ext w3 w4:=by rw[<-hw4];exact(ExtX.refl _).alloc _
  have hz4:w4.heap.size=w3.heap.size+1:=by rw[<-hw4];simp
  have hX4:=hX3.ext hE4;have hm2:=a0a.lit1 (un (a0e X b 1) (some ⟨bo,0,none⟩)) w3 2 110 hX3;have hd4:=a0a.lit1 (un (a0e X b 1) (some ⟨bo,0,none⟩)) w4 4 110 hX4;rw[show((2:Nat):Int)=2 from rfl,hw4]at hm2;rw[show((4:Nat):Int)=4 from rfl]at hd4;obtain⟨w5,hw5⟩:∃w5,w4.alloc (.cells #[.int .u32 4] 110)=w5:=⟨_,rfl⟩;have hE5:Ext w4 w5:=by rw[<-hw5];exact(ExtX.refl _).alloc _
  rw[hw5,hz4]at hd4;have hm5:=hm2.mono (a0a.mono _) (a0m hE5);have hE35:Ext w3 w5:=hE4.trans hE5;have b5:=b3.ext0 hE35;have hfin:=hid (hdone.out w5 · false (some ⟨w3.heap.size,0,none⟩) (some ⟨w3.heap.size+1,0,none⟩) 1 1 [2] [4] (hF3.trans (ExtX.of hE35)) (ht3.ext hE35) hm5 hd4 (by simp) (by simp) (b0d 2 (by omega)) (b0d 4 (by omega)) (by simp) (by simp));clear hE4 hX4 hm2 hd4 hE5 hm5 hE35;go_wp2_with ((with_reducible show wpList _ _ _ (⟨_, .store 32 _ _,_,_,_,_⟩::_) _ _);refine a0c a0w rfl rfl b5 rfl rfl (a2C _ _ _ _ _ _ _) ?_;intro w7 r1 r2)
  exact bodyPost_ret (a0d rfl rfl a0w r1 rfl) rfl (hfin.out w7 r2)
theorem a7d (X:Nat->Bool) (tb n:Nat) (w:World) (ht:a0H X tb w) (hX:HX X w) (hn:n<=1000):
  Calls Tryz.prog 60 #[.pointer (some ⟨tb,0,none⟩), .int .i64 (n:Int)] w (b4w X tb QV 3 n w):=by
 have hsub:=a3t ht.1;go_enter Tryz.func60,Tryz.ntmps60
 go_wp2_with fail
 go_loopw [5,6] (fun s c wr=>∃(i:Nat) (oo:Option Addr) (co:Nat) (l:List Rat),c= .int .i64 i/\s= .slice oo i co/\l.length=i/\i<=n/\BR 3 l/\OL QV 3 X w.heap.size 32 wr oo co l/\a0H (un X oo) tb wr/\ExtX (tbm tb) w wr) (fun _ c _=>n - (intOf c).toNat)
 case atStart=>exact⟨0,none,0,[],rfl,rfl,rfl,Nat.zero_le _,fun x hx=>by simp at hx,OL.nil _ _ _ _ _ _,ht.none,ExtX.refl _⟩
 case round=>
  obtain⟨i,oo,co,l,rfl,rfl,hli,hin,hB,hO,htr,hE⟩:=hrel;have hXr:HX X wr:=hX.ext hE;by_cases hlt:i<n
  ·have hXu:HX (un X oo) wr:=hO.unX hXr
   have hln:=hid hli;clear hli;go_wp2_with fail
   refine(b6B (un X oo) tb _ htr hXu).mono ?_;rintro e w2 ⟨hE2,ht2,u6,q,rfl,hu6,hq6⟩;obtain⟨s6,a6,n6,c6,d6,k6,e6,rfl⟩:=hu6.shape;have hO2:=hO.ext QV.elem hE2 (fun k _ hk=>hsub k hk) (fun _ _ h=>h);have hX2:HX X w2:=hXr.ext hE2;have hE3:=hE.trans hE2;have hbase:=hE3.size;clear hO htr hE hE2 hXr hXu;go_wp2_with (at_builtin;refine a0r (l:=l) a0J rfl QV.elem (by omega) hX2 i hln.out rfl rfl hO2 (.agg #[.bool s6, .slice a6 n6 c6, .slice d6 k6 e6]) q rfl hu6 (by omega) (by omega) ?_;intro oo2 co2 w7 hO7 hE7 hor)
   have hE8:=hE3.own hO2 (Nat.le_refl _) hE7;have ht3:=ht2.unstep (hO2.not_ob ht.1) hE7 hor;have hB2:BR 3 (l++[q]):=fun x hx=>by
    rcases List.mem_append.1 hx with h|h
    ·exact hB x h
    ·rw[List.mem_singleton.1 h];exact hq6
   have hl2:(l++[q]).length=i+1:=by rw[List.length_append,hln.out];rfl
   go_roundw
   case rel=>exact⟨i+1,oo2,co2,_,by go_num,by go_num,hl2,by omega,hB2,hO7,ht3,hE8⟩
   case measure=>simp[intOf];omega
  ·have hil:i=n:=by omega
   subst hil;have hc:=hO.lenCap;rw[hli]at hc;go_wp2_with fail
   go_ret
   exact⟨hE,oo,l,co,rfl,hli,hc,hB,htr,hO⟩
end Go.Proofs.YtoibhmjjhgaimaaGreat
namespace Go.Rep
open Go.RowKit Go.Lim
theorem b1A (X:Nat->Bool) (w:World) (ao:Option Addr) (n cap:Nat) (l:List Rat) (e:TypeId) (hX:∀k,X k=true->k<w.heap.size) (h:RC (mk X w) (.slice ao n cap) l):
  OL RC 1 X w.heap.size e (w.alloc (.cells #[.slice ao n cap] e)) (some ⟨w.heap.size,0,none⟩) 1 [l]:=
 OL.lit RC.elem hX (Nat.le_refl _) [.slice ao n cap] [l] _ (by simp[a0g,Value.cells]) rfl (fun i hi _=>by
  have:i=0:=by simpa using hi
  subst this;exact h) (by simp)
theorem a7K {P:Program} {ops:Array Oper} {Q:Exit->Act->World->Prop} {rest:List Oper} {a:Act} {w:World} {α:Type} {R:Mem->Value->α->Prop} {sz:Nat} {X:Nat->Bool} {e:TypeId} {d:Option Tmp} {ty:TypeId} {ps:String} {af:Array Edge}
  {t by_:Nat} {z:Value} {s x:Operand} {ax:Option Addr} {cs:Nat} (T:SliceT P t e sz by_ z) (hzs:z.cells.size=sz) (hR:Elem R sz) (base:Nat) (hbase:base<=w.heap.size) (hX:∀k,X k=true->k<w.heap.size)
  (xs:List α) (n:Nat) (hn:xs.length=n) (hs:a.eval s= .slice none 0 0) (hx:a.eval x= .slice ax n cs) (hxs:Sl R sz (mk X w) ax xs) (hroom:n*by_<=140737488355328) (hmax:n<=9223372036854775807)
  (K:∀ao' cap' w',OL R sz X base e w' ao' cap' xs->n<=cap'->Ext w w'->wpList P ops Q rest (a.put d (.slice ao' n cap')) w'):
  wpList P ops Q (⟨d, .call {callee:= .builtin .append,args:=#[s,x],argTypes:=#[t,t]},ty,ps,af,none⟩::rest) a w:=by
 subst hn;have h0:Sl R sz (mk (un X none) w) ax xs:=by
  have:un X none=X:=by funext k;simp[un,ob]
  rw[this];exact hxs
 refine a2m (l:=[]) T hzs hR hbase hX xs hs hx (OL.nil _ _ _ _ _ _) h0 (by simpa using hroom) (by simpa using hmax) fun ao' cap' w' hO hE _=>?_;rw[List.nil_append]at hO |-;exact K ao' cap' w' hO hO.lenCap (hE.weaken fun _ _ _=>rfl)
theorem Sl.rowsF {R:Mem->Value->Rat->Prop} {h:Mem} {ao:Option Addr} {m:List (List Rat)} (s:Sl (SlV R 3) 1 h ao m):∃f:Nat->Option Addr×Nat,∀i (hi:i<m.length),h (adr ao i)=some (.slice (f i).1 m[i].length (f i).2)/\m[i].length<=(f i).2/\Sl R 3 h (f i).1 m[i]:=by
 have key:∀i,∃p:Option Addr×Nat,∀(hi:i<m.length),h (adr ao i)=some (.slice p.1 m[i].length p.2)/\m[i].length<=p.2/\Sl R 3 h p.1 m[i]:=fun i=>by
  by_cases hi:i<m.length
  ·obtain⟨u,h1,a,c,rfl,h2,h3⟩:=s.cell SlV.one i hi
   exact⟨(a,c),fun _=>⟨h1,h2,h3⟩⟩
  ·exact⟨(none,0),fun h=>absurd h hi⟩
 exact⟨fun i=>(key i).choose,fun i hi=>(key i).choose_spec hi⟩
theorem OL.rowsF {X:Nat->Bool} {base:Nat} {e:TypeId} {w:World} {ao:Option Addr} {cap:Nat} {m:List (List Rat)} (s:OL RC 1 X base e w ao cap m):∃f:Nat->Option Addr×Nat,∀i (hi:i<m.length),w.cell? (adr ao i)=some (.slice (f i).1 m[i].length (f i).2)/\m[i].length<=(f i).2/\Sl QC 3 (mk (un X ao) w) (f i).1 m[i]:=by
 have key:∀i,∃p:Option Addr×Nat,∀(hi:i<m.length),w.cell? (adr ao i)=some (.slice p.1 m[i].length p.2)/\m[i].length<=p.2/\Sl QC 3 (mk (un X ao) w) p.1 m[i]:=fun i=>by
  by_cases hi:i<m.length
  ·obtain⟨u,h1,_,h2⟩:=s.cell SlV.one i hi
   obtain⟨a,c,rfl,h3,h4⟩:=h2;exact⟨(a,c),fun _=>⟨h1,h3,h4⟩⟩
  ·exact⟨(none,0),fun h=>absurd h hi⟩
 exact⟨fun i=>(key i).choose,fun i hi=>(key i).choose_spec hi⟩
theorem b7t {ao:Option Addr} {n k:Nat} (hd:Hd ao n) (hn:0<n) {b:Nat} (hb:ob ao b=false):(adr ao k).block≠b:=by
 obtain⟨g,o,rfl⟩:=hd hn;intro h;have:g=b:=h;subst this;simp[ob]at hb
end Go.Rep
namespace Go.Proofs.YtoibhmjjhgaimaaGreat
open Go.RowKit Go.Rep Go.Lim
def pB (k:Nat):Nat:=2^(k+1) - 2
theorem b9c (k:Nat):2*pB k+2=pB (k+1):=by
 unfold pB;have:4<=2^(k+1)\/k=0:=by
  rcases Nat.eq_zero_or_pos k with h|h
  ·exact .inr h
  ·exact .inl (by have:=Nat.pow_le_pow_right (n:=2) (by decide) (show 2<=k+1 by omega);simpa using this)
 have h2:2<=2^(k+1):=by have:=Nat.pow_le_pow_right (n:=2) (by decide) (show 1<=k+1 by omega);simpa using this
 rw[Nat.pow_succ 2 (k+1)];omega
theorem a3w {j k:Nat} (h:j<=k):pB j<=pB k:=by
 unfold pB;have:=Nat.pow_le_pow_right (n:=2) (by decide) (show j+1<=k+1 by omega);omega
theorem c1L:pB 8=510:=by decide
def b9d (X:Nat->Bool) (tb:Nat) (n d:Nat) (w:World) (e:Ending) (w':World):Prop:=ExtX (tbm tb) w w'/\∃(ao:Option Addr) (l:List (List Rat)) (cap:Nat),e= .returned (.slice ao l.length cap)/\l.length<=cap/\1<=l.length/\l.length<=n/\(∀r∈l,r.length=d)/\BM 510 l/\a0H (un X ao) tb w'/\OL RC 1 X w.heap.size 45 w' ao cap l
theorem b9e {x y:Rat} {B:Nat} (hx:hq x<=B) (hy:hq y<=B):hq (2*x - y)<=2*B+2:=by
 have h1:=a6F (2*x) y;have h2:=hq_mul 2 x;have h3:hq (2:Rat)<=1:=by
  have:=a6G 2 1 (lgI (by omega) (by omega)) (by omega);exact this
 omega
def a4A (p a b:List Rat) (j:Nat):List Rat:=(List.range p.length).map fun i=>if i<j then 2*a.getD i 0 - b.getD i 0 else p.getD i 0
theorem a9u (p a b:List Rat) (j:Nat):(a4A p a b j).length=p.length:=by simp[a4A]
theorem b2r (p a b:List Rat):a4A p a b 0=p:=by
 refine List.ext_getElem (by simp[a4A]) fun i h1 h2=>?_;simp[a4A,List.getD_eq_getElem?_getD,h2]
theorem b4x (p a b:List Rat) (j:Nat) (hj:j<p.length):(a4A p a b j).set j (2*a.getD j 0 - b.getD j 0)=a4A p a b (j+1):=by
 refine List.ext_getElem (by simp[a4A]) fun i h1 h2=>?_;rw[List.getElem_set];simp only[a4A,List.getElem_map,List.getElem_range];split
 ·subst_vars;simp
 ·by_cases h:i<j
  ·simp[h,show i<j+1 by omega]
  ·simp[h,show¬i<j+1 by omega]
theorem b6C {p a b:List Rat} {B:Nat} (hp:BR B p) (ha:BR B a) (hb:BR B b) (hB:1<=B) (j:Nat):BR (2*B+2) (a4A p a b j):=by
 have g:∀{x:List Rat},BR B x->∀q,hq (x.getD q 0)<=B:=fun{x} hx q=>by
  rw[List.getD_eq_getElem?_getD];by_cases h:q<x.length
  ·rw[List.getElem?_eq_getElem h];exact hx _ (List.getElem_mem _)
  ·rw[List.getElem?_eq_none (by omega)];simp[a1p,hB]
 intro q hq';unfold a4A at hq';obtain⟨i,_,rfl⟩:=List.mem_map.1 hq';split
 ·exact b9e (g ha i) (g hb i)
 ·have:=g hp i;omega
set_option maxRecDepth 100000 in
set_option maxHeartbeats 3200000 in
theorem a7e (X:Nat->Bool) (tb n d:Nat) (w:World) (ht:a0H X tb w) (hX:HX X w) (hn1:1<=n) (hn:n<=8) (hd:d<=1000):
  Calls Tryz.prog 41 #[.pointer (some ⟨tb,0,none⟩), .int .i64 (n:Int), .int .i64 (d:Int)] w (b9d X tb n d w):=by
 have hsub:=a3t ht.1;have htX:=ht.1;go_enter Tryz.func41,Tryz.ntmps41
 go_wp2_with fail
 refine(a4x X tb d w ht hX hd).mono ?_;rintro e w1 ⟨hE1,ao1,l1,cap1,rfl,hl1,hc1,hB1,ht1,hO1⟩;have hX1:=hX.ext hE1;have hRC1:RC (mk X w1) (.slice ao1 d cap1) l1:=⟨ao1,cap1,by rw[hl1],by omega,hO1.sl QC.elem⟩;have hL:=(b1A X w1 ao1 d cap1 l1 45 hX1 hRC1).base_le (b':=w.heap.size) hE1.size;have ht1X:=(ht1.unX htX).old (oo:=some ⟨w1.heap.size,0,none⟩) ((ExtX.refl (Y:=noY) w1).alloc (.cells #[.slice ao1 d cap1] 45)) (b4n w1);have hF1:ExtX (tbm tb) w (w1.alloc (.cells #[.slice ao1 d cap1] 45)):=hE1.alloc _;obtain⟨w2,hw2⟩:∃w2,w1.alloc (.cells #[.slice ao1 d cap1] 45)=w2:=⟨_,rfl⟩;obtain⟨g1,hg1⟩:∃g1:Option Addr,some ⟨w1.heap.size,0,none⟩=g1:=⟨_,rfl⟩;rw[hg1]at hL ht1X;rw[hw2]at hL ht1X hF1;go_wp2_with fail
 have hX2:HX X w2:=hX.ext hF1;refine(a0T (un X g1) tb n _ ht1X (by omega)).mono ?_;rintro e w3 ⟨hE3,ht3,m3,rfl,hm3⟩;have hO3:=hL.ext RC.elem hE3 (fun k _ hk=>hsub k hk) (fun _ _ h=>h);have hF3:=hF1.trans hE3;clear hL ht1X hF1 hE3 hX2 hX1 hRC1 hO1 ht1 hE1 hw2 hg1;go_wp2_with fail
 go_loopw [7,8] (fun s c wr=>∃(i k:Nat) (oo:Option Addr) (co:Nat) (l:List (List Rat)),c= .int .i64 i/\s= .slice oo k co/\l.length=k/\1<=k/\i+k<=n/\(∀r∈l,r.length=d)/\BM (pB k) l/\OL RC 1 X w.heap.size 45 wr oo co l/\a0H (un X oo) tb wr/\ExtX (tbm tb) w wr) (fun _ c _=>(intOf c).toNat)
 case atStart=>exact⟨m3,1,_,_,[l1],rfl,rfl,rfl,Nat.le_refl _,by omega,fun r hr=>by rw[List.mem_singleton.1 hr];exact hl1,fun r hr=>by rw[List.mem_singleton.1 hr];exact hB1,hO3,ht3,hF3⟩
 case round=>
  clear hO3 ht3 hF3;obtain⟨i,k,oo,co,l,rfl,rfl,hlk,hk1,hik,hrl,hBM,hO,htr,hE⟩:=hrel;have hXr:HX X wr:=hX.ext hE;by_cases hlt:0<i
  ·have hXu:HX (un X oo) wr:=hO.unX hXr
   have hlk':=hid hlk;have hrl':=hid hrl;have hO0:=hid hO;have hE0:=hid hE;have hXu0:=hXu;go_wp2_with fail
   refine(a4x (un X oo) tb d wr htr hXu hd).mono ?_;rintro e w2 ⟨hE2,po,p,pc,rfl,hpl,hpc,hpB,ht2,hP⟩;go_wp2_with fail
   refine(a0T (un (un X oo) po) tb 6 _ ht2 (by omega)).mono ?_;rintro e w3 ⟨hE3,ht3,m3,rfl,hm3⟩;have hP3:=hP.ext QC.elem hE3 (fun k _ hk=>a0v (hsub k hk)) (fun _ _ h=>h);have hO3:=(hO.ext RC.elem hE2 (fun k _ hk=>hsub k hk) (fun _ _ h=>h)).ext RC.elem hE3 (fun k _ hk=>hsub k hk) (fun _ _ h=>h);have hF3:=(hE.trans hE2).trans hE3;have hE23:=hE2.trans hE3;have hXu3:=(hXu.ext hE2).ext hE3;have htu3:a0H (un X oo) tb w3:=ht3.unX (a0v htX);have hpB2:2<=pB (k+1):=by have:=a3w (show 1<=k+1 by omega);have:pB 1=2:=rfl;omega
   have hBM':=hid hBM;obtain⟨i,rfl⟩:∃j,i=j+1:=⟨i - 1,by omega⟩;clear hP hO ht2 htr hE2 hE hXu hlk hrl hBM;have hcase:m3<4\/m3=4\/m3=5:=by omega
   rcases hcase with h|rfl|rfl
   ·obtain⟨p2,hp2⟩:∃p2,p=p2:=⟨_,rfl⟩
    subst hp2;have hp2l:=hid hpl;have hp2B:Hid (BR (pB (k+1)) p):=hid fun q hq=>Nat.le_trans (hpB q hq) hpB2;have hRC:RC (mk (un X oo) w3) (.slice po d pc) p:=⟨po,pc,by rw[hpl],by omega,hP3.sl QC.elem⟩;have hOK:=hO3;have htK:=htu3;have hFK:=hF3;have hXK:=hX.ext hF3;have t4:((m3:Int)==4)=false:=a1S (by omega);have t5:((m3:Int)==5)=false:=a1S (by omega);clear hpl hP3;have hb7:=hFK.size;go_wp2_with (at_builtin;refine a0r (l:=l) a0o rfl RC.elem hb7 hXK k hlk'.out rfl rfl hOK (.slice po d pc) p rfl hRC (by omega) (by omega) ?_;intro oo2 co2 w7 hO7 hE7 hor)
    have hE8:=hFK.own hOK (Nat.le_refl _) hE7;have ht8:=htK.unstep (hOK.not_ob htX) hE7 hor;have hl8:(l++[p]).length=k+1:=by rw[List.length_append,hlk'.out];rfl
    have hr8:∀r∈l++[p],r.length=d:=fun r hr=>by
     rcases List.mem_append.1 hr with h|h
     ·exact hrl'.out r h
     ·rw[List.mem_singleton.1 h];exact hp2l.out
    have hB8:BM (pB (k+1)) (l++[p]):=fun r hr=>by
     rcases List.mem_append.1 hr with h|h
     ·exact fun q hq=>Nat.le_trans (hBM'.out r h q hq) (a3w (by omega))
     ·rw[List.mem_singleton.1 h];exact hp2B.out
    go_roundw
    case rel=>exact⟨i,k+1,oo2,co2,_,by go_num,by go_num,hl8,by omega,by omega,hr8,hB8,hO7,ht8,hE8⟩
    case measure=>simp[intOf]
   ·go_wp2_with fail
    refine(a0T (un X oo) tb k _ htu3 (by omega)).mono ?_;rintro e w4 ⟨hE4,ht4,m4,rfl,hm4⟩;have hm4':m4<l.length:=by rw[hlk'.out];omega
    have hO4:=hO3.ext RC.elem hE4 (fun k _ hk=>hsub k hk) (fun _ _ h=>h);have hF4:=hF3.trans hE4;have hXu4:=hXu3.ext hE4;obtain⟨u4,hc4,_,hr4⟩:=hO4.cell SlV.one m4 hm4';obtain⟨a4,c4,rfl,hcl4,hs4⟩:=hr4;have hhd:=hO4.hd;rw[hlk'.out]at hhd;have hrd:=hrl'.out l[m4] (List.getElem_mem _);have hrB:=hBM'.out l[m4] (List.getElem_mem _);obtain⟨r,hr⟩:∃r,l[m4]=r:=⟨_,rfl⟩;rw[hr]at hc4 hcl4 hs4 hrd hrB;have hrd':=hid hrd;rw[hrd]at hc4 hcl4;have hm4k:m4<k:=by omega
    have hrd':=hid hrd;clear hr hrd hm4' hO3 htu3 hF3 ht3 hE4 hP3 hXu3;have hp2l:=hrd';have hp2B:Hid (BR (pB (k+1)) r):=hid fun q hq=>Nat.le_trans (hrB q hq) (a3w (by omega));go_wp2_with (first
     |(with_reducible refine a0n a0o (by omega) (by assumption) ?_)
     |(at_builtin;refine a7K a0J rfl QC.elem w4.heap.size (Nat.le_refl _) hXu4 r d hrd'.out rfl rfl hs4 (by omega) (by omega) ?_;intro po5 pc5 w5 hO5 hc5 hE5;have hOK:=hO4.ext0 RC.elem hE5;have htK:a0H (un X oo) tb w5:=ht4.ext hE5;have hFK:=hF4.trans (ExtX.of hE5);have hXK:=hX.ext hFK;have hRC:RC (mk (un X oo) w5) (.slice po5 d pc5) r:=⟨po5,pc5,by rw[hrd'.out],by rw[hrd'.out];exact hc5,hO5.sl QC.elem⟩;have hb7:=hFK.size)
     |(at_builtin;refine a0r (l:=l) a0o rfl RC.elem hb7 hXK k hlk'.out rfl rfl hOK (.slice po5 d pc5) r rfl hRC (by omega) (by omega) ?_;intro oo2 co2 w7 hO7 hE7 hor))
    have hE8:=hFK.own hOK (Nat.le_refl _) hE7;have ht8:=htK.unstep (hOK.not_ob htX) hE7 hor;have hl8:(l++[r]).length=k+1:=by rw[List.length_append,hlk'.out];rfl
    have hr8:∀x∈l++[r],x.length=d:=fun x hr=>by
     rcases List.mem_append.1 hr with h|h
     ·exact hrl'.out x h
     ·rw[List.mem_singleton.1 h];exact hp2l.out
    have hB8:BM (pB (k+1)) (l++[r]):=fun x hr=>by
     rcases List.mem_append.1 hr with h|h
     ·exact fun q hq=>Nat.le_trans (hBM'.out x h q hq) (a3w (by omega))
     ·rw[List.mem_singleton.1 h];exact hp2B.out
    go_roundw
    case rel=>exact⟨i,k+1,oo2,co2,_,by go_num,by go_num,hl8,by omega,by omega,hr8,hB8,hO7,ht8,hE8⟩
    case measure=>simp[intOf]
   ·obtain⟨f,hf⟩:=hO0.out.rowsF
    have hhd:=hO3.hd;rw[hlk'.out]at hhd;have hobt:ob oo tb=false:=hO3.not_ob htX;have hpt:ob po tb=false:=hP3.not_ob (a0v htX);have hS:Hid (∀w',ExtX (tbm tb) w3.drew w'->∀m,m<k->w'.cell? (adr oo m)=some (.slice (f m).1 d (f m).2)):=hid fun w' h m hm=>by
     have hml:m<l.length:=by rw[hlk'.out];exact hm
     have h1:=(hf m hml).1;rw[hrl'.out _ (List.getElem_mem hml)]at h1;exact(hE23.drew.trans h).cellY h1 (a2O (b7t hhd (by omega) hobt))
    have hf':=hid hf;have hZ3:HX (un (un X oo) po) w3:=hP3.unX hXu3;have htd:a0H (un (un X oo) po) tb w3.drew:=ht3.ext (ExtX.refl _).drew;have i1:∀m,m<k->∀W,(Instr.indexAt 25 (.slice oo k co) (.int .i64 (m:Int))).run Tryz.prog W= .ok (.pointer (some (adr oo m))) W:=fun m hm=>a0A a0o oo k co .i64 m hhd hm rfl;have i1':=hid i1;have hkb:(k:Int)<=1099511627776:=by omega
    clear hf i1;go_wp2_with fail
    go_region_held3 (fun w'=>∀m,m<k->w'.cell? (adr oo m)=some (.slice (f m).1 d (f m).2))
     (first|exact hS.out _ (ExtX.refl _)|exact hS.out _ t1|exact hS.out _ (t1.trans t2)|go_keep)
     (first|(go_at_call 40;(with_reducible refine(a0T (un (un X oo) po) tb k w3.drew htd hkb).mono ?_);rintro ee w4 ⟨t1,ht4,m4,rfl,hm4⟩;have hm4k:m4<k:=(by omega);have i4:=i1'.out m4 hm4k)|(go_at_call 40;(with_reducible refine(a0T (un (un X oo) po) tb k w4 ht4 hkb).mono ?_);rintro ee w5 ⟨t2,ht5,m5,rfl,hm5⟩;have hm5k:m5<k:=(by omega);have i5:=i1'.out m5 hm5k)|fail)
    have hE35:ExtX (tbm tb) w3 w5:=((ExtX.refl _).drew).trans (t1.trans t2);have hP5:=hP3.ext QC.elem hE35 (fun k _ hk=>a0v (hsub k hk)) (fun _ _ h=>h);have hE5:ExtX (un (tbm tb) po) wr w5:=(hE23.trans hE35).weaken fun _ _ h=>(a0P h).1;have hla:m4<l.length:=by rw[hlk'.out];exact hm4k
    have hlb:m5<l.length:=by rw[hlk'.out];exact hm5k
    obtain⟨_,hca,hsa⟩:=hf'.out m4 hla;obtain⟨_,hcb,hsb⟩:=hf'.out m5 hlb;have hda:=hid (hrl'.out _ (List.getElem_mem hla));have hdb:=hid (hrl'.out _ (List.getElem_mem hlb));have hBa:=hid (hBM'.out _ (List.getElem_mem hla));have hBb:=hid (hBM'.out _ (List.getElem_mem hlb));rw[hda.out]at hca;rw[hdb.out]at hcb;obtain⟨ra,hra⟩:∃ra,l[m4]=ra:=⟨_,rfl⟩;obtain⟨rb,hrb⟩:∃rb,l[m5]=rb:=⟨_,rfl⟩;rw[hra]at hsa hda hBa;rw[hrb]at hsb hdb hBb;obtain⟨⟨aa,ac⟩,hfa⟩:∃q,f m4=q:=⟨_,rfl⟩;obtain⟨⟨ba,bc⟩,hfb⟩:∃q,f m5=q:=⟨_,rfl⟩;rw[hfa]at hca hsa;rw[hfb]at hcb hsb
    dsimp only at hca hcb hsa hsb
    have hfa':=hid hfa;have hfb':=hid hfb;have hoo:=hid (fun j (hj:j<wr.heap.size)=>show ob po j=false from hP5.ob_lt hj);have hleZ:Hid (∀wx,ExtX (un (tbm tb) po) wr wx->Le (mk (un X oo) wr) (mk (un (un X oo) po) wx)):=hid fun wx h=>a1g h (fun j hj hk=>by
      by_cases hx:tbm tb j=true
      ·exact a0v (hsub j hx)
      ·simp[un,hx,hoo.out j hj]at hk) (fun j hj hk=>by
      by_cases hx:un X oo j=true
      ·exact hx
      ·simp[un,hoo.out j hj]at hk hx;rcases hk with hk|hk<;>simp[hk]at hx)
    have hlp:Hid (p.length=d):=hid hpl;have hha:Hd aa d:=by have:=hsa.hd;rw[hda.out]at this;exact this
    have hhb:Hd ba d:=by have:=hsb.hd;rw[hdb.out]at this;exact this
    have hhp:Hd po d:=by have:=hP5.hd;rw[hpl]at this;exact this
    have hkB:pB k<=510:=by have:=a3w (show k<=8 by omega);rw[c1L]at this;exact this
    rw[<-b2r p ra rb]at hP5;clear hra hrb hfa hfb hS hf' htd ht3 ht4 i4 i5 hm4 hm5 t1 t2 hE35 hP3 hO3 htu3 hF3 hE23 hE3 hhd;go_wp2_with fail
    rw[hfa'.out,hfb'.out];go_wp2_with fail
    obtain⟨wo,hwo⟩:∃wo,wo=wr:=⟨_,rfl⟩;subst hwo;go_loopw [57] (fun cc wx=>∃j:Nat,cc= .int .i64 j/\j<=d/\OL QC 3 (un X oo) wo.heap.size 32 wx po pc (a4A p ra rb j)/\a0H (un (un X oo) po) tb wx/\ExtX (un (tbm tb) po) wo wx) (fun cc _=>d - (intOf cc).toNat)
    case atStart=>exact⟨0,rfl,Nat.zero_le _,hP5,ht5,hE5⟩
    case round=>
     clear hP5 ht5 hE5;obtain⟨j,rfl,hj,hPx,htx,hEx⟩:=hrel;have hXx:HX (un X oo) wr:=hXu0.ext hEx;have hZx:HX (un (un X oo) po) wr:=hPx.unX hXx;by_cases hjd:j<d
     ·have hja:j<ra.length:=by rw[hda.out];exact hjd
      have hjb:j<rb.length:=by rw[hdb.out];exact hjd
      have hjp:j<(a4A p ra rb j).length:=by rw[a9u,hlp.out];exact hjd
      have hle:=hleZ.out _ hEx;obtain⟨g1,o1,s1,a1,n1,c1,d1,k1,e1,hg1,hX1,hc1,hq1⟩:=(hsa.mono QC.mono hle).rat QC.shaped j hja;obtain⟨g2,o2,s2,a2,n2,c2,d2,k2,e2,hg2,hX2,hc2,hq2⟩:=(hsb.mono QC.mono hle).rat QC.shaped j hjb;have hob1:=(a0P hX1).2;have hob2:=(a0P hX2).2;have gl:Hid (ra.getD j 0=ra[j]):=hid (by simp[List.getD_eq_getElem?_getD,hja]);have gm:Hid (rb.getD j 0=rb[j]):=hid (by simp[List.getD_eq_getElem?_getD,hjb]);have hst:Hid ((a4A p ra rb j).set j (2*ra[j] - rb[j])=a4A p ra rb (j+1)):=hid (by rw[<-gl.out,<-gm.out];exact b4x p ra rb j (by rw[hlp.out];exact hjd));have hBx:=hid (hBa.out _ (List.getElem_mem hja));have hBy:=hid (hBb.out _ (List.getElem_mem hjb));obtain⟨x,hx⟩:∃x,ra[j]=x:=⟨_,rfl⟩;obtain⟨y,hy⟩:∃y,rb[j]=y:=⟨_,rfl⟩;rw[hx]at hst hq1 hBx;rw[hy]at hst hq2 hBy;have hv2:Hid (((2:Int):Rat)=2):=hid rfl;have h2q:Hid (hq (2:Rat)<=68719476736):=hid (by have:=a6G 2 1 (lgI (by omega) (by omega)) (by omega);rw[hv2.out]at this;omega);have hmq:Hid (hq (2*x)<=68719476736):=hid (by
       have h1:=hq_mul 2 x;have h3:=a6G 2 1 (lgI (by omega) (by omega)) (by omega);rw[hv2.out]at h3;have:=hBx.out;omega)
      have i1:∀W,(Instr.indexAt 45 (.slice aa d ac) (.int .i64 (j:Int))).run Tryz.prog W= .ok (.pointer (some ⟨g1,o1,none⟩)) W:=by rw[<-hg1];exact a0h a0J aa d ac .i64 j hha (by omega)
      have i2:∀W,(Instr.indexAt 45 (.slice ba d bc) (.int .i64 (j:Int))).run Tryz.prog W= .ok (.pointer (some ⟨g2,o2,none⟩)) W:=by rw[<-hg2];exact a0h a0J ba d bc .i64 j hhb (by omega)
      obtain⟨g,o,hg⟩:∃g o,adr po (j*3)=⟨g,o,none⟩:=⟨_,_,rfl⟩;have hg':=hid hg;have i3:∀W,(Instr.indexAt 45 (.slice po d pc) (.int .i64 (j:Int))).run Tryz.prog W= .ok (.pointer (some ⟨g,o,none⟩)) W:=by rw[<-hg];exact a0h a0J po d pc .i64 j hhp (by omega)
      have hEd:Ext wr wr.drew:=(ExtX.refl wr).drew;have hS:Hid (∀Y W',ExtX Y wr.drew W'->Y g1=false->Y g2=false->W'.cell? ⟨g1,o1,none⟩=some (.bool s1)/\W'.cell? ⟨g1,o1+1,none⟩=some (.slice a1 n1 c1)/\W'.cell? ⟨g1,o1+2,none⟩=some (.slice d1 k1 e1)/\W'.cell? ⟨g2,o2,none⟩=some (.bool s2)/\W'.cell? ⟨g2,o2+1,none⟩=some (.slice a2 n2 c2)/\W'.cell? ⟨g2,o2+2,none⟩=some (.slice d2 k2 e2)):=hid fun Y W' h y1 y2=>by
       have p1:=hc1.out Y W' ((ExtX.of hEd).trans h) y1;have p2:=hc2.out Y W' ((ExtX.of hEd).trans h) y2;exact⟨p1.1,p1.2.1,p1.2.2,p2.1,p2.2.1,p2.2.2⟩
      obtain⟨k00,k01,k02,k10,k11,k12⟩:=hS.out noY wr.drew (ExtX.refl _) rfl rfl;have hx5:QV (mk (un (un X oo) po) wr.drew) (.agg #[.bool s1, .slice a1 n1 c1, .slice d1 k1 e1]) x:=hq1.qv (by have:=hBx.out;omega);have hy5:QV (mk (un (un X oo) po) wr.drew) (.agg #[.bool s2, .slice a2 n2 c2, .slice d2 k2 e2]) y:=hq2.qv (by have:=hBy.out;omega);have hZd:HX (un (un X oo) po) wr.drew:=hZx;have hOd:=hPx.ext0 QC.elem hEd;have htd:=htx.ext hEd;have hEwd:ExtX (un (tbm tb) po) wo wr.drew:=hEx.trans (ExtX.of hEd);clear hx hy hg hg1 hg2 hc1 hc2 hq1 hq2 hca hcb hPx htx hEx hle gl gm;go_wp2_with fail
      go_region_held3 (fun w'=>w'.cell? ⟨g1,o1,none⟩=some (.bool s1)/\w'.cell? ⟨g1,o1+1,none⟩=some (.slice a1 n1 c1)/\w'.cell? ⟨g1,o1+2,none⟩=some (.slice d1 k1 e1)/\w'.cell? ⟨g2,o2,none⟩=some (.bool s2)/\w'.cell? ⟨g2,o2+1,none⟩=some (.slice a2 n2 c2)/\w'.cell? ⟨g2,o2+2,none⟩=some (.slice d2 k2 e2))
       (first|exact hS.out (ob po) _ ((ExtX.of t123).trans hset.2) hob1 hob2|exact hS.out noY _ t123 rfl rfl|exact hS.out noY _ t12 rfl rfl|exact hS.out noY _ t1 rfl rfl|go_keep)
       (first
        |(go_at_call 59;(with_reducible refine(a4b (un (un X oo) po) wr.drew 2 hZd (by decide) (by decide)).mono ?_);rintro ee w6 ⟨t1,u6,rfl,hu6⟩;rw[hv2.out]at hu6;obtain⟨s6,a6,n6,c6,d6,k6,e6,rfl⟩:=hu6.shape;have hZ6:=hZd.ext t1;have hu6v:=hu6.qv h2q.out;have hx6:=mkx QV.mono hx5 t1)
        |(go_at_call 77;(with_reducible refine(b3E (un (un X oo) po) w6 _ _ 2 x hZ6 hu6v hx6).mono ?_);rintro ee w7 ⟨t2,u7,rfl,hu7⟩;obtain⟨s7,a7,n7,c7,d7,k7,e7,rfl⟩:=hu7.shape;have t12:=t1.trans t2;have hZ7:=hZd.ext t12;have hu7v:=hu7.qv hmq.out;have hy7:=mkx QV.mono hy5 t12)
        |(go_at_call 86;(with_reducible refine(c0c (un (un X oo) po) w7 _ _ (2*x) y hZ7 hu7v hy7).mono ?_);rintro ee w9 ⟨t3,u9,rfl,hu9⟩;obtain⟨s9,a9,n9,c9,d9,k9,e9,rfl⟩:=hu9.shape;have t123:=t12.trans t3;have hO9:=hOd.ext0 QC.elem t123;obtain⟨_,v0,v1,v2,_,⟨q0,f0⟩,⟨q1,f1⟩,⟨q2,f2⟩,_⟩:=hO9.cell3 j hjp hg'.out;have hset:=hO9.set3 a5N QC.elem j hjp hg'.out (v0:= .bool s9) (v1:= .slice a9 n9 c9) (v2:= .slice d9 k9 e9) (x:=2*x - y) hu9)
        |fail)
      obtain⟨r1,r2⟩:=hset;rw[hst.out]at r1;have hE9:ExtX (un (tbm tb) po) wo _:=(hEwd.trans (ExtX.of t123)).trans (r2.weaken fun _ _ h=>(a0P h).2);have ht9:=(htd.ext t123).extY r2 (fun _ hk=>a0y hk) hpt;clear k00 k01 k02 k10 k11 k12 i1 i2 i3 q0 q1 q2 f0 f1 f2 r2;go_wp2_with fail
      go_roundw
      case rel=>exact⟨j+1,by go_num,by omega,r1,ht9,hE9⟩
      case measure=>simp[intOf];omega
     ·have hjl:j=d:=by omega
      obtain⟨r,hr⟩:∃r,a4A p ra rb j=r:=⟨_,rfl⟩;have hrd:Hid (r.length=d):=hid (by rw[<-hr,a9u];exact hlp.out);have hrB:Hid (BR (pB (k+1)) r):=hid (by
       rw[<-hr,<-b9c];have h1:1<=pB k:=by have:=a3w hk1;have:pB 1=2:=rfl;omega
       have h2:2<=pB k:=by have:=a3w hk1;have:pB 1=2:=rfl;omega
       exact b6C (fun q hq=>Nat.le_trans (hpB q hq) h2) hBa.out hBb.out h1 j)
      rw[hr]at hPx;have hOK:OL RC 1 X w.heap.size 45 wr oo co l:=hO0.out.ext RC.elem hEx (fun q hq hk=>by
       by_cases hx:tbm tb q=true
       ·exact hsub q hx
       ·simp[un,hx,hoo.out q hq]at hk) (fun _ _ h=>h)
      have hFK:ExtX (tbm tb) w wr:=hE0.out.then_ hEx (fun q hq hy=>by
       have:=hE0.out.size;simp[un,hy,hoo.out q (by omega)])
      have hXK:=hX.ext hFK;have htK:a0H (un X oo) tb wr:=htx.unX (a0v htX);have hpc2:=hPx.lenCap;rw[hrd.out]at hpc2;have hRC:RC (mk (un X oo) wr) (.slice po d pc) r:=⟨po,pc,by rw[hrd.out],by rw[hrd.out];exact hpc2,hPx.sl QC.elem⟩;have hb7:=hFK.size;have hlk2:=hlk'.out;clear hr hPx hca hcb hEx htx hlk2;go_wp2_with (at_builtin;refine a0r (l:=l) a0o rfl RC.elem hb7 hXK k hlk'.out rfl rfl hOK (.slice po d pc) r rfl hRC (by omega) (by omega) ?_;intro oo2 co2 w7 hO7 hE7 hor)
      have hE8:=hFK.own hOK (Nat.le_refl _) hE7;have ht8:=htK.unstep (hOK.not_ob htX) hE7 hor;have hl8:(l++[r]).length=k+1:=by rw[List.length_append,hlk'.out];rfl
      have hr8:∀x∈l++[r],x.length=d:=fun x hr=>by
       rcases List.mem_append.1 hr with h|h
       ·exact hrl'.out x h
       ·rw[List.mem_singleton.1 h];exact hrd.out
      have hB8:BM (pB (k+1)) (l++[r]):=fun x hr=>by
       rcases List.mem_append.1 hr with h|h
       ·exact fun q hq=>Nat.le_trans (hBM'.out x h q hq) (a3w (by omega))
       ·rw[List.mem_singleton.1 h];exact hrB.out
      go_roundw
      case rel=>exact⟨i,k+1,oo2,co2,_,by go_num,by go_num,hl8,by omega,by omega,hr8,hB8,hO7,ht8,hE8⟩
      case measure=>simp[intOf]
  ·have hc:=hO.lenCap
   have hb:=a3w (show k<=8 by omega);rw[c1L]at hb;have hi0:i=0:=by omega
   subst hi0;go_wp2_with fail
   go_ret
   exact⟨hE,oo,l,co,by rw[hlk];rfl,by omega,by omega,by omega,hrl,fun r hr q hq=>Nat.le_trans (hBM r hr q hq) hb,htr,hO⟩
end Go.Proofs.YtoibhmjjhgaimaaGreat
