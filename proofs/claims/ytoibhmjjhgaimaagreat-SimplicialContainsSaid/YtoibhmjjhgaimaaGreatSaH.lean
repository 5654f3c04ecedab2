/- matrix: zero. Conditions: few rows and columns. matrix: copied. Conditions: few rows and columns. Elements of rows that a call has made itself: loads. Conditions: none. matrix: Transpose. Conditions: few rows and columns, numbers of at most 2^36 digits. matrix: dot. Conditions: few numbers of at most 2^36 digits. matrix: Apply, Mul. Conditions: few rows and columns, numbers of few digits. Bounds of determinants and products, for law 06. Conditions: none. The inverse that the program computes. Conditions: at most four rows where a determinant is spoken of. Solve, as lists. Conditions: none. Simplices: the weights that the program computes say whether the depth is above 0. Conditions: at most three columns. Growth of the numbers of an elimination by the number of its pivots. Conditions: none. exact: Same, Points. halfspace: fits. Conditions: lengths far below any machine's. Counting by directions over lists: what both texts' Count return; bounds. Conditions: none. The ascending lists of h of the integers from lo to lo + m - 1, in lexicographic order. Plain mathematics. Conditions: none. halfspace: zero, unit. exact: Rows of lists. Conditions: at most 1000 rows and columns. exact: Rows of lists of lists. Conditions: at most 1000 rows. The search for the depth over lists: its steps as the program takes them. Conditions: none. The search for the depth, round by round: counts of prefixes, signs, one column; what one round of either text leaves. Conditions: none. matrix: eliminate. Conditions: numbers of at most 2^36 digits. matrix: echelon's closure, slices.IndexFunc over it. Conditions: numbers of at most 2^36 digits. -/
import Derived.Test.YtoibhmjjhgaimaaGreatSaG
import Derived.BigRegion
namespace Go.Proofs.YtoibhmjjhgaimaaGreat
open Go.RowKit Go.Rep Go.Lim Go.Lin
theorem b5P {α:Type} (r i:Nat) (z:α) (x:α) (hi:i<r):((List.range r).map fun q=>if q<i then z else x).set i z=(List.range r).map fun q=>if q<i+1 then z else x:=by
 refine List.ext_getElem (by simp) fun q h1 h2=>?_;simp at h1;rw[List.getElem_set];simp only[List.getElem_map,List.getElem_range];split
 ·subst_vars;simp
 ·by_cases a:q<i
  ·simp[a,show q<i+1 by omega]
  ·simp[a,show¬q<i+1 by omega]
theorem b3G {α:Type} (r:Nat) (z x:α):((List.range r).map fun q=>if q<0 then z else x)=List.replicate r x:=by
 refine List.ext_getElem (by simp) fun q h1 h2=>by simp
theorem b3H {α:Type} (r:Nat) (z x:α):((List.range r).map fun q=>if q<r then z else x)=List.replicate r z:=by
 refine List.ext_getElem (by simp) fun q h1 h2=>?_;simp at h1;simp[h1]
set_option maxRecDepth 100000 in
theorem b1b (X:Nat->Bool) (w:World) (r c:Nat) (hX:HX X w) (hr:r<=1000) (hc:c<=1000):Calls Tryz.prog 219 #[.int .i64 (r:Int), .int .i64 (c:Int)] w (c1J X 45 32 w (List.replicate r (List.replicate c 0))):=by
 go_enter Tryz.func219,Tryz.ntmps219
 go_wp2_with ((with_reducible show wpList _ _ _ (⟨_, .makeSlice _ _ _,_,_,_,_⟩::_) _ _);refine a1F (R:=HdR) a0o HdR.elem (none,0,0) (fun _=>rfl) X hX w.heap.size (Nat.le_refl _) r rfl rfl rfl (by omega) (by omega) ?_;intro ao w1 hO1 hE1)
 have hM1:=MO.start hO1 32;have hh:=hO1.hd;simp only[List.length_replicate]at hh;have h0:List.replicate r ([]:List Rat)=(List.range r).map fun q=>if q<0 then List.replicate c 0 else[]:=(b3G r _ _).symm
 rw[h0]at hM1;clear hO1 h0;go_loopw [11] (fun k wr=>∃(i:Nat) (hs:List Hdr),k= .int .i64 i/\i<=r/\Hid (∀q (hq:q<hs.length),i<=q->hs[q].1=none)/\MO X w.heap.size 45 32 wr ao r hs ((List.range r).map fun q=>if q<i then List.replicate c 0 else[])/\Ext w wr) (fun k _=>r - (intOf k).toNat)
 case atStart=>exact⟨0,_,rfl,Nat.zero_le _,hid (fun q hq _=>by simp),hM1,hE1⟩
 case round=>
  obtain⟨i,hs,rfl,hi,hnil,hM,hE⟩:=hrel;have hXr:HX X wr:=hX.ext hE;have hXz:=hM.hz hXr;have hlen:=hid hM.len;have hml:Hid (((List.range r).map fun q=>if q<i then List.replicate c (0:Rat)else[]).length=r):=hid (by simp);by_cases hlt:i<r
  ·have hih:i<hs.length:=by rw[hlen.out,hml.out];exact hlt
   have hps:=hid (b5P r i (List.replicate c (0:Rat)) [] hlt);have hn:=hnil.out i hih (Nat.le_refl _);go_wp2_with (first|(with_reducible refine a0n a0o (by omega) (by assumption) ?_)|((with_reducible show wpList _ _ _ (⟨_, .makeSlice _ _ _,_,_,_,_⟩::_) _ _);refine a1F (R:=QC) a0J QC.elem (0:Rat) (fun _=>QC.zero _) (mz X ao hs) hXz wr.heap.size (Nat.le_refl _) c rfl rfl rfl (by omega) (by omega) ?_;intro a1 w2 hO2 hE2)|((with_reducible show wpList _ _ _ (⟨_, .store _ _ _,_,_,_,_⟩::_) _ _);refine a1O a4H HdR.elem i rfl (by simp) (hM.outer.ext0 HdR.elem hE2) hih (.slice a1 c c) (a1,c,c) rfl rfl ?_;intro w3 hO3 hE3))
   have hM3:=hM.put (l:=List.replicate c 0) hih hn hE2 (fun k hk=>(hO2.block hk).1) (hO2.base_le hE.size) hXr hE3 (by simpa using hO3);rw[hps.out]at hM3;have hE4:Ext w w3:=(hE.trans hE2).then_ hE3 fun k hk _=>by
    cases hb:ob ao k
    ·rfl
    ·have:=(hM.outer.block hb).1;omega
   have hnil2:Hid (∀q (hq:q<(hs.set i (a1,(List.replicate c (0:Rat)).length,c)).length),i+1<=q->(hs.set i (a1,(List.replicate c (0:Rat)).length,c))[q].1=none):=hid fun q hq hiq=>by
    rw[List.getElem_set_ne (by omega)];exact hnil.out q (by simpa using hq) (by omega)
   go_roundw
   case rel=>exact⟨i+1,_,by go_num,by omega,hnil2,hM3,hE4⟩
   case measure=>simp[intOf];omega
  ·have hir:i=r:=by omega
   subst hir;rw[b3H]at hM;go_wp2_with fail
   go_ret
   exact⟨hE,ao,i,hs,by simp,hM⟩
end Go.Proofs.YtoibhmjjhgaimaaGreat
namespace Go.Lin
def mix {α:Type} (a b:List α) (i:Nat):List α:=a.take i++b.drop i
theorem a2o {α:Type} {a b:List α} (h:a.length=b.length) (i:Nat):(mix a b i).length=a.length:=by simp[mix];omega
theorem a5v {α:Type} (a b:List α):mix a b 0=b:=by simp[mix]
theorem a5w {α:Type} {a b:List α} {i:Nat} (h1:a.length<=i) (h2:b.length<=i):mix a b i=a:=by simp[mix,List.take_of_length_le h1,List.drop_of_length_le h2]
theorem a1X {α:Type} {a b:List α} (h:a.length=b.length) (i q:Nat) (hq:q<(mix a b i).length):(mix a b i)[q]=if q<i then a[q]'(by rw[a2o h]at hq;exact hq)else b[q]'(by rw[a2o h]at hq;omega):=by
 have hq':=hq;rw[a2o h]at hq';have hq2:q<(a.take i++b.drop i).length:=hq
 show(a.take i++b.drop i)[q]'hq2=_
 rw[List.getElem_append];by_cases a1:q<i
 ·rw[dif_pos (by simp;omega),if_pos a1,List.getElem_take]
 ·rw[dif_neg (by simp;omega),if_neg a1,List.getElem_drop]
  congr 1
  simp;omega
theorem a6P {α:Type} {a b:List α} (h:a.length=b.length) {i:Nat} (hi:i<a.length):(mix a b i).set i a[i]=mix a b (i+1):=by
 refine List.ext_getElem (by simp[a2o h]) fun q h1 h2=>?_;rw[List.getElem_set];split
 ·subst_vars;rw[a1X h,if_pos (by omega)]
 ·rw[a1X h,a1X h]
  by_cases a1:q<i
  ·rw[if_pos a1,if_pos (by omega)]
  ·rw[if_neg a1,if_neg (by omega)]
theorem c0d {α:Type} {a b:List α} (h:a.length=b.length) {i:Nat} (hi:i<b.length):(mix a b i).set i b[i]=mix a b i:=by
 refine List.ext_getElem (by simp) fun q h1 h2=>?_;rw[List.getElem_set];split
 ·subst_vars;rw[a1X h,if_neg (by omega)]
 ·rfl
end Go.Lin
namespace Go.Proofs.YtoibhmjjhgaimaaGreat
open Go.RowKit Go.Rep Go.Lim Go.Lin
set_option maxRecDepth 100000 in
set_option maxHeartbeats 800000 in
theorem a4s (X:Nat->Bool) (w:World) (u:Value) (m:List (List Rat)) (n c:Nat) (hX:HX X w) (hu:MV (mk X w) u m) (hsh:Shp n c m) (hc:a0l m=c) (hn:n<=1000) (hcc:c<=1000):Calls Tryz.prog 217 #[u] w (c1J X 45 32 w m):=by
 have hcol:=a2M X w u m hu;obtain⟨ao0,ca,rfl,hca,hsa⟩:=hu;have hha:=hsa.hd;rw[hc]at hcol;have hml:=hid hsh.1;have hrl:=hid hsh.2;rw[hml.out]at hca hha hcol |-;obtain⟨A,hA⟩:∃A,List.replicate n (List.replicate c (0:Rat))=A:=⟨_,rfl⟩;have hAl:Hid (A.length=n):=hid (by rw[<-hA];simp);have hAi:Hid (∀i (hi:i<A.length),A[i]=List.replicate c (0:Rat)):=hid fun i hi=>by subst hA;simp
 have hmA:Hid (m.length=A.length):=hid (by rw[hml.out,hAl.out]);have hz0:=b1b X w n c hX hn hcc;rw[hA]at hz0;clear hA hsh hc;go_enter Tryz.func217,Tryz.ntmps217
 go_wp2_with fail
 refine hcol.mono ?_;rintro e w1 ⟨rfl,rfl⟩;go_wp2_with fail
 refine hz0.mono ?_;rintro e w2 ⟨hE2,ao,cap,hs,rfl,hM2⟩;rw[hAl.out];have hlen:=hid (hM2.len.trans hAl.out);have hcap:n<=cap:=by have:=hM2.capLen;rw[hAl.out]at this;exact this
 have hhO:Hd ao n:=by have:=hM2.outer.hd;rw[hlen.out]at this;exact this
 have hrl2:Hid (∀i (hi:i<hs.length),hs[i].2.1=c):=hid fun i hi=>by
  have h1:i<A.length:=by rw[hAl.out,<-hlen.out];exact hi
  rw[hM2.rlen i hi h1,hAi.out i h1];simp
 clear hcol hz0;go_wp2_with fail
 go_loopw [15] (fun k wr=>∃(i:Nat),k= .int .i64 i/\i<=n/\MO X w1.heap.size 45 32 wr ao cap hs (mix m A i)/\Ext w1 wr) (fun k _=>n - (intOf k).toNat)
 case atStart=>exact⟨0,rfl,Nat.zero_le _,by rw[a5v];exact hM2,hE2⟩
 case round=>
  obtain⟨i,rfl,hi,hM,hE⟩:=hrel;by_cases hlt:i<n
  ·have him:i<m.length:=by rw[hml.out];exact hlt
   have hiA:i<A.length:=by rw[hAl.out];exact hlt
   have hih:i<hs.length:=by rw[hlen.out];exact hlt
   obtain⟨a1,c1,hX1,hc1,hcl1,hq1⟩:=hsa.row i him;have k00:=hc1.out noY wr hE rfl;obtain⟨x,hx⟩:∃x,m[i]=x:=⟨_,rfl⟩;obtain⟨z,hz⟩:∃z,A[i]=z:=⟨_,rfl⟩;rw[hx]at k00 hcl1 hq1;have hxl:Hid (x.length=c):=hid (by rw[<-hx];exact hrl.out _ (List.getElem_mem _));have hzl:Hid (z.length=c):=hid (by rw[<-hz,hAi.out i hiA];simp);have hxz:Hid (x.length=z.length):=hid (by rw[hxl.out,hzl.out]);rw[hxl.out]at k00 hcl1;have hst:Hid ((mix m A i).set i z=mix m A i):=hid (by rw[<-hz];exact c0d hmA.out hiA);have hfin:Hid ((mix m A i).set i x=mix m A (i+1)):=hid (by rw[<-hx];exact a6P hmA.out him);have hmi:Hid (i<(mix m A i).length):=hid (by rw[a2o hmA.out];exact him);have hh1:Hd a1 c:=by have:=hq1.hd;rw[hxl.out]at this;exact this
   have hrow:RV (mk X w1) (.slice a1 c c1) x:=⟨a1,c1,by rw[hxl.out],by rw[hxl.out];exact hcl1,hq1⟩;obtain⟨a,na,cr,hhd⟩:∃a na cr,hs[i]=(a,na,cr):=⟨_,_,_,rfl⟩;have hna:na=c:=by have:=hrl2.out i hih;rw[hhd]at this;exact this
   subst hna;have hhd':=hid hhd;rw[<-hst.out]at hM;have hM':MO X w1.heap.size 45 32 wr ao cap hs ((mix m A i).set i (mix x z 0)):=by rw[a5v];exact hM
   clear hx hz hc1 hq1 hhd hM;obtain⟨wo,hwo⟩:∃wo,wo=wr:=⟨_,rfl⟩;subst hwo;go_wp2_with (with_reducible refine a0n a0o (by omega) (by assumption) ?_)
   go_loopw [22] (fun k wr=>∃(j:Nat),k= .int .i64 j/\j<=na/\MO X w1.heap.size 45 32 wr ao cap hs ((mix m A i).set i (mix x z j))/\Ext w1 wr) (fun k _=>na - (intOf k).toNat)
   case atStart=>exact⟨0,rfl,Nat.zero_le _,hM',hE⟩
   case round=>
    obtain⟨j,rfl,hj,hM,hE⟩:=hrel;by_cases hlj:j<na
    ·have hjx:j<x.length:=by rw[hxl.out];exact hlj
     have hXr:HX X wr:=hX.ext hE;have hXz:=hM.hz hXr;have hsr:Sl QV 3 (mk (mz X ao hs) wr) a1 x:=by
      obtain⟨_,_,heq,_,h3⟩:=hM.old RV.mono hrow hE (Nat.le_refl _) (fun _ _ h=>h);simp only[Value.slice.injEq]at heq;obtain⟨rfl,_,rfl⟩:=heq;exact h3
     have hmx:Hid (i<((mix m A i).set i (mix x z j)).length):=hid (by rw[List.length_set];exact hmi.out);have hjl:Hid ((mix x z j).length=na):=hid (by rw[a2o hxz.out,hxl.out]);have hOr:=hM.row i hih hmx.out;rw[List.getElem_set_self]at hOr;simp only[hhd'.out]at hOr;have hda:Hd a na:=by have:=hOr.hd;rw[hjl.out]at this;exact this
     have hun:Hid (un (cut (mz X ao hs) a) a=mz X ao hs):=hid (a6O fun k hk=>by have:=hM.mz_sub hih k;rw[hhd'.out]at this;exact this hk);have hbsep:Hid (ob a (adr ao i).block=false):=hid (by
      cases hb:ob a (adr ao i).block
      ·rfl
      ·have h1:=(hM.sep i hih (adr ao i).block (by rw[hhd'.out];exact hb)).2
       obtain⟨b0,o0,rfl⟩:=hhO (by omega);simp[ob,adr]at h1)
     have hbnew:Hid (ob a wr.heap.size=false):=hid (hOr.ob_ge (Nat.le_refl _));obtain⟨g,o,hg⟩:∃g o,adr a (j*3)=⟨g,o,none⟩:=⟨_,_,rfl⟩;have i2:∀W,(Instr.indexAt 25 (.slice ao n cap) (.int .i64 (i:Int))).run Tryz.prog W= .ok (.pointer (some (adr ao i))) W:=a0A a0o ao n cap .i64 i hhO (by omega) rfl;have i3:∀W,(Instr.indexAt 45 (.slice a na cr) (.int .i64 (j:Int))).run Tryz.prog W= .ok (.pointer (some ⟨g,o,none⟩)) W:=by rw[<-hg];exact a0h a0J a na cr .i64 j hda (by omega)
     have bx:=Bx.new wr #[.bool false, .slice none 0 0, .slice none 0 0] 32;obtain⟨Z,hZ⟩:∃Z,mz X ao hs=Z:=⟨_,rfl⟩;have hZ':=hid hZ;rw[hZ]at hXz hsr hOr hun;have hjs:Hid ((mix x z j).set j x[j]=mix x z (j+1)):=hid (a6P hxz.out hjx);have hadd0:Hid (x[j]+0=x[j]):=hid (Rat.add_zero _);have hhdr:=(hM.hdr i hih).1;rw[hhd'.out]at hhdr
     dsimp only at hhdr
     clear hZ k00;go_wp2_with (first|(with_reducible refine a1E a0J (by omega) (by assumption) ?_)|((with_reducible show wpList _ _ _ (⟨_, .load _ _,_,_,_,_⟩::_) _ _);refine a0W a0w j hsr hjx rfl (by simp) QV.agg ?_;intro u5 hu5;obtain⟨s5,a5,n5,c5,d5,k5,e5,rfl⟩:=hu5.shape)|((with_reducible show wpList _ _ _ (⟨_, .store _ _ _,_,_,_,_⟩::_) _ _);refine a0c a0w rfl rfl bx rfl rfl (a2C _ _ _ _ _ _ _) ?_;intro w5 r1 r2))
     have hE5:Ext wr w5:=ExtX.box ((ExtX.refl wr).alloc _) r2 (Nat.le_refl _);have hEd:Ext w5 w5.drew:=(ExtX.refl w5).drew;have hM5:=hM.ext0 hE5;have hO5:=hOr.ext0 QC.elem hE5;have hx5:QV (mk Z w5.drew) (.agg #[.bool s5, .slice a5 n5 c5, .slice d5 k5 e5]) x[j]:=mkx QV.mono hu5 (hE5.trans hEd);have h00:QV (mk Z w5.drew) (.agg #[.bool false, .slice none 0 0, .slice none 0 0]) 0:=(QC.zero _).qv (by rw[a1p];decide);have hXd:HX Z w5.drew:=hXz.ext (hE5.trans hEd);have hS:Hid (∀Y W',ExtX Y w5.drew W'->Y (adr ao i).block=false->Y wr.heap.size=false->W'.cell? (adr ao i)=some (.slice a na cr)/\W'.cell? ⟨wr.heap.size,0,none⟩=some (.bool s5)/\W'.cell? ⟨wr.heap.size,1,none⟩=some (.slice a5 n5 c5)/\W'.cell? ⟨wr.heap.size,2,none⟩=some (.slice d5 k5 e5)):=hid fun Y W' h hy1 hy2=>by
      have b1:=(r1.ext0 hEd).ext h hy2;exact⟨h.cellY ((hE5.trans hEd).cell hhdr) hy1,b1.cell 0 rfl,b1.cell 1 rfl,b1.cell 2 rfl⟩
     obtain⟨k20,k30,k31,k32⟩:=hS.out noY w5.drew (ExtX.refl _) rfl rfl;obtain⟨bw,hbw⟩:∃bw,wr.heap.size=bw:=⟨_,rfl⟩;rw[hbw]at hS k30 k31 k32 hbnew |-;clear hhdr r1 bx;go_wp2_with fail
     go_region_held3 (fun w'=>w'.cell? (adr ao i)=some (.slice a na cr)/\w'.cell? ⟨bw,0,none⟩=some (.bool s5)/\w'.cell? ⟨bw,1,none⟩=some (.slice a5 n5 c5)/\w'.cell? ⟨bw,2,none⟩=some (.slice d5 k5 e5))
      (first|exact hS.out noY _ t1 rfl rfl|exact hS.out (ob a) _ ((ExtX.of t1).trans hset.2) hbsep.out hbnew.out|go_keep)
      ((go_at_call 112;(with_reducible refine(b9Z Z w5.drew _ _ _ 0 hXd hx5 h00).mono ?_);rintro ee w6 ⟨t1,u6,rfl,hu6⟩;obtain⟨s6,a6,n6,c6,d6,k6,e6,rfl⟩:=hu6.shape;rw[hadd0.out]at hu6;have hO6:=hO5.ext0 QC.elem (hEd.trans t1);obtain⟨_,v0,v1,v2,_,⟨g0,f0⟩,⟨g1,f1⟩,⟨g2,f2⟩,_⟩:=hO6.cell3 j (by rw[hjl.out];exact hlj) hg;have hset:=hO6.set3 a5N QC.elem j (by rw[hjl.out];exact hlj) hg (v0:= .bool s6) (v1:= .slice a6 n6 c6) (v2:= .slice d6 k6 e6) (x:=x[j]) (by rw[hun.out];exact hu6)))
     obtain⟨q1,q2⟩:=hset;rw[hjs.out]at q1;have q2':ExtX (ob hs[i].1) w6 (((w6.setCell ⟨g,o,none⟩ (.bool s6)).setCell ⟨g,o+1,none⟩ (.slice a6 n6 c6)).setCell ⟨g,o+2,none⟩ (.slice d6 k6 e6)):=by rw[hhd'.out];exact q2
     have hM6:=hM5.ext0 (hEd.trans t1);have hM7:=hM6.upd hih (l:=mix x z (j+1)) q2' (fun hi'=>by rw[List.getElem_set_self,a2o hxz.out,a2o hxz.out]) (by rw[hZ'.out,hhd'.out];exact q1);rw[List.set_set]at hM7;have hE7:=hM6.ext_from ((hE.trans hE5).trans (hEd.trans t1)) (Nat.le_refl _) (ExtX.row hih q2');clear k20 k30 k31 k32 g0 g1 g2 f0 f1 f2 i2 i3;go_wp2_with fail
     go_roundw
     case rel=>exact⟨j+1,by go_num,by omega,hM7,hE7⟩
     case measure=>simp[intOf];omega
    ·have hjn:j=na:=by omega
     subst hjn;rw[a5w (a:=x) (b:=z) (by rw[hxl.out];exact Nat.le_refl _) (by rw[hzl.out];exact Nat.le_refl _),hfin.out]at hM;go_wp2_with fail
     go_roundw
     case rel=>exact⟨i+1,by go_num,by omega,hM,hE⟩
     case measure=>simp[intOf];omega
  ·have hin:i=n:=by omega
   subst hin;rw[a5w (by rw[hml.out];exact Nat.le_refl _) (by rw[hAl.out];exact Nat.le_refl _)]at hM;go_wp2_with fail
   go_ret
   exact⟨hE,ao,cap,hs,by rw[hml.out];rfl,hM⟩
end Go.Proofs.YtoibhmjjhgaimaaGreat
namespace Go.Rep
open Go.RowKit Go.Lim
section
variable {P:Program} {ops:Array Oper} {Q:Exit->Act->World->Prop} {rest:List Oper} {a:Act} {w:World}
variable {α:Type} {R:Mem->Value->α->Prop} {sz:Nat} {X:Nat->Bool} {base:Nat} {e:TypeId} {ao:Option Addr} {cap:Nat} {l:List α}
variable {d:Option Tmp} {ty:TypeId} {ps:String} {af:Array Edge}
theorem a5x {t:TypeId} {x:Operand} {k:Nat} (hT:a2J P t sz) (i:Nat) (h:OL R sz X base e w ao cap l) (hi:i<l.length) (hx:a.eval x= .pointer (some (adr ao k))) (hk:k=i*sz) (hag:∀h u y,R h u y->∃cs,u= .agg cs)
  (K:∀u,R (mk (un X ao) w) u l[i]->wpList P ops Q rest (a.put d u) w):
  wpList P ops Q (⟨d, .load t x,ty,ps,af,none⟩::rest) a w:=by
 refine wpList_plain rfl fun K' hK'=>?_;subst hk;obtain⟨fs,ti,h1,h2,h3⟩:=hT;obtain⟨us,p1,p2,_,p3,p5⟩:=h.cells;have hi':i<us.length:=by omega
 have h6:=p5 i hi' hi;obtain⟨cs,hcs⟩:=hag _ _ _ h6;have hsz:cs.toList.length=sz:=by have:=p2 us[i] (List.getElem_mem _);rw[hcs]at this;simpa[Value.cells]using this
 have hl:=run_loadCells_list (P:=P) w (adr ao (i*sz)) cs.toList (fun j v hj=>by
  rw[a9G];have hj1:j<sz:=by rw[<-hsz];exact(List.getElem?_eq_some_iff.1 hj).1
  have hget:=a3l us i j hi' p2 hj1;rw[hcs]at hget;have hj2:(a0g (.agg cs))[j]? =some v:=by simpa[a0g,Value.cells]using hj
  rw[hj2]at hget;exact(p3 _ _ hget).1)
 rw[hsz]at hl;unfold Oper.wp;simp[execOp,hx,Instr.loadAt,Instr.sureAddr,loadVar,isAgg,run_underlying h1,sizeOf,typeInfo,h2,h3,hl,Result.andThen];rw[hcs]at h6;exact hK' _ _ (K _ h6)
end
theorem OL.rat {R:Mem->Value->Rat->Prop} (hR:b0W R) {X:Nat->Bool} {base:Nat} {e:TypeId} {w:World} {ao:Option Addr} {cap:Nat} {l:List Rat} (h:OL R 3 X base e w ao cap l) (i:Nat) (hi:i<l.length):
  ∃g o sg a n c d k e,adr ao (i*3)=⟨g,o,none⟩/\ob ao g=true/\Hid (∀Y W',ExtX Y w W'->Y g=false->W'.cell? ⟨g,o,none⟩=some (.bool sg)/\W'.cell? ⟨g,o+1,none⟩=some (.slice a n c)/\W'.cell? ⟨g,o+2,none⟩=some (.slice d k e))/\R (mk (un X ao) w) (.agg #[.bool sg, .slice a n c, .slice d k e]) l[i]:=by
 obtain⟨b0,o0,hb0⟩:=h.hd (by omega);have hg:adr ao (i*3)=⟨b0,o0+i*3,none⟩:=by rw[hb0];rfl
 obtain⟨u,v0,v1,v2,hu,⟨h0,_⟩,⟨h1,_⟩,⟨h2,_⟩,h3⟩:=h.cell3 i hi hg;obtain⟨sg,a,n,c,d,k,e,rfl⟩:=hR _ _ _ h3;simp only[a0g,Value.cells,List.cons.injEq,and_true]at hu;obtain⟨rfl,rfl,rfl⟩:=hu;exact⟨_,_,sg,a,n,c,d,k,e,hg,by rw[hb0];simp[ob],hid fun Y W' hE hY=>⟨hE.cellY h0 hY,hE.cellY h1 hY,hE.cellY h2 hY⟩,h3⟩
end Go.Rep
namespace Go.Proofs.YtoibhmjjhgaimaaGreat
open Go.RowKit Go.Rep Go.Lim Go.Lin
def b8t (X:Nat->Bool) (w:World) (m:List (List Rat)) (e:Ending) (w':World):Prop:=Ext w w'/\∃u,e= .returned (.tuple #[u, .int .i64 0])/\MC (mk X w') u m
end Go.Proofs.YtoibhmjjhgaimaaGreat
namespace Go.Lin
open Go.Lim
theorem c1f {n c:Nat} {m:Mat} (h:Shp n c m) (hn:1<=n):a0l m=c:=by
 rw[a2g (by rw[h.1];exact hn)];exact h.2 _ (List.getElem_mem _)
theorem c1Z {n c:Nat} {m:Mat} (h:Shp n c m) (hn:n<=96) (hc:1<=c) (hc2:c<=96):a1h m=true:=by
 refine a1A.2 ⟨by rw[h.1];exact hn,fun i hi=>?_⟩;have h1:=h.2 _ (List.getElem_mem hi);refine⟨by omega,by omega,?_⟩;rw[h1,c1f h (by have:=h.1;omega)]
theorem a8p {B:Nat} {m:Mat} (h:Go.Rep.BM B m) (hB:1<=B):HB B m:=fun i j=>by
 unfold ent;by_cases hi:i<m.length
 ·have e:m.getD i []=m[i]:=by simp[List.getD_eq_getElem?_getD,hi]
  rw[e];by_cases hj:j<(m[i]).length
  ·have:=h m[i] (List.getElem_mem _) (m[i])[j] (List.getElem_mem _)
   simpa[List.getD_eq_getElem?_getD,hj]using this
  ·rw[List.getD_eq_getElem?_getD,List.getElem?_eq_none (by omega)]
   show hq 0<=B
   rw[a1p];exact hB
 ·rw[List.getD_eq_getElem?_getD (l:=m),List.getElem?_eq_none (by omega)]
  show hq 0<=B
  rw[a1p];exact hB
theorem b2g {B:Nat} {m:Mat} (h:HB B m):Go.Rep.BM B m:=fun r hr q hq=>by
 obtain⟨i,hi,rfl⟩:=List.getElem_of_mem hr;obtain⟨j,hj,rfl⟩:=List.getElem_of_mem hq;have:=h i j;simpa[ent,List.getD_eq_getElem?_getD,hi,hj]using this
end Go.Lin
namespace Go.Proofs.YtoibhmjjhgaimaaGreat
open Go.RowKit Go.Rep Go.Lim Go.Lin
end Go.Proofs.YtoibhmjjhgaimaaGreat
namespace Go.Lin
open Go.Lim
theorem sqf {k:Nat} {m:Mat} (h:Shp k k m) (hk:k<=96):a1h m=true/\a0l m=k:=by
 by_cases h0:k=0
 ·have:m= []:=List.eq_nil_of_length_eq_zero (by rw[h.1];exact h0)
  subst this;exact⟨rfl,by rw[h0];rfl⟩
 ·exact⟨c1Z h hk (by omega) hk,c1f h (by omega)⟩
theorem b8u {m:Mat} {n:Nat} (hT:b3i m n) (hn:n<=6):hq (b2y m n)<=68719476736:=by
 obtain⟨B,hB7,hBj⟩:=hT;have hBn:=hBj n (Nat.le_refl _);have h1:=b9Y (f:=fun i=>ent (eN m n).1 i i) (fun i=>hBn i i) n;have h2:n*B<=6*B:=Nat.mul_le_mul_right _ hn;unfold b2y;split
 ·rw[a4D];omega
 ·omega
theorem b8v {k B:Nat} {m:Mat} (h:Shp k k m) (hk:k<=4) (hB:Go.Rep.BM B m) (hB1:1<=B) (hBB:B<=6000):a9C m k:=by
 refine b3h h (a8p hB hB1) ?_;have:35^k<=1500625:=Nat.le_trans (Nat.pow_le_pow_right (by omega) hk) (by decide);have h2:35^k*B<=1500625*6000:=Nat.mul_le_mul this hBB;omega
def a2S (m:Mat) (n:Nat):Mat:=(List.range n).map fun i=>m.getD i []++(List.replicate n 0).set i 1
theorem a3d {m:Mat} {n:Nat} (hs:Shp n n m):Shp n (2*n) (a2S m n):=⟨by simp[a2S],fun r hr=>by
 obtain⟨i,hi,rfl⟩:=List.mem_map.1 hr;rw[List.length_append,hs.row (List.mem_range.1 hi),List.length_set,List.length_replicate];omega⟩
theorem a4c {m:Mat} {n:Nat} (hs:Shp n n m) (i:Nat) (hi:i<n) (j:Nat) (hj:j<2*n):ent (a2S m n) i j=if j<n then ent m i j else if j=n+i then 1 else 0:=by
 have hr:=hs.row hi;have e:(a2S m n).getD i []=m.getD i []++(List.replicate n 0).set i 1:=by simp[a2S,List.getD_eq_getElem?_getD,hi]
 unfold ent;rw[e,List.getD_eq_getElem?_getD];by_cases h:j<n
 ·rw[if_pos h,List.getElem?_append_left (by omega),<-List.getD_eq_getElem?_getD]
 ·rw[if_neg h,List.getElem?_append_right (by omega),hr,List.getElem?_set]
  by_cases h2:i=j - n
  ·rw[if_pos h2,if_pos (show j=n+i by omega)]
   simp[show i<n from hi]
  ·rw[if_neg h2,if_neg (show¬j=n+i by omega)]
   simp[show j - n<n by omega]
theorem b5Q {m:Mat} {n:Nat} (hs:Shp n n m):LI n (2*n) (ent (a2S m n)):=fun y hy i hi=>by
 have h1:=hy (n+i) (by omega);unfold cmb at h1;rw[a1m i hi fun q hq hqi=>by
  rw[a4c hs q hq (n+i) (by omega),if_neg (by omega),if_neg (by omega)];grind]at h1
 rw[a4c hs i hi (n+i) (by omega),if_neg (by omega),if_pos rfl]at h1;grind
theorem a7D {m:Mat} {n:Nat} (hs:Shp n n m):(a0N (a2S m n) (2*n)).2.length=n:=by
 obtain⟨h1,h2,d,h3⟩:=a0Z (a3d hs);exact(b5Q hs).full h2 h3
theorem RE.cols {n c c':Nat} {f g:F2} {d:Rat} (h:RE n c f g d) (hc:c'<=c):RE n c' f g d:=by
 induction h with
 |same h=>exact .same fun i hi j hj=>h i hi j (by omega)
 |swap i k hi hk hik h1 h2 h3=>exact .swap i k hi hk hik (fun j hj=>h1 j (by omega)) (fun j hj=>h2 j (by omega)) (fun r hr a b j hj=>h3 r hr a b j (by omega))
 |scale i a hi ha h1 h3=>exact .scale i a hi ha (fun j hj=>h1 j (by omega)) (fun r hr a j hj=>h3 r hr a j (by omega))
 |add i k a hi hk hik h1 h3=>exact .add i k a hi hk hik (fun j hj=>h1 j (by omega)) (fun r hr a j hj=>h3 r hr a j (by omega))
 |trans _ _ ih1 ih2=>exact(ih1).trans (ih2)
def a8q (m:Mat) (n:Nat):Prop:=0<n/\n<=(a0N (a2S m n) (2*n)).2.getD (n - 1) 0
theorem b1c {m:Mat} {n:Nat} (hs:Shp n n m):∃d,RE n n (ent m) (ent (a0N (a2S m n) (2*n)).1) d:=by
 obtain⟨h1,h2,d,h3⟩:=a0Z (a3d hs);refine⟨d,(h3.cols (show n<=2*n by omega)).congr fun i hi j hj=>?_⟩;rw[a4c hs i hi j (by omega),if_pos hj]
theorem b1d {m:Mat} {n:Nat} (hn:n<=4) (hs:Shp n n m):a8q m n↔b2y m n=0:=by
 rw[b5L hn hs];obtain⟨h1,h2,_,h3⟩:=a0Z (a3d hs);obtain⟨d,hd⟩:=b1c hs;have hfull:=a7D hs;have h4:=hd.det_same hn;have h5:=hd.ne;obtain⟨⟨R,p⟩,hS⟩:∃S,a0N (a2S m n) (2*n)=S:=⟨_,rfl⟩;unfold a8q;rw[hS]at h1 h2 h3 hd hfull h4 |-
 dsimp only at h1 h2 h3 hd hfull h4 |-
 by_cases h0:n=0
 ·subst h0
  constructor
  ·intro h;omega
  ·intro h;exfalso;rw[c0Q]at h;grind
 ·have hl:n - 1<p.length:=by omega
  have e:p.getD (n - 1) 0=p[n - 1]:=by simp[List.getD_eq_getElem?_getD,hl]
  rw[e];constructor
  ·rintro ⟨_,hge⟩
   have h6:det n (ent R)=0:=b0q hn _ (n - 1) (by omega) fun j hj=>h2.left (n - 1) hl j (by omega);rw[h6]at h4;rcases Rat.mul_eq_zero.1 h4.symm with h7|h7
   ·exact absurd h7 h5
   ·exact h7
  ·intro h
   refine⟨by omega,Classical.byContradiction fun hlt=>?_⟩;have hc:∀i (hi:i<p.length),p[i]<n:=fun i hi=>by
    by_cases h8:i=n - 1
    ·subst h8;omega
    ·have:=h2.inc i (n - 1) (by omega) hl;omega
   have h6:det n (ent R)=1:=by rw[a1n (h2.unit hfull hc),b0r hn]
   rw[h6,h]at h4;grind
noncomputable def a7i (m:Mat) (n:Nat):Mat:=(a0N (a2S m n) (2*n)).1.map (·.drop n)
theorem b5R {m:Mat} {n:Nat} (hs:Shp n n m) (i:Nat) (hi:i<n) (j:Nat):ent (a7i m n) i j=ent (a0N (a2S m n) (2*n)).1 i (n+j):=by
 obtain⟨h1,_⟩:=a0Z (a3d hs);have hil:i<(a0N (a2S m n) (2*n)).1.length:=by rw[h1.1];exact hi
 unfold ent a7i;simp[List.getD_eq_getElem?_getD,hil]
def a3e:F2:=fun i j=>if i=j then 1 else 0
theorem a9c {m:Mat} {n:Nat} (hs:Shp n n m) (hn:¬a8q m n):Eqm n n (ent (a0N (a2S m n) (2*n)).1) a3e:=by
 obtain⟨h1,h2,_,h3⟩:=a0Z (a3d hs);have hfull:=a7D hs;unfold a8q at hn;refine h2.unit hfull fun i hi=>?_;have hl:n - 1<(a0N (a2S m n) (2*n)).2.length:=by omega
 have e:(a0N (a2S m n) (2*n)).2.getD (n - 1) 0=(a0N (a2S m n) (2*n)).2[n - 1]:=by simp[List.getD_eq_getElem?_getD,hl]
 rw[e]at hn;by_cases h8:i=n - 1
 ·subst h8;omega
 ·have:=h2.inc i (n - 1) (by omega) hl;omega
theorem b1e (n:Nat) (f:Nat->Rat):sm (2*n) f=sm n f+sm n fun j=>f (n+j):=by
 have key:∀k,sm (n+k) f=sm n f+sm k fun j=>f (n+j):=fun k=>by
  induction k with
  |zero=>show sm n f=sm n f+0;grind
  |succ k ih=>show sm (n+k) f+f (n+k)=sm n f+(sm k _+f (n+k));rw[ih];grind
 rw[show 2*n=n+n by omega];exact key n
theorem b1f {m:Mat} {n:Nat} (hs:Shp n n m) (hn:¬a8q m n):Eqm n n (mul n (ent m) (ent (a7i m n))) a3e:=by
 obtain⟨h1,h2,d,h3⟩:=a0Z (a3d hs);have hu:=a9c hs hn;intro i hi j hj;have hn0:Nul n (2*n) (ent (a0N (a2S m n) (2*n)).1) (fun q=>if q<n then ent (a7i m n) q j else if q=n+j then -1 else 0):=fun r hr=>by
  rw[b1e];have a1:sm n (fun q=>ent (a0N (a2S m n) (2*n)).1 r q*(if q<n then ent (a7i m n) q j else if q=n+j then -1 else 0))=ent (a7i m n) r j:=by
   rw[a1m r hr fun q hq hqr=>by rw[hu r hr q hq];unfold a3e;rw[if_neg (Ne.symm hqr)];grind];rw[hu r hr r hr,if_pos hr];unfold a3e;simp
  have a2:sm n (fun q=>ent (a0N (a2S m n) (2*n)).1 r (n+q)*(if n+q<n then ent (a7i m n) (n+q) j else if n+q=n+j then -1 else 0))= - ent (a7i m n) r j:=by
   rw[a1m j hj fun q hq hqj=>by rw[if_neg (by omega),if_neg (by omega)];grind];rw[if_neg (by omega),if_pos rfl,b5R hs r hr j];grind
  rw[a1,a2];grind
 have h5:=(h3.nul _).2 hn0 i hi;rw[b1e]at h5;have a1:sm n (fun q=>ent (a2S m n) i q*(if q<n then ent (a7i m n) q j else if q=n+j then -1 else 0))=mul n (ent m) (ent (a7i m n)) i j:=a0j fun q hq=>by
  rw[a4c hs i hi q (by omega),if_pos hq,if_pos hq]
 have a2:sm n (fun q=>ent (a2S m n) i (n+q)*(if n+q<n then ent (a7i m n) (n+q) j else if n+q=n+j then -1 else 0))= - a3e i j:=by
  rw[a1m j hj fun q hq hqj=>by rw[if_neg (show¬n+q<n by omega),if_neg (show¬n+q=n+j by omega)];grind];rw[if_neg (show¬n+j<n by omega),if_pos rfl,a4c hs i hi (n+j) (by omega),if_neg (by omega)];unfold a3e;by_cases h:i=j
  ·subst h;simp
  ·rw[if_neg h,if_neg (show¬n+j=n+i by omega)];grind
 rw[a1,a2]at h5;grind
theorem a9O {m:Mat} {n:Nat} (hs:Shp n n m) (hn:¬a8q m n) (z:Nat->Rat) (hz:Nul n n (ent m) z) (i:Nat) (hi:i<n):z i=0:=by
 obtain⟨d,hd⟩:=b1c hs;have h1:=(hd.nul z).1 hz i hi;have hu:=a9c hs hn;rw[a1m i hi fun q hq hqi=>by rw[hu i hi q hq];unfold a3e;rw[if_neg (Ne.symm hqi)];grind]at h1;rw[hu i hi i hi]at h1;unfold a3e at h1;simpa using h1
theorem a9d (n:Nat) (f g h:F2) (i j:Nat):mul n f (mul n g h) i j=mul n (mul n f g) h i j:=by
 unfold mul;have e1:sm n (fun k=>f i k*sm n fun q=>g k q*h q j)=sm n fun k=>sm n fun q=>f i k*g k q*h q j:=a0j fun k _=>by
  rw[<-a1l];exact a0j fun q _=>by grind
 have e2:sm n (fun q=>(sm n fun k=>f i k*g k q)*h q j)=sm n fun q=>sm n fun k=>f i k*g k q*h q j:=a0j fun q _=>by
  rw[show(sm n fun k=>f i k*g k q)*h q j=h q j*sm n fun k=>f i k*g k q by grind,<-a1l];exact a0j fun k _=>by grind
 rw[e1,e2,a2W]
theorem b5S {m:Mat} {n:Nat} (hs:Shp n n m) (hn:¬a8q m n):Eqm n n (mul n (ent (a7i m n)) (ent m)) a3e:=by
 intro i hi j hj;have h1:=b1f hs hn;have h2:=a9O hs hn (fun q=>mul n (ent (a7i m n)) (ent m) q j - a3e q j) (fun r hr=>by
  have a1:sm n (fun q=>ent m r q*(mul n (ent (a7i m n)) (ent m) q j - a3e q j))=mul n (ent m) (mul n (ent (a7i m n)) (ent m)) r j - ent m r j:=by
   rw[a0j (g:=fun q=>ent m r q*mul n (ent (a7i m n)) (ent m) q j - ent m r q*a3e q j) fun q _=>by grind,a6u]
   congr 1
   rw[a1m j hj fun q hq hqj=>by unfold a3e;rw[if_neg hqj];grind];unfold a3e;simp
  rw[a1,a9d];have a2:mul n (mul n (ent m) (ent (a7i m n))) (ent m) r j=ent m r j:=by
   show(sm n fun q=>mul n (ent m) (ent (a7i m n)) r q*ent m q j)=_
   rw[a0j (g:=fun q=>a3e r q*ent m q j) fun q hq=>by rw[h1 r hr q hq]];rw[a1m r hr fun q hq hqr=>by unfold a3e;rw[if_neg (Ne.symm hqr)];grind];unfold a3e;simp
  rw[a2];grind) i hi
 grind
def a3f (m:Mat) (b:List Rat) (n:Nat):Mat:=(List.range n).map fun i=>m.getD i []++[b.getD i 0]
theorem a2h {m:Mat} {b:List Rat} {n c:Nat} (hs:Shp n c m):Shp n (c+1) (a3f m b n):=⟨by simp[a3f],fun r hr=>by
 obtain⟨i,hi,rfl⟩:=List.mem_map.1 hr;rw[List.length_append,hs.row (List.mem_range.1 hi)];rfl⟩
theorem b3I {m:Mat} {b:List Rat} {n i:Nat} (h:i<(a3f m b n).length) (hi:i<m.length) (hb:i<b.length):(a3f m b n)[i]=m[i]++[b[i]]:=by
 simp[a3f,hi,hb,List.getD_eq_getElem?_getD]
theorem a6Q {m:Mat} {b:List Rat} {n c:Nat} (hs:Shp n c m):Eqm n (c+1) (ent (a3f m b n)) (a7T c (ent m) fun i=>b.getD i 0):=fun i hi j hj=>by
 have hr:=hs.row hi;have e:(a3f m b n).getD i []=m.getD i []++[b.getD i 0]:=by simp[a3f,List.getD_eq_getElem?_getD,hi]
 show((a3f m b n).getD i []).getD j 0=_
 unfold a7T;rw[e,List.getD_eq_getElem?_getD];by_cases h:j=c
 ·rw[if_pos h,List.getElem?_append_right (by omega),hr];subst h;simp
 ·rw[if_neg h,List.getElem?_append_left (by omega),<-List.getD_eq_getElem?_getD];rfl
theorem b1g (k:Nat):eN [] k=([],[],false):=by
 induction k with
 |zero=>rfl
 |succ k ih=>unfold eN;rw[ih];rfl
theorem b1h (k:Nat):a0N [] k=([],[]):=by unfold a0N;rw[b1g];rfl
theorem b3J {n c:Nat} {m:Mat} (hs:Shp n c m) (c':Nat) (h:0<n->c'=c):a0N m c'=a0N m c:=by
 by_cases h0:n=0
 ·have:m= []:=List.eq_nil_of_length_eq_zero (by rw[hs.1];exact h0)
  subst this;rw[b1h,b1h]
 ·rw[h (by omega)]
theorem b3K {n c:Nat} {m:Mat} (hs:Shp n c m) (c':Nat) (h:0<n->c'=c) (hT:a9C m c):a9C m c':=by
 by_cases h0:n=0
 ·have:m= []:=List.eq_nil_of_length_eq_zero (by rw[hs.1];exact h0)
  subst this;obtain⟨B,h1,h2,_⟩:=hT;have h3:=h2 0 (Nat.zero_le _);rw[b1g]at h3;refine⟨B,h1,fun j _=>by rw[b1g];exact h3,fun t ht=>?_⟩;rw[b1g]at ht |-;have:t=0:=by simpa using ht
  subst this;exact h3
 ·rw[h (by omega)];exact hT
def sN (R:Mat) (p:List Nat) (c:Nat):Nat->List Rat
 |0=>List.replicate c 0
 |i+1=>(sN R p c i).set (p.getD i 0) (ent R i c)
theorem a9e (R:Mat) (p:List Nat) (c i:Nat):(sN R p c i).length=c:=by
 induction i with
 |zero=>exact List.length_replicate
 |succ i ih=>show((sN R p c i).set _ _).length=c;rw[List.length_set,ih]
theorem c0e {n c:Nat} {R:Mat} {p:List Nat} (hr:Rref n (c+1) (ent R) p) (i:Nat) (hi:i<=p.length) (x:Nat) (hx:x<c):(sN R p c i).getD x 0=match p.findIdx? (· ==x)with|some k=>if k<i then ent R k c else 0|none=>0:=by
 induction i with
 |zero=>
  show(List.replicate c (0:Rat)).getD x 0=_
  have:(List.replicate c (0:Rat)).getD x 0=0:=by simp[List.getD_eq_getElem?_getD,hx]
  rw[this];cases p.findIdx? (· ==x)<;>simp
 |succ i ih=>
  have hip:i<p.length:=by omega
  have hpi:p.getD i 0=p[i]:=by simp[List.getD_eq_getElem?_getD,hip]
  show((sN R p c i).set (p.getD i 0) (ent R i c)).getD x 0=_
  rw[hpi,List.getD_eq_getElem?_getD,List.getElem?_set,a9e];by_cases h:p[i]=x
  ·rw[if_pos h,if_pos (by omega),<-h,hr.idx i hip];simp
  ·rw[if_neg h,<-List.getD_eq_getElem?_getD,ih (by omega)]
   cases hf:p.findIdx? (· ==x)with
   |none=>rfl
   |some k=>
    have hk:=List.findIdx?_eq_some_iff_getElem.1 hf;obtain⟨hk1,hk2,_⟩:=hk;have hki:k≠i:=by rintro rfl;exact h (by simpa using hk2)
    dsimp only
    by_cases h2:k<i
    ·rw[if_pos h2,if_pos (by omega)]
    ·rw[if_neg h2,if_neg (by omega)]
def b8w (R:Mat) (p:List Nat) (c:Nat):List Rat:=sN R p c p.length
theorem b1i {n c:Nat} {R:Mat} {p:List Nat} (hr:Rref n (c+1) (ent R) p) (x:Nat) (hx:x<c):(b8w R p c).getD x 0=b7F (ent R) p c x:=by
 unfold b8w b7F;rw[c0e hr _ (Nat.le_refl _) x hx];cases hf:p.findIdx? (· ==x)with
 |none=>rfl
 |some k=>
  obtain⟨hk1,_⟩:=List.findIdx?_eq_some_iff_getElem.1 hf
  dsimp only
  rw[if_pos hk1]
def a8J (c:Nat) (s:Mat):Mat:=ofF c c fun j i=>ent s (i+1) j - ent s 0 j
theorem a6m (c:Nat) (s:Mat):Shp c c (a8J c s):=b2K c c _
theorem a8r (c:Nat) (s:Mat):Eqm c c (ent (a8J c s)) fun j i=>ent s (i+1) j - ent s 0 j:=b2L c c _
def a9f (s:Mat) (x:List Rat):List Rat:=List.zipWith (· - ·) x (s.getD 0 [])
theorem b5T {c:Nat} {s:Mat} {x:List Rat} (hs:Shp (c+1) c s) (hx:x.length=c) (j:Nat) (hj:j<c):(a9f s x).getD j 0=vec x j - ent s 0 j:=by
 have h0:=hs.row (show 0<c+1 by omega);unfold a9f ent vec;simp[List.getD_eq_getElem?_getD,List.getElem?_zipWith]at h0 |-;rw[List.getElem?_eq_getElem (by omega),List.getElem?_eq_getElem (by omega)];rfl
theorem b5U {c:Nat} {s:Mat} {x:List Rat} (hs:Shp (c+1) c s) (hx:x.length=c):(a9f s x).length=c:=by
 have h0:=hs.row (show 0<c+1 by omega);unfold a9f;rw[List.length_zipWith,h0,hx,Nat.min_self]
noncomputable def b8x (c:Nat) (s:Mat) (x:List Rat):Mat×List Nat:=a0N (a3f (a8J c s) (a9f s x) c) (c+1)
noncomputable def b2z (c:Nat) (s:Mat) (x:List Rat):List Rat:=b8w (b8x c s x).1 (b8x c s x).2 c
theorem b5V (c:Nat) (s:Mat) (x:List Rat):(b2z c s x).length=c:=a9e _ _ _ _
theorem b1j {n c:Nat} {s:Mat} {x:List Rat} (hs:Shp n c s) (u:Vec):(∀v∈a0t (a1a c s x),dot c u v<0)↔∀i,i<n->dot c u (fun j=>ent s i j - vec x j)<0:=by
 have key:∀i (hi:i<s.length),dot c u (vec ((List.range c).map fun j=>s[i].getD j 0 - x.getD j 0))=dot c u (fun j=>ent s i j - vec x j):=fun i hi=>by
  unfold dot;refine a0j fun j hj=>?_;rw[b0K c s[i] x j hj];have:s.getD i []=s[i]:=by simp[List.getD_eq_getElem?_getD,hi]
  show _*(vec s[i] j - vec x j)=_*((s.getD i []).getD j 0 - vec x j)
  rw[this];rfl
 constructor
 ·intro h i hi
  have hi':i<s.length:=by rw[hs.1];exact hi
  rw[<-key i hi'];refine h _ ?_;unfold a0t a1a;rw[List.map_map];exact List.mem_map.2 ⟨s[i],List.getElem_mem hi',rfl⟩
 ·intro h v hv
  unfold a0t a1a at hv;rw[List.map_map]at hv;obtain⟨r,hr,rfl⟩:=List.mem_map.1 hv;obtain⟨i,hi,rfl⟩:=List.getElem_of_mem hr
  show dot c u (vec _)<0
  rw[key i hi];exact h i (by rw[<-hs.1];exact hi)
section
variable {c k:Nat} {s:Mat} {x:List Rat} (hc3:c<=3) (hs:Shp (c+1) c s) (hx:x.length=c) (hd:b2y (a8J c s) c≠0)
include hc3 hs hx hd
omit hs in
theorem b1k:c∉(b8x c s x).2:=by
 have hm:=a6m c s;have hns:¬a8q (a8J c s) c:=fun h=>hd ((b1d (by omega) hm).1 h);obtain⟨h1,h2,d,h3⟩:=a0Z (a2h (b:=a9f s x) hm);have hu:=b1f hm hns;refine b9z h2 (h3.congr (fun i hi j hj=>(a6Q hm i hi j hj).symm)) (fun j=>sm c fun q=>ent (a7i (a8J c s) c) j q*(a9f s x).getD q 0) fun i hi=>?_;rw[a0j (g:=fun j=>sm c fun q=>(a9f s x).getD q 0*(ent (a8J c s) i j*ent (a7i (a8J c s) c) j q)) fun j _=>by
  rw[<-a1l];exact a0j fun q _=>by grind]
 rw[a2W];rw[a1m i hi fun q hq hqi=>by
  rw[a1l];have:=hu i hi q hq;unfold mul at this;rw[this];unfold a3e;rw[if_neg (Ne.symm hqi)];grind]
 rw[a1l];have:=hu i hi i hi;unfold mul at this;rw[this];unfold a3e;simp
theorem b8y (j:Nat) (hj:j<c):sm c (fun i=>(ent s (i+1) j - ent s 0 j)*vec (b2z c s x) i)=vec x j - ent s 0 j:=by
 have hm:=a6m c s;have hcons:=b1k hc3 hx hd;obtain⟨h1,h2,d,h3⟩:=a0Z (a2h (b:=a9f s x) hm);have h:=b9y h2 (h3.congr (fun i hi j hj=>(a6Q hm i hi j hj).symm)) hcons j hj;rw[b5T hs hx j hj]at h;rw[<-h];refine a0j fun i hi=>?_;rw[a8r c s j hj i hi]
 congr 1
 exact b1i h2 i hi
theorem b8z (hk:a0M c (a0t (a1a c s x)) k):0<k↔(∀i,i<c->0<=vec (b2z c s x) i)/\0<=1 - sm c (vec (b2z c s x)):=by
 have hm:=a6m c s;have hns:¬a8q (a8J c s) c:=fun h=>hd ((b1d (by omega) hm).1 h);have hw:=b8y hc3 hs hx hd;have hB:∀i,i<c->∀k,k<c->sm c (fun j=>ent (a7i (a8J c s) c) i j*(ent s (k+1) j - ent s 0 j))=if i=k then 1 else 0:=fun i hi k hk=>by
  have:=b5S hm hns i hi k hk;unfold mul at this;rw[show(if i=k then(1:Rat)else 0)=a3e i k from rfl,<-this];exact a0j fun j hj=>by rw[a8r c s j hj k hk]
 have hz:a0t (a1a c s x)≠[]:=fun h=>by
  have:=congrArg List.length h;simp[a0t,a1a,hs.1]at this
 have h0:=a7W hz hk;constructor
 ·intro hp
  apply Classical.byContradiction;intro hn;have hor:(∃i,i<c/\vec (b2z c s x) i<0)\/1 - sm c (vec (b2z c s x))<0:=by
   apply Classical.byContradiction;intro hno;refine hn ⟨fun i hi=>Rat.not_lt.1 fun e=>hno (.inl ⟨i,hi,e⟩),Rat.not_lt.1 fun e=>hno (.inr e)⟩
  obtain⟨u,hu1,hu2⟩:=b5q hw hB hor;have:=h0.2 ⟨u,(b1j hs u).2 fun i hi=>by
   match i with
   |0=>exact hu1
   |i+1=>exact hu2 i (by omega)⟩
  omega
 ·rintro ⟨h1,h2⟩
  apply Classical.byContradiction;intro hn;obtain⟨u,hu⟩:=h0.1 (by omega);have hu:=(b1j hs u).1 hu;exact b7N hw h1 h2 u ⟨hu 0 (by omega),fun i hi=>hu (i+1) (by omega)⟩
end
end Go.Lin
namespace Go.Lin
open Go.Lim
theorem a9P (m:Mat) (k:Nat):(eN m k).2.1.length<=(eN m (k+1)).2.1.length:=by
 show _<=(a5E (eN m k) k).2.1.length
 unfold a5E;split
 ·exact Nat.le_refl _
 ·split
  ·exact Nat.le_refl _
  ·simp
theorem a9Q (m:Mat) {j:Nat}:∀{c:Nat},j<=c->(eN m j).2.1.length<=(eN m c).2.1.length:=by
 intro c
 induction c with
 |zero=>
      intro h;obtain rfl:j=0:=by omega
      exact Nat.le_refl _
 |succ c ih=>
  intro h;rcases Nat.lt_or_ge j (c+1)with h1|h1
  ·exact Nat.le_trans (ih (by omega)) (a9P m c)
  ·obtain rfl:j=c+1:=by omega
   exact Nat.le_refl _
theorem b1l (m:Mat) (c:Nat):(a0N m c).2=(eN m c).2.1:=rfl
theorem a9g {n c B k:Nat} {m:Mat} (hs:Shp n c m) (h:HB B m) (hk:(a0N m c).2.length<=k) (hB:7*(35^k*B)<=68719476736):a9C m c:=by
 rw[b1l]at hk;have hle:∀j,j<=c->(eN m j).2.1.length<=k:=fun j hj=>Nat.le_trans (a9Q m hj) hk;refine⟨35^k*B,hB,fun j hj=>(h.eN hs j).mono (Nat.mul_le_mul_right _ ?_),fun t ht=>(((h.eN hs c).dN (a4z hs c).shp (a4z hs c).ech t ht)).mono ?_⟩
 ·exact Nat.le_trans (a4E 5 (by omega) (hle j hj)) (Nat.pow_le_pow_left (by omega) k)
 ·rw[<-Nat.mul_assoc]
  refine Nat.mul_le_mul_right _ ?_;rw[show(35:Nat)=7*5 from rfl,Nat.mul_pow];exact Nat.mul_le_mul (a4E 7 (by omega) (Nat.le_trans ht hk)) (a4E 5 (by omega) hk)
theorem a9h {n c B k:Nat} {m:Mat} (h:HB B m) (hs:Shp n c m) (hk:(a0N m c).2.length<=k):HB (35^k*B) (a0N m c).1:=by
 rw[b1l]at hk;refine((h.eN hs c).dN (a4z hs c).shp (a4z hs c).ech _ (Nat.le_refl _)).mono ?_;rw[<-Nat.mul_assoc];refine Nat.mul_le_mul_right _ ?_;rw[show(35:Nat)=7*5 from rfl,Nat.mul_pow];exact Nat.mul_le_mul (a4E 7 (by omega) hk) (a4E 5 (by omega) hk)
theorem a1L {n c:Nat} {m:Mat} (hs:Shp n c m):(a0N m c).2.length<=c:=by
 have hr:=(a0Z hs).2.1;have hlt:=hr.lt;have hinc:=hr.inc;generalize (a0N m c).2=p at hlt hinc;have key:∀i (hi:i<p.length),i<=p[i]:=by
  intro i
  induction i with
  |zero=>intro _;exact Nat.zero_le _
  |succ i ih=>intro hi;have:=ih (by omega);have:=hinc i (i+1) (by omega) hi;omega
 rcases Nat.eq_zero_or_pos p.length with h|h
 ·omega
 ·have:=key (p.length - 1) (by omega)
  have:=hlt (p.length - 1) (by omega);omega
theorem a3o {n c:Nat} {m:Mat} (hs:Shp n c m):(a0N m c).2.length<=n:=(a0Z hs).2.1.le
theorem a6n {n c B k:Nat} {m:Mat} (h:HB B m) (hs:Shp n c m) (hk:(a0N m c).2.length<=k):HB (35^k*B) (a0D m c):=by
 have hr:=(a0Z hs).2.1;have hb:=a9h h hs hk;have hp:=hb.pos;intro i j;unfold ent;by_cases hi:i<(a0D m c).length
 ·rw[show(a0D m c).getD i []=(a0D m c)[i]by simp[List.getD_eq_getElem?_getD,hi]]
  by_cases hj:j<c
  ·obtain⟨q,hqe⟩:∃q,(a0D m c)[i]=(List.range c).map (nv (ent (a0N m c).1) (a0N m c).2 q):=by
    have hm:(a0D m c)[i]∈a0D m c:=List.getElem_mem _;unfold a0D a2q at hm;obtain⟨q,_,hqe⟩:=List.mem_map.1 hm;exact⟨q,hqe.symm⟩
   rw[hqe];have:(List.map (nv (ent (a0N m c).1) (a0N m c).2 q) (List.range c)).getD j 0=nv (ent (a0N m c).1) (a0N m c).2 q j:=by
    simp[List.getD_eq_getElem?_getD,hj]
   rw[this];unfold nv;split
   ·have:hq (1:Rat)<=1:=by decide+kernel
    omega
   ·split
    ·rw[a4D];exact hb _ _
    ·rw[a1p];exact hp
  ·have hl:(a0D m c)[i].length=c:=a2s _ (List.getElem_mem _)
   have:(a0D m c)[i].getD j 0=0:=by rw[List.getD_eq_getElem?_getD,List.getElem?_eq_none (by omega)];rfl
   rw[this,a1p];exact hp
 ·have:(a0D m c).getD i []= []:=by rw[List.getD_eq_getElem?_getD,List.getElem?_eq_none (by omega)];rfl
  rw[this];have:([]:List Rat).getD j 0=0:=rfl;rw[this,a1p];exact hp
theorem HB.app {B:Nat} {a b:Mat} (ha:HB B a) (hb:HB B b):HB B (a++b):=by
 intro i j;unfold ent;by_cases hi:i<a.length
 ·rw[show(a++b).getD i []=a.getD i []by simp[List.getD_eq_getElem?_getD,List.getElem?_append_left hi]];exact ha i j
 ·rw[show(a++b).getD i []=b.getD (i - a.length) []by simp[List.getD_eq_getElem?_getD,List.getElem?_append_right (Nat.le_of_not_lt hi)]];exact hb _ j
open Go.Rep
def a6R {α:Type} (m:List (List α)) (lo hi:Nat):Bool:=decide (∀i (h:i<m.length),m[i].length=a0l m/\lo<=m[i].length/\m[i].length<=hi)
theorem a4t {α:Type} {m:List (List α)} {lo hi:Nat}:a6R m lo hi=true↔∀i (h:i<m.length),m[i].length=a0l m/\lo<=m[i].length/\m[i].length<=hi:=by unfold a6R;simp
theorem a9R {α:Type} {m:List (List α)} {lo hi:Nat} (i:Nat) (h:i<m.length) (hn:¬(m[i].length=a0l m/\lo<=m[i].length/\m[i].length<=hi)):false=a6R m lo hi:=by
 symm;cases hs:a6R m lo hi
 ·rfl
 ·exact absurd (a4t.1 hs i h) hn
def a2k {α:Type} (m:List (List α)):Bool:=decide (1<=m.length)&&(decide (m.length<=64)&&a6R m 1 3)
theorem a0L {α:Type} {m:List (List α)}:a2k m=true↔1<=m.length/\m.length<=64/\1<=a0l m/\a0l m<=3/\∀i (h:i<m.length),m[i].length=a0l m:=by
 unfold a2k;simp only[Bool.and_eq_true,decide_eq_true_eq,a4t];constructor
 ·rintro ⟨h1,h2,h3⟩
  have h4:=h3 0 (by omega);exact⟨h1,h2,by omega,by omega,fun i h=>(h3 i h).1⟩
 ·rintro ⟨h1,h2,h3,h4,h5⟩
  exact⟨h1,h2,fun i h=>⟨h5 i h,by rw[h5 i h];exact h3,by rw[h5 i h];exact h4⟩⟩
theorem b1m {m:Mat} (h:a2k m=true):Shp m.length (a0l m) m:=by
 refine⟨rfl,fun r hr=>?_⟩;obtain⟨i,hi,rfl⟩:=List.getElem_of_mem hr;exact(a0L.1 h).2.2.2.2 i hi
theorem a4u {m:Mat} (h:a2k m=true):∀r∈m,r.length=a0l m:=(b1m h).2
end Go.Lin
namespace Go.Proofs.YtoibhmjjhgaimaaGreat
open Go.RowKit Go.Rep Go.Lim Go.Lin
set_option maxRecDepth 100000 in
theorem a9i {R:Mem->Value->Rat->Prop} (X:Nat->Bool) (w:World) (u:Value) (m:List (List Rat)) (lo hi:Nat) (hu:SlV (SlV R 3) 1 (mk X w) u m) (hl:m.length<=1099511627776):Calls Tryz.prog 105 #[u, .int .i64 (lo:Int), .int .i64 (hi:Int)] w (fun e w'=>w'=w/\e= .returned (.bool (a6R m lo hi))):=by
 obtain⟨ao,ca,rfl,hca,hsa⟩:=hu;have hha:=hsa.hd;go_enter Tryz.func105,Tryz.ntmps105
 go_wp2_with fail
 go_loop [11] (fun c=>∃(i:Nat),c= .int .i64 i/\i<=m.length/\Hid (∀q,q<i->∀hq:q<m.length,m[q].length=a0l m/\lo<=m[q].length/\m[q].length<=hi)) (fun c=>m.length - (intOf c).toNat)
 case atStart=>exact⟨0,rfl,Nat.zero_le _,fun q hq=>by omega⟩
 case round=>
  obtain⟨i,rfl,hi',hok⟩:=hrel;by_cases hlt:i<m.length
  ·have h0:0<m.length:=by omega
   obtain⟨a1,c1,hX1,hc1,hcl1,hq1⟩:=hsa.row i hlt;obtain⟨a2,c2,hX2,hc2,hcl2,hq2⟩:=hsa.row 0 h0;have k00:=hc1.out noY w (ExtX.refl _) rfl;have k10:=hc2.out noY w (ExtX.refl _) rfl;have hcol:=a2g h0;have hno:=hid (a9R (lo:=lo) (hi:=hi) i hlt);rw[<-hcol]at k10;obtain⟨x,hx⟩:∃x,m[i].length=x:=⟨_,rfl⟩;obtain⟨y,hy⟩:∃y,a0l m=y:=⟨_,rfl⟩;rw[hx]at k00 hno;rw[hy]at k10 hno;have hst:Hid (x=y/\lo<=x/\x<=hi->∀hq:i<m.length,m[i].length=a0l m/\lo<=m[i].length/\m[i].length<=hi):=hid fun h hq=>by rw[hx,hy];exact h
   clear hx hy hcol hc1 hc2 hq1 hq2 hcl1 hcl2;by_cases hxy:x=y
   ·have d2:((x:Int) !=(y:Int))=false:=a6k (by omega)
    by_cases hx0:x<lo
    ·have d0:(x:Int)<(lo:Int):=by omega
     have hv:=hid (hno.out (by omega));clear hxy;go_wp2_with (with_reducible refine a0n a0o (by omega) (by assumption) ?_)
     go_ret
     exact⟨rfl,a0p hv.out⟩
    ·have d0:¬(x:Int)<(lo:Int):=by omega
     by_cases hx1:hi<x
     ·have d1:(hi:Int)<(x:Int):=by omega
      have hv:=hid (hno.out (by omega));clear hxy;go_wp2_with (with_reducible refine a0n a0o (by omega) (by assumption) ?_)
      go_ret
      exact⟨rfl,a0p hv.out⟩
     ·have d1:¬(hi:Int)<(x:Int):=by omega
      have hst2:=hid (hst.out ⟨hxy,by omega,by omega⟩);clear hxy;go_wp2_with (with_reducible refine a0n a0o (by omega) (by assumption) ?_)
      go_round
      case rel=>exact⟨i+1,by go_num,by omega,a3V hok.out hst2.out⟩
      case measure=>simp[intOf];omega
   ·have d2:((x:Int) !=(y:Int))=true:=a5C (by omega)
    have hv:=hid (hno.out (by omega));clear hxy;go_wp2_with (with_reducible refine a0n a0o (by omega) (by assumption) ?_)
    go_ret
    exact⟨rfl,a0p hv.out⟩
  ·have hv:Hid (true=a6R m lo hi):=hid (by
    symm;exact a4t.2 fun q hq=>hok.out q (by omega) hq)
   go_wp2_with fail
   go_ret
   exact⟨rfl,a0p hv.out⟩
theorem a4R {R:Mem->Value->Rat->Prop} (X:Nat->Bool) (w:World) (u:Value) (m:List (List Rat)) (hu:SlV (SlV R 3) 1 (mk X w) u m) (hl:m.length<=1099511627776):Calls Tryz.prog 61 #[u] w (fun e w'=>w'=w/\e= .returned (.bool (a2k m))):=by
 have hsa:=a9i X w u m 1 3 hu hl;obtain⟨ao,ca,rfl,hca,_⟩:=hu;by_cases h1:m.length<1
 ·have d1:¬(1:Int)<=(m.length:Int):=by omega
  have hv:Hid (false=a2k m):=hid (by unfold a2k;rw[decide_eq_false (by omega)];rfl);go_enter Tryz.func61,Tryz.ntmps61
  go_wp2_with fail
  go_ret
  exact⟨rfl,a0p hv.out⟩
 ·have d1:(1:Int)<=(m.length:Int):=by omega
  by_cases h2:m.length<=64
  ·have d2:(m.length:Int)<=64:=by omega
   have hv:Hid (a6R m 1 3=a2k m):=hid (by unfold a2k;rw[decide_eq_true h2,decide_eq_true (by omega)];rfl);go_enter Tryz.func61,Tryz.ntmps61
   go_wp2_with fail
   refine hsa.mono ?_;rintro e w1 ⟨rfl,rfl⟩;go_wp2_with fail
   go_ret
   exact⟨rfl,a0p hv.out⟩
  ·have d2:¬(m.length:Int)<=64:=by omega
   have hv:Hid (false=a2k m):=hid (by unfold a2k;rw[decide_eq_false h2,Bool.false_and,Bool.and_false]);go_enter Tryz.func61,Tryz.ntmps61
   go_wp2_with fail
   go_ret
   exact⟨rfl,a0p hv.out⟩
theorem b3L {R:Mem->Value->Rat->Prop} (X:Nat->Bool) (w:World) (u:Value) (m:List (List Rat)) (xo:Option Addr) (xl xc:Nat) (hu:SlV (SlV R 3) 1 (mk X w) u m) (hl:m.length<=1099511627776):Calls Tryz.prog 221 #[u, .slice xo xl xc] w (fun e w'=>w'=w/\e= .returned (.bool (a2k m&&decide (xl=a0l m)))):=by
 have hpo:=a4R X w u m hu hl;obtain⟨ao,ca,rfl,hca,hsa⟩:=hu;have hha:=hsa.hd;cases hp:a2k m
 ·rw[hp]at hpo
  clear hp;go_enter Tryz.func221,Tryz.ntmps221
  go_wp2_with fail
  refine hpo.mono ?_;rintro e w1 ⟨rfl,rfl⟩;go_wp2_with fail
  go_ret
  exact⟨rfl,rfl⟩
 ·have h0:0<m.length:=by have:=(a0L.1 hp).1;omega
  rw[hp]at hpo;obtain⟨a2,c2,hX2,hc2,hcl2,hq2⟩:=hsa.row 0 h0;have k10:=hc2.out noY w (ExtX.refl _) rfl;have hcol:=a2g h0;rw[<-hcol]at k10;obtain⟨y,hy⟩:∃y,a0l m=y:=⟨_,rfl⟩;rw[hy]at k10 |-;clear hp hcol hy hc2 hq2 hcl2;by_cases hxy:xl=y
  ·have d2:((xl:Int)==(y:Int))=true:=a7w (by omega)
   have hv:Hid (true=(true&&decide (xl=y))):=hid (by rw[decide_eq_true hxy];rfl);clear hxy;go_enter Tryz.func221,Tryz.ntmps221
   go_wp2_with fail
   refine hpo.mono ?_;rintro e w1 ⟨rfl,rfl⟩;go_wp2_with (with_reducible refine a0n a0o (by omega) (by assumption) ?_)
   go_ret
   exact⟨rfl,a0p hv.out⟩
  ·have d2:((xl:Int)==(y:Int))=false:=a1S (by omega)
   have hv:Hid (false=(true&&decide (xl=y))):=hid (by rw[decide_eq_false hxy];rfl);clear hxy;go_enter Tryz.func221,Tryz.ntmps221
   go_wp2_with fail
   refine hpo.mono ?_;rintro e w1 ⟨rfl,rfl⟩;go_wp2_with (with_reducible refine a0n a0o (by omega) (by assumption) ?_)
   go_ret
   exact⟨rfl,a0p hv.out⟩
end Go.Proofs.YtoibhmjjhgaimaaGreat
namespace Go.Lin
open Go.Lim Go.Rep
theorem brD {D:Nat} {x:List Rat} (hx:BR D x) (hD:1<=D) (q:Nat):hq (x.getD q 0)<=D:=by
 rw[List.getD_eq_getElem?_getD];by_cases h:q<x.length
 ·rw[List.getElem?_eq_getElem h];exact hx _ (List.getElem_mem _)
 ·rw[List.getElem?_eq_none (by omega)];simp[a1p,hD]
theorem a4S {B C:Nat} {l m:List Rat} (hl:BR B l) (hm:BR C m) (hB:1<=B) (hC:1<=C) (hB2:1+l.length*(B+C+1)<=68719476736):
  (∀k,k<=l.length->hq (a6j l m k)<=68719476736)/\∀k,k<l.length->hq (l.getD k 0*m.getD k 0)<=68719476736:=by
 have g:∀{D:Nat} {x:List Rat},BR D x->1<=D->∀q,hq (x.getD q 0)<=D:=fun hx hD q=>brD hx hD q;have hp:∀k,hq (l.getD k 0*m.getD k 0)<=B+C:=fun k=>by
  have:=hq_mul (l.getD k 0) (m.getD k 0);have:=g hl hB k;have:=g hm hC k;omega
 have hd:∀k,hq (a6j l m k)<=1+k*(B+C+1):=fun k=>by
  induction k with
  |zero=>simp[a6j,a1p]
  |succ k ih=>
   have:=b0Q (a6j l m k) (l.getD k 0*m.getD k 0);have:=hp k
   show hq (a6j l m k+l.getD k 0*m.getD k 0)<=_
   rw[Nat.succ_mul];omega
 refine⟨fun k hk=>Nat.le_trans (hd k) (Nat.le_trans (Nat.add_le_add_left (Nat.mul_le_mul_right _ hk) 1) hB2),fun k hk=>?_⟩;have:=hp k;have:B+C+1<=l.length*(B+C+1):=Nat.le_mul_of_pos_left _ (by omega);omega
theorem a9S {c:Nat} {u z:List Rat} (hu:u.length=c):b0X u z=dot c (vec u) (vec z):=by
 unfold b0X;rw[b8o,hu];rfl
theorem b5W {B:Nat} {p:Mat} {x:List Rat} {c:Nat} (hp:BM B p) (hx:BR B x) (hB:1<=B):BM (2*B+1) (a1a c p x):=by
 have g:∀{x:List Rat},BR B x->∀q,hq (x.getD q 0)<=B:=fun hx q=>brD hx hB q;intro r hr q hq';unfold a1a at hr;obtain⟨s,hs,rfl⟩:=List.mem_map.1 hr;obtain⟨j,hj,rfl⟩:=List.mem_map.1 hq';have:=a6F (s.getD j 0) (x.getD j 0);have:=g (hp s hs) j;have:=g hx j;omega
theorem a1y (x:Rat):(0<x/\x.num.sign=1)\/(x=0/\x.num.sign=0)\/(x<0/\x.num.sign= -1):=by
 have hn:0<=x.num↔0<=x:=Rat.num_nonneg;have hz:x.num=0↔x=0:=Rat.num_eq_zero;rcases Int.lt_trichotomy x.num 0 with h|h|h
 ·refine .inr (.inr ⟨?_,Int.sign_eq_neg_one_of_neg h⟩)
  have:¬0<=x:=fun h2=>by have:=hn.2 h2;omega
  grind
 ·exact .inr (.inl ⟨hz.1 h,by rw[h];rfl⟩)
 ·refine .inl ⟨?_,Int.sign_eq_one_of_pos h⟩
  have h1:0<=x:=hn.1 (by omega);have h2:¬x=0:=fun h2=>by have:=hz.2 h2;omega
  grind
def b5X (p:Mat) (y:List Rat) (us:Mat):Bool:=a2k p&&(decide (y.length=a0l p)&&decide (∀i (h:i<us.length),us[i].length=y.length))
noncomputable def c1K (p:Mat) (y:List Rat) (us:Mat):Nat:=if b5X p y us then b0w (a0l p) (a0t us) (a0t (a1a (a0l p) p y))else 0
def okE (b:Bool):Int:=if b then 0 else 6
end Go.Lin
namespace Go.Lim
def a0s:Nat->Nat->Int->List (List Int)
 |_,0,_=>[[]]
 |0,_+1,_=>[]
 |m+1,h+1,lo=>(a0s m h (lo+1)).map (lo:: ·)++a0s m (h+1) (lo+1)
theorem a0Y:∀(m h:Nat) (lo:Int),(a0s m h lo).length=ch m h
 |m,0,lo=>by rw[a3W];cases m<;>rfl
 |0,h+1,lo=>rfl
 |m+1,h+1,lo=>by rw[a0s,ch,List.length_append,List.length_map,a0Y m h,a0Y m (h+1)]
def up (lo:Int):Nat->List Int
 |0=>[]
 |k+1=>lo::up (lo+1) k
theorem a6S:∀(k:Nat) (lo:Int),(up lo k).length=k
 |0,_=>rfl
 |k+1,lo=>by rw[up,List.length_cons,a6S k]
theorem b3M:∀(k:Nat) (lo:Int) (i:Nat) (hi:i<(up lo k).length),(up lo k)[i]=lo+i
 |0,lo,i,hi=>by simp[up]at hi
 |k+1,lo,0,hi=>by simp[up]
 |k+1,lo,i+1,hi=>by
  simp only[up,List.getElem_cons_succ];rw[b3M k (lo+1) i];omega
theorem a2b (m:Nat) (lo:Int):a0s m 0 lo= [[]]:=by cases m<;>rfl
theorem a3p:∀(m h:Nat) (lo:Int),(a0s m h lo)[0]? =if h<=m then some (up lo h)else none
 |m,0,lo=>by rw[a2b];simp[up]
 |0,h+1,lo=>by simp[a0s]
 |m+1,h+1,lo=>by
  rw[a0s];have h1:=a3p m h (lo+1);by_cases hm:h<=m
  ·rw[if_pos hm]at h1
   obtain⟨hl,h2⟩:=List.getElem?_eq_some_iff.1 h1;rw[List.getElem?_append_left (by simpa using hl),List.getElem?_map,h1,if_pos (by omega)];rfl
  ·rw[if_neg hm]at h1
   have he:a0s m h (lo+1)= []:=by
    rw[List.getElem?_eq_none_iff]at h1;exact List.eq_nil_of_length_eq_zero (by omega)
   rw[he,List.map_nil,List.nil_append,a3p m (h+1),if_neg (by omega),if_neg (by omega)]
theorem a1w:∀(m h:Nat) (lo:Int) (l:List Int),l∈a0s m h lo->l.length=h/\(∀x∈l,lo<=x/\x<lo+m)/\l.Pairwise (· < ·)
 |m,0,lo,l,hl=>by
  rw[a2b,List.mem_singleton]at hl;subst hl;simp
 |0,h+1,lo,l,hl=>by simp[a0s]at hl
 |m+1,h+1,lo,l,hl=>by
  rw[a0s,List.mem_append,List.mem_map]at hl;rcases hl with⟨r,hr,rfl⟩|hl
  ·obtain⟨h1,h2,h3⟩:=a1w m h (lo+1) r hr
   refine⟨by simp[h1],fun x hx=>?_,List.pairwise_cons.2 ⟨fun x hx=>?_,h3⟩⟩
   ·rcases List.mem_cons.1 hx with rfl|hx
    ·omega
    ·have:=h2 x hx;omega
   ·have:=h2 x hx;omega
  ·obtain⟨h1,h2,h3⟩:=a1w m (h+1) (lo+1) l hl
   exact⟨h1,fun x hx=>by have:=h2 x hx;omega,h3⟩
def nxt (n:Int):List Int->Option (List Int)
 | []=>none
 |x::r=>match nxt n r with
  |some r'=>some (x::r')
  |none=>if x+r.length+1<n then some (up (x+1) (r.length+1))else none
theorem a5y:∀(m h:Nat) (lo:Int) (k:Nat) (hk:k<(a0s m h lo).length),nxt (lo+m) (a0s m h lo)[k]=(a0s m h lo)[k+1]?
 |m,0,lo,k,hk=>by
  have:(a0s m 0 lo).length=1:=by rw[a2b];rfl
  have hk0:k=0:=by omega
  subst hk0;simp[a2b,nxt]
 |0,h+1,lo,k,hk=>by simp[a0s]at hk
 |m+1,h+1,lo,k,hk=>by
  have hA:(List.map (fun x=>lo::x) (a0s m h (lo+1))).length=(a0s m h (lo+1)).length:=List.length_map ..;have e1:lo+((m+1:Nat):Int)=lo+1+m:=by omega
  rw[e1];by_cases hlt:k<(a0s m h (lo+1)).length
  ·have h1:=a5y m h (lo+1) k hlt
   have hlen:=(a1w m h (lo+1) _ (List.getElem_mem hlt)).1;simp only[a0s];rw[List.getElem_append_left (by rw[hA];exact hlt),List.getElem_map,nxt,h1];by_cases hlt2:k+1<(a0s m h (lo+1)).length
   ·rw[List.getElem?_append_left (by rw[hA];exact hlt2),List.getElem?_map,List.getElem?_eq_getElem hlt2]
    rfl
   ·rw[List.getElem?_eq_none (by omega)]
    rw[List.getElem?_append_right (by rw[hA];omega),show k+1 - (List.map (fun x=>lo::x) (a0s m h (lo+1))).length=0 by rw[hA];omega,a3p m (h+1)];simp only[hlen];by_cases hm:h+1<=m
    ·rw[if_pos hm,if_pos (by omega)]
    ·rw[if_neg hm,if_neg (by omega)]
  ·have hk':k - (a0s m h (lo+1)).length<(a0s m (h+1) (lo+1)).length:=by
    simp only[a0s,List.length_append,List.length_map]at hk;omega
   have h1:=a5y m (h+1) (lo+1) _ hk';simp only[a0s];rw[List.getElem_append_right (by rw[hA];omega),List.getElem?_append_right (by rw[hA];omega)];simp only[hA];rw[h1,show k+1 - (a0s m h (lo+1)).length=k - (a0s m h (lo+1)).length+1 by omega]
theorem a8s (n:Int):∀(l:List Int),(∀q (hq:q<l.length),l[q]=n - l.length+q)->nxt n l=none
 | [],_=>rfl
 |x::r,h=>by
  have h0:=h 0 (by simp);have hr:=a8s n r (fun q hq=>by
   have:=h (q+1) (by simpa using hq);simp only[List.getElem_cons_succ,List.length_cons]at this;rw[this];omega)
  simp only[List.getElem_cons_zero,List.length_cons]at h0;rw[nxt,hr];simp only;rw[if_neg (by omega)]
theorem b1n (n:Int):∀(l:List Int) (p:Nat) (hp:p<l.length),l[p]<n - l.length+p->(∀q (hq:q<l.length),p<q->l[q]=n - l.length+q)->nxt n l=some (l.take p++up (l[p]+1) (l.length - p))
 | [],p,hp,_,_=>by simp at hp
 |x::r,0,hp,h0,h=>by
  have hr:=a8s n r (fun q hq=>by
   have:=h (q+1) (by simpa using hq) (by omega);simp only[List.getElem_cons_succ,List.length_cons]at this;rw[this];omega)
  simp only[List.getElem_cons_zero,List.length_cons]at h0;rw[nxt,hr];simp only;rw[if_pos (by omega)];simp
 |x::r,p+1,hp,h0,h=>by
  simp only[List.getElem_cons_succ,List.length_cons]at h0;have hr:=b1n n r p (by simpa using hp) (by omega) (fun q hq hpq=>by
   have:=h (q+1) (by simpa using hq) (by omega);simp only[List.getElem_cons_succ,List.length_cons]at this;rw[this];omega)
  rw[nxt,hr];simp
theorem b3N (m h:Nat) (lo:Int):∀l∈a0s m h lo,∀q (hq:q<l.length),l[q]<=lo+m - h+q:=by
 intro l hl q hq;obtain⟨h1,h2,h3⟩:=a1w m h lo l hl;have key:∀d,q+d<l.length->l[q]+d<=l[q+d]! :=by
  intro d
  induction d with
  |zero=>intro hd;simp[getElem!_pos,hq]
  |succ d ih=>
   intro hd;have e:=ih (by omega);have e2:=List.pairwise_iff_getElem.1 h3 (q+d) (q+d+1) (by omega) (by omega) (by omega);rw[getElem!_pos l (q+d) (by omega)]at e;rw[getElem!_pos l (q+(d+1)) (by omega)];have e3:l[q+(d+1)]'(by omega)=l[q+d+1]'(by omega):=rfl;rw[e3];omega
 have e:=key (l.length - 1 - q) (by omega);rw[getElem!_pos l _ (by omega)]at e;have e2:=(h2 _ (List.getElem_mem (show q+(l.length - 1 - q)<l.length by omega))).2;omega
end Go.Lim
namespace Go.Lin
open Go.Lim Go.Rep
theorem b3O {r:List Rat} (h:∀k (hk:k<r.length),r[k]=0):a5e r=true:=by
 unfold a5e;rw[List.all_eq_true];intro x hx;obtain⟨k,hk,rfl⟩:=List.getElem_of_mem hx;simpa using h k hk
theorem b5Y {r:List Rat} {k:Nat} (hk:k<r.length) (h:r[k]≠0):a5e r=false:=by
 unfold a5e;rw[List.all_eq_false];exact⟨r[k],List.getElem_mem _,by simpa using h⟩
def a5R (d:Nat):List Rat:=(List.replicate d (0:Rat)).set 0 1
theorem a4d (d:Nat):(a5R d).length=d:=by simp[a5R]
theorem b5Z {d:Nat} (hd:0<d):nz d (vec (a5R d)):=⟨0,hd,by
 unfold vec a5R;rw[List.getD_eq_getElem?_getD,List.getElem?_eq_getElem (by simpa using hd)];simp⟩
theorem b1o (d:Nat):BR 1 (a5R d):=fun q hq'=>by
 unfold a5R at hq';rcases List.mem_or_eq_of_mem_set hq' with h|rfl
 ·rw[List.eq_of_mem_replicate h,a1p];exact Nat.le_refl _
 ·decide+kernel
end Go.Lin
namespace Go.Proofs.YtoibhmjjhgaimaaGreat
open Go.RowKit Go.Rep Go.Lim Go.Lin
set_option maxRecDepth 100000 in
theorem b3P (X:Nat->Bool) (w:World) (u:Value) (r:List Rat) (hX:HX X w) (hu:RV (mk X w) u r) (hl:r.length<=1000):Calls Tryz.prog 254 #[u] w (a7A w (a5e r)):=by
 obtain⟨ao,ca,rfl,hca,hsa⟩:=hu;have hha:=hsa.hd;obtain⟨c,hc⟩:∃c,r.length=c:=⟨_,rfl⟩;have hc':=hid hc;have hno:=hid (fun(h:∀k (hk:k<r.length),r[k]=0)=>(b3O h).symm);have hye:=hid (fun k (hk:k<r.length) (h:r[k]≠0)=>(b5Y hk h).symm);rw[hc]at hl hca hha |-;clear hc;go_enter Tryz.func254,Tryz.ntmps254
 go_wp2_with fail
 go_loopw [7] (fun cc wr=>∃j:Nat,cc= .int .i64 j/\j<=c/\Hid (∀k (hk:k<r.length),k<j->r[k]=0)/\Ext w wr) (fun cc _=>c - (intOf cc).toNat)
 case atStart=>exact⟨0,rfl,Nat.zero_le _,hid (fun p hp h=>by omega),ExtX.refl _⟩
 case round=>
  obtain⟨j,rfl,hj,hzj,hEj⟩:=hrel;by_cases hlj:j<c
  ·have hjr:j<r.length:=by rw[hc'.out];exact hlj
   have hq2:=hsa.mono QV.mono (a0m hEj);have hXr:=hX.ext hEj;have bx:=Bx.new wr #[.bool false, .slice none 0 0, .slice none 0 0] 32;have hye2:=hid (hye.out j hjr);have hzj2:Hid (r[j]=0->∀k (hk:k<r.length),k<j+1->r[k]=0):=hid fun h k hk hkj=>by
    by_cases e:k=j
    ·subst e;exact h
    ·exact hzj.out k hk (by omega)
   go_wp2_with (first|(with_reducible refine a1E a0J (by omega) (by assumption) ?_)|((with_reducible show wpList _ _ _ (⟨_, .load 32 _,_,_,_,_⟩::_) _ _);refine a0W a0w j hq2 hjr rfl (by simp) QV.agg ?_;intro u5 hu5;obtain⟨s5,a5,n5,c5,d5,m5,e5,rfl⟩:=hu5.shape)|((with_reducible show wpList _ _ _ (⟨_, .store _ _ _,_,_,_,_⟩::_) _ _);refine a0c a0w rfl rfl bx rfl rfl (a2C _ _ _ _ _ _ _) ?_;intro w5 r1 r2;have hE5:Ext wr w5:=ExtX.box ((ExtX.refl wr).alloc _) r2 (Nat.le_refl _);have k10:=r1.cell 0 rfl;have k11:=r1.cell 1 rfl;have k12:=r1.cell 2 rfl;have hX5:=hXr.ext hE5;have hu6:=mkx QV.mono hu5 hE5))
   refine(a5P X _ _ _ hX5 hu6).mono ?_;rintro e w7 ⟨hE7,rfl⟩;have hE9:=hEj.trans (hE5.trans hE7);clear k10 k11 k12;rcases a1y r[j]with⟨hs,hsg⟩|⟨hs,hsg⟩|⟨hs,hsg⟩
   ·have hv:=hid (hye2.out (by intro h;rw[h]at hs;exact absurd hs (by grind)))
    rw[hsg];clear hs hsg;go_wp2_with fail
    go_ret
    exact⟨hE9,a0p hv.out⟩
   ·have hnx:=hid (hzj2.out hs)
    rw[hsg];clear hs hsg;go_wp2_with fail
    go_roundw
    case rel=>exact⟨j+1,by go_num,by omega,hnx,hE9⟩
    case measure=>simp[intOf];omega
   ·have hv:=hid (hye2.out (by intro h;rw[h]at hs;exact absurd hs (by grind)))
    rw[hsg];clear hs hsg;go_wp2_with fail
    go_ret
    exact⟨hE9,a0p hv.out⟩
  ·have hv:=hid (hno.out fun k hk=>hzj.out k hk (by rw[hc'.out]at hk;omega))
   go_wp2_with fail
   go_ret
   exact⟨hEj,a0p hv.out⟩
set_option maxRecDepth 100000 in
theorem b3Q (X:Nat->Bool) (w:World) (d:Nat) (hX:HX X w) (hd:0<d) (hd2:d<=1000):Calls Tryz.prog 255 #[.int .i64 (d:Int)] w (a1Z X w RC (a5R d)):=by
 go_enter Tryz.func255,Tryz.ntmps255
 go_wp2_with ((with_reducible show wpList _ _ _ (⟨_, .makeSlice _ _ _,_,_,_,_⟩::_) _ _);refine a1F (R:=QC) a0J QC.elem (0:Rat) (fun _=>QC.zero _) X hX w.heap.size (Nat.le_refl _) d rfl rfl rfl (by omega) (by omega) ?_;intro xo w5 hO5 hE5)
 have hxd:Hd xo d:=by have:=hO5.hd;rw[List.length_replicate]at this;exact this
 have hX5:=hX.ext hE5;have hXu5:HX (un X xo) w5:=hO5.unX hX5;have hv1:Hid ((((1:Int):Rat))=1):=hid rfl;refine(b2e (un X xo) w5 1 hXu5 (by decide) (by decide)).mono ?_;rintro e w6 ⟨hE6,u6,rfl,hu6⟩;rw[hv1.out]at hu6;have hO6:=hO5.ext0 QC.elem hE6;go_wp2_with (first|(with_reducible refine a1E a0J (by omega) (by assumption) ?_)|((with_reducible show wpList _ _ _ (⟨_, .store _ _ _,_,_,_,_⟩::_) _ _);refine a1O a5N QC.elem 0 rfl (by simp) hO6 (by simpa using hd) _ 1 rfl hu6 ?_;intro w7 hO7 hE7))
 have hE57:Ext w w7:=(hE5.trans hE6).own hO6 (Nat.le_refl _) hE7;have hc7:=hO7.lenCap;have hlen:((List.replicate d (0:Rat)).set 0 1).length=d:=by simp
 rw[hlen]at hc7;have hs7:=hO7.sl QC.elem;go_ret
 exact⟨hE57,_,rfl,xo,d,by rw[a4d];rfl,by rw[a4d];exact hc7,hs7⟩
end Go.Proofs.YtoibhmjjhgaimaaGreat
namespace Go.Lin
open Go.Lim Go.Rep
def a0B (z:Mat) (s:List Int):Mat:=s.map fun i=>z.getD i.toNat []
theorem a1M (z:Mat) (s:List Int):(a0B z s).length=s.length:=by simp[a0B]
theorem a6T {z:Mat} {s:List Int} {j:Nat} (hj:j<(a0B z s).length) (hs:j<s.length) {i:Nat} (hi:i<z.length) (h:s[j]=(i:Int)):(a0B z s)[j]=z[i]:=by
 simp[a0B,h,List.getD_eq_getElem?_getD,hi]
theorem a2u {z:Mat} {s:List Int} (hb:∀x∈s,0<=x/\x<(z.length:Int)):∀r∈a0B z s,r∈z:=fun r hr=>by
 unfold a0B at hr;obtain⟨x,hx,rfl⟩:=List.mem_map.1 hr;have:=hb x hx;have hl:x.toNat<z.length:=by omega
 rw[show z.getD x.toNat []=z[x.toNat]by simp[List.getD_eq_getElem?_getD,hl]];exact List.getElem_mem _
end Go.Lin
namespace Go.Proofs.YtoibhmjjhgaimaaGreat
open Go.RowKit Go.Rep Go.Lim Go.Lin
def a9T (X:Nat->Bool) (w:World) (m:Mat) (e:Ending) (w':World):Prop:=Ext w w'/\∃(ao:Option Addr) (cap:Nat),e= .returned (.slice ao m.length cap)/\OL RV 1 X w.heap.size 45 w' ao cap m
set_option maxRecDepth 100000 in
theorem a9j (X:Nat->Bool) (w:World) (u:Value) (z:Mat) (ro:Option Addr) (s:List Int) (rc:Nat) (hX:HX X w) (hu:MV (mk X w) u z) (hs:Sl (a0x .i64) 1 w.cell? ro s) (hb:∀x∈s,0<=x/\x<(z.length:Int)) (hl:s.length<=1000):Calls Tryz.prog 101 #[u, .slice ro s.length rc] w (a9T X w (a0B z s)):=by
 rw[<-a2T]at hs;obtain⟨ao,ca,rfl,hca,hsa⟩:=hu;have hha:=hsa.hd;have hhs:=hs.hd;obtain⟨M,hM⟩:∃M,a0B z s=M:=⟨_,rfl⟩;have hMl:M.length=s.length:=by rw[<-hM];exact a1M z s
 have hMi:=hid (show∀j (h1:j<M.length) (h2:j<s.length) (i:Nat) (h3:i<z.length),s[j]=(i:Int)->M[j]=z[i]from fun j h1 h2 i h3 h=>by subst hM;exact a6T h1 h2 h3 h);rw[hM];have hb':=hid hb;obtain⟨n,hn⟩:∃n,z.length=n:=⟨_,rfl⟩;have hn':=hid hn;obtain⟨k,hk⟩:∃k,s.length=k:=⟨_,rfl⟩;have hk':=hid hk;rw[hk]at hhs hl hMl |-;rw[hn]at hha hca |-;have hMl':=hid hMl;have hMl1:M.length<=k:=by omega
 have hMl2:k<=M.length:=by omega
 clear hM hb hn hk hMl;go_enter Tryz.func101,Tryz.ntmps101
 go_wp2_with fail
 go_loopw [5,10] (fun o cc wr=>∃(i:Nat) (oo:Option Addr) (co:Nat),cc= .int .i64 i/\o= .slice oo i co/\i<=k/\OL RV 1 X w.heap.size 45 wr oo co (M.take i)/\Ext w wr) (fun _ cc _=>k - (intOf cc).toNat)
 case atStart=>exact⟨0,none,0,rfl,rfl,Nat.zero_le _,OL.nil _ _ _ _ _ _,ExtX.refl _⟩
 case round=>
  obtain⟨i,oo,co,rfl,rfl,hi,hO,hE⟩:=hrel;have hXr:HX X wr:=hX.ext hE;have hbase:=hE.size;by_cases hlt:i<k
  ·have his:i<s.length:=by rw[hk'.out];exact hlt
   have hiM:i<M.length:=by omega
   have htk:=hid (a0S M i hiM);have hln:=hid (a1e (l:=M) (i:=i) (by omega));have hc:=(hs.mono (a0x.mono _) (a0m hE)).int i his;obtain⟨h1,h2⟩:=hb'.out s[i] (List.getElem_mem _);obtain⟨q,hq⟩:=Int.eq_ofNat_of_zero_le h1;rw[hn'.out]at h2;have hqn:q<n:=by omega
   have hqz:q<z.length:=by rw[hn'.out];exact hqn
   have hMq:=hMi.out i hiM his q hqz hq;rw[hq]at hc;have hsr:Sl RV 1 (mk (un X oo) wr) ao z:=hsa.old RV.mono hE (fun j hj=>hO.ob_lt hj);obtain⟨a1,c1,hX1,hc1,hcl1,hq1⟩:=hsr.row q hqz;have k00:=hc1.out noY wr (ExtX.refl _) rfl;obtain⟨r,hr⟩:∃r,z[q]=r:=⟨_,rfl⟩;rw[hr]at k00 hcl1 hq1 hMq;rw[hMq]at htk;have hRV:RV (mk (un X oo) wr) (.slice a1 r.length c1) r:=⟨a1,c1,rfl,hcl1,hq1⟩;obtain⟨d,hd⟩:∃d,r.length=d:=⟨_,rfl⟩;rw[hd]at k00 hRV;clear hr hc1 hcl1 hq1 hMq hd h1 h2 hq;go_wp2_with (first
    |(with_reducible refine a0n a1G (by omega) (by assumption) ?_)
    |(with_reducible refine a0n a0o (by omega) (by assumption) ?_)
    |(at_builtin;refine a0r (l:=M.take i) a0o rfl RV.elem hbase hXr i hln.out rfl rfl hO (.slice a1 d c1) r rfl hRV (by omega) (by omega) ?_;intro oo2 co2 w7 hO7 hE7 hor))
   have hE8:=hE.own hO (Nat.le_refl _) hE7;rw[htk.out]at hO7;go_roundw
   case rel=>exact⟨i+1,oo2,co2,by go_num,by go_num,by omega,hO7,hE8⟩
   case measure=>simp[intOf];omega
  ·have hil:i=k:=by omega
   subst hil;rw[List.take_of_length_le (by omega)]at hO;go_wp2_with fail
   go_ret
   exact⟨hE,oo,co,by rw[hMl'.out];rfl,hO⟩
end Go.Proofs.YtoibhmjjhgaimaaGreat
namespace Go.Lim
theorem a5z:∀(m h:Nat) (lo:Int) (l:List Int),l.length=h->(∀x∈l,lo<=x/\x<lo+m)->l.Pairwise (· < ·)->l∈a0s m h lo
 |m,0,lo,l,h1,_,_=>by
  have:l= []:=List.eq_nil_of_length_eq_zero h1;subst this;rw[a2b];simp
 |0,h+1,lo,l,h1,h2,_=>by
  match l,h1 with
  |x::l,_=>have:=h2 x (by simp);omega
 |m+1,h+1,lo,l,h1,h2,h3=>by
  match l,h1 with
  |x::l,h1=>
   rw[List.pairwise_cons]at h3;unfold a0s;rw[List.mem_append];by_cases hx:x=lo
   ·subst hx
    refine .inl (List.mem_map.2 ⟨l,a5z m h (x+1) l (by simpa using h1) (fun y hy=>?_) h3.2,rfl⟩);have:=h2 y (by simp[hy]);have:=h3.1 y hy;omega
   ·refine .inr (a5z m (h+1) (lo+1) (x::l) (by simpa using h1) (fun y hy=>?_) (List.pairwise_cons.2 h3))
    have:=h2 x (by simp);rcases List.mem_cons.1 hy with rfl|hy
    ·omega
    ·have:=h2 y (by simp[hy]);have:=h3.1 y hy;omega
end Go.Lim
namespace Go.Lin
open Go.Lim Go.Rep
theorem a4e {z:Mat} {s:List Int} (hb:∀x∈s,0<=x/\x<(z.length:Int)):a0t (a0B z s)=a2I (a0t z) (s.map Int.toNat):=by
 unfold a0t a0B a2I;rw[List.map_map,List.map_map];refine List.map_congr_left fun x hx=>?_;have:=hb x hx;have hl:x.toNat<z.length:=by omega
 simp[List.getD_eq_getElem?_getD,hl]
def Bd (c:Nat) (z:Mat) (cnt:Nat) (x:Vec):Prop:=∀l,a0M c (onL c x (a0t z)) l->cnt<=a5a c x (a0t z)+l
theorem Bd.le {c cnt n:Nat} {z:Mat} {x:Vec} (h:Bd c z cnt x) (hn:n<=cnt):Bd c z n x:=fun l hl=>Nat.le_trans hn (h l hl)
theorem Bd.congr {c cnt:Nat} {z:Mat} {x y:Vec} (h:Bd c z cnt x) (he:∀j,j<c->x j=y j):Bd c z cnt y:=fun l hl=>by
 obtain⟨h1,h2,_⟩:=a3H he (a0t z);have:=h l (by rw[h2];exact hl);rwa[h1]at this
def sgL (s:Int) (l:List Rat):List Rat:=l.map fun x=>(s:Rat)*x
theorem b8A (s:Int) (l:List Rat):(sgL s l).length=l.length:=by simp[sgL]
theorem a6U (s:Int) (l:List Rat) (j:Nat):vec (sgL s l) j=(s:Rat)*vec l j:=by
 unfold vec sgL;rw[List.getD_eq_getElem?_getD,List.getD_eq_getElem?_getD,List.getElem?_map];cases l[j]? with
 |none=>simp
 |some y=>simp
theorem b7n {s:Int} (hs:s=1\/s= -1) {c:Nat} {l:List Rat} (h:nz c (vec l)):nz c (vec (sgL s l)):=by
 obtain⟨j,hj,hn⟩:=h;refine⟨j,hj,?_⟩;rw[a6U];rcases hs with rfl|rfl
 ·have:((1:Int):Rat)=1:=rfl
  rw[this];grind
 ·have:((-1:Int):Rat)= -1:=rfl
  rw[this];grind
theorem c0f (c:Nat) (s:Int) (l:List Rat) (v:Vec):dot c (vec (sgL s l)) v=(s:Rat)*dot c (vec l) v:=by
 rw[<-a5G];exact a2r fun j _=>a6U s l j
theorem b8B {s:Int} {c:Nat} {l:List Rat} {M:List Vec} (h:Ort c M (vec l)):Ort c M (vec (sgL s l)):=fun v hv=>by
 rw[a0C,c0f,a0C,h v hv];grind
theorem c0g {s:Int} (hs:s=1\/s= -1) {B:Nat} {l:List Rat} (h:BR B l):BR (B+1) (sgL s l):=fun q hq'=>by
 unfold sgL at hq';obtain⟨x,hx,rfl⟩:=List.mem_map.1 hq';have h1:=hq_mul (s:Rat) x;have h2:hq (s:Rat)<=1:=by rcases hs with rfl|rfl<;>decide+kernel
 have:=h x hx;omega
section
variable {n c:Nat} {z:Mat} (hs:Shp n c z)
include hs
theorem a6o {s:List Int} (hb:∀x∈s,0<=x/\x<(z.length:Int)) (O:Mat) (hO:∀r∈O,r.length=c):Shp (a0B z s++O).length c (a0B z s++O):=⟨rfl,fun r hr=>by
 rcases List.mem_append.1 hr with h|h
 ·exact hs.2 r (a2u hb r h)
 ·exact hO r h⟩
theorem b2h {s:List Int} {cnt:Nat} (hb:∀x∈s,0<=x/\x<(z.length:Int)) (hk:(a0D (a0B z s++a0D z c) c).length≠1):a2c c (a0t z) (a0t (a0D z c)) cnt (s.map Int.toNat):=by
 have h:=a5d (a6o hs hb (a0D z c) a2s);rw[b0B,a4e hb]at h;exact b0y h hk
theorem b6a {s:List Int} (hb:∀x∈s,0<=x/\x<(z.length:Int)) (hk:(a0D (a0B z s++a0D z c) c).length=1) (L:List Rat) (hL:(a0D (a0B z s++a0D z c) c)[0]'(by omega)=L):
  L.length=c/\nz c (vec L)/\Ort c (a2I (a0t z) (s.map Int.toNat)++a0t (a0D z c)) (vec L):=by
 have hM:=a6o hs hb (a0D z c) a2s;have hB:=a4n hM;have hd:=a5d hM;rw[b0B,a4e hb]at hB hd;have he:ent (a0D (a0B z s++a0D z c) c) 0=vec L:=by
  funext j
  unfold ent vec;rw[show(a0D (a0B z s++a0D z c) c).getD 0 []=L by rw[List.getD_eq_getElem?_getD,List.getElem?_eq_getElem (by omega),Option.getD_some,hL]]
 have hm:=hB.mem 0 (by omega);rw[he]at hm;refine⟨by rw[<-hL];exact a2s _ (List.getElem_mem _),?_,hm⟩;refine b2N fun h0=>?_;have:=hB.li (fun _=>1) (fun j hj=>by
  unfold cmb;rw[hk]
  show 0+1*ent (a0D (a0B z s++a0D z c) c) 0 j=0
  rw[he,h0 j hj];grind) 0 (by omega)
 exact absurd this (by decide)
end
theorem b8C {c:Nat} {z:Mat} {s:List Int} {y:Vec} (h:Ort c (a2I (a0t z) (s.map Int.toNat)++a0t (a0D z c)) y):Ort c (a0t (a0D z c)) y:=(Ort.app.1 h).2
theorem a9k {c:Nat} {z:Mat} {s:List Int} {cnt:Nat} {L:List Rat} (hn:nz c (vec L)) (ho:Ort c (a2I (a0t z) (s.map Int.toNat)++a0t (a0D z c)) (vec L)) (h1:Bd c z cnt (vec (sgL 1 L))) (h2:Bd c z cnt (vec (sgL (-1) L))):a2c c (a0t z) (a0t (a0D z c)) cnt (s.map Int.toNat):=by
 have e1:∀j,j<c->vec (sgL 1 L) j=vec L j:=fun j _=>by rw[a6U];have:((1:Int):Rat)=1:=rfl;rw[this];grind
 have e2:∀j,j<c->vec (sgL (-1) L) j= -1*vec L j:=fun j _=>by rw[a6U];rfl
 exact b0z hn ho (h1.congr e1) (h2.congr e2)
theorem a3J.le {c cnt:Nat} {z us:Mat} (h:a3J c z cnt us):cnt<=z.length+1:=by
 rcases h with⟨rfl,_⟩|h
 ·exact Nat.le_refl _
 ·have:cnt=b0w c (a0t us) (a0t z):=h.cnt.symm
  rw[this];have:=List.countP_le_length (p:=fun v=>a6z c (a0t us) v) (l:=a0t z);unfold b0w;simp[a0t]at this |-;omega
theorem b3R {n c B:Nat} {z:Mat} (hs:Shp n c z) (hB:HB B z) (hc3:c<=3):a9C z c\/6500<B:=by
 by_cases h:B<=6500
 ·refine .inl (a9g hs hB (a1L hs) ?_)
  have:35^c<=35^3:=Nat.pow_le_pow_right (by decide) hc3;have:=Nat.mul_le_mul this h;have e:35^3*6500=278687500:=by decide
  omega
 ·exact .inr (by omega)
theorem a9l {n c B:Nat} {z:Mat} {s:List Int} (hs:Shp n c z) (hB:HB B z) (hBB:B<=6500) (hc3:c<=3) (hb:∀x∈s,0<=x/\x<(z.length:Int)) (hr:s.length+1=(a0N z c).2.length):
  a9C (a0B z s++a0D z c) c/\HB (1500625*B) (a0D (a0B z s++a0D z c) c)/\(a0B z s++a0D z c).length+1=c:=by
 have hM:=a6o hs hb (a0D z c) a2s;have hpc:=a1L hs;have hlen:(a0B z s++a0D z c).length+1=c:=by rw[List.length_append,a1M,a3I hs];omega
 have hp2:(a0N (a0B z s++a0D z c) c).2.length<=2:=by have:=a3o hM;omega
 have hrowsB:HB B (a0B z s):=fun i j=>by
  unfold ent;by_cases hi:i<(a0B z s).length
  ·have hm:=a2u hb _ (List.getElem_mem hi)
   obtain⟨q,hq,he⟩:=List.getElem_of_mem hm;rw[show(a0B z s).getD i []=(a0B z s)[i]by simp[List.getD_eq_getElem?_getD,hi],<-he];have:=hB q j;unfold ent at this;rwa[show z.getD q []=z[q]by simp[List.getD_eq_getElem?_getD,hq]]at this
  ·rw[show(a0B z s).getD i []= []by rw[List.getD_eq_getElem?_getD,List.getElem?_eq_none (by omega)];rfl]
   have:([]:List Rat).getD j 0=0:=rfl;rw[this,a1p];exact hB.pos
 have hMB:HB (1225*B) (a0B z s++a0D z c):=by
  by_cases hf:(a0N z c).2.length=c
  ·have hnil:a0D z c= []:=List.eq_nil_of_length_eq_zero (by rw[a3I hs];omega)
   rw[hnil,List.append_nil];exact hrowsB.mono (by omega)
  ·have h2:(a0N z c).2.length<=2:=by omega
   have:=a6n hB hs h2;exact HB.app (hrowsB.mono (by omega)) (this.mono (by simp))
 refine⟨a9g hM hMB hp2 ?_,?_,hlen⟩
 ·have e:7*(35^2*(1225*B))=10504375*B:=by omega
  omega
 ·have:=a6n hMB hM hp2
  exact this.mono (by omega)
end Go.Lin
namespace Go.Lin
open Go.Lim Go.Rep
def a4W (c:Nat) (u:List Rat) (z:Mat):Nat:=z.countP fun r=>decide (dot c (vec u) (vec r)<0)
theorem a6V (c:Nat) (u:List Rat) {z:Mat} {k:Nat} (h:k<z.length):a2P c u (z.take (k+1))=a2P c u (z.take k)+if 0<dot c (vec u) (vec z[k])then 1 else 0:=by
 unfold a2P;rw[<-List.take_append_getElem h,List.countP_append,List.countP_singleton];simp
theorem b3S (c:Nat) (u:List Rat) {z:Mat} {k:Nat} (h:k<z.length):a4W c u (z.take (k+1))=a4W c u (z.take k)+if dot c (vec u) (vec z[k])<0 then 1 else 0:=by
 unfold a4W;rw[<-List.take_append_getElem h,List.countP_append,List.countP_singleton];simp
theorem a9U (c:Nat) (u:List Rat) (z:Mat):a2P c u z<=z.length:=List.countP_le_length
theorem a9V (c:Nat) (u:List Rat) (z:Mat):a4W c u z<=z.length:=List.countP_le_length
theorem b1p (c:Nat) (u:List Rat) {z:Mat} {k:Nat} (h:k<z.length):onM c u (z.take (k+1))=onM c u (z.take k)++if dot c (vec u) (vec z[k])=0 then[z[k]]else[]:=by
 unfold onM;rw[<-List.take_append_getElem h,List.filter_append];by_cases h1:dot c (vec u) (vec z[k])=0
 ·simp[h1]
 ·simp[h1]
theorem a9W (c:Nat) (u:List Rat) (z:Mat):∀r∈onM c u z,r∈z:=fun _ hr=>(List.mem_filter.1 hr).1
theorem a9X {z:Mat} {k:Nat} (h:k<z.length):a2d (z.take (k+1))=a2d (z.take k)++if a5e z[k]then[]else[z[k]]:=by
 unfold a2d;rw[<-List.take_append_getElem h,List.filter_append];cases h1:a5e z[k]<;>simp[h1]
theorem b2i (z:Mat):∀r∈a2d z,r∈z:=fun _ hr=>(List.mem_filter.1 hr).1
theorem b1q (c:Nat) (u:List Rat) (z:Mat):a5a c (fun j=> -1*vec u j) (a0t z)=a4W c u z:=by
 unfold a5a a4W a0t;rw[List.countP_map];refine List.countP_congr fun r _=>?_;simp only[Function.comp,decide_eq_true_eq];rw[a5G];constructor<;>intro h<;>grind
theorem b8D (c:Nat) (u:List Rat) (z:Mat):onL c (fun j=> -1*vec u j) (a0t z)=a0t (onM c u z):=by
 rw[a4o];unfold onL;refine List.filter_congr fun r _=>?_;rw[a5G];rw[decide_eq_decide];constructor<;>intro h<;>grind
theorem b7o {c:Nat} {u:Vec} (h:nz c u):nz c (fun j=> -1*u j):=by
 obtain⟨j,hj,hn⟩:=h;exact⟨j,hj,by grind⟩
theorem b3T {c cnt k l:Nat} {z:Mat} {u:List Rat} {s:List Int} (hk:a0M c (a0t z) k) (hc:k<=cnt) (hu:nz c (vec u)) (ho:Ort c (a2I (a0t z) (s.map Int.toNat)++[]) (vec u)) (hl:a0M c (a0t (onM c u z)) l):
  k<=min cnt (min (a2P c u z) (a4W c u z)+l)/\a2c c (a0t z) [] (min cnt (min (a2P c u z) (a4W c u z)+l)) (s.map Int.toNat):=by
 have h1:=hl;rw[a4o]at h1;have h2:=hk.lower hu h1;rw[<-a3b]at h2;have h3:a0M c (onL c (fun j=> -1*vec u j) (a0t z)) l:=by rw[b8D];exact hl
 have h4:=hk.lower (b7o hu) h3;rw[b1q]at h4;refine⟨by omega,b0z hu ho (fun m hm=>?_) (fun m hm=>?_)⟩
 ·have:=hm.uniq h1
  rw[<-a3b];omega
 ·have:=hm.uniq h3
  rw[b1q];omega
theorem b3U (u v:Vec):dot 1 u v=u 0*v 0:=by
 unfold dot sm sm;grind
theorem b3V (c:Nat) (u:Vec) (z:List Vec):a1C c u z+z.countP (fun v=>decide (dot c u v<0))=z.length:=by
 unfold a1C;rw[List.length_eq_countP_add_countP (fun v=>decide (0<=dot c u v)) (l:=z)]
 congr 1
 refine List.countP_congr fun v _=>?_;simp only[decide_eq_true_eq];constructor<;>intro h<;>grind
theorem b3W (c:Nat) (u:List Rat) (z:Mat):a1C c (vec u) (a0t z)+a4W c u z=z.length:=by
 have:=b3V c (vec u) (a0t z);have e:(a0t z).countP (fun v=>decide (dot c (vec u) v<0))=a4W c u z:=by
  unfold a4W a0t;rw[List.countP_map];rfl
 have e2:(a0t z).length=z.length:=by simp[a0t]
 omega
theorem b3X (c:Nat) (u:List Rat) (z:Mat):a1C c (fun j=> -1*vec u j) (a0t z)+a2P c u z=z.length:=by
 have:=b3V c (fun j=> -1*vec u j) (a0t z);have e:(a0t z).countP (fun v=>decide (dot c (fun j=> -1*vec u j) v<0))=a2P c u z:=by
  unfold a2P a0t;rw[List.countP_map];refine List.countP_congr fun r _=>?_;simp only[Function.comp,decide_eq_true_eq];rw[a5G];constructor<;>intro h<;>grind
 have e2:(a0t z).length=z.length:=by simp[a0t]
 omega
theorem a8t:vec [(1:Rat)] 0=1:=rfl
theorem b1r:nz 1 (vec [(1:Rat)]):=⟨0,by omega,by rw[a8t];decide+kernel⟩
theorem b3Y (z:Mat):a0M 1 (a0t z) (z.length - max (a2P 1 [1] z) (a4W 1 [1] z)):=by
 have h1:=b3W 1 [1] z;have h2:=b3X 1 [1] z;refine⟨?_,fun u hu=>?_⟩
 ·rcases Nat.le_total (a2P 1 [1] z) (a4W 1 [1] z)with h|h
  ·exact⟨vec [1],b1r,by omega⟩
  ·exact⟨_,b7o b1r,by omega⟩
 ·obtain⟨j,hj,hn⟩:=hu
  obtain rfl:j=0:=by omega
  by_cases hp:0<u 0
  ·have e:∀j,j<1->u j=u 0*vec [1] j:=fun j hj=>by
    obtain rfl:j=0:=by omega
    rw[a8t];grind
   obtain⟨_,_,a3⟩:=a3H e (a0t z);obtain⟨_,_,b3⟩:=a5b (c:=1) (u:=vec [1]) hp (a0t z);rw[a3,b3];omega
  ·have e:∀j,j<1->u j= -u 0*(-1*vec [1] j):=fun j hj=>by
    obtain rfl:j=0:=by omega
    rw[a8t];grind
   obtain⟨_,_,a3⟩:=a3H e (a0t z);obtain⟨_,_,b3⟩:=a5b (c:=1) (u:=fun j=> -1*vec [1] j) (t:= -u 0) (by grind) (a0t z);rw[a3,b3];omega
theorem a8u {c cnt:Nat} {z:Mat} {u:List Rat} (h:cnt<=a2P c u z):Bd c z cnt (vec u):=fun l _=>by
 rw[<-a3b];omega
theorem c0h {z:Mat} {u:List Rat} (hz:∀v∈a0t z,nz 1 v) (hu:nz 1 (vec u)):onM 1 u z= []:=by
 unfold onM;rw[List.filter_eq_nil_iff];intro r hr;obtain⟨j,hj,hn⟩:=hz (vec r) (List.mem_map.2 ⟨r,hr,rfl⟩);obtain⟨i,hi,hm⟩:=hu;obtain rfl:j=0:=by omega
 obtain rfl:i=0:=by omega
 rw[decide_eq_true_eq,b3U];intro h;rcases Rat.mul_eq_zero.1 h with h|h
 ·exact hm h
 ·exact hn h
theorem b6b {n c:Nat} {z:Mat} (hs:Shp n c z) (h:(a0N z c).2.length=c):a0D z c= []:=
 List.eq_nil_of_length_eq_zero (by rw[a3I hs];omega)
theorem b1s {n:Nat} {z:Mat} (hs:Shp n 1 z) (hz:∀v∈a0t z,nz 1 v) (hne:z≠[]):(a0N z 1).2.length=1:=by
 have h1:=b0J hs hz hne;have h2:=a1L hs;omega
theorem b6c {n cnt:Nat} {z us:Mat} (hs:Shp n 1 z) (hz:∀v∈a0t z,nz 1 v) (hne:z≠[]) (hS:a3J 1 z cnt us) (h1:Bd 1 z cnt (vec (sgL 1 [1]))) (h2:Bd 1 z cnt (vec (sgL (-1) [1]))):a0M 1 (a0t z) cnt/\Wit 1 (a0t z) cnt (a0t us):=by
 have hr:=b1s hs hz hne;have hn:=b6b hs hr;refine b2Z hs hz hne (r:=0) hr hS fun I hI _ _=>?_;obtain rfl:I= []:=List.eq_nil_of_length_eq_zero hI;have:=a9k (c:=1) (z:=z) (s:=[]) (L:=[1]) b1r (by rw[hn];intro v hv;simp[a2I,a0t]at hv) h1 h2;simpa using this
theorem a9m {c r cnt:Nat} {z O:List Vec} (n:Nat) (h:∀s∈a0s n r 0,a2c c z O cnt (s.map Int.toNat)):∀I:List Nat,I.length=r->I.Pairwise (· < ·)->(∀i∈I,i<n)->a2c c z O cnt I:=fun I h1 h2 h3=>by
 have hm:=a5z n r 0 (I.map fun i:Nat=>(i:Int)) (by simpa using h1) (fun x hx=>by
  obtain⟨i,hi,rfl⟩:=List.mem_map.1 hx;have:=h3 i hi;omega) (by
  rw[List.pairwise_map];exact h2.imp fun h=>by omega)
 have:=h _ hm;have e:(I.map fun i:Nat=>(i:Int)).map Int.toNat=I:=by
  rw[List.map_map];have:(Int.toNat∘fun i:Nat=>(i:Int))=id:=by funext i;simp
  rw[this,List.map_id]
 rwa[e]at this
theorem b2j {k c:Nat} {M:Mat} (hM:Shp k c M) (hk:(a0D M c).length=1) (L:List Rat) (hL:(a0D M c)[0]'(by omega)=L):L.length=c/\nz c (vec L)/\Ort c (a0t M) (vec L):=by
 have hB:=a4n hM;have he:ent (a0D M c) 0=vec L:=by
  funext j
  unfold ent vec;rw[show(a0D M c).getD 0 []=L by rw[List.getD_eq_getElem?_getD,List.getElem?_eq_getElem (by omega),Option.getD_some,hL]]
 have hm:=hB.mem 0 (by omega);rw[he]at hm;refine⟨by rw[<-hL];exact a2s _ (List.getElem_mem _),?_,hm⟩;refine b2N fun h0=>?_;have:=hB.li (fun _=>1) (fun j hj=>by
  unfold cmb;rw[hk]
  show 0+1*ent (a0D M c) 0 j=0
  rw[he,h0 j hj];grind) 0 (by omega)
 exact absurd this (by decide)
theorem a6W {n c:Nat} {z:Mat} (hs:Shp n c z) {s:List Int} (hb:∀x∈s,0<=x/\x<(z.length:Int)):Shp s.length c (a0B z s):=⟨a1M z s,fun r hr=>hs.2 r (a2u hb r hr)⟩
theorem a9Y {n c:Nat} {z:Mat} (hs:Shp n c z) {s:List Int} {cnt:Nat} (hb:∀x∈s,0<=x/\x<(z.length:Int)) (hk:(a0D (a0B z s) c).length≠1):a2c c (a0t z) [] cnt (s.map Int.toNat):=by
 have h:=a5d (a6W hs hb);rw[a4e hb]at h;refine b0y (k:=(a0D (a0B z s) c).length) ?_ hk;rwa[List.append_nil]
theorem b3Z {n c:Nat} {z:Mat} (hs:Shp n c z) {s:List Int} (hb:∀x∈s,0<=x/\x<(z.length:Int)) (hk:(a0D (a0B z s) c).length=1) (L:List Rat) (hL:(a0D (a0B z s) c)[0]'(by omega)=L):
  L.length=c/\nz c (vec L)/\Ort c (a2I (a0t z) (s.map Int.toNat)++[]) (vec L):=by
 obtain⟨h1,h2,h3⟩:=b2j (a6W hs hb) hk L hL;rw[a4e hb]at h3;exact⟨h1,h2,by rwa[List.append_nil]⟩
theorem b6d {n c:Nat} {z:Mat} (hs:Shp n c z) {u:List Rat} (hu:nz (a0N z c).2.length (vec u)):(onM (a0N z c).2.length u (a1T z (a0N z c).2)).length<z.length:=by
 have hl:(a1T z (a0N z c).2).length=z.length:=by simp[a1T]
 have h1:(onM (a0N z c).2.length u (a1T z (a0N z c).2)).length<=(a1T z (a0N z c).2).length:=List.length_filter_le ..;rcases Nat.lt_or_eq_of_le h1 with h2|h2
 ·omega
 ·refine absurd (b0H hs (vec u) fun v hv=>?_) hu.not
  obtain⟨r,hr,rfl⟩:=List.mem_map.1 hv;have:=(List.length_filter_eq_length_iff.1 h2) r hr;simpa using this
theorem b8E {B:Nat} {z:Mat} {s:List Int} (hB:HB B z) (hb:∀x∈s,0<=x/\x<(z.length:Int)):HB B (a0B z s):=fun i j=>by
 unfold ent;by_cases hi:i<(a0B z s).length
 ·have hm:=a2u hb _ (List.getElem_mem hi)
  obtain⟨q,hq,he⟩:=List.getElem_of_mem hm;rw[show(a0B z s).getD i []=(a0B z s)[i]by simp[List.getD_eq_getElem?_getD,hi],<-he];have:=hB q j;unfold ent at this;rwa[show z.getD q []=z[q]by simp[List.getD_eq_getElem?_getD,hq]]at this
 ·rw[show(a0B z s).getD i []= []by rw[List.getD_eq_getElem?_getD,List.getElem?_eq_none (by omega)];rfl]
  have:([]:List Rat).getD j 0=0:=rfl;rw[this,a1p];exact hB.pos
end Go.Lin
namespace Go.Proofs.YtoibhmjjhgaimaaGreat
open Go.RowKit Go.Rep Go.Lim Go.Lin
def c2a (Z:Nat->Bool) (base:Nat) (e:TypeId) (w:World) (a:Option Addr) (cap:Nat) (l:List Rat) (ee:Ending) (w':World):Prop:=ee= .returned (.tuple #[])/\ExtX (ob a) w w'/\OL QC 3 (cut Z a) base e w' a cap l
set_option maxRecDepth 100000 in
set_option maxHeartbeats 1600000 in
theorem a5A (Z:Nat->Bool) (base:Nat) (w:World) (a1 a2:Option Addr) (c1 c2 n col:Nat) (row piv:List Rat) (hX:HX Z w) (h1:OL QC 3 (cut Z a1) base 32 w a1 c1 row) (h2:OL QC 3 (cut Z a2) base 32 w a2 c2 piv)
  (hz1:∀k,ob a1 k=true->Z k=true) (hz2:∀k,ob a2 k=true->Z k=true) (hdis:∀k,ob a1 k=true->ob a2 k=false) (hl1:row.length=n) (hl2:piv.length=n) (hn:n<=1000) (hcol:col<n)
  (hb1:BR 68719476736 row) (hb2:BR 68719476736 piv) (hb3:hq (row.getD col 0/piv.getD col 0)<=68719476736) (hb4:∀x∈piv,hq (row.getD col 0/piv.getD col 0*x)<=68719476736):
  Calls Tryz.prog 253 #[.slice a1 n c1, .slice a2 n c2, .int .i64 (col:Int)] w (c2a Z base 32 w a1 c1 (a3a row piv col)):=by
 have hu1:=hid (a6O hz1);have hu2:=hid (a6O hz2);have hdis2:∀k,ob a2 k=true->ob a1 k=false:=fun k hk=>by
  cases hb:ob a1 k
  ·rfl
  ·rw[hdis k hb]at hk;simp at hk
 have hd1:Hd a1 n:=by have:=h1.hd;rw[hl1]at this;exact this
 have hd2:Hd a2 n:=by have:=h2.hd;rw[hl2]at this;exact this
 have hc1r:col<row.length:=by omega
 have hc2r:col<piv.length:=by omega
 have g1:Hid (row.getD col 0=row[col]):=hid (by simp[List.getD_eq_getElem?_getD,hc1r]);have g2:Hid (piv.getD col 0=piv[col]):=hid (by simp[List.getD_eq_getElem?_getD,hc2r]);obtain⟨E,hE⟩:∃E,a3a row piv col=E:=⟨_,rfl⟩;have hEl:Hid (E.length=n):=hid (by rw[<-hE,a3F _ _ _ (by omega)];exact hl2);have hEi:Hid (∀j (hj:j<row.length) (hj2:j<piv.length) (hj3:j<E.length),E[j]=row[j] - (row.getD col 0/piv.getD col 0)*piv[j]):=hid fun j hj hj2 hj3=>by subst hE;simp[a3a]
 have hE0:Hid (row.getD col 0/piv.getD col 0=0->E=row):=hid fun h=>by rw[<-hE];exact b1P _ _ _ (by omega) h
 have hrE:Hid (E.length=row.length):=hid (by rw[hEl.out,hl1]);have hl1':=hid hl1;have hl2':=hid hl2;have hb1':=hid hb1;have hb2':=hid hb2;obtain⟨f,hf⟩:∃f,row.getD col 0/piv.getD col 0=f:=⟨_,rfl⟩;rw[hf]at hb3 hE0 hEi hb4;have hb3':=hid hb3;have hb4':=hid hb4;have hff:Hid (row[col]/piv[col]=f):=hid (by rw[<-g1.out,<-g2.out];exact hf);rw[hE];obtain⟨gg1,oo1,s1,p1,n1,q1,d1,k1,e1,hg1,hog1,hcc1,hr1⟩:=h1.rat QC.shaped col hc1r;obtain⟨gg2,oo2,s2,p2,n2,q2,d2,k2,e2,hg2,hog2,hcc2,hr2⟩:=h2.rat QC.shaped col hc2r;rw[hu1.out]at hr1;rw[hu2.out]at hr2;have i1:∀W,(Instr.indexAt 45 (.slice a1 n c1) (.int .i64 (col:Int))).run Tryz.prog W= .ok (.pointer (some ⟨gg1,oo1,none⟩)) W:=by rw[<-hg1];exact a0h a0J a1 n c1 .i64 col hd1 hcol
 have i2:∀W,(Instr.indexAt 45 (.slice a2 n c2) (.int .i64 (col:Int))).run Tryz.prog W= .ok (.pointer (some ⟨gg2,oo2,none⟩)) W:=by rw[<-hg2];exact a0h a0J a2 n c2 .i64 col hd2 hcol
 have hEd:Ext w w.drew:=(ExtX.refl w).drew;have hS:Hid (∀Y W',ExtX Y w.drew W'->Y gg1=false->Y gg2=false->W'.cell? ⟨gg1,oo1,none⟩=some (.bool s1)/\W'.cell? ⟨gg1,oo1+1,none⟩=some (.slice p1 n1 q1)/\W'.cell? ⟨gg1,oo1+2,none⟩=some (.slice d1 k1 e1)/\W'.cell? ⟨gg2,oo2,none⟩=some (.bool s2)/\W'.cell? ⟨gg2,oo2+1,none⟩=some (.slice p2 n2 q2)/\W'.cell? ⟨gg2,oo2+2,none⟩=some (.slice d2 k2 e2)):=hid fun Y W' h hy1 hy2=>by
  have z1:=hcc1.out Y W' ((ExtX.of hEd).trans h) hy1;have z2:=hcc2.out Y W' ((ExtX.of hEd).trans h) hy2;exact⟨z1.1,z1.2.1,z1.2.2,z2.1,z2.2.1,z2.2.2⟩
 obtain⟨k00,k01,k02,k10,k11,k12⟩:=hS.out noY w.drew (ExtX.refl _) rfl rfl;have hlt1:gg1<w.heap.size:=a4M k00;have hlt2:gg2<w.heap.size:=a4M k10;have hXd:HX Z w.drew:=hX;have hx1:QV (mk Z w.drew) (.agg #[.bool s1, .slice p1 n1 q1, .slice d1 k1 e1]) row[col]:=hr1.qv (hb1'.out _ (List.getElem_mem _));have hx2:QV (mk Z w.drew) (.agg #[.bool s2, .slice p2 n2 q2, .slice d2 k2 e2]) piv[col]:=hr2.qv (hb2'.out _ (List.getElem_mem _));obtain⟨ec,hec⟩:∃ec,e5 (decide (piv[col]=0))=ec:=⟨_,rfl⟩;have qd:=c1c Z w.drew _ _ _ _ hXd hx1 hx2;rw[hec,hff.out]at qd;have hEA:Ext w.drew (w.alloc (.cells #[.bool false, .slice none 0 0, .slice none 0 0] 32)).drew:=⟨rfl,rfl,rfl,((ExtX.refl (Y:=noY) w).alloc _).size,((ExtX.refl (Y:=noY) w).alloc _).block⟩;have bA:Bx (w.alloc (.cells #[.bool false, .slice none 0 0, .slice none 0 0] 32)).drew w.heap.size #[.bool false, .slice none 0 0, .slice none 0 0] 32:=Bx.new w _ _;have hEA2:Ext w (w.alloc (.cells #[.bool false, .slice none 0 0, .slice none 0 0] 32)).drew:=hEd.trans hEA;have hXA:HX (un Z (some ⟨w.heap.size,0,none⟩)) (w.alloc (.cells #[.bool false, .slice none 0 0, .slice none 0 0] 32)).drew:=fun k hk=>by
  have h9:(w.alloc (.cells #[.bool false, .slice none 0 0, .slice none 0 0] 32)).drew.heap.size=w.heap.size+1:=by show(w.alloc _).heap.size=_;simp
  rw[h9];by_cases hz:Z k=true
  ·have:=hX k hz;omega
  ·have:w.heap.size=k:=by simpa[un,hz,ob]using hk
   omega
 have hnewb:∀j,j<w.heap.size->ob (some ⟨w.heap.size,0,none⟩) j=false:=fun j hj=>a0b (by omega);have qdA:=c1c (un Z (some ⟨w.heap.size,0,none⟩)) (w.alloc (.cells #[.bool false, .slice none 0 0, .slice none 0 0] 32)).drew _ _ _ _ hXA (a7B (w:=w) QV.mono hx1 hEA2 hnewb) (a7B (w:=w) QV.mono hx2 hEA2 hnewb);rw[hec,hff.out]at qdA;clear hg1 hg2 hcc1 hcc2 hr1 hr2 hf hE hl1 hl2 hb1 hb2 hb3 hb4 hec;go_enter Tryz.func253,Tryz.ntmps253
 go_upto_region 0 with(fail)
 go_cut [6,7]from 10 to 21 (fun b6 _ wx=>∃bf s a n' c d k e,b6= .pointer (some ⟨bf,0,none⟩)/\Bx wx bf #[.bool s, .slice a n' c, .slice d k e] 32/\w.heap.size<=bf/\QC (mk Z wx) (.agg #[.bool s, .slice a n' c, .slice d k e]) f/\Ext w wx)
 case first=>
  go_region_held3 (fun w'=>w'.cell? ⟨gg1,oo1,none⟩=some (.bool s1)/\w'.cell? ⟨gg1,oo1+1,none⟩=some (.slice p1 n1 q1)/\w'.cell? ⟨gg1,oo1+2,none⟩=some (.slice d1 k1 e1)/\w'.cell? ⟨gg2,oo2,none⟩=some (.bool s2)/\w'.cell? ⟨gg2,oo2+1,none⟩=some (.slice p2 n2 q2)/\w'.cell? ⟨gg2,oo2+2,none⟩=some (.slice d2 k2 e2))
   (first|exact hS.out noY _ t1 rfl rfl|exact hS.out noY _ (ExtX.alloc t1 _) rfl rfl|exact hS.out noY _ hEA rfl rfl|exact hS.out noY _ (hEA.trans t2) rfl rfl|exact hS.out (ob (some ⟨w.heap.size,0,none⟩)) _ ((ExtX.of (hEA.trans t2)).trans hst.2) (a0b (by omega)) (a0b (by omega))|exact hS.out (ob (some ⟨w6.heap.size,0,none⟩)) _ ((ExtX.of (t1.alloc _)).trans hst.2) (a0b (by have:=t1.size;have h9:w.drew.heap.size=w.heap.size:=rfl;omega)) (a0b (by have:=t1.size;have h9:w.drew.heap.size=w.heap.size:=rfl;omega))|go_keep)
   (first|(go_at_call 230;(with_reducible refine qd.mono ?_);rintro ee w6 ⟨t1,u6,rfl,hu6⟩;obtain⟨s6,a6,n6,c6,d6,k6,e6,rfl⟩:=hu6.shape;have hst:=(Bx.new w6 #[.bool false, .slice none 0 0, .slice none 0 0] 32).set3 (.bool s6) (.slice a6 n6 c6) (.slice d6 k6 e6))|(go_at_call 230;(with_reducible refine qdA.mono ?_);rintro ee w6 ⟨t2,u6,rfl,hu6⟩;obtain⟨s6,a6,n6,c6,d6,k6,e6,rfl⟩:=hu6.shape;have bb:=bA.ext0 t2;have y0:=bb.cell 0 rfl;have y1:=bb.cell 1 rfl;have y2:=bb.cell 2 rfl;have z0:=bb.frozen 0;have z1:=bb.frozen 1;have z2:=bb.frozen 2;have hst:=bb.set3 (.bool s6) (.slice a6 n6 c6) (.slice d6 k6 e6)))
  ·clear k00 k01 k02 k10 k11 k12
   go_wp2_with fail
   go_meet
   case rel=>exact⟨w6.heap.size,_,_,_,_,_,_,_,rfl,Bx.new w6 _ _,(hEd.trans t1).size,QC.mono _ _ _ _ (a0m ((ExtX.refl w6).alloc _)) hu6,(hEd.trans t1).alloc _⟩
  ·have hq7:=QC.mono _ _ _ _ (a1U (X:=Z) fun k _ hk=>a0v hk) (QC.mono _ _ _ _ (a0u hst.2 fun k hk=>a0y hk) hu6)
   have hE7:Ext w _:=ExtX.box (hEA2.trans t2) hst.2 (Nat.le_refl _);clear k00 k01 k02 k10 k11 k12 y0 y1 y2 z0 z1 z2;go_wp2_with fail
   go_meet
   case rel=>exact⟨w.heap.size,_,_,_,_,_,_,_,rfl,hst.1,Nat.le_refl _,hq7,hE7⟩
 case rest=>
  obtain⟨bf,sf,af,nf,cf,df,kf,ef,rfl,b6,hbf,hqf,hEw⟩:=hcut;clear k00 k01 k02 k10 k11 k12 i1 i2 qd qdA hS bA hEA hEA2;have hXc:=hX.ext hEw;have h1c:=h1.ext0 QC.elem hEw;have h2c:=h2.ext0 QC.elem hEw;have f0:=b6.cell 0 rfl;have f1:=b6.cell 1 rfl;have f2:=b6.cell 2 rfl;have hqv:=hqf.qv hb3'.out;by_cases h0:f=0
  ·have hr:=hid (hE0.out h0)
   have hs0:Hid (f.num.sign=0):=hid (by rw[h0];rfl);clear h0;go_wp2_with fail
   refine(a5P Z wc _ f hXc hqv).mono ?_;rintro e w7 ⟨hE7,rfl⟩;rw[hs0.out];clear f0 f1 f2;go_wp2_with fail
   refine bodyPost_ret (results_none rfl _ _ _) rfl ?_;exact⟨rfl,ExtX.of (hEw.trans hE7),by rw[hr.out];exact h1c.ext0 QC.elem hE7⟩
  ·have hs0:((f.num.sign:Int)==0)=false:=a1S (by intro h;exact h0 (Rat.num_eq_zero.1 (Int.sign_eq_zero_iff_zero.1 h)))
   clear h0;go_wp2_with fail
   refine(a5P Z wc _ f hXc hqv).mono ?_;rintro e w7 ⟨hE7,rfl⟩;have b7:=b6.ext0 hE7;have hqf7:=mkx QV.mono hqv hE7;have hE07:=hEw.trans hE7;have h17:=h1c.ext0 QC.elem hE7;have h27:=h2c.ext0 QC.elem hE7;clear f0 f1 f2 b6;go_wp2_with fail
   go_loopw [27] (fun k wr=>∃(j:Nat),k= .int .i64 j/\j<=n/\OL QC 3 (cut Z a1) base 32 wr a1 c1 (mix E row j)/\OL QC 3 (cut Z a2) base 32 wr a2 c2 piv/\Bx wr bf #[.bool sf, .slice af nf cf, .slice df kf ef] 32/\QV (mk Z wr) (.agg #[.bool sf, .slice af nf cf, .slice df kf ef]) f/\ExtX (ob a1) w wr) (fun k _=>n - (intOf k).toNat)
   case atStart=>exact⟨0,rfl,Nat.zero_le _,by rw[a5v];exact h17,h27,b7,hqf7,ExtX.of hE07⟩
   case round=>
    obtain⟨j,rfl,hj,hO1,hO2,b7,hqf7,hE⟩:=hrel;have hXr:=hX.ext hE;by_cases hlj:j<n
    ·have hjr:j<row.length:=by rw[hl1'.out];exact hlj
     have hjp:j<piv.length:=by rw[hl2'.out];exact hlj
     have hjE:j<E.length:=by rw[hEl.out];exact hlj
     have hml:Hid ((mix E row j).length=n):=hid (by rw[a2o hrE.out,hEl.out]);have hjm:j<(mix E row j).length:=by rw[hml.out];exact hlj
     have hmg:Hid ((mix E row j)[j]=row[j]):=hid (by rw[a1X hrE.out,if_neg (by omega)]);have hjs:Hid ((mix E row j).set j E[j]=mix E row (j+1)):=hid (a6P hrE.out hjE);have hEj:Hid (row[j] - f*piv[j]=E[j]):=hid (hEi.out j hjr hjp hjE).symm;have hbp:=hid (hb2'.out piv[j] (List.getElem_mem _));have hbr:=hid (hb1'.out row[j] (List.getElem_mem _));have hbm:=hid (hb4'.out piv[j] (List.getElem_mem _));obtain⟨x,hx⟩:∃x,piv[j]=x:=⟨_,rfl⟩;obtain⟨y,hy⟩:∃y,row[j]=y:=⟨_,rfl⟩;obtain⟨v,hv⟩:∃v,E[j]=v:=⟨_,rfl⟩;obtain⟨r,hr⟩:∃r,mix E row j=r:=⟨_,rfl⟩;obtain⟨gg,oo,sg,ap,np,cp,dp,kp,ep,hg,hog,hcc,hrr⟩:=hO1.rat QC.shaped j hjm;rw[hmg.out,hy,hu1.out]at hrr;rw[hx,hy,hv]at hEj;rw[hx]at hbp hbm;rw[hy]at hbr;rw[hv,hr]at hjs;rw[hr]at hO1 hjm hml;have hxp:=hid hx;have i1:∀W,(Instr.indexAt 45 (.slice a1 n c1) (.int .i64 (j:Int))).run Tryz.prog W= .ok (.pointer (some ⟨gg,oo,none⟩)) W:=by rw[<-hg];exact a0h a0J a1 n c1 .i64 j hd1 (by omega)
     have bx:=Bx.new wr #[.bool false, .slice none 0 0, .slice none 0 0] 32;clear hx hy hv hr hmg;go_wp2_with (first|(with_reducible refine a1E a0J (by omega) (by assumption) ?_)|((with_reducible show wpList _ _ _ (⟨_, .load _ _,_,_,_,_⟩::_) _ _);refine a5x a0w j hO2 hjp rfl (by simp) QC.agg ?_;intro u5 hu5;rw[hxp.out,hu2.out]at hu5;obtain⟨s5,a5,n5,c5,d5,k5,e5,rfl⟩:=hu5.shape)|((with_reducible show wpList _ _ _ (⟨_, .store _ _ _,_,_,_,_⟩::_) _ _);refine a0c a0w rfl rfl bx rfl rfl (a2C _ _ _ _ _ _ _) ?_;intro w5 r1 r2))
     have hE5:Ext wr w5:=ExtX.box ((ExtX.refl wr).alloc _) r2 (Nat.le_refl _);have hEd:Ext w5 w5.drew:=(ExtX.refl w5).drew;have hE5d:=hE5.trans hEd;have hO5:=hO1.ext0 QC.elem hE5d;have hP5:=hO2.ext0 QC.elem hE5d;have b5:=b7.ext0 hE5d;have hx5:QV (mk Z w5.drew) (.agg #[.bool s5, .slice a5 n5 c5, .slice d5 k5 e5]) x:=(mkx QC.mono hu5 hE5d).qv hbp.out;have hy5:QV (mk Z w5.drew) (.agg #[.bool sg, .slice ap np cp, .slice dp kp ep]) y:=(mkx QC.mono hrr hE5d).qv hbr.out;have hf5:QV (mk Z w5.drew) (.agg #[.bool sf, .slice af nf cf, .slice df kf ef]) f:=mkx QV.mono hqf7 hE5d;have hXd:HX Z w5.drew:=hXr.ext hE5d;obtain⟨bw,hbw⟩:∃bw,wr.heap.size=bw:=⟨_,rfl⟩;have hab:Hid (ob a1 bw=false):=hid (by rw[<-hbw];exact hO1.ob_ge (Nat.le_refl _));have haf:Hid (ob a1 bf=false):=hid (by
      cases hb:ob a1 bf
      ·rfl
      ·have:=(h1.block hb).2;omega)
     rw[hbw]at r1;have hS:Hid (∀Y W',ExtX Y w5.drew W'->Y gg=false->Y bf=false->Y bw=false->W'.cell? ⟨gg,oo,none⟩=some (.bool sg)/\W'.cell? ⟨gg,oo+1,none⟩=some (.slice ap np cp)/\W'.cell? ⟨gg,oo+2,none⟩=some (.slice dp kp ep)/\W'.cell? ⟨bf,0,none⟩=some (.bool sf)/\W'.cell? ⟨bf,1,none⟩=some (.slice af nf cf)/\W'.cell? ⟨bf,2,none⟩=some (.slice df kf ef)/\W'.cell? ⟨bw,0,none⟩=some (.bool s5)/\W'.cell? ⟨bw,1,none⟩=some (.slice a5 n5 c5)/\W'.cell? ⟨bw,2,none⟩=some (.slice d5 k5 e5)):=hid fun Y W' h hy1 hy2 hy3=>by
      have z1:=hcc.out Y W' ((ExtX.of hE5d).trans h) hy1;have z2:=b5.ext h hy2;have z3:=(r1.ext0 hEd).ext h hy3;exact⟨z1.1,z1.2.1,z1.2.2,z2.cell 0 rfl,z2.cell 1 rfl,z2.cell 2 rfl,z3.cell 0 rfl,z3.cell 1 rfl,z3.cell 2 rfl⟩
     obtain⟨k00,k01,k02,k10,k11,k12,k20,k21,k22⟩:=hS.out noY w5.drew (ExtX.refl _) rfl rfl rfl;have hR5:=r1.ext0 hEd;clear r1 bx hcc;rw[hbw];go_wp2_with fail
     go_region_with (first|(go_at_call 169;(with_reducible refine(c0M Z w5.drew _ _ _ _ hXd hf5 hx5).mono ?_);rintro ee w6 ⟨t1,u6,rfl,hu6⟩;obtain⟨s6,a6,n6,c6,d6,k6,e6,rfl⟩:=hu6.shape;have hX6:=hXd.ext t1;have hy6:=mkx QV.mono hy5 t1;have hm6:=hu6.qv hbm.out;obtain⟨m0,m1,m2,_⟩:=hS.out noY w6 t1 rfl rfl rfl)|(go_at_call 111;(with_reducible refine(c0N Z w6 _ _ _ _ hX6 hy6 hm6).mono ?_);rintro ee w7 ⟨t7,u7,rfl,hu7⟩;obtain⟨s7,a7,n7,c7,d7,k7,e7,rfl⟩:=hu7.shape;rw[hEj.out]at hu7;have t2:=t1.trans t7;have hO7:=hO5.ext0 QC.elem t2;obtain⟨_,v0,v1,v2,_,⟨g0,f0⟩,⟨g1,f1⟩,⟨g2,f2⟩,_⟩:=hO7.cell3 j hjm hg;have hset:=hO7.set3 a5N QC.elem j hjm hg (v0:= .bool s7) (v1:= .slice a7 n7 c7) (v2:= .slice d7 k7 e7) (x:=v) (by rw[hu1.out];exact hu7)))
     all_goals
      obtain⟨q1,q2⟩:=hset;rw[hjs.out]at q1;have hP8:=(hP5.ext0 QC.elem t2).ext QC.elem q2 (fun k _ hk=>a5t (hz1 k hk) (hdis k hk)) (fun _ _ hk=>hk);have b8:=(b5.ext0 t2).ext q2 haf.out;have hf8:QV (mk Z _) _ _:=QV.mono _ _ _ _ (a0u q2 hz1) (mkx QV.mono hf5 t2);have hE8:=(hE.trans (ExtX.of (hE5d.trans t2))).trans q2;clear k00 k01 k02 k10 k11 k12 k20 k21 k22 m0 m1 m2 g0 g1 g2 f0 f1 f2 i1;go_wp2_with fail
      go_roundw
      case rel=>exact⟨j+1,by go_num,by omega,q1,hP8,b8,hf8,hE8⟩
      case measure=>simp[intOf];omega
    ·have hjn:j=n:=by omega
     subst hjn;rw[a5w (by rw[hEl.out];exact Nat.le_refl _) (by rw[hl1'.out];exact Nat.le_refl _)]at hO1;go_wp2_with fail
     go_end0
     exact⟨rfl,hE,hO1⟩
end Go.Proofs.YtoibhmjjhgaimaaGreat
namespace Go.Lin
def c1g:Option Nat->Int
 |none=> -1
 |some k=>k
end Go.Lin
namespace Go.Proofs.YtoibhmjjhgaimaaGreat
open Go.RowKit Go.Rep Go.Lim Go.Lin
theorem a9Z (X:Nat->Bool) (w:World) (a:Option Addr) (l:List Rat) (n c col b:Nat) (hX:HX X w) (hs:Sl QC 3 (mk X w) a l) (hl:l.length=n) (hcol:col<n) (hB:BR 68719476736 l) (hb:w.cell? ⟨b,0,none⟩=some (.int .i64 (col:Int))):
  Calls Tryz.prog 252 #[.slice a n c, .pointer (some ⟨b,0,none⟩)] w (a7A w (decide (l.getD col 0≠0))):=by
 have hh:Hd a n:=by have:=hs.hd;rw[hl]at this;exact this
 have hcl:col<l.length:=by omega
 have hsv:=hs.qv hB;obtain⟨x,hx⟩:∃x,l[col]=x:=⟨_,rfl⟩;have hg:Hid (l.getD col 0=x):=hid (by simp[List.getD_eq_getElem?_getD,hcl,hx]);have hx':=hid hx;clear hl hB hx;rw[hg.out];by_cases h0:x=0
 ·have hr:Hid (decide (x≠0)=false):=hid (by simp[h0])
  have hs0:Hid (x.num.sign=0):=hid (by rw[h0];rfl);rw[hr.out];clear h0;go_enter Tryz.func252,Tryz.ntmps252
  go_wp2_with (first|(with_reducible refine a1E a0J (by omega) (by assumption) ?_)|((with_reducible show wpList _ _ _ (⟨_, .load 32 _,_,_,_,_⟩::_) _ _);refine a0W a0w col hsv hcl rfl (by simp) QV.agg ?_;intro u5 hu5;rw[hx'.out]at hu5;obtain⟨s5,a5,n5,c5,d5,k5,e5,rfl⟩:=hu5.shape))
  refine(a5P X w _ x hX hu5).mono ?_;rintro e w7 ⟨hE7,rfl⟩;rw[hs0.out];go_wp2_with fail
  go_ret
  exact⟨hE7,rfl⟩
 ·have hr:Hid (decide (x≠0)=true):=hid (by simp[h0])
  have hs0:((x.num.sign:Int) !=0)=true:=a5C (by intro h;exact h0 (Rat.num_eq_zero.1 (Int.sign_eq_zero_iff_zero.1 h)));rw[hr.out];clear h0;go_enter Tryz.func252,Tryz.ntmps252
  go_wp2_with (first|(with_reducible refine a1E a0J (by omega) (by assumption) ?_)|((with_reducible show wpList _ _ _ (⟨_, .load 32 _,_,_,_,_⟩::_) _ _);refine a0W a0w col hsv hcl rfl (by simp) QV.agg ?_;intro u5 hu5;rw[hx'.out]at hu5;obtain⟨s5,a5,n5,c5,d5,k5,e5,rfl⟩:=hu5.shape))
  refine(a5P X w _ x hX hu5).mono ?_;rintro e w7 ⟨hE7,rfl⟩;generalize x.num.sign=sg at hs0;go_wp2_with fail
  go_ret
  exact⟨hE7,rfl⟩
set_option maxRecDepth 100000 in
theorem a8v (X:Nat->Bool) (w:World) (a:Option Addr) (l:List (List Rat)) (n c nc col b:Nat) (hX:HX X w) (hs:Sl RC 1 (mk X w) a l) (hl:l.length=n) (hn:n<=1000000) (hr:∀r∈l,r.length=nc) (hcol:col<nc) (hB:BM 68719476736 l) (hb:w.cell? ⟨b,0,none⟩=some (.int .i64 (col:Int))):
  Calls Tryz.prog 251 #[.slice a n c, .func (.func 252) #[] #[.pointer (some ⟨b,0,none⟩)]] w (fun e w'=>Ext w w'/\e= .returned (.int .i64 (c1g (l.findIdx? fun r=>decide (r.getD col 0≠0))))):=by
 have hh:Hd a n:=by have:=hs.hd;rw[hl]at this;exact this
 have hl':=hid hl;have hr':=hid hr;have hB':=hid hB;have hres1:Hid (∀i (hi:i<l.length),(∀q (hq:q<l.length),q<i->l[q].getD col 0=0)->l[i].getD col 0≠0->l.findIdx? (fun r=>decide (r.getD col 0≠0))=some i):=hid fun i hi h1 h2=>by
  rw[List.findIdx?_eq_some_iff_getElem];exact⟨hi,by simpa using h2,fun q hq=>by simpa using h1 q (by omega) hq⟩
 have hres2:Hid ((∀q (hq:q<l.length),l[q].getD col 0=0)->l.findIdx? (fun r=>decide (r.getD col 0≠0))=none):=hid fun h1=>by
  rw[List.findIdx?_eq_none_iff];intro r hr;obtain⟨q,hq,rfl⟩:=List.getElem_of_mem hr;simpa using h1 q hq
 obtain⟨F,hF⟩:∃F,l.findIdx? (fun r=>decide (r.getD col 0≠0))=F:=⟨_,rfl⟩;rw[hF]at hres1 hres2 |-;clear hl hr hB hF;go_enter Tryz.func251,Tryz.ntmps251
 go_wp2_with fail
 go_loopw [8] (fun k wr=>∃(i:Nat),k= .int .i64 i/\i<=n/\Hid (∀q (hq:q<l.length),q<i->l[q].getD col 0=0)/\Ext w wr) (fun k _=>n - (intOf k).toNat)
 case atStart=>exact⟨0,rfl,Nat.zero_le _,hid (fun q hq h=>by omega),ExtX.refl _⟩
 case round=>
  obtain⟨i,rfl,hi,hok,hE⟩:=hrel;by_cases hlt:i<n
  ·have hil:i<l.length:=by rw[hl'.out];exact hlt
   obtain⟨a1,c1,hX1,hc1,hcl1,hq1⟩:=(hs.mono RC.mono (a0m hE)).row i hil;have k00:=hc1.out noY wr (ExtX.refl _) rfl;have hrl:=hid (hr'.out l[i] (List.getElem_mem _));have hbl:=hid (hB'.out l[i] (List.getElem_mem _));rw[hrl.out]at k00;have hcell:=hE.cell hb;have hcall:=a9Z X wr a1 l[i] nc c1 col b (hX.ext hE) hq1 hrl.out hcol hbl.out hcell;by_cases h0:l[i].getD col 0=0
   ·have hd:Hid (decide (l[i].getD col 0≠0)=false):=hid (decide_eq_false (fun h=>h h0))
    rw[hd.out]at hcall;have hok2:Hid (∀q (hq:q<l.length),q<i+1->l[q].getD col 0=0):=hid fun q hq hqi=>by
     by_cases e:q=i
     ·subst e;exact h0
     ·exact hok.out q hq (by omega)
    clear h0 hc1 hq1;go_wp2_with (with_reducible refine a0n a0o (by omega) (by assumption) ?_)
    refine hcall.mono ?_;rintro e w5 ⟨hE5,rfl⟩;clear k00;go_wp2_with fail
    go_roundw
    case rel=>exact⟨i+1,by go_num,by omega,hok2,hE.trans hE5⟩
    case measure=>simp[intOf];omega
   ·have hd:Hid (decide (l[i].getD col 0≠0)=true):=hid (decide_eq_true h0)
    rw[hd.out]at hcall;have hf:=hid (hres1.out i hil (fun q hq hqi=>hok.out q hq hqi) h0);clear h0 hc1 hq1;go_wp2_with (with_reducible refine a0n a0o (by omega) (by assumption) ?_)
    refine hcall.mono ?_;rintro e w5 ⟨hE5,rfl⟩;clear k00;go_wp2_with fail
    go_ret
    exact⟨hE.trans hE5,a0U (by rw[hf.out];rfl)⟩
  ·have hf:=hid (hres2.out fun q hq=>hok.out q hq (by rw[hl'.out]at hq;omega))
   go_wp2_with fail
   go_ret
   exact⟨hE,a0U (by rw[hf.out];rfl)⟩
end Go.Proofs.YtoibhmjjhgaimaaGreat
