/- matrix: reduce. Conditions: few rows and columns, numbers of at most 2^36 digits. matrix: Reduce. Conditions: few rows and columns, numbers of at most 2^36 digits. matrix: Null; slices.Contains. Conditions: few rows and columns, numbers of few digits. What Solve and Null return, for law 06. Conditions: at most four rows and columns. The inverse that the program computes. Conditions: at most four rows where a determinant is spoken of. Least squares, as lists: what the program and the reference return. Conditions: at most four columns. Least squares: moments row by row, in any order; responses that are changed. Conditions: none. Least squares over some columns: the moments of the part are the part of the moments; one column more does not make the rss greater. Conditions: none. The ascending lists of h of the integers from lo to lo + m - 1, in lexicographic order. Plain mathematics. Conditions: none. The search for the depth over lists: its steps as the program takes them. Conditions: none. The least sum of squares over k columns does not grow with k. Conditions: none. selection: design. Conditions: lengths far below any machine's. Readings for least squares: lists of booleans, moments, fits. Conditions: none. Structs of more cells in boxes; masks of a fresh box. Conditions: none. The memory of the reference's elimination: rows, pivots, factor, and what each step leaves of them. Conditions: none. reference 06: what its elimination needs of plain lists. Conditions: none. Least squares: bounds of digits. Conditions: at most 8 rows and 4 columns of numbers of at most 370 digits. A drawn region whose last operation waits for all others: the loads are taken first under a condition that need not hold behind the last operation. Conditions: none. reference 06: Columns, Formed. Conditions: lengths far below any machine's. -/
import Derived.Test.YtidbbddagfnfbaaGreatSfH
import Derived.OrdersHeld
import Derived.StillTail
import Derived.Deep.RegionHeld
import Derived.WalkKit
namespace Go.Lin
theorem a8s {n c B t i col:Nat} {m:Mat} (hs:Shp n c m) (h:HB B m) (ht:t<n) (_hi:i<n) (hit:i≠t) (hB:7*B<=68719476736):
  Go.Rep.BR 68719476736 ((divL m t col).getD i [])/\Go.Rep.BR 68719476736 ((divL m t col).getD t [])/\Go.Lim.hq (((divL m t col).getD i []).getD col 0/((divL m t col).getD t []).getD col 0)<=68719476736/\∀x∈(divL m t col).getD t [],Go.Lim.hq (((divL m t col).getD i []).getD col 0/((divL m t col).getD t []).getD col 0*x)<=68719476736:=by
 have h2:=h.divL hs ht col;have hrow:∀k,Go.Rep.BR (2*B) ((divL m t col).getD k []):=fun k q hq=>by
  obtain⟨j,hj,rfl⟩:=List.getElem_of_mem hq;have e:((divL m t col).getD k []).getD j 0=((divL m t col).getD k [])[j]:=by rw[List.getD_eq_getElem?_getD,List.getElem?_eq_getElem hj];rfl
  rw[<-e];exact h2 k j
 have h1:Go.Lim.hq (((divL m t col).getD i []).getD col 0)<=B:=by
  have:=a3o hs ht col i col;rw[if_neg hit]at this;unfold ent at this;rw[this];exact h i col
 have h3:Go.Lim.hq (((divL m t col).getD t []).getD col 0)<=2*B:=h2 t col;have h4:=Go.Lim.hq_div (((divL m t col).getD i []).getD col 0) (((divL m t col).getD t []).getD col 0);refine⟨fun q hq=>Nat.le_trans (hrow i q hq) (by omega),fun q hq=>Nat.le_trans (hrow t q hq) (by omega),by omega,fun x hx=>?_⟩;have h5:=hrow t x hx;have h6:=Go.Lim.hq_mul (((divL m t col).getD i []).getD col 0/((divL m t col).getD t []).getD col 0) x;omega
end Go.Lin
namespace Go.Rep
theorem a8t {P:Program} {t e sz by_:Nat} {z:Value} {ao:Option Addr} (T:SliceT P t e sz by_ z) (len cap:Nat) (k1:IntKind) (i:Nat) (h1:i<=cap) (w:World):
  (Instr.sliceAt t (.slice ao len cap) none (some (.int k1 (i:Int))) none).run P w= .ok (.slice ao i cap) w:=by
 obtain⟨ti,hi,hz,hsz,hby⟩:=info_parts T.info;have h1':(i:Int)<=cap:=by omega
 cases ao<;>simp[Instr.sliceAt,Instr.slice,run_underlying T.und,Instr.sliceBounds,run_sliceBound,h1',sizeOf,typeInfo,hi,Addr.add_zero']
end Go.Rep
namespace Go.Proofs.YtidbbddagfnfbaaGreat
open Go.RowKit Go.Rep Go.Lim Go.Lin
def c0j (X:Nat->Bool) (base:Nat) (w:World) (ao:Option Addr) (cap:Nat) (hs:List Hdr) (s:Mat×List Nat) (e:Ending) (w':World):Prop:=
 ExtX (mb ao hs) w w'/\∃po pc hs',e= .returned (.slice po s.2.length pc)/\mb ao hs'=mb ao hs/\MO (un X po) base 24 45 w' ao cap hs' s.1/\OL (a0d .i64) 1 (mz X ao hs) w.heap.size 3 w' po pc s.2
set_option maxRecDepth 100000 in
set_option maxHeartbeats 1600000 in
theorem a9g (X:Nat->Bool) (base:Nat) (w:World) (ao:Option Addr) (cap n c:Nat) (hs:List Hdr) (m:List (List Rat)) (hX:HX X w) (hM:MO X base 24 45 w ao cap hs m) (hsh:Shp n c m) (hc:a0B m=c) (hn:n<=900) (hcc:c<=900) (hT:b4q m c):
  Calls Tryz.prog 276 #[.slice ao n cap] w (c0j X base w ao cap hs (a1b m c)):=by
 have hech:=a6n X base w ao cap n c hs m hX hM hsh hc hn hcc hT.e;obtain⟨B,hB7,_,hBt⟩:=hT;have hok:=a5L hsh c;have hcap:n<=cap:=by have:=hM.capLen;rw[hsh.1]at this;exact this
 have hhO:Hd ao n:=by have:=hM.outer.hd;rw[hM.len,hsh.1]at this;exact this
 have hred:a1b m c=(dN (eN m c).1 (eN m c).2.1 (eN m c).2.1.length,(eN m c).2.1):=rfl;obtain⟨⟨E,p,od⟩,hS⟩:∃S,eN m c=S:=⟨_,rfl⟩;rw[hS]at hech hok hBt hred;rw[hred]
 dsimp only at hBt |-
 obtain⟨pl,hpl⟩:∃pl,p.length=pl:=⟨_,rfl⟩;have hEs:Shp n c E:=hok.shp;have hEe:Ech n c (ent E) p:=hok.ech;have hpn:pl<=n:=by have:=hEe.le;omega
 have hDok:=hid (b6T hEs hEe);have hDB:Hid (∀t,t<=p.length->HB B (dN E p t)):=hid hBt;have hDb:=hid hB7;have hplt:Hid (∀i (hi:i<p.length),p[i]<c):=hid hEe.lt;have hpl':=hid hpl;have hn0:Hid (HX X w):=hid hX;clear hsh hBt hB7 hred hS hok hEe hc;go_enter Tryz.func276,Tryz.ntmps276
 go_wp2_with fail
 refine hech.mono ?_;rintro e w1 ⟨hE1,po,pc,hs',rfl,hmb,hM1,hP1⟩
 dsimp only at hM1 hP1 |-
 rw[hpl];have hmb':=hid hmb;have hlen:=hid (hM1.len.trans hEs.1);have hdP:Hd po pl:=by have:=hP1.hd;rw[hpl]at this;exact this
 clear hech hmb hpl hM;go_wp2_with fail
 go_loopw [19] (fun k wr=>∃(i:Nat),k= .int .i64 i/\i<=pl/\MO (un X po) base 24 45 wr ao cap hs' (dN E p i)/\OL (a0d .i64) 1 (mz X ao hs) w.heap.size 3 wr po pc p/\ExtX (mb ao hs) w wr) (fun k _=>pl - (intOf k).toNat)
 case atStart=>exact⟨0,rfl,Nat.zero_le _,hM1,hP1,hE1⟩
 case round=>
  obtain⟨i,rfl,hi,hM,hP,hE⟩:=hrel;by_cases hlt:i<pl
  ·have hip:i<p.length:=by rw[hpl'.out];exact hlt
   have hin:i<n:=by omega
   have hcl:=hplt.out i hip;have hPs:=(hP.sl (a0d.elem _)).nat i hip;have hD:=hDok.out i (by rw[hpl'.out];omega);have hDBi:=hDB.out i (by rw[hpl'.out];omega);have hDbi:=hDb.out;have hgd:Hid (p.getD i 0=p[i]):=hid (by simp[List.getD_eq_getElem?_getD,hip]);have hdn:Hid (dN E p (i+1)=dStep (dN E p i) i p[i]):=hid (by rw[<-hgd.out];rfl);obtain⟨D,hDe⟩:∃D,dN E p i=D:=⟨_,rfl⟩;obtain⟨col,hcole⟩:∃col,p[i]=col:=⟨_,rfl⟩;rw[hDe]at hM hD hDBi hdn;rw[hcole]at hPs hcl hdn;have hDs:Shp n c D:=hD.shp;have hDl:=hid hDs.1;have hih:i<hs'.length:=by rw[hlen.out];exact hin
   have hiD:i<D.length:=by rw[hDl.out];exact hin
   obtain⟨a,na,cr,hhd⟩:∃a na cr,hs'[i]=(a,na,cr):=⟨_,_,_,rfl⟩;obtain⟨row,hrow⟩:∃row,D[i]=row:=⟨_,rfl⟩;have hrl:Hid (row.length=c):=hid (by rw[<-hrow];exact hDs.2 _ (List.getElem_mem _));have hna:na=c:=by
    have:=hM.rlen i hih hiD;rw[hhd,hrow,hrl.out]at this;exact this
   subst hna;have hR:=hM.row i hih hiD;rw[hrow]at hR;simp only[hhd]at hR;have hz1:=fun k (hk:ob a k=true)=>hM.mz_sub hih k (by rw[hhd];exact hk);have hsp:=fun k (hk:ob a k=true)=>hM.sep i hih k (by rw[hhd];exact hk);have hda:Hd a na:=by have:=hR.hd;rw[hrl.out]at this;exact this
   have hun:Hid (un (cut (mz (un X po) ao hs') a) a=mz (un X po) ao hs'):=hid (a5E hz1);have haob:Hid (ob a (adr ao i).block=false):=hid (by
    cases hb:ob a (adr ao i).block
    ·rfl
    ·have h1:=(hsp _ hb).2
     obtain⟨b0,o0,rfl⟩:=hhO (by omega);simp[ob,adr]at h1)
   have y1:wr.cell? (adr ao i)=some (.slice a na cr):=by
    have:=(hM.hdr i hih).1;rw[hhd]at this;exact this
   have hcr:col<row.length:=by rw[hrl.out];exact hcl
   have hby:Hid (row[col]=ent D i col):=hid (by
    unfold ent;rw[a2z hiD];simp[hrow,List.getD_eq_getElem?_getD,hcr])
   obtain⟨by_,hbye⟩:∃b,ent D i col=b:=⟨_,rfl⟩;have hbq:Hid (hq by_<=68719476736):=hid (by rw[<-hbye];exact Nat.le_trans (hDBi i col) (by omega));have hBrow:Hid (BR 68719476736 row):=hid fun q hq=>by
    obtain⟨x,hx,rfl⟩:=List.getElem_of_mem hq;have:=hDBi.bm D[i] (List.getElem_mem _) row[x] (by rw[hrow];exact List.getElem_mem _);omega
   have hdiv:Hid (D.set i (row.map (· /by_))=divL D i col):=hid (by
    unfold divL;rw[a2z hiD,hrow,hbye])
   rw[hbye]at hby;have bx:=Bx.new wr #[.bool false, .slice none 0 0, .slice none 0 0] 45;have hhd':=hid hhd;have hrow':=hid hrow;clear hhd hrow hDe hcole hbye;go_wp2_with (first|(with_reducible refine a0t a4o (by omega) (by assumption) ?_)|(with_reducible refine a0t a0r (by omega) (by assumption) ?_)|(with_reducible refine a2a a0D (by omega) (by assumption) ?_)|((with_reducible show wpList _ _ _ (⟨_, .load 45 _,_,_,_,_⟩::_) _ _);refine a4V a0u col hR hcr rfl (by simp) QC.agg ?_;intro u5 hu5;rw[hby.out,hun.out]at hu5;obtain⟨s5,a5,n5,c5,d5,k5,e5,rfl⟩:=hu5.shape)|((with_reducible show wpList _ _ _ (⟨_, .store _ _ _,_,_,_,_⟩::_) _ _);refine a0c a0u rfl rfl bx rfl rfl (a2g _ _ _ _ _ _ _) ?_;intro w5 r1 r2;have y2:=(ExtX.box ((ExtX.refl wr).alloc _) r2 (Nat.le_refl _):Ext wr w5).cell y1))
   have hE5:Ext wr w5:=ExtX.box ((ExtX.refl wr).alloc _) r2 (Nat.le_refl _);have hM5:=hM.ext0 hE5;have hP5:=hP.ext0 (a0d.elem _) hE5;have hq5:QV (mk (mz (un X po) ao hs') w5) (.agg #[.bool s5, .slice a5 n5 c5, .slice d5 k5 e5]) by_:=(mkx QC.mono hu5 hE5).qv hbq.out;have hE15:=hE.trans (ExtX.of (Y:=mb ao hs) hE5);obtain⟨bb,hbb⟩:∃bb,wr.heap.size=bb:=⟨_,rfl⟩;rw[hbb]at r1 |-;have hmbb:Hid (mb ao hs bb=false):=hid (by
    rw[<-hmb'.out];cases hb:mb ao hs' bb
    ·rfl
    ·have:=(hM.mb_block hb).2;omega)
   obtain⟨R,hRe⟩:∃R,row.map (· /by_)=R:=⟨_,rfl⟩;have hRl:Hid (R.length=na):=hid (by rw[<-hRe,List.length_map];exact hrl.out);have hRr:Hid (R.length=row.length):=hid (by rw[hRl.out,hrl.out]);have hRj:Hid (∀j (h1:j<row.length) (h2:j<R.length),R[j]=row[j]/by_):=hid fun j h1 h2=>by subst hRe;simp
   rw[hRe]at hdiv;have hM5':MO (un X po) base 24 45 w5 ao cap hs' (D.set i (mix R row 0)):=by
    rw[a4T,<-hrow'.out,List.set_getElem_self];exact hM5
   clear hR hRe bx y1 y2 hM5 hu5 hM hP;go_loopw [36] (fun k wx=>∃(j:Nat),k= .int .i64 j/\j<=na/\MO (un X po) base 24 45 wx ao cap hs' (D.set i (mix R row j))/\OL (a0d .i64) 1 (mz X ao hs) w.heap.size 3 wx po pc p/\Bx wx bb #[.bool s5, .slice a5 n5 c5, .slice d5 k5 e5] 45/\QV (mk (mz (un X po) ao hs') wx) (.agg #[.bool s5, .slice a5 n5 c5, .slice d5 k5 e5]) by_/\ExtX (mb ao hs) w wx) (fun k _=>na - (intOf k).toNat)
   case atStart=>exact⟨0,rfl,Nat.zero_le _,hM5',hP5,r1,hq5,hE15⟩
   case round=>
    obtain⟨j,rfl,hj,hM,hP,hB7,hq7,hE⟩:=hrel;by_cases hlj:j<na
    ·have hjr:j<row.length:=by rw[hrl.out];exact hlj
     have hjR:j<R.length:=by rw[hRl.out];exact hlj
     have hml:Hid ((mix R row j).length=na):=hid (by rw[a2j hRr.out,hRl.out]);have hjm:j<(mix R row j).length:=by rw[hml.out];exact hlj
     have hmg:Hid ((mix R row j)[j]=row[j]):=hid (by rw[a1W hRr.out,if_neg (by omega)]);have hjs:Hid ((mix R row j).set j R[j]=mix R row (j+1)):=hid (a6m hRr.out hjR);have hRjj:=hid (hRj.out j hjr hjR);have hbr:=hid (hBrow.out row[j] (List.getElem_mem _));have hset9:Hid (i<(D.set i (mix R row j)).length):=hid (by rw[List.length_set];exact hiD);have hR:=hM.row i hih hset9.out;rw[List.getElem_set_self]at hR;simp only[hhd'.out]at hR;obtain⟨x,hx⟩:∃x,row[j]=x:=⟨_,rfl⟩;obtain⟨v,hv⟩:∃v,R[j]=v:=⟨_,rfl⟩;rw[hx]at hmg hbr hRjj;rw[hv]at hjs hRjj;have hXr:HX X wr:=hn0.out.ext hE;have hXu:HX (un X po) wr:=fun k hk=>by
      by_cases hx:X k=true
      ·exact hXr k hx
      ·exact(hP.block (by simpa[un,hx]using hk)).2
     have hXz:=hM.hz hXu;obtain⟨g,o,hg⟩:∃g o,adr a (j*3)=⟨g,o,none⟩:=⟨_,_,rfl⟩;have i1:∀W,(Instr.indexAt 23 (.slice ao n cap) (.int .i64 (i:Int))).run Tryz.prog W= .ok (.pointer (some (adr ao i))) W:=a0C a0r ao n cap .i64 i hhO (by omega) rfl;have bx:=Bx.new wr #[.bool false, .slice none 0 0, .slice none 0 0] 45;have y1:wr.cell? (adr ao i)=some (.slice a na cr):=by
      have:=(hM.hdr i hih).1;rw[hhd'.out]at this;exact this
     have hsp2:=hid hsp
     replace hg:=hid hg
     clear hx hv hsp;go_wp2_with (first|(with_reducible refine a2a a0D (by omega) (by assumption) ?_)|((with_reducible show wpList _ _ _ (⟨_, .load 45 _,_,_,_,_⟩::_) _ _);refine a4V a0u j hR hjm rfl (by simp) QC.agg ?_;intro u6 hu6;rw[hmg.out,hun.out]at hu6;obtain⟨s6,a6,n6,c6,d6,k6,e6,rfl⟩:=hu6.shape)|((with_reducible show wpList _ _ _ (⟨_, .store _ _ _,_,_,_,_⟩::_) _ _);refine a0c a0u rfl rfl bx rfl rfl (a2g _ _ _ _ _ _ _) ?_;intro w6 r3 r4))
     have i2:∀W,(Instr.indexAt 24 (.slice a na cr) (.int .i64 (j:Int))).run Tryz.prog W= .ok (.pointer (some ⟨g,o,none⟩)) W:=by rw[<-hg.out];exact a0h a0D a na cr .i64 j hda (by omega)
     have hE6:Ext wr w6:=ExtX.box ((ExtX.refl wr).alloc _) r4 (Nat.le_refl _);have hEd:Ext w6 w6.drew:=(ExtX.refl w6).drew;have hE6d:=hE6.trans hEd;have hM6:=hM.ext0 hE6d;have hP6:=hP.ext0 (a0d.elem _) hE6d;have hR6:=hR.ext0 QC.elem hE6d;have hB6:=hB7.ext0 hE6d;have hx6:QV (mk (mz (un X po) ao hs') w6.drew) (.agg #[.bool s6, .slice a6 n6 c6, .slice d6 k6 e6]) x:=(mkx QC.mono hu6 hE6d).qv hbr.out;have hb6:QV (mk (mz (un X po) ao hs') w6.drew) (.agg #[.bool s5, .slice a5 n5 c5, .slice d5 k5 e5]) by_:=mkx QV.mono hq7 hE6d;have hXd:=hXz.ext hE6d;have r3d:=r3.ext0 hEd;obtain⟨bw,hbw⟩:∃bw,wr.heap.size=bw:=⟨_,rfl⟩;rw[hbw]at r3d;have hab:Hid (ob a bw=false):=hid (by rw[<-hbw];exact hR.ob_ge (Nat.le_refl _));have habb:Hid (ob a bb=false):=hid (by
      cases hb:ob a bb
      ·rfl
      ·have h5:mb ao hs' bb=true:=a2n.2 (.inr (a1H hih (show ob hs'[i].1 bb=true by rw[hhd'.out];exact hb)))
       rw[hmb'.out,hmbb.out]at h5;simp at h5)
     have hS:Hid (∀Y W',ExtX Y w6.drew W'->Y (adr ao i).block=false->Y bw=false->Y bb=false->W'.cell? (adr ao i)=some (.slice a na cr)/\W'.cell? ⟨bw,0,none⟩=some (.bool s6)/\W'.cell? ⟨bw,1,none⟩=some (.slice a6 n6 c6)/\W'.cell? ⟨bw,2,none⟩=some (.slice d6 k6 e6)/\W'.cell? ⟨bb,0,none⟩=some (.bool s5)/\W'.cell? ⟨bb,1,none⟩=some (.slice a5 n5 c5)/\W'.cell? ⟨bb,2,none⟩=some (.slice d5 k5 e5)):=hid fun Y W' h hy1 hy2 hy3=>by
      have z2:=r3d.ext h hy2;have z3:=hB6.ext h hy3;exact⟨h.cellY (hE6d.cell y1) hy1,z2.cell 0 rfl,z2.cell 1 rfl,z2.cell 2 rfl,z3.cell 0 rfl,z3.cell 1 rfl,z3.cell 2 rfl⟩
     obtain⟨k00,k10,k11,k12,k20,k21,k22⟩:=hS.out noY w6.drew (ExtX.refl _) rfl rfl rfl;have qd:=c0a (mz (un X po) ao hs') w6.drew _ _ _ _ hXd hx6 hb6;rw[<-hRjj.out]at qd;have qd2:Calls Tryz.prog 208 #[.agg #[.bool s6, .slice a6 n6 c6, .slice d6 k6 e6], .agg #[.bool s5, .slice a5 n5 c5, .slice d5 k5 e5]] w6.drew (fun e w'=>Ext w6.drew w'/\∃u ec,e= .returned (.tuple #[u, .int .i64 ec])/\QC (mk (mz (un X po) ao hs') w') u v):=qd.mono fun e w' ⟨q1,u,q2,q3⟩=>⟨q1,u,_,q2,q3⟩;clear qd r3 bx y1;rw[hbw];go_wp2_with fail
     go_region_held3 (fun w'=>w'.cell? (adr ao i)=some (.slice a na cr)/\w'.cell? ⟨bw,0,none⟩=some (.bool s6)/\w'.cell? ⟨bw,1,none⟩=some (.slice a6 n6 c6)/\w'.cell? ⟨bw,2,none⟩=some (.slice d6 k6 e6)/\w'.cell? ⟨bb,0,none⟩=some (.bool s5)/\w'.cell? ⟨bb,1,none⟩=some (.slice a5 n5 c5)/\w'.cell? ⟨bb,2,none⟩=some (.slice d5 k5 e5))
      (first|exact hS.out noY _ t1 rfl rfl rfl|exact hS.out (ob a) _ ((ExtX.of t1).trans hset.2) haob.out hab.out habb.out|go_keep)
      ((go_at_call 208;(with_reducible refine qd2.mono ?_);rintro ee w7 ⟨t1,u7,ec7,rfl,hu7⟩;obtain⟨s7,a7,n7,c7,d7,k7,e7,rfl⟩:=hu7.shape;have hO7:=hR6.ext0 QC.elem t1;obtain⟨_,v0,v1,v2,_,⟨g0,f0⟩,⟨g1,f1⟩,⟨g2,f2⟩,_⟩:=hO7.cell3 j hjm hg.out;have hset:=hO7.set3 a6E QC.elem j hjm hg.out (v0:= .bool s7) (v1:= .slice a7 n7 c7) (v2:= .slice d7 k7 e7) (x:=v) (by rw[hun.out];exact hu7)))
     obtain⟨q1,q2⟩:=hset;rw[hjs.out]at q1;obtain⟨w8,hw8⟩:∃w8,((w7.setCell ⟨g,o,none⟩ (.bool s7)).setCell ⟨g,o+1,none⟩ (.slice a7 n7 c7)).setCell ⟨g,o+2,none⟩ (.slice d7 k7 e7)=w8:=⟨_,rfl⟩;rw[hw8]at q1 q2 |-;have q2':ExtX (ob hs'[i].1) w7 w8:=by rw[hhd'.out];exact q2
     have hM7:=(hM6.ext0 t1).upd hih (l:=mix R row (j+1)) q2' (fun hi'=>by rw[List.getElem_set_self,a2j hRr.out,a2j hRr.out]) (by rw[hhd'.out];exact q1);rw[List.set_set]at hM7;have hP8:=(hP6.ext0 (a0d.elem _) t1).frame (a0d.pure _) q2 (fun k hk=>by
      cases hb:ob a k
      ·rfl
      ·have:=(hsp2.out k hb).1;rw[a0q hk]at this;simp at this) hP.1
     have hB8:=(hB6.ext0 t1).ext q2 habb.out;have hq8:=QV.mono _ _ _ _ (a0x q2 hz1) (mkx QV.mono hb6 t1);have hE8:=(hE.trans (ExtX.of (hE6d.trans t1))).trans (show ExtX (mb ao hs) w7 w8 by rw[<-hmb'.out];exact ExtX.row hih q2');clear k00 k10 k11 k12 k20 k21 k22 g0 g1 g2 f0 f1 f2 i1 i2 hw8;go_wp2_with fail
     go_roundw
     case rel=>exact⟨j+1,by go_num,by omega,hM7,hP8,hB8,hq8,hE8⟩
     case measure=>simp[intOf];omega
    ·have hjn:j=na:=by omega
     subst hjn;rw[a4U (by rw[hRl.out];exact Nat.le_refl _) (by rw[hrl.out];exact Nat.le_refl _),hdiv.out]at hM;obtain⟨D2,hD2⟩:∃D2,divL D i col=D2:=⟨_,rfl⟩;have hsh2:Shp n j D2:=by rw[<-hD2];exact hDs.divL hin col
     have hbnd:Hid (∀t,t<i->BR 68719476736 (D2.getD t [])/\BR 68719476736 (D2.getD i [])/\hq ((D2.getD t []).getD col 0/(D2.getD i []).getD col 0)<=68719476736/\∀x∈D2.getD i [],hq ((D2.getD t []).getD col 0/(D2.getD i []).getD col 0*x)<=68719476736):=hid fun t ht=>by
      rw[<-hD2];exact a8s hDs hDBi hin (by omega) (by omega) hDbi
     have hdn2:Hid (above D2 i col i=dN E p (i+1)):=hid (by rw[hdn.out];unfold dStep;rw[hD2]);rw[hD2]at hM;have hD2l:=hid hsh2.1;have hM':MO (un X po) base 24 45 wr ao cap hs' (above D2 i col 0):=by rw[b0P];exact hM
     have hicap:i<=cap:=by omega
     have f1:∀W,(Instr.sliceAt 23 (.slice ao n cap) none (some (.int .i64 (i:Int))) none).run Tryz.prog W= .ok (.slice ao i cap) W:=a8t a0r n cap .i64 i hicap;have hhOi:Hd ao i:=fun h0=>hhO (by omega);clear hM hD2 hB7 hq7;go_wp2_with fail
     go_loopw [58] (fun k wx=>∃(s:Nat),k= .int .i64 s/\s<=i/\MO (un X po) base 24 45 wx ao cap hs' (above D2 i col s)/\OL (a0d .i64) 1 (mz X ao hs) w.heap.size 3 wx po pc p/\ExtX (mb ao hs) w wx) (fun k _=>i - (intOf k).toNat)
     case atStart=>exact⟨0,rfl,Nat.zero_le _,hM',hP,hE⟩
     case round=>
      obtain⟨s,rfl,hs9,hM8,hP8,hE8⟩:=hrel;by_cases hls:s<i
      ·have htn:s<n:=by omega
       have hth:s<hs'.length:=by rw[hlen.out];exact htn
       have htm:s<D2.length:=by rw[hD2l.out];exact htn
       have hpm:i<D2.length:=by rw[hD2l.out];exact hin
       have htc:s<(above D2 i col s).length:=by rw[a3P];exact htm
       have hpc:i<(above D2 i col s).length:=by rw[a3P];exact hpm
       obtain⟨a1,n1,c1,hh1⟩:∃a n c,hs'[s]=(a,n,c):=⟨_,_,_,rfl⟩;have hg1:(above D2 i col s)[s]=D2[s]:=by rw[a3O htc htm,if_neg (by omega)]
       have hg2:(above D2 i col s)[i]=D2[i]:=by rw[a3O hpc hpm,if_neg (by omega)]
       have hn1':n1=j:=by
        have:=hM8.rlen s hth htc;rw[hh1,hg1,hsh2.2 _ (List.getElem_mem _)]at this;exact this
       subst hn1';have hR1:=hM8.row s hth htc;have hR2:=hM8.row i hih hpc;rw[hg1]at hR1;rw[hg2]at hR2;simp only[hh1]at hR1;simp only[hhd'.out]at hR2;have hzz1:=fun k (hk:ob a1 k=true)=>hM8.mz_sub hth k (by rw[hh1];exact hk);have hzz2:=fun k (hk:ob a k=true)=>hM8.mz_sub hih k (by rw[hhd'.out];exact hk);have hds:∀k,ob a1 k=true->ob a k=false:=fun k hk=>by
        have:=hM8.dis s i hth hih (by omega) k (by rw[hh1];exact hk);rw[hhd'.out]at this;exact this
       have hsp1:=fun k (hk:ob a1 k=true)=>hM8.sep s hth k (by rw[hh1];exact hk);have hBn:=hbnd.out s hls;rw[a2z htm]at hBn;have hcs:Hid ((above D2 i col s).set s (a2X D2[s] (D2.getD i []) col)=above D2 i col (s+1)):=hid (b2n htm hls);have hpe:D2.getD i []=D2[i]:=a2z hpm;rw[<-hpe]at hR2;have hrl1:=hid (hsh2.2 D2[s] (List.getElem_mem _));have hrl2:=hid (show(D2.getD i []).length=n1 by rw[hpe];exact hsh2.2 _ (List.getElem_mem _));obtain⟨rw1,hrow1⟩:∃rw1,D2[s]=rw1:=⟨_,rfl⟩;obtain⟨piv,hpiv⟩:∃piv,D2.getD i []=piv:=⟨_,rfl⟩;rw[hrow1,hpiv]at hcs;rw[hrow1]at hR1 hrl1;rw[hpiv]at hR2 hrl2;rw[hrow1,hpiv]at hBn;have hX8:HX (un X po) wr:=fun k hk=>by
        by_cases hx:X k=true
        ·exact hn0.out.ext hE8 k hx
        ·exact(hP8.block (by simpa[un,hx]using hk)).2
       have hZ8:=hM8.hz hX8;have hel:=a4W (mz (un X po) ao hs') base wr a1 a c1 cr n1 col rw1 piv hZ8 hR1 hR2 hzz1 hzz2 hds hrl1.out hrl2.out (by omega) hcl hBn.1 hBn.2.1 hBn.2.2.1 hBn.2.2.2;have y1:wr.cell? (adr ao s)=some (.slice a1 n1 c1):=by
        have:=(hM8.hdr s hth).1;rw[hh1]at this;exact this
       have y2:wr.cell? (adr ao i)=some (.slice a n1 cr):=by
        have:=(hM8.hdr i hih).1;rw[hhd'.out]at this;exact this
       have hh1':=hid hh1;clear hg1 hg2 hpe hrow1 hpiv hh1 hR1 hR2 hBn f1;go_wp2_with (with_reducible refine a0t a0r (by omega) (by assumption) ?_)
       refine hel.mono ?_;rintro ee w7 ⟨rfl,t1,hO7⟩;have hEr:ExtX (ob hs'[s].1) wr w7:=by rw[hh1'.out];exact t1
       have hM9:=hM8.upd hth (l:=a2X rw1 piv col) hEr (fun hi'=>by
        rw[a3O htc htm,if_neg (by omega),a3J _ _ _ (by rw[hrl1.out,hrl2.out]),hrl2.out];exact(hsh2.2 _ (List.getElem_mem _)).symm) (by rw[hh1'.out];exact hO7)
       rw[hcs.out]at hM9;have hP9:=hP8.frame (a0d.pure _) t1 (fun k hk=>by
        cases hb:ob a1 k
        ·rfl
        ·have:=(hsp1 k hb).1;rw[a0q hk]at this;simp at this) hP8.1
       have hE9:=hE8.trans (show ExtX (mb ao hs) wr w7 by rw[<-hmb'.out];exact ExtX.row hth hEr);clear y1 y2;go_wp2_with fail
       go_roundw
       case rel=>exact⟨s+1,by go_num,by omega,hM9,hP9,hE9⟩
       case measure=>simp[intOf];omega
      ·have hsi:s=i:=by omega
       subst hsi;rw[hdn2.out]at hM8;go_wp2_with fail
       go_roundw
       case rel=>exact⟨s+1,by go_num,by omega,hM8,hP8,hE8⟩
       case measure=>simp[intOf];omega
  ·have hil:i=pl:=by omega
   subst hil;rw[<-hpl'.out]at hM;go_wp2_with fail
   go_ret
   exact⟨hE,po,pc,hs',by rw[hpl'.out];rfl,hmb'.out,hM,hP⟩
end Go.Proofs.YtidbbddagfnfbaaGreat
namespace Go.Lin
open Go.Lim
end Go.Lin
namespace Go.Proofs.YtidbbddagfnfbaaGreat
open Go.RowKit Go.Rep Go.Lim Go.Lin
end Go.Proofs.YtidbbddagfnfbaaGreat
namespace Go.Lin
open Go.Lim
theorem c0k {l:List Rat} {B:Nat} (h:∀x,x<l.length->hq (l.getD x 0)<=B):Go.Rep.BR B l:=fun q hq=>by
 obtain⟨x,hx,rfl⟩:=List.getElem_of_mem hq;have:=h x hx;rwa[List.getD_eq_getElem?_getD,List.getElem?_eq_getElem hx]at this
theorem a8u {l:List Rat} {B:Nat} (h:Go.Rep.BR B l) (hB:1<=B) (x:Nat):hq (l.getD x 0)<=B:=by
 by_cases hx:x<l.length
 ·rw[List.getD_eq_getElem?_getD,List.getElem?_eq_getElem hx];exact h _ (List.getElem_mem _)
 ·rw[List.getD_eq_getElem?_getD,List.getElem?_eq_none (by omega)]
  show hq 0<=B
  rw[a0Y];exact hB
theorem a6o {a b:List Rat} {n:Nat} (ha:a.length=n) (hb:b.length=n) (h:∀i,i<n->a.getD i 0=b.getD i 0):a=b:=by
 refine List.ext_getElem (by omega) fun i h1 h2=>?_;have:=h i (by omega);rwa[List.getD_eq_getElem?_getD,List.getElem?_eq_getElem h1,List.getD_eq_getElem?_getD,List.getElem?_eq_getElem h2]at this
theorem b9e {k:Nat} (hk:k<=4):35^k<=1500625:=Nat.le_trans (Nat.pow_le_pow_right (by omega) hk) (by decide)
theorem b0h {m:Mat} {b:List Rat} {n c B:Nat} (hs:Shp n c m) (hm:HB B m) (hb:Go.Rep.BR B b):HB B (a2N m b n):=fun i j=>by
 have h1:=hm.pos;by_cases hi:i<n
 ·by_cases hj:j<c+1
  ·rw[a8l hs i hi j hj];unfold a2Y
   split
   ·exact a8u hb h1 i
   ·exact hm i j
  ·rw[a1L (a2e hs) (.inr (by omega)),a0Y];exact h1
 ·rw[a1L (a2e (b:=b) hs) (.inl (by omega)),a0Y];exact h1
theorem b4C {m:Mat} {b:List Rat} {n c:Nat} (hs:Shp n c m):∃d,RE n (c+1) (a2Y c (ent m) fun i=>b.getD i 0) (ent (a1b (a2N m b n) (c+1)).1) d:=by
 obtain⟨_,_,d,h3⟩:=a1o (a2e (b:=b) hs);exact⟨d,h3.congr fun i hi j hj=>(a8l hs i hi j hj).symm⟩
theorem a9h (R:Mat) (p:List Nat) (c:Nat):(b5U R p c).length=c:=b0d _ _ _ _
def a1B (m:Mat) (n:Nat):Mat:=(List.range n).map fun i=>m.getD i []++(List.replicate n 0).set i 1
theorem a1C {m:Mat} {n:Nat} (hs:Shp n n m):Shp n (2*n) (a1B m n):=⟨by simp[a1B],fun r hr=>by
 obtain⟨i,hi,rfl⟩:=List.mem_map.1 hr;rw[List.length_append,hs.row (List.mem_range.1 hi),List.length_set,List.length_replicate];omega⟩
theorem a3a {m:Mat} {n:Nat} (hs:Shp n n m) (i:Nat) (hi:i<n) (j:Nat) (hj:j<2*n):ent (a1B m n) i j=if j<n then ent m i j else if j=n+i then 1 else 0:=by
 have hr:=hs.row hi;have e:(a1B m n).getD i []=m.getD i []++(List.replicate n 0).set i 1:=by simp[a1B,List.getD_eq_getElem?_getD,hi]
 unfold ent;rw[e,List.getD_eq_getElem?_getD];by_cases h:j<n
 ·rw[if_pos h,List.getElem?_append_left (by omega),<-List.getD_eq_getElem?_getD]
 ·rw[if_neg h,List.getElem?_append_right (by omega),hr,List.getElem?_set]
  by_cases h2:i=j - n
  ·rw[if_pos h2,if_pos (show j=n+i by omega)]
   simp[show i<n from hi]
  ·rw[if_neg h2,if_neg (show¬j=n+i by omega)]
   simp[show j - n<n by omega]
theorem b4D {m:Mat} {n:Nat} (hs:Shp n n m):LI n (2*n) (ent (a1B m n)):=fun y hy i hi=>by
 have h1:=hy (n+i) (by omega);unfold cmb at h1;rw[a1x i hi fun q hq hqi=>by
  rw[a3a hs q hq (n+i) (by omega),if_neg (by omega),if_neg (by omega)];grind]at h1
 rw[a3a hs i hi (n+i) (by omega),if_neg (by omega),if_pos rfl]at h1;grind
theorem a7a {m:Mat} {n:Nat} (hs:Shp n n m):(a1b (a1B m n) (2*n)).2.length=n:=by
 obtain⟨h1,h2,d,h3⟩:=a1o (a1C hs);exact(b4D hs).full h2 h3
theorem RE.cols {n c c':Nat} {f g:F2} {d:Rat} (h:RE n c f g d) (hc:c'<=c):RE n c' f g d:=by
 induction h with
 |same h=>exact .same fun i hi j hj=>h i hi j (by omega)
 |swap i k hi hk hik h1 h2 h3=>exact .swap i k hi hk hik (fun j hj=>h1 j (by omega)) (fun j hj=>h2 j (by omega)) (fun r hr a b j hj=>h3 r hr a b j (by omega))
 |scale i a hi ha h1 h3=>exact .scale i a hi ha (fun j hj=>h1 j (by omega)) (fun r hr a j hj=>h3 r hr a j (by omega))
 |add i k a hi hk hik h1 h3=>exact .add i k a hi hk hik (fun j hj=>h1 j (by omega)) (fun r hr a j hj=>h3 r hr a j (by omega))
 |trans _ _ ih1 ih2=>exact(ih1).trans (ih2)
def a6p (m:Mat) (n:Nat):Prop:=0<n/\n<=(a1b (a1B m n) (2*n)).2.getD (n - 1) 0
theorem b0i {m:Mat} {n:Nat} (hs:Shp n n m):∃d,RE n n (ent m) (ent (a1b (a1B m n) (2*n)).1) d:=by
 obtain⟨h1,h2,d,h3⟩:=a1o (a1C hs);refine⟨d,(h3.cols (show n<=2*n by omega)).congr fun i hi j hj=>?_⟩;rw[a3a hs i hi j (by omega),if_pos hj]
theorem b0j {m:Mat} {n:Nat} (hn:n<=4) (hs:Shp n n m):a6p m n↔b8m m n=0:=by
 rw[a7B hn hs];obtain⟨h1,h2,_,h3⟩:=a1o (a1C hs);obtain⟨d,hd⟩:=b0i hs;have hfull:=a7a hs;have h4:=hd.det_same hn;have h5:=hd.ne;obtain⟨⟨R,p⟩,hS⟩:∃S,a1b (a1B m n) (2*n)=S:=⟨_,rfl⟩;unfold a6p;rw[hS]at h1 h2 h3 hd hfull h4 |-
 dsimp only at h1 h2 h3 hd hfull h4 |-
 by_cases h0:n=0
 ·subst h0
  constructor
  ·intro h;omega
  ·intro h;exfalso;rw[c0e]at h;grind
 ·have hl:n - 1<p.length:=by omega
  have e:p.getD (n - 1) 0=p[n - 1]:=by simp[List.getD_eq_getElem?_getD,hl]
  rw[e];constructor
  ·rintro ⟨_,hge⟩
   have h6:det n (ent R)=0:=a9U hn _ (n - 1) (by omega) fun j hj=>h2.left (n - 1) hl j (by omega);rw[h6]at h4;rcases Rat.mul_eq_zero.1 h4.symm with h7|h7
   ·exact absurd h7 h5
   ·exact h7
  ·intro h
   refine⟨by omega,Classical.byContradiction fun hlt=>?_⟩;have hc:∀i (hi:i<p.length),p[i]<n:=fun i hi=>by
    by_cases h8:i=n - 1
    ·subst h8;omega
    ·have:=h2.inc i (n - 1) (by omega) hl;omega
   have h6:det n (ent R)=1:=by rw[a1p (h2.unit hfull hc),a9V hn]
   rw[h6,h]at h4;grind
noncomputable def a2B (m:Mat) (n:Nat):Mat:=(a1b (a1B m n) (2*n)).1.map (·.drop n)
theorem a2A {m:Mat} {n:Nat} (hs:Shp n n m):Shp n n (a2B m n):=by
 obtain⟨h1,_⟩:=a1o (a1C hs);refine⟨by simp[a2B,h1.1],fun r hr=>?_⟩;obtain⟨x,hx,rfl⟩:=List.mem_map.1 hr;rw[List.length_drop,h1.2 x hx];omega
theorem b0k {m:Mat} {n:Nat} (hs:Shp n n m) (i:Nat) (hi:i<n) (j:Nat):ent (a2B m n) i j=ent (a1b (a1B m n) (2*n)).1 i (n+j):=by
 obtain⟨h1,_⟩:=a1o (a1C hs);have hil:i<(a1b (a1B m n) (2*n)).1.length:=by rw[h1.1];exact hi
 unfold ent a2B;simp[List.getD_eq_getElem?_getD,hil]
def a3r:F2:=fun i j=>if i=j then 1 else 0
theorem a8v {m:Mat} {n:Nat} (hs:Shp n n m) (hn:¬a6p m n):Eqm n n (ent (a1b (a1B m n) (2*n)).1) a3r:=by
 obtain⟨h1,h2,_,h3⟩:=a1o (a1C hs);have hfull:=a7a hs;unfold a6p at hn;refine h2.unit hfull fun i hi=>?_;have hl:n - 1<(a1b (a1B m n) (2*n)).2.length:=by omega
 have e:(a1b (a1B m n) (2*n)).2.getD (n - 1) 0=(a1b (a1B m n) (2*n)).2[n - 1]:=by simp[List.getD_eq_getElem?_getD,hl]
 rw[e]at hn;by_cases h8:i=n - 1
 ·subst h8;omega
 ·have:=h2.inc i (n - 1) (by omega) hl;omega
theorem b0l (n:Nat) (f:Nat->Rat):sm (2*n) f=sm n f+sm n fun j=>f (n+j):=by
 have key:∀k,sm (n+k) f=sm n f+sm k fun j=>f (n+j):=fun k=>by
  induction k with
  |zero=>show sm n f=sm n f+0;grind
  |succ k ih=>show sm (n+k) f+f (n+k)=sm n f+(sm k _+f (n+k));rw[ih];grind
 rw[show 2*n=n+n by omega];exact key n
theorem b0m {m:Mat} {n:Nat} (hs:Shp n n m) (hn:¬a6p m n):Eqm n n (mul n (ent m) (ent (a2B m n))) a3r:=by
 obtain⟨h1,h2,d,h3⟩:=a1o (a1C hs);have hu:=a8v hs hn;intro i hi j hj;have hn0:Nul n (2*n) (ent (a1b (a1B m n) (2*n)).1) (fun q=>if q<n then ent (a2B m n) q j else if q=n+j then -1 else 0):=fun r hr=>by
  rw[b0l];have a1:sm n (fun q=>ent (a1b (a1B m n) (2*n)).1 r q*(if q<n then ent (a2B m n) q j else if q=n+j then -1 else 0))=ent (a2B m n) r j:=by
   rw[a1x r hr fun q hq hqr=>by rw[hu r hr q hq];unfold a3r;rw[if_neg (Ne.symm hqr)];grind];rw[hu r hr r hr,if_pos hr];unfold a3r;simp
  have a2:sm n (fun q=>ent (a1b (a1B m n) (2*n)).1 r (n+q)*(if n+q<n then ent (a2B m n) (n+q) j else if n+q=n+j then -1 else 0))= - ent (a2B m n) r j:=by
   rw[a1x j hj fun q hq hqj=>by rw[if_neg (by omega),if_neg (by omega)];grind];rw[if_neg (by omega),if_pos rfl,b0k hs r hr j];grind
  rw[a1,a2];grind
 have h5:=(h3.nul _).2 hn0 i hi;rw[b0l]at h5;have a1:sm n (fun q=>ent (a1B m n) i q*(if q<n then ent (a2B m n) q j else if q=n+j then -1 else 0))=mul n (ent m) (ent (a2B m n)) i j:=a0g fun q hq=>by
  rw[a3a hs i hi q (by omega),if_pos hq,if_pos hq]
 have a2:sm n (fun q=>ent (a1B m n) i (n+q)*(if n+q<n then ent (a2B m n) (n+q) j else if n+q=n+j then -1 else 0))= - a3r i j:=by
  rw[a1x j hj fun q hq hqj=>by rw[if_neg (show¬n+q<n by omega),if_neg (show¬n+q=n+j by omega)];grind];rw[if_neg (show¬n+j<n by omega),if_pos rfl,a3a hs i hi (n+j) (by omega),if_neg (by omega)];unfold a3r;by_cases h:i=j
  ·subst h;simp
  ·rw[if_neg h,if_neg (show¬n+j=n+i by omega)];grind
 rw[a1,a2]at h5;grind
theorem a9i {m:Mat} {n:Nat} (hs:Shp n n m) (hn:¬a6p m n) (z:Nat->Rat) (hz:Nul n n (ent m) z) (i:Nat) (hi:i<n):z i=0:=by
 obtain⟨d,hd⟩:=b0i hs;have h1:=(hd.nul z).1 hz i hi;have hu:=a8v hs hn;rw[a1x i hi fun q hq hqi=>by rw[hu i hi q hq];unfold a3r;rw[if_neg (Ne.symm hqi)];grind]at h1;rw[hu i hi i hi]at h1;unfold a3r at h1;simpa using h1
theorem a8w (n:Nat) (f g h:F2) (i j:Nat):mul n f (mul n g h) i j=mul n (mul n f g) h i j:=by
 unfold mul;have e1:sm n (fun k=>f i k*sm n fun q=>g k q*h q j)=sm n fun k=>sm n fun q=>f i k*g k q*h q j:=a0g fun k _=>by
  rw[<-a1w];exact a0g fun q _=>by grind
 have e2:sm n (fun q=>(sm n fun k=>f i k*g k q)*h q j)=sm n fun q=>sm n fun k=>f i k*g k q*h q j:=a0g fun q _=>by
  rw[show(sm n fun k=>f i k*g k q)*h q j=h q j*sm n fun k=>f i k*g k q by grind,<-a1w];exact a0g fun k _=>by grind
 rw[e1,e2,a2u]
theorem b4E {m:Mat} {n:Nat} (hs:Shp n n m) (hn:¬a6p m n):Eqm n n (mul n (ent (a2B m n)) (ent m)) a3r:=by
 intro i hi j hj;have h1:=b0m hs hn;have h2:=a9i hs hn (fun q=>mul n (ent (a2B m n)) (ent m) q j - a3r q j) (fun r hr=>by
  have a1:sm n (fun q=>ent m r q*(mul n (ent (a2B m n)) (ent m) q j - a3r q j))=mul n (ent m) (mul n (ent (a2B m n)) (ent m)) r j - ent m r j:=by
   rw[a0g (g:=fun q=>ent m r q*mul n (ent (a2B m n)) (ent m) q j - ent m r q*a3r q j) fun q _=>by grind,a6V]
   congr 1
   rw[a1x j hj fun q hq hqj=>by unfold a3r;rw[if_neg hqj];grind];unfold a3r;simp
  rw[a1,a8w];have a2:mul n (mul n (ent m) (ent (a2B m n))) (ent m) r j=ent m r j:=by
   show(sm n fun q=>mul n (ent m) (ent (a2B m n)) r q*ent m q j)=_
   rw[a0g (g:=fun q=>a3r r q*ent m q j) fun q hq=>by rw[h1 r hr q hq]];rw[a1x r hr fun q hq hqr=>by unfold a3r;rw[if_neg (Ne.symm hqr)];grind];unfold a3r;simp
  rw[a2];grind) i hi
 grind
def fn (l:List Rat):Nat->Rat:=fun i=>l.getD i 0
def gmL (x:Mat) (n c:Nat):Mat:=ofF c c (gr n (ent x))
def gyL (x:Mat) (y:List Rat) (n c:Nat):List Rat:=(List.range c).map (gy n (ent x) (fn y))
theorem a2F (x:Mat) (n c:Nat):Shp c c (gmL x n c):=a8W _ _ _
theorem a6q (x:Mat) (n c:Nat):Eqm c c (ent (gmL x n c)) (gr n (ent x)):=b1P c c _
theorem a9j (x:Mat) (y:List Rat) (n c:Nat):(gyL x y n c).length=c:=by simp[gyL]
theorem a7F (x:Mat) (y:List Rat) (n c:Nat) {i:Nat} (hi:i<c):(gyL x y n c).getD i 0=gy n (ent x) (fn y) i:=by
 simp[gyL,List.getD_eq_getElem?_getD,hi]
noncomputable def lsS (x:Mat) (y:List Rat) (n c:Nat):Mat×List Nat:=a1b (a2N (gmL x n c) (gyL x y n c) c) (c+1)
noncomputable def a1y (x:Mat) (y:List Rat) (n c:Nat):List Rat:=b5U (lsS x y n c).1 (lsS x y n c).2 c
theorem a3b (x:Mat) (y:List Rat) (n c:Nat):(a1y x y n c).length=c:=a9h _ _ _
theorem NS.congr {n c:Nat} {f f':F2} {y y' b b':Nat->Rat} (h:NS n c f y b) (hf:Eqm n c f f') (hy:∀i,i<n->y i=y' i) (hb:∀j,j<c->b j=b' j):NS n c f' y' b':=fun i hi=>by
 have e1:∀j,j<c->gr n f i j=gr n f' i j:=fun j hj=>a0g fun r hr=>by rw[hf r hr i hi,hf r hr j hj]
 have e2:gy n f y i=gy n f' y' i:=a0g fun r hr=>by rw[hf r hr i hi,hy r hr]
 rw[<-e2,<-h i hi];exact a0g fun j hj=>by rw[e1 j hj,hb j hj]
theorem a6r {x:Mat} {y:List Rat} {n c:Nat} (hs:Shp n c x):
  c∉(lsS x y n c).2/\(lsS x y n c).2=(a1b x c).2/\NS n c (ent x) (fn y) (fn (a1y x y n c))/\∀j,j<c->j∉(a1b x c).2->fn (a1y x y n c) j=0:=by
 obtain⟨_,hg,e,he⟩:=a1o hs;obtain⟨_,hr,_⟩:=a1o (a2e (b:=gyL x y n c) (a2F x n c));obtain⟨d,hd⟩:=b4C (b:=gyL x y n c) (a2F x n c);have hd2:RE c (c+1) (a2Y c (gr n (ent x)) (gy n (ent x) (fn y))) (ent (lsS x y n c).1) d:=hd.congr fun i hi j hj=>by
  unfold a2Y;by_cases h:j=c
  ·rw[if_pos h,if_pos h];exact(a7F x y n c hi).symm
  ·rw[if_neg h,if_neg h,a6q x n c i hi j (by omega)]
 obtain⟨h1,h2,h3⟩:=b7m hg he hr hd2;have hg2:∀j,j<c->fn (a1y x y n c) j=b1Q (ent (lsS x y n c).1) (lsS x y n c).2 c j:=fun j hj=>b0e hr j hj;refine⟨b2e hr hd2,h1,h2.congr (fun _ _ _ _=>rfl) (fun _ _=>rfl) (fun j hj=>(hg2 j hj).symm),fun j hj hp=>?_⟩;rw[hg2 j hj];exact h3 j hj hp
theorem b9f {x:Mat} {n c:Nat} (hs:Shp n c x):(a1b (gmL x n c) c).2=(a1b x c).2:=by
 obtain⟨_,hg,e,he⟩:=a1o hs;obtain⟨_,hr,d,hd⟩:=a1o (a2F x n c);refine hr.piv2 hg fun v=>?_;have e1:Nul c c (ent (gmL x n c)) v↔Nul c c (gr n (ent x)) v:=(RE.same (a6q x n c)).nul v;exact((hd.nul v).symm.trans e1).trans (a8k.trans (he.nul v))
theorem a7G {l m:List Rat} {c:Nat} (h:l.length=c):a2d l m=sm c fun q=>l.getD q 0*m.getD q 0:=by
 unfold a2d;rw[a6k,h]
theorem a9k {x:Mat} {i:Nat} (hi:i<x.length):x[i]=x.getD i []:=by simp[List.getD_eq_getElem?_getD,hi]
def a2T (x:Mat) (y b:List Rat):List Rat:=List.zipWith (fun r v=>v - a2d r b) x y
theorem a4X {x:Mat} {y b:List Rat} (h:y.length=x.length):(a2T x y b).length=x.length:=by simp[a2T,h]
theorem a6s {x:Mat} {y b:List Rat} {i:Nat} (h:i<(a2T x y b).length) (h1:i<x.length) (h2:i<y.length):(a2T x y b)[i]=y[i] - a2d x[i] b:=by simp[a2T]
theorem b4F {x:Mat} {y b:List Rat} {n c:Nat} (hs:Shp n c x) (hy:y.length=n) {i:Nat} (hi:i<n):fn (a2T x y b) i=fn y i - app c (ent x) (fn b) i:=by
 have h1:i<x.length:=by rw[hs.1];exact hi
 have h2:i<y.length:=by omega
 have h3:i<(a2T x y b).length:=by rw[a4X (by rw[hy,hs.1])];exact h1
 have e1:fn (a2T x y b) i=(a2T x y b)[i]:=by simp[fn,List.getD_eq_getElem?_getD,h3]
 have e2:fn y i=y[i]:=by simp[fn,List.getD_eq_getElem?_getD,h2]
 rw[e1,e2,a6s h3 h1 h2,a7G (hs.2 _ (List.getElem_mem h1)),a9k h1];rfl
theorem a3Q {l m:List Rat} {n:Nat} (h:l.length=n):a2d l m=sm n fun i=>fn l i*fn m i:=a7G h
def pkL (x:Mat) (p:List Nat):Mat:=x.map fun r=>p.map fun j=>r.getD j 0
theorem b2q (x:Mat) (p:List Nat):(pkL x p).length=x.length:=by simp[pkL]
theorem b7r {x:Mat} {n c:Nat} (hs:Shp n c x) (p:List Nat):Shp n p.length (pkL x p):=⟨by rw[b2q];exact hs.1,fun r hr=>by
 obtain⟨s,_,rfl⟩:=List.mem_map.1 hr;simp⟩
theorem b2r {x:Mat} {n c:Nat} (hs:Shp n c x) (p:List Nat):Eqm n p.length (ent (pkL x p)) (usd (ent x) p):=fun i hi a ha=>by
 have h1:i<x.length:=by rw[hs.1];exact hi
 simp[ent,pkL,usd,List.getD_eq_getElem?_getD,h1,ha]
def a1T (u:Mat) (n m:Nat):Mat:=a9X (trL u n m) u n m
theorem a0S (u:Mat) (n m:Nat):Shp m m (a1T u n m):=b4u (a1R u n m).1
theorem a8x (u:Mat) (n m:Nat):Eqm m m (ent (a1T u n m)) (gr n (ent u)):=fun i hi j hj=>by
 unfold a1T;rw[b4v (a1R u n m) i hi j hj];exact a0g fun k hk=>by rw[a7A u n m i hi k hk]
theorem b4G {n c:Nat} {g:F2} {p:List Nat} (hg:Rref n c g p) (h:∀z,Nul n c g z->∀a,a<c->z a=0):p.length=c:=by
 have h1:∀j,j<c->j∈p:=fun j hj=>Classical.byContradiction fun hn=>by
  have:=h _ (hg.nv_nul hn hj) j hj;rw[a3I]at this;grind
 have h2:(List.range c).length<=p.length:=(List.nodup_range).length_le_of_subset fun j hj=>h1 j (List.mem_range.1 hj);have hnd:p.Nodup:=hg.pw.imp fun h=>Nat.ne_of_lt h;have h3:p.length<=(List.range c).length:=hnd.length_le_of_subset fun j hj=>by
  obtain⟨k,hk,rfl⟩:=List.getElem_of_mem hj;exact List.mem_range.2 (hg.lt k hk)
 rw[List.length_range]at h2 h3;omega
theorem b9g {G:Mat} {H:F2} {m:Nat} (hm:m<=4) (hs:Shp m m G) (hG:Eqm m m (ent G) H) (hN:∀z,Nul m m H z->∀a,a<m->z a=0):¬a6p G m/\Inv m H (ent (a2B G m)):=by
 have hns:¬a6p G m:=by
  rw[b0j hm hs];refine(b2j hm hs).1 ?_;obtain⟨_,hg,d,hd⟩:=a1o hs;exact b4G hg fun z hz=>hN z ((RE.same hG).nul z|>.1 ((hd.nul z).2 hz))
 refine⟨hns,fun a ha b hb=>?_,fun a ha b hb=>?_⟩
 ·have:=b0m hs hns a ha b hb
  rw[show(if a=b then(1:Rat)else 0)=a3r a b from rfl,<-this];exact a0g fun k hk=>by rw[hG a ha k hk]
 ·have:=b4E hs hns a ha b hb
  rw[show(if a=b then(1:Rat)else 0)=a3r a b from rfl,<-this];exact a0g fun k hk=>by rw[hG k hk b hb]
theorem Nul.congr {n c:Nat} {f f':F2} {x:Nat->Rat} (h:Nul n c f x) (e:Eqm n c f f'):Nul n c f' x:=((RE.same e).nul x).1 h
theorem b2s {x:Mat} {n c:Nat} (hs:Shp n c x) (hp:(a1b x c).2.length<=4):
  ¬a6p (a1T (pkL x (a1b x c).2) n (a1b x c).2.length) (a1b x c).2.length/\Inv (a1b x c).2.length (gr n (ent (pkL x (a1b x c).2))) (ent (a2B (a1T (pkL x (a1b x c).2) n (a1b x c).2.length) (a1b x c).2.length)):=by
 obtain⟨_,hg,e,he⟩:=a1o hs;refine b9g hp (a0S _ _ _) (a8x _ _ _) fun z hz a ha=>?_;exact b8Y hg he ((a8k.1 hz).congr (b2r hs _)) a ha
theorem b5V {x:Mat} {n c:Nat} (hs:Shp n c x):(a1b x c).2.length<=c:=by
 obtain⟨_,hg,_⟩:=a1o hs;have hnd:(a1b x c).2.Nodup:=hg.pw.imp fun h=>Nat.ne_of_lt h;have h3:(a1b x c).2.length<=(List.range c).length:=hnd.length_le_of_subset fun j hj=>by
  obtain⟨k,hk,rfl⟩:=List.getElem_of_mem hj;exact List.mem_range.2 (hg.lt k hk)
 rwa[List.length_range]at h3
noncomputable def bU (u:Mat) (y:List Rat) (n m:Nat):List Rat:=a2Z (a2B (a1T u n m) m) (a2Z (trL u n m) y)
noncomputable def a6F (x:Mat) (y:List Rat) (n c:Nat):List Rat:=(List.range c).map (b3w (a1b x c).2 (fn (bU (pkL x (a1b x c).2) y n (a1b x c).2.length)))
theorem b2t {u:Mat} {y:List Rat} {n m:Nat}:(bU u y n m).length=m:=by
 unfold bU;rw[a4O];exact(a2A (a0S u n m)).1
theorem b9h {u:Mat} {y:List Rat} {n m:Nat} {a:Nat} (ha:a<m):fn (bU u y n m) a=sm m fun b=>ent (a2B (a1T u n m) m) a b*gy n (ent u) (fn y) b:=by
 unfold bU fn;rw[a9c (a2A (a0S u n m)) a ha];refine a0g fun b hb=>?_;rw[a9c (a1R u n m) b hb]
 congr 1
 exact a0g fun k hk=>by rw[a7A u n m b hb k hk]
theorem b4H {x:Mat} {y:List Rat} {n c:Nat} (hs:Shp n c x) (hc:c<=4):a6F x y n c=a1y x y n c:=by
 obtain⟨_,hg,e,he⟩:=a1o hs;obtain⟨_,_,h3,h4⟩:=a6r (y:=y) hs;obtain⟨_,hI⟩:=b2s hs (Nat.le_trans (b5V hs) hc);have h5:=(b9a hI (fn y)).congr (b2r hs _) (fun _ _=>rfl) (fun a ha=>(b9h (u:=pkL x (a1b x c).2) (y:=y) (n:=n) ha).symm);have h6:=b8Z hg he h5;refine a6o (n:=c) (by simp[a6F]) (a3b _ _ _ _) fun j hj=>?_;have e1:(a6F x y n c).getD j 0=b3w (a1b x c).2 (fn (bU (pkL x (a1b x c).2) y n (a1b x c).2.length)) j:=by
  simp[a6F,List.getD_eq_getElem?_getD,hj]
 rw[e1];exact b8V hg he h6 h3 (fun j _ hp=>a4Q _ hp) h4 j hj
noncomputable def a7S (u:Mat) (n m:Nat):List Rat:=u.map fun r=>a2d r (a2Z (a2B (a1T u n m) m) r)
theorem a7H (u:Mat) (n m:Nat):(a7S u n m).length=u.length:=by simp[a7S]
theorem a8y {u:Mat} {n m i:Nat} (hi:i<u.length) (h:i<(a7S u n m).length):(a7S u n m)[i]=a2d u[i] (a2Z (a2B (a1T u n m) m) u[i]):=by simp[a7S]
theorem b4I {u:Mat} {n m:Nat} (hs:Shp n m u) {i:Nat} (hi:i<n):fn (a7S u n m) i=hat m (ent u) (ent (a2B (a1T u n m) m)) i i:=by
 have h1:i<u.length:=by rw[hs.1];exact hi
 have h2:i<(a7S u n m).length:=by rw[a7H];exact h1
 have e1:fn (a7S u n m) i=(a7S u n m)[i]:=by simp[fn,List.getD_eq_getElem?_getD,h2]
 rw[e1,a8y h1 h2,a7G (hs.2 _ (List.getElem_mem h1)),a9k h1];refine a0g fun a ha=>?_;rw[a9c (a2A (a0S u n m)) a ha];rfl
theorem b2u {u:Mat} {n:Nat} (hs:Shp n 0 u):a7S u n 0=List.replicate n 0:=by
 refine a6o (n:=n) (by rw[a7H];exact hs.1) List.length_replicate fun i hi=>?_;have:=b4I hs hi;unfold fn at this;rw[this,List.getD_eq_getElem?_getD,List.getElem?_replicate,if_pos hi];rfl
theorem a8z {x:Mat} {y b:List Rat} {n c:Nat} (hs:Shp n c x) (hy:y.length=n):a2d (a2T x y b) (a2T x y b)=sm n fun r=>(fn y r - app c (ent x) (fn b) r)*(fn y r - app c (ent x) (fn b) r):=by
 rw[a3Q (n:=n) (by rw[a4X (by rw[hy,hs.1]),hs.1])];exact a0g fun r hr=>by rw[b4F hs hy hr]
theorem a8A {x:Mat} {y:List Rat} {n c:Nat} (hs:Shp n c x) (hy:y.length=n) (b:List Rat):a2d (a2T x y (a1y x y n c)) (a2T x y (a1y x y n c))<=a2d (a2T x y b) (a2T x y b):=by
 obtain⟨_,_,h3,_⟩:=a6r (y:=y) hs;rw[a8z hs hy,a8z hs hy];exact b4x h3 _
theorem b7s {x:Mat} {y:List Rat} {n c:Nat} (hs:Shp n c x) (hy:y.length=n):a2d (a2T x y (a1y x y n c)) (a2T x y (a1y x y n c))=a2d y y - a2d (a1y x y n c) (gyL x y n c):=by
 obtain⟨_,_,h3,_⟩:=a6r (y:=y) hs;rw[a8z hs hy,b8W h3,a3Q hy,a3Q (a3b x y n c)]
 congr 1
 exact a0g fun j hj=>by rw[show fn (gyL x y n c) j=_ from a7F x y n c hj]
structure Mom where
 n:Int
 xx:Mat
 xy:List Rat
 yy:Rat
def shM (m:Mom) (row:List Rat) (v:Rat) (s:Int):Mom:=
 ⟨m.n+s,ofF row.length row.length fun j k=>ent m.xx j k+(s:Rat)*fn row j*fn row k,(List.range row.length).map fun j=>fn m.xy j+(s:Rat)*fn row j*v,m.yy+(s:Rat)*(v*v)⟩
def gmM (x:Mat) (y:List Rat) (c i:Nat):Mom:=⟨(i:Int),gmL x i c,gyL x y i c,sm i fun r=>fn y r*fn y r⟩
theorem a2G {α:Type} {c:Nat} {f g:Nat->α} (h:∀j,j<c->f j=g j):(List.range c).map f=(List.range c).map g:=
 List.map_congr_left fun j hj=>h j (List.mem_range.1 hj)
theorem b2v {n c:Nat} {f g:F2} (h:Eqm n c f g):ofF n c f=ofF n c g:=
 a2G fun i hi=>a2G fun j hj=>h i hi j hj
theorem b4J (x:Mat) (y:List Rat) (c:Nat):gmM x y c 0=⟨0,List.replicate c (List.replicate c 0),List.replicate c 0,0⟩:=by
 have e:∀(α:Type) (a:α),(List.range c).map (fun _=>a)=List.replicate c a:=fun α a=>by simp[List.map_const']
 unfold gmM gmL gyL ofF
 congr 1
 ·rw[<-e,<-e];rfl
 ·rw[<-e];rfl
theorem b4K {x:Mat} {y:List Rat} {n c i:Nat} (hs:Shp n c x) (hi:i<n):shM (gmM x y c i) (x.getD i []) (y.getD i 0) 1=gmM x y c (i+1):=by
 have hr:(x.getD i []).length=c:=hs.row hi;have one:((1:Int):Rat)=1:=rfl;unfold shM gmM;rw[hr]
 congr 1
 ·exact b2v fun j hj k hk=>by
   show ent (gmL x i c) j k+_=gr (i+1) (ent x) j k
   rw[a6q x i c j hj k hk]
   show gr i (ent x) j k+((1:Int):Rat)*ent x i j*ent x i k=gr i (ent x) j k+ent x i j*ent x i k
   rw[one];grind
 ·exact a2G fun j hj=>by
   show(gyL x y i c).getD j 0+_=gy (i+1) (ent x) (fn y) j
   rw[a7F x y i c hj]
   show gy i (ent x) (fn y) j+((1:Int):Rat)*ent x i j*fn y i=gy i (ent x) (fn y) j+ent x i j*fn y i
   rw[one];grind
 ·show sm i (fun r=>fn y r*fn y r)+((1:Int):Rat)*(fn y i*fn y i)=_
  rw[one]
  show _=sm i (fun r=>fn y r*fn y r)+fn y i*fn y i
  grind
def atI (s:List Int) (j:Nat):Nat:=(s.getD j 0).toNat
theorem a6t {s:List Int} {j:Nat} (h:j<s.length):atI s j=s[j].toNat:=by simp[atI,List.getD_eq_getElem?_getD,h]
theorem a3c {x:Mat} {n c:Nat} (hs:Shp n c x) (s:List Int):Shp n s.length (a0Z x s):=
 ⟨by rw[a3N];exact hs.1,fun r hr=>by obtain⟨q,_,rfl⟩:=List.mem_map.1 hr;exact a3M _ _⟩
theorem a4Y {x:Mat} {n c:Nat} (hs:Shp n c x) (s:List Int):Eqm n s.length (ent (a0Z x s)) fun i j=>ent x i (atI s j):=fun i hi j hj=>by
 have h1:i<x.length:=by rw[hs.1];exact hi
 simp[ent,a0Z,a2M,atI,List.getD_eq_getElem?_getD,h1,hj]
theorem b7t {x:Mat} {n c:Nat} (hs:Shp n c x) {s:List Int} (hb:∀v∈s,0<=v/\v<(c:Int)):a0Z (a2L (gmL x n c) s) s=gmL (a0Z x s) n s.length:=by
 have e:=a4Y hs s;have hat:∀j,j<s.length->atI s j<c:=fun j hj=>by
  have:=hb s[j] (List.getElem_mem _);rw[a6t hj];omega
 refine List.ext_getElem (by simp[a0Z,a2L,gmL,ofF]) fun i h1 h2=>?_;have hi:i<s.length:=by simpa[a0Z,a2L]using h1
 refine List.ext_getElem (by simp[a0Z,a2M,gmL,ofF]) fun j h3 h4=>?_;have hj:j<s.length:=by simpa[a0Z,a2M]using h3
 have h5:=a6q x n c (atI s i) (hat i hi) (atI s j) (hat j hj);have h6:(a0Z (a2L (gmL x n c) s) s)[i][j]=ent (gmL x n c) (atI s i) (atI s j):=by
  rw[a6t hi,a6t hj];simp[a0Z,a2L,a2M,ent]
 have h7:(gmL (a0Z x s) n s.length)[i][j]=gr n (ent (a0Z x s)) i j:=by simp[gmL,ofF]
 rw[h6,h7,h5];exact a0g fun r hr=>by rw[e r hr i hi,e r hr j hj]
theorem b7u {x:Mat} {y:List Rat} {n c:Nat} (hs:Shp n c x) {s:List Int} (hb:∀v∈s,0<=v/\v<(c:Int)):a2M (gyL x y n c) s=gyL (a0Z x s) y n s.length:=by
 have e:=a4Y hs s;refine List.ext_getElem (by simp[a2M,gyL]) fun i h1 h2=>?_;have hi:i<s.length:=by simpa[a2M]using h1
 have hat:atI s i<c:=by
  have:=hb s[i] (List.getElem_mem _);rw[a6t hi];omega
 have h5:=a7F x y n c hat;have h6:(a2M (gyL x y n c) s)[i]=(gyL x y n c).getD (atI s i) 0:=by rw[a6t hi];simp[a2M]
 have h7:(gyL (a0Z x s) y n s.length)[i]=gy n (ent (a0Z x s)) (fn y) i:=by simp[gyL]
 rw[h6,h7,h5];exact a0g fun r hr=>by rw[e r hr i hi]
noncomputable def a4Z (x:Mat) (y:List Rat) (n:Nat) (s:List Int):Rat:=a2d (a2T (a0Z x s) y (a1y (a0Z x s) y n s.length)) (a2T (a0Z x s) y (a1y (a0Z x s) y n s.length))
theorem a7I {x:Mat} {y:List Rat} {n c:Nat} (hs:Shp n c x) (hy:y.length=n) (s:List Int):a4Z x y n s=a2d y y - a2d (a1y (a0Z x s) y n s.length) (gyL (a0Z x s) y n s.length):=b7s (a3c hs s) hy
theorem b5W:∀{k p:Nat} (_:p<=k) {f g:Nat->Rat} (_:∀j,j<p->f j=g j) (_:f p=0) (_:∀j,p<=j->j<k->f (j+1)=g j),sm (k+1) f=sm k g
 |0,p,hp,f,g,_,h0,_=>by
  obtain rfl:p=0:=by omega
  show(0:Rat)+f 0=0
  rw[h0,Rat.add_zero]
 |k+1,p,hp,f,g,h1,h0,h2=>by
  show sm (k+1) f+f (k+1)=sm (k+1) g
  by_cases h:p=k+1
  ·subst h
   rw[h0,Rat.add_zero];exact a0g h1
  ·show _=sm k g+g k
   rw[b5W (p:=p) (by omega) h1 h0 fun j a b=>h2 j a (by omega),h2 k (by omega) (by omega)]
def a6G {α:Type} (s:List α) (p:Nat) (v:α):List α:=s.take p++v::s.drop p
theorem b0n {α:Type} (s:List α) (p:Nat) (v:α) (hp:p<=s.length):(a6G s p v).length=s.length+1:=by
 simp[a6G];omega
theorem b2w {α:Type} (s:List α) (p:Nat) (v d:α) (hp:p<=s.length) {j:Nat} (h:j<p):(a6G s p v).getD j d=s.getD j d:=by
 have h1:j<(s.take p).length:=by rw[List.length_take];omega
 simp[a6G,List.getD_eq_getElem?_getD,List.getElem?_append_left h1,h]
theorem b7v {α:Type} (s:List α) (p:Nat) (v d:α) (hp:p<=s.length):(a6G s p v).getD p d=v:=by
 have h1:(s.take p).length=p:=by rw[List.length_take];omega
 simp[a6G,List.getD_eq_getElem?_getD,h1]
theorem b2x {α:Type} (s:List α) (p:Nat) (v d:α) (hp:p<=s.length) {j:Nat} (h:p<=j):(a6G s p v).getD (j+1) d=s.getD j d:=by
 have h1:(s.take p).length=p:=by rw[List.length_take];omega
 have h2:(s.take p).length<=j+1:=by omega
 rw[List.getD_eq_getElem?_getD,List.getD_eq_getElem?_getD];unfold a6G;rw[List.getElem?_append_right h2,h1,show j+1 - p=(j - p)+1 by omega,List.getElem?_cons_succ,List.getElem?_drop,show p+(j - p)=j by omega]
theorem b7w {x:Mat} {y:List Rat} {n c:Nat} (hs:Shp n c x) (hy:y.length=n) (s:List Int) (p:Nat) (v:Int) (hp:p<=s.length):a4Z x y n (a6G s p v)<=a4Z x y n s:=by
 have hl:=b0n s p v hp;have hs1:=a3c hs s;have hs2:=a3c hs (a6G s p v);have hbl:=a3b (a0Z x s) y n s.length;obtain⟨b,hb⟩:∃b,a1y (a0Z x s) y n s.length=b:=⟨_,rfl⟩;have h:=a8A hs2 hy (a6G b p 0);unfold a4Z;rw[hb]at hbl |-;refine Rat.le_trans h ?_;rw[a8z hs2 hy,a8z hs1 hy];refine(fun h=>by rw[h];exact Rat.le_refl:∀{a b:Rat},a=b->a<=b) (a0g fun r hr=>?_);have e:app (a6G s p v).length (ent (a0Z x (a6G s p v))) (fn (a6G b p 0)) r=app s.length (ent (a0Z x s)) (fn b) r:=by
  unfold app;rw[hl];have e1:=a4Y hs s r hr;have e2:=a4Y hs (a6G s p v) r hr;rw[hl]at e2;have hpb:p<=b.length:=by omega
  refine b5W hp (fun j hj=>?_) ?_ fun j h1 h2=>?_
  ·rw[e2 j (by omega),e1 j (by omega)]
   unfold atI fn
   dsimp only
   rw[b2w s p v 0 hp hj,b2w b p 0 0 hpb hj]
  ·unfold fn
   rw[b7v b p 0 0 hpb,Rat.mul_zero]
  ·rw[e2 (j+1) (by omega),e1 j h2]
   unfold atI fn
   dsimp only
   rw[b2x s p v 0 hp h1,b2x b p 0 0 hpb h1]
 rw[e]
end Go.Lin
namespace Go.Lim
def a1g:Nat->Nat->Int->List (List Int)
 |_,0,_=>[[]]
 |0,_+1,_=>[]
 |m+1,h+1,lo=>(a1g m h (lo+1)).map (lo:: ·)++a1g m (h+1) (lo+1)
theorem a2p:∀(m h:Nat) (lo:Int),(a1g m h lo).length=ch m h
 |m,0,lo=>by rw[a3l];cases m<;>rfl
 |0,h+1,lo=>rfl
 |m+1,h+1,lo=>by rw[a1g,ch,List.length_append,List.length_map,a2p m h,a2p m (h+1)]
def up (lo:Int):Nat->List Int
 |0=>[]
 |k+1=>lo::up (lo+1) k
theorem a4a (m:Nat) (lo:Int):a1g m 0 lo= [[]]:=by cases m<;>rfl
theorem a2q:∀(m h:Nat) (lo:Int) (l:List Int),l∈a1g m h lo->l.length=h/\(∀x∈l,lo<=x/\x<lo+m)/\l.Pairwise (· < ·)
 |m,0,lo,l,hl=>by
  rw[a4a,List.mem_singleton]at hl;subst hl;simp
 |0,h+1,lo,l,hl=>by simp[a1g]at hl
 |m+1,h+1,lo,l,hl=>by
  rw[a1g,List.mem_append,List.mem_map]at hl;rcases hl with⟨r,hr,rfl⟩|hl
  ·obtain⟨h1,h2,h3⟩:=a2q m h (lo+1) r hr
   refine⟨by simp[h1],fun x hx=>?_,List.pairwise_cons.2 ⟨fun x hx=>?_,h3⟩⟩
   ·rcases List.mem_cons.1 hx with rfl|hx
    ·omega
    ·have:=h2 x hx;omega
   ·have:=h2 x hx;omega
  ·obtain⟨h1,h2,h3⟩:=a2q m (h+1) (lo+1) l hl
   exact⟨h1,fun x hx=>by have:=h2 x hx;omega,h3⟩
theorem b2y (m h:Nat) (lo:Int):∀l∈a1g m h lo,∀q (hq:q<l.length),l[q]<=lo+m - h+q:=by
 intro l hl q hq;obtain⟨h1,h2,h3⟩:=a2q m h lo l hl;have key:∀d,q+d<l.length->l[q]+d<=l[q+d]! :=by
  intro d
  induction d with
  |zero=>intro hd;simp[getElem!_pos,hq]
  |succ d ih=>
   intro hd;have e:=ih (by omega);have e2:=List.pairwise_iff_getElem.1 h3 (q+d) (q+d+1) (by omega) (by omega) (by omega);rw[getElem!_pos l (q+d) (by omega)]at e;rw[getElem!_pos l (q+(d+1)) (by omega)];have e3:l[q+(d+1)]'(by omega)=l[q+d+1]'(by omega):=rfl;rw[e3];omega
 have e:=key (l.length - 1 - q) (by omega);rw[getElem!_pos l _ (by omega)]at e;have e2:=(h2 _ (List.getElem_mem (show q+(l.length - 1 - q)<l.length by omega))).2;omega
theorem a6u:∀(m h:Nat) (lo:Int) (l:List Int),l.length=h->(∀x∈l,lo<=x/\x<lo+m)->l.Pairwise (· < ·)->l∈a1g m h lo
 |m,0,lo,l,h1,_,_=>by
  have:l= []:=List.eq_nil_of_length_eq_zero h1;subst this;rw[a4a];simp
 |0,h+1,lo,l,h1,h2,_=>by
  match l,h1 with
  |x::l,_=>have:=h2 x (by simp);omega
 |m+1,h+1,lo,l,h1,h2,h3=>by
  match l,h1 with
  |x::l,h1=>
   rw[List.pairwise_cons]at h3;unfold a1g;rw[List.mem_append];by_cases hx:x=lo
   ·subst hx
    refine .inl (List.mem_map.2 ⟨l,a6u m h (x+1) l (by simpa using h1) (fun y hy=>?_) h3.2,rfl⟩);have:=h2 y (by simp[hy]);have:=h3.1 y hy;omega
   ·refine .inr (a6u m (h+1) (lo+1) (x::l) (by simpa using h1) (fun y hy=>?_) (List.pairwise_cons.2 h3))
    have:=h2 x (by simp);rcases List.mem_cons.1 hy with rfl|hy
    ·omega
    ·have:=h2 y (by simp[hy]);have:=h3.1 y hy;omega
end Go.Lim
namespace Go.Lin
open Go.Lim Go.Rep
def Bd (c:Nat) (z:Mat) (cnt:Nat) (x:Vec):Prop:=∀l,a4e c (onL c x (a4N z)) l->cnt<=a9a c x (a4N z)+l
theorem Bd.le {c cnt n:Nat} {z:Mat} {x:Vec} (h:Bd c z cnt x) (hn:n<=cnt):Bd c z n x:=fun l hl=>Nat.le_trans hn (h l hl)
theorem Bd.congr {c cnt:Nat} {z:Mat} {x y:Vec} (h:Bd c z cnt x) (he:∀j,j<c->x j=y j):Bd c z cnt y:=fun l hl=>by
 obtain⟨h1,h2,_⟩:=b1X he (a4N z);have:=h l (by rw[h2];exact hl);rwa[h1]at this
section
variable {n c:Nat} {z:Mat} (hs:Shp n c z)
include hs
end
theorem b7d.le {c cnt:Nat} {z us:Mat} (h:b7d c z cnt us):cnt<=z.length+1:=by
 rcases h with⟨rfl,_⟩|h
 ·exact Nat.le_refl _
 ·have:cnt=b0L c (a4N us) (a4N z):=h.cnt.symm
  rw[this];have:=List.countP_le_length (p:=fun v=>a6h c (a4N us) v) (l:=a4N z);unfold b0L;simp[a4N]at this |-;omega
end Go.Lin
namespace Go.Lin
open Go.Lim
theorem b0o:∀(s:List Int) (m:Nat) (lo:Int),s.Pairwise (· < ·)->(∀x∈s,lo<=x/\x<lo+m)->s.length<m->∃p v,p<=s.length/\(a6G s p v).Pairwise (· < ·)/\∀x∈a6G s p v,lo<=x/\x<lo+m
 | [],m,lo,_,_,hl=>⟨0,lo,Nat.le_refl _,by simp[a6G],fun x hx=>by
   have:x=lo:=by simpa[a6G]using hx
   subst this;simp only[List.length_nil]at hl;omega⟩
 |a::t,m,lo,hp,hb,hl=>by
  obtain⟨ha,ht⟩:=List.pairwise_cons.1 hp;have hba:=hb a (List.mem_cons_self ..);simp only[List.length_cons]at hl;by_cases e:a=lo
  ·subst e
   obtain⟨p,v,h1,h2,h3⟩:=b0o t (m - 1) (a+1) ht (fun x hx=>by
    have:=ha x hx;have:=hb x (List.mem_cons_of_mem _ hx);omega) (by omega)
   refine⟨p+1,v,by simp only[List.length_cons];omega,?_,fun x hx=>?_⟩
   ·show(a::a6G t p v).Pairwise _
    exact List.pairwise_cons.2 ⟨fun x hx=>by have:=h3 x hx;omega,h2⟩
   ·rcases List.mem_cons.1 (show x∈a::a6G t p v from hx)with rfl|h
    ·exact hba
    ·have:=h3 x h;omega
  ·refine⟨0,lo,Nat.zero_le _,?_,fun x hx=>?_⟩
   ·show(lo::a::t).Pairwise _
    refine List.pairwise_cons.2 ⟨fun x hx=>?_,hp⟩;rcases List.mem_cons.1 hx with rfl|h
    ·omega
    ·have:=ha x h;omega
   ·rcases List.mem_cons.1 (show x∈lo::a::t from hx)with rfl|h
    ·omega
    ·exact hb x h
def b2z (x:Mat) (y:List Rat) (n c k:Nat) (R:Rat):Prop:=(∃s∈a1g c k 0,R=a4Z x y n s)/\∀s∈a1g c k 0,R<=a4Z x y n s
theorem b2A {x:Mat} {y:List Rat} {n c k:Nat} {R R':Rat} (hs:Shp n c x) (hy:y.length=n) (hk:k<c) (h:b2z x y n c k R) (h':b2z x y n c (k+1) R'):R'<=R:=by
 obtain⟨⟨s,hm,rfl⟩,_⟩:=h;obtain⟨h1,h2,h3⟩:=a2q _ _ _ s hm;obtain⟨p,v,g1,g2,g3⟩:=b0o s c 0 h3 h2 (by omega);refine Rat.le_trans (h'.2 _ (a6u c (k+1) 0 _ ?_ g3 g2)) (b7w hs hy s p v g1);rw[b0n s p v g1,h1]
theorem b4L {x:Mat} {y:List Rat} {n c:Nat} {R:Rat} (hs:Shp n c x) (hy:y.length=n) (h:b2z x y n c 0 R):R=a2d y y:=by
 obtain⟨⟨s,hm,rfl⟩,_⟩:=h;have hl:=(a2q _ _ _ s hm).1;obtain rfl:s= []:=List.eq_nil_of_length_eq_zero hl;have e:a2d (a1y (a0Z x []) y n ([]:List Int).length) (gyL (a0Z x []) y n ([]:List Int).length)=0:=by
  rw[a3Q (a3b (a0Z x []) y n ([]:List Int).length)];rfl
 rw[a7I hs hy,e];grind
theorem b4M {x:Mat} {n c:Nat} (hs:Shp n c x) {s:List Int} (hm:s∈a1g c c 0):a0Z x s=x:=by
 obtain⟨h1,h2,h3⟩:=a2q _ _ _ s hm;have hat:∀j (h:j<s.length),s[j]=(j:Int):=fun j h=>by
  have h4:=b2y c c 0 s hm j h;have h5:∀(l:List Int) (lo:Int),l.Pairwise (· < ·)->(∀x∈l,lo<=x)->∀j (h:j<l.length),lo+j<=l[j]:=by
   intro l
   induction l with
   |nil=>intro lo _ _ j h;simp at h
   |cons a t ih=>
    intro lo hp hb j h;obtain⟨ha,ht⟩:=List.pairwise_cons.1 hp;have hba:=hb a (List.mem_cons_self ..);cases j with
    |zero=>simp;omega
    |succ j=>
     have:=ih (lo+1) ht (fun x hx=>by have:=ha x hx;omega) j (by simpa using h);simp only[List.getElem_cons_succ];omega
  have:=h5 s 0 h3 (fun x hx=>(h2 x hx).1) j h;omega
 refine List.ext_getElem (a3N x s) fun i g1 g2=>?_;rw[a8j x s i g1 g2];have hrl:=hs.2 x[i] (List.getElem_mem _);refine List.ext_getElem (by rw[a3M,h1,hrl]) fun j k1 k2=>?_;have hj:j<s.length:=by rw[h1];omega
 exact a8i k1 hj k2 (hat j hj)
theorem b7x {x:Mat} {y:List Rat} {n c:Nat} {R:Rat} (hs:Shp n c x) (h:b2z x y n c c R):R=a2d (a2T x y (a1y x y n c)) (a2T x y (a1y x y n c)):=by
 obtain⟨⟨s,hm,rfl⟩,_⟩:=h;unfold a4Z;rw[b4M hs hm,(a2q _ _ _ s hm).1]
open Go.Rep
def b7y (x:Mat) (y:List Rat):Bool:=decide (1<=x.length/\x.length<=64/\y.length=x.length)&&a6f x 1 12
end Go.Lin
namespace Go.Proofs.YtidbbddagfnfbaaGreat
open Go.RowKit Go.Rep Go.Lim Go.Lin
set_option maxRecDepth 100000 in
theorem a9l (X:Nat->Bool) (w:World) (u v:Value) (x:Mat) (y:List Rat) (hu:MV (mk X w) u x) (hv:RV (mk X w) v y) (hxl:x.length<=1099511627776) (_hyl:y.length<=1099511627776):
  Calls Tryz.prog 76 #[u,v] w (fun e w'=>w'=w/\e= .returned (.bool (b7y x y))):=by
 have hsa:=b1R X w u x 1 12 hu hxl;obtain⟨ua,uc,rfl,huc,hus⟩:=hu;obtain⟨va,vc,rfl,hvc,hvs⟩:=hv;have hd:b7y x y=(decide (1<=x.length/\x.length<=64/\y.length=x.length)&&a6f x 1 12):=rfl;obtain⟨b,hb⟩:∃b,a6f x 1 12=b:=⟨_,rfl⟩;obtain⟨r,hr⟩:∃r,b7y x y=r:=⟨_,rfl⟩;rw[hb]at hsa hd;rw[hr]at hd |-;obtain⟨n,hn⟩:∃n,x.length=n:=⟨_,rfl⟩;obtain⟨m,hm⟩:∃m,y.length=m:=⟨_,rfl⟩;rw[hn,hm]at hd;rw[hn]at hsa hxl |-;rw[hm]at _hyl |-;have hd':=hid hd;clear hn hm hb hr hus hvs huc hvc hd;by_cases h1:1<=n
 ·by_cases h64:n<=64
  ·by_cases hmn:m=n
   ·have hbr:b=r:=by rw[hd'.out];simp[h1,h64,hmn]
    have e1:((m:Int)==(n:Int))=true:=by rw[hmn];simp
    clear hmn;go_enter Tryz.func76,Tryz.ntmps76
    go_wp2_with fail
    refine hsa.mono ?_;rintro e w1 ⟨rfl,rfl⟩;go_wp2_with fail
    go_ret
    exact⟨rfl,rfl⟩
   ·have hf:r=false:=by rw[hd'.out];simp[hmn]
    have e1:((m:Int)==(n:Int))=false:=a2I (by omega);clear hmn;subst hf;go_enter Tryz.func76,Tryz.ntmps76
    go_wp2_with fail
    go_ret
    exact⟨rfl,rfl⟩
  ·have hf:r=false:=by rw[hd'.out];simp[h64]
   subst hf;go_enter Tryz.func76,Tryz.ntmps76
   go_wp2_with fail
   go_ret
   exact⟨rfl,rfl⟩
 ·have hf:r=false:=by rw[hd'.out];simp[h1]
  subst hf;go_enter Tryz.func76,Tryz.ntmps76
  go_wp2_with fail
  go_ret
  exact⟨rfl,rfl⟩
end Go.Proofs.YtidbbddagfnfbaaGreat
namespace Go.Rep
open Go.RowKit Go.Lim
def BlR:Mem->Value->Bool->Prop:=fun _ u b=>u= .bool b
theorem BlR.mono:a3v BlR:=fun _ _ _ _ _ h=>h
theorem BlR.elem:Elem BlR 1:=⟨fun _ _ _ _ _ h=>h,by rintro h u x rfl;rfl,by
 rintro h u x rfl c hc;simp[a0j,Value.cells]at hc;subst hc;rfl,Nat.one_pos⟩
theorem BlR.one:a3h BlR:=by rintro h u x rfl;rfl
theorem Sl.bl {h:Mem} {ao:Option Addr} {l:List Bool} (s:Sl BlR 1 h ao l) (i:Nat) (hi:i<l.length):h (adr ao i)=some (.bool l[i]):=by
 obtain⟨u,h1,rfl⟩:=s.cell BlR.one i hi;exact h1
def usedL (p:List Nat) (c:Nat):List Bool:=(List.range c).map fun j=>decide (j∈p)
theorem a3d (p:List Nat) (c:Nat):(usedL p c).length=c:=by simp[usedL]
theorem b0Q (p:List Nat) (c:Nat):usedL p (c+1)=usedL p c++[decide (c∈p)]:=by simp[usedL,List.range_succ]
def b8o (A:Mem->Value->List (List Rat)->Prop) (B:Mem->Value->List Rat->Prop) (C:Mem->Value->Rat->Prop) (h:Mem) (u:Value) (m:Go.Lin.Mom):Prop:=
 ∃xo xl xc yo yl yc s a n c d k e,u= .agg #[.int .i64 m.n, .slice xo xl xc, .slice yo yl yc, .bool s, .slice a n c, .slice d k e]/\A h (.slice xo xl xc) m.xx/\B h (.slice yo yl yc) m.xy/\C h (.agg #[.bool s, .slice a n c, .slice d k e]) m.yy
def b2B:=b8o MV RV QV
def a6v:=b8o MC RC QC
theorem b8o.mono {A:Mem->Value->List (List Rat)->Prop} {B:Mem->Value->List Rat->Prop} {C:Mem->Value->Rat->Prop} (hA:a3v A) (hB:a3v B) (hC:a3v C):a3v (b8o A B C):=by
 rintro h h' u m hl ⟨xo,xl,xc,yo,yl,yc,s,a,n,c,d,k,e,rfl,h1,h2,h3⟩;exact⟨xo,xl,xc,yo,yl,yc,s,a,n,c,d,k,e,rfl,hA _ _ _ _ hl h1,hB _ _ _ _ hl h2,hC _ _ _ _ hl h3⟩
theorem b2B.mono:a3v b2B:=b8o.mono MV.mono RV.mono QV.mono
theorem a6v.mono:a3v a6v:=b8o.mono MC.mono RC.mono QC.mono
def BMo (B:Nat) (m:Go.Lin.Mom):Prop:=BM B m.xx/\BR B m.xy/\hq m.yy<=B
theorem a6v.mv {h:Mem} {u:Value} {m:Go.Lin.Mom} (s:a6v h u m) (hb:BMo 68719476736 m):b2B h u m:=by
 obtain⟨xo,xl,xc,yo,yl,yc,s,a,n,c,d,k,e,rfl,h1,h2,h3⟩:=s;exact⟨xo,xl,xc,yo,yl,yc,s,a,n,c,d,k,e,rfl,h1.mv hb.1,h2.rv hb.2.1,h3.qv hb.2.2⟩
end Go.Rep
namespace Go.Lin
structure Fit where
 rank:Nat
 used:List Bool
 coef:List Rat
 res:List Rat
 rss:Rat
 lev:List Rat
end Go.Lin
namespace Go.Rep
def c0l (h:Mem) (v:Value) (f:Go.Lin.Fit):Prop:=
 ∃uo uc co cl cc ro rl rc s a n c d k e lo ll lc,v= .agg #[.int .i64 (f.rank:Int), .slice uo f.used.length uc, .slice co cl cc, .slice ro rl rc, .bool s, .slice a n c, .slice d k e, .slice lo ll lc]/\f.used.length<=uc/\Sl BlR 1 h uo f.used/\RC h (.slice co cl cc) f.coef/\RC h (.slice ro rl rc) f.res/\QC h (.agg #[.bool s, .slice a n c, .slice d k e]) f.rss/\RC h (.slice lo ll lc) f.lev
theorem c0l.mono:a3v c0l:=by
 rintro h h' u f hl ⟨uo,uc,co,cl,cc,ro,rl,rc,s,a,n,c,d,k,e,lo,ll,lc,rfl,h0,h1,h2,h3,h4,h5⟩;exact⟨uo,uc,co,cl,cc,ro,rl,rc,s,a,n,c,d,k,e,lo,ll,lc,rfl,h0,h1.mono BlR.mono hl,RC.mono _ _ _ _ hl h2,RC.mono _ _ _ _ hl h3,QC.mono _ _ _ _ hl h4,RC.mono _ _ _ _ hl h5⟩
open Go.RowKit Go.Lim
theorem a2f {X:Nat->Bool} {w w':World} {g:Nat} (hE:Ext w w') (hg:w.heap.size<=g):Le (mk X w) (mk (un X (some ⟨g,0,none⟩)) w'):=
 a1f hE (fun k _ hk=>by simp[noY]at hk) fun k hk hz=>by
  by_cases hx:X k=true
  ·exact hx
  ·have:g=k:=by simpa[un,hx,ob]using hz
   omega
theorem a1c {X:Nat->Bool} {w:World} {g:Nat} (hX:HX X w) (hg:g<w.heap.size):HX (un X (some ⟨g,0,none⟩)) w:=fun k hk=>by
 by_cases hx:X k=true
 ·exact hX k hx
 ·have:g=k:=by simpa[un,hx,ob]using hk
  omega
section
variable {P:Program} {ops:Array Oper} {Q:Exit->Act->World->Prop} {rest:List Oper} {a:Act} {w:World}
variable {d:Option Tmp} {ty:TypeId} {ps:String} {af:Array Edge}
theorem a0z {o:Oper} {K:Act->World->Prop} {E:Prop} {t:TypeId} {x y:Operand} {n b:Nat} {cs vs:Array Value} {T:TypeId} (hg:o.guard=none) (hop:o.op= .store t x y) (hT:a1A P t n) (hx:a.eval x= .pointer (some ⟨b,0,none⟩)) (hy:a.eval y= .agg vs) (hb:Bx w b cs T) (hcs:cs.size=n) (hvs:vs.size=n) (hone:∀v∈vs.toList,v.oneCell'=true)
  (hK:∀w',Bx w' b vs T->ExtX (ob (some ⟨b,0,none⟩)) w w'->K (a.put o.dst undef) w'):
  if Region.wanted o (yielded ops a.tmps)=true then Oper.wp P o a w K Q else E:=by
 have hw:Region.wanted o (yielded ops a.tmps)=true:=by simp[Region.wanted,hg]
 rw[if_pos hw];obtain⟨w',hr,h1,h2⟩:=a5w (P:=P) hT hb hcs hvs hone;unfold Oper.wp execOp;rw[hop];simp[hx,hy,Instr.storeAt,Instr.sureAddr,hr,Result.andThen];exact hK w' h1 h2
theorem a3R {t:TypeId} {x y:Operand} {b i:Nat} {cs:Array Value} {v:Value} {T:TypeId} (hT:TyI P t 1) (hx:a.eval x= .pointer (some ⟨b,i,none⟩)) (hy:a.eval y=v) (hv:v.cells=#[v]) (hone:v.oneCell'=true) (hb:Bx w b cs T) (hi:i<cs.size)
  (K:∀w',Bx w' b (cs.set i v) T->ExtX (ob (some ⟨b,0,none⟩)) w w'->wpList P ops Q rest (a.put d undef) w'):
  wpList P ops Q (⟨d, .store t x y,ty,ps,af,none⟩::rest) a w:=by
 refine wpList_plain rfl fun K' hK'=>?_;obtain⟨ti,ht,hts⟩:=hT;obtain⟨h1,h2⟩:=a0K hb v hi;have hc:=hb.cell i (u:=cs[i]) (by simp[hi]);have hf:=hb.frozen i;unfold Oper.wp;subst hy;have hr:=run_store P w ⟨b,i,none⟩ (a.eval y) .plain hone;rw[hc,hf]at hr;simp only[Bool.false_eq_true,if_false]at hr;simp[execOp,hx,Instr.storeAt,Instr.sureAddr,storeVar,sizeOf,typeInfo,ht,hts,hv,Result.andThen,storeCells,Addr.add_zero',hr];exact hK' _ _ (K _ h1 h2)
theorem a1j {o:Oper} {K:Act->World->Prop} {E:Prop} {t:TypeId} {x y:Operand} {b i:Nat} {cs:Array Value} {v:Value} {T:TypeId} (hg:o.guard=none) (hop:o.op= .store t x y) (hT:TyI P t 1) (hx:a.eval x= .pointer (some ⟨b,i,none⟩)) (hy:a.eval y=v) (hv:v.cells=#[v]) (hone:v.oneCell'=true) (hb:Bx w b cs T) (hi:i<cs.size)
  (hK:∀w',Bx w' b (cs.set i v) T->ExtX (ob (some ⟨b,0,none⟩)) w w'->K (a.put o.dst undef) w'):
  if Region.wanted o (yielded ops a.tmps)=true then Oper.wp P o a w K Q else E:=by
 have hw:Region.wanted o (yielded ops a.tmps)=true:=by simp[Region.wanted,hg]
 rw[if_pos hw];obtain⟨ti,ht,hts⟩:=hT;obtain⟨h1,h2⟩:=a0K hb v hi;have hc:=hb.cell i (u:=cs[i]) (by simp[hi]);have hf:=hb.frozen i;unfold Oper.wp execOp;rw[hop];subst hy;have hr:=run_store P w ⟨b,i,none⟩ (a.eval y) .plain hone;rw[hc,hf]at hr;simp only[Bool.false_eq_true,if_false]at hr;simp[hx,Instr.storeAt,Instr.sureAddr,storeVar,sizeOf,typeInfo,ht,hts,hv,Result.andThen,storeCells,Addr.add_zero',hr];exact hK _ h1 h2
theorem b4N {X Z:Nat->Bool} {w w':World} (hE:Ext w w') (h:∀k,k<w.heap.size->Z k=true->X k=true):Le (mk X w) (mk Z w'):=
 a1f hE (fun k _ hk=>by simp[noY]at hk) h
theorem a4s {X Y Z:Nat->Bool} {w w':World} (hE:ExtX Y w w') (hY:∀k,Y k=true->Z k=true) (hX:∀k,X k=true->Z k=true):Le (mk Z w) (mk X w'):=fun a u h=>a1E (fun k _ hk=>hX k hk) a u (a0x hE hY a u h)
theorem a0U (X:Nat->Bool) (a b:Option Addr):un (un X a) b=un (un X b) a:=by
 funext k;simp only[un];cases X k<;>cases ob a k<;>cases ob b k<;>rfl
theorem a2O {X:Nat->Bool} {w:World} {ao:Option Addr} (hX:HX X w) (h:∀k,ob ao k=true->k<w.heap.size):HX (un X ao) w:=fun k hk=>by
 by_cases hx:X k=true
 ·exact hX k hx
 ·exact h k (by simpa[un,hx]using hk)
theorem a7J (X:Nat->Bool):un X none=X:=by funext k;simp[un,ob]
end
theorem c0m (n:Int) (xo yo ao bo:Option Addr) (xl xc yl yc l c k e:Nat) (s:Bool):∀v∈(#[Value.int .i64 n, .slice xo xl xc, .slice yo yl yc, .bool s, .slice ao l c, .slice bo k e]:Array Value).toList,v.oneCell'=true:=by
 intro v hv;simp at hv;rcases hv with rfl|rfl|rfl|rfl|rfl|rfl<;>rfl
end Go.Rep
namespace Go.Proofs.YtidbbddagfnfbaaGreat
open Go.RowKit Go.Rep
theorem a3u:a1A Tryz.prog 173 6:=by
 have h:(Tryz.prog.info? 173).map (fun i=>(i.zero,i.size,i.bytes))=some (some (.agg #[.int .i64 0, .slice none 0 0, .slice none 0 0, .bool false, .slice none 0 0, .slice none 0 0]),6,112):=by kernel_rfl
 obtain⟨ti,h1,_,h2,_⟩:=info_parts h;exact⟨_,ti,Tryz.underlying173,h1,h2⟩
theorem b7z:(Tryz.prog.info? 24).map (fun i=>(i.zero,i.size,i.bytes))=some (some (.slice none 0 0),1,24):=by kernel_rfl
theorem b5X:TyI Tryz.prog 24 1:=let ⟨i,h,_,h2,_⟩:=info_parts b7z;⟨i,h,h2⟩
theorem b7A:(Tryz.prog.info? 23).map (fun i=>(i.zero,i.size,i.bytes))=some (some (.slice none 0 0),1,24):=by kernel_rfl
theorem b9i:TyI Tryz.prog 23 1:=let ⟨i,h,_,h2,_⟩:=info_parts b7A;⟨i,h,h2⟩
theorem a7K:a1A Tryz.prog 51 8:=by
 have h:(Tryz.prog.info? 51).map (fun i=>(i.zero,i.size,i.bytes))=some (some (.agg #[.int .i64 0, .slice none 0 0, .slice none 0 0, .slice none 0 0, .bool false, .slice none 0 0, .slice none 0 0, .slice none 0 0]),8,160):=by kernel_rfl
 obtain⟨ti,h1,_,h2,_⟩:=info_parts h;exact⟨_,ti,Tryz.underlying51,h1,h2⟩
end Go.Proofs.YtidbbddagfnfbaaGreat
namespace Go.Rep
open Go.RowKit Go.Lim
abbrev a9m (X:Nat->Bool) (fb:Nat):Nat->Bool:=un X (some ⟨fb,0,none⟩)
abbrev a6w (X:Nat->Bool) (fb:Nat) (po oo:Option Addr):Nat->Bool:=un (un (a9m X fb) po) oo
structure RS (X:Nat->Bool) (w0:World) (b fb base:Nat) (T1 T2 T3:TypeId) (w:World) (oo:Option Addr) (co:Nat) (po:Option Addr) (pc:Nat) (M:List (List Rat)) (p:List Nat) (f:Rat):Prop where
 rows:OL RC 1 (un (a9m X fb) po) base T1 w oo co M
 piv:OL (a0d .i64) 1 (un (a9m X fb) oo) base T3 w po pc p
 fac:∃s a n c d k e,Bx w fb #[.bool s, .slice a n c, .slice d k e] T2/\QC (mk (a6w X fb po oo) w) (.agg #[.bool s, .slice a n c, .slice d k e]) f
 hx:HX X w
 res:Bx w b #[.bool false, .slice none 0 0, .slice none 0 0] T2
 rb:X b=true
 fb0:fb≠b
 ext:Ext w0 w
 low:w0.heap.size<=base
 lowf:w0.heap.size<=fb
section
variable {X:Nat->Bool} {w0 w w':World} {b fb base:Nat} {T1 T2 T3:TypeId} {oo po:Option Addr} {co pc:Nat} {M M':List (List Rat)} {p:List Nat} {f f':Rat}
theorem RS.oF (h:RS X w0 b fb base T1 T2 T3 w oo co po pc M p f):ob oo fb=false:=by
 cases hb:ob oo fb
 ·rfl
 ·have:=h.rows.1 fb hb;rw[a0k (a0q (a8U fb))]at this;simp at this
theorem RS.pF (h:RS X w0 b fb base T1 T2 T3 w oo co po pc M p f):ob po fb=false:=by
 cases hb:ob po fb
 ·rfl
 ·have:=h.piv.1 fb hb;rw[a0k (a0q (a8U fb))]at this;simp at this
theorem RS.oB (h:RS X w0 b fb base T1 T2 T3 w oo co po pc M p f):ob oo b=false:=by
 cases hb:ob oo b
 ·rfl
 ·have:=h.rows.1 b hb;rw[a0k (a0k h.rb)]at this;simp at this
theorem RS.pB (h:RS X w0 b fb base T1 T2 T3 w oo co po pc M p f):ob po b=false:=by
 cases hb:ob po b
 ·rfl
 ·have:=h.piv.1 b hb;rw[a0k (a0k h.rb)]at this;simp at this
theorem RS.po_oo (h:RS X w0 b fb base T1 T2 T3 w oo co po pc M p f) (k:Nat) (hk:ob po k=true):ob oo k=false:=(a1q (h.piv.1 k hk)).2
theorem RS.flt (h:RS X w0 b fb base T1 T2 T3 w oo co po pc M p f):fb<w.heap.size:=by
 obtain⟨_,_,_,_,_,_,_,h1,_⟩:=h.fac;exact h1.lt
theorem RS.hz (h:RS X w0 b fb base T1 T2 T3 w oo co po pc M p f):HX (a6w X fb po oo) w:=fun k hk=>by
 by_cases h1:ob oo k=true
 ·exact(h.rows.block h1).2
 ·by_cases h2:ob po k=true
  ·exact(h.piv.block h2).2
  ·by_cases h3:X k=true
   ·exact h.hx k h3
   ·have h1':ob oo k=false:=by simpa using h1
    have h2':ob po k=false:=by simpa using h2
    have h3':X k=false:=by simpa using h3
    have h4:ob (some ⟨fb,0,none⟩) k=true:=by simpa[a6w,a9m,un,h1',h2',h3']using hk
    have:fb=k:=by simpa[ob]using h4
    rw[<-this];exact h.flt
theorem RS.row (h:RS X w0 b fb base T1 T2 T3 w oo co po pc M p f) (i:Nat) (hi:i<M.length):∃a c,w.cell? (adr oo i)=some (.slice a M[i].length c)/\w.frozen? (adr oo i)=false/\M[i].length<=c/\Sl QC 3 (_root_.Go.Rep.mk (a6w X fb po oo) w) a M[i]:=by
 obtain⟨u,h1,h2,a,c,rfl,h4,h5⟩:=h.rows.cell SlV.one i hi;exact⟨a,c,h1,h2,h4,h5⟩
theorem RS.ext0 (h:RS X w0 b fb base T1 T2 T3 w oo co po pc M p f) (hE:Ext w w'):RS X w0 b fb base T1 T2 T3 w' oo co po pc M p f:=by
 obtain⟨s,a,n,c,d,k,e,h1,h2⟩:=h.fac;exact⟨h.rows.ext0 RC.elem hE,h.piv.ext0 (a0d.elem _) hE,⟨s,a,n,c,d,k,e,h1.ext0 hE,mkx QC.mono h2 hE⟩,h.hx.ext hE,h.res.ext0 hE,h.rb,h.fb0,h.ext.trans hE,h.low,h.lowf⟩
theorem RS.setRows (h:RS X w0 b fb base T1 T2 T3 w oo co po pc M p f) (hE:ExtX (ob oo) w w') (hO:OL RC 1 (un (a9m X fb) po) base T1 w' oo co M'):RS X w0 b fb base T1 T2 T3 w' oo co po pc M' p f:=by
 obtain⟨s,a,n,c,d,k,e,h1,h2⟩:=h.fac;exact⟨hO,h.piv.frame (a0d.pure _) hE (fun k hk=>h.po_oo k hk) h.piv.1,⟨s,a,n,c,d,k,e,h1.ext hE h.oF,QC.mono _ _ _ _ (a0x hE fun k hk=>a0q hk) h2⟩,h.hx.ext hE,h.res.ext hE h.oB,h.rb,h.fb0,h.ext.own h.rows h.low hE,h.low,h.lowf⟩
theorem RS.setFac (h:RS X w0 b fb base T1 T2 T3 w oo co po pc M p f) (hE:ExtX (ob (some ⟨fb,0,none⟩)) w w') {s:Bool} {a:Option Addr} {n c:Nat} {d:Option Addr} {k e:Nat} (hB:Bx w' fb #[.bool s, .slice a n c, .slice d k e] T2) (hq:QC (_root_.Go.Rep.mk (a6w X fb po oo) w') (.agg #[.bool s, .slice a n c, .slice d k e]) f'):RS X w0 b fb base T1 T2 T3 w' oo co po pc M p f':=by
 have hf:∀k,ob (some ⟨fb,0,none⟩) k=true->k=fb:=fun k hk=>by
  have:fb=k:=by simpa[ob]using hk
  exact this.symm
 refine⟨h.rows.ext RC.elem hE (fun k _ hk=>a0k (a0q hk)) (fun _ _ h=>h),h.piv.frame (a0d.pure _) hE (fun k hk=>?_) h.piv.1,⟨s,a,n,c,d,k,e,hB,hq⟩,h.hx.ext hE,h.res.ext hE (a0b (Ne.symm h.fb0)),h.rb,h.fb0,h.ext.then_ hE fun k hk _=>?_,h.low,h.lowf⟩
 ·cases hb:ob (some ⟨fb,0,none⟩) k
  ·rfl
  ·have:=hf k hb;subst this;rw[h.pF]at hk;simp at hk
 ·cases hb:ob (some ⟨fb,0,none⟩) k
  ·rfl
  ·have:=hf k hb;have:=h.lowf;omega
theorem RS.push (h:RS X w0 b fb base T1 T2 T3 w oo co po pc M p f) {po2:Option Addr} {pc2 j:Nat} (hE:ExtX (ob po) w w') (hP:OL (a0d .i64) 1 (un (a9m X fb) oo) base T3 w' po2 pc2 (p++[j])) (hor:po2=po\/∃g,po2=some ⟨g,0,none⟩/\w.heap.size<=g):RS X w0 b fb base T1 T2 T3 w' oo co po2 pc2 M (p++[j]) f:=by
 obtain⟨s,a,n,c,d,k,e,h1,h2⟩:=h.fac;have hold:∀k,k<w.heap.size->ob po2 k=true->ob po k=true:=fun k hk h9=>by
  rcases hor with rfl|⟨g,rfl,hg⟩
  ·exact h9
  ·have:g=k:=by simpa[ob]using h9
   omega
 have hF:∀k,k<w.heap.size->un (a9m X fb) po2 k=true->un (a9m X fb) po k=true:=fun k hk hz=>by
  by_cases hx:a9m X fb k=true
  ·exact a0k hx
  ·exact a0q (hold k hk (by simpa[un,hx]using hz))
 refine⟨h.rows.ext RC.elem hE (fun k _ hk=>a0q hk) hF,hP,⟨s,a,n,c,d,k,e,h1.ext hE h.pF,QC.mono _ _ _ _ (a1f hE (fun k _ hk=>a0k (a0q hk)) fun k hk hz=>?_) h2⟩,h.hx.ext hE,h.res.ext hE h.pB,h.rb,h.fb0,h.ext.own h.piv h.low hE,h.low,h.lowf⟩;by_cases ho:ob oo k=true
 ·exact a0q ho
 ·exact a0k (hF k hk (by simpa[un,ho]using hz))
end
end Go.Rep
namespace Go.Lin
open Go.Lim
def a6H (m:Mat) (c:Nat):Prop:=∃B,6*B<=68719476736/\∀j,j<=c->HB B (rN m j).1/\hq (rN m j).2.2<=B
theorem b2C {n c:Nat} {m:Mat} (hs:Shp n c m) (k:Nat):(rN m k).2.1.length<=n:=(a5M hs k).ref.le
theorem b4O {n c B:Nat} {m:Mat} (hs:Shp n c m) (h:HB B m) (hB:6*(6^n*B)<=68719476736):a6H m c:=
 ⟨6^n*B,hB,fun j _=>by
  obtain⟨h1,h2⟩:=h.rN hs j;have hp:6^(rN m j).2.1.length*B<=6^n*B:=Nat.mul_le_mul_right _ (Nat.pow_le_pow_right (by decide) (b2C hs j));exact⟨h1.mono hp,Nat.le_trans h2 hp⟩⟩
theorem b2D (m:Mat) (k:Nat):rN m (k+1)=a6e (rN m k) k:=rfl
theorem a3e {m:Mat} {i:Nat} (h:i<m.length):m.getD i []=m[i]:=by simp[List.getD_eq_getElem?_getD,h]
theorem a9n {m:Mat} {i:Nat} (h:i<m.length) (j:Nat):ent m i j=(m[i]).getD j 0:=by unfold ent;rw[a3e h]
theorem b7B {m:Mat} {n t col:Nat} (hl:m.length=n) (h:∀q,t<=q->q<n->ent m q col=0):b1I m t col=none:=by
 unfold b1I;rw[List.findIdx?_eq_none_iff];intro r hr;obtain⟨i,hi,rfl⟩:=List.getElem_of_mem hr;rw[List.length_drop]at hi;have:=h (t+i) (by omega) (by omega);rw[a9n (by omega)]at this;simpa using this
theorem b7C {m:Mat} {n t col a:Nat} (hl:m.length=n) (h:∀q,t<=q->q<t+a->ent m q col=0) (ha:t+a<n) (hne:ent m (t+a) col≠0):b1I m t col=some a:=by
 unfold b1I;rw[List.findIdx?_eq_some_iff_getElem];refine⟨by rw[List.length_drop];omega,?_,fun j hj=>?_⟩
 ·rw[List.getElem_drop,<-a9n (by omega)];simpa using hne
 ·rw[List.getElem_drop,<-a9n (by omega)];simpa using h (t+j) (by omega) (by omega)
theorem b4P (m:Mat) (t col:Nat):out m t col 0=m:=by
 unfold out rows;refine List.ext_getElem (by simp) fun q h1 h2=>?_;rw[List.getElem_mapIdx,if_neg (by omega)]
theorem a4t (m:Mat) (t col s:Nat):(out m t col s).length=m.length:=by simp[out,rows]
theorem a5p {m:Mat} {t col s i:Nat} (h:i<(out m t col s).length) (h2:i<m.length):(out m t col s)[i]=if i≠t/\i<s then List.zipWith (· + ·) m[i] ((m.getD t []).map (· * - m[i].getD col 0))else m[i]:=by
 show(m.mapIdx _)[i]'(by simpa using h2)=_
 rw[List.getElem_mapIdx]
theorem b7D {m:Mat} {t col s:Nat} (h:s<m.length) (hst:s≠t):(out m t col s).set s (List.zipWith (· + ·) m[s] ((m.getD t []).map (· * - m[s].getD col 0)))=out m t col (s+1):=by
 refine List.ext_getElem (by simp[a4t]) fun q h1 h2=>?_;have hq:q<m.length:=by rw[a4t]at h2;exact h2
 rw[List.getElem_set,a5p h2 hq];split
 ·subst_vars;rw[if_pos ⟨hst,by omega⟩]
 ·rw[a5p (by simpa[a4t]using hq) hq]
  by_cases a:q≠t/\q<s
  ·rw[if_pos a,if_pos ⟨a.1,by omega⟩]
  ·rw[if_neg a,if_neg (by omega)]
theorem b4Q {m:Mat} {t col:Nat}:out m t col t=out m t col (t+1):=by
 refine List.ext_getElem (by simp[a4t]) fun q h1 h2=>?_;have hq:q<m.length:=by rw[a4t]at h2;exact h2
 rw[a5p h1 hq,a5p h2 hq];by_cases a:q≠t/\q<t
 ·rw[if_pos a,if_pos ⟨a.1,by omega⟩]
 ·rw[if_neg a,if_neg (by omega)]
theorem b2E {m:Mat} {i k:Nat} (hi:i<m.length) (hk:k<m.length):(m.set i m[k]).set k m[i]=a1d m i k:=by
 unfold a1d;rw[a3e hi,a3e hk]
theorem b9j {n c:Nat} {m M:Mat} {P:List Nat} {f:Rat} {j pl a:Nat} (hs:Shp n c m) (hst:rN m j=(M,P,f)) (hpl:P.length=pl) (hz:∀q,pl<=q->q<pl+a->ent M q j=0) (ha:pl+a<n) (hne:ent M (pl+a) j≠0):
  rN m (j+1)=(out (pv (a1d M (pl+a) pl) pl j) pl j n,P++[j],(if a=0 then f else - f)*ent (a1d M (pl+a) pl) pl j):=by
 have hM:Shp n c M:=by have:=(a5M hs j).shp;rw[hst]at this;exact this
 subst hpl;rw[b2D,hst];unfold a6e
 dsimp only
 rw[b7C hM.1 hz ha hne]
 dsimp only
 rw[hM.1]
theorem b7E {n c:Nat} {m M:Mat} {P:List Nat} {f:Rat} {j pl:Nat} (hs:Shp n c m) (hst:rN m j=(M,P,f)) (hpl:P.length=pl) (hz:∀q,pl<=q->q<n->ent M q j=0):rN m (j+1)=(M,P,f):=by
 have hM:Shp n c M:=by have:=(a5M hs j).shp;rw[hst]at this;exact this
 subst hpl;rw[b2D,hst];unfold a6e
 dsimp only
 rw[b7B hM.1 hz]
end Go.Lin
namespace Go.Rep
open Go.RowKit
theorem b2F {X:Nat->Bool} {b k:Nat} (h:X b=true) (hk:ob (some ⟨b,0,none⟩) k=true):X k=true:=by
 have:b=k:=by simpa[ob]using hk
 subst this;exact h
section
variable {P:Program} {w:World}
theorem a9o {fn:Func} {tmps:Array Value} {c d e:Tmp} {t:TypeId} {n b:Nat} {cs:Array Value} {T:TypeId} (h:fn.results=#[.tmp d, .tmp e, .cell c t]) (hp:tmps.getD c undef= .pointer (some ⟨b,0,none⟩)) (hT:a1A P t n) (hb:Bx w b cs T) (hcs:cs.size=n):
  (results fn tmps).run P w= .ok (.tuple #[tmps.getD d undef,tmps.getD e undef, .agg cs]) w:=by
 have hl:=a1U (P:=P) hT hb hcs;rw[Array.getD_eq_getD_getElem?]at hp;simp[results,h,hp,asAddr,hl]
end
end Go.Rep
namespace Go.Lin
open Go.Lim Go.Rep
theorem b2G {p:List Nat} {c:Nat} (h1:∀i (hi:i<p.length),p[i]<c) (h2:∀i k (hik:i<k) (hk:k<p.length),p[i]<p[k]):p.length<=c:=by
 have hpw:p.Pairwise (· < ·):=List.pairwise_iff_getElem.2 fun i j hi hj hij=>h2 i j hij hj;have hnd:p.Nodup:=hpw.imp fun h=>Nat.ne_of_lt h;have h3:p.length<=(List.range c).length:=hnd.length_le_of_subset fun j hj=>by
  obtain⟨k,hk,rfl⟩:=List.getElem_of_mem hj;exact List.mem_range.2 (h1 k hk)
 rwa[List.length_range]at h3
theorem b0R {n c B:Nat} {m:Mat} (hs:Shp n c m) (h:HB B m) (hc:c<=4) (hBB:B<=6000):b4q m c/\a6H m c:=by
 have hle:∀j,j<=c->(eN m j).2.1.length<=4:=fun j hj=>Nat.le_trans (b2G (a5L hs j).ech.lt (a5L hs j).ech.inc) (by omega);have hle2:∀j,j<=c->(rN m j).2.1.length<=4:=fun j hj=>Nat.le_trans (b2G (a5M hs j).ref.lt (a5M hs j).ref.inc) (by omega);have p5:∀k,k<=4->5^k<=625:=fun k hk=>Nat.le_trans (a6j 5 (by omega) hk) (by decide);have p7:∀k,k<=4->7^k<=2401:=fun k hk=>Nat.le_trans (a6j 7 (by omega) hk) (by decide);have p6:∀k,k<=4->6^k<=1296:=fun k hk=>Nat.le_trans (a6j 6 (by omega) hk) (by decide);refine⟨⟨1500625*B,by omega,fun j hj=>(h.eN hs j).mono (Nat.mul_le_mul_right _ (Nat.le_trans (p5 _ (hle j hj)) (by decide))),fun t ht=>(((h.eN hs c).dN (a5L hs c).shp (a5L hs c).ech t ht)).mono ?_⟩,⟨1296*B,by omega,fun j hj=>?_⟩⟩
 ·rw[<-Nat.mul_assoc]
  refine Nat.mul_le_mul_right _ ?_;exact Nat.mul_le_mul (p7 t (Nat.le_trans ht (hle c (Nat.le_refl _)))) (p5 _ (hle c (Nat.le_refl _)))
 ·obtain⟨h1,h2⟩:=h.rN hs j
  have hp:=Nat.mul_le_mul_right B (p6 _ (hle2 j hj));exact⟨h1.mono hp,Nat.le_trans h2 hp⟩
theorem a4b {n c B:Nat} {m:Mat} (hs:Shp n c m) (h:HB B m) (hn:n<=4) (hBB:B<=6000):b4q m c/\a6H m c:=by
 have h35:=b9e hn;have h6:6^n<=1296:=Nat.le_trans (Nat.pow_le_pow_right (by omega) hn) (by decide);have h1:=Nat.mul_le_mul h35 hBB;have h2:=Nat.mul_le_mul h6 hBB;exact⟨b7e hs h (by omega),b4O hs h (by omega)⟩
theorem b2H {n c B:Nat} {m:Mat} (hs:Shp n c m) (h:HB B m) (hn:n<=4):HB (1296*B) (a1b m c).1:=by
 rw[(b1K hs).1];refine(h.rN hs c).1.mono (Nat.mul_le_mul_right _ ?_);exact Nat.le_trans (a6j 6 (by omega) (Nat.le_trans (b2C hs c) hn)) (by decide)
theorem b2I {n B:Nat} {f:Nat->Rat} (h:∀i,i<n->hq (f i)<=B):hq (sm n f)<=1+n*(B+1):=by
 induction n with
 |zero=>unfold sm;rw[a0Y];omega
 |succ n ih=>
  unfold sm;have h1:=ih fun i hi=>h i (by omega);have h2:=a9M (sm n f) (f n);have h3:=h n (by omega);have e:(n+1)*(B+1)=n*(B+1)+(B+1):=Nat.succ_mul _ _;omega
theorem b7F {l:List Rat} {B:Nat} (h:BR B l) (hB:1<=B) (i:Nat):hq (fn l i)<=B:=a8u h hB i
theorem b2J {l m:List Rat} {c B C:Nat} (hl:l.length=c) (h1:BR B l) (h2:BR C m) (hB:1<=B) (hC:1<=C):hq (a2d l m)<=1+c*(B+C+1):=by
 rw[a7G hl];refine b2I fun i hi=>Nat.le_trans (hq_mul _ _) ?_;have:=a8u h1 hB i;have:=a8u h2 hC i;omega
theorem b9k {x:Mat} {n B:Nat} (h:HB B x) (i j:Nat):hq (gr n (ent x) i j)<=1+n*(2*B+1):=b2I fun r _=>Nat.le_trans (hq_mul _ _) (by have:=h r i;have:=h r j;omega)
theorem c0n {x:Mat} {y:List Rat} {n B:Nat} (h:HB B x) (hy:BR B y) (i:Nat):hq (gy n (ent x) (fn y) i)<=1+n*(2*B+1):=b2I fun r _=>Nat.le_trans (hq_mul _ _) (by have:=h r i;have:=b7F hy h.pos r;omega)
theorem a5a {n B:Nat} (hn:n<=8) (hB:B<=370):1+n*(2*B+1)<=5929:=by
 have:=Nat.mul_le_mul hn (show 2*B+1<=741 by omega);omega
theorem b2K {x:Mat} {n c B:Nat} (h:HB B x) (hn:n<=8) (hB:B<=370):HB 5929 (gmL x n c):=fun i j=>by
 by_cases hi:i<c
 ·by_cases hj:j<c
  ·rw[a6q x n c i hi j hj];exact Nat.le_trans (b9k h i j) (a5a hn hB)
  ·rw[a1L (a2F x n c) (.inr (by omega)),a0Y];decide
 ·rw[a1L (a2F x n c) (.inl (by omega)),a0Y];decide
theorem b2L {x:Mat} {y:List Rat} {n c B:Nat} (h:HB B x) (hy:BR B y) (hn:n<=8) (hB:B<=370):BR 5929 (gyL x y n c):=fun q hq=>by
 obtain⟨i,_,rfl⟩:=List.mem_map.1 hq;exact Nat.le_trans (c0n h hy i) (a5a hn hB)
theorem b2M {m:Mat} {b:List Rat} {n c B:Nat} (hs:Shp n c m) (hm:HB B m) (hb:BR B b) (hn:n<=4):BR (1296*B) (b5U (a1b (a2N m b n) (c+1)).1 (a1b (a2N m b n) (c+1)).2 c):=c0k fun x hx=>by
 obtain⟨_,h2,_⟩:=a1o (a2e (b:=b) hs);have h5:=b2H (a2e hs) (b0h hs hm hb) hn;rw[a9h]at hx;rw[b0e h2 x hx];unfold b1Q;split
 ·exact h5 _ _
 ·rw[a0Y];exact h5.pos
theorem b2N {x:Mat} {y:List Rat} {n c B:Nat} (h:HB B x) (hy:BR B y) (hn:n<=8) (hc:c<=4) (hB:B<=370):BR 8000000 (a1y x y n c):=fun q hq=>
 Nat.le_trans (b2M (a2F x n c) (b2K h hn hB) (b2L h hy hn hB) hc q hq) (by decide)
theorem b9l {l:List Rat} {B i:Nat} (h:BR B l) (hi:i<l.length):hq l[i]<=B:=h _ (List.getElem_mem hi)
theorem b9m {x:Mat} {y b:List Rat} {n c B C:Nat} (hs:Shp n c x) (h:BM B x) (hy:BR B y) (hb:BR C b) (hB1:1<=B) (hC1:1<=C):BR (B+c*(B+C+1)+2) (a2T x y b):=fun q hq=>by
 obtain⟨i,hi,rfl⟩:=List.getElem_of_mem hq;have h1:i<x.length:=by unfold a2T at hi;rw[List.length_zipWith]at hi;omega
 have h2:i<y.length:=by unfold a2T at hi;rw[List.length_zipWith]at hi;omega
 rw[a6s hi h1 h2];have a1:=a9N y[i] (a2d x[i] b);have a2:=b9l hy h2;have a3:=b2J (hs.2 _ (List.getElem_mem h1)) (h _ (List.getElem_mem h1)) hb hB1 hC1;omega
theorem b2O {x:Mat} {y b:List Rat} {n c B:Nat} (hs:Shp n c x) (h:BM B x) (hy:BR B y) (hb:BR 8000000 b) (hB1:1<=B) (hc:c<=4) (hB:B<=370):BR 33000000 (a2T x y b):=fun q hq=>by
 have h1:=b9m hs h hy hb hB1 (by decide) q hq;have:=Nat.mul_le_mul hc (show B+8000000+1<=8000371 by omega);omega
theorem b9n {l:List Rat} (h:BR 33000000 l) (hn:l.length<=8):hq (a2d l l)<=600000000:=by
 have h1:=b2J rfl h h (by decide) (by decide);have:=Nat.mul_le_mul hn (Nat.le_refl (33000000+33000000+1));omega
theorem b9o {x:Mat} {p:List Nat} {B:Nat} (h:BM B x) (hB:1<=B):BM B (pkL x p):=fun r hr q hq=>by
 obtain⟨s,hs,rfl⟩:=List.mem_map.1 hr;obtain⟨j,_,rfl⟩:=List.mem_map.1 hq;exact a8u (h s hs) hB j
theorem b0p {u:Mat} {n m B:Nat} (h:HB B u) (hn:n<=8) (hB:B<=370):HB 5929 (a1T u n m):=fun i j=>by
 by_cases hi:i<m
 ·by_cases hj:j<m
  ·rw[a8x u n m i hi j hj];exact Nat.le_trans (b9k h i j) (a5a hn hB)
  ·rw[a1L (a0S u n m) (.inr (by omega)),a0Y];decide
 ·rw[a1L (a0S u n m) (.inl (by omega)),a0Y];decide
theorem a7L {m:Mat} {n B:Nat} (hs:Shp n n m) (h:HB B m):HB B (a1B m n):=fun i j=>by
 have h1:=h.pos;by_cases hi:i<n
 ·by_cases hj:j<2*n
  ·rw[a3a hs i hi j hj]
   split
   ·exact h i j
   ·split
    ·have:hq (1:Rat)<=1:=by decide+kernel
     omega
    ·rw[a0Y];exact h1
  ·rw[a1L (a1C hs) (.inr (by omega)),a0Y];exact h1
 ·rw[a1L (a1C hs) (.inl (by omega)),a0Y];exact h1
theorem b7G {m:Mat} {n B:Nat} (hs:Shp n n m) (h:HB B m) (hn:n<=4):HB (1296*B) (a2B m n):=fun i j=>by
 have h5:=b2H (a1C hs) (a7L hs h) hn;by_cases hi:i<n
 ·rw[b0k hs i hi j];exact h5 _ _
 ·rw[a1L (a2A hs) (.inl (by omega)),a0Y];exact h5.pos
theorem b2P {u:Mat} {n m B:Nat} (h:HB B u) (hn:n<=8) (hm:m<=4) (hB:B<=370):BM 8000000 (a2B (a1T u n m) m):=fun r hr q hq=>
 Nat.le_trans (a7D (b7G (a0S u n m) (b0p h hn hB) hm) r hr q hq) (by decide)
theorem b2Q {m:Mat} {v:List Rat} {n c B C:Nat} (hs:Shp n c m) (h:BM B m) (hv:BR C v) (hB:1<=B) (hC:1<=C):BR (1+c*(B+C+1)) (a2Z m v):=fun q hq=>by
 obtain⟨r,hr,rfl⟩:=List.mem_map.1 hq;exact b2J (hs.2 r hr) (h r hr) hv hB hC
theorem b7H {u:Mat} {n m B:Nat} (hu:BM B u) (hn:n<=8) (hm:m<=4) (hB1:1<=B) (hB:B<=370) {r:List Rat} (hr:r∈u):BR 33000000 (a2Z (a2B (a1T u n m) m) r):=fun q hq=>by
 have h1:=b2Q (a2A (a0S u n m)) (b2P (a8q hu hB1) hn hm hB) (hu r hr) (by decide) hB1 q hq;have:=Nat.mul_le_mul hm (show 8000000+B+1<=8000371 by omega);omega
end Go.Lin
namespace Go
section
variable {P:Program} {ops:Array Oper} {Q:Exit->Act->World->Prop} {md:Region.Mode} {S:World->Prop} {n:Nat}
def a1O (P:Program) (md:Region.Mode) (ops:Array Oper) (Q:Exit->Act->World->Prop) (S:World->Prop) (n:Nat):Nat->Array Bool->Act->World->Prop
 |0,listed,a,w=>Region.ready md ops listed= []/\Q .normal a w
 |fuel+1,listed,a,w=>
  (Region.ready md ops listed= []->Q .normal a w)/\
  ∀i∈Region.ready md ops listed,wpOp P ops Q i (fun a' w'=>(i<n->S w')/\a1O P md ops Q S n fuel (listed.setIfInBounds i true) a' w') a w
theorem a7b:∀(fuel:Nat) (listed:Array Bool) (a:Act) (w:World),a1O P md ops Q S n fuel listed a w->wpAny P md ops Q fuel listed a w
 |0,_,_,_,h=>h
 |fuel+1,_,_,_,h=>⟨h.1,fun i hi=>wpOp_mono (fun a' w' h'=>a7b fuel _ a' w' h'.2) (h.2 i hi)⟩
theorem a8B {i:Nat} {oi:Oper} {v:Value} (hs:Region.sinkB md ops n=true) (hc:Region.chainB md ops n=true) (hn:n<ops.size) (hin:i<n) (hi:ops[i]? =some oi) (hsel:∀(j:Nat) (o:Oper) cs b,ops[j]? =some o->o.op≠ .select cs b)
  (hQ:∀c a w,Q (.panic c) (a.put oi.dst v) w->Q (.panic c) a w):
  ∀(fuel:Nat) (listed:Array Bool) (a:Act) (w:World),HeadInv md ops n listed->
   (∀j oj,ops[j]? =some oj->j≠i->listed.getD j true=false->(∀e∈oj.after,Region.binds md e=true->e.on≠i)->oi.apart ops oj=true)->
   i∈Region.ready md ops listed->YieldsIf P ops S oi v a->S w->
   a1O P md ops Q S n fuel (listed.setIfInBounds i true) (a.put oi.dst v) w->a1O P md ops Q S n (fuel+1) listed a w:=by
 intro fuel
 induction fuel with
 |zero=>
  intro listed a w _ _ hr hy hS H;refine⟨fun h=>(by rw[h]at hr;cases hr),fun j hj=>?_⟩;by_cases hji:j=i
  ·subst hji;exact hy.wpOp hi hS ⟨fun _=>hS,H⟩
  ·have:=ready_mono hj hji
   rw[H.1]at this;cases this
 |succ fuel ih=>
  intro listed a w inv hfree hr hy hS H;refine⟨fun h=>(by rw[h]at hr;cases hr),fun j hj=>?_⟩;by_cases hji:j=i
  ·subst hji;exact hy.wpOp hi hS ⟨fun _=>hS,H⟩
  ·have hjn:j<n:=by
    rcases Nat.lt_or_ge j n with h|h
    ·exact h
    ·exact absurd hj (tail_waits hs hc hn inv (n - i) i rfl hin (mem_ready.1 hr).1 j h)
   have h1:=H.2 j (ready_mono hj hji);obtain⟨hjun,oj,hoj,hall⟩:=mem_ready.1 hj;have hnot:∀e∈oj.after,Region.binds md e=true->e.on≠i:=fun e he hb heq=>by
    have h1:=hall e he hb;have h0:=(mem_ready.1 hr).1;rw[heq]at h1;rcases Nat.lt_or_ge i listed.size with h'|h'
    ·simp[h']at h0 h1;rw[h0]at h1;cases h1
    ·simp[Array.getElem?_eq_none h']at h1
   have h2:=wpOp_putIf hoj (hfree j oj hoj hji hjun hnot) (fun cs b=>hsel i oi cs b hi) (fun cs b=>hsel j oj cs b hoj) hQ hy h1;have hfree':∀k ok,ops[k]? =some ok->k≠i->(listed.setIfInBounds j true).getD k true=false->
     (∀e∈ok.after,Region.binds md e=true->e.on≠i)->oi.apart ops ok=true:=fun k ok hk hki hun hno=>by
    refine hfree k ok hk hki ?_ hno;by_cases hjk:j=k
    ·subst hjk;exact hjun
    ·rw[getD_set_ne true hjk]at hun;exact hun
   refine wpOp_mono (fun a' w' h3=>⟨h3.2.1,ih (listed.setIfInBounds j true) a' w' (inv.set hj hjn) hfree' (ready_mono hr (Ne.symm hji)) h3.1 (h3.2.1 hjn) ?_⟩) h2;rw[Array.setIfInBounds_comm _ _ hji];exact h3.2.2
def b7I (md:Region.Mode) (ops:Array Oper) (n:Nat) (listed:Array Bool):Bool:=
 decide (listed.size=ops.size)&&
 ((List.range ops.size).all fun j=> !listed.getD j false||(match ops[j]? with|some o=>o.after.all fun e=> !Region.binds md e||listed.getD e.on false|none=>true))&&
 ((List.range ops.size).all fun t=>decide (t<n)|| !listed.getD t true)
theorem b2R {listed:Array Bool} (h:b7I md ops n listed=true):HeadInv md ops n listed:=by
 unfold b7I at h;simp only[Bool.and_eq_true,decide_eq_true_eq]at h;obtain⟨⟨h1,h2⟩,h3⟩:=h;refine⟨h1,fun j oj hj hl e he hb=>?_,fun t ht ht'=>?_⟩
 ·have hlt:j<ops.size:=(Array.getElem?_eq_some_iff.1 hj).1
  have h4:=List.all_eq_true.1 h2 j (List.mem_range.2 hlt);rw[hl,hj]at h4;simp only[Bool.not_true,Bool.false_or]at h4;have h5:=Array.all_eq_true_iff_forall_mem.1 h4 e he;rw[hb]at h5;simpa using h5
 ·have h4:=List.all_eq_true.1 h3 t (List.mem_range.2 ht')
  simp only[Bool.or_eq_true,decide_eq_true_eq,Bool.not_eq_true']at h4;rcases h4 with h4|h4
  ·omega
  ·exact h4
def b9p (md:Region.Mode) (ops:Array Oper) (n i:Nat) (listed:Array Bool):Bool:=
 decide (i<n)&&b7I md ops n listed&&Region.free md ops listed i&&(Region.ready md ops listed).contains i
def b4R (md:Region.Mode) (ops:Array Oper) (n:Nat):Bool:=Region.sinkB md ops n&&Region.chainB md ops n&&decide (n<ops.size)&&Region.noSelect ops
theorem a0a {i:Nat} {oi:Oper} {v:Value} {fuel:Nat} {listed:Array Bool} {a:Act} {w:World} (hO:Shut (b4R md ops n=true)) (hi:ops[i]? =some oi)
  (hB:b9p md ops n i listed=true)
  (hQ:∀c a w,Q (.panic c) (a.put oi.dst v) w->Q (.panic c) a w) (hS:S w) (hw:Region.wanted oi (yielded ops a.tmps)=true) (hy:∀w,S w->(execOp a.eval oi).run P w= .ok (.value v) w)
  (h:a1O P md ops Q S n fuel (listed.setIfInBounds i true) (a.put oi.dst v) w):a1O P md ops Q S n (fuel+1) listed a w:=by
 unfold b9p at hB;simp only[Bool.and_eq_true,decide_eq_true_eq]at hB;obtain⟨⟨⟨b4,b5⟩,b7⟩,b8⟩:=hB;have hO:=hO.out;unfold b4R at hO;simp only[Bool.and_eq_true,decide_eq_true_eq]at hO;obtain⟨⟨⟨b1,b2⟩,b3⟩,b6⟩:=hO;exact a8B b1 b2 b3 b4 hi (Region.noSelect_spec b6) hQ fuel listed a w (b2R b5) (Region.free_spec hi b7) (by simpa using b8) (.inl ⟨hw,hy⟩) hS h
theorem a0m {i:Nat} {o:Oper} {fuel:Nat} {listed:Array Bool} {a:Act} {w:World} (hr:Region.ready md ops listed= [i]) (ho:ops[i]? =some o)
  (h:∀K':Act->World->Prop,Shut (∀a w,S w->(S w->a1O P md ops Q S n fuel (listed.setIfInBounds i true) a w)->K' a w)->if Region.wanted o (yielded ops a.tmps)=true then Oper.wp P o a w K' Q else K' (a.put o.dst undef) w):a1O P md ops Q S n (fuel+1) listed a w:=by
 refine⟨fun h0=>(by rw[hr]at h0;cases h0),fun j hj=>?_⟩;rw[hr]at hj;have:j=i:=by simpa using hj
 subst this;exact wpOp_step ho (fun K' hK=>h K' (fun a w hS hW=>hK a w ⟨fun _=>hS,hW hS⟩))
theorem a1D {i j:Nat} {oi oj:Oper} {fuel:Nat} {listed:Array Bool} {a:Act} {w:World} (hr:Region.ready md ops listed= [i,j]) (hi:ops[i]? =some oi) (hj:ops[j]? =some oj)
  (h1:∀K':Act->World->Prop,Shut (∀a w,S w->(S w->a1O P md ops Q S n fuel (listed.setIfInBounds i true) a w)->K' a w)->if Region.wanted oi (yielded ops a.tmps)=true then Oper.wp P oi a w K' Q else K' (a.put oi.dst undef) w)
  (h2:∀K':Act->World->Prop,Shut (∀a w,S w->(S w->a1O P md ops Q S n fuel (listed.setIfInBounds j true) a w)->K' a w)->if Region.wanted oj (yielded ops a.tmps)=true then Oper.wp P oj a w K' Q else K' (a.put oj.dst undef) w):a1O P md ops Q S n (fuel+1) listed a w:=by
 refine⟨fun h0=>(by rw[hr]at h0;cases h0),fun k hk=>?_⟩;rw[hr]at hk;rcases List.mem_cons.1 hk with rfl|hk
 ·exact wpOp_step hi (fun K' hK=>h1 K' (fun a w hS hW=>hK a w ⟨fun _=>hS,hW hS⟩))
 ·obtain rfl:k=j:=by simpa using hk
  exact wpOp_step hj (fun K' hK=>h2 K' (fun a w hS hW=>hK a w ⟨fun _=>hS,hW hS⟩))
theorem a0s {i:Nat} {o:Oper} {fuel:Nat} {listed:Array Bool} {a:Act} {w:World} (hr:Region.ready md ops listed= [i]) (ho:ops[i]? =some o) (hin:n<=i)
  (hd:Region.ready md ops (listed.setIfInBounds i true)= [])
  (h:∀K':Act->World->Prop,Shut (∀a w,Q .normal a w->K' a w)->if Region.wanted o (yielded ops a.tmps)=true then Oper.wp P o a w K' Q else K' (a.put o.dst undef) w):a1O P md ops Q S n (fuel+1) listed a w:=by
 refine⟨fun h0=>(by rw[hr]at h0;cases h0),fun j hj=>?_⟩;rw[hr]at hj;have:j=i:=by simpa using hj
 subst this;refine wpOp_step ho (fun K' hK=>h K' (fun a w hq=>hK a w ⟨fun hlt=>absurd hlt (Nat.not_lt.2 hin),?_⟩));cases fuel with
 |zero=>exact⟨hd,hq⟩
 |succ f=>exact⟨fun _=>hq,by rw[hd];simp⟩
theorem a0M {id:Nat} {a:Act} {w:World} (n:Nat) (S:World->Prop) (hm:P.follows .mixedOrders=true) (hO:b4R .any ops n=true) (hS:S w.drew)
  (h:S w.drew->Shut (b4R .any ops n=true)->a1O P .any ops Q S n ops.size (Array.replicate ops.size false) a w.drew):(Code.region id ops true).wp P Q a w:=
 wp_region_any hm (a7b _ _ _ _ (h hS hO))
end
end Go
namespace Go.Lin
theorem b0q {m:Mat} {i j:Nat} (hi:i<m.length) (hj:j<m[i].length):m[i][j]=ent m i j:=by
 unfold ent;rw[show m.getD i []=m[i]by simp[List.getD_eq_getElem?_getD,hi],List.getD_eq_getElem?_getD,List.getElem?_eq_getElem hj];rfl
theorem a8C {m:Mat} {n c:Nat} (h:Shp n c m) (hc:n=0->c=0):a0B m=c:=by
 by_cases hn:0<n
 ·have h0:0<m.length:=by rw[h.1];exact hn
  rw[a1S h0];exact h.2 _ (List.getElem_mem _)
 ·have:m= []:=List.eq_nil_of_length_eq_zero (by rw[h.1];omega)
  subst this;rw[hc (by omega)];rfl
end Go.Lin
namespace Go.Proofs.YtidbbddagfnfbaaGreat
open Go.RowKit Go.Rep Go.Lim Go.Lin
theorem a4c {R:Mem->Value->Rat->Prop} (X:Nat->Bool) (w:World) (u:Value) (m:List (List Rat)) (hu:SlV (SlV R 3) 1 (mk X w) u m):Calls Tryz.prog 166 #[u] w (fun e w'=>w'=w/\e= .returned (.int .i64 (a0B m:Int))):=by
 obtain⟨ao,ca,rfl,hca,hsa⟩:=hu;have hha:=hsa.hd;by_cases h:0<m.length
 ·obtain⟨a1,c1,hX1,hc1,hcl1,hq1⟩:=hsa.row 0 h
  have k00:=hc1.out noY w (ExtX.refl _) rfl;have hc:=hid (a1S h);have hI:((m.length:Int)==0)=false:=a2I (by omega);go_enter Tryz.func166,Tryz.ntmps166
  go_wp2_with (with_reducible refine a0t a0r (by omega) (by assumption) ?_)
  go_ret
  exact⟨rfl,a0J (by rw[hc.out])⟩
 ·have hc:Hid (a0B m=0):=hid (by
   have:m= []:=List.eq_nil_of_length_eq_zero (by omega);subst this;rfl)
  have hI:((m.length:Int)==0)=true:=a7e (by omega);go_enter Tryz.func166,Tryz.ntmps166
  go_wp2_with (with_reducible refine a0t a0r (by omega) (by assumption) ?_)
  go_ret
  exact⟨rfl,a0J (by rw[hc.out];rfl)⟩
set_option maxRecDepth 100000 in
theorem a3S {R:Mem->Value->Rat->Prop} (hR:a3v R) (X:Nat->Bool) (w:World) (u:Value) (m:List (List Rat)) (hu:SlV (SlV R 3) 1 (mk X w) u m) (hl:m.length<=1099511627776):Calls Tryz.prog 164 #[u] w (b1A w (a0G m)):=by
 obtain⟨ao,ca,rfl,hca,hsa⟩:=hu;have hha:=hsa.hd;by_cases h96:96<m.length
 ·have hv:Hid (false=a0G m):=hid (by
   symm;cases hf:a0G m
   ·rfl
   ·have:=(a1G.1 hf).1;omega)
  have hI:(96:Int)<(m.length:Int):=by omega
  go_enter Tryz.func164,Tryz.ntmps164
  go_wp2_with fail
  go_ret
  exact⟨ExtX.refl _,a0n hv.out⟩
 ·have hI:¬(96:Int)<(m.length:Int):=by omega
  obtain⟨n,hn⟩:∃n,m.length=n:=⟨_,rfl⟩;have hn':=hid hn;have hn6:n<=96:=by omega
  rw[hn]at hha hI |-;clear hn hl h96 hca;go_enter Tryz.func164,Tryz.ntmps164
  go_wp2_with fail
  go_loopw [3] (fun c wr=>∃(i:Nat),c= .int .i64 i/\i<=n/\Hid (∀q,q<i->∀hq:q<m.length,1<=m[q].length/\m[q].length<=96/\m[q].length=a0B m)/\Ext w wr) (fun c _=>n - (intOf c).toNat)
  case atStart=>exact⟨0,rfl,Nat.zero_le _,hid (fun q hq=>by omega),ExtX.refl _⟩
  case round=>
   obtain⟨i,rfl,hi,hok,hE⟩:=hrel;by_cases hlt:i<n
   ·have hil:i<m.length:=by rw[hn'.out];exact hlt
    have h0:0<m.length:=by omega
    have hsr:=hsa.mono (SlV.mono hR 3) (a0p hE);obtain⟨a1,c1,hX1,hc1,hcl1,hq1⟩:=hsr.row i hil;obtain⟨a2,c2,hX2,hc2,hcl2,hq2⟩:=hsr.row 0 h0;have k00:=hc1.out noY wr (ExtX.refl _) rfl;have k10:=hc2.out noY wr (ExtX.refl _) rfl;have i1:∀W,(Instr.indexAt 23 (.slice ao n ca) (.int .i64 (i:Int))).run Tryz.prog W= .ok (.pointer (some (adr ao i))) W:=a0C a0r ao n ca .i64 i hha (by omega) rfl;have i0:∀W,(Instr.indexAt 23 (.slice ao n ca) (.int .i64 0)).run Tryz.prog W= .ok (.pointer (some (adr ao 0))) W:=a0C a0r ao n ca .i64 0 hha (by omega) rfl;have hcol:=a1S h0;have hno:=hid (a4L i hil);rw[<-hcol]at k10;obtain⟨x,hx⟩:∃x,m[i].length=x:=⟨_,rfl⟩;obtain⟨y,hy⟩:∃y,a0B m=y:=⟨_,rfl⟩;rw[hx]at k00 hno;rw[hy]at k10 hno;have hst:Hid (1<=x/\x<=96/\x=y->∀hq:i<m.length,1<=m[i].length/\m[i].length<=96/\m[i].length=a0B m):=hid fun h hq=>by rw[hx,hy];exact h
    clear hx hy hcol hc1 hc2 hq1 hq2 hcl1 hcl2 h0 hil;by_cases hx0:x=0
    ·have d0:decide ((x:Int)<1)=true:=decide_eq_true (by omega)
     have hv:=hid (hno.out (by omega));clear hx0 hno hst;go_wp2_with fail
     go_region
     all_goals
      clear k00 k10 i1 i0;go_wp2_with fail
      go_ret
      exact⟨hE.trans (ExtX.refl wr).drew,a0n hv.out⟩
    ·have d0:decide ((x:Int)<1)=false:=decide_eq_false (by omega)
     by_cases hx1:96<x
     ·have d1:decide ((96:Int)<(x:Int))=true:=decide_eq_true (by omega)
      have hv:=hid (hno.out (by omega));clear hx0 hno hst;go_wp2_with fail
      go_region
      all_goals
       clear k00 k10 i1 i0;go_wp2_with fail
       go_ret
       exact⟨hE.trans (ExtX.refl wr).drew,a0n hv.out⟩
     ·have d1:decide ((96:Int)<(x:Int))=false:=decide_eq_false (by omega)
      by_cases hxy:x=y
      ·have d2:((x:Int) !=(y:Int))=false:=a7U (by omega)
       have hst2:=hid (hst.out ⟨by omega,by omega,hxy⟩);clear hx0 hxy hno hst hx1;go_wp2_with fail
       go_region
       all_goals
        clear k00 k10 i1 i0;go_wp2_with fail
        go_roundw
        case rel=>exact⟨i+1,by go_num,by omega,hid (a4F hok.out hst2.out),hE.trans (ExtX.refl wr).drew⟩
        case measure=>simp[intOf];omega
      ·have d2:((x:Int) !=(y:Int))=true:=a7R (by omega)
       have hv:=hid (hno.out (by omega));clear hx0 hxy hno hst hx1;go_wp2_with fail
       go_region
       all_goals
        clear k00 k10 i1 i0;go_wp2_with fail
        go_ret
        exact⟨hE.trans (ExtX.refl wr).drew,a0n hv.out⟩
   ·have hv:Hid (true=a0G m):=hid (by
     symm;exact a1G.2 ⟨by rw[hn'.out];omega,fun q hq=>hok.out q (by rw[hn'.out]at hq;omega) hq⟩)
    go_wp2_with fail
    go_ret
    exact⟨hE,a0n hv.out⟩
end Go.Proofs.YtidbbddagfnfbaaGreat
