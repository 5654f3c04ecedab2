/- matrix: Solve. Conditions: few rows, numbers of few digits. leastsq: FromMoments. Conditions: at most four columns, numbers of few digits. reference 06: Dot. Conditions: few numbers of at most 2^36 digits. leastsq: residuals; reference 13: residuals. Conditions: few rows and columns, numbers of few digits. leastsq: chosen. Conditions: few rows and columns. leastsq: leverage. Conditions: at most 8 rows and 4 columns of few digits, whose products are invertible. leastsq: Fit. Conditions: at most 8 rows and 4 columns, numbers of few digits. law 13: the numbers of the chapter's example. Conditions: none. reference 03: Div, Same. Conditions: at most 2^36 digits. reference 03: Same. Conditions: at most 2^36 digits. reference 03: SameList, SameLists. Conditions: at most 2^36 digits. reference 03: SameLists. Conditions: at most 2^36 digits. law 06: awake. Conditions: none. -/
import Derived.Test.YtkddecjkfdogiaaGreatLbJ
namespace Go.Proofs.YtkddecjkfdogiaaGreat
open Go.RowKit Go.Rep Go.Lim Go.Lin
def a9s (X:Nat->Bool) (w:World) (S:Mat×List Nat) (c:Nat) (e:Ending) (w':World):Prop:=Ext w w'/\((c∈S.2/\e= .returned (.tuple #[.slice none 0 0, .int .i64 11]))\/(c∉S.2/\∃u,e= .returned (.tuple #[u, .int .i64 0])/\RC (mk X w') u (b3x S.1 S.2 c)))
set_option maxRecDepth 100000 in
set_option maxHeartbeats 1600000 in
theorem b2Z (X:Nat->Bool) (w:World) (u v:Value) (m:List (List Rat)) (b:List Rat) (n c:Nat) (hX:HX X w) (hu:MV (mk X w) u m) (hv:RV (mk X w) v b) (hf:a0x m=true) (hnn:m.length=n) (hcc:colsL m=c) (hbl:b.length=n) (hT:b0g (a2J m b n) (c+1)):Calls Tryz.prog 130 #[u,v] w (a9s X w (a1a (a2J m b n) (c+1)) c):=by
 obtain⟨hsh,h96,hc96,hpos,_⟩:=a0M hf;rw[hnn,hcc]at hsh;rw[hnn]at h96 hpos;rw[hcc]at hc96 hpos;have hfo:=a1X X w u m hu (by omega);rw[hf]at hfo;have hcol:=a1S X w u m hu;rw[hcc]at hcol;have hsh':=hid hsh;have hnn':=hid hnn;have hcc':=hid hcc;have hbl':=hid hbl;have hWs:=hid (a2c (b:=b) hsh);have hwg:Hid (∀i (h:i<(a2J m b n).length) (hi:i<m.length) (hb:i<b.length),(a2J m b n)[i]=m[i]++[b[i]]):=hid fun i h hi hb=>b0E h hi hb;have hWc:0<n->colsL (a2J m b n)=c+1:=fun h=>b0i (a2c (b:=b) hsh) h;obtain⟨W,hW⟩:∃W,a2J m b n=W:=⟨_,rfl⟩;rw[hW]at hWs hT hwg hWc |-;have hTt:=hid (b0G hWs.out (colsL W) hWc hT);have hRc:=hid (b0F hWs.out (colsL W) hWc);have hWcs:Hid (Shp n (colsL W) W):=hid ⟨hWs.out.1,fun r hr=>by
  have:=List.length_pos_of_mem hr;rw[hWc (by rw[<-hWs.out.1];exact this)];exact hWs.out.2 r hr⟩
 have hWc9:Hid (colsL W<=900):=hid (by
  by_cases h0:0<n
  ·rw[hWc h0];omega
  ·have:W= []:=List.eq_nil_of_length_eq_zero (by rw[hWs.out.1];omega)
   subst this;exact Nat.zero_le _)
 obtain⟨ua,uca,rfl,huca,hua⟩:=hu;have hu:MV (mk X w) (.slice ua m.length uca) m:=⟨ua,uca,rfl,huca,hua⟩;obtain⟨va,vca,rfl,hvca,hva⟩:=hv;have hhv:=hva.hd;rw[hnn]at hfo hcol hu |-;rw[hbl]at hvca hhv |-;have hw2:wrap64 ((c:Int)+1)=((c+1:Nat):Int):=by rw[IntWalk.wrap64_in _ (by omega)];omega
 have hneq:((n:Int) !=(n:Int))=false:=b0h rfl;clear hf hnn hcc hsh huca hua hW hT hWc hbl;go_enter Tryz.func130,Tryz.ntmps130
 go_wp2_with fail
 refine hfo.mono ?_;rintro e w1 ⟨rfl,rfl⟩;go_wp2_with fail
 refine hcol.mono ?_;rintro e w2 ⟨rfl,rfl⟩;go_wp2_with fail
 refine(a4u X w2 n (c+1) hX (by omega) (by omega)).mono ?_;rintro e w3 ⟨hE3,ao,cap,hs,rfl,hM3⟩;rw[List.length_replicate];have hlen:Hid (hs.length=n):=hid (by rw[hM3.len];simp);have hhO:Hd ao n:=by have:=hM3.outer.hd;rw[hlen.out]at this;exact this
 have hX3:=hX.ext hE3;have hZ3:=hM3.hz hX3;have hu3:=hM3.old MV.mono hu hE3 (Nat.le_refl _) (fun _ _ h=>h);have hv3:=hva.mono QV.mono (fun a v h=>((a1f (X:=X) (Z:=mz X ao hs) hE3 (fun k _ hk=>by simp[noY]at hk) fun k hk hz=>by
  rcases a0C.1 hz with a|a
  ·exact a
  ·have:=(hM3.mb_block (a1E.2 a)).1;omega) a v h))
 obtain⟨V,hV⟩:∃V,b2X n (c+1)=V:=⟨_,rfl⟩;have hVl:Hid (V.length=n):=hid (by rw[<-hV];exact a6M _ _);have hVg:Hid (∀i (h:i<V.length),V[i]=List.replicate (c+1) 0):=hid fun i h=>by subst hV;exact a6N h
 have hWV:Hid (W.length=V.length):=hid (by rw[hVl.out];exact hWs.out.1)
 change MO X w2.heap.size _ _ w3 ao cap hs (b2X n (c+1))at hM3
 rw[hV,<-a2N W V]at hM3;have hco:=a2W (mz X ao hs) w3 _ m n c hZ3 hu3 hsh'.out hcc'.out (by omega) (by omega);clear hfo hcol hu hu3 hV;go_wp2_with fail
 refine hco.mono ?_;rintro e w4 ⟨hE4,bo,capb,hs4,rfl,hM4⟩;have hmc4:=hM4.mc;rw[hnn'.out]at hmc4 |-;have hM34:=hM3.ext0 hE4;have hE04:=hE3.trans hE4;obtain⟨ba,bca,heq,hbca,hsb⟩:=hmc4;simp only[Value.slice.injEq]at heq;obtain⟨rfl,hx9,rfl⟩:=heq;clear hx9;have hhb:=hsb.hd;rw[hnn'.out]at hhb;obtain⟨Z,hZe⟩:∃Z,mz X ao hs=Z:=⟨_,rfl⟩;have hZ':=hid hZe;rw[hZe]at hsb hZ3 hv3;have hv4:=hv3.mono QV.mono (a0o hE4);clear hv3;clear hco hM3 hM4 hZe;go_wp2_with fail
 go_loopw [33] (fun k wr=>∃(i:Nat),k= .int .i64 i/\i<=n/\MO X w2.heap.size 45 32 wr ao cap hs (mix W V i)/\Sl RC 1 (mk Z wr) bo m/\Sl QV 3 (mk Z wr) va b/\Ext w2 wr) (fun k _=>n - (intOf k).toNat)
 case atStart=>exact⟨0,rfl,Nat.zero_le _,hM34,hsb,hv4,hE04⟩
 case round=>
  obtain⟨i,rfl,hi,hM,hsb,hva,hE⟩:=hrel;by_cases hlt:i<n
  ·have him:i<m.length:=by rw[hnn'.out];exact hlt
   obtain⟨a1,c1,hX1,hc1,hcl1,hq1⟩:=hsb.row i him;have k00:=hc1.out noY wr (ExtX.refl _) rfl;have hxl:Hid (m[i].length=c):=hid (hsh'.out.2 _ (List.getElem_mem _));have hiV:i<V.length:=by rw[hVl.out];exact hlt
   have hiW:i<W.length:=by rw[hWV.out];exact hiV
   have hib:i<b.length:=by rw[hbl'.out];exact hlt
   have hWi:=hid (hwg.out i hiW him hib);have hVi:=hid (hVg.out i hiV);obtain⟨x,hx⟩:∃x,m[i]=x:=⟨_,rfl⟩;rw[hx]at k00 hcl1 hq1 hxl hWi;rw[hxl.out]at k00 hcl1;have hh1:Hd a1 c:=by have:=hq1.hd;rw[hxl.out]at this;exact this
   have hih:i<hs.length:=by rw[hlen.out];exact hlt
   have hmi:i<(mix W V i).length:=by rw[a1t hWV.out];exact hiW
   have hmg:Hid ((mix W V i)[i]=List.replicate (c+1) 0):=hid (by rw[a0R hWV.out,if_neg (by omega)];exact hVi.out);have hms:Hid ((mix W V i).set i (x++[b[i]])=mix W V (i+1)):=hid (by rw[<-hWi.out];exact a3D hWV.out hiW);obtain⟨a,na,cr,hhd⟩:∃a na cr,hs[i]=(a,na,cr):=⟨_,_,_,rfl⟩;have hna:na=c+1:=by
    have:=hM.rlen i hih hmi;rw[hhd,hmg.out,List.length_replicate]at this;exact this
   have hR:=hM.row i hih hmi;rw[hmg.out]at hR;simp only[hhd]at hR;have hz1:=fun k (hk:ob a k=true)=>hM.mz_sub hih k (by rw[hhd];exact hk);have hsp:=fun k (hk:ob a k=true)=>hM.sep i hih k (by rw[hhd];exact hk);have hun:Hid (un (cut (mz X ao hs) a) a=Z):=hid (by rw[a2U hz1];exact hZ'.out);have hda:Hd a na:=by have:=hR.hd;rw[List.length_replicate,<-hna]at this;exact this
   have hna':=hid hna;have y1:wr.cell? (adr ao i)=some (.slice a na cr):=by
    have:=(hM.hdr i hih).1;rw[hhd]at this;exact this
   have haob:Hid (ob a (adr ao i).block=false):=hid (by
    cases hb:ob a (adr ao i).block
    ·rfl
    ·have h1:=(hsp _ hb).2
     obtain⟨b0,o0,rfl⟩:=hhO (by omega);simp[ob,adr]at h1)
   have hhd':=hid hhd;have hRl:Hid ((List.replicate (c+1) (0:Rat)).length=na):=hid (by rw[hna];exact List.length_replicate);have hqz:Sl QC 3 (mk (un (cut (mz X ao hs) a) a) wr) a1 x:=by rw[hun.out];exact hq1
   clear hc1 hx hhd hna;obtain⟨wo,hwo⟩:∃wo,wo=wr:=⟨_,rfl⟩;subst hwo;go_wp2_with (first|(with_reducible refine a0t a0r (by omega) (by assumption) ?_)|(refine a7G a0B QC.elem x rfl hRl.out rfl hxl.out hR hqz (by rw[hna'.out];omega) (by have:=hpos (by omega);omega) ?_;intro w5 hO5 hE5;have y5:=hE5.cellY y1 haob.out))
   have hxi:x++List.drop c (List.replicate (c+1) (0:Rat))=x++[0]:=by rw[List.drop_replicate,show c+1 - c=1 by omega];rfl
   rw[hxi]at hO5;have hzz:∀k,ob a k=true->Z k=true:=fun k hk=>by rw[<-hZ'.out];exact hz1 k hk
   have hxr:Hid ((x++[(0:Rat)]).length=na):=hid (by rw[List.length_append,hxl.out,hna'.out];rfl);have hM5:=hM.upd hih (l:=x++[(0:Rat)]) (show ExtX (ob hs[i].1) wo w5 by rw[hhd'.out];exact hE5) (fun hi'=>by rw[hmg.out,List.length_replicate,hxr.out,hna'.out]) (by rw[hhd'.out];exact hO5);have hsb5:=hsb.mono RC.mono (a0W hE5 hzz);have hE05:=hM.ext_from hE (Nat.le_refl _) (ExtX.row hih (show ExtX (ob hs[i].1) wo w5 by rw[hhd'.out];exact hE5));have hput:Hid ((x++[(0:Rat)]).set c b[i]=x++[b[i]]):=hid (by rw[List.set_append_right _ _ (by rw[hxl.out];exact Nat.le_refl _),hxl.out,Nat.sub_self];rfl);have hni:c<(x++[(0:Rat)]).length:=by rw[hxr.out,hna'.out];omega
   have hZ5:HX Z w5:=by
    have h1:=hM5.hz (hX.ext hE05);rw[hZ'.out]at h1;exact h1
   have hEd:Ext w5 w5.drew:=(ExtX.refl w5).drew;obtain⟨g4,o4,s4,a4,n4,c4,d4,k4,e4,hg4,hX4,hc4,hq4⟩:=hva.rat QV.shaped i hib;have hab4:Hid (ob a g4=false):=hid (by
    cases hb:ob a g4
    ·rfl
    ·have:=hzz g4 hb;rw[hX4]at this;simp at this)
   have hv5:=hva.mono QV.mono (a0W hE5 hzz);have hq5:QV (mk Z w5.drew) (.agg #[.bool s4, .slice a4 n4 c4, .slice d4 k4 e4]) b[i]:=mkx QV.mono (QV.mono _ _ _ _ (a0W hE5 hzz) hq4) hEd;obtain⟨v,hv⟩:∃v,b[i]=v:=⟨_,rfl⟩;rw[hv]at hput hq5 hms;obtain⟨L,hL⟩:∃L,x++[(0:Rat)]=L:=⟨_,rfl⟩;rw[hL]at hO5 hM5 hxr hput hni;obtain⟨L2,hL2⟩:∃L2,x++[v]=L2:=⟨_,rfl⟩;rw[hL2]at hput hms;have hL2l:Hid (L2.length=L.length):=hid (by rw[<-hput.out,List.length_set]);obtain⟨g,o,hg⟩:∃g o,adr a (c*3)=⟨g,o,none⟩:=⟨_,_,rfl⟩;have i2:∀W,(Instr.indexAt 45 (.slice a na cr) (.int .i64 (c:Int))).run Tryz.prog W= .ok (.pointer (some ⟨g,o,none⟩)) W:=by
    rw[<-hg];exact a0j a0B a na cr .i64 c hda (by rw[hna'.out];omega)
   have i3:∀W,(Instr.indexAt 45 (.slice va n vca) (.int .i64 (i:Int))).run Tryz.prog W= .ok (.pointer (some ⟨g4,o4,none⟩)) W:=by
    rw[<-hg4];exact a0j a0B va n vca .i64 i hhv (by omega)
   have i1:∀W,(Instr.indexAt 25 (.slice ao n cap) (.int .i64 (i:Int))).run Tryz.prog W= .ok (.pointer (some (adr ao i))) W:=a0w a0r ao n cap .i64 i hhO (by omega) rfl;have hg':=hid hg;have hS:Hid (∀Y W',ExtX Y w5.drew W'->Y (adr ao i).block=false->Y g4=false->W'.cell? (adr ao i)=some (.slice a na cr)/\W'.cell? ⟨g4,o4,none⟩=some (.bool s4)/\W'.cell? ⟨g4,o4+1,none⟩=some (.slice a4 n4 c4)/\W'.cell? ⟨g4,o4+2,none⟩=some (.slice d4 k4 e4)):=hid fun Y W' h hy1 hy2=>by
    have p:=hc4.out (ob a) w5.drew (hE5.trans (ExtX.of hEd)) hab4.out;exact⟨h.cellY (hEd.cell y5) hy1,h.cellY p.1 hy2,h.cellY p.2.1 hy2,h.cellY p.2.2 hy2⟩
   obtain⟨k20,k30,k31,k32⟩:=hS.out noY w5.drew (ExtX.refl _) rfl rfl;have hO5d:=hO5.ext0 QC.elem hEd;have h00:QV (mk Z w5.drew) (.agg #[.bool false, .slice none 0 0, .slice none 0 0]) 0:=(QC.zero _).qv (by rw[a0S];decide);have qf:=b3I Z w5.drew _ _ _ 0 (hZ5.ext hEd) hq5 h00;rw[Rat.add_zero]at qf;have hun':Hid (un (cut (mz X ao hs) a) a=Z):=hun;clear hxi hL hL2 hg hg4 hc4 hq4 hv y1 y5 hR hqz hq1 k00 hM hsb hva;go_region_held3 (fun w'=>w'.cell? (adr ao i)=some (.slice a na cr)/\w'.cell? ⟨g4,o4,none⟩=some (.bool s4)/\w'.cell? ⟨g4,o4+1,none⟩=some (.slice a4 n4 c4)/\w'.cell? ⟨g4,o4+2,none⟩=some (.slice d4 k4 e4))
    (first|exact hS.out noY _ t1 rfl rfl|exact hS.out (ob a) _ ((ExtX.of t1).trans hset.2) haob.out hab4.out|go_keep)
    ((go_at_call 146;(with_reducible refine qf.mono ?_);rintro ee w6 ⟨t1,u6,rfl,hu6⟩;obtain⟨s6,a6,n6,c6,d6,k6,e6,rfl⟩:=hu6.shape;have hO6:=hO5d.ext0 QC.elem t1;obtain⟨_,v0,v1,v2,_,⟨g0,f0⟩,⟨g1,f1⟩,⟨g2,f2⟩,_⟩:=hO6.cell3 c hni hg'.out;have hset:=hO6.set3 a6z QC.elem c hni hg'.out (v0:= .bool s6) (v1:= .slice a6 n6 c6) (v2:= .slice d6 k6 e6) (x:=v) (by rw[hun'.out];exact hu6)))
   obtain⟨q1,q2⟩:=hset;rw[hput.out]at q1;obtain⟨w8,hw8⟩:∃w8,((w6.setCell ⟨g,o,none⟩ (.bool s6)).setCell ⟨g,o+1,none⟩ (.slice a6 n6 c6)).setCell ⟨g,o+2,none⟩ (.slice d6 k6 e6)=w8:=⟨_,rfl⟩;rw[hw8]at q1 q2 |-;have q2':ExtX (ob hs[i].1) w6 w8:=by rw[hhd'.out];exact q2
   have hM6:=hM5.ext0 (hEd.trans t1);have hM7:=hM6.upd hih (l:=L2) q2' (fun hi'=>by rw[List.getElem_set_self];exact hL2l.out) (by rw[hhd'.out];exact q1);rw[List.set_set,hms.out]at hM7;have hs8:=(hsb5.mono RC.mono (a0o (hEd.trans t1))).mono RC.mono (a0W q2 hzz);have hv8:=(hv5.mono QV.mono (a0o (hEd.trans t1))).mono QV.mono (a0W q2 hzz);have hE8:=hM6.ext_from (hE05.trans (hEd.trans t1)) (Nat.le_refl _) (ExtX.row hih q2');clear k20 k30 k31 k32 g0 g1 g2 f0 f1 f2 i1 i2 i3 hw8;go_wp2_with fail
   go_roundw
   case rel=>exact⟨i+1,by go_num,by omega,hM7,hs8,hv8,hE8⟩
   case measure=>simp[intOf];omega
  ·have hin:i=n:=by omega
   subst hin;rw[a2O (by rw[hWs.out.1];exact Nat.le_refl _) (by rw[hVl.out];exact Nat.le_refl _)]at hM;have hXr:=hX.ext hE;have hZr:=hM.hz hXr;obtain⟨wo,hwo⟩:∃wo,wo=wr:=⟨_,rfl⟩;subst hwo;go_wp2_with ((with_reducible show wpList _ _ _ (⟨_, .makeSlice _ _ _,_,_,_,_⟩::_) _ _);refine a2i (R:=QC) a0B QC.elem (0:Rat) (fun _=>QC.zero _) (mz X ao hs) hZr wo.heap.size (Nat.le_refl _) c rfl rfl rfl (by omega) (by omega) ?_;intro oo w5 hO5 hE5)
   have hw2o:=hE.size;have hob:=fun k (hk:ob oo k=true)=>hO5.block hk;have hoX:∀k,ob oo k=true->X k=false:=fun k hk=>by
    cases hx:X k
    ·rfl
    ·have:=(hob k hk).1;have:=hXr k hx;omega
   have hM5:MO (un X oo) w2.heap.size 45 32 w5 ao cap hs W:=hM.ext hE5 (fun k _ hk=>by simp[noY]at hk) (fun k hk hx=>by
    cases hb:ob oo k
    ·simpa[un,hb]using hx
    ·have:=(hob k hb).1;omega)
   have hX5:HX (un X oo) w5:=fun k hk=>by
    by_cases hx:X k=true
    ·exact hXr.ext hE5 k hx
    ·exact(hob k (by simpa[un,hx]using hk)).2
   have hE05:=hE.trans hE5;have hmr:=a3X (un X oo) w2.heap.size w5 ao cap i (colsL W) hs W hX5 hM5 hWcs.out rfl (by omega) hWc9.out hTt.out;rw[hRc.out]at hmr;have hok:=a0U hWs.out;obtain⟨⟨R,p⟩,hRp⟩:∃S,a1a W (c+1)=S:=⟨_,rfl⟩;rw[hRp]at hmr hok;have hRp':=hid hRp
   dsimp only at hok
   have hRs:=hid hok.1;have hRr:=hid hok.2.1;have hob':=hid hob;have hoX':=hid hoX;have hXr':=hid hXr;obtain⟨pl,hpl⟩:∃pl,p.length=pl:=⟨_,rfl⟩;have hpl':=hid hpl;have hpn:pl<=i:=by have:=hok.2.1.le;omega
   clear hok hM hM34 hsb hva hRp hob hoX hXr hX5;refine hmr.mono ?_;rintro ee w7 ⟨hE7,po,pc,hs',rfl,hmb,hM7,hP7⟩
   dsimp only at hM7 hP7 |-
   rw[hpl];have hE07:=hM5.ext_from hE05 (Nat.le_refl _) hE7;have hlen2:=hid (hM7.len.trans hRs.out.1);have hdP:Hd po pl:=by have:=hP7.hd;rw[hpl]at this;exact this
   have hpb:=hid (fun k (hk:ob po k=true)=>hP7.block hk);have hdO:Hd oo c:=by have:=hO5.hd;rw[List.length_replicate]at this;exact this
   obtain⟨M,hMe⟩:∃M,mz (un (un X oo) po) ao hs'=M:=⟨_,rfl⟩;have hM':=hid hMe;have hO7:OL QC 3 (cut M oo) wo.heap.size 32 w7 oo c (sN R p c 0):=hO5.ext QC.elem hE7 (fun k _ hk=>a0C.2 (.inr (a1E.1 hk))) (fun k hk hz=>by
    obtain⟨h1,h2⟩:=a6b hz;rw[<-hMe]at h1;rcases a0C.1 h1 with h|h
    ·by_cases hx:X k=true
     ·exact a0C.2 (.inl hx)
     ·have:ob po k=true:=by simpa[un,hx,h2]using h
      have:=(hpb.out k this).1;omega
    ·have h3:mb ao hs' k=true:=a1E.2 h
     rw[hmb]at h3;exact a0C.2 (.inr (a1E.1 h3)))
   have hoM:Hid (∀k,ob oo k=true->M k=true):=hid fun k hk=>by rw[<-hMe];exact a0C.2 (.inl (a0q (a0s hk)))
   clear hmr hM5 hO5 hmb hMe hpl;go_wp2_with fail
   go_loopw [62] (fun k wr=>∃(j:Nat),k= .int .i64 j/\j<=pl/\MO (un (un X oo) po) w2.heap.size 45 32 wr ao cap hs' R/\OL QC 3 (cut M oo) wo.heap.size 32 wr oo c (sN R p c j)/\OL (a0b .i64) 1 (mz (un X oo) ao hs) w5.heap.size 3 wr po pc p/\Hid (∀k (hk:k<p.length),k<j->p[k]≠c)/\Ext w2 wr) (fun k _=>pl - (intOf k).toNat)
   case atStart=>exact⟨0,rfl,Nat.zero_le _,hM7,hO7,hP7,hid (fun k _ h=>by omega),hE07⟩
   case round=>
    obtain⟨j,rfl,hj,hM,hO,hP,hne,hE⟩:=hrel;by_cases hlj:j<pl
    ·have hjp:j<p.length:=by rw[hpl'.out];exact hlj
     have hcl:=(hP.sl (a0b.elem _)).nat j hjp;have hpc1:Hid (p[j]<c+1):=hid (hRr.out.lt j hjp);have hgd:Hid (p.getD j 0=p[j]):=hid (by simp[List.getD_eq_getElem?_getD,hjp]);have hmem:Hid (p[j]∈p):=hid (List.getElem_mem _);obtain⟨q,hq⟩:∃q,p[j]=q:=⟨_,rfl⟩;rw[hq]at hcl hpc1 hgd hmem;have hq':=hid hq;clear hq;by_cases hqc:q=c
     ·have hb:((q:Int)==(c:Int))=true:=a7i (by omega)
      have hmem2:Hid (c∈p):=hid (hqc▸hmem.out);clear hqc;go_wp2_with (with_reducible refine a0t a5e (by omega) (by assumption) ?_)
      go_ret2
      unfold a9s;rw[hRp'.out];exact⟨hE, .inl ⟨hmem2.out,rfl⟩⟩
     ·have hb:((q:Int)==(c:Int))=false:=a3t (by omega)
      have hqc1:q<c:=by have:=hpc1.out;omega
      have hne2:Hid (∀k (hk:k<p.length),k<j+1->p[k]≠c):=hid fun k hk hkj=>by
       by_cases h:k=j
       ·subst h;rw[hq'.out];exact hqc
       ·exact hne.out k hk (by omega)
      have hjh:j<hs'.length:=by rw[hlen2.out];omega
      have hjR:j<R.length:=by rw[hRs.out.1];omega
      have hrl:=hid (hRs.out.2 R[j] (List.getElem_mem _));obtain⟨a,na,cr,hhd⟩:∃a na cr,hs'[j]=(a,na,cr):=⟨_,_,_,rfl⟩;have hna:na=c+1:=by
       have:=hM.rlen j hjh hjR;rw[hhd,hrl.out]at this;exact this
      have hR:=hM.row j hjh hjR;simp only[hhd]at hR;have hz1:=fun k (hk:ob a k=true)=>hM.mz_sub hjh k (by rw[hhd];exact hk);have hun:Hid (un (cut (mz (un (un X oo) po) ao hs') a) a=M):=hid (by rw[a2U hz1];exact hM'.out);have hda:Hd a na:=by have:=hR.hd;rw[hrl.out,<-hna]at this;exact this
      have y1:wr.cell? (adr ao j)=some (.slice a na cr):=by
       have:=(hM.hdr j hjh).1;rw[hhd]at this;exact this
      have hcR:c<R[j].length:=by rw[hrl.out];omega
      have hev:Hid (R[j][c]=ent R j c):=hid (by unfold ent;rw[a2n hjR];simp[List.getD_eq_getElem?_getD,hcR]);have hunO:Hid (un (cut M oo) oo=M):=hid (a2U hoM.out);have hqO:q<(sN R p c j).length:=by rw[a8P];exact hqc1
      have hsn:Hid ((sN R p c j).set q (ent R j c)=sN R p c (j+1)):=hid (by rw[<-hgd.out];rfl);have hna':=hid hna;have hcna:c<na:=by omega
      clear hhd hna hqc;go_wp2_with (first|(with_reducible refine a0t a5e (by omega) (by assumption) ?_)|(with_reducible refine a0t a0r (by omega) (by assumption) ?_)|(with_reducible refine a2B a0B (by omega) (by assumption) ?_)|((with_reducible show wpList _ _ _ (⟨_, .load 32 _,_,_,_,_⟩::_) _ _);refine a4v a0v c hR hcR rfl (by simp) QC.agg ?_;intro u6 hu6;rw[hev.out,hun.out]at hu6;obtain⟨s6,a6,n6,c6,d6,k6,e6,rfl⟩:=hu6.shape)|((with_reducible show wpList _ _ _ (⟨_, .store 32 _ _,_,_,_,_⟩::_) _ _);refine a3c a6z QC.elem q rfl (by simp) hO hqO _ (ent R j c) rfl (by rw[hunO.out];exact hu6) ?_;intro w8 hO8 hE8))
      rw[hsn.out]at hO8;have hM8:=hM.ext (X':=un (un X oo) po) hE8 (fun k _ hk=>a0q (a0s hk)) (fun _ _ h=>h);have hP8:=hP.frame (a0b.pure _) hE8 (fun k hk=>by
       cases hb:ob oo k
       ·rfl
       ·have:=(hpb.out k hk).1;have:=(hob'.out k hb).2;omega) hP.1
      have hE9:=hE.then_ hE8 fun k hk _=>by
       cases hb:ob oo k
       ·rfl
       ·have:=(hob'.out k hb).1;omega
      clear y1 hcl;go_roundw
      case rel=>exact⟨j+1,by go_num,by omega,hM8,hO8,hP8,hne2,hE9⟩
      case measure=>simp[intOf];omega
    ·have hjl:j=pl:=by omega
     subst hjl;have hnp:c∉p:=fun hm=>by
      obtain⟨k,hk,hkc⟩:=List.getElem_of_mem hm;exact hne.out k hk (by rw[<-hpl'.out];exact hk) hkc
     have hs:=(hO.sl QC.elem).mono QC.mono (a1v (X:=X) fun k _ hk=>a2V (by rw[<-hM'.out];exact a0C.2 (.inl (a0q (a0q hk)))) (by
      cases hb:ob oo k
      ·rfl
      ·have:=hoX'.out k hb;rw[hk]at this;simp at this))
     have hlc:=hO.lenCap;go_wp2_with fail
     go_ret2
     rw[<-hpl'.out]at hs hlc;unfold a9s;rw[hRp'.out];exact⟨hE, .inr ⟨hnp, .slice oo c c,rfl,oo,c,by show Value.slice oo c c=Value.slice oo (sN R p c p.length).length c;rw[a8P],hlc,hs⟩⟩
end Go.Proofs.YtkddecjkfdogiaaGreat
namespace Go.Lin
noncomputable def fmS (m:Mom):Mat×List Nat:=a1a (a2J m.xx m.xy m.xx.length) (m.xx.length+1)
noncomputable def fmC (m:Mom):List Rat:=b3x (fmS m).1 (fmS m).2 m.xx.length
theorem b5a (m:Mom):(fmC m).length=m.xx.length:=a8f _ _ _
theorem a9Y {m:Mom} (h:a5G m=true):(0<=m.n/\m.n<=1099511627776)/\a0x m.xx=true/\m.xx.length=colsL m.xx/\m.xx.length=m.xy.length/\m.xy.length<=12:=by
 unfold a5G at h;rw[Bool.and_eq_true,Bool.and_eq_true,decide_eq_true_eq,decide_eq_true_eq]at h;exact⟨h.1,h.2.1,h.2.2.1,h.2.2.2.1,h.2.2.2.2⟩
end Go.Lin
namespace Go.Proofs.YtkddecjkfdogiaaGreat
open Go.RowKit Go.Rep Go.Lim Go.Lin
theorem a4N {P:Program} {w:World} {fn:Func} {tmps:Array Value} {c0 c c2 c3:Tmp} {t:TypeId} {n b:Nat} {cs:Array Value} {T:TypeId} (h:fn.results=#[.tmp c0, .cell c t, .tmp c2, .tmp c3]) (hp:tmps.getD c undef= .pointer (some ⟨b,0,none⟩)) (hT:a1R P t n) (hb:Bx w b cs T) (hcs:cs.size=n):
  (results fn tmps).run P w= .ok (.tuple #[tmps.getD c0 undef, .agg cs,tmps.getD c2 undef,tmps.getD c3 undef]) w:=by
 have hl:=a2C (P:=P) hT hb hcs;rw[Array.getD_eq_getD_getElem?]at hp;simp[results,h,hp,asAddr,hl]
def a9Z (X:Nat->Bool) (w:World) (m:Mom) (e:Ending) (w':World):Prop:=Ext w w'/\∃z u k c,e= .returned (.tuple #[z,u, .int .i64 k, .int .i64 c])/\
 ((a5G m=false/\c=4/\k=0/\RC (mk X w') z []/\QC (mk X w') u 0)\/(a5G m=true/\m.xx.length∈(fmS m).2/\c=11/\k=0/\RC (mk X w') z []/\QC (mk X w') u 0)\/(a5G m=true/\m.xx.length∉(fmS m).2/\c=0/\k=(a7n m.xx m.xx.length:Int)/\RC (mk X w') z (fmC m)/\QC (mk X w') u (m.yy - a2l (fmC m) m.xy)))
set_option maxRecDepth 100000 in
set_option maxHeartbeats 3200000 in
theorem a7H (X:Nat->Bool) (w:World) (u:Value) (m:Mom) (hX:HX X w) (hu:b4R (mk X w) u m) (hl:m.xx.length<=4) (hB:BMo 5929 m):
  Calls Tryz.prog 52 #[u] w (a9Z X w m):=by
 have hfo:=hid fun w' (h:Ext w w')=>a8o X w' u m (hX.ext h) (mkx b4R.mono hu h) (by omega);obtain⟨xo,xl,xc,yo,yl,yc,s,a,n,c,d,k,e,rfl,hx,hy,hqq⟩:=hu;obtain⟨W,hW,hE,b0,b1,hz⟩:=a1N w #[.int .i64 m.n, .slice xo xl xc, .slice yo yl yc, .bool s, .slice a n c, .slice d k e] #[.bool false, .slice none 0 0, .slice none 0 0] 83 32;have hXW:HX (a0g X w.heap.size 2) W:=hX.boxes hz;have hle:Hid (∀w',Ext W w'->Le (mk X w) (mk (a0g X w.heap.size 2) w')):=hid fun w' h=>a0p (hE.trans h);obtain⟨b,hb⟩:∃b,w.heap.size=b:=⟨_,rfl⟩;have hbw:w.heap.size<=b:=by omega
 rw[hb]at b0 b1 hz hXW hle;obtain⟨N,hN⟩:∃N,m.n=N:=⟨_,rfl⟩;rw[hN]at b0 hW hfo |-;have k0:=b0.cell 0 rfl;have k1:=b0.cell 1 rfl;have k2:=b0.cell 2 rfl;have k3:=b0.cell 3 rfl;have k4:=b0.cell 4 rfl;have k5:=b0.cell 5 rfl;have h0:QC (mk X W) (.agg #[.bool false, .slice none 0 0, .slice none 0 0]) 0:=QC.zero _;cases hok:a5G m
 ·have hf1:=hfo.out W hE
  rw[hok]at hf1;have hok':=hid hok;clear hfo hok hN;go_enter Tryz.func52,Tryz.ntmps52
  go_wp2_with fail
  refine hf1.mono ?_;rintro ee w1 ⟨hE1,rfl⟩;have b11:=b1.ext0 hE1;clear hf1 k0 k1 k2 k3 k4 k5;go_wp2_with ((with_reducible show wpList _ _ _ (⟨_, .store 32 _ _,_,_,_,_⟩::_) _ _);refine a0c a0v rfl rfl b11 rfl rfl (a3f _ _ _ _ _ _ _) ?_;intro w7 r1 r2)
  have hE7:Ext w w7:=ExtX.box (hE.trans hE1) r2 (by omega);exact bodyPost_ret (a4N rfl rfl a0v r1 rfl) rfl ⟨hE7,_,_,_,_,rfl, .inl ⟨hok'.out,rfl,rfl,SlV.zero _ _ _,QC.zero _⟩⟩
 ·obtain⟨_,hf,hsq,hxy,_⟩:=a9Y hok
  obtain⟨B1,B2,B3⟩:=hB;obtain⟨hsh,_,_,_,_⟩:=a0M hf;rw[<-hsq]at hsh;have hhb:=a6C B1 (by decide);have hTw:=(a4L (a2c (b:=m.xy) hsh) (a9h hsh hhb B2) hl (by decide)).1;have hTe:=(a4L hsh hhb hl (by decide)).1.e;have hcb:BR 8000000 (fmC m):=fun q hq=>Nat.le_trans (b1t hsh hhb B2 hl q hq) (by decide);have hcl:=b5a m;have hdb:=a2j (l:=fmC m) (m:=m.xy) hcb (fun q hq=>Nat.le_trans (B2 q hq) (by decide)) (by decide) (by omega) (by decide);have hdq:Hid (hq (a2l (fmC m) m.xy)<=68719476736):=hid (hdb.1 _ (Nat.le_refl _));have hsol:=hid fun w' (h:Ext W w') (u v:Value) (h1:MV (mk (a0g X b 2) w') u m.xx) (h2:RV (mk (a0g X b 2) w') v m.xy)=>b2Z (a0g X b 2) w' u v m.xx m.xy m.xx.length m.xx.length (hXW.ext h) h1 h2 hf rfl hsq.symm hxy.symm hTw;have hrk:=hid fun w' (h:Ext W w') (u:Value) (h1:MV (mk (a0g X b 2) w') u m.xx)=>b4Z (a0g X b 2) w' u m.xx (hXW.ext h) h1 hf (by rw[<-hsq];exact hTe);have hdo:=hid fun w' (u v:Value) (hX':HX (a0g X b 2) w') (h1:RV (mk (a0g X b 2) w') u (fmC m)) (h2:RV (mk (a0g X b 2) w') v m.xy)=>a5l (a0g X b 2) w' u v (fmC m) m.xy hX' h1 h2 (by omega) (by omega) hdb.1 hdb.2;have hxv:=hid fun w' (h:Ext W w')=>MV.mono _ _ _ _ (hle.out w' h) hx;have hyv:=hid fun w' (h:Ext W w')=>RV.mono _ _ _ _ (hle.out w' h) hy;have hqv:=hid fun w' (h:Ext W w')=>QV.mono _ _ _ _ (hle.out w' h) hqq;have hin:Hid (m.xx.length∈(fmS m).2->∀(w':World) z u,Ext w w'->RC (mk X w') z []->QC (mk X w') u 0->a9Z X w m (.returned (.tuple #[z,u, .int .i64 0, .int .i64 11])) w'):=hid fun h1 w' z u hE hz hu=>⟨hE,z,u,_,_,rfl, .inr (.inl ⟨hok,h1,rfl,rfl,hz,hu⟩)⟩;have hout:Hid (m.xx.length∉(fmS m).2->∀(w':World) z u,Ext w w'->RC (mk X w') z (fmC m)->QC (mk X w') u (m.yy - a2l (fmC m) m.xy)->a9Z X w m (.returned (.tuple #[z,u, .int .i64 (a7n m.xx m.xx.length:Int), .int .i64 0])) w'):=hid fun h1 w' z u hE hz hu=>⟨hE,z,u,_,_,rfl, .inr (.inr ⟨hok,h1,rfl,rfl,hz,hu⟩)⟩;have hf1:=hfo.out W hE;rw[hok]at hf1;rw[<-hsq]at hrk;unfold a9s at hsol;obtain⟨D,hD⟩:∃D,a2l (fmC m) m.xy=D:=⟨_,rfl⟩;rw[hD]at hdq hdo hout;obtain⟨F,hF⟩:∃F,a9Z X w m=F:=⟨_,rfl⟩;rw[hF]at hin hout |-;obtain⟨rk,hrk2⟩:∃rk,a7n m.xx m.xx.length=rk:=⟨_,rfl⟩;rw[hrk2]at hrk hout;have hSe:a1a (a2J m.xx m.xy m.xx.length) (m.xx.length+1)=fmS m:=rfl;rw[hSe]at hsol;have hCe:b3x (fmS m).1 (fmS m).2 m.xx.length=fmC m:=rfl;rw[hCe]at hsol;obtain⟨C,hC⟩:∃C,fmC m=C:=⟨_,rfl⟩;rw[hC]at hsol hdo hout hcl hcb;obtain⟨S,hS2⟩:∃S,fmS m=S:=⟨_,rfl⟩;rw[hS2]at hsol hin hout;obtain⟨q,hqe⟩:∃q,m.xx.length=q:=⟨_,rfl⟩;rw[hqe]at hsol hin hout hcl;have hCb:Hid (BR 68719476736 C):=hid fun x hx=>Nat.le_trans (hcb x hx) (by decide);have hCl:=hid hcl;clear hfo hok hN hf hsq hxy hsh hhb hTw hTe hcb hdb hx hy hqq hD hF hrk2 hSe hCe hC hS2 hqe B1 B2 B3 hl hcl;go_enter Tryz.func52,Tryz.ntmps52
  go_wp2_with fail
  refine hf1.mono ?_;rintro ee w1 ⟨hE1,rfl⟩;have b01:=b0.ext0 hE1;have b11:=b1.ext0 hE1;have j1:=b01.cell 1 rfl;have j2:=b01.cell 2 rfl;have hs1:=hsol.out w1 hE1 _ _ (hxv.out w1 hE1) (hyv.out w1 hE1);clear hf1 k0 k1 k2 k3 k4 k5 hsol;go_wp2_with fail
  refine hs1.mono ?_;rintro ee w2 ⟨hE2,hor⟩;have hE12:=hE1.trans hE2;rcases hor with⟨hmem,rfl⟩|⟨hmem,cv,rfl,hcv⟩
  ·have b12:=b1.ext0 hE12
   have hfin:=hid (hin.out hmem);clear hs1 hmem j1 j2 hin hout;go_wp2_with ((with_reducible show wpList _ _ _ (⟨_, .store 32 _ _,_,_,_,_⟩::_) _ _);refine a0c a0v rfl rfl b12 rfl rfl (a3f _ _ _ _ _ _ _) ?_;intro w7 r1 r2)
   have hE7:Ext w w7:=ExtX.box (hE.trans hE12) r2 (by omega);exact bodyPost_ret (a4N rfl rfl a0v r1 rfl) rfl (hfin.out w7 _ _ hE7 (SlV.zero _ _ _) (QC.zero _))
  ·have hfin:=hid (hout.out hmem)
   have b02:=b0.ext0 hE12;have i1:=b02.cell 1 rfl;have hr2:=hrk.out w2 hE12 _ (hxv.out w2 hE12);have hcv':=hid hcv;obtain⟨co,cc,rfl,_,_⟩:=hcv;rw[hCl.out]at hcv' |-;clear hs1 hmem j1 j2 hin hout hrk;go_wp2_with fail
   refine hr2.mono ?_;rintro ee w3 ⟨hE3,rfl⟩;have hE13:=hE12.trans hE3;have hEd:Ext w3 w3.drew:=(ExtX.refl _).drew;have hE1d:=hE13.trans hEd;have hS:Hid (∀w',Ext w3.drew w'->w'.cell? ⟨b,3,none⟩=some (.bool s)/\w'.cell? ⟨b,3+1,none⟩=some (.slice a n c)/\w'.cell? ⟨b,3+2,none⟩=some (.slice d k e)/\w'.cell? ⟨b,2,none⟩=some (.slice yo yl yc)):=hid fun w' h=>by
    have b9:=b0.ext0 (hE1d.trans h);exact⟨b9.cell 3 rfl,b9.cell 4 rfl,b9.cell 5 rfl,b9.cell 2 rfl⟩
   obtain⟨g0,g1,g2,g3⟩:=hS.out _ (ExtX.refl _);have hXd:HX (a0g X b 2) w3.drew:=hXW.ext hE1d;have hd3:=hdo.out w3.drew _ _ hXd ((mkx RC.mono hcv'.out (hE3.trans hEd)).rv hCb.out) (hyv.out _ hE1d);have hqd:=hqv.out w3.drew hE1d;clear hr2 i1 hdo;go_wp2_with fail
   go_region_held3 (fun w'=>w'.cell? ⟨b,3,none⟩=some (.bool s)/\w'.cell? ⟨b,3+1,none⟩=some (.slice a n c)/\w'.cell? ⟨b,3+2,none⟩=some (.slice d k e)/\w'.cell? ⟨b,2,none⟩=some (.slice yo yl yc))
    (first|exact hS.out _ t1|exact hS.out _ t2|exact⟨((b0.ext0 (hE1d.trans t2)).ext (bb2.set3 _ _ _).2 (a0d (by omega))).cell 3 rfl,((b0.ext0 (hE1d.trans t2)).ext (bb2.set3 _ _ _).2 (a0d (by omega))).cell 4 rfl,((b0.ext0 (hE1d.trans t2)).ext (bb2.set3 _ _ _).2 (a0d (by omega))).cell 5 rfl,((b0.ext0 (hE1d.trans t2)).ext (bb2.set3 _ _ _).2 (a0d (by omega))).cell 2 rfl⟩|go_keep)
    (first|(go_at_call 112;(with_reducible refine hd3.mono ?_);rintro ee w5 ⟨t1,u5,rfl,hu5⟩;have hX5:=HX.ext hXd t1;have hq5:=mkx QV.mono hqd t1;have hu5v:=hu5.qv hdq.out)|(go_at_call 132;(with_reducible refine(b6O (a0g X b 2) w5 _ _ _ _ hX5 hq5 hu5v).mono ?_);rintro ee w6 ⟨hE6,u6,rfl,hu6⟩;have t2:=t1.trans hE6;obtain⟨s6,a6,n6,c6,d6,k6,e6,rfl⟩:=hu6.shape;have bb2:=b1.ext0 (hE1d.trans t2);have f0:=bb2.cell 0 rfl;have f1:=bb2.cell 1 rfl;have f2:=bb2.cell 2 rfl;have f3:=bb2.frozen 0;have f4:=bb2.frozen 1;have f5:=bb2.frozen 2))
   all_goals
    obtain⟨r1,r2⟩:=bb2.set3 (.bool s6) (.slice a6 n6 c6) (.slice d6 k6 e6);have h7:=QC.mono _ _ _ _ a0l (QC.mono _ _ _ _ (a0h r2 (by omega) (by omega)) hu6);have hc7:=RC.mono _ _ _ _ a0l (RC.mono _ _ _ _ (a0h r2 (by omega) (by omega)) (mkx RC.mono hcv'.out (hE3.trans (hEd.trans t2))));have hEf:Ext w _:=ExtX.box (hE.trans (hE1d.trans t2)) r2 (by omega);clear g0 g1 g2 g3 f0 f1 f2 f3 f4 f5 hS;go_wp2_with fail
    exact bodyPost_ret (a4N rfl rfl a0v r1 rfl) rfl (hfin.out _ _ _ hEf hc7 h7)
set_option maxRecDepth 100000 in
set_option maxHeartbeats 1600000 in
theorem b3a (X:Nat->Bool) (w:World) (u v:Value) (l m:List Rat) (hX:HX X w) (hu:RV (mk X w) u l) (hv:RV (mk X w) v m) (hn:l.length<=1000000) (hml:m.length=l.length) (hb1:∀k,k<=l.length->hq (a3O l m k)<=68719476736) (hb2:∀k,k<l.length->hq (l.getD k 0*m.getD k 0)<=68719476736):
  Calls Tryz.prog 42 #[u,v] w (a2h X w QC (a2l l m)):=by
 obtain⟨ao,ca,rfl,hca,hsa⟩:=hu;obtain⟨bo,cb,rfl,hcb,hsb⟩:=hv;have hha:=hsa.hd;have hhb:=hsb.hd;obtain⟨W,hW,hE,b0,b1,hz⟩:=a1N w #[.bool false, .slice none 0 0, .slice none 0 0] #[.bool false, .slice none 0 0, .slice none 0 0] 32 32;have hXW:HX (a0g X w.heap.size 2) W:=hX.boxes hz;have h0:QC (mk (a0g X w.heap.size 2) W) (.agg #[.bool false, .slice none 0 0, .slice none 0 0]) (a3O l m 0):=QC.zero _;obtain⟨n,hln⟩:∃n,l.length=n:=⟨_,rfl⟩;rw[hln]at hn hml hb1 hb2 hca hha |-;rw[hml]at hcb hhb |-;have hln':=hid hln;have hml':=hid hml;have hb1':=hid hb1;have hb2':=hid hb2;have hdot:Hid (a3O l m n=a2l l m):=hid (by unfold a2l;rw[hln]);clear hln hml hb1 hb2;go_enter Tryz.func42,Tryz.ntmps42
 go_wp2_with ((with_reducible show wpList _ _ _ (⟨_, .store _ _ _,_,_,_,_⟩::_) _ _);refine a0c a0v rfl rfl b1 rfl rfl (a3f _ _ _ _ _ _ _) ?_;intro W2 b1 r2)
 obtain⟨b,hb⟩:∃b,w.heap.size=b:=⟨_,rfl⟩;have hle:Hid (∀wr,Ext w wr->Le (mk X w) (mk (a0g X b 2) wr)):=hid fun wr h=>by rw[<-hb];exact a0p h
 have hbw:w.heap.size<=b:=by omega
 have hE2:Ext w W2:=ExtX.box hE r2 (by omega);have b02:=b0.ext r2 (a0d (by omega));have hXW2:=hXW.ext r2;have h02:QC (mk (a0g X w.heap.size 2) W2) (.agg #[.bool false, .slice none 0 0, .slice none 0 0]) (a3O l m 0):=QC.zero _;rw[hb]at b02 b1 hXW2 h02;rw[hb]at b0 hXW h0 |-;clear hW b0 hXW h0 hE;go_loopw [6] (fun k wr=>∃(i:Nat) (s:Bool) (a:Option Addr) (n' c':Nat) (d:Option Addr) (kk e:Nat),k= .int .i64 i/\i<=n/\Bx wr b #[.bool false, .slice none 0 0, .slice none 0 0] 32/\Bx wr (b+1) #[.bool s, .slice a n' c', .slice d kk e] 32/\QC (mk (a0g X b 2) wr) (.agg #[.bool s, .slice a n' c', .slice d kk e]) (a3O l m i)/\HX (a0g X b 2) wr/\Ext w wr) (fun k _=>n - (intOf k).toNat)
 case atStart=>exact⟨0,_,_,_,_,_,_,_,rfl,Nat.zero_le _,b02,b1,h02,hXW2,hE2⟩
 case round=>
  obtain⟨i,s,a,n',c',d,kk,e,rfl,hi,b0,b1,hq,hXr,hEr⟩:=hrel;by_cases hlt:i<n
  ·have hil:i<l.length:=by rw[hln'.out];exact hlt
   have him:i<m.length:=by rw[hml'.out];exact hlt
   have hsr:=hsa.mono QV.mono (hle.out wr hEr);have hsr2:=hsb.mono QV.mono (hle.out wr hEr);obtain⟨g1,o1,s1,p1,n1,q1,d1,k1,e1,hg1,hX1,hc1,hq1⟩:=hsr.rat QV.shaped i hil;obtain⟨g2,o2,s2,p2,n2,q2,d2,k2,e2,hg2,hX2,hc2,hq2⟩:=hsr2.rat QV.shaped i him;have gl:Hid (l.getD i 0=l[i]):=hid (by simp[List.getD_eq_getElem?_getD,hil]);have gm:Hid (m.getD i 0=m[i]):=hid (by simp[List.getD_eq_getElem?_getD,him]);have hst:Hid (a3O l m i+l[i]*m[i]=a3O l m (i+1)):=hid (by rw[<-gl.out,<-gm.out];rfl);have hbo:=hid (hb1'.out i hi);have hbp:=hid (hb2'.out i hlt);rw[gl.out,gm.out]at hbp;obtain⟨x,hx⟩:∃x,l[i]=x:=⟨_,rfl⟩;obtain⟨y,hy⟩:∃y,m[i]=y:=⟨_,rfl⟩;rw[hx,hy]at hst hbp;rw[hx]at hq1;rw[hy]at hq2;have i1:∀W,(Instr.indexAt 45 (.slice ao n ca) (.int .i64 (i:Int))).run Tryz.prog W= .ok (.pointer (some ⟨g1,o1,none⟩)) W:=by rw[<-hg1];exact a0j a0B ao n ca .i64 i hha (by omega)
   have i2:∀W,(Instr.indexAt 45 (.slice bo n cb) (.int .i64 (i:Int))).run Tryz.prog W= .ok (.pointer (some ⟨g2,o2,none⟩)) W:=by rw[<-hg2];exact a0j a0B bo n cb .i64 i hhb (by omega)
   obtain⟨D,hD⟩:∃D,a3O l m i=D:=⟨_,rfl⟩;obtain⟨D2,hD2⟩:∃D2,a3O l m (i+1)=D2:=⟨_,rfl⟩;rw[hD]at hq hst hbo;rw[hD2]at hst;have hD2':=hid hD2;clear hx hy hg1 hg2 hD hD2;have hE5d:Ext wr wr.drew:=(ExtX.refl wr).drew;have b05:=b0.ext0 hE5d;have b15:=b1.ext0 hE5d;have k00:=b15.cell 0 rfl;have k01:=b15.cell 1 rfl;have k02:=b15.cell 2 rfl;obtain⟨k10,k11,k12⟩:=hc1.out noY wr.drew hE5d rfl;obtain⟨k20,k21,k22⟩:=hc2.out noY wr.drew hE5d rfl;have hXd:=hXr.ext hE5d;have hx5:QV (mk (a0g X b 2) wr.drew) (.agg #[.bool s1, .slice p1 n1 q1, .slice d1 k1 e1]) x:=mkx QV.mono hq1 hE5d;have hy5:QV (mk (a0g X b 2) wr.drew) (.agg #[.bool s2, .slice p2 n2 q2, .slice d2 k2 e2]) y:=mkx QV.mono hq2 hE5d;have hq5:QV (mk (a0g X b 2) wr.drew) (.agg #[.bool s, .slice a n' c', .slice d kk e]) D:=(mkx QC.mono hq hE5d).qv hbo.out;clear hc1 hc2;go_wp2_with fail
   go_region_with (first|(go_at_call 59;(with_reducible refine(b2C (a0g X b 2) wr.drew _ _ _ _ hXd hx5 hy5).mono ?_);rintro ee w6 ⟨t1,u6,rfl,hu6⟩;obtain⟨s6,a6,n6,c6,d6,k6,e6,rfl⟩:=hu6.shape;have hX6:=hXd.ext t1;have hq6:=mkx QV.mono hq5 t1;have hm6:=hu6.qv hbp.out;have b16:=b15.ext0 t1;have m0:=b16.cell 0 rfl;have m1:=b16.cell 1 rfl;have m2:=b16.cell 2 rfl)|(go_at_call 49;(with_reducible refine(b6e (a0g X b 2) w6 _ _ _ _ hX6 hq6 hm6).mono ?_);rintro ee w7 ⟨t7,u7,rfl,hu7⟩;obtain⟨s7,a7,n7,c7,d7,k7,e7,rfl⟩:=hu7.shape;rw[hst.out]at hu7;have b17:=b16.ext0 t7;have g0:=b17.cell 0 rfl;have g1':=b17.cell 1 rfl;have g2':=b17.cell 2 rfl;have f0:=b17.frozen 0;have f1:=b17.frozen 1;have f2:=b17.frozen 2))
   all_goals
    obtain⟨z1,z2⟩:=b17.set3 (.bool s7) (.slice a7 n7 c7) (.slice d7 k7 e7);have h8:=QC.mono _ _ _ _ (a0h (lo:=b) (nb:=2) z2 (by omega) (by omega)) hu7;have b08:=((b05.ext0 t1).ext0 t7).ext z2 (a0d (by omega));have hE8:Ext w _:=ExtX.box (hEr.trans (hE5d.trans (t1.trans t7))) z2 (by omega);have hX8:=(hX6.ext t7).ext z2;rw[<-hD2'.out]at h8;clear k00 k01 k02 k10 k11 k12 k20 k21 k22 m0 m1 m2 g0 g1' g2' f0 f1 f2 i1 i2;go_wp2_with fail
    go_roundw
    case rel=>exact⟨i+1,_,_,_,_,_,_,_,by go_num,by omega,b08,z1,h8,hX8,hE8⟩
    case measure=>simp[intOf];omega
  ·have hin:i=n:=by omega
   subst hin;rw[hdot.out]at hq;have k00:=b1.cell 0 rfl;have k01:=b1.cell 1 rfl;have k02:=b1.cell 2 rfl;go_wp2_with ((with_reducible show wpList _ _ _ (⟨_, .store _ _ _,_,_,_,_⟩::_) _ _);refine a0c a0v rfl rfl b0 rfl rfl (a3f _ _ _ _ _ _ _) ?_;intro w7 r1 r2)
   have h7:=QC.mono _ _ _ _ a0l (QC.mono _ _ _ _ (a0h r2 (by omega) (by omega)) hq);exact bodyPost_ret (a0f rfl rfl a0v r1 rfl) rfl ⟨ExtX.box hEr r2 (by omega),_,rfl,h7⟩
set_option maxRecDepth 100000 in
set_option maxHeartbeats 1600000 in
theorem b3b (X:Nat->Bool) (w:World) (u v t:Value) (x:Mat) (y b:List Rat) (n c B:Nat) (hX:HX X w) (hu:MV (mk X w) u x) (hv:RV (mk X w) v y) (ht:RV (mk X w) t b) (hsh:Shp n c x) (hy:y.length=n) (hb:b.length=c) (hn:n<=96) (hc:c<=96) (hxB:BM B x) (hbB:BR B b) (hB1:1<=B) (hBB:200*B<=68000000000):
  Calls Tryz.prog 111 #[u,v,t] w (a2h X w RC (a2k x y b)):=by
 obtain⟨L,hL⟩:∃L,a2k x y b=L:=⟨_,rfl⟩;have hLl:Hid (L.length=n):=hid (by rw[<-hL,a2o (by rw[hy,hsh.1]),hsh.1]);have hLi:Hid (∀i (h1:i<x.length) (h2:i<y.length) (h:i<L.length),L[i]=y[i] - a2l x[i] b):=hid fun i h1 h2 h=>by subst hL;exact a5D h h1 h2
 have hLn:L.length<=n:=by rw[hLl.out];exact Nat.le_refl _
 have hnL:n<=L.length:=by rw[hLl.out];exact Nat.le_refl _
 obtain⟨ua,uc,rfl,huc,hus⟩:=hu;obtain⟨va,vc,rfl,hvc,hvs⟩:=hv;have hhu:=hus.hd;have hhv:=hvs.hd;have hxl:=hid hsh.1;have hyl:=hid hy;have hbl:=hid hb;have hrw:=hid hsh.2;have hxB':=hid hxB;have hbB':=hid hbB;rw[hsh.1]at hhu huc |-;rw[hy]at hhv hvc |-;rw[hL];clear hL hsh hy hb hxB hbB;go_enter Tryz.func111,Tryz.ntmps111
 go_wp2_with fail
 go_loopw [7,12] (fun o k wr=>∃(i:Nat) (oo:Option Addr) (co:Nat),k= .int .i64 i/\o= .slice oo i co/\i<=n/\OL QC 3 X w.heap.size 32 wr oo co (L.take i)/\Ext w wr) (fun _ k _=>n - (intOf k).toNat)
 case atStart=>exact⟨0,none,0,rfl,rfl,Nat.zero_le _,OL.nil _ _ _ _ _ _,ExtX.refl _⟩
 case round=>
  obtain⟨i,oo,co,rfl,rfl,hi,hO,hE⟩:=hrel;have hXr:HX X wr:=hX.ext hE;have hXu:HX (un X oo) wr:=hO.unX hXr;have hbase:=hE.size;by_cases hlt:i<n
  ·have hix:i<x.length:=by rw[hxl.out];exact hlt
   have hiy:i<y.length:=by rw[hyl.out];exact hlt
   have hiL:i<L.length:=by omega
   have hEd:Ext wr wr.drew:=(ExtX.refl wr).drew;have hsr:Sl RV 1 (mk (un X oo) wr) ua x:=hus.old RV.mono hE (fun j hj=>hO.ob_lt hj);have hyr:Sl QV 3 (mk (un X oo) wr) va y:=hvs.old QV.mono hE (fun j hj=>hO.ob_lt hj);have hbr:RV (mk (un X oo) wr) t b:=a4W RV.mono ht hE (fun j hj=>hO.ob_lt hj);have htk:=hid (a1r L i hiL);have hln:=hid (a1H (l:=L) (i:=i) (by omega));obtain⟨a1,c1,hX1,hc1,hcl1,hq1⟩:=hsr.row i hix;obtain⟨g2,o2,s2,a2,n2,c2,d2,k2,e2,hg2,hX2,hc2,hq2⟩:=hyr.rat QV.shaped i hiy;have hob1:=(a1p hX1).2;have hob2:=(a1p hX2).2;have hrl:=hrw.out x[i] (List.getElem_mem _);have hdb:=a2j (hxB'.out x[i] (List.getElem_mem _)) hbB'.out hB1 (by rw[hrl];exact hc) hBB;have hdq:Hid (hq (a2l x[i] b)<=68719476736):=hid (hdb.1 _ (Nat.le_refl _));have hdot:=a5l (un X oo) wr.drew (.slice a1 x[i].length c1) t x[i] b (hXu.ext hEd) (mkx RV.mono ⟨a1,c1,rfl,hcl1,hq1⟩ hEd) (mkx RV.mono hbr hEd) (by rw[hrl];omega) (by rw[hrl,hbl.out]) hdb.1 hdb.2;have hel:=hLi.out i hix hiy hiL;have hyd:=mkx QV.mono hq2 hEd;obtain⟨D,hD⟩:∃D,a2l x[i] b=D:=⟨_,rfl⟩;obtain⟨yi,hyi⟩:∃yi,y[i]=yi:=⟨_,rfl⟩;obtain⟨z,hz⟩:∃z,L[i]=z:=⟨_,rfl⟩;rw[hD]at hdq hdot hel;rw[hyi]at hyd hel;rw[hz]at hel htk;rw[hrl]at hc1 hdot;have hel':=hid hel;have hXd:HX (un X oo) wr.drew:=hXu;have i2:∀W,(Instr.indexAt 45 (.slice va n vc) (.int .i64 (i:Int))).run Tryz.prog W= .ok (.pointer (some ⟨g2,o2,none⟩)) W:=by rw[<-hg2];exact a0j a0B va n vc .i64 i hhv (by omega)
   have i1:∀W,(Instr.indexAt 25 (.slice ua n uc) (.int .i64 (i:Int))).run Tryz.prog W= .ok (.pointer (some (adr ua i))) W:=a0w a0r ua n uc .i64 i hhu (by omega) rfl;have hS:Hid (∀Y W',ExtX Y wr.drew W'->Y g2=false->Y (adr ua i).block=false->W'.cell? ⟨g2,o2,none⟩=some (.bool s2)/\W'.cell? ⟨g2,o2+1,none⟩=some (.slice a2 n2 c2)/\W'.cell? ⟨g2,o2+2,none⟩=some (.slice d2 k2 e2)/\W'.cell? (adr ua i)=some (.slice a1 c c1)):=hid fun Y W' h hg hg1=>by
    have p2:=hc2.out Y W' ((ExtX.of hEd).trans h) hg;exact⟨p2.1,p2.2.1,p2.2.2,hc1.out Y W' ((ExtX.of hEd).trans h) hg1⟩
   obtain⟨k00,k01,k02,k10⟩:=hS.out noY wr.drew (ExtX.refl _) rfl rfl;have k10w:=hc1.out noY wr (ExtX.refl _) rfl;clear hc1 hc2 hg2 hq1 hq2 hrl hcl1 hdb hel hD hyi hz;go_wp2_with fail
   go_region_held3 (fun w'=>w'.cell? ⟨g2,o2,none⟩=some (.bool s2)/\w'.cell? ⟨g2,o2+1,none⟩=some (.slice a2 n2 c2)/\w'.cell? ⟨g2,o2+2,none⟩=some (.slice d2 k2 e2))
    (first|exact(let p:=hS.out noY _ t1 rfl rfl;⟨p.1,p.2.1,p.2.2.1⟩)|exact(let p:=hS.out noY _ (t1.trans t7) rfl rfl;⟨p.1,p.2.1,p.2.2.1⟩)|exact(let p:=hS.out noY _ (ExtX.alloc (t1.trans t7) _) rfl rfl;⟨p.1,p.2.1,p.2.2.1⟩)|exact(let p:=hS.out (ob oo) _ ((ExtX.of (t1.trans t7)).trans hE7) hob2 hob1;⟨p.1,p.2.1,p.2.2.1⟩)|go_keep)
    (first|(go_at_call 112;(with_reducible refine hdot.mono ?_);rintro ee w6 ⟨t1,u6,rfl,hu6⟩;have hu6v:=hu6.qv hdq.out;have hyd6:=mkx QV.mono hyd t1;have hX6:=hXd.ext t1)|(go_at_call 132;(with_reducible refine(b6O (un X oo) w6 _ _ _ _ hX6 hyd6 hu6v).mono ?_);rintro ee w8 ⟨t7,u7,rfl,hu7⟩;obtain⟨s6,a6,n6,c6,d6,k6,e6,rfl⟩:=hu7.shape;rw[<-hel'.out]at hu7;have hO6:=hO.ext0 QC.elem (hEd.trans (t1.trans t7));have hb6:=(hEd.trans (t1.trans t7)).size;have hX8:=hXr.ext (hEd.trans (t1.trans t7)))|(refine a1W (l:=L.take i) rfl (by rfl) a0B rfl QC.elem (by omega) hX8 i hln.out rfl rfl hO6 (.agg #[.bool s6, .slice a6 n6 c6, .slice d6 k6 e6]) z rfl hu7 (by omega) (by omega) ?_;intro oo2 co2 w7 hO7 hE7 hor))
   have hE8:=(hE.trans (hEd.trans (t1.trans t7))).own hO6 (Nat.le_refl _) hE7;rw[htk.out]at hO7;clear k00 k01 k02 k10 k10w i1 i2;go_wp2_with fail
   go_roundw
   case rel=>exact⟨i+1,oo2,co2,by go_num,by go_num,by omega,hO7,hE8⟩
   case measure=>simp[intOf];omega
  ·have hil:i=n:=by omega
   subst hil;rw[List.take_of_length_le (by omega)]at hO;have hc:=hO.lenCap;have hs:=hO.sl QC.elem;go_wp2_with fail
   go_ret
   exact⟨hE,_,rfl,oo,co,by rw[hLl.out];rfl,hc,hs⟩
end Go.Proofs.YtkddecjkfdogiaaGreat
namespace Go.Lin
theorem a8q {p:List Nat} {c:Nat} (hp:p.Pairwise (· < ·)) (hc:∀j∈p,j<c):(List.range c).filter (fun j=>decide (j∈p))=p:=by
 refine a8A _ _ ?_ hp fun x=>?_
 ·exact(List.pairwise_lt_range (n:=c)).filter _
 ·simp only[List.mem_filter,List.mem_range,decide_eq_true_eq]
  exact⟨fun h=>h.2,fun h=>⟨hc x h,h⟩⟩
def pkR (r:List Rat) (us:List Bool) (j:Nat):List Rat:=((List.range j).filter fun i=>us.getD i false).map fun i=>r.getD i 0
theorem b5b {r:List Rat} {us:List Bool} {j:Nat} (h:us.getD j false=true):pkR r us (j+1)=pkR r us j++[r.getD j 0]:=by
 unfold pkR;rw[List.range_succ,List.filter_append,show List.filter (fun i=>us.getD i false) [j]= [j]from by simp only[List.filter,h],List.map_append];rfl
theorem b6w {r:List Rat} {us:List Bool} {j:Nat} (h:us.getD j false=false):pkR r us (j+1)=pkR r us j:=by
 unfold pkR;rw[List.range_succ,List.filter_append,show List.filter (fun i=>us.getD i false) [j]= []from by simp only[List.filter,h],List.append_nil]
theorem b5c {r:List Rat} {p:List Nat} {c:Nat} (hp:p.Pairwise (· < ·)) (hc:∀j∈p,j<c):pkR r (Go.Rep.usedL p c) c=p.map fun j=>r.getD j 0:=by
 have e:(List.range c).filter (fun i=>(Go.Rep.usedL p c).getD i false)=p:=by
  rw[<-a8q hp hc];refine List.filter_congr fun j hj=>?_;have hj:=List.mem_range.1 hj;simp[Go.Rep.usedL,List.getD_eq_getElem?_getD,hj]
 unfold pkR;rw[e]
theorem b5d (r:List Rat) (us:List Bool) (j:Nat):(pkR r us j).length<=j:=by
 unfold pkR;rw[List.length_map];exact Nat.le_trans (List.length_filter_le _ _) (by rw[List.length_range];exact Nat.le_refl _)
end Go.Lin
namespace Go.Rep
open Go.RowKit Go.Lim Go.Lin
def b0j (hs:List Hdr) (i:Nat):Option Addr:=(hs.getD i (none,0,0)).1
theorem a4z {hs:List Hdr} {i:Nat} (h:i<hs.length):b0j hs i=hs[i].1:=by simp[b0j,List.getD_eq_getElem?_getD,h]
structure CS (R:Mem->Value->Rat->Prop) (X:Nat->Bool) (base:Nat) (e1 e2:TypeId) (w:World) (oo:Option Addr) (co:Nat) (hs:List Hdr) (M:Mat) (i:Nat) (L:List Rat):Prop where
 outer:OL HdR 1 X base e1 w oo co hs
 len:hs.length=M.length
 done:∀k (_:k<i) (h1:k<hs.length) (h2:k<M.length),hs[k].2.1=M[k].length/\hs[k].2.1<=hs[k].2.2/\Sl R 3 (mk (un (un X oo) (b0j hs i)) w) hs[k].1 M[k]
 row:∀h1:i<hs.length,hs[i].2.1=L.length/\OL R 3 (un X oo) base e2 w (b0j hs i) hs[i].2.2 L
 rest:∀k,i<k->(h:k<hs.length)->hs[k]=(none,0,0)
section
variable {R:Mem->Value->Rat->Prop} {X:Nat->Bool} {base:Nat} {e1 e2:TypeId} {w w':World} {oo:Option Addr} {co:Nat} {hs:List Hdr} {M:Mat} {i:Nat} {L:List Rat}
theorem CS.start {n:Nat} (ho:OL HdR 1 X base e1 w oo co (List.replicate n (none,0,0))) (hM:M.length=n) (e2:TypeId):CS R X base e1 e2 w oo co (List.replicate n (none,0,0)) M 0 []:=by
 refine⟨ho,by rw[List.length_replicate,hM],fun k hk=>by omega,fun h1=>?_,fun k _ h=>by simp⟩;have hc:b0j (List.replicate n (none,0,0)) 0=none:=by rw[a4z h1];simp
 rw[hc];refine⟨by simp,?_⟩;have:((List.replicate n ((none,0,0):Hdr))[0]).2.2=0:=by simp
 rw[this];exact OL.nil _ _ _ _ _ _
theorem CS.ext0 (hR:Elem R 3) (h:CS R X base e1 e2 w oo co hs M i L) (hE:Ext w w'):CS R X base e1 e2 w' oo co hs M i L:=
 ⟨h.outer.ext0 HdR.elem hE,h.len,fun k hk h1 h2=>let ⟨a,b,c⟩:=h.done k hk h1 h2;⟨a,b,c.mono hR.mono (a0o hE)⟩,fun h1=>let ⟨a,b⟩:=h.row h1;⟨a,b.ext0 hR hE⟩,h.rest⟩
theorem CS.next (hR:Elem R 3) (h:CS R X base e1 e2 w oo co hs M i L) (hi:i<M.length) (hL:L=M[i]):CS R X base e1 e2 w oo co hs M (i+1) []:=by
 have hih:i<hs.length:=by rw[h.len];exact hi
 obtain⟨r1,r2⟩:=h.row hih;have hnone:∀h1:i+1<hs.length,hs[i+1]=(none,0,0):=fun h1=>h.rest (i+1) (by omega) h1;have hc:b0j hs (i+1)=none:=by
  by_cases h1:i+1<hs.length
  ·rw[a4z h1,hnone h1]
  ·simp[b0j,List.getD_eq_getElem?_getD,h1]
 have hun:un (un X oo) none=un X oo:=by funext k;simp[un,ob]
 refine⟨h.outer,h.len,fun k hk h1 h2=>?_,fun h1=>?_,fun k hk h1=>h.rest k (by omega) h1⟩
 ·rw[hc,hun]
  by_cases e:k=i
  ·subst e
   have e2:=a4z h1;rw[e2]at r2;refine⟨by rw[r1,hL],by rw[r1];exact r2.lenCap,?_⟩;rw[<-hL];exact r2.sl hR
  ·obtain⟨a,b,c⟩:=h.done k (by omega) h1 h2
   exact⟨a,b,c.mono hR.mono (a1v fun k _ hk=>a0q hk)⟩
 ·rw[hc]
  refine⟨by rw[hnone h1];rfl,?_⟩;have:hs[i+1].2.2=0:=by rw[hnone h1]
  rw[this];exact OL.nil _ _ _ _ _ _
theorem CS.mc (hR:Elem R 3) (h:CS R X base e1 e2 w oo co hs M M.length []):SlV (SlV R 3) 1 (_root_.Go.Rep.mk X w) (.slice oo M.length co) M:=by
 have hl:=h.len;refine⟨oo,co,rfl,by rw[<-hl];exact h.outer.lenCap,fun hp=>?_,fun k hk=>?_⟩
 ·have:=h.outer.hd;rw[hl]at this;exact this hp
 ·have hkh:k<hs.length:=by omega
  obtain⟨u,h1,h2,rfl⟩:=h.outer.cell HdR.one k hkh;obtain⟨a,b,c⟩:=h.done k hk hkh hk;refine⟨.slice hs[k].1 hs[k].2.1 hs[k].2.2,rfl,fun j hj=>?_,?_⟩
  ·have hj0:j=0:=by simp[Value.cells]at hj;omega
   subst hj0;unfold _root_.Go.Rep.mk;have hX:X (adr oo (k*1+0)).block=false:=by
    obtain⟨b,off,rfl⟩:=h.outer.hd (by omega);exact h.outer.1 _ (by simp[ob,adr])
   rw[hX];simpa[Value.cells]using h1
  ·rw[a]
   exact⟨_,_,rfl,by rw[<-a];exact b,c.mono hR.mono (a1v fun k _ hk=>a0q (a0q hk))⟩
theorem CS.outer7 (h:CS R X base e1 e2 w oo co hs M i L) (hi:i<hs.length) (hE:ExtX (ob (b0j hs i)) w w'):OL HdR 1 X base e1 w' oo co hs:=
 h.outer.frame HdR.pure hE (fun k hk=>by
  cases hc:ob (b0j hs i) k
  ·rfl
  ·have:=(a1p ((h.row hi).2.1 k hc)).2;rw[hk]at this;cases this) h.outer.1
theorem CS.push (hR:Elem R 3) (h:CS R X base e1 e2 w oo co hs M i L) (hi:i<hs.length) {v:Rat} {ai:Option Addr} {ci n:Nat} {w7 w8:World} (hn:n=L.length+1) (hR7:OL R 3 (un X oo) base e2 w7 ai ci (L++[v])) (hE7:ExtX (ob (b0j hs i)) w w7) (hor:ai=b0j hs i\/∃g,ai=some ⟨g,0,none⟩/\w.heap.size<=g)
  (hE8:ExtX (ob oo) w7 w8) (hO8:OL HdR 1 X base e1 w8 oo co (hs.set i (ai,n,ci))):CS R X base e1 e2 w8 oo co (hs.set i (ai,n,ci)) M i (L++[v]):=by
 subst hn;have hc:b0j (hs.set i (ai,L.length+1,ci)) i=ai:=by rw[a4z (by rw[List.length_set];exact hi)];simp
 refine⟨hO8,by rw[List.length_set];exact h.len,fun k hk h1 h2=>?_,fun h1=>?_,fun k hk h1=>?_⟩
 ·have hk1:k<hs.length:=by simpa using h1
  obtain⟨a,b,c⟩:=h.done k hk hk1 h2;rw[hc,List.getElem_set_ne (by omega)];refine⟨a,b,?_⟩;have c7:=c.mono hR.mono (a1f (Z:=un (un X oo) ai) hE7 (fun q _ hq=>a0s hq) (fun q hq hz=>Go.Proofs.YtkddecjkfdogiaaGreat.un_or (X:=un X oo) hor q hq hz));exact c7.mono hR.mono (a1f hE8 (fun q _ hq=>a0q (a0s hq)) (fun _ _ h=>h))
 ·rw[hc]
  refine⟨by simp,?_⟩;have:(hs.set i (ai,L.length+1,ci))[i].2.2=ci:=by simp
  rw[this];exact hR7.ext hR hE8 (fun k _ hk=>a0s hk) (fun _ _ h=>h)
 ·rw[List.getElem_set_ne (by omega)]
  exact h.rest k hk (by simpa using h1)
end
end Go.Rep
namespace Go.Proofs.YtkddecjkfdogiaaGreat
open Go.RowKit Go.Rep Go.Lim Go.Lin
set_option maxRecDepth 100000 in
set_option maxHeartbeats 1600000 in
theorem b0a (X:Nat->Bool) (w:World) (u:Value) (uo:Option Addr) (uc:Nat) (x:Mat) (p:List Nat) (n c:Nat) (hX:HX X w) (hu:MV (mk X w) u x) (hus:Sl BlR 1 (mk X w) uo (usedL p c)) (hsh:Shp n c x) (hn:n<=96) (hc:c<=96) (hp:p.Pairwise (· < ·)) (hpc:∀j∈p,j<c) (_hxB:BM 68719476736 x):
  Calls Tryz.prog 114 #[u, .slice uo c uc] w (a2h X w MV (pkL x p)):=by
 obtain⟨M,hM⟩:∃M,pkL x p=M:=⟨_,rfl⟩;have hMl:Hid (M.length=n):=hid (by rw[<-hM,a6I];exact hsh.1);have hMi:Hid (∀i (h1:i<x.length) (h:i<M.length),pkR x[i] (usedL p c) c=M[i]):=hid fun i h1 h=>by subst hM;rw[b5c hp hpc];simp[pkL]
 obtain⟨us,hus2⟩:∃us,usedL p c=us:=⟨_,rfl⟩;have husl:Hid (us.length=c):=hid (by rw[<-hus2];exact a2Z p c);obtain⟨ua,uca,rfl,huca,hua⟩:=hu;have hhu:=hua.hd;have hxl:=hid hsh.1;have hrw:=hid hsh.2;rw[hus2]at hMi hus;have hhs:=hus.hd;rw[husl.out]at hhs;rw[hsh.1]at hhu huca |-;rw[hM];clear hM hus2 hsh hp hpc _hxB;go_enter Tryz.func114,Tryz.ntmps114
 go_wp2_with ((with_reducible show wpList _ _ _ (⟨_, .makeSlice _ _ _,_,_,_,_⟩::_) _ _);refine a2i (R:=HdR) a0r HdR.elem (none,0,0) (fun _=>rfl) X hX w.heap.size (Nat.le_refl _) n rfl rfl rfl (by omega) (by omega) ?_;intro oo w1 hO1 hE1)
 have hC1:=CS.start (R:=QV) hO1 hMl.out 32;have hX1:=hX.ext hE1;clear hO1;go_loopw [15] (fun k wr=>∃(i:Nat) (hs:List Hdr),k= .int .i64 i/\i<=n/\hs.length=n/\CS QV X w.heap.size 45 32 wr oo n hs M i []/\Ext w wr) (fun k _=>n - (intOf k).toNat)
 case atStart=>exact⟨0,_,rfl,Nat.zero_le _,List.length_replicate,hC1,hE1⟩
 case round=>
  obtain⟨i,hs,rfl,hi,hhl,hC,hE⟩:=hrel;have hXr:HX X wr:=hX.ext hE;clear hC1 hE1 hX1;by_cases hlt:i<n
  ·have hix:i<x.length:=by rw[hxl.out];exact hlt
   have hXu:HX (un X oo) wr:=hC.outer.unX hXr;have hEw:=hE;obtain⟨a1,c1,hX1',hc1,hcl1,hq1⟩:=hua.row i hix;have hrl:=hrw.out x[i] (List.getElem_mem _);have hMi2:=hid fun h=>hMi.out i hix h;obtain⟨r,hr⟩:∃r,x[i]=r:=⟨_,rfl⟩;rw[hr]at hc1 hcl1 hq1 hrl hMi2;have hrl':=hid hrl;rw[hrl]at hc1 hcl1;have hh1:Hd a1 c:=by have:=hq1.hd;rw[hrl]at this;exact this
   have k00:=hc1.out noY wr hE rfl;clear hrl hr;obtain⟨wo,hwo⟩:∃wo,wo=wr:=⟨_,rfl⟩;subst hwo;go_wp2_with (with_reducible refine a0t a0r (by omega) (by assumption) ?_)
   go_loopw [22] (fun k wx=>∃(j:Nat) (hs:List Hdr),k= .int .i64 j/\j<=c/\hs.length=n/\CS QV X w.heap.size 45 32 wx oo n hs M i (pkR r us j)/\Ext w wx) (fun k _=>c - (intOf k).toNat)
   case atStart=>exact⟨0,hs,rfl,Nat.zero_le _,hhl,hC,hE⟩
   case round=>
    clear hC hhl k00 hXu;obtain⟨j,hs,rfl,hj,hhl,hC,hE⟩:=hrel;have hXx:HX X wr:=hX.ext hE;by_cases hlj:j<c
    ·have hjr:j<r.length:=by rw[hrl'.out];exact hlj
     have hju:j<us.length:=by rw[husl.out];exact hlj
     have hih:i<hs.length:=by rw[hhl];exact hlt
     have hq2:=hq1.mono QV.mono (a0o hE);have kb:=a1B ((hus.mono BlR.mono (a0o hE)).bl j hju);have bx:=Bx.new wr #[.bool false, .slice none 0 0, .slice none 0 0] 32;have hgd:Hid (us.getD j false=us[j]):=hid (by simp[List.getD_eq_getElem?_getD,hju]);have hgr:Hid (r.getD j 0=r[j]):=hid (by simp[List.getD_eq_getElem?_getD,hjr]);obtain⟨b,hb⟩:∃b,us[j]=b:=⟨_,rfl⟩;rw[hb]at kb hgd;have iu:∀W,(Instr.indexAt 61 (.slice uo c uc) (.int .i64 (j:Int))).run Tryz.prog W= .ok (.pointer (some (adr uo j))) W:=a0w b3Q uo c uc .i64 j hhs (by omega) rfl;clear hb;cases b
     ·have hno:Hid (pkR r us (j+1)=pkR r us j):=hid (b6w hgd.out)
      go_wp2_with (first|(with_reducible refine a2B a0B (by omega) (by assumption) ?_)|((with_reducible show wpList _ _ _ (⟨_, .load 32 _,_,_,_,_⟩::_) _ _);refine a1n a0v j hq2 hjr rfl (by simp) QV.agg ?_;intro u5 hu5;obtain⟨s5,a5,n5,c5,d5,m5,e5,rfl⟩:=hu5.shape)|((with_reducible show wpList _ _ _ (⟨_, .store 32 _ _,_,_,_,_⟩::_) _ _);refine a0c a0v rfl rfl bx rfl rfl (a3f _ _ _ _ _ _ _) ?_;intro w5 y1 y2;have hE5:Ext wr w5:=ExtX.box ((ExtX.refl wr).alloc _) y2 (Nat.le_refl _);have kb5:=hE5.cell kb))
      have hC5:=hC.ext0 QV.elem hE5;rw[<-hno.out]at hC5;go_roundw
      case rel=>exact⟨j+1,hs,by go_num,by omega,hhl,hC5,hE.trans hE5⟩
      case measure=>simp[intOf];omega
     ·have hyes:Hid (pkR r us (j+1)=pkR r us j++[r[j]]):=hid (by rw[<-hgr.out];exact b5b hgd.out)
      have hrow0:=hC.row hih;have hlrow:=hid (b5d r us j);obtain⟨L,hL⟩:∃L,pkR r us j=L:=⟨_,rfl⟩;rw[hL]at hC hyes hrow0 hlrow;obtain⟨q,hq⟩:∃q,L.length=q:=⟨_,rfl⟩;have hq':=hid hq;have hai:=a4z hih;obtain⟨h0,hh0⟩:∃h0,hs[i]=h0:=⟨_,rfl⟩;rw[hh0]at hrow0 hai;obtain⟨ai,qi,ci⟩:=h0;obtain⟨hr1,hr2⟩:=hrow0
      dsimp only at hr1 hr2 hai
      rw[hai]at hr2;obtain rfl:qi=q:=hr1.trans hq;have hqj:qi<=j:=by rw[<-hq];exact hlrow.out
      have hai':=hid hai;have hh0':=hid hh0;obtain⟨v,hv⟩:∃v,r[j]=v:=⟨_,rfl⟩;have hv':=hid hv;rw[hv]at hyes;have hho:Hd oo n:=by have:=hC.outer.hd;rw[hhl]at this;exact this
      have hob1:∀k,ob ai k=true->k<wr.heap.size:=fun k hk=>(hr2.block hk).2;have hsep:∀k,ob oo k=true->ob ai k=false:=fun k hk=>by
       cases hc:ob ai k
       ·rfl
       ·have:=(a1p (hr2.1 k hc)).2;rw[hk]at this;cases this
      have hq2:Sl QV 3 (mk (un (un X oo) ai) wr) a1 r:=hq1.mono QV.mono (a1f hE (fun k _ hk=>by simp[noY]at hk) fun k hk hz=>by
       by_cases hx:X k=true
       ·exact hx
       ·exfalso
        have e1:ob oo k=false:=hC.outer.ob_lt hk;have e2:ob ai k=false:=hr2.ob_lt hk;simp[un,hx,e1,e2]at hz)
      clear hq hai hh0 hv hL hr1;go_wp2_with (first|(with_reducible refine a2B a0B (by omega) (by assumption) ?_)|((with_reducible show wpList _ _ _ (⟨_, .load 32 _,_,_,_,_⟩::_) _ _);refine a1n a0v j hq2 hjr rfl (by simp) QV.agg ?_;intro u5 hu5;rw[hv'.out]at hu5;obtain⟨s5,a5,n5,c5,d5,m5,e5,rfl⟩:=hu5.shape)|((with_reducible show wpList _ _ _ (⟨_, .store 32 _ _,_,_,_,_⟩::_) _ _);refine a0c a0v rfl rfl bx rfl rfl (a3f _ _ _ _ _ _ _) ?_;intro w5 y1 y2;have hE5:Ext wr w5:=ExtX.box ((ExtX.refl wr).alloc _) y2 (Nat.le_refl _);have kb5:=hE5.cell kb))
      have hEd:Ext wr w5.drew:=hE5.drew;have hCd:=hC.ext0 QV.elem hEd;have hrd:=hr2.ext0 QV.elem hEd;obtain⟨bb,hbb⟩:∃bb,wr.heap.size=bb:=⟨_,rfl⟩;rw[hbb]at y1;obtain⟨u0,q0,q0f,hu0⟩:=hC.outer.cell HdR.one i hih;rw[hh0'.out]at hu0;obtain rfl:u0= .slice ai qi ci:=hu0;have hS:Hid (∀Y w',ExtX Y w5.drew w'->(∀k,ob oo k=true->Y k=false)->Y bb=false->w'.cell? (adr oo i)=some (.slice ai qi ci)/\w'.cell? ⟨bb,0,none⟩=some (.bool s5)/\w'.cell? ⟨bb,0+1,none⟩=some (.slice a5 n5 c5)/\w'.cell? ⟨bb,0+2,none⟩=some (.slice d5 m5 e5)):=hid fun Y w' h h1 h2=>by
       have y1':=(y1.ext0 (ExtX.refl w5).drew).ext h h2;refine⟨((ExtX.of hEd).trans h).cellY q0 (h1 _ ?_),y1'.cell 0 rfl,y1'.cell 1 rfl,y1'.cell 2 rfl⟩;obtain⟨b,off,rfl⟩:=hho (by omega);simp[ob,adr]
      have i9:∀W,(Instr.indexAt 25 (.slice oo n n) (.int .i64 (i:Int))).run Tryz.prog W= .ok (.pointer (some (adr oo i))) W:=a0w a0r oo n n .i64 i hho (by omega) rfl;have hXd:HX (un X oo) w5.drew:=hCd.outer.unX (hX.ext (hE.trans hEd));have hXa:HX (un (un X oo) ai) w5.drew:=hrd.unX hXd;have hu6:=mkx QV.mono hu5 hEd;clear kb bx hq2;refine a0O 10 (fun w'=>w'.cell? (adr oo i)=some (.slice ai qi ci)/\w'.cell? ⟨bb,0,none⟩=some (.bool s5)/\w'.cell? ⟨bb,0+1,none⟩=some (.slice a5 n5 c5)/\w'.cell? ⟨bb,0+2,none⟩=some (.slice d5 m5 e5)) (by kernel_rfl) (by kernel_rfl) (hS.out noY _ (ExtX.refl _) (fun _ _=>rfl) rfl) (fun hHeld hOnce=>?_);refine a0a hOnce (i:=0) (oi:=⟨_,_,_,_,_,_⟩) (v:=?_) rfl (by kernel_rfl) (fun _ _ _ h=>h) (by assumption) (by rfl) (fun w hSw=>?_) ?_
      rotate_left
      ·(try dsimp only at hSw)
       go_simp
       all_goals with_reducible rfl
      (try simp only[Act.put,List.setIfInBounds_toArray,List.set_cons_zero,List.set_cons_succ])
      refine a0a hOnce (i:=1) (oi:=⟨_,_,_,_,_,_⟩) (v:=?_) rfl (by kernel_rfl) (fun _ _ _ h=>h) (by assumption) (by rfl) (fun w hSw=>?_) ?_
      rotate_left
      ·(try dsimp only at hSw)
       go_simp
       all_goals with_reducible rfl
      (try simp only[Act.put,List.setIfInBounds_toArray,List.set_cons_zero,List.set_cons_succ])
      refine a0a hOnce (i:=2) (oi:=⟨_,_,_,_,_,_⟩) (v:=?_) rfl (by kernel_rfl) (fun _ _ _ h=>h) (by assumption) (by rfl) (fun w hSw=>?_) ?_
      rotate_left
      ·(try dsimp only at hSw)
       go_simp
       all_goals with_reducible rfl
      (try simp only[Act.put,List.setIfInBounds_toArray,List.set_cons_zero,List.set_cons_succ])
      refine a0a hOnce (i:=3) (oi:=⟨_,_,_,_,_,_⟩) (v:=?_) rfl (by kernel_rfl) (fun _ _ _ h=>h) (by assumption) (by rfl) (fun w hSw=>?_) ?_
      rotate_left
      ·(try dsimp only at hSw)
       go_simp
       all_goals with_reducible rfl
      (try simp only[Act.put,List.setIfInBounds_toArray,List.set_cons_zero,List.set_cons_succ])
      refine a0a hOnce (i:=4) (oi:=⟨_,_,_,_,_,_⟩) (v:=?_) rfl (by kernel_rfl) (fun _ _ _ h=>h) (by assumption) (by rfl) (fun w hSw=>?_) ?_
      rotate_left
      ·(try dsimp only at hSw)
       go_simp
       all_goals with_reducible rfl
      (try simp only[Act.put,List.setIfInBounds_toArray,List.set_cons_zero,List.set_cons_succ])
      refine a0a hOnce (i:=5) (oi:=⟨_,_,_,_,_,_⟩) (v:=?_) rfl (by kernel_rfl) (fun _ _ _ h=>h) (by assumption) (by rfl) (fun w hSw=>?_) ?_
      rotate_left
      ·(try dsimp only at hSw)
       go_simp
       all_goals with_reducible rfl
      (try simp only[Act.put,List.setIfInBounds_toArray,List.set_cons_zero,List.set_cons_succ])
      refine a0a hOnce (i:=6) (oi:=⟨_,_,_,_,_,_⟩) (v:=?_) rfl (by kernel_rfl) (fun _ _ _ h=>h) (by assumption) (by rfl) (fun w hSw=>?_) ?_
      rotate_left
      ·(try dsimp only at hSw)
       go_simp
       all_goals with_reducible rfl
      (try simp only[Act.put,List.setIfInBounds_toArray,List.set_cons_zero,List.set_cons_succ])
      refine a0e (i:=7) (o:=⟨_,_,_,_,_,_⟩) (by kernel_rfl) rfl (fun K hK=>?_);go_simp
      skip
      refine hK.out _ _ (hS.out noY _ ((ExtX.refl _).alloc _) (fun _ _=>rfl) rfl) (fun hHeld=>?_);clear hK K
      (try simp only[Act.put,List.setIfInBounds_toArray,List.set_cons_zero,List.set_cons_succ])
      refine a0e (i:=8) (o:=⟨_,_,_,_,_,_⟩) (by kernel_rfl) rfl (fun K hK=>?_)
      (refine a1W (l:=L) rfl (by rfl) a0B rfl QV.elem (Nat.le_trans (hE.trans hEd).size (Nat.le_refl _)) hXd qi hq'.out rfl rfl hrd (.agg #[.bool s5, .slice a5 n5 c5, .slice d5 m5 e5]) v rfl hu6 (by omega) (by omega) ?_;intro ai2 ci2 w7 hR7 hE7 hor)
      refine hK.out _ _ (hS.out (ob ai) w7 hE7 hsep (by cases hc:ob ai bb;rfl;exact absurd (hob1 bb hc) (by omega))) (fun hHeld=>?_);clear hK K
      (try simp only[Act.put,List.setIfInBounds_toArray,List.set_cons_zero,List.set_cons_succ])
      have hO7:=hCd.outer7 hih (by rw[hai'.out];exact hE7);obtain⟨_,p0,f0,_⟩:=hO7.cell HdR.one i hih;refine a0a hOnce (i:=9) (oi:=⟨_,_,_,_,_,_⟩) (v:=?_) rfl (by kernel_rfl) (fun _ _ _ h=>h) (by assumption) (by rfl) (fun w hSw=>?_) ?_
      rotate_left
      ·(try dsimp only at hSw)
       go_simp
       all_goals with_reducible rfl
      (try simp only[Act.put,List.setIfInBounds_toArray,List.set_cons_zero,List.set_cons_succ])
      refine a0n (i:=10) (o:=⟨_,_,_,_,_,_⟩) (by kernel_rfl) rfl (by decide) (by kernel_rfl) (fun K hK=>?_);go_simp
      refine hK.out _ _ ?_;clear hK K;obtain⟨hO8,hE8⟩:=hO7.set1 a7m HdR.elem HdR.one i hih (.slice ai2 (qi+1) ci2) (ai2,qi+1,ci2) rfl;have hC8:=hCd.push QV.elem (n:=qi+1) hih (by rw[hq'.out]) hR7 (by rw[hai'.out];exact hE7) (by rw[hai'.out];exact hor) hE8 hO8;have hE9:=((hE.trans hEd).own hrd (Nat.le_refl _) hE7).own hO7 (Nat.le_refl _) hE8;rw[<-hyes.out]at hC8;have hl8:(hs.set i (ai2,qi+1,ci2)).length=n:=by rw[List.length_set];exact hhl
      clear p0 f0;go_wp2_with fail
      go_roundw
      case rel=>exact⟨j+1,_,by go_num,by omega,hl8,hC8,hE9⟩
      case measure=>simp[intOf];omega
    ·have hjc:j=c:=by omega
     subst hjc;have hiM:i<M.length:=by rw[hMl.out];exact hlt
     have hC2:=hC.next QV.elem hiM (hMi2.out hiM);go_wp2_with fail
     go_roundw
     case rel=>exact⟨i+1,hs,by go_num,by omega,hhl,hC2,hE⟩
     case measure=>simp[intOf];omega
  ·have hin:i=n:=by omega
   subst hin;have hl:=hMl.out;subst hl;have hm:=hC.mc QV.elem;go_wp2_with fail
   go_ret
   exact⟨hE,_,rfl,hm⟩
end Go.Proofs.YtkddecjkfdogiaaGreat
namespace Go.Lin
open Go.Lim
def a4O (L:List Rat) (i:Nat):List Rat:=L.take i++List.replicate (L.length - i) 0
theorem b0b (L:List Rat):a4O L 0=List.replicate L.length 0:=by simp[a4O]
theorem a7I {L:List Rat} {i:Nat} (h:i<=L.length):(a4O L i).length=L.length:=by simp[a4O];omega
theorem b0c (L:List Rat):a4O L L.length=L:=by simp[a4O]
theorem b1B {L:List Rat} {i:Nat} (h:i<L.length):(a4O L i).set i L[i]=a4O L (i+1):=by
 unfold a4O;rw[List.set_append_right _ _ (by simp;omega),show L.length - i=(L.length - (i+1))+1 by omega,List.replicate_succ,show i - (L.take i).length=0 by simp;omega,List.set_cons_zero,<-List.take_append_getElem h,List.append_assoc];rfl
theorem b3c {u:Mat} {n m i:Nat} (hi:i<u.length) (h:i<(a5b u n m).length):(a5b u n m)[i]=a2l u[i] (a2m (a3G (a2Y u n m) m) u[i]):=a7A hi h
end Go.Lin
namespace Go.Proofs.YtkddecjkfdogiaaGreat
open Go.RowKit Go.Rep Go.Lim Go.Lin
set_option maxRecDepth 100000 in
set_option maxHeartbeats 3200000 in
theorem a7J (X:Nat->Bool) (w:World) (u:Value) (z:Mat) (n m B:Nat) (hX:HX X w) (hu:MV (mk X w) u z) (hsh:Shp n m z) (hn1:1<=n) (hn:n<=8) (hm:m<=4) (hB:BM B z) (hB1:1<=B) (hBB:B<=370) (hns:m≠0->¬a3Y (a2Y z n m) m):
  Calls Tryz.prog 113 #[u] w (a2h X w RC (a5b z n m)):=by
 have hLl:Hid ((a5b z n m).length=n):=hid (by rw[a4x];exact hsh.1);have hLr:=hid fun i (h1:i<z.length) (h:i<(a5b z n m).length)=>b3c h1 h;have hlz:=hid fun(h0:m=0)=>(by subst h0;exact b1k hsh:a5b z n m=List.replicate n 0);have huv:=hid fun w' (h:Ext w w')=>mkx MV.mono hu h;obtain⟨ua,uc,rfl,huc,hus⟩:=hu;have hhu:=hus.hd;rw[hsh.1]at huv hhu huc |-;have hzl:=hid hsh.1;have hrw:=hid hsh.2;have h0:0<z.length:=by rw[hsh.1];exact hn1
 obtain⟨a0,c0,hX0,hc0,hcl0,hq0⟩:=hus.row 0 h0;rw[hsh.2 z[0] (List.getElem_mem _)]at hc0;have hg:=hid fun(h1:1<=m)=>(⟨b2D hsh (by omega) h1 (by omega),b0i hsh hn1,b2D (a2v z n m) (by omega) hn1 (by omega),b0i (a2v z n m) h1,b2D (a1l z n m) (by omega) h1 (by omega),b0i (a1l z n m) h1,b2D (a3g (a1l z n m)) (by omega) h1 (by omega),b0i (a3g (a1l z n m)) h1⟩:a0x z=true/\colsL z=m/\a0x (trL z n m)=true/\colsL (trL z n m)=n/\a0x (a2Y z n m)=true/\colsL (a2Y z n m)=m/\a0x (a3G (a2Y z n m) m)=true/\colsL (a3G (a2Y z n m) m)=m);have hhb:=a6C hB hB1;have htb:BM B (trL z n m):=a7s (b3G hhb);have hgb:=hid (a9q (m:=m) hhb hn hBB);have hib:=hid (b1u (m:=m) hhb hn hm hBB);have hlb:=hid fun r (hr:r∈z)=>b1w (m:=m) hB hn hm hB1 hBB hr;have hl1:=hid (a2v z n m).1;have hl2:=hid (a1l z n m).1;have hl3:=hid (a3g (a1l z n m));have htw:=hid fun(h1:1<=m)=>(a4L (a1s (a1l z n m)) (a9r (a1l z n m) hgb.out) hm (by decide)).1;have htr:=hid fun(h1:1<=m) Z w' (v:Value) (hZ:HX Z w') (h:MV (mk Z w') v z)=>a2q Z w' v z n m hZ h (hg.out h1).1 hsh.1 (hg.out h1).2.1;have hmu:=hid fun(h1:1<=m) Z w' (v u2:Value) (hZ:HX Z w') (ht:MV (mk Z w') v (trL z n m)) (h:MV (mk Z w') u2 z)=>b6h Z w' v u2 (trL z n m) z m n m B hZ ht h (hg.out h1).2.2.1 (hg.out h1).1 hl1.out hsh.1 (hg.out h1).2.2.2.1 (hg.out h1).2.1 htb hB hB1 (by omega);have hin:=hid fun(h1:1<=m) Z w' (v:Value) (hZ:HX Z w') (ht:MV (mk Z w') v (a2Y z n m))=>a9X Z w' v (a2Y z n m) m hZ ht (hg.out h1).2.2.2.2.1 hl2.out (hg.out h1).2.2.2.2.2.1 (htw.out h1);obtain⟨T,hT⟩:∃T,trL z n m=T:=⟨_,rfl⟩;have hgl:a2Y z n m=a5M T z n m:=by rw[<-hT];rfl
 have hgb2:BM 68719476736 (a5M T z n m):=by rw[<-hgl];exact fun r hr q hq=>Nat.le_trans (a7s hgb.out r hr q hq) (by decide)
 rw[hT]at htr hmu htb;rw[hgl]at hin hns hLr hib hlb hl3 hg;obtain⟨G,hG⟩:∃G,a5M T z n m=G:=⟨_,rfl⟩;rw[hG]at hin hns hLr hib hlb hl3 hg hgb2 hmu;obtain⟨I,hI⟩:∃I,a3G G m=I:=⟨_,rfl⟩;rw[hI]at hLr hib hlb hl3 hg;unfold b3R at hin;rw[hI]at hin;have hap:=hid fun(Z:Nat->Bool) w' (v t:Value) (r:List Rat) (h1:1<=m) (hXw:HX Z w') (h2:MV (mk Z w') v I) (h3:RV (mk Z w') t r) (h4:r.length=m) (h5:BR B r)=>a9g Z w' v t I r 8000000 hXw h2 h3 (hg.out h1).2.2.2.2.2.2.1 (by rw[h4,(hg.out h1).2.2.2.2.2.2.2]) hib.out (fun q hq=>Nat.le_trans (h5 q hq) (by omega)) (by decide) (by decide);have hdo:=hid fun(Z:Nat->Bool) w' (v t:Value) (r:List Rat) (hXw:HX Z w') (h2:RV (mk Z w') v r) (h3:RV (mk Z w') t (a2m I r)) (h4:r.length=m) (h5:r∈z) (h6:(a2m I r).length=r.length)=>a5l Z w' v t r (a2m I r) hXw h2 h3 (by omega) h6 (a2j (B:=33000000) (fun q hq=>Nat.le_trans (hB r h5 q hq) (by omega)) (hlb.out r h5) (by decide) (by omega) (by decide)).1 (a2j (B:=33000000) (fun q hq=>Nat.le_trans (hB r h5 q hq) (by omega)) (hlb.out r h5) (by decide) (by omega) (by decide)).2;have hdq:=hid fun r (h5:r∈z) (h4:r.length=m)=>(Nat.le_trans (a7D h4 (hB r h5) (hlb.out r h5) hB1 (by decide)) (by have:=Nat.mul_le_mul hm (show B+33000000+1<=33000371 by omega);omega):hq (a2l r (a2m I r))<=68719476736);have hIb:BM 68719476736 I:=fun r hr q hq=>Nat.le_trans (hib.out r hr q hq) (by decide);have hTb:BM 68719476736 T:=fun r hr q hq=>Nat.le_trans (htb r hr q hq) (by omega);obtain⟨L,hL⟩:∃L,a5b z n m=L:=⟨_,rfl⟩;rw[hL]at hLl hLr hlz |-;have hLz:Hid (a4O L 0=List.replicate n 0):=hid (by rw[b0b,hLl.out]);have hBm:=hid hB;clear hT hgl hG hI hL htb hhb hgb hB hsh hq0 hcl0 h0;go_enter Tryz.func113,Tryz.ntmps113
 go_wp2_with ((with_reducible show wpList _ _ _ (⟨_, .makeSlice _ _ _,_,_,_,_⟩::_) _ _);refine a2i (R:=QC) a0B QC.elem (0:Rat) (fun _=>QC.zero _) X hX w.heap.size (Nat.le_refl _) n rfl rfl rfl (by omega) (by omega) ?_;intro oo w1 hO1 hE1)
 rw[<-hLz.out]at hO1;have hX1:=hX.ext hE1;have k00:=hc0.out noY w1 hE1 rfl;have hI0:(0:Int)<=0/\(0:Int)<(n:Int):=by omega
 by_cases hm0:m=0
 ·have ht:((m:Int)==0)=true:=a7i (by omega)
  have hz:=hlz.out hm0;rw[hLz.out,<-hz]at hO1;have hc:=hO1.lenCap;have hs:=hO1.sl QC.elem;rw[hLl.out]at hc;clear hlz hz hm0 hI0 htr hmu hin hap hdo hdq;go_wp2_with (with_reducible refine a0t a0r (by omega) (by assumption) ?_)
  go_ret
  exact⟨hE1,_,rfl,oo,n,by rw[hLl.out];rfl,by rw[hLl.out];exact hc,hs⟩
 ·have ht:((m:Int)==0)=false:=a3t (by omega)
  have h1:1<=m:=by omega
  have hXu1:HX (un X oo) w1:=hO1.unX hX1;have hzu:Hid (∀w',Ext w1 w'->MV (mk (un X oo) w') (.slice ua n uc) z):=hid fun w' h=>mkx MV.mono ⟨ua,uc,by rw[hzl.out],by rw[hzl.out];exact huc,hus.old RV.mono hE1 (fun j hj=>hO1.ob_lt hj)⟩ h;have htr1:=htr.out h1 (un X oo) w1 _ hXu1 (hzu.out w1 (ExtX.refl _));have hns:=hns hm0;clear hlz htr hm0;go_wp2_with (with_reducible refine a0t a0r (by omega) (by assumption) ?_)
  refine htr1.mono ?_;rintro e w2 ⟨hE2,tv,rfl,htv⟩;have hmu2:=hmu.out h1 (un X oo) w2 tv _ (hXu1.ext hE2) (htv.mv hTb) (hzu.out w2 hE2);obtain⟨tvo,tc,rfl,_,_⟩:=htv;clear htr1 k00;go_wp2_with fail
  refine hmu2.mono ?_;rintro e w3 ⟨hE3,gv,rfl,hgv⟩;have hin3:=hin.out h1 (un X oo) w3 gv (hXu1.ext (hE2.trans hE3)) (hgv.mv hgb2);clear hmu2;go_wp2_with fail
  refine hin3.mono ?_;rintro e w4 ⟨hE4,hor⟩;rcases hor with⟨hsg,_⟩|⟨_,iv,rfl,hiv⟩
  ·exact absurd hsg hns
  have hE14:=hE2.trans (hE3.trans hE4);have hO4:=hO1.ext0 QC.elem hE14;have hiu:=hiv.mv hIb;have hE04:=hE1.trans hE14;have hX4:=hX.ext hE04;clear hI0 hin3 hmu hin hO1 hiv hzu;obtain⟨ivo,ivc,rfl,hivc,hivs⟩:=hiu;rw[hl3.out.1]at hivc |-;have hiw:MV (mk (un X oo) w4) (.slice ivo m ivc) I:=⟨ivo,ivc,by rw[hl3.out.1],by rw[hl3.out.1];exact hivc,hivs⟩;go_wp2_with fail
  go_loopw [41] (fun k wr=>∃(i:Nat),k= .int .i64 i/\i<=n/\OL QC 3 X w.heap.size 32 wr oo n (a4O L i)/\ExtX (ob oo) w4 wr/\Ext w wr) (fun k _=>n - (intOf k).toNat)
  case atStart=>exact⟨0,rfl,Nat.zero_le _,hO4,ExtX.refl _,hE04⟩
  case round=>
   obtain⟨i,rfl,hi,hO,hEo,hE0r⟩:=hrel;clear hO4;have hXr:HX X wr:=hX.ext hE0r;by_cases hlt:i<n
   ·have hiz:i<z.length:=by rw[hzl.out];exact hlt
    have hiL:i<L.length:=by rw[hLl.out];exact hlt
    have hXu:HX (un X oo) wr:=hO.unX hXr;have hsr:Sl RV 1 (mk (un X oo) wr) ua z:=hus.old RV.mono hE0r (fun j hj=>hO.ob_lt hj);obtain⟨a1,c1,hX1',hc1,hcl1,hq1⟩:=hsr.row i hiz;have k00:=hc1.out noY wr (ExtX.refl _) rfl;have hrl:=hrw.out z[i] (List.getElem_mem _);have hLi:=hLr.out i hiz hiL;have hzm:=List.getElem_mem hiz;have hrV:RV (mk (un X oo) wr) (.slice a1 m c1) z[i]:=⟨a1,c1,by rw[hrl],hcl1,hq1⟩;have hap1:=hap.out (un X oo) wr _ _ z[i] h1 hXu (MV.mono _ _ _ _ (a0W hEo fun k hk=>a0s hk) hiw) hrV hrl (hBm.out z[i] hzm);have hdo1:=hid fun w' (v t:Value) (hX':HX (un X oo) w') (h2:RV (mk (un X oo) w') v z[i]) (h3:RV (mk (un X oo) w') t (a2m I z[i]))=>hdo.out (un X oo) w' v t z[i] hX' h2 h3 hrl hzm (by rw[a5i,hl3.out.1,hrl]);have hdq1:=hid (hdq.out z[i] hzm hrl);have hfs:=hid (b1B hiL);rw[hLi]at hfs;rw[hrl]at k00;have hfl:i<(a4O L i).length:=by rw[a7I (by omega)];exact hiL
    have hho:Hd oo n:=by have:=hO.hd;rw[a7I (by omega),hLl.out]at this;exact this
    have hlnb:Hid (BR 68719476736 (a2m I z[i])):=hid fun q hq=>Nat.le_trans (hlb.out z[i] hzm q hq) (by decide);have hlnl:Hid ((a2m I z[i]).length=m):=hid (by rw[a5i];exact hl3.out.1);obtain⟨v,hv⟩:∃v,a2l z[i] (a2m I z[i])=v:=⟨_,rfl⟩;rw[hv]at hdo1 hfs;obtain⟨ln,hln⟩:∃ln,a2m I z[i]=ln:=⟨_,rfl⟩;rw[hln]at hap1 hdo1 hlnb hlnl;obtain⟨r,hr⟩:∃r,z[i]=r:=⟨_,rfl⟩;rw[hr]at hrV hdo1;clear hv hln hr hc1 hrl hLi hq1 hcl1 hdq1;go_wp2_with (with_reducible refine a0t a0r (by omega) (by assumption) ?_)
    refine hap1.mono ?_;rintro e w6 ⟨hE6,lv,rfl,hlv⟩;have hX6:=hXu.ext hE6;have hrV6:=mkx RV.mono hrV hE6;have hO6:=hO.ext0 QC.elem hE6;have hd6:=hdo1.out w6 _ lv hX6 hrV6 (hlv.rv hlnb.out);obtain⟨lo,lc,rfl,_,_⟩:=hlv;rw[hlnl.out]at hd6 |-;clear hap1 k00;go_wp2_with fail
    refine hd6.mono ?_;rintro e w7 ⟨hE7,u7,rfl,hu7⟩;obtain⟨s7,a7,n7,c7,d7,k7,e7,rfl⟩:=hu7.shape;have hO7:=hO6.ext0 QC.elem hE7;clear hd6;go_wp2_with (first|(with_reducible refine a2B a0B (by omega) (by assumption) ?_)|((with_reducible show wpList _ _ _ (⟨_, .store 32 _ _,_,_,_,_⟩::_) _ _);refine a3c a6z QC.elem i rfl (by simp) hO7 hfl (.agg #[.bool s7, .slice a7 n7 c7, .slice d7 k7 e7]) v rfl hu7 ?_;intro w8 hO8 hE8))
    rw[hfs.out]at hO8;have hE9:=(hE0r.trans (hE6.trans hE7)).own hO7 (Nat.le_refl _) hE8;have hEo9:=(hEo.trans (ExtX.of (hE6.trans hE7))).trans hE8;go_roundw
    case rel=>exact⟨i+1,by go_num,by omega,hO8,hEo9,hE9⟩
    case measure=>simp[intOf];omega
   ·have hin:i=n:=by omega
    subst hin;have hff:a4O L i=L:=by rw[<-hLl.out];exact b0c L
    rw[hff]at hO;have hc:=hO.lenCap;have hs:=hO.sl QC.elem;go_wp2_with fail
    go_ret
    exact⟨hE0r,_,rfl,oo,i,by rw[hLl.out];rfl,hc,hs⟩
end Go.Proofs.YtkddecjkfdogiaaGreat
namespace Go.Lin
open Go.Lim Go.Rep
noncomputable def b3d (x:Mat) (y:List Rat) (n c:Nat):Fit:=⟨(a1a x c).2.length,usedL (a1a x c).2 c,a0G x y n c,a2k x y (a0G x y n c),a2l (a2k x y (a0G x y n c)) (a2k x y (a0G x y n c)),a5b (pkL x (a1a x c).2) n (a1a x c).2.length⟩
theorem a9t {x:Mat} {y:List Rat} {n c:Nat} (hs:Shp n c x) (hn:n<=8) (hc1:1<=c) (hc:c<=4):
  a5G (gmM x y c n)=true/\(gmM x y c n).xx.length=c/\c∉(fmS (gmM x y c n)).2/\fmC (gmM x y c n)=a0G x y n c/\a7n (gmM x y c n).xx c=(a1a x c).2.length:=by
 have h1:(gmM x y c n).xx.length=c:=(a2G x n c).1;have h2:fmS (gmM x y c n)=lsS x y n c:=by unfold fmS lsS;rw[h1];rfl
 have h3:fmC (gmM x y c n)=a0G x y n c:=by unfold fmC a0G;rw[h2,h1]
 have h4:colsL (gmM x y c n).xx=c:=b0i (a2G x n c) hc1;refine⟨?_,h1,by rw[h2];exact(a4J hs).1,h3,by rw[a7o];exact congrArg List.length (b6k hs)⟩;unfold a5G;rw[h1,h4,show a0x (gmM x y c n).xx=true from b2D (a2G x n c) (by omega) hc1 (by omega),show(gmM x y c n).xy.length=c from a8h x y n c];simp only[Bool.true_and,Bool.and_eq_true,decide_eq_true_eq];exact⟨⟨by show(0:Int)<=(n:Int);omega,by show(n:Int)<=1099511627776;omega⟩,trivial,trivial,by omega⟩
end Go.Lin
namespace Go.Proofs.YtkddecjkfdogiaaGreat
open Go.RowKit Go.Rep Go.Lim Go.Lin
theorem b3e:(Tryz.prog.info? 61).map (fun i=>(i.zero,i.size,i.bytes))=some (some (.slice none 0 0),1,24):=by kernel_rfl
theorem b5e:TyI Tryz.prog 61 1:=let ⟨i,h,_,h2,_⟩:=info_parts b3e;⟨i,h,h2⟩
theorem a8r {P:Program} {ops:Array Oper} {Q:Exit->Act->World->Prop} {rest:List Oper} {a:Act} {w:World} {d:Option Tmp} {ty:TypeId} {ps:String} {af:Array Edge} {t:TypeId} {x y:Operand} {n b o:Nat} {cs vs:Array Value} {T:TypeId} (hT:a1R P t n) (hx:a.eval x= .pointer (some ⟨b,o,none⟩)) (hy:a.eval y= .agg vs) (hb:Bx w b cs T) (hcs:o+n<=cs.size) (hvs:vs.size=n) (hone:∀v∈vs.toList,v.oneCell'=true)
  (K:∀w',Bx w' b (cs.toList.take o++vs.toList++cs.toList.drop (o+n)).toArray T->ExtX (ob (some ⟨b,0,none⟩)) w w'->wpList P ops Q rest (a.put d undef) w'):
  wpList P ops Q (⟨d, .store t x y,ty,ps,af,none⟩::rest) a w:=by
 refine wpList_plain rfl fun K' hK'=>?_;obtain⟨fs,ti,h1,h2,h3⟩:=hT;have hst:=run_storeCells_at P b o T vs.toList 0 cs w hb (by simp[hvs];omega) hone;have hr:(storeVar t ⟨b,o,none⟩ (.agg vs)).run P w= .ok () (w.setRow b (cs.toList.take (o+0)++vs.toList++cs.toList.drop (o+0+vs.toList.length)).toArray):=by
  simp[storeVar,sizeOf,typeInfo,h2,h3,Value.cells,hvs];simp only[Nat.add_zero,Array.length_toList,hvs,List.append_assoc]at hst |-;exact hst
 unfold Oper.wp;simp[execOp,hx,hy,Instr.storeAt,Instr.sureAddr,hr,Result.andThen];refine hK' _ _ (K _ ?_ ?_)
 ·unfold Bx
  have:=setRow_heap w b cs (cs.toList.take (o+0)++vs.toList++cs.toList.drop (o+0+vs.toList.length)).toArray T (0,0) hb;simp only[Nat.add_zero,Array.length_toList,hvs,List.append_assoc]at this |-;exact this
 ·exact⟨rfl,rfl,rfl,by simp,fun k _ hk=>setRow_other w b k _ (fun ek=>by subst ek;simp[ob]at hk)⟩
def b1C (X:Nat->Bool) (w:World) (f:Fit) (e:Ending) (w':World):Prop:=Ext w w'/\∃u,e= .returned (.tuple #[u, .int .i64 0])/\b6D (mk X w') u f
set_option maxRecDepth 100000 in
set_option maxHeartbeats 6400000 in
theorem a5H (X:Nat->Bool) (w:World) (u t:Value) (x:Mat) (y:List Rat) (n c B:Nat) (hX:HX X w) (hu:MV (mk X w) u x) (ht:RV (mk X w) t y) (hok:a7Q x y=true) (hnx:x.length=n) (hcx:colsL x=c) (hn:n<=8) (hc:c<=4) (hxB:BM B x) (hyB:BR B y) (hB1:1<=B) (hB:B<=370):
  Calls Tryz.prog 39 #[u,t] w (b1C X w (b3d x y n c)):=by
 obtain⟨W,hW,hE,b0,hz⟩:=a1w w #[.int .i64 0, .slice none 0 0, .slice none 0 0, .slice none 0 0, .bool false, .slice none 0 0, .slice none 0 0, .slice none 0 0] 63;have hXW:HX (a0g X w.heap.size 1) W:=hX.boxes hz;have hle:Hid (∀w',Ext W w'->Le (mk X w) (mk (a0g X w.heap.size 1) w')):=hid fun w' h=>a0p (hE.trans h);obtain⟨b,hb⟩:∃b,w.heap.size=b:=⟨_,rfl⟩;rw[hb]at b0 hz hXW hle;have hbw:w.heap.size<=b:=by omega
 obtain⟨Z0,hZ0⟩:∃Z0,a0g X b 1=Z0:=⟨_,rfl⟩;rw[hZ0]at hXW hle;obtain⟨hf,h1,h64,h12,hyl⟩:=a2g.1 hok;obtain⟨hsh,h96,_,hpos,_⟩:=a0M hf;rw[hnx]at h1;have hc1:=hpos (by omega);rw[hcx]at hc1;have hsh':=hsh;rw[hnx,hcx]at hsh;rw[hnx]at hyl;have huW:=hid fun w' (h:Ext W w')=>MV.mono _ _ _ _ (hle.out w' h) hu;have htW:=hid fun w' (h:Ext W w')=>RV.mono _ _ _ _ (hle.out w' h) ht;have hga:=a4M Z0 W u t x y n c B hXW (huW.out W (ExtX.refl _)) (htW.out W (ExtX.refl _)) hok hnx hcx hn hc hxB hyB hB1 hB;obtain⟨f1,f2,f3,f4,f5⟩:=a9t (y:=y) hsh hn hc1 hc;have hhb:=a6C hxB hB1;have hT:=a9Q hsh hhb hc (by omega);obtain⟨_,hg,_,_⟩:=a0U hsh;have hrb:BM 68719476736 (a1a x c).1:=by
  obtain⟨B',hb6,hbj⟩:=hT.2;rw[(b3r hsh).1];exact fun r hr q hq=>Nat.le_trans (a7s (hbj c (Nat.le_refl _)).1 r hr q hq) (by omega)
 have hcb:=a8l (c:=c) hhb hyB hn hc hB;have hrsb:=a8m hsh hxB hyB hcb hB1 hc hB;have hresl:(a2k x y (a0G x y n c)).length=n:=by rw[a2o (by rw[hyl,hnx])];exact hnx
 have hp4:=Nat.le_trans (b3M hsh) hc;have hbmM:BMo 5929 (gmM x y c n):=⟨a7s (a9o hhb hn hB),a9p hhb hyB hn hB,Nat.le_trans (a9R (B:=2*B) fun r _=>Nat.le_trans (hq_mul _ _) (by have:=b2T hyB hB1 r;omega)) (a4y hn hB)⟩;have hal:=hid fun Z w' (hZ:HX Z w') (h:MV (mk Z w') u x)=>b1y Z w' u x n c hZ h hf hnx hcx h1 hT.1 hrb;have hfm:=hid fun Z w' (v:Value) (hZ:HX Z w') (h:a5f (mk Z w') v (gmM x y c n))=>a7H Z w' v (gmM x y c n) hZ (h.mv ⟨fun r hr q hq=>Nat.le_trans (hbmM.1 r hr q hq) (by decide),fun q hq=>Nat.le_trans (hbmM.2.1 q hq) (by decide),Nat.le_trans hbmM.2.2 (by decide)⟩) (by rw[f2];exact hc) hbmM;have hrs:=hid fun Z w' (v:Value) (hZ:HX Z w') (h:MV (mk Z w') u x) (h2:RV (mk Z w') t y) (h3:RV (mk Z w') v (a0G x y n c))=>b3b Z w' u t v x y (a0G x y n c) n c 8000000 hZ h h2 h3 hsh hyl (a1O _ _ _ _) (by omega) (by omega) (fun r hr q hq=>Nat.le_trans (hxB r hr q hq) (by omega)) hcb (by decide) (by decide);have hdb:=a2j (l:=a2k x y (a0G x y n c)) (m:=a2k x y (a0G x y n c)) hrsb hrsb (by decide) (by rw[hresl];omega) (by decide);have hdo:=hid fun Z w' (v:Value) (hZ:HX Z w') (h:RV (mk Z w') v (a2k x y (a0G x y n c)))=>a5l Z w' v v _ _ hZ h h (by rw[hresl];omega) rfl hdb.1 hdb.2;have hch:=hid fun Z w' (uo:Option Addr) (uc:Nat) (hZ:HX Z w') (h:MV (mk Z w') u x) (h2:Sl BlR 1 (mk Z w') uo (usedL (a1a x c).2 c))=>b0a Z w' u uo uc x (a1a x c).2 n c hZ h h2 hsh (by omega) (by omega) hg.pw (fun j hj=>by obtain⟨k,hk,rfl⟩:=List.getElem_of_mem hj;exact hg.lt k hk) (fun r hr q hq=>Nat.le_trans (hxB r hr q hq) (by omega));have hlv:=hid fun Z w' (v:Value) (hZ:HX Z w') (h:MV (mk Z w') v (pkL x (a1a x c).2))=>a7J Z w' v (pkL x (a1a x c).2) n (a1a x c).2.length B hZ h (b1j hsh _) h1 hn hp4 (b3P hxB hB1) hB1 hB (fun _=>(b4P hsh hp4).1);have hcbv:Hid (BR 68719476736 (a0G x y n c)):=hid fun q hq=>Nat.le_trans (hcb q hq) (by decide);have hrbv:Hid (BR 68719476736 (a2k x y (a0G x y n c))):=hid fun q hq=>Nat.le_trans (hrsb q hq) (by decide);have hcl:=hid (a1O x y n c);have hrl:=hid hresl;have hfd:=hid (show b3d x y n c=⟨(a1a x c).2.length,usedL (a1a x c).2 c,a0G x y n c,a2k x y (a0G x y n c),a2l (a2k x y (a0G x y n c)) (a2k x y (a0G x y n c)),a5b (pkL x (a1a x c).2) n (a1a x c).2.length⟩from rfl);unfold a9Z at hfm;rw[f1,f2,f4,f5]at hfm;obtain⟨Fi,hFi⟩:∃Fi,b3d x y n c=Fi:=⟨_,rfl⟩;rw[hFi]at hfd |-;have hul:=hid (a2Z (a1a x c).2 c);obtain⟨Cf,hCf⟩:∃Cf,a0G x y n c=Cf:=⟨_,rfl⟩;rw[hCf]at hfm hrs hdo hcbv hrbv hcl hrl hfd;obtain⟨Rs,hRs⟩:∃Rs,a2k x y Cf=Rs:=⟨_,rfl⟩;rw[hRs]at hrs hdo hrbv hrl hfd;obtain⟨Us,hUs⟩:∃Us,usedL (a1a x c).2 c=Us:=⟨_,rfl⟩;unfold b6u at hal;rw[hUs]at hch hfd hal hul;obtain⟨p,hp⟩:∃p,(a1a x c).2=p:=⟨_,rfl⟩;rw[hp]at hch hfd hlv hfm;obtain⟨pl,hpl⟩:∃pl,p.length=pl:=⟨_,rfl⟩;rw[hpl]at hfd hlv hfm;obtain⟨M,hM⟩:∃M,gmM x y c n=M:=⟨_,rfl⟩;rw[hM]at hga hfm f3;clear hok hf h64 h12 hpos hsh hsh' f1 f2 f4 f5 hhb hT hg hrb hcb hrsb hresl hp4 hbmM hdb hFi hCf hRs hUs hp hpl hM hnx hcx hyl hu ht h96;have hfin:Hid (∀w' uo uc co cc ro rc (s:Bool) a n' c' d k e lo lc,Ext w w'->c<=uc->Sl BlR 1 (mk X w') uo Us->RC (mk X w') (.slice co c cc) Cf->RC (mk X w') (.slice ro n rc) Rs->QC (mk X w') (.agg #[.bool s, .slice a n' c', .slice d k e]) (a2l Rs Rs)->∀ll,RC (mk X w') (.slice lo ll lc) (a5b (pkL x p) n pl)->b1C X w Fi (.returned (.tuple #[.agg #[.int .i64 (pl:Int), .slice uo c uc, .slice co c cc, .slice ro n rc, .bool s, .slice a n' c', .slice d k e, .slice lo ll lc], .int .i64 0])) w'):=hid fun w' uo uc co cc ro rc s a n' c' d k e lo lc h0 h1 h2 h3 h4 h5 ll h6=>by
  rw[hfd.out];exact⟨h0,_,rfl,uo,uc,co,c,cc,ro,n,rc,s,a,n',c',d,k,e,lo,ll,lc,by rw[hul.out],by rw[hul.out];exact h1,h2,h3,h4,h5,h6⟩
 obtain⟨F,hF⟩:∃F,b1C X w Fi=F:=⟨_,rfl⟩;rw[hF]at hfin |-;have hXZ0:Hid (∀k,X k=true->Z0 k=true):=hid fun k hk=>by rw[<-hZ0];simp[a0g,hk]
 have hb0:Hid (∀k,ob (some ⟨b,0,none⟩) k=true->Z0 k=true):=hid fun k hk=>by
  have hk2:b=k:=by simpa[ob]using hk
  rw[<-hZ0];exact a6y (by omega) (by omega)
 clear hF hfd hul hZ0;go_enter Tryz.func39,Tryz.ntmps39
 go_wp2_with fail
 refine hga.mono ?_;rintro ee w1 ⟨hE1,mv,rfl,hmv⟩;obtain⟨xo,xl,xc,yo,yl,yc,s,a,n',c',d,k,e,rfl,q1,q2,q3⟩:=hmv;have hmv:a5f (mk Z0 w1) _ M:=⟨xo,xl,xc,yo,yl,yc,s,a,n',c',d,k,e,rfl,q1,q2,q3⟩;have bm:=Bx.new w1 #[.int .i64 0, .slice none 0 0, .slice none 0 0, .bool false, .slice none 0 0, .slice none 0 0] 83;clear q1 q2 q3 hga;go_wp2_with (first
  |((with_reducible show wpList _ _ _ (⟨_, .store 83 _ _,_,_,_,_⟩::_) _ _);refine a0c a3l rfl rfl bm rfl rfl (by intro v hv;simp at hv;rcases hv with rfl|rfl|rfl|rfl|rfl|rfl<;>rfl) ?_;intro w2 m1 m2;have bf:=Bx.new w2 #[.int .i64 0, .slice none 0 0, .slice none 0 0, .slice none 0 0, .bool false, .slice none 0 0, .slice none 0 0, .slice none 0 0] 63)
  |((with_reducible show wpList _ _ _ (⟨_, .store 63 _ _,_,_,_,_⟩::_) _ _);refine a0c a7C rfl rfl bf rfl rfl (by intro v hv;simp at hv;rcases hv with rfl|rfl|rfl|rfl|rfl|rfl|rfl|rfl<;>rfl) ?_;intro w3 v1 v2))
 obtain⟨g,hg⟩:∃g,w1.heap.size=g:=⟨_,rfl⟩;have hgw:w1.heap.size<=g:=by omega
 have zG:(w1.alloc (.cells #[.int .i64 0, .slice none 0 0, .slice none 0 0, .bool false, .slice none 0 0, .slice none 0 0] 83)).heap.size=g+1:=by rw[<-hg];simp
 have eG:Ext w1 (w1.alloc (.cells #[.int .i64 0, .slice none 0 0, .slice none 0 0, .bool false, .slice none 0 0, .slice none 0 0] 83)):=(ExtX.refl _).alloc _;rw[hg]at m1 m2 |-;have hE2:Ext w1 w2:=ExtX.box eG m2 hgw;have hg2:g<w2.heap.size:=by have:=m2.size;omega
 obtain⟨h,hh⟩:∃h,w2.heap.size=h:=⟨_,rfl⟩;have zH:(w2.alloc (.cells #[.int .i64 0, .slice none 0 0, .slice none 0 0, .slice none 0 0, .bool false, .slice none 0 0, .slice none 0 0, .slice none 0 0] 63)).heap.size=h+1:=by rw[<-hh];simp
 have eH:Ext w2 (w2.alloc (.cells #[.int .i64 0, .slice none 0 0, .slice none 0 0, .slice none 0 0, .bool false, .slice none 0 0, .slice none 0 0, .slice none 0 0] 63)):=(ExtX.refl _).alloc _;rw[hh]at v1 v2 hg2 |-;have hgh:w1.heap.size<=h:=by omega
 have hE3:Ext w1 w3:=ExtX.box (hE2.trans eH) v2 hgh;have hh3:h<w3.heap.size:=by have:=v2.size;omega
 have m3:=(m1.ext0 eH).ext v2 (a0d (by omega));obtain⟨Z,hZ⟩:∃Z,un Z0 (some ⟨h,0,none⟩)=Z:=⟨_,rfl⟩;have hX3:HX Z w3:=by rw[<-hZ];exact a1I (hXW.ext (hE1.trans hE3)) hh3
 have hZb:Hid (∀k,ob (some ⟨h,0,none⟩) k=true->Z k=true):=hid fun k hk=>by rw[<-hZ];simp[un,hk]
 have hZ0:Hid (∀k,Z0 k=true->Z k=true):=hid fun k hk=>by rw[<-hZ];simp[un,hk]
 have hnx:Hid (∀a b,ExtX (ob (some ⟨h,0,none⟩)) a b->Le (mk Z a) (mk Z b)):=hid fun a b hab=>a4K hab hZb.out fun _ hk=>hk;have huZ:=hid fun w' (hw:Ext w1 w')=>MV.mono _ _ _ _ (hZ▸a1P hw hgh:Le (mk Z0 w1) (mk Z w')) (huW.out w1 hE1);have htZ:=hid fun w' (hw:Ext w1 w')=>RV.mono _ _ _ _ (hZ▸a1P hw hgh:Le (mk Z0 w1) (mk Z w')) (htW.out w1 hE1);have hmZ:=hid fun w' (hw:Ext w1 w')=>a5f.mono _ _ _ _ (hZ▸a1P hw hgh:Le (mk Z0 w1) (mk Z w')) hmv;have hxg:=hid fun w' (hw:w3.heap.size<=w'.heap.size)=>(fun k hk=>Nat.lt_of_lt_of_le (hX3 k hk) hw:HX Z w');have ha3:=hal.out Z w3 hX3 (huZ.out w3 hE3);clear hal hmv huW htW hZ zG zH eG eH bm bf m1 m2 v2 hE2;go_wp2_with fail
 refine ha3.mono ?_;rintro ee w4 ⟨e4,uo,uc,uv,rfl,huc,hus⟩;have v4:=v1.ext0 e4;have m4:=m3.ext0 e4;have hE4:=hE3.trans e4;have s4:=e4.size;clear ha3 v1 m3;go_wp2_with ((show wpList _ _ _ (⟨_, .store _ _ _,_,_,_,_⟩::_) _ _);refine a1Y (v:= .slice uo c uc) b5e rfl rfl rfl rfl v4 (by decide) ?_;intro w5 v5 x5;have m5:=m4.ext x5 (a0d (by omega));have q0:=m5.cell 0 rfl;have q1:=m5.cell 1 rfl;have q2:=m5.cell 2 rfl;have q3:=m5.cell 3 rfl;have q4:=m5.cell 4 rfl;have q5:=m5.cell 5 rfl)
 have hE5:=ExtX.box hE4 x5 hgh;have hus:=hus.mono BlR.mono (hnx.out _ _ x5);have hf5:=hfm.out Z w5 _ (hxg.out w5 (Nat.le_trans s4 x5.size)) (hmZ.out w5 hE5);have s5:=Nat.le_trans s4 x5.size;clear hfm q0 q1 q2 q3 q4 q5 m4 m5 v4 hmZ e4 s4 hE4;refine hf5.mono ?_;rintro ee w6 ⟨e6,cv,cu,ck,cc0,rfl,hor⟩;rcases hor with⟨hbad,_⟩|⟨_,hbad,_⟩|⟨_,_,rfl,rfl,hcv,_⟩
 ·simp at hbad
 ·exact absurd hbad f3
 have v6:=v5.ext0 e6;have hE6:=hE5.trans e6;have s6:=Nat.le_trans s5 e6.size;have hus:=hus.mono BlR.mono (hnx.out _ _ (ExtX.of e6));have hcv':=hid hcv;obtain⟨co,cc,rfl,hcc,hcs⟩:=hcv;rw[hcl.out]at hcv' hcc |-;clear hf5 f3 v5 e6 s5 hE5 x5 hcs hcl;go_wp2_with ((show wpList _ _ _ (⟨_, .store _ _ _,_,_,_,_⟩::_) _ _);first
  |(refine a1Y (v:= .slice co c cc) a9n rfl rfl rfl rfl v6 (by simp) ?_;intro w7 v7 x7)
  |(refine a1Y (v:= .int .i64 (pl:Int)) b4l rfl rfl rfl rfl v7 (by simp) ?_;intro w8 v8 x8;have q2:=v8.cell 2 rfl))
 have w68:=x7.trans x8;have hE8:=ExtX.box (ExtX.box hE6 x7 hgh) x8 hgh;have s8:=Nat.le_trans s6 w68.size;have hus:=hus.mono BlR.mono (hnx.out _ _ w68);have hcv8:=RC.mono _ _ _ _ (hnx.out _ _ w68) hcv'.out;have hr8:=hrs.out Z w8 _ (hxg.out w8 s8) (huZ.out w8 hE8) (htZ.out w8 hE8) (hcv8.rv hcbv.out);clear hrs htZ hcv' x7 x8 v6 v7 w68 hcbv s6 hE6;go_wp2_with fail
 refine hr8.mono ?_;rintro ee w9 ⟨e9,rv,rfl,hrv⟩;have v9:=v8.ext0 e9;have hE9:=hE8.trans e9;have s9:=Nat.le_trans s8 e9.size;have hus:=hus.mono BlR.mono (hnx.out _ _ (ExtX.of e9));have hcv9:=RC.mono _ _ _ _ (hnx.out _ _ (ExtX.of e9)) hcv8;have hrv':=hid hrv;obtain⟨ro,rc,rfl,hrc,hrs⟩:=hrv;rw[hrl.out]at hrv' hrc |-;clear q2 hr8 v8 e9 s8 hE8 hrs hrl hcv8;go_wp2_with ((show wpList _ _ _ (⟨_, .store _ _ _,_,_,_,_⟩::_) _ _);refine a1Y (v:= .slice ro n rc) a9n rfl rfl rfl rfl v9 (by simp) ?_;intro wa va xa;have q3:=va.cell 3 rfl)
 have hEa:=ExtX.box hE9 xa hgh;have sa:=Nat.le_trans s9 xa.size;have hus:=hus.mono BlR.mono (hnx.out _ _ xa);have hcva:=RC.mono _ _ _ _ (hnx.out _ _ xa) hcv9;have hrva:=RC.mono _ _ _ _ (hnx.out _ _ xa) hrv'.out;have hda:=hdo.out Z wa _ (hxg.out wa sa) (hrva.rv hrbv.out);clear hdo v9 xa s9 hE9 hrv' hcv9 hrbv;refine hda.mono ?_;rintro ee wb ⟨eb,dv,rfl,hdv⟩;have hdv':=hid hdv;obtain⟨s',a',n'',c'',d',k',e',rfl⟩:=hdv.shape;have vb:=va.ext0 eb;have hEb:=hEa.trans eb;have sb:=Nat.le_trans sa eb.size;have hus:=hus.mono BlR.mono (hnx.out _ _ (ExtX.of eb));have hcvb:=RC.mono _ _ _ _ (hnx.out _ _ (ExtX.of eb)) hcva;have hrvb:=RC.mono _ _ _ _ (hnx.out _ _ (ExtX.of eb)) hrva;clear q3 hda va eb sa hEa hdv hcva hrva;go_wp2_with ((show wpList _ _ _ (⟨_, .store _ _ _,_,_,_,_⟩::_) _ _);refine a8r a0v rfl rfl vb (by simp) rfl (by intro v hv;simp at hv;rcases hv with rfl|rfl|rfl<;>rfl) ?_;intro wc vc xc';have q1:=vc.cell 1 rfl)
 have hEc:=ExtX.box hEb xc' hgh;have sc:=Nat.le_trans sb xc'.size;have hus:=hus.mono BlR.mono (hnx.out _ _ xc');have hcvc:=RC.mono _ _ _ _ (hnx.out _ _ xc') hcvb;have hrvc:=RC.mono _ _ _ _ (hnx.out _ _ xc') hrvb;have hdvc:=QC.mono _ _ _ _ (hnx.out _ _ xc') hdv'.out;have hcc8:=hch.out Z wc uo uc (hxg.out wc sc) (huZ.out wc hEc) hus;clear hch vb xc' sb hEb hdv' hcvb hrvb huZ;refine hcc8.mono ?_;rintro ee wd ⟨ed,zv,rfl,hzv⟩;have hEd:=hEc.trans ed;have sd:=Nat.le_trans sc ed.size;have hlv8:=hlv.out Z wd zv (hxg.out wd sd) hzv;clear hcc8 hlv;go_wp2_with fail
 refine hlv8.mono ?_;rintro ee we ⟨ee',lv,rfl,hlvv⟩;have ece:=ed.trans ee';have ve:=vc.ext0 ece;have hEe:=hEd.trans ee';have hus:=hus.mono BlR.mono (hnx.out _ _ (ExtX.of ece));have hcve:=RC.mono _ _ _ _ (hnx.out _ _ (ExtX.of ece)) hcvc;have hrve:=RC.mono _ _ _ _ (hnx.out _ _ (ExtX.of ece)) hrvc;have hdve:=QC.mono _ _ _ _ (hnx.out _ _ (ExtX.of ece)) hdvc;have hlv':=hid hlvv;obtain⟨lo,lc,rfl,hlc,hls⟩:=hlvv;obtain⟨ll,hll⟩:∃ll,(a5b (pkL x p) n pl).length=ll:=⟨_,rfl⟩;rw[hll]at hlv' hlc |-;have hby:b<we.heap.size:=by have:=hEe.size;have:=hE1.size;omega
 have hbg:h≠b:=by have:=hE1.size;omega
 clear q1 hlv8 vc ed ee' sd sc hEc hEd ece hcvc hrvc hdvc hls hzv hxg;have be:=b0.ext0 (hE1.trans hEe);go_wp2_with ((show wpList _ _ _ (⟨_, .store _ _ _,_,_,_,_⟩::_) _ _);first|(refine a0c a7C rfl rfl bb rfl rfl (by intro v hv;simp at hv;rcases hv with rfl|rfl|rfl|rfl|rfl|rfl|rfl|rfl<;>rfl) ?_;intro wg vg xg)|(refine a1Y (v:= .slice lo ll lc) a9n rfl rfl rfl rfl ve (by simp) ?_;intro wf vf xf;have bb:=be.ext xf (a0d (by omega));have q0:=vf.cell 0 rfl;have q1:=vf.cell 1 rfl;have q2:=vf.cell 2 rfl;have q3:=vf.cell 3 rfl;have q4:=vf.cell 4 rfl;have q5:=vf.cell 5 rfl;have q6:=vf.cell 6 rfl;have q7:=vf.cell 7 rfl))
 have hEf:Ext w wf:=hE.trans (hE1.trans (ExtX.box hEe xf hgh));have hdr:=a4K (X:=X) xg (fun k hk=>hZ0.out k (hb0.out k hk)) (fun k hk=>hZ0.out k (hXZ0.out k hk));have hd1:=hnx.out _ _ xf;have hus:=(hus.mono BlR.mono hd1).mono BlR.mono hdr;have hcvg:=RC.mono _ _ _ _ hdr (RC.mono _ _ _ _ hd1 hcve);have hrvg:=RC.mono _ _ _ _ hdr (RC.mono _ _ _ _ hd1 hrve);have hdvg:=QC.mono _ _ _ _ hdr (QC.mono _ _ _ _ hd1 hdve);have hlvg:=RC.mono _ _ _ _ hdr (RC.mono _ _ _ _ hd1 hlv'.out);exact bodyPost_ret (a1V rfl rfl a7C vg rfl) rfl (hfin.out _ _ _ _ _ _ _ _ _ _ _ _ _ _ _ _ (ExtX.box hEf xg hbw) huc hus hcvg hrvg hdvg _ hlvg)
end Go.Proofs.YtkddecjkfdogiaaGreat
namespace Go.Lin
open Go.Lim Go.Rep
def awX:Mat:=[[1,0],[1,1],[1,2]]
def awY:List Rat:=[0,1,1]
theorem b5f:(a1a awX 2).2.length=2:=by decide+kernel
theorem b1D:a0G awX awY 3 2= [mkRat 1 6,mkRat 1 2]:=by decide+kernel
theorem b6x:a2l (a2k awX awY [mkRat 1 6,mkRat 1 2]) (a2k awX awY [mkRat 1 6,mkRat 1 2])=mkRat 1 6:=by decide+kernel
theorem b6Z:a7Q awX awY=true:=by decide+kernel
end Go.Lin
namespace Go.Proofs.YtkddecjkfdogiaaGreat
open Go.RowKit Go.Rep Go.Lim
set_option maxRecDepth 100000 in
theorem a5I (X:Nat->Bool) (w:World) (u v:Value) (x y:Rat) (hu:QC (mk X w) u x) (hv:QC (mk X w) v y) (hx:hq x<=68719476736):Calls Tryz.prog 36 #[u,v] w (a8V w (decide (x=y))):=by
 replace hx:=hid hx
 obtain⟨s1,a1,n1,c1,d1,k1,e1,rfl⟩:=hu.shape;obtain⟨s2,a2,n2,c2,d2,k2,e2,rfl⟩:=hv.shape;obtain⟨W,hW,hE,b0,b1,hz⟩:=a1N w #[.bool s1, .slice a1 n1 c1, .slice d1 k1 e1] #[.bool s2, .slice a2 n2 c2, .slice d2 k2 e2] 32 32;have hu1:=mkx QC.mono hu hE;have hv1:=mkx QC.mono hv hE;obtain⟨b,hb⟩:∃b,w.heap.size=b:=⟨_,rfl⟩;rw[hb]at b0 b1 hz;have k00:=b0.cell 0 rfl;have k01:=b0.cell 1 rfl;have k02:=b0.cell 2 rfl;have k10:=b1.cell 0 rfl;have k11:=b1.cell 1 rfl;have k12:=b1.cell 2 rfl;clear hu hv;obtain⟨hxz,_,hxd⟩:=hu1.num;obtain⟨hyz,_,hyd⟩:=hv1.num;have hl1:=hid (Nat.le_trans (a0F x) (Nat.le_trans hx.out (by decide:(68719476736:Nat)<=1099511627776)));have hl2:=hid (Nat.le_trans (b5C x) (Nat.le_trans hx.out (by decide:(68719476736:Nat)<=1099511627776)));by_cases h1:x.num=y.num
 ·have hr:Hid (decide (dn x=dn y)=decide (x=y)):=hid (by
   rw[Bool.eq_iff_iff,decide_eq_true_eq,decide_eq_true_eq];constructor
   ·intro h
    refine Rat.ext h1 ?_;have:=a3C x;have:=a3C y;unfold dn at h;have:=x.den_nz;have:=y.den_nz;split at h<;>split at h<;>omega
   ·rintro rfl;rfl)
  have hd:Hid (decide (x.num=y.num)=true):=hid (decide_eq_true h1);clear h1;go_enter Tryz.func36,Tryz.ntmps36
  go_wp2_with fail
  refine(b3F X W _ _ _ _ hxz hyz hl1.out).mono ?_;rintro e w5 ⟨hE5,rfl⟩;rw[hd.out];have j02:=(b0.ext0 hE5).cell 2 rfl;have j12:=(b1.ext0 hE5).cell 2 rfl;clear k00 k01 k02 k10 k11 k12;go_wp2_with fail
  refine(b3E X w5 _ _ _ _ (mkx NC.mono hxd hE5) (mkx NC.mono hyd hE5) hl2.out).mono ?_;rintro e w6 ⟨rfl,m,rfl⟩;go_wp2_with fail
  go_ret
  exact⟨(hE.trans hE5).drewN m,a0m hr.out⟩
 ·have hr:Hid (false=decide (x=y)):=hid (decide_eq_false (by rintro rfl;exact h1 rfl)).symm
  have hd:Hid (decide (x.num=y.num)=false):=hid (decide_eq_false h1);clear h1;go_enter Tryz.func36,Tryz.ntmps36
  go_wp2_with fail
  refine(b3F X W _ _ _ _ hxz hyz hl1.out).mono ?_;rintro e w5 ⟨hE5,rfl⟩;rw[hd.out];clear k00 k01 k02 k10 k11 k12;go_wp2_with fail
  go_ret
  exact⟨hE.trans hE5,a0m hr.out⟩
theorem b0d {a b:List Rat} (hl:a.length=b.length) (h:∀p,p<a.length->∀(hp:p<a.length) (hq:p<b.length),a[p]=b[p]):a=b:=List.ext_getElem hl fun i h1 h2=>h i h1 h1 h2
set_option maxRecDepth 100000 in
theorem a1Z (X:Nat->Bool) (w:World) (u v:Value) (a b:List Rat) (hu:RC (mk X w) u a) (hv:RC (mk X w) v b) (hB:BR 68719476736 a) (hla:a.length<=1099511627776):Calls Tryz.prog 45 #[u,v] w (a8V w (decide (a=b))):=by
 obtain⟨ao,ca,rfl,hca,hsa⟩:=hu;obtain⟨bo,cb,rfl,hcb,hsb⟩:=hv;have hha:=hsa.hd;have hhb:=hsb.hd;have hB':=hid hB;clear hB;by_cases hlen:a.length=b.length
 ·have hbl:b.length<=a.length:=by omega
  have hab:a.length<=b.length:=by omega
  have hne:((a.length:Int) !=b.length)=false:=b0h (by omega);have hlen':=hid hlen;clear hlen;go_enter Tryz.func45,Tryz.ntmps45
  go_wp2_with fail
  go_loopw [5] (fun c wr=>∃i:Nat,c= .int .i64 i/\i<=a.length/\Hid (∀p,p<i->∀(hp:p<a.length) (hq:p<b.length),a[p]=b[p])/\Ext w wr) (fun c _=>a.length - (intOf c).toNat)
  case atStart=>exact⟨0,rfl,Nat.zero_le _,fun p hp=>by omega,ExtX.refl _⟩
  case round=>
   obtain⟨i,rfl,hi,hok,hE⟩:=hrel;by_cases hlt:i<a.length
   ·have hlt2:i<b.length:=by omega
    obtain⟨g1,o1,s1,a1,n1,c1,d1,k1,e1,hg1,hX1,hc1,hq1⟩:=(hsa.mono QC.mono (a0o hE)).rat QC.shaped i hlt;obtain⟨g2,o2,s2,a2,n2,c2,d2,k2,e2,hg2,hX2,hc2,hq2⟩:=(hsb.mono QC.mono (a0o hE)).rat QC.shaped i hlt2;have i1:∀W,(Instr.indexAt 45 (.slice ao a.length ca) (.int .i64 (i:Int))).run Tryz.prog W= .ok (.pointer (some ⟨g1,o1,none⟩)) W:=by rw[<-hg1];exact a0j a0B ao a.length ca .i64 i hha (by omega)
    have i2:∀W,(Instr.indexAt 45 (.slice bo b.length cb) (.int .i64 (i:Int))).run Tryz.prog W= .ok (.pointer (some ⟨g2,o2,none⟩)) W:=by rw[<-hg2];exact a0j a0B bo b.length cb .i64 i hhb (by omega)
    have hEd:Ext wr wr.drew:=(ExtX.refl wr).drew;have hS:Hid (∀W',Ext wr.drew W'->W'.cell? ⟨g1,o1,none⟩=some (.bool s1)/\W'.cell? ⟨g1,o1+1,none⟩=some (.slice a1 n1 c1)/\W'.cell? ⟨g1,o1+2,none⟩=some (.slice d1 k1 e1)/\W'.cell? ⟨g2,o2,none⟩=some (.bool s2)/\W'.cell? ⟨g2,o2+1,none⟩=some (.slice a2 n2 c2)/\W'.cell? ⟨g2,o2+2,none⟩=some (.slice d2 k2 e2)):=hid fun W' h=>by
     have p1:=hc1.out noY W' (hEd.trans h) rfl;have p2:=hc2.out noY W' (hEd.trans h) rfl;exact⟨p1.1,p1.2.1,p1.2.2,p2.1,p2.2.1,p2.2.2⟩
    obtain⟨k00,k01,k02,k10,k11,k12⟩:=hS.out wr.drew (ExtX.refl _);have hbq:=hid (hB'.out a[i] (List.getElem_mem _));have hq1d:QC (mk X wr.drew) (.agg #[.bool s1, .slice a1 n1 c1, .slice d1 k1 e1]) a[i]:=hq1;have hq2d:QC (mk X wr.drew) (.agg #[.bool s2, .slice a2 n2 c2, .slice d2 k2 e2]) b[i]:=hq2;obtain⟨x,hx⟩:∃x,a[i]=x:=⟨_,rfl⟩;obtain⟨y,hy⟩:∃y,b[i]=y:=⟨_,rfl⟩;rw[hx]at hq1d hbq;rw[hy]at hq2d;have hx':=hid hx;have hy':=hid hy;clear hx hy hc1 hc2 hg1 hg2 hq1 hq2;by_cases hxy:x=y
    ·have hn:Hid (∀(hp:i<a.length) (hq:i<b.length),a[i]=b[i]):=hid fun _ _=>by rw[hx'.out,hy'.out,hxy]
     have hb:=hid (decide_eq_true hxy);clear hxy;go_wp2_with fail
     go_region_held3 (fun w'=>w'.cell? ⟨g1,o1,none⟩=some (.bool s1)/\w'.cell? ⟨g1,o1+1,none⟩=some (.slice a1 n1 c1)/\w'.cell? ⟨g1,o1+2,none⟩=some (.slice d1 k1 e1)/\w'.cell? ⟨g2,o2,none⟩=some (.bool s2)/\w'.cell? ⟨g2,o2+1,none⟩=some (.slice a2 n2 c2)/\w'.cell? ⟨g2,o2+2,none⟩=some (.slice d2 k2 e2))
      (first|exact hS.out _ t1|go_keep)
      ((go_at_call 36;(with_reducible refine(a5I X wr.drew _ _ x y hq1d hq2d hbq.out).mono ?_);rintro ee w5 ⟨t1,rfl⟩;rw[hb.out]))
     have hE5:=hE.trans (hEd.trans t1);clear k00 k01 k02 k10 k11 k12;go_wp2_with fail
     go_roundw
     case rel=>exact⟨i+1,by go_num,by omega,a4p hok.out hn.out,hE5⟩
     case measure=>simp[intOf];omega
    ·have hv:Hid (false=decide (a=b)):=hid (by
      symm;rw[decide_eq_false_iff_not];intro h;subst h;exact hxy (hx'.out.symm.trans hy'.out))
     have hb:=hid (decide_eq_false hxy);clear hxy;go_wp2_with fail
     go_region_held3 (fun w'=>w'.cell? ⟨g1,o1,none⟩=some (.bool s1)/\w'.cell? ⟨g1,o1+1,none⟩=some (.slice a1 n1 c1)/\w'.cell? ⟨g1,o1+2,none⟩=some (.slice d1 k1 e1)/\w'.cell? ⟨g2,o2,none⟩=some (.bool s2)/\w'.cell? ⟨g2,o2+1,none⟩=some (.slice a2 n2 c2)/\w'.cell? ⟨g2,o2+2,none⟩=some (.slice d2 k2 e2))
      (first|exact hS.out _ t1|go_keep)
      ((go_at_call 36;(with_reducible refine(a5I X wr.drew _ _ x y hq1d hq2d hbq.out).mono ?_);rintro ee w5 ⟨t1,rfl⟩;rw[hb.out]))
     have hE5:=hE.trans (hEd.trans t1);clear k00 k01 k02 k10 k11 k12;go_wp2_with fail
     go_ret
     exact⟨hE5,a0m hv.out⟩
   ·have hv:Hid (true=decide (a=b)):=hid (by
     symm;rw[decide_eq_true_eq];exact b0d hlen'.out fun p hp=>hok.out p (by omega))
    go_wp2_with fail
    go_ret
    exact⟨hE,a0m hv.out⟩
 ·have hne:((a.length:Int) !=b.length)=true:=a7T (by omega)
  have hv:Hid (false=decide (a=b)):=hid (by
   symm;rw[decide_eq_false_iff_not];intro h;subst h;exact hlen rfl)
  clear hlen;go_enter Tryz.func45,Tryz.ntmps45
  go_wp2_with fail
  go_ret
  exact⟨ExtX.refl _,a0m hv.out⟩
theorem a8s {a b:List (List Rat)} (hl:a.length=b.length) (h:∀p,p<a.length->∀(hp:p<a.length) (hq:p<b.length),a[p]=b[p]):a=b:=List.ext_getElem hl fun i h1 h2=>h i h1 h1 h2
set_option maxRecDepth 100000 in
theorem a8t (X:Nat->Bool) (w:World) (u v:Value) (a b:List (List Rat)) (hu:MC (mk X w) u a) (hv:MC (mk X w) v b) (hB:BM 68719476736 a) (hla:a.length<=1099511627776) (hrl:∀r∈a,r.length<=1099511627776):Calls Tryz.prog 133 #[u,v] w (a8V w (decide (a=b))):=by
 obtain⟨ao,ca,rfl,hca,hsa⟩:=hu;obtain⟨bo,cb,rfl,hcb,hsb⟩:=hv;have hha:=hsa.hd;have hhb:=hsb.hd;have hB':=hid hB;have hrl':=hid hrl;clear hB hrl;by_cases hlen:a.length=b.length
 ·have hbl:b.length<=a.length:=by omega
  have hab:a.length<=b.length:=by omega
  have hne:((a.length:Int) !=b.length)=false:=b0h (by omega);have hlen':=hid hlen;clear hlen;go_enter Tryz.func133,Tryz.ntmps133
  go_wp2_with fail
  go_loopw [5] (fun c wr=>∃i:Nat,c= .int .i64 i/\i<=a.length/\Hid (∀p,p<i->∀(hp:p<a.length) (hq:p<b.length),a[p]=b[p])/\Ext w wr) (fun c _=>a.length - (intOf c).toNat)
  case atStart=>exact⟨0,rfl,Nat.zero_le _,fun p hp=>by omega,ExtX.refl _⟩
  case round=>
   obtain⟨i,rfl,hi,hok,hE⟩:=hrel;by_cases hlt:i<a.length
   ·have hlt2:i<b.length:=by omega
    obtain⟨a1,c1,hX1,hc1,hcl1,hq1⟩:=(hsa.mono RC.mono (a0o hE)).row i hlt;obtain⟨a2,c2,hX2,hc2,hcl2,hq2⟩:=(hsb.mono RC.mono (a0o hE)).row i hlt2;have i1:∀W,(Instr.indexAt 25 (.slice ao a.length ca) (.int .i64 (i:Int))).run Tryz.prog W= .ok (.pointer (some (adr ao i))) W:=a0w a0r ao a.length ca .i64 i hha (by omega) rfl;have i2:∀W,(Instr.indexAt 25 (.slice bo b.length cb) (.int .i64 (i:Int))).run Tryz.prog W= .ok (.pointer (some (adr bo i))) W:=a0w a0r bo b.length cb .i64 i hhb (by omega) rfl;have hEd:Ext wr wr.drew:=(ExtX.refl wr).drew;have hS:Hid (∀W',Ext wr.drew W'->W'.cell? (adr ao i)=some (.slice a1 a[i].length c1)/\W'.cell? (adr bo i)=some (.slice a2 b[i].length c2)):=hid fun W' h=>⟨hc1.out noY W' (hEd.trans h) rfl,hc2.out noY W' (hEd.trans h) rfl⟩;obtain⟨k00,k10⟩:=hS.out wr.drew (ExtX.refl _);have hbq:=hid (hB'.out a[i] (List.getElem_mem _));have hbl2:=hid (hrl'.out a[i] (List.getElem_mem _));have hq1d:RC (mk X wr.drew) (.slice a1 a[i].length c1) a[i]:=⟨a1,c1,rfl,hcl1,hq1⟩;have hq2d:RC (mk X wr.drew) (.slice a2 b[i].length c2) b[i]:=⟨a2,c2,rfl,hcl2,hq2⟩;obtain⟨x,hx⟩:∃x,a[i]=x:=⟨_,rfl⟩;obtain⟨y,hy⟩:∃y,b[i]=y:=⟨_,rfl⟩;rw[hx]at hq1d hbq hbl2 k00 hS;rw[hy]at hq2d k10 hS;have hx':=hid hx;have hy':=hid hy;clear hx hy hc1 hc2 hq1 hq2 hcl1 hcl2;by_cases hxy:x=y
    ·have hn:Hid (∀(hp:i<a.length) (hq:i<b.length),a[i]=b[i]):=hid fun _ _=>by rw[hx'.out,hy'.out,hxy]
     have hb:=hid (decide_eq_true hxy);clear hxy;go_wp2_with fail
     go_region_held3 (fun w'=>w'.cell? (adr ao i)=some (.slice a1 x.length c1)/\w'.cell? (adr bo i)=some (.slice a2 y.length c2))
      (first|exact hS.out _ t1|go_keep)
      ((go_at_call 45;(with_reducible refine(a1Z X wr.drew _ _ x y hq1d hq2d hbq.out hbl2.out).mono ?_);rintro ee w5 ⟨t1,rfl⟩;rw[hb.out]))
     have hE5:=hE.trans (hEd.trans t1);clear k00 k10;go_wp2_with fail
     go_roundw
     case rel=>exact⟨i+1,by go_num,by omega,a4p hok.out hn.out,hE5⟩
     case measure=>simp[intOf];omega
    ·have hv:Hid (false=decide (a=b)):=hid (by
      symm;rw[decide_eq_false_iff_not];intro h;subst h;exact hxy (hx'.out.symm.trans hy'.out))
     have hb:=hid (decide_eq_false hxy);clear hxy;go_wp2_with fail
     go_region_held3 (fun w'=>w'.cell? (adr ao i)=some (.slice a1 x.length c1)/\w'.cell? (adr bo i)=some (.slice a2 y.length c2))
      (first|exact hS.out _ t1|go_keep)
      ((go_at_call 45;(with_reducible refine(a1Z X wr.drew _ _ x y hq1d hq2d hbq.out hbl2.out).mono ?_);rintro ee w5 ⟨t1,rfl⟩;rw[hb.out]))
     have hE5:=hE.trans (hEd.trans t1);clear k00 k10;go_wp2_with fail
     go_ret
     exact⟨hE5,a0m hv.out⟩
   ·have hv:Hid (true=decide (a=b)):=hid (by
     symm;rw[decide_eq_true_eq];exact a8s hlen'.out fun p hp=>hok.out p (by omega))
    go_wp2_with fail
    go_ret
    exact⟨hE,a0m hv.out⟩
 ·have hne:((a.length:Int) !=b.length)=true:=a7T (by omega)
  have hv:Hid (false=decide (a=b)):=hid (by
   symm;rw[decide_eq_false_iff_not];intro h;subst h;exact hlen rfl)
  clear hlen;go_enter Tryz.func133,Tryz.ntmps133
  go_wp2_with fail
  go_ret
  exact⟨ExtX.refl _,a0m hv.out⟩
end Go.Proofs.YtkddecjkfdogiaaGreat
namespace Go.Lin
open Go.Lim
theorem BM.hb {B:Nat} {m:Mat} (h:Go.Rep.BM B m) (hB:1<=B):HB B m:=fun i j=>by
 unfold ent;by_cases hi:i<m.length
 ·by_cases hj:j<(m[i]).length
  ·have:=h m[i] (List.getElem_mem _) (m[i])[j] (List.getElem_mem _)
   simpa[List.getD_eq_getElem?_getD,hi,hj]using this
  ·rw[a2n hi,List.getD_eq_getElem?_getD,List.getElem?_eq_none (by omega)]
   simpa[a0S]using hB
 ·rw[List.getD_eq_getElem?_getD (l:=m),List.getElem?_eq_none (by omega)]
  simpa[a0S]using hB
end Go.Lin
namespace Go.Rep
open Go.RowKit Go.Lim
theorem a0K {X:Nat->Bool} {w:World} {e:TypeId} (hX:HX X w) {u v:Value} {x y:Rat} (hu:QC (mk X w) u x) (hv:QC (mk X w) v y) {arr:Array Value} (harr:arr=(a0k u++a0k v).toArray):RC (mk X (w.alloc (.cells arr e))) (.slice (some ⟨w.heap.size,0,none⟩) 2 2) [x,y]:=by
 have:=OL.lit (w:=w) (base:=w.heap.size) (e:=e) QC.elem hX (Nat.le_refl _) [u,v] [x,y] arr (by rw[harr];simp) rfl (fun i hi hi'=>by
  match i,hi with
  |0,_=>exact hu
  |1,_=>exact hv) (by simp)
 exact⟨_,_,rfl,Nat.le_refl _,this.sl QC.elem⟩
end Go.Rep
namespace Go.Proofs.YtkddecjkfdogiaaGreat
open Go.RowKit Go.Rep Go.Lim Go.Lin
end Go.Proofs.YtkddecjkfdogiaaGreat
