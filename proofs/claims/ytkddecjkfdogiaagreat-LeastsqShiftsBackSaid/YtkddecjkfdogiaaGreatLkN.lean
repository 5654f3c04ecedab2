/- matrix: Inverse. Conditions: few rows, numbers of few digits. matrix: Solve. Conditions: few rows, numbers of few digits. leastsq: FromMoments. Conditions: at most four columns, numbers of few digits. reference 06: Dot. Conditions: few numbers of at most 2^36 digits. leastsq: residuals; reference 13: residuals. Conditions: few rows and columns, numbers of few digits. leastsq: chosen. Conditions: few rows and columns. -/
import Derived.Test.YtkddecjkfdogiaaGreatLkM
namespace Go.Lin
def b2e (r c:Nat):Mat:=List.replicate r (List.replicate c 0)
theorem a6q (r c:Nat):(b2e r c).length=r:=List.length_replicate
theorem a6r {r c i:Nat} (h:i<(b2e r c).length):(b2e r c)[i]=List.replicate c 0:=List.getElem_replicate h
theorem a9o {x:List Rat} {n:Nat}:x++(List.replicate (2*n) (0:Rat)).drop n=x++List.replicate n 0:=by
 rw[List.drop_replicate,show 2*n - n=n by omega]
theorem b0E {x:List Rat} {n i:Nat} (h:x.length=n):(x++List.replicate n (0:Rat)).set (n+i) 1=x++(List.replicate n 0).set i 1:=by
 rw[List.set_append_right _ _ (by omega),h,show n+i - n=i by omega]
theorem b0F {m:Mat} {n i:Nat} (h:i<(a1A m n).length) (hi:i<m.length):(a1A m n)[i]=m[i]++(List.replicate n 0).set i 1:=by
 simp[a1A,hi,List.getD_eq_getElem?_getD]
theorem b2f {m:Mat} {n c:Nat} (h:Shp n c m) (hc:n=0->c=0):Go.Lin.colsL m=c:=by
 by_cases h0:n=0
 ·have:m= []:=List.eq_nil_of_length_eq_zero (by rw[h.1];exact h0)
  subst this;rw[hc h0];rfl
 ·exact a8y h (by omega)
end Go.Lin
namespace Go.Proofs.YtkddecjkfdogiaaGreat
open Go.RowKit Go.Rep Go.Lim Go.Lin
def b2Q (X:Nat->Bool) (w:World) (m:List (List Rat)) (n:Nat) (e:Ending) (w':World):Prop:=Ext w w'/\((a3P m n/\e= .returned (.tuple #[.slice none 0 0, .int .i64 7]))\/(¬a3P m n/\∃u,e= .returned (.tuple #[u, .int .i64 0])/\MC (mk X w') u (a3u m n)))
set_option maxRecDepth 100000 in
set_option maxHeartbeats 1600000 in
theorem a9p (X:Nat->Bool) (w:World) (u:Value) (m:List (List Rat)) (n:Nat) (hX:HX X w) (hu:MV (mk X w) u m) (hf:a0x m=true) (hnn:m.length=n) (hcc:colsL m=n) (hT:a9x (a1A m n) (2*n)):Calls Tryz.prog 180 #[u] w (b2Q X w m n):=by
 obtain⟨hsh,h96,hc96,_,_⟩:=a0K hf;rw[hnn,hcc]at hsh;rw[hnn]at h96;have hfo:=a1M X w u m hu (by omega);rw[hf]at hfo;have hcol:=a1G X w u m hu;rw[hcc]at hcol;have hsh':=hid hsh;have hnn':=hid hnn;have hcc':=hid hcc;have hWs:=hid (a1j hsh);have hTt:=hid hT;have hIs:=hid (a2W hsh);have hfull:=hid (a4t hsh);have hwg:Hid (∀i (h:i<(a1A m n).length) (hi:i<m.length),(a1A m n)[i]=m[i]++(List.replicate n 0).set i 1):=hid fun i h hi=>b0F h hi;have hWc:Hid (colsL (a1A m n)=2*n):=hid (b2f (a1j hsh) (by omega));have hsg:Hid (a3P m n↔0<n/\n<=(a1i (a1A m n) (2*n)).2.getD (n - 1) 0):=hid Iff.rfl;have hiv:Hid (a3u m n=(a1i (a1A m n) (2*n)).1.map (·.drop n)):=hid rfl;obtain⟨W,hW⟩:∃W,a1A m n=W:=⟨_,rfl⟩;rw[hW]at hWs hTt hfull hwg hWc hsg hiv;obtain⟨ua,uca,rfl,huca,hua⟩:=hu;have hu:MV (mk X w) (.slice ua m.length uca) m:=⟨ua,uca,rfl,huca,hua⟩;rw[hnn]at hfo hcol hu |-;have hw2:wrap64 (2*(n:Int))=((2*n:Nat):Int):=by rw[IntWalk.wrap64_in _ (by omega)];omega
 clear hf hnn hcc hsh huca hua hW hT;go_enter Tryz.func180,Tryz.ntmps180
 go_wp2_with fail
 refine hfo.mono ?_;rintro e w1 ⟨rfl,rfl⟩;go_wp2_with fail
 refine hcol.mono ?_;rintro e w2 ⟨rfl,rfl⟩;go_wp2_with fail
 refine(a4h X w2 n (2*n) hX (by omega) (by omega)).mono ?_;rintro e w3 ⟨hE3,ao,cap,hs,rfl,hM3⟩;rw[List.length_replicate];have hlen:Hid (hs.length=n):=hid (by rw[hM3.len];simp);have hhO:Hd ao n:=by have:=hM3.outer.hd;rw[hlen.out]at this;exact this
 have hX3:=hX.ext hE3;have hZ3:=hM3.hz hX3;have hu3:=hM3.old MV.mono hu hE3 (Nat.le_refl _) (fun _ _ h=>h);obtain⟨V,hV⟩:∃V,b2e n (2*n)=V:=⟨_,rfl⟩;have hVl:Hid (V.length=n):=hid (by rw[<-hV];exact a6q _ _);have hVg:Hid (∀i (h:i<V.length),V[i]=List.replicate (2*n) 0):=hid fun i h=>by subst hV;exact a6r h
 have hWV:Hid (W.length=V.length):=hid (by rw[hVl.out];exact hWs.out.1)
 change MO X w2.heap.size _ _ w3 ao cap hs (b2e n (2*n))at hM3
 rw[hV,<-a2B W V]at hM3;have hco:=a2K (mz X ao hs) w3 _ m n n hZ3 hu3 hsh'.out hcc'.out (by omega) (by omega);clear hfo hcol hu hu3 hV;go_wp2_with fail
 refine hco.mono ?_;rintro e w4 ⟨hE4,bo,capb,hs4,rfl,hM4⟩;have hmc4:=hM4.mc;rw[hnn'.out]at hmc4 |-;have hM34:=hM3.ext0 hE4;have hE04:=hE3.trans hE4;obtain⟨ba,bca,heq,hbca,hsb⟩:=hmc4;simp only[Value.slice.injEq]at heq;obtain⟨rfl,hx9,rfl⟩:=heq;clear hx9;have hhb:=hsb.hd;rw[hnn'.out]at hhb;obtain⟨Z,hZe⟩:∃Z,mz X ao hs=Z:=⟨_,rfl⟩;have hZ':=hid hZe;rw[hZe]at hsb hZ3;clear hco hM3 hM4 hZe;go_wp2_with fail
 go_loopw [31] (fun k wr=>∃(i:Nat),k= .int .i64 i/\i<=n/\MO X w2.heap.size 45 32 wr ao cap hs (mix W V i)/\Sl RC 1 (mk Z wr) bo m/\Ext w2 wr) (fun k _=>n - (intOf k).toNat)
 case atStart=>exact⟨0,rfl,Nat.zero_le _,hM34,hsb,hE04⟩
 case round=>
  obtain⟨i,rfl,hi,hM,hsb,hE⟩:=hrel;by_cases hlt:i<n
  ·have him:i<m.length:=by rw[hnn'.out];exact hlt
   obtain⟨a1,c1,hX1,hc1,hcl1,hq1⟩:=hsb.row i him;have k00:=hc1.out noY wr (ExtX.refl _) rfl;have hxl:Hid (m[i].length=n):=hid (hsh'.out.2 _ (List.getElem_mem _));have hiV:i<V.length:=by rw[hVl.out];exact hlt
   have hiW:i<W.length:=by rw[hWV.out];exact hiV
   have hWi:=hid (hwg.out i hiW him);have hVi:=hid (hVg.out i hiV);obtain⟨x,hx⟩:∃x,m[i]=x:=⟨_,rfl⟩;rw[hx]at k00 hcl1 hq1 hxl hWi;rw[hxl.out]at k00 hcl1;have hh1:Hd a1 n:=by have:=hq1.hd;rw[hxl.out]at this;exact this
   have hih:i<hs.length:=by rw[hlen.out];exact hlt
   have hmi:i<(mix W V i).length:=by rw[a1p hWV.out];exact hiW
   have hmg:Hid ((mix W V i)[i]=List.replicate (2*n) 0):=hid (by rw[a0N hWV.out,if_neg (by omega)];exact hVi.out);have hms:Hid ((mix W V i).set i (x++(List.replicate n (0:Rat)).set i 1)=mix W V (i+1)):=hid (by rw[<-hWi.out];exact a3r hWV.out hiW);obtain⟨a,na,cr,hhd⟩:∃a na cr,hs[i]=(a,na,cr):=⟨_,_,_,rfl⟩;have hna:na=2*n:=by
    have:=hM.rlen i hih hmi;rw[hhd,hmg.out,List.length_replicate]at this;exact this
   have hR:=hM.row i hih hmi;rw[hmg.out]at hR;simp only[hhd]at hR;have hz1:=fun k (hk:ob a k=true)=>hM.mz_sub hih k (by rw[hhd];exact hk);have hsp:=fun k (hk:ob a k=true)=>hM.sep i hih k (by rw[hhd];exact hk);have hun:Hid (un (cut (mz X ao hs) a) a=Z):=hid (by rw[a2I hz1];exact hZ'.out);have hda:Hd a na:=by have:=hR.hd;rw[List.length_replicate,<-hna]at this;exact this
   have hna':=hid hna;have y1:wr.cell? (adr ao i)=some (.slice a na cr):=by
    have:=(hM.hdr i hih).1;rw[hhd]at this;exact this
   have haob:Hid (ob a (adr ao i).block=false):=hid (by
    cases hb:ob a (adr ao i).block
    ·rfl
    ·have h1:=(hsp _ hb).2
     obtain⟨b0,o0,rfl⟩:=hhO (by omega);simp[ob,adr]at h1)
   have hhd':=hid hhd;have hRl:Hid ((List.replicate (2*n) (0:Rat)).length=na):=hid (by rw[hna];exact List.length_replicate);have hqz:Sl QC 3 (mk (un (cut (mz X ao hs) a) a) wr) a1 x:=by rw[hun.out];exact hq1
   clear hc1 hx hhd hna;obtain⟨wo,hwo⟩:∃wo,wo=wr:=⟨_,rfl⟩;subst hwo;go_wp2_with (first|(with_reducible refine a0t a0r (by omega) (by assumption) ?_)|(refine a7k a0E QC.elem x rfl hRl.out rfl hxl.out hR hqz (by rw[hna'.out];omega) (by omega) ?_;intro w5 hO5 hE5;have y5:=hE5.cellY y1 haob.out))
   have hxi:x++List.drop n (List.replicate (2*n) (0:Rat))=x++List.replicate n 0:=a9o;rw[hxi]at hO5;have hzz:∀k,ob a k=true->Z k=true:=fun k hk=>by rw[<-hZ'.out];exact hz1 k hk
   have hxr:Hid ((x++List.replicate n (0:Rat)).length=na):=hid (by rw[List.length_append,List.length_replicate,hxl.out,hna'.out];omega);have hM5:=hM.upd hih (l:=x++List.replicate n 0) (show ExtX (ob hs[i].1) wo w5 by rw[hhd'.out];exact hE5) (fun hi'=>by rw[hmg.out,List.length_replicate,hxr.out,hna'.out]) (by rw[hhd'.out];exact hO5);have hsb5:=hsb.mono RC.mono (a0O hE5 hzz);have hE05:=hM.ext_from hE (Nat.le_refl _) (ExtX.row hih (show ExtX (ob hs[i].1) wo w5 by rw[hhd'.out];exact hE5));have hput:Hid ((x++List.replicate n (0:Rat)).set (n+i) 1=x++(List.replicate n 0).set i 1):=hid (b0E hxl.out);have hni:n+i<(x++List.replicate n (0:Rat)).length:=by rw[hxr.out,hna'.out];omega
   have hZ5:HX Z w5:=by
    have h1:=hM5.hz (hX.ext hE05);rw[hZ'.out]at h1;exact h1
   have hEd:Ext w5 w5.drew:=(ExtX.refl w5).drew;obtain⟨L,hL⟩:∃L,x++List.replicate n (0:Rat)=L:=⟨_,rfl⟩;rw[hL]at hO5 hM5 hxr hput hni;obtain⟨L2,hL2⟩:∃L2,x++(List.replicate n (0:Rat)).set i 1=L2:=⟨_,rfl⟩;rw[hL2]at hput hms;have hL2l:Hid (L2.length=L.length):=hid (by rw[<-hput.out,List.length_set]);obtain⟨g,o,hg⟩:∃g o,adr a ((n+i)*3)=⟨g,o,none⟩:=⟨_,_,rfl⟩;have ew:IntKind.i64.wrap ((n:Int)+(i:Int))=(n:Int)+(i:Int):=IntWalk.i64_in _ (by omega);have i2:∀W,(Instr.indexAt 45 (.slice a na cr) (.int .i64 ((n:Int)+(i:Int)))).run Tryz.prog W= .ok (.pointer (some ⟨g,o,none⟩)) W:=by
    rw[<-hg,show(n:Int)+(i:Int)=((n+i:Nat):Int)by omega];exact a0n a0E a na cr .i64 (n+i) hda (by rw[hna'.out];omega)
   have i1:∀W,(Instr.indexAt 25 (.slice ao n cap) (.int .i64 (i:Int))).run Tryz.prog W= .ok (.pointer (some (adr ao i))) W:=a0z a0r ao n cap .i64 i hhO (by omega) rfl;have hg':=hid hg;have hS:Hid (∀Y W',ExtX Y w5.drew W'->Y (adr ao i).block=false->W'.cell? (adr ao i)=some (.slice a na cr)):=hid fun Y W' h hy1=>h.cellY (hEd.cell y5) hy1;have k20:=hS.out noY w5.drew (ExtX.refl _) rfl;have hO5d:=hO5.ext0 QC.elem hEd;have qf:=b4Z Z w5.drew 1 (hZ5.ext hEd) (by omega) (by omega);have h1r:((1:Int):Rat)=1:=by decide+kernel
   rw[h1r]at qf;have hun':Hid (un (cut (mz X ao hs) a) a=Z):=hun;clear h1r hxi hL hL2 hg y1 y5 hR hqz hq1 k00 hM hsb;go_region_held3 (fun w'=>w'.cell? (adr ao i)=some (.slice a na cr))
    (first|exact hS.out noY _ t1 rfl|exact hS.out (ob a) _ ((ExtX.of t1).trans hset.2) haob.out|go_keep)
    ((go_at_call 144;(with_reducible refine qf.mono ?_);rintro ee w6 ⟨t1,u6,rfl,hu6⟩;obtain⟨s6,a6,n6,c6,d6,k6,e6,rfl⟩:=hu6.shape;have hO6:=hO5d.ext0 QC.elem t1;obtain⟨_,v0,v1,v2,_,⟨g0,f0⟩,⟨g1,f1⟩,⟨g2,f2⟩,_⟩:=hO6.cell3 (n+i) hni hg'.out;have hset:=hO6.set3 a6c QC.elem (n+i) hni hg'.out (v0:= .bool s6) (v1:= .slice a6 n6 c6) (v2:= .slice d6 k6 e6) (x:=1) (by rw[hun'.out];exact hu6)))
   obtain⟨q1,q2⟩:=hset;rw[hput.out]at q1;obtain⟨w8,hw8⟩:∃w8,((w6.setCell ⟨g,o,none⟩ (.bool s6)).setCell ⟨g,o+1,none⟩ (.slice a6 n6 c6)).setCell ⟨g,o+2,none⟩ (.slice d6 k6 e6)=w8:=⟨_,rfl⟩;rw[hw8]at q1 q2 |-;have q2':ExtX (ob hs[i].1) w6 w8:=by rw[hhd'.out];exact q2
   have hM6:=hM5.ext0 (hEd.trans t1);have hM7:=hM6.upd hih (l:=L2) q2' (fun hi'=>by rw[List.getElem_set_self];exact hL2l.out) (by rw[hhd'.out];exact q1);rw[List.set_set,hms.out]at hM7;have hs8:=(hsb5.mono RC.mono (a0o (hEd.trans t1))).mono RC.mono (a0O q2 hzz);have hE8:=hM6.ext_from (hE05.trans (hEd.trans t1)) (Nat.le_refl _) (ExtX.row hih q2');clear k20 g0 g1 g2 f0 f1 f2 i1 i2 hw8 ew;go_wp2_with fail
   go_roundw
   case rel=>exact⟨i+1,by go_num,by omega,hM7,hs8,hE8⟩
   case measure=>simp[intOf];omega
  ·have hin:i=n:=by omega
   subst hin;rw[a2C (by rw[hWs.out.1];exact Nat.le_refl _) (by rw[hVl.out];exact Nat.le_refl _)]at hM;go_wp2_with fail
   refine(a3O X w2.heap.size wr ao cap i (2*i) hs W (hX.ext hE) hM hWs.out hWc.out (by omega) (by omega) hTt.out).mono ?_;rintro ee w7 ⟨hE7,po,pc,hs',rfl,hmb,hM7,hP7⟩;rw[hfull.out];have hE07:=hM.ext_from hE (Nat.le_refl _) hE7;have hmc7:=MC.mono _ _ _ _ (a1m (X:=X) fun k _ hk=>a0p hk) hM7.mc;have hRs:=hid (a0X hWs.out).1;obtain⟨⟨R,p⟩,hRp⟩:∃S,a1i W (2*i)=S:=⟨_,rfl⟩;rw[hRp]at hfull hiv hsg hRs hmc7 hP7
   dsimp only at hfull hiv hsg hRs hmc7 hP7
   rw[hRs.out.1]at hmc7;have hX7:=hX.ext hE07;have hdP:Hd po i:=by have:=hP7.hd;rw[hfull.out]at this;exact this
   have hpe:Hid (∀h:i - 1<p.length,p.getD (i - 1) 0=p[i - 1]):=hid fun h=>by simp[List.getD_eq_getElem?_getD,h]
   have hps:∀h:i - 1<p.length,w7.cell? (adr po (i - 1))=some (.int .i64 (p[i - 1]:Int)):=fun h=>(hP7.sl (a0b.elem _)).nat (i - 1) h;have hps':=hid hps;obtain⟨w2,hw2'⟩:∃x,x=w2:=⟨_,rfl⟩;subst hw2';clear hps hM34 hsb hM hM7 hw2 hRp hP7;by_cases hsing:a3P m i
   ·obtain⟨h0,hge⟩:=hsg.out.1 hsing
    have hpl:i - 1<p.length:=by rw[hfull.out];omega
    rw[hpe.out hpl]at hge;have c9:=hps'.out hpl;have h0i:(0:Int)<(i:Int):=by omega
    have hgi:(i:Int)<=(p[i - 1]:Int):=by omega
    obtain⟨q,hq⟩:∃q,(p[i - 1]:Int)=q:=⟨_,rfl⟩;rw[hq]at c9 hgi;have ew:wrap64 ((i:Int) - 1)=(i:Int) - 1:=IntWalk.wrap64_in _ (by omega);have i3:∀W,(Instr.indexAt 22 (.slice po i pc) (.int .i64 ((i:Int) - 1))).run Tryz.prog W= .ok (.pointer (some (adr po (i - 1)))) W:=a0z a6A po i pc .i64 (i - 1) hdP (by omega) (by omega);clear hq hge h0 hE7;go_wp2_with fail
    go_ret2
    exact⟨hE07, .inl ⟨hsing,rfl⟩⟩
   ·have hcase:(¬(0:Int)<(i:Int))\/((0:Int)<(i:Int)/\∃q:Int,w7.cell? (adr po (i - 1))=some (.int .i64 q)/\¬(i:Int)<=q):=by
     by_cases h0:i=0
     ·exact .inl (by omega)
     ·have hpl:i - 1<p.length:=by rw[hfull.out];omega
      refine .inr ⟨by omega,_,hps'.out hpl,fun hle=>hsing (hsg.out.2 ⟨by omega,?_⟩)⟩;rw[hpe.out hpl];omega
    have hns:=hid hsing;have hz7:=a4h X w7 i i hX7 (by omega) (by omega);have ew:wrap64 ((i:Int) - 1)=(i:Int) - 1\/i=0:=by
     by_cases h0:i=0
     ·exact .inr h0
     ·exact .inl (IntWalk.wrap64_in _ (by omega))
    have i3':Hid (0<i->∀W,(Instr.indexAt 22 (.slice po i pc) (.int .i64 ((i:Int) - 1))).run Tryz.prog W= .ok (.pointer (some (adr po (i - 1)))) W):=hid fun h=>a0z a6A po i pc .i64 (i - 1) hdP (by omega) (by omega);clear hsing hE7;rcases hcase with h0|⟨h0,q,c9,hgi⟩
    case' inl=>clear ew
    case' inr=>
     have ew:wrap64 ((i:Int) - 1)=(i:Int) - 1:=ew.resolve_right (by omega);have i3:=i3'.out (by omega)
    all_goals
     go_wp2_with fail
     refine hz7.mono ?_;rintro ee w8 ⟨hE8,ao2,cap2,hs2,rfl,hM8⟩;rw[List.length_replicate];have hlen2:Hid (hs2.length=i):=hid (by rw[hM8.len];simp);have hhO2:Hd ao2 i:=by have:=hM8.outer.hd;rw[hlen2.out]at this;exact this
     have hmc8:=hM8.old MC.mono hmc7 hE8 (Nat.le_refl _) (fun _ _ h=>h);obtain⟨ra,rca,heq,hrca,hsr⟩:=hmc8;simp only[Value.slice.injEq]at heq;obtain⟨rfl,hx9,rfl⟩:=heq;clear hx9;obtain⟨D,hD⟩:∃D,a3u m i=D:=⟨_,rfl⟩;have hDs:=hid (hD▸hIs.out);have hiv2:=hid (hD▸hiv.out);have hD':=hid hD;obtain⟨U,hU⟩:∃U,b2e i i=U:=⟨_,rfl⟩;have hUl:Hid (U.length=i):=hid (by rw[<-hU];exact a6q _ _);have hUg:Hid (∀k (h:k<U.length),U[k]=List.replicate i 0):=hid fun k h=>by subst hU;exact a6r h
     have hDU:Hid (D.length=U.length):=hid (by rw[hUl.out];exact hDs.out.1)
     change MO X w7.heap.size _ _ w8 ao2 cap2 hs2 (b2e i i)at hM8
     rw[hU,<-a2B D U]at hM8;have hE08:=hE07.trans hE8;obtain⟨Y,hYe⟩:∃Y,mz X ao2 hs2=Y:=⟨_,rfl⟩;have hY':=hid hYe;rw[hYe]at hsr;clear hU hYe hD hz7;go_wp2_with fail
     go_loopw [70] (fun k wr=>∃(j:Nat),k= .int .i64 j/\j<=i/\MO X w7.heap.size 45 32 wr ao2 cap2 hs2 (mix D U j)/\Sl RC 1 (mk Y wr) ao R/\Ext w2 wr) (fun k _=>i - (intOf k).toNat)
     case atStart=>exact⟨0,rfl,Nat.zero_le _,hM8,hsr,hE08⟩
     case round=>
      obtain⟨j,rfl,hj,hM,hsr,hE⟩:=hrel;by_cases hlj:j<i
      ·have hjR:j<R.length:=by rw[hRs.out.1];exact hlj
       obtain⟨a1,c1,hX1,hc1,hcl1,hq1⟩:=hsr.row j hjR;have k00:=hc1.out noY wr (ExtX.refl _) rfl;have hxl:Hid (R[j].length=2*i):=hid (hRs.out.2 _ (List.getElem_mem _));have hjU:j<U.length:=by rw[hUl.out];exact hlj
       have hjD:j<D.length:=by rw[hDU.out];exact hjU
       have hDj:Hid (D[j]=R[j].drop i):=hid (by simp[hiv2.out]);have hUj:=hid (hUg.out j hjU);obtain⟨x,hx⟩:∃x,R[j]=x:=⟨_,rfl⟩;rw[hx]at k00 hcl1 hq1 hxl hDj;rw[hxl.out]at k00 hcl1;obtain⟨n2,hn2⟩:∃n2,2*i=n2:=⟨_,rfl⟩;have hn2':=hid hn2;rw[hn2]at k00 hcl1;have hjh:j<hs2.length:=by rw[hlen2.out];exact hlj
       have hmj:j<(mix D U j).length:=by rw[a1p hDU.out];exact hjD
       have hmg:Hid ((mix D U j)[j]=List.replicate i 0):=hid (by rw[a0N hDU.out,if_neg (by omega)];exact hUj.out);have hms:Hid ((mix D U j).set j (x.drop i)=mix D U (j+1)):=hid (by rw[<-hDj.out];exact a3r hDU.out hjD);obtain⟨a,na,cr,hhd⟩:∃a na cr,hs2[j]=(a,na,cr):=⟨_,_,_,rfl⟩;have hna:na=i:=by
        have:=hM.rlen j hjh hmj;rw[hhd,hmg.out,List.length_replicate]at this;exact this
       have hR:=hM.row j hjh hmj;rw[hmg.out]at hR;simp only[hhd]at hR;have hz1:=fun k (hk:ob a k=true)=>hM.mz_sub hjh k (by rw[hhd];exact hk);have hsp:=fun k (hk:ob a k=true)=>hM.sep j hjh k (by rw[hhd];exact hk);have hun:Hid (un (cut (mz X ao2 hs2) a) a=Y):=hid (by rw[a2I hz1];exact hY'.out);have y1:wr.cell? (adr ao2 j)=some (.slice a na cr):=by
        have:=(hM.hdr j hjh).1;rw[hhd]at this;exact this
       have haob:Hid (ob a (adr ao2 j).block=false):=hid (by
        cases hb:ob a (adr ao2 j).block
        ·rfl
        ·have h1:=(hsp _ hb).2
         obtain⟨b0,o0,rfl⟩:=hhO2 (by omega);simp[ob,adr]at h1)
       have hhd':=hid hhd;have hna':=hid hna;have hRl:Hid ((List.replicate i (0:Rat)).length=na):=hid (by rw[hna];exact List.length_replicate);have hq2:=hq1.sub i n2 c1 (by omega) (by omega) (by rw[hxl.out];omega);rw[List.take_of_length_le (by rw[hxl.out];omega)]at hq2;have f1:∀W,(Instr.sliceAt 45 (.slice a1 n2 c1) (some (.int .i64 (i:Int))) none none).run Tryz.prog W= .ok (.slice (a1Q a1 i c1 3) (n2 - i) (c1 - i)) W:=a4U a0E n2 c1 .i64 i (by omega) hcl1;rw[show n2 - i=i by omega]at f1;obtain⟨sa,hsa⟩:∃sa,a1Q a1 i c1 3=sa:=⟨_,rfl⟩;rw[hsa]at f1 hq2;obtain⟨sc,hsc⟩:∃sc,c1 - i=sc:=⟨_,rfl⟩;rw[hsc]at f1;obtain⟨xd,hxd⟩:∃xd,x.drop i=xd:=⟨_,rfl⟩;rw[hxd]at hq2 hms;have hxdl:Hid (xd.length=i):=hid (by rw[<-hxd,List.length_drop,hxl.out];omega);have hqz:Sl QC 3 (mk (un (cut (mz X ao2 hs2) a) a) wr.drew) sa xd:=by rw[hun.out];exact hq2
       have i1:∀W,(Instr.indexAt 25 (.slice ao2 i cap2) (.int .i64 (j:Int))).run Tryz.prog W= .ok (.pointer (some (adr ao2 j))) W:=a0z a0r ao2 i cap2 .i64 j hhO2 (by omega) rfl;have hRd:=hR.ext0 QC.elem (ExtX.refl (Y:=noY) wr).drew;have hSa:Hid (∀Y2 W',ExtX Y2 wr.drew W'->Y2 (adr ao2 j).block=false->W'.cell? (adr ao2 j)=some (.slice a na cr)):=hid fun Y2 W' h hy1=>(((ExtX.refl wr).drew).trans h).cellY y1 hy1;have k20:=hSa.out noY wr.drew (ExtX.refl _) rfl;clear hx hc1 hhd hna hn2 hsa hsc hxd hR hq1 hq2;obtain⟨wo,hwo⟩:∃wo,wo=wr:=⟨_,rfl⟩;subst hwo;go_wp2_with (with_reducible refine a0t a0r (by omega) (by assumption) ?_)
       go_region_held3 (fun w'=>w'.cell? (adr ao2 j)=some (.slice a na cr))
        (first|exact hSa.out noY _ (ExtX.refl _) rfl|exact hSa.out (ob a) _ hE5 haob.out|go_keep)
        (first|(refine a7K rfl (by rfl) a0E QC.elem xd rfl hRl.out rfl hxdl.out hRd hqz (by rw[hna'.out];exact Nat.le_refl _) (by omega) ?_;intro w5 hO5 hE5))
       have hxi:xd++List.drop i (List.replicate i (0:Rat))=xd:=by rw[List.drop_replicate,Nat.sub_self,List.replicate_zero,List.append_nil]
       rw[hxi]at hO5;have hzz:∀k,ob a k=true->Y k=true:=fun k hk=>by rw[<-hY'.out];exact hz1 k hk
       have hEr:ExtX (ob hs2[j].1) wo w5:=by rw[hhd'.out];exact(ExtX.of (ExtX.refl wo).drew).trans hE5
       have hM5:=hM.upd hjh (l:=xd) hEr (fun hi'=>by rw[hmg.out,List.length_replicate,hxdl.out]) (by rw[hhd'.out];exact hO5);rw[hms.out]at hM5;have hs5:=(hsr.mono RC.mono (a0o (ExtX.refl wo).drew)).mono RC.mono (a0O hE5 hzz);have hE05:=hM.ext_from hE (by have:=hE07.size;omega) (ExtX.row hjh hEr);clear k00 k20 y1 f1 i1 hRd hqz;go_wp2_with fail
       go_roundw
       case rel=>exact⟨j+1,by go_num,by omega,hM5,hs5,hE05⟩
       case measure=>simp[intOf];omega
      ·have hji:j=i:=by omega
       subst hji;rw[a2C (by rw[hDs.out.1];exact Nat.le_refl _) (by rw[hUl.out];exact Nat.le_refl _)]at hM;have hmc:=hM.mc;rw[hDs.out.1,<-hD'.out]at hmc;go_wp2_with fail
       go_ret2
       exact⟨hE, .inr ⟨hns.out,_,rfl,hmc⟩⟩
def a8M (X:Nat->Bool) (w:World) (S:Mat×List Nat) (c:Nat) (e:Ending) (w':World):Prop:=Ext w w'/\((c∈S.2/\e= .returned (.tuple #[.slice none 0 0, .int .i64 11]))\/(c∉S.2/\∃u,e= .returned (.tuple #[u, .int .i64 0])/\RC (mk X w') u (b2E S.1 S.2 c)))
set_option maxRecDepth 100000 in
set_option maxHeartbeats 1600000 in
theorem b2g (X:Nat->Bool) (w:World) (u v:Value) (m:List (List Rat)) (b:List Rat) (n c:Nat) (hX:HX X w) (hu:MV (mk X w) u m) (hv:RV (mk X w) v b) (hf:a0x m=true) (hnn:m.length=n) (hcc:colsL m=c) (hbl:b.length=n) (hT:a9x (a2y m b n) (c+1)):Calls Tryz.prog 130 #[u,v] w (a8M X w (a1i (a2y m b n) (c+1)) c):=by
 obtain⟨hsh,h96,hc96,hpos,_⟩:=a0K hf;rw[hnn,hcc]at hsh;rw[hnn]at h96 hpos;rw[hcc]at hc96 hpos;have hfo:=a1M X w u m hu (by omega);rw[hf]at hfo;have hcol:=a1G X w u m hu;rw[hcc]at hcol;have hsh':=hid hsh;have hnn':=hid hnn;have hcc':=hid hcc;have hbl':=hid hbl;have hWs:=hid (a1V (b:=b) hsh);have hwg:Hid (∀i (h:i<(a2y m b n).length) (hi:i<m.length) (hb:i<b.length),(a2y m b n)[i]=m[i]++[b[i]]):=hid fun i h hi hb=>b0h h hi hb;have hWc:0<n->colsL (a2y m b n)=c+1:=fun h=>a8y (a1V (b:=b) hsh) h;obtain⟨W,hW⟩:∃W,a2y m b n=W:=⟨_,rfl⟩;rw[hW]at hWs hT hwg hWc |-;have hTt:=hid (b0j hWs.out (colsL W) hWc hT);have hRc:=hid (b0i hWs.out (colsL W) hWc);have hWcs:Hid (Shp n (colsL W) W):=hid ⟨hWs.out.1,fun r hr=>by
  have:=List.length_pos_of_mem hr;rw[hWc (by rw[<-hWs.out.1];exact this)];exact hWs.out.2 r hr⟩
 have hWc9:Hid (colsL W<=900):=hid (by
  by_cases h0:0<n
  ·rw[hWc h0];omega
  ·have:W= []:=List.eq_nil_of_length_eq_zero (by rw[hWs.out.1];omega)
   subst this;exact Nat.zero_le _)
 obtain⟨ua,uca,rfl,huca,hua⟩:=hu;have hu:MV (mk X w) (.slice ua m.length uca) m:=⟨ua,uca,rfl,huca,hua⟩;obtain⟨va,vca,rfl,hvca,hva⟩:=hv;have hhv:=hva.hd;rw[hnn]at hfo hcol hu |-;rw[hbl]at hvca hhv |-;have hw2:wrap64 ((c:Int)+1)=((c+1:Nat):Int):=by rw[IntWalk.wrap64_in _ (by omega)];omega
 have hneq:((n:Int) !=(n:Int))=false:=a8S rfl;clear hf hnn hcc hsh huca hua hW hT hWc hbl;go_enter Tryz.func130,Tryz.ntmps130
 go_wp2_with fail
 refine hfo.mono ?_;rintro e w1 ⟨rfl,rfl⟩;go_wp2_with fail
 refine hcol.mono ?_;rintro e w2 ⟨rfl,rfl⟩;go_wp2_with fail
 refine(a4h X w2 n (c+1) hX (by omega) (by omega)).mono ?_;rintro e w3 ⟨hE3,ao,cap,hs,rfl,hM3⟩;rw[List.length_replicate];have hlen:Hid (hs.length=n):=hid (by rw[hM3.len];simp);have hhO:Hd ao n:=by have:=hM3.outer.hd;rw[hlen.out]at this;exact this
 have hX3:=hX.ext hE3;have hZ3:=hM3.hz hX3;have hu3:=hM3.old MV.mono hu hE3 (Nat.le_refl _) (fun _ _ h=>h);have hv3:=hva.mono QV.mono (fun a v h=>((a0R (X:=X) (Z:=mz X ao hs) hE3 (fun k _ hk=>by simp[noY]at hk) fun k hk hz=>by
  rcases a0y.1 hz with a|a
  ·exact a
  ·have:=(hM3.mb_block (a1t.2 a)).1;omega) a v h))
 obtain⟨V,hV⟩:∃V,b2e n (c+1)=V:=⟨_,rfl⟩;have hVl:Hid (V.length=n):=hid (by rw[<-hV];exact a6q _ _);have hVg:Hid (∀i (h:i<V.length),V[i]=List.replicate (c+1) 0):=hid fun i h=>by subst hV;exact a6r h
 have hWV:Hid (W.length=V.length):=hid (by rw[hVl.out];exact hWs.out.1)
 change MO X w2.heap.size _ _ w3 ao cap hs (b2e n (c+1))at hM3
 rw[hV,<-a2B W V]at hM3;have hco:=a2K (mz X ao hs) w3 _ m n c hZ3 hu3 hsh'.out hcc'.out (by omega) (by omega);clear hfo hcol hu hu3 hV;go_wp2_with fail
 refine hco.mono ?_;rintro e w4 ⟨hE4,bo,capb,hs4,rfl,hM4⟩;have hmc4:=hM4.mc;rw[hnn'.out]at hmc4 |-;have hM34:=hM3.ext0 hE4;have hE04:=hE3.trans hE4;obtain⟨ba,bca,heq,hbca,hsb⟩:=hmc4;simp only[Value.slice.injEq]at heq;obtain⟨rfl,hx9,rfl⟩:=heq;clear hx9;have hhb:=hsb.hd;rw[hnn'.out]at hhb;obtain⟨Z,hZe⟩:∃Z,mz X ao hs=Z:=⟨_,rfl⟩;have hZ':=hid hZe;rw[hZe]at hsb hZ3 hv3;have hv4:=hv3.mono QV.mono (a0o hE4);clear hv3;clear hco hM3 hM4 hZe;go_wp2_with fail
 go_loopw [33] (fun k wr=>∃(i:Nat),k= .int .i64 i/\i<=n/\MO X w2.heap.size 45 32 wr ao cap hs (mix W V i)/\Sl RC 1 (mk Z wr) bo m/\Sl QV 3 (mk Z wr) va b/\Ext w2 wr) (fun k _=>n - (intOf k).toNat)
 case atStart=>exact⟨0,rfl,Nat.zero_le _,hM34,hsb,hv4,hE04⟩
 case round=>
  obtain⟨i,rfl,hi,hM,hsb,hva,hE⟩:=hrel;by_cases hlt:i<n
  ·have him:i<m.length:=by rw[hnn'.out];exact hlt
   obtain⟨a1,c1,hX1,hc1,hcl1,hq1⟩:=hsb.row i him;have k00:=hc1.out noY wr (ExtX.refl _) rfl;have hxl:Hid (m[i].length=c):=hid (hsh'.out.2 _ (List.getElem_mem _));have hiV:i<V.length:=by rw[hVl.out];exact hlt
   have hiW:i<W.length:=by rw[hWV.out];exact hiV
   have hib:i<b.length:=by rw[hbl'.out];exact hlt
   have hWi:=hid (hwg.out i hiW him hib);have hVi:=hid (hVg.out i hiV);obtain⟨x,hx⟩:∃x,m[i]=x:=⟨_,rfl⟩;rw[hx]at k00 hcl1 hq1 hxl hWi;rw[hxl.out]at k00 hcl1;have hh1:Hd a1 c:=by have:=hq1.hd;rw[hxl.out]at this;exact this
   have hih:i<hs.length:=by rw[hlen.out];exact hlt
   have hmi:i<(mix W V i).length:=by rw[a1p hWV.out];exact hiW
   have hmg:Hid ((mix W V i)[i]=List.replicate (c+1) 0):=hid (by rw[a0N hWV.out,if_neg (by omega)];exact hVi.out);have hms:Hid ((mix W V i).set i (x++[b[i]])=mix W V (i+1)):=hid (by rw[<-hWi.out];exact a3r hWV.out hiW);obtain⟨a,na,cr,hhd⟩:∃a na cr,hs[i]=(a,na,cr):=⟨_,_,_,rfl⟩;have hna:na=c+1:=by
    have:=hM.rlen i hih hmi;rw[hhd,hmg.out,List.length_replicate]at this;exact this
   have hR:=hM.row i hih hmi;rw[hmg.out]at hR;simp only[hhd]at hR;have hz1:=fun k (hk:ob a k=true)=>hM.mz_sub hih k (by rw[hhd];exact hk);have hsp:=fun k (hk:ob a k=true)=>hM.sep i hih k (by rw[hhd];exact hk);have hun:Hid (un (cut (mz X ao hs) a) a=Z):=hid (by rw[a2I hz1];exact hZ'.out);have hda:Hd a na:=by have:=hR.hd;rw[List.length_replicate,<-hna]at this;exact this
   have hna':=hid hna;have y1:wr.cell? (adr ao i)=some (.slice a na cr):=by
    have:=(hM.hdr i hih).1;rw[hhd]at this;exact this
   have haob:Hid (ob a (adr ao i).block=false):=hid (by
    cases hb:ob a (adr ao i).block
    ·rfl
    ·have h1:=(hsp _ hb).2
     obtain⟨b0,o0,rfl⟩:=hhO (by omega);simp[ob,adr]at h1)
   have hhd':=hid hhd;have hRl:Hid ((List.replicate (c+1) (0:Rat)).length=na):=hid (by rw[hna];exact List.length_replicate);have hqz:Sl QC 3 (mk (un (cut (mz X ao hs) a) a) wr) a1 x:=by rw[hun.out];exact hq1
   clear hc1 hx hhd hna;obtain⟨wo,hwo⟩:∃wo,wo=wr:=⟨_,rfl⟩;subst hwo;go_wp2_with (first|(with_reducible refine a0t a0r (by omega) (by assumption) ?_)|(refine a7k a0E QC.elem x rfl hRl.out rfl hxl.out hR hqz (by rw[hna'.out];omega) (by have:=hpos (by omega);omega) ?_;intro w5 hO5 hE5;have y5:=hE5.cellY y1 haob.out))
   have hxi:x++List.drop c (List.replicate (c+1) (0:Rat))=x++[0]:=by rw[List.drop_replicate,show c+1 - c=1 by omega];rfl
   rw[hxi]at hO5;have hzz:∀k,ob a k=true->Z k=true:=fun k hk=>by rw[<-hZ'.out];exact hz1 k hk
   have hxr:Hid ((x++[(0:Rat)]).length=na):=hid (by rw[List.length_append,hxl.out,hna'.out];rfl);have hM5:=hM.upd hih (l:=x++[(0:Rat)]) (show ExtX (ob hs[i].1) wo w5 by rw[hhd'.out];exact hE5) (fun hi'=>by rw[hmg.out,List.length_replicate,hxr.out,hna'.out]) (by rw[hhd'.out];exact hO5);have hsb5:=hsb.mono RC.mono (a0O hE5 hzz);have hE05:=hM.ext_from hE (Nat.le_refl _) (ExtX.row hih (show ExtX (ob hs[i].1) wo w5 by rw[hhd'.out];exact hE5));have hput:Hid ((x++[(0:Rat)]).set c b[i]=x++[b[i]]):=hid (by rw[List.set_append_right _ _ (by rw[hxl.out];exact Nat.le_refl _),hxl.out,Nat.sub_self];rfl);have hni:c<(x++[(0:Rat)]).length:=by rw[hxr.out,hna'.out];omega
   have hZ5:HX Z w5:=by
    have h1:=hM5.hz (hX.ext hE05);rw[hZ'.out]at h1;exact h1
   have hEd:Ext w5 w5.drew:=(ExtX.refl w5).drew;obtain⟨g4,o4,s4,a4,n4,c4,d4,k4,e4,hg4,hX4,hc4,hq4⟩:=hva.rat QV.shaped i hib;have hab4:Hid (ob a g4=false):=hid (by
    cases hb:ob a g4
    ·rfl
    ·have:=hzz g4 hb;rw[hX4]at this;simp at this)
   have hv5:=hva.mono QV.mono (a0O hE5 hzz);have hq5:QV (mk Z w5.drew) (.agg #[.bool s4, .slice a4 n4 c4, .slice d4 k4 e4]) b[i]:=mkx QV.mono (QV.mono _ _ _ _ (a0O hE5 hzz) hq4) hEd;obtain⟨v,hv⟩:∃v,b[i]=v:=⟨_,rfl⟩;rw[hv]at hput hq5 hms;obtain⟨L,hL⟩:∃L,x++[(0:Rat)]=L:=⟨_,rfl⟩;rw[hL]at hO5 hM5 hxr hput hni;obtain⟨L2,hL2⟩:∃L2,x++[v]=L2:=⟨_,rfl⟩;rw[hL2]at hput hms;have hL2l:Hid (L2.length=L.length):=hid (by rw[<-hput.out,List.length_set]);obtain⟨g,o,hg⟩:∃g o,adr a (c*3)=⟨g,o,none⟩:=⟨_,_,rfl⟩;have i2:∀W,(Instr.indexAt 45 (.slice a na cr) (.int .i64 (c:Int))).run Tryz.prog W= .ok (.pointer (some ⟨g,o,none⟩)) W:=by
    rw[<-hg];exact a0n a0E a na cr .i64 c hda (by rw[hna'.out];omega)
   have i3:∀W,(Instr.indexAt 45 (.slice va n vca) (.int .i64 (i:Int))).run Tryz.prog W= .ok (.pointer (some ⟨g4,o4,none⟩)) W:=by
    rw[<-hg4];exact a0n a0E va n vca .i64 i hhv (by omega)
   have i1:∀W,(Instr.indexAt 25 (.slice ao n cap) (.int .i64 (i:Int))).run Tryz.prog W= .ok (.pointer (some (adr ao i))) W:=a0z a0r ao n cap .i64 i hhO (by omega) rfl;have hg':=hid hg;have hS:Hid (∀Y W',ExtX Y w5.drew W'->Y (adr ao i).block=false->Y g4=false->W'.cell? (adr ao i)=some (.slice a na cr)/\W'.cell? ⟨g4,o4,none⟩=some (.bool s4)/\W'.cell? ⟨g4,o4+1,none⟩=some (.slice a4 n4 c4)/\W'.cell? ⟨g4,o4+2,none⟩=some (.slice d4 k4 e4)):=hid fun Y W' h hy1 hy2=>by
    have p:=hc4.out (ob a) w5.drew (hE5.trans (ExtX.of hEd)) hab4.out;exact⟨h.cellY (hEd.cell y5) hy1,h.cellY p.1 hy2,h.cellY p.2.1 hy2,h.cellY p.2.2 hy2⟩
   obtain⟨k20,k30,k31,k32⟩:=hS.out noY w5.drew (ExtX.refl _) rfl rfl;have hO5d:=hO5.ext0 QC.elem hEd;have h00:QV (mk Z w5.drew) (.agg #[.bool false, .slice none 0 0, .slice none 0 0]) 0:=(QC.zero _).qv (by rw[a0Q];decide);have qf:=b2H Z w5.drew _ _ _ 0 (hZ5.ext hEd) hq5 h00;rw[Rat.add_zero]at qf;have hun':Hid (un (cut (mz X ao hs) a) a=Z):=hun;clear hxi hL hL2 hg hg4 hc4 hq4 hv y1 y5 hR hqz hq1 k00 hM hsb hva;go_region_held3 (fun w'=>w'.cell? (adr ao i)=some (.slice a na cr)/\w'.cell? ⟨g4,o4,none⟩=some (.bool s4)/\w'.cell? ⟨g4,o4+1,none⟩=some (.slice a4 n4 c4)/\w'.cell? ⟨g4,o4+2,none⟩=some (.slice d4 k4 e4))
    (first|exact hS.out noY _ t1 rfl rfl|exact hS.out (ob a) _ ((ExtX.of t1).trans hset.2) haob.out hab4.out|go_keep)
    ((go_at_call 146;(with_reducible refine qf.mono ?_);rintro ee w6 ⟨t1,u6,rfl,hu6⟩;obtain⟨s6,a6,n6,c6,d6,k6,e6,rfl⟩:=hu6.shape;have hO6:=hO5d.ext0 QC.elem t1;obtain⟨_,v0,v1,v2,_,⟨g0,f0⟩,⟨g1,f1⟩,⟨g2,f2⟩,_⟩:=hO6.cell3 c hni hg'.out;have hset:=hO6.set3 a6c QC.elem c hni hg'.out (v0:= .bool s6) (v1:= .slice a6 n6 c6) (v2:= .slice d6 k6 e6) (x:=v) (by rw[hun'.out];exact hu6)))
   obtain⟨q1,q2⟩:=hset;rw[hput.out]at q1;obtain⟨w8,hw8⟩:∃w8,((w6.setCell ⟨g,o,none⟩ (.bool s6)).setCell ⟨g,o+1,none⟩ (.slice a6 n6 c6)).setCell ⟨g,o+2,none⟩ (.slice d6 k6 e6)=w8:=⟨_,rfl⟩;rw[hw8]at q1 q2 |-;have q2':ExtX (ob hs[i].1) w6 w8:=by rw[hhd'.out];exact q2
   have hM6:=hM5.ext0 (hEd.trans t1);have hM7:=hM6.upd hih (l:=L2) q2' (fun hi'=>by rw[List.getElem_set_self];exact hL2l.out) (by rw[hhd'.out];exact q1);rw[List.set_set,hms.out]at hM7;have hs8:=(hsb5.mono RC.mono (a0o (hEd.trans t1))).mono RC.mono (a0O q2 hzz);have hv8:=(hv5.mono QV.mono (a0o (hEd.trans t1))).mono QV.mono (a0O q2 hzz);have hE8:=hM6.ext_from (hE05.trans (hEd.trans t1)) (Nat.le_refl _) (ExtX.row hih q2');clear k20 k30 k31 k32 g0 g1 g2 f0 f1 f2 i1 i2 i3 hw8;go_wp2_with fail
   go_roundw
   case rel=>exact⟨i+1,by go_num,by omega,hM7,hs8,hv8,hE8⟩
   case measure=>simp[intOf];omega
  ·have hin:i=n:=by omega
   subst hin;rw[a2C (by rw[hWs.out.1];exact Nat.le_refl _) (by rw[hVl.out];exact Nat.le_refl _)]at hM;have hXr:=hX.ext hE;have hZr:=hM.hz hXr;obtain⟨wo,hwo⟩:∃wo,wo=wr:=⟨_,rfl⟩;subst hwo;go_wp2_with ((with_reducible show wpList _ _ _ (⟨_, .makeSlice _ _ _,_,_,_,_⟩::_) _ _);refine a1Z (R:=QC) a0E QC.elem (0:Rat) (fun _=>QC.zero _) (mz X ao hs) hZr wo.heap.size (Nat.le_refl _) c rfl rfl rfl (by omega) (by omega) ?_;intro oo w5 hO5 hE5)
   have hw2o:=hE.size;have hob:=fun k (hk:ob oo k=true)=>hO5.block hk;have hoX:∀k,ob oo k=true->X k=false:=fun k hk=>by
    cases hx:X k
    ·rfl
    ·have:=(hob k hk).1;have:=hXr k hx;omega
   have hM5:MO (un X oo) w2.heap.size 45 32 w5 ao cap hs W:=hM.ext hE5 (fun k _ hk=>by simp[noY]at hk) (fun k hk hx=>by
    cases hb:ob oo k
    ·simpa[un,hb]using hx
    ·have:=(hob k hb).1;omega)
   have hX5:HX (un X oo) w5:=fun k hk=>by
    by_cases hx:X k=true
    ·exact hXr.ext hE5 k hx
    ·exact(hob k (by simpa[un,hx]using hk)).2
   have hE05:=hE.trans hE5;have hmr:=a3O (un X oo) w2.heap.size w5 ao cap i (colsL W) hs W hX5 hM5 hWcs.out rfl (by omega) hWc9.out hTt.out;rw[hRc.out]at hmr;have hok:=a0X hWs.out;obtain⟨⟨R,p⟩,hRp⟩:∃S,a1i W (c+1)=S:=⟨_,rfl⟩;rw[hRp]at hmr hok;have hRp':=hid hRp
   dsimp only at hok
   have hRs:=hid hok.1;have hRr:=hid hok.2.1;have hob':=hid hob;have hoX':=hid hoX;have hXr':=hid hXr;obtain⟨pl,hpl⟩:∃pl,p.length=pl:=⟨_,rfl⟩;have hpl':=hid hpl;have hpn:pl<=i:=by have:=hok.2.1.le;omega
   clear hok hM hM34 hsb hva hRp hob hoX hXr hX5;refine hmr.mono ?_;rintro ee w7 ⟨hE7,po,pc,hs',rfl,hmb,hM7,hP7⟩
   dsimp only at hM7 hP7 |-
   rw[hpl];have hE07:=hM5.ext_from hE05 (Nat.le_refl _) hE7;have hlen2:=hid (hM7.len.trans hRs.out.1);have hdP:Hd po pl:=by have:=hP7.hd;rw[hpl]at this;exact this
   have hpb:=hid (fun k (hk:ob po k=true)=>hP7.block hk);have hdO:Hd oo c:=by have:=hO5.hd;rw[List.length_replicate]at this;exact this
   obtain⟨M,hMe⟩:∃M,mz (un (un X oo) po) ao hs'=M:=⟨_,rfl⟩;have hM':=hid hMe;have hO7:OL QC 3 (cut M oo) wo.heap.size 32 w7 oo c (sN R p c 0):=hO5.ext QC.elem hE7 (fun k _ hk=>a0y.2 (.inr (a1t.1 hk))) (fun k hk hz=>by
    obtain⟨h1,h2⟩:=a5H hz;rw[<-hMe]at h1;rcases a0y.1 h1 with h|h
    ·by_cases hx:X k=true
     ·exact a0y.2 (.inl hx)
     ·have:ob po k=true:=by simpa[un,hx,h2]using h
      have:=(hpb.out k this).1;omega
    ·have h3:mb ao hs' k=true:=a1t.2 h
     rw[hmb]at h3;exact a0y.2 (.inr (a1t.1 h3)))
   have hoM:Hid (∀k,ob oo k=true->M k=true):=hid fun k hk=>by rw[<-hMe];exact a0y.2 (.inl (a0p (a0q hk)))
   clear hmr hM5 hO5 hmb hMe hpl;go_wp2_with fail
   go_loopw [62] (fun k wr=>∃(j:Nat),k= .int .i64 j/\j<=pl/\MO (un (un X oo) po) w2.heap.size 45 32 wr ao cap hs' R/\OL QC 3 (cut M oo) wo.heap.size 32 wr oo c (sN R p c j)/\OL (a0b .i64) 1 (mz (un X oo) ao hs) w5.heap.size 3 wr po pc p/\Hid (∀k (hk:k<p.length),k<j->p[k]≠c)/\Ext w2 wr) (fun k _=>pl - (intOf k).toNat)
   case atStart=>exact⟨0,rfl,Nat.zero_le _,hM7,hO7,hP7,hid (fun k _ h=>by omega),hE07⟩
   case round=>
    obtain⟨j,rfl,hj,hM,hO,hP,hne,hE⟩:=hrel;by_cases hlj:j<pl
    ·have hjp:j<p.length:=by rw[hpl'.out];exact hlj
     have hcl:=(hP.sl (a0b.elem _)).nat j hjp;have hpc1:Hid (p[j]<c+1):=hid (hRr.out.lt j hjp);have hgd:Hid (p.getD j 0=p[j]):=hid (by simp[List.getD_eq_getElem?_getD,hjp]);have hmem:Hid (p[j]∈p):=hid (List.getElem_mem _);obtain⟨q,hq⟩:∃q,p[j]=q:=⟨_,rfl⟩;rw[hq]at hcl hpc1 hgd hmem;have hq':=hid hq;clear hq;by_cases hqc:q=c
     ·have hb:((q:Int)==(c:Int))=true:=a7n (by omega)
      have hmem2:Hid (c∈p):=hid (hqc▸hmem.out);clear hqc;go_wp2_with (with_reducible refine a0t a6A (by omega) (by assumption) ?_)
      go_ret2
      unfold a8M;rw[hRp'.out];exact⟨hE, .inl ⟨hmem2.out,rfl⟩⟩
     ·have hb:((q:Int)==(c:Int))=false:=a3E (by omega)
      have hqc1:q<c:=by have:=hpc1.out;omega
      have hne2:Hid (∀k (hk:k<p.length),k<j+1->p[k]≠c):=hid fun k hk hkj=>by
       by_cases h:k=j
       ·subst h;rw[hq'.out];exact hqc
       ·exact hne.out k hk (by omega)
      have hjh:j<hs'.length:=by rw[hlen2.out];omega
      have hjR:j<R.length:=by rw[hRs.out.1];omega
      have hrl:=hid (hRs.out.2 R[j] (List.getElem_mem _));obtain⟨a,na,cr,hhd⟩:∃a na cr,hs'[j]=(a,na,cr):=⟨_,_,_,rfl⟩;have hna:na=c+1:=by
       have:=hM.rlen j hjh hjR;rw[hhd,hrl.out]at this;exact this
      have hR:=hM.row j hjh hjR;simp only[hhd]at hR;have hz1:=fun k (hk:ob a k=true)=>hM.mz_sub hjh k (by rw[hhd];exact hk);have hun:Hid (un (cut (mz (un (un X oo) po) ao hs') a) a=M):=hid (by rw[a2I hz1];exact hM'.out);have hda:Hd a na:=by have:=hR.hd;rw[hrl.out,<-hna]at this;exact this
      have y1:wr.cell? (adr ao j)=some (.slice a na cr):=by
       have:=(hM.hdr j hjh).1;rw[hhd]at this;exact this
      have hcR:c<R[j].length:=by rw[hrl.out];omega
      have hev:Hid (R[j][c]=ent R j c):=hid (by unfold ent;rw[a2c hjR];simp[List.getD_eq_getElem?_getD,hcR]);have hunO:Hid (un (cut M oo) oo=M):=hid (a2I hoM.out);have hqO:q<(sN R p c j).length:=by rw[a8p];exact hqc1
      have hsn:Hid ((sN R p c j).set q (ent R j c)=sN R p c (j+1)):=hid (by rw[<-hgd.out];rfl);have hna':=hid hna;have hcna:c<na:=by omega
      clear hhd hna hqc;go_wp2_with (first|(with_reducible refine a0t a6A (by omega) (by assumption) ?_)|(with_reducible refine a0t a0r (by omega) (by assumption) ?_)|(with_reducible refine a2r a0E (by omega) (by assumption) ?_)|((with_reducible show wpList _ _ _ (⟨_, .load 32 _,_,_,_,_⟩::_) _ _);refine a4i a0w c hR hcR rfl (by simp) QC.agg ?_;intro u6 hu6;rw[hev.out,hun.out]at hu6;obtain⟨s6,a6,n6,c6,d6,k6,e6,rfl⟩:=hu6.shape)|((with_reducible show wpList _ _ _ (⟨_, .store 32 _ _,_,_,_,_⟩::_) _ _);refine a2O a6c QC.elem q rfl (by simp) hO hqO _ (ent R j c) rfl (by rw[hunO.out];exact hu6) ?_;intro w8 hO8 hE8))
      rw[hsn.out]at hO8;have hM8:=hM.ext (X':=un (un X oo) po) hE8 (fun k _ hk=>a0p (a0q hk)) (fun _ _ h=>h);have hP8:=hP.frame (a0b.pure _) hE8 (fun k hk=>by
       cases hb:ob oo k
       ·rfl
       ·have:=(hpb.out k hk).1;have:=(hob'.out k hb).2;omega) hP.1
      have hE9:=hE.then_ hE8 fun k hk _=>by
       cases hb:ob oo k
       ·rfl
       ·have:=(hob'.out k hb).1;omega
      clear y1 hcl;go_roundw
      case rel=>exact⟨j+1,by go_num,by omega,hM8,hO8,hP8,hne2,hE9⟩
      case measure=>simp[intOf];omega
    ·have hjl:j=pl:=by omega
     subst hjl;have hnp:c∉p:=fun hm=>by
      obtain⟨k,hk,hkc⟩:=List.getElem_of_mem hm;exact hne.out k hk (by rw[<-hpl'.out];exact hk) hkc
     have hs:=(hO.sl QC.elem).mono QC.mono (a1m (X:=X) fun k _ hk=>a2J (by rw[<-hM'.out];exact a0y.2 (.inl (a0p (a0p hk)))) (by
      cases hb:ob oo k
      ·rfl
      ·have:=hoX'.out k hb;rw[hk]at this;simp at this))
     have hlc:=hO.lenCap;go_wp2_with fail
     go_ret2
     rw[<-hpl'.out]at hs hlc;unfold a8M;rw[hRp'.out];exact⟨hE, .inr ⟨hnp, .slice oo c c,rfl,oo,c,by show Value.slice oo c c=Value.slice oo (sN R p c p.length).length c;rw[a8p],hlc,hs⟩⟩
end Go.Proofs.YtkddecjkfdogiaaGreat
namespace Go.Lin
noncomputable def fmS (m:Mom):Mat×List Nat:=a1i (a2y m.xx m.xy m.xx.length) (m.xx.length+1)
noncomputable def fmC (m:Mom):List Rat:=b2E (fmS m).1 (fmS m).2 m.xx.length
theorem b4a (m:Mom):(fmC m).length=m.xx.length:=a7G _ _ _
theorem a5K {m:Mom} (h:a3b m=true):(0<=m.n/\m.n<=1099511627776)/\a0x m.xx=true/\m.xx.length=colsL m.xx/\m.xx.length=m.xy.length/\m.xy.length<=12:=by
 unfold a3b at h;rw[Bool.and_eq_true,Bool.and_eq_true,decide_eq_true_eq,decide_eq_true_eq]at h;exact⟨h.1,h.2.1,h.2.2.1,h.2.2.2.1,h.2.2.2.2⟩
end Go.Lin
namespace Go.Proofs.YtkddecjkfdogiaaGreat
open Go.RowKit Go.Rep Go.Lim Go.Lin
theorem a4y {P:Program} {w:World} {fn:Func} {tmps:Array Value} {c0 c c2 c3:Tmp} {t:TypeId} {n b:Nat} {cs:Array Value} {T:TypeId} (h:fn.results=#[.tmp c0, .cell c t, .tmp c2, .tmp c3]) (hp:tmps.getD c undef= .pointer (some ⟨b,0,none⟩)) (hT:a1F P t n) (hb:Bx w b cs T) (hcs:cs.size=n):
  (results fn tmps).run P w= .ok (.tuple #[tmps.getD c0 undef, .agg cs,tmps.getD c2 undef,tmps.getD c3 undef]) w:=by
 have hl:=a2s (P:=P) hT hb hcs;rw[Array.getD_eq_getD_getElem?]at hp;simp[results,h,hp,asAddr,hl]
def b0G (X:Nat->Bool) (w:World) (m:Mom) (e:Ending) (w':World):Prop:=Ext w w'/\∃z u k c,e= .returned (.tuple #[z,u, .int .i64 k, .int .i64 c])/\
 ((a3b m=false/\c=4/\k=0/\RC (mk X w') z []/\QC (mk X w') u 0)\/(a3b m=true/\m.xx.length∈(fmS m).2/\c=11/\k=0/\RC (mk X w') z []/\QC (mk X w') u 0)\/(a3b m=true/\m.xx.length∉(fmS m).2/\c=0/\k=(a6Q m.xx m.xx.length:Int)/\RC (mk X w') z (fmC m)/\QC (mk X w') u (m.yy - a3q (fmC m) m.xy)))
set_option maxRecDepth 100000 in
set_option maxHeartbeats 3200000 in
theorem b0H (X:Nat->Bool) (w:World) (u:Value) (m:Mom) (hX:HX X w) (hu:b0W (mk X w) u m) (hl:m.xx.length<=4) (hB:BMo 5929 m):
  Calls Tryz.prog 52 #[u] w (b0G X w m):=by
 have hfo:=hid fun w' (h:Ext w w')=>a5l X w' u m (hX.ext h) (mkx b0W.mono hu h) (by omega);obtain⟨xo,xl,xc,yo,yl,yc,s,a,n,c,d,k,e,rfl,hx,hy,hqq⟩:=hu;obtain⟨W,hW,hE,b0,b1,hz⟩:=a1Y w #[.int .i64 m.n, .slice xo xl xc, .slice yo yl yc, .bool s, .slice a n c, .slice d k e] #[.bool false, .slice none 0 0, .slice none 0 0] 83 32;have hXW:HX (a0i X w.heap.size 2) W:=hX.boxes hz;have hle:Hid (∀w',Ext W w'->Le (mk X w) (mk (a0i X w.heap.size 2) w')):=hid fun w' h=>a0s (hE.trans h);obtain⟨b,hb⟩:∃b,w.heap.size=b:=⟨_,rfl⟩;have hbw:w.heap.size<=b:=by omega
 rw[hb]at b0 b1 hz hXW hle;obtain⟨N,hN⟩:∃N,m.n=N:=⟨_,rfl⟩;rw[hN]at b0 hW hfo |-;have k0:=b0.cell 0 rfl;have k1:=b0.cell 1 rfl;have k2:=b0.cell 2 rfl;have k3:=b0.cell 3 rfl;have k4:=b0.cell 4 rfl;have k5:=b0.cell 5 rfl;have h0:QC (mk X W) (.agg #[.bool false, .slice none 0 0, .slice none 0 0]) 0:=QC.zero _;cases hok:a3b m
 ·have hf1:=hfo.out W hE
  rw[hok]at hf1;have hok':=hid hok;clear hfo hok hN;go_enter Tryz.func52,Tryz.ntmps52
  go_wp2_with fail
  refine hf1.mono ?_;rintro ee w1 ⟨hE1,rfl⟩;have b11:=b1.ext0 hE1;clear hf1 k0 k1 k2 k3 k4 k5;go_wp2_with ((with_reducible show wpList _ _ _ (⟨_, .store 32 _ _,_,_,_,_⟩::_) _ _);refine a0c a0w rfl rfl b11 rfl rfl (a3n _ _ _ _ _ _ _) ?_;intro w7 r1 r2)
  have hE7:Ext w w7:=ExtX.box (hE.trans hE1) r2 (by omega);exact bodyPost_ret (a4y rfl rfl a0w r1 rfl) rfl ⟨hE7,_,_,_,_,rfl, .inl ⟨hok'.out,rfl,rfl,SlV.zero _ _ _,QC.zero _⟩⟩
 ·obtain⟨_,hf,hsq,hxy,_⟩:=a5K hok
  obtain⟨B1,B2,B3⟩:=hB;obtain⟨hsh,_,_,_,_⟩:=a0K hf;rw[<-hsq]at hsh;have hhb:=a7D B1 (by decide);have hTw:=(a4w (a1V (b:=m.xy) hsh) (a8A hsh hhb B2) hl (by decide)).1;have hTe:=(a4w hsh hhb hl (by decide)).1.e;have hcb:BR 8000000 (fmC m):=fun q hq=>Nat.le_trans (b0A hsh hhb B2 hl q hq) (by decide);have hcl:=b4a m;have hdb:=a2q (l:=fmC m) (m:=m.xy) hcb (fun q hq=>Nat.le_trans (B2 q hq) (by decide)) (by decide) (by omega) (by decide);have hdq:Hid (hq (a3q (fmC m) m.xy)<=68719476736):=hid (hdb.1 _ (Nat.le_refl _));have hsol:=hid fun w' (h:Ext W w') (u v:Value) (h1:MV (mk (a0i X b 2) w') u m.xx) (h2:RV (mk (a0i X b 2) w') v m.xy)=>b2g (a0i X b 2) w' u v m.xx m.xy m.xx.length m.xx.length (hXW.ext h) h1 h2 hf rfl hsq.symm hxy.symm hTw;have hrk:=hid fun w' (h:Ext W w') (u:Value) (h1:MV (mk (a0i X b 2) w') u m.xx)=>b3Z (a0i X b 2) w' u m.xx (hXW.ext h) h1 hf (by rw[<-hsq];exact hTe);have hdo:=hid fun w' (u v:Value) (hX':HX (a0i X b 2) w') (h1:RV (mk (a0i X b 2) w') u (fmC m)) (h2:RV (mk (a0i X b 2) w') v m.xy)=>a4S (a0i X b 2) w' u v (fmC m) m.xy hX' h1 h2 (by omega) (by omega) hdb.1 hdb.2;have hxv:=hid fun w' (h:Ext W w')=>MV.mono _ _ _ _ (hle.out w' h) hx;have hyv:=hid fun w' (h:Ext W w')=>RV.mono _ _ _ _ (hle.out w' h) hy;have hqv:=hid fun w' (h:Ext W w')=>QV.mono _ _ _ _ (hle.out w' h) hqq;have hin:Hid (m.xx.length∈(fmS m).2->∀(w':World) z u,Ext w w'->RC (mk X w') z []->QC (mk X w') u 0->b0G X w m (.returned (.tuple #[z,u, .int .i64 0, .int .i64 11])) w'):=hid fun h1 w' z u hE hz hu=>⟨hE,z,u,_,_,rfl, .inr (.inl ⟨hok,h1,rfl,rfl,hz,hu⟩)⟩;have hout:Hid (m.xx.length∉(fmS m).2->∀(w':World) z u,Ext w w'->RC (mk X w') z (fmC m)->QC (mk X w') u (m.yy - a3q (fmC m) m.xy)->b0G X w m (.returned (.tuple #[z,u, .int .i64 (a6Q m.xx m.xx.length:Int), .int .i64 0])) w'):=hid fun h1 w' z u hE hz hu=>⟨hE,z,u,_,_,rfl, .inr (.inr ⟨hok,h1,rfl,rfl,hz,hu⟩)⟩;have hf1:=hfo.out W hE;rw[hok]at hf1;rw[<-hsq]at hrk;unfold a8M at hsol;obtain⟨D,hD⟩:∃D,a3q (fmC m) m.xy=D:=⟨_,rfl⟩;rw[hD]at hdq hdo hout;obtain⟨F,hF⟩:∃F,b0G X w m=F:=⟨_,rfl⟩;rw[hF]at hin hout |-;obtain⟨rk,hrk2⟩:∃rk,a6Q m.xx m.xx.length=rk:=⟨_,rfl⟩;rw[hrk2]at hrk hout;have hSe:a1i (a2y m.xx m.xy m.xx.length) (m.xx.length+1)=fmS m:=rfl;rw[hSe]at hsol;have hCe:b2E (fmS m).1 (fmS m).2 m.xx.length=fmC m:=rfl;rw[hCe]at hsol;obtain⟨C,hC⟩:∃C,fmC m=C:=⟨_,rfl⟩;rw[hC]at hsol hdo hout hcl hcb;obtain⟨S,hS2⟩:∃S,fmS m=S:=⟨_,rfl⟩;rw[hS2]at hsol hin hout;obtain⟨q,hqe⟩:∃q,m.xx.length=q:=⟨_,rfl⟩;rw[hqe]at hsol hin hout hcl;have hCb:Hid (BR 68719476736 C):=hid fun x hx=>Nat.le_trans (hcb x hx) (by decide);have hCl:=hid hcl;clear hfo hok hN hf hsq hxy hsh hhb hTw hTe hcb hdb hx hy hqq hD hF hrk2 hSe hCe hC hS2 hqe B1 B2 B3 hl hcl;go_enter Tryz.func52,Tryz.ntmps52
  go_wp2_with fail
  refine hf1.mono ?_;rintro ee w1 ⟨hE1,rfl⟩;have b01:=b0.ext0 hE1;have b11:=b1.ext0 hE1;have j1:=b01.cell 1 rfl;have j2:=b01.cell 2 rfl;have hs1:=hsol.out w1 hE1 _ _ (hxv.out w1 hE1) (hyv.out w1 hE1);clear hf1 k0 k1 k2 k3 k4 k5 hsol;go_wp2_with fail
  refine hs1.mono ?_;rintro ee w2 ⟨hE2,hor⟩;have hE12:=hE1.trans hE2;rcases hor with⟨hmem,rfl⟩|⟨hmem,cv,rfl,hcv⟩
  ·have b12:=b1.ext0 hE12
   have hfin:=hid (hin.out hmem);clear hs1 hmem j1 j2 hin hout;go_wp2_with ((with_reducible show wpList _ _ _ (⟨_, .store 32 _ _,_,_,_,_⟩::_) _ _);refine a0c a0w rfl rfl b12 rfl rfl (a3n _ _ _ _ _ _ _) ?_;intro w7 r1 r2)
   have hE7:Ext w w7:=ExtX.box (hE.trans hE12) r2 (by omega);exact bodyPost_ret (a4y rfl rfl a0w r1 rfl) rfl (hfin.out w7 _ _ hE7 (SlV.zero _ _ _) (QC.zero _))
  ·have hfin:=hid (hout.out hmem)
   have b02:=b0.ext0 hE12;have i1:=b02.cell 1 rfl;have hr2:=hrk.out w2 hE12 _ (hxv.out w2 hE12);have hcv':=hid hcv;obtain⟨co,cc,rfl,_,_⟩:=hcv;rw[hCl.out]at hcv' |-;clear hs1 hmem j1 j2 hin hout hrk;go_wp2_with fail
   refine hr2.mono ?_;rintro ee w3 ⟨hE3,rfl⟩;have hE13:=hE12.trans hE3;have hEd:Ext w3 w3.drew:=(ExtX.refl _).drew;have hE1d:=hE13.trans hEd;have hS:Hid (∀w',Ext w3.drew w'->w'.cell? ⟨b,3,none⟩=some (.bool s)/\w'.cell? ⟨b,3+1,none⟩=some (.slice a n c)/\w'.cell? ⟨b,3+2,none⟩=some (.slice d k e)/\w'.cell? ⟨b,2,none⟩=some (.slice yo yl yc)):=hid fun w' h=>by
    have b9:=b0.ext0 (hE1d.trans h);exact⟨b9.cell 3 rfl,b9.cell 4 rfl,b9.cell 5 rfl,b9.cell 2 rfl⟩
   obtain⟨g0,g1,g2,g3⟩:=hS.out _ (ExtX.refl _);have hXd:HX (a0i X b 2) w3.drew:=hXW.ext hE1d;have hd3:=hdo.out w3.drew _ _ hXd ((mkx RC.mono hcv'.out (hE3.trans hEd)).rv hCb.out) (hyv.out _ hE1d);have hqd:=hqv.out w3.drew hE1d;clear hr2 i1 hdo;go_wp2_with fail
   go_region_held3 (fun w'=>w'.cell? ⟨b,3,none⟩=some (.bool s)/\w'.cell? ⟨b,3+1,none⟩=some (.slice a n c)/\w'.cell? ⟨b,3+2,none⟩=some (.slice d k e)/\w'.cell? ⟨b,2,none⟩=some (.slice yo yl yc))
    (first|exact hS.out _ t1|exact hS.out _ t2|exact⟨((b0.ext0 (hE1d.trans t2)).ext (bb2.set3 _ _ _).2 (a0e (by omega))).cell 3 rfl,((b0.ext0 (hE1d.trans t2)).ext (bb2.set3 _ _ _).2 (a0e (by omega))).cell 4 rfl,((b0.ext0 (hE1d.trans t2)).ext (bb2.set3 _ _ _).2 (a0e (by omega))).cell 5 rfl,((b0.ext0 (hE1d.trans t2)).ext (bb2.set3 _ _ _).2 (a0e (by omega))).cell 2 rfl⟩|go_keep)
    (first|(go_at_call 112;(with_reducible refine hd3.mono ?_);rintro ee w5 ⟨t1,u5,rfl,hu5⟩;have hX5:=HX.ext hXd t1;have hq5:=mkx QV.mono hqd t1;have hu5v:=hu5.qv hdq.out)|(go_at_call 132;(with_reducible refine(b5U (a0i X b 2) w5 _ _ _ _ hX5 hq5 hu5v).mono ?_);rintro ee w6 ⟨hE6,u6,rfl,hu6⟩;have t2:=t1.trans hE6;obtain⟨s6,a6,n6,c6,d6,k6,e6,rfl⟩:=hu6.shape;have bb2:=b1.ext0 (hE1d.trans t2);have f0:=bb2.cell 0 rfl;have f1:=bb2.cell 1 rfl;have f2:=bb2.cell 2 rfl;have f3:=bb2.frozen 0;have f4:=bb2.frozen 1;have f5:=bb2.frozen 2))
   all_goals
    obtain⟨r1,r2⟩:=bb2.set3 (.bool s6) (.slice a6 n6 c6) (.slice d6 k6 e6);have h7:=QC.mono _ _ _ _ a0m (QC.mono _ _ _ _ (a0h r2 (by omega) (by omega)) hu6);have hc7:=RC.mono _ _ _ _ a0m (RC.mono _ _ _ _ (a0h r2 (by omega) (by omega)) (mkx RC.mono hcv'.out (hE3.trans (hEd.trans t2))));have hEf:Ext w _:=ExtX.box (hE.trans (hE1d.trans t2)) r2 (by omega);clear g0 g1 g2 g3 f0 f1 f2 f3 f4 f5 hS;go_wp2_with fail
    exact bodyPost_ret (a4y rfl rfl a0w r1 rfl) rfl (hfin.out _ _ _ hEf hc7 h7)
set_option maxRecDepth 100000 in
set_option maxHeartbeats 1600000 in
theorem b2h (X:Nat->Bool) (w:World) (u v t:Value) (x:Mat) (y b:List Rat) (n c B:Nat) (hX:HX X w) (hu:MV (mk X w) u x) (hv:RV (mk X w) v y) (ht:RV (mk X w) t b) (hsh:Shp n c x) (hy:y.length=n) (hb:b.length=c) (hn:n<=96) (hc:c<=96) (hxB:BM B x) (hbB:BR B b) (hB1:1<=B) (hBB:200*B<=68000000000):
  Calls Tryz.prog 111 #[u,v,t] w (a2w X w RC (a4u x y b)):=by
 obtain⟨L,hL⟩:∃L,a4u x y b=L:=⟨_,rfl⟩;have hLl:Hid (L.length=n):=hid (by rw[<-hL,a8F (by rw[hy,hsh.1]),hsh.1]);have hLi:Hid (∀i (h1:i<x.length) (h2:i<y.length) (h:i<L.length),L[i]=y[i] - a3q x[i] b):=hid fun i h1 h2 h=>by subst hL;exact a7f h h1 h2
 have hLn:L.length<=n:=by rw[hLl.out];exact Nat.le_refl _
 have hnL:n<=L.length:=by rw[hLl.out];exact Nat.le_refl _
 obtain⟨ua,uc,rfl,huc,hus⟩:=hu;obtain⟨va,vc,rfl,hvc,hvs⟩:=hv;have hhu:=hus.hd;have hhv:=hvs.hd;have hxl:=hid hsh.1;have hyl:=hid hy;have hbl:=hid hb;have hrw:=hid hsh.2;have hxB':=hid hxB;have hbB':=hid hbB;rw[hsh.1]at hhu huc |-;rw[hy]at hhv hvc |-;rw[hL];clear hL hsh hy hb hxB hbB;go_enter Tryz.func111,Tryz.ntmps111
 go_wp2_with fail
 go_loopw [7,12] (fun o k wr=>∃(i:Nat) (oo:Option Addr) (co:Nat),k= .int .i64 i/\o= .slice oo i co/\i<=n/\OL QC 3 X w.heap.size 32 wr oo co (L.take i)/\Ext w wr) (fun _ k _=>n - (intOf k).toNat)
 case atStart=>exact⟨0,none,0,rfl,rfl,Nat.zero_le _,OL.nil _ _ _ _ _ _,ExtX.refl _⟩
 case round=>
  obtain⟨i,oo,co,rfl,rfl,hi,hO,hE⟩:=hrel;have hXr:HX X wr:=hX.ext hE;have hXu:HX (un X oo) wr:=hO.unX hXr;have hbase:=hE.size;by_cases hlt:i<n
  ·have hix:i<x.length:=by rw[hxl.out];exact hlt
   have hiy:i<y.length:=by rw[hyl.out];exact hlt
   have hiL:i<L.length:=by omega
   have hEd:Ext wr wr.drew:=(ExtX.refl wr).drew;have hsr:Sl RV 1 (mk (un X oo) wr) ua x:=hus.old RV.mono hE (fun j hj=>hO.ob_lt hj);have hyr:Sl QV 3 (mk (un X oo) wr) va y:=hvs.old QV.mono hE (fun j hj=>hO.ob_lt hj);have hbr:RV (mk (un X oo) wr) t b:=a5E RV.mono ht hE (fun j hj=>hO.ob_lt hj);have htk:=hid (a1C L i hiL);have hln:=hid (a2b (l:=L) (i:=i) (by omega));obtain⟨a1,c1,hX1,hc1,hcl1,hq1⟩:=hsr.row i hix;obtain⟨g2,o2,s2,a2,n2,c2,d2,k2,e2,hg2,hX2,hc2,hq2⟩:=hyr.rat QV.shaped i hiy;have hob1:=(a1v hX1).2;have hob2:=(a1v hX2).2;have hrl:=hrw.out x[i] (List.getElem_mem _);have hdb:=a2q (hxB'.out x[i] (List.getElem_mem _)) hbB'.out hB1 (by rw[hrl];exact hc) hBB;have hdq:Hid (hq (a3q x[i] b)<=68719476736):=hid (hdb.1 _ (Nat.le_refl _));have hdot:=a4S (un X oo) wr.drew (.slice a1 x[i].length c1) t x[i] b (hXu.ext hEd) (mkx RV.mono ⟨a1,c1,rfl,hcl1,hq1⟩ hEd) (mkx RV.mono hbr hEd) (by rw[hrl];omega) (by rw[hrl,hbl.out]) hdb.1 hdb.2;have hel:=hLi.out i hix hiy hiL;have hyd:=mkx QV.mono hq2 hEd;obtain⟨D,hD⟩:∃D,a3q x[i] b=D:=⟨_,rfl⟩;obtain⟨yi,hyi⟩:∃yi,y[i]=yi:=⟨_,rfl⟩;obtain⟨z,hz⟩:∃z,L[i]=z:=⟨_,rfl⟩;rw[hD]at hdq hdot hel;rw[hyi]at hyd hel;rw[hz]at hel htk;rw[hrl]at hc1 hdot;have hel':=hid hel;have hXd:HX (un X oo) wr.drew:=hXu;have i2:∀W,(Instr.indexAt 45 (.slice va n vc) (.int .i64 (i:Int))).run Tryz.prog W= .ok (.pointer (some ⟨g2,o2,none⟩)) W:=by rw[<-hg2];exact a0n a0E va n vc .i64 i hhv (by omega)
   have i1:∀W,(Instr.indexAt 25 (.slice ua n uc) (.int .i64 (i:Int))).run Tryz.prog W= .ok (.pointer (some (adr ua i))) W:=a0z a0r ua n uc .i64 i hhu (by omega) rfl;have hS:Hid (∀Y W',ExtX Y wr.drew W'->Y g2=false->Y (adr ua i).block=false->W'.cell? ⟨g2,o2,none⟩=some (.bool s2)/\W'.cell? ⟨g2,o2+1,none⟩=some (.slice a2 n2 c2)/\W'.cell? ⟨g2,o2+2,none⟩=some (.slice d2 k2 e2)/\W'.cell? (adr ua i)=some (.slice a1 c c1)):=hid fun Y W' h hg hg1=>by
    have p2:=hc2.out Y W' ((ExtX.of hEd).trans h) hg;exact⟨p2.1,p2.2.1,p2.2.2,hc1.out Y W' ((ExtX.of hEd).trans h) hg1⟩
   obtain⟨k00,k01,k02,k10⟩:=hS.out noY wr.drew (ExtX.refl _) rfl rfl;have k10w:=hc1.out noY wr (ExtX.refl _) rfl;clear hc1 hc2 hg2 hq1 hq2 hrl hcl1 hdb hel hD hyi hz;go_wp2_with fail
   go_region_held3 (fun w'=>w'.cell? ⟨g2,o2,none⟩=some (.bool s2)/\w'.cell? ⟨g2,o2+1,none⟩=some (.slice a2 n2 c2)/\w'.cell? ⟨g2,o2+2,none⟩=some (.slice d2 k2 e2))
    (first|exact(let p:=hS.out noY _ t1 rfl rfl;⟨p.1,p.2.1,p.2.2.1⟩)|exact(let p:=hS.out noY _ (t1.trans t7) rfl rfl;⟨p.1,p.2.1,p.2.2.1⟩)|exact(let p:=hS.out noY _ (ExtX.alloc (t1.trans t7) _) rfl rfl;⟨p.1,p.2.1,p.2.2.1⟩)|exact(let p:=hS.out (ob oo) _ ((ExtX.of (t1.trans t7)).trans hE7) hob2 hob1;⟨p.1,p.2.1,p.2.2.1⟩)|go_keep)
    (first|(go_at_call 112;(with_reducible refine hdot.mono ?_);rintro ee w6 ⟨t1,u6,rfl,hu6⟩;have hu6v:=hu6.qv hdq.out;have hyd6:=mkx QV.mono hyd t1;have hX6:=hXd.ext t1)|(go_at_call 132;(with_reducible refine(b5U (un X oo) w6 _ _ _ _ hX6 hyd6 hu6v).mono ?_);rintro ee w8 ⟨t7,u7,rfl,hu7⟩;obtain⟨s6,a6,n6,c6,d6,k6,e6,rfl⟩:=hu7.shape;rw[<-hel'.out]at hu7;have hO6:=hO.ext0 QC.elem (hEd.trans (t1.trans t7));have hb6:=(hEd.trans (t1.trans t7)).size;have hX8:=hXr.ext (hEd.trans (t1.trans t7)))|(refine a2A (l:=L.take i) rfl (by rfl) a0E rfl QC.elem (by omega) hX8 i hln.out rfl rfl hO6 (.agg #[.bool s6, .slice a6 n6 c6, .slice d6 k6 e6]) z rfl hu7 (by omega) (by omega) ?_;intro oo2 co2 w7 hO7 hE7 hor))
   have hE8:=(hE.trans (hEd.trans (t1.trans t7))).own hO6 (Nat.le_refl _) hE7;rw[htk.out]at hO7;clear k00 k01 k02 k10 k10w i1 i2;go_wp2_with fail
   go_roundw
   case rel=>exact⟨i+1,oo2,co2,by go_num,by go_num,by omega,hO7,hE8⟩
   case measure=>simp[intOf];omega
  ·have hil:i=n:=by omega
   subst hil;rw[List.take_of_length_le (by omega)]at hO;have hc:=hO.lenCap;have hs:=hO.sl QC.elem;go_wp2_with fail
   go_ret
   exact⟨hE,_,rfl,oo,co,by rw[hLl.out];rfl,hc,hs⟩
end Go.Proofs.YtkddecjkfdogiaaGreat
namespace Go.Lin
theorem a7L {p:List Nat} {c:Nat} (hp:p.Pairwise (· < ·)) (hc:∀j∈p,j<c):(List.range c).filter (fun j=>decide (j∈p))=p:=by
 refine a8g _ _ ?_ hp fun x=>?_
 ·exact(List.pairwise_lt_range (n:=c)).filter _
 ·simp only[List.mem_filter,List.mem_range,decide_eq_true_eq]
  exact⟨fun h=>h.2,fun h=>⟨hc x h,h⟩⟩
def pkR (r:List Rat) (us:List Bool) (j:Nat):List Rat:=((List.range j).filter fun i=>us.getD i false).map fun i=>r.getD i 0
theorem b4b {r:List Rat} {us:List Bool} {j:Nat} (h:us.getD j false=true):pkR r us (j+1)=pkR r us j++[r.getD j 0]:=by
 unfold pkR;rw[List.range_succ,List.filter_append,show List.filter (fun i=>us.getD i false) [j]= [j]from by simp only[List.filter,h],List.map_append];rfl
theorem b5y {r:List Rat} {us:List Bool} {j:Nat} (h:us.getD j false=false):pkR r us (j+1)=pkR r us j:=by
 unfold pkR;rw[List.range_succ,List.filter_append,show List.filter (fun i=>us.getD i false) [j]= []from by simp only[List.filter,h],List.append_nil]
theorem b4c {r:List Rat} {p:List Nat} {c:Nat} (hp:p.Pairwise (· < ·)) (hc:∀j∈p,j<c):pkR r (Go.Rep.usedL p c) c=p.map fun j=>r.getD j 0:=by
 have e:(List.range c).filter (fun i=>(Go.Rep.usedL p c).getD i false)=p:=by
  rw[<-a7L hp hc];refine List.filter_congr fun j hj=>?_;have hj:=List.mem_range.1 hj;simp[Go.Rep.usedL,List.getD_eq_getElem?_getD,hj]
 unfold pkR;rw[e]
theorem b4d (r:List Rat) (us:List Bool) (j:Nat):(pkR r us j).length<=j:=by
 unfold pkR;rw[List.length_map];exact Nat.le_trans (List.length_filter_le _ _) (by rw[List.length_range];exact Nat.le_refl _)
end Go.Lin
namespace Go.Rep
open Go.RowKit Go.Lim Go.Lin
def a9y (hs:List Hdr) (i:Nat):Option Addr:=(hs.getD i (none,0,0)).1
theorem a4m {hs:List Hdr} {i:Nat} (h:i<hs.length):a9y hs i=hs[i].1:=by simp[a9y,List.getD_eq_getElem?_getD,h]
structure CS (R:Mem->Value->Rat->Prop) (X:Nat->Bool) (base:Nat) (e1 e2:TypeId) (w:World) (oo:Option Addr) (co:Nat) (hs:List Hdr) (M:Mat) (i:Nat) (L:List Rat):Prop where
 outer:OL HdR 1 X base e1 w oo co hs
 len:hs.length=M.length
 done:∀k (_:k<i) (h1:k<hs.length) (h2:k<M.length),hs[k].2.1=M[k].length/\hs[k].2.1<=hs[k].2.2/\Sl R 3 (mk (un (un X oo) (a9y hs i)) w) hs[k].1 M[k]
 row:∀h1:i<hs.length,hs[i].2.1=L.length/\OL R 3 (un X oo) base e2 w (a9y hs i) hs[i].2.2 L
 rest:∀k,i<k->(h:k<hs.length)->hs[k]=(none,0,0)
section
variable {R:Mem->Value->Rat->Prop} {X:Nat->Bool} {base:Nat} {e1 e2:TypeId} {w w':World} {oo:Option Addr} {co:Nat} {hs:List Hdr} {M:Mat} {i:Nat} {L:List Rat}
theorem CS.start {n:Nat} (ho:OL HdR 1 X base e1 w oo co (List.replicate n (none,0,0))) (hM:M.length=n) (e2:TypeId):CS R X base e1 e2 w oo co (List.replicate n (none,0,0)) M 0 []:=by
 refine⟨ho,by rw[List.length_replicate,hM],fun k hk=>by omega,fun h1=>?_,fun k _ h=>by simp⟩;have hc:a9y (List.replicate n (none,0,0)) 0=none:=by rw[a4m h1];simp
 rw[hc];refine⟨by simp,?_⟩;have:((List.replicate n ((none,0,0):Hdr))[0]).2.2=0:=by simp
 rw[this];exact OL.nil _ _ _ _ _ _
theorem CS.ext0 (hR:Elem R 3) (h:CS R X base e1 e2 w oo co hs M i L) (hE:Ext w w'):CS R X base e1 e2 w' oo co hs M i L:=
 ⟨h.outer.ext0 HdR.elem hE,h.len,fun k hk h1 h2=>let ⟨a,b,c⟩:=h.done k hk h1 h2;⟨a,b,c.mono hR.mono (a0o hE)⟩,fun h1=>let ⟨a,b⟩:=h.row h1;⟨a,b.ext0 hR hE⟩,h.rest⟩
theorem CS.next (hR:Elem R 3) (h:CS R X base e1 e2 w oo co hs M i L) (hi:i<M.length) (hL:L=M[i]):CS R X base e1 e2 w oo co hs M (i+1) []:=by
 have hih:i<hs.length:=by rw[h.len];exact hi
 obtain⟨r1,r2⟩:=h.row hih;have hnone:∀h1:i+1<hs.length,hs[i+1]=(none,0,0):=fun h1=>h.rest (i+1) (by omega) h1;have hc:a9y hs (i+1)=none:=by
  by_cases h1:i+1<hs.length
  ·rw[a4m h1,hnone h1]
  ·simp[a9y,List.getD_eq_getElem?_getD,h1]
 have hun:un (un X oo) none=un X oo:=by funext k;simp[un,ob]
 refine⟨h.outer,h.len,fun k hk h1 h2=>?_,fun h1=>?_,fun k hk h1=>h.rest k (by omega) h1⟩
 ·rw[hc,hun]
  by_cases e:k=i
  ·subst e
   have e2:=a4m h1;rw[e2]at r2;refine⟨by rw[r1,hL],by rw[r1];exact r2.lenCap,?_⟩;rw[<-hL];exact r2.sl hR
  ·obtain⟨a,b,c⟩:=h.done k (by omega) h1 h2
   exact⟨a,b,c.mono hR.mono (a1m fun k _ hk=>a0p hk)⟩
 ·rw[hc]
  refine⟨by rw[hnone h1];rfl,?_⟩;have:hs[i+1].2.2=0:=by rw[hnone h1]
  rw[this];exact OL.nil _ _ _ _ _ _
theorem CS.mc (hR:Elem R 3) (h:CS R X base e1 e2 w oo co hs M M.length []):SlV (SlV R 3) 1 (_root_.Go.Rep.mk X w) (.slice oo M.length co) M:=by
 have hl:=h.len;refine⟨oo,co,rfl,by rw[<-hl];exact h.outer.lenCap,fun hp=>?_,fun k hk=>?_⟩
 ·have:=h.outer.hd;rw[hl]at this;exact this hp
 ·have hkh:k<hs.length:=by omega
  obtain⟨u,h1,h2,rfl⟩:=h.outer.cell HdR.one k hkh;obtain⟨a,b,c⟩:=h.done k hk hkh hk;refine⟨.slice hs[k].1 hs[k].2.1 hs[k].2.2,rfl,fun j hj=>?_,?_⟩
  ·have hj0:j=0:=by simp[Value.cells]at hj;omega
   subst hj0;unfold _root_.Go.Rep.mk;have hX:X (adr oo (k*1+0)).block=false:=by
    obtain⟨b,off,rfl⟩:=h.outer.hd (by omega);exact h.outer.1 _ (by simp[ob,adr])
   rw[hX];simpa[Value.cells]using h1
  ·rw[a]
   exact⟨_,_,rfl,by rw[<-a];exact b,c.mono hR.mono (a1m fun k _ hk=>a0p (a0p hk))⟩
theorem CS.outer7 (h:CS R X base e1 e2 w oo co hs M i L) (hi:i<hs.length) (hE:ExtX (ob (a9y hs i)) w w'):OL HdR 1 X base e1 w' oo co hs:=
 h.outer.frame HdR.pure hE (fun k hk=>by
  cases hc:ob (a9y hs i) k
  ·rfl
  ·have:=(a1v ((h.row hi).2.1 k hc)).2;rw[hk]at this;cases this) h.outer.1
theorem CS.push (hR:Elem R 3) (h:CS R X base e1 e2 w oo co hs M i L) (hi:i<hs.length) {v:Rat} {ai:Option Addr} {ci n:Nat} {w7 w8:World} (hn:n=L.length+1) (hR7:OL R 3 (un X oo) base e2 w7 ai ci (L++[v])) (hE7:ExtX (ob (a9y hs i)) w w7) (hor:ai=a9y hs i\/∃g,ai=some ⟨g,0,none⟩/\w.heap.size<=g)
  (hE8:ExtX (ob oo) w7 w8) (hO8:OL HdR 1 X base e1 w8 oo co (hs.set i (ai,n,ci))):CS R X base e1 e2 w8 oo co (hs.set i (ai,n,ci)) M i (L++[v]):=by
 subst hn;have hc:a9y (hs.set i (ai,L.length+1,ci)) i=ai:=by rw[a4m (by rw[List.length_set];exact hi)];simp
 refine⟨hO8,by rw[List.length_set];exact h.len,fun k hk h1 h2=>?_,fun h1=>?_,fun k hk h1=>?_⟩
 ·have hk1:k<hs.length:=by simpa using h1
  obtain⟨a,b,c⟩:=h.done k hk hk1 h2;rw[hc,List.getElem_set_ne (by omega)];refine⟨a,b,?_⟩;have c7:=c.mono hR.mono (a0R (Z:=un (un X oo) ai) hE7 (fun q _ hq=>a0q hq) (fun q hq hz=>Go.Proofs.YtkddecjkfdogiaaGreat.un_or (X:=un X oo) hor q hq hz));exact c7.mono hR.mono (a0R hE8 (fun q _ hq=>a0p (a0q hq)) (fun _ _ h=>h))
 ·rw[hc]
  refine⟨by simp,?_⟩;have:(hs.set i (ai,L.length+1,ci))[i].2.2=ci:=by simp
  rw[this];exact hR7.ext hR hE8 (fun k _ hk=>a0q hk) (fun _ _ h=>h)
 ·rw[List.getElem_set_ne (by omega)]
  exact h.rest k hk (by simpa using h1)
end
end Go.Rep
namespace Go.Proofs.YtkddecjkfdogiaaGreat
open Go.RowKit Go.Rep Go.Lim Go.Lin
set_option maxRecDepth 100000 in
set_option maxHeartbeats 1600000 in
theorem a9q (X:Nat->Bool) (w:World) (u:Value) (uo:Option Addr) (uc:Nat) (x:Mat) (p:List Nat) (n c:Nat) (hX:HX X w) (hu:MV (mk X w) u x) (hus:Sl BlR 1 (mk X w) uo (usedL p c)) (hsh:Shp n c x) (hn:n<=96) (hc:c<=96) (hp:p.Pairwise (· < ·)) (hpc:∀j∈p,j<c) (_hxB:BM 68719476736 x):
  Calls Tryz.prog 114 #[u, .slice uo c uc] w (a2w X w MV (pkL x p)):=by
 obtain⟨M,hM⟩:∃M,pkL x p=M:=⟨_,rfl⟩;have hMl:Hid (M.length=n):=hid (by rw[<-hM,b0u];exact hsh.1);have hMi:Hid (∀i (h1:i<x.length) (h:i<M.length),pkR x[i] (usedL p c) c=M[i]):=hid fun i h1 h=>by subst hM;rw[b4c hp hpc];simp[pkL]
 obtain⟨us,hus2⟩:∃us,usedL p c=us:=⟨_,rfl⟩;have husl:Hid (us.length=c):=hid (by rw[<-hus2];exact a4k p c);obtain⟨ua,uca,rfl,huca,hua⟩:=hu;have hhu:=hua.hd;have hxl:=hid hsh.1;have hrw:=hid hsh.2;rw[hus2]at hMi hus;have hhs:=hus.hd;rw[husl.out]at hhs;rw[hsh.1]at hhu huca |-;rw[hM];clear hM hus2 hsh hp hpc _hxB;go_enter Tryz.func114,Tryz.ntmps114
 go_wp2_with ((with_reducible show wpList _ _ _ (⟨_, .makeSlice _ _ _,_,_,_,_⟩::_) _ _);refine a1Z (R:=HdR) a0r HdR.elem (none,0,0) (fun _=>rfl) X hX w.heap.size (Nat.le_refl _) n rfl rfl rfl (by omega) (by omega) ?_;intro oo w1 hO1 hE1)
 have hC1:=CS.start (R:=QV) hO1 hMl.out 32;have hX1:=hX.ext hE1;clear hO1;go_loopw [15] (fun k wr=>∃(i:Nat) (hs:List Hdr),k= .int .i64 i/\i<=n/\hs.length=n/\CS QV X w.heap.size 45 32 wr oo n hs M i []/\Ext w wr) (fun k _=>n - (intOf k).toNat)
 case atStart=>exact⟨0,_,rfl,Nat.zero_le _,List.length_replicate,hC1,hE1⟩
 case round=>
  obtain⟨i,hs,rfl,hi,hhl,hC,hE⟩:=hrel;have hXr:HX X wr:=hX.ext hE;clear hC1 hE1 hX1;by_cases hlt:i<n
  ·have hix:i<x.length:=by rw[hxl.out];exact hlt
   have hXu:HX (un X oo) wr:=hC.outer.unX hXr;have hEw:=hE;obtain⟨a1,c1,hX1',hc1,hcl1,hq1⟩:=hua.row i hix;have hrl:=hrw.out x[i] (List.getElem_mem _);have hMi2:=hid fun h=>hMi.out i hix h;obtain⟨r,hr⟩:∃r,x[i]=r:=⟨_,rfl⟩;rw[hr]at hc1 hcl1 hq1 hrl hMi2;have hrl':=hid hrl;rw[hrl]at hc1 hcl1;have hh1:Hd a1 c:=by have:=hq1.hd;rw[hrl]at this;exact this
   have k00:=hc1.out noY wr hE rfl;clear hrl hr;obtain⟨wo,hwo⟩:∃wo,wo=wr:=⟨_,rfl⟩;subst hwo;go_wp2_with (with_reducible refine a0t a0r (by omega) (by assumption) ?_)
   go_loopw [22] (fun k wx=>∃(j:Nat) (hs:List Hdr),k= .int .i64 j/\j<=c/\hs.length=n/\CS QV X w.heap.size 45 32 wx oo n hs M i (pkR r us j)/\Ext w wx) (fun k _=>c - (intOf k).toNat)
   case atStart=>exact⟨0,hs,rfl,Nat.zero_le _,hhl,hC,hE⟩
   case round=>
    clear hC hhl k00 hXu;obtain⟨j,hs,rfl,hj,hhl,hC,hE⟩:=hrel;have hXx:HX X wr:=hX.ext hE;by_cases hlj:j<c
    ·have hjr:j<r.length:=by rw[hrl'.out];exact hlj
     have hju:j<us.length:=by rw[husl.out];exact hlj
     have hih:i<hs.length:=by rw[hhl];exact hlt
     have hq2:=hq1.mono QV.mono (a0o hE);have kb:=a1q ((hus.mono BlR.mono (a0o hE)).bl j hju);have bx:=Bx.new wr #[.bool false, .slice none 0 0, .slice none 0 0] 32;have hgd:Hid (us.getD j false=us[j]):=hid (by simp[List.getD_eq_getElem?_getD,hju]);have hgr:Hid (r.getD j 0=r[j]):=hid (by simp[List.getD_eq_getElem?_getD,hjr]);obtain⟨b,hb⟩:∃b,us[j]=b:=⟨_,rfl⟩;rw[hb]at kb hgd;have iu:∀W,(Instr.indexAt 61 (.slice uo c uc) (.int .i64 (j:Int))).run Tryz.prog W= .ok (.pointer (some (adr uo j))) W:=a0z b2N uo c uc .i64 j hhs (by omega) rfl;clear hb;cases b
     ·have hno:Hid (pkR r us (j+1)=pkR r us j):=hid (b5y hgd.out)
      go_wp2_with (first|(with_reducible refine a2r a0E (by omega) (by assumption) ?_)|((with_reducible show wpList _ _ _ (⟨_, .load 32 _,_,_,_,_⟩::_) _ _);refine a1d a0w j hq2 hjr rfl (by simp) QV.agg ?_;intro u5 hu5;obtain⟨s5,a5,n5,c5,d5,m5,e5,rfl⟩:=hu5.shape)|((with_reducible show wpList _ _ _ (⟨_, .store 32 _ _,_,_,_,_⟩::_) _ _);refine a0c a0w rfl rfl bx rfl rfl (a3n _ _ _ _ _ _ _) ?_;intro w5 y1 y2;have hE5:Ext wr w5:=ExtX.box ((ExtX.refl wr).alloc _) y2 (Nat.le_refl _);have kb5:=hE5.cell kb))
      have hC5:=hC.ext0 QV.elem hE5;rw[<-hno.out]at hC5;go_roundw
      case rel=>exact⟨j+1,hs,by go_num,by omega,hhl,hC5,hE.trans hE5⟩
      case measure=>simp[intOf];omega
     ·have hyes:Hid (pkR r us (j+1)=pkR r us j++[r[j]]):=hid (by rw[<-hgr.out];exact b4b hgd.out)
      have hrow0:=hC.row hih;have hlrow:=hid (b4d r us j);obtain⟨L,hL⟩:∃L,pkR r us j=L:=⟨_,rfl⟩;rw[hL]at hC hyes hrow0 hlrow;obtain⟨q,hq⟩:∃q,L.length=q:=⟨_,rfl⟩;have hq':=hid hq;have hai:=a4m hih;obtain⟨h0,hh0⟩:∃h0,hs[i]=h0:=⟨_,rfl⟩;rw[hh0]at hrow0 hai;obtain⟨ai,qi,ci⟩:=h0;obtain⟨hr1,hr2⟩:=hrow0
      dsimp only at hr1 hr2 hai
      rw[hai]at hr2;obtain rfl:qi=q:=hr1.trans hq;have hqj:qi<=j:=by rw[<-hq];exact hlrow.out
      have hai':=hid hai;have hh0':=hid hh0;obtain⟨v,hv⟩:∃v,r[j]=v:=⟨_,rfl⟩;have hv':=hid hv;rw[hv]at hyes;have hho:Hd oo n:=by have:=hC.outer.hd;rw[hhl]at this;exact this
      have hob1:∀k,ob ai k=true->k<wr.heap.size:=fun k hk=>(hr2.block hk).2;have hsep:∀k,ob oo k=true->ob ai k=false:=fun k hk=>by
       cases hc:ob ai k
       ·rfl
       ·have:=(a1v (hr2.1 k hc)).2;rw[hk]at this;cases this
      have hq2:Sl QV 3 (mk (un (un X oo) ai) wr) a1 r:=hq1.mono QV.mono (a0R hE (fun k _ hk=>by simp[noY]at hk) fun k hk hz=>by
       by_cases hx:X k=true
       ·exact hx
       ·exfalso
        have e1:ob oo k=false:=hC.outer.ob_lt hk;have e2:ob ai k=false:=hr2.ob_lt hk;simp[un,hx,e1,e2]at hz)
      clear hq hai hh0 hv hL hr1;go_wp2_with (first|(with_reducible refine a2r a0E (by omega) (by assumption) ?_)|((with_reducible show wpList _ _ _ (⟨_, .load 32 _,_,_,_,_⟩::_) _ _);refine a1d a0w j hq2 hjr rfl (by simp) QV.agg ?_;intro u5 hu5;rw[hv'.out]at hu5;obtain⟨s5,a5,n5,c5,d5,m5,e5,rfl⟩:=hu5.shape)|((with_reducible show wpList _ _ _ (⟨_, .store 32 _ _,_,_,_,_⟩::_) _ _);refine a0c a0w rfl rfl bx rfl rfl (a3n _ _ _ _ _ _ _) ?_;intro w5 y1 y2;have hE5:Ext wr w5:=ExtX.box ((ExtX.refl wr).alloc _) y2 (Nat.le_refl _);have kb5:=hE5.cell kb))
      have hEd:Ext wr w5.drew:=hE5.drew;have hCd:=hC.ext0 QV.elem hEd;have hrd:=hr2.ext0 QV.elem hEd;obtain⟨bb,hbb⟩:∃bb,wr.heap.size=bb:=⟨_,rfl⟩;rw[hbb]at y1;obtain⟨u0,q0,q0f,hu0⟩:=hC.outer.cell HdR.one i hih;rw[hh0'.out]at hu0;obtain rfl:u0= .slice ai qi ci:=hu0;have hS:Hid (∀Y w',ExtX Y w5.drew w'->(∀k,ob oo k=true->Y k=false)->Y bb=false->w'.cell? (adr oo i)=some (.slice ai qi ci)/\w'.cell? ⟨bb,0,none⟩=some (.bool s5)/\w'.cell? ⟨bb,0+1,none⟩=some (.slice a5 n5 c5)/\w'.cell? ⟨bb,0+2,none⟩=some (.slice d5 m5 e5)):=hid fun Y w' h h1 h2=>by
       have y1':=(y1.ext0 (ExtX.refl w5).drew).ext h h2;refine⟨((ExtX.of hEd).trans h).cellY q0 (h1 _ ?_),y1'.cell 0 rfl,y1'.cell 1 rfl,y1'.cell 2 rfl⟩;obtain⟨b,off,rfl⟩:=hho (by omega);simp[ob,adr]
      have i9:∀W,(Instr.indexAt 25 (.slice oo n n) (.int .i64 (i:Int))).run Tryz.prog W= .ok (.pointer (some (adr oo i))) W:=a0z a0r oo n n .i64 i hho (by omega) rfl;have hXd:HX (un X oo) w5.drew:=hCd.outer.unX (hX.ext (hE.trans hEd));have hXa:HX (un (un X oo) ai) w5.drew:=hrd.unX hXd;have hu6:=mkx QV.mono hu5 hEd;clear kb bx hq2;refine a0L 10 (fun w'=>w'.cell? (adr oo i)=some (.slice ai qi ci)/\w'.cell? ⟨bb,0,none⟩=some (.bool s5)/\w'.cell? ⟨bb,0+1,none⟩=some (.slice a5 n5 c5)/\w'.cell? ⟨bb,0+2,none⟩=some (.slice d5 m5 e5)) (by kernel_rfl) (by kernel_rfl) (hS.out noY _ (ExtX.refl _) (fun _ _=>rfl) rfl) (fun hHeld hOnce=>?_);refine a0a hOnce (i:=0) (oi:=⟨_,_,_,_,_,_⟩) (v:=?_) rfl (by kernel_rfl) (fun _ _ _ h=>h) (by assumption) (by rfl) (fun w hSw=>?_) ?_
      rotate_left
      ·(try dsimp only at hSw)
       go_simp
       all_goals with_reducible rfl
      (try simp only[Act.put,List.setIfInBounds_toArray,List.set_cons_zero,List.set_cons_succ])
      refine a0a hOnce (i:=1) (oi:=⟨_,_,_,_,_,_⟩) (v:=?_) rfl (by kernel_rfl) (fun _ _ _ h=>h) (by assumption) (by rfl) (fun w hSw=>?_) ?_
      rotate_left
      ·(try dsimp only at hSw)
       go_simp
       all_goals with_reducible rfl
      (try simp only[Act.put,List.setIfInBounds_toArray,List.set_cons_zero,List.set_cons_succ])
      refine a0a hOnce (i:=2) (oi:=⟨_,_,_,_,_,_⟩) (v:=?_) rfl (by kernel_rfl) (fun _ _ _ h=>h) (by assumption) (by rfl) (fun w hSw=>?_) ?_
      rotate_left
      ·(try dsimp only at hSw)
       go_simp
       all_goals with_reducible rfl
      (try simp only[Act.put,List.setIfInBounds_toArray,List.set_cons_zero,List.set_cons_succ])
      refine a0a hOnce (i:=3) (oi:=⟨_,_,_,_,_,_⟩) (v:=?_) rfl (by kernel_rfl) (fun _ _ _ h=>h) (by assumption) (by rfl) (fun w hSw=>?_) ?_
      rotate_left
      ·(try dsimp only at hSw)
       go_simp
       all_goals with_reducible rfl
      (try simp only[Act.put,List.setIfInBounds_toArray,List.set_cons_zero,List.set_cons_succ])
      refine a0a hOnce (i:=4) (oi:=⟨_,_,_,_,_,_⟩) (v:=?_) rfl (by kernel_rfl) (fun _ _ _ h=>h) (by assumption) (by rfl) (fun w hSw=>?_) ?_
      rotate_left
      ·(try dsimp only at hSw)
       go_simp
       all_goals with_reducible rfl
      (try simp only[Act.put,List.setIfInBounds_toArray,List.set_cons_zero,List.set_cons_succ])
      refine a0a hOnce (i:=5) (oi:=⟨_,_,_,_,_,_⟩) (v:=?_) rfl (by kernel_rfl) (fun _ _ _ h=>h) (by assumption) (by rfl) (fun w hSw=>?_) ?_
      rotate_left
      ·(try dsimp only at hSw)
       go_simp
       all_goals with_reducible rfl
      (try simp only[Act.put,List.setIfInBounds_toArray,List.set_cons_zero,List.set_cons_succ])
      refine a0a hOnce (i:=6) (oi:=⟨_,_,_,_,_,_⟩) (v:=?_) rfl (by kernel_rfl) (fun _ _ _ h=>h) (by assumption) (by rfl) (fun w hSw=>?_) ?_
      rotate_left
      ·(try dsimp only at hSw)
       go_simp
       all_goals with_reducible rfl
      (try simp only[Act.put,List.setIfInBounds_toArray,List.set_cons_zero,List.set_cons_succ])
      refine a0d (i:=7) (o:=⟨_,_,_,_,_,_⟩) (by kernel_rfl) rfl (fun K hK=>?_);go_simp
      skip
      refine hK.out _ _ (hS.out noY _ ((ExtX.refl _).alloc _) (fun _ _=>rfl) rfl) (fun hHeld=>?_);clear hK K
      (try simp only[Act.put,List.setIfInBounds_toArray,List.set_cons_zero,List.set_cons_succ])
      refine a0d (i:=8) (o:=⟨_,_,_,_,_,_⟩) (by kernel_rfl) rfl (fun K hK=>?_)
      (refine a2A (l:=L) rfl (by rfl) a0E rfl QV.elem (Nat.le_trans (hE.trans hEd).size (Nat.le_refl _)) hXd qi hq'.out rfl rfl hrd (.agg #[.bool s5, .slice a5 n5 c5, .slice d5 m5 e5]) v rfl hu6 (by omega) (by omega) ?_;intro ai2 ci2 w7 hR7 hE7 hor)
      refine hK.out _ _ (hS.out (ob ai) w7 hE7 hsep (by cases hc:ob ai bb;rfl;exact absurd (hob1 bb hc) (by omega))) (fun hHeld=>?_);clear hK K
      (try simp only[Act.put,List.setIfInBounds_toArray,List.set_cons_zero,List.set_cons_succ])
      have hO7:=hCd.outer7 hih (by rw[hai'.out];exact hE7);obtain⟨_,p0,f0,_⟩:=hO7.cell HdR.one i hih;refine a0a hOnce (i:=9) (oi:=⟨_,_,_,_,_,_⟩) (v:=?_) rfl (by kernel_rfl) (fun _ _ _ h=>h) (by assumption) (by rfl) (fun w hSw=>?_) ?_
      rotate_left
      ·(try dsimp only at hSw)
       go_simp
       all_goals with_reducible rfl
      (try simp only[Act.put,List.setIfInBounds_toArray,List.set_cons_zero,List.set_cons_succ])
      refine a0j (i:=10) (o:=⟨_,_,_,_,_,_⟩) (by kernel_rfl) rfl (by decide) (by kernel_rfl) (fun K hK=>?_);go_simp
      refine hK.out _ _ ?_;clear hK K;obtain⟨hO8,hE8⟩:=hO7.set1 a6E HdR.elem HdR.one i hih (.slice ai2 (qi+1) ci2) (ai2,qi+1,ci2) rfl;have hC8:=hCd.push QV.elem (n:=qi+1) hih (by rw[hq'.out]) hR7 (by rw[hai'.out];exact hE7) (by rw[hai'.out];exact hor) hE8 hO8;have hE9:=((hE.trans hEd).own hrd (Nat.le_refl _) hE7).own hO7 (Nat.le_refl _) hE8;rw[<-hyes.out]at hC8;have hl8:(hs.set i (ai2,qi+1,ci2)).length=n:=by rw[List.length_set];exact hhl
      clear p0 f0;go_wp2_with fail
      go_roundw
      case rel=>exact⟨j+1,_,by go_num,by omega,hl8,hC8,hE9⟩
      case measure=>simp[intOf];omega
    ·have hjc:j=c:=by omega
     subst hjc;have hiM:i<M.length:=by rw[hMl.out];exact hlt
     have hC2:=hC.next QV.elem hiM (hMi2.out hiM);go_wp2_with fail
     go_roundw
     case rel=>exact⟨i+1,hs,by go_num,by omega,hhl,hC2,hE⟩
     case measure=>simp[intOf];omega
  ·have hin:i=n:=by omega
   subst hin;have hl:=hMl.out;subst hl;have hm:=hC.mc QV.elem;go_wp2_with fail
   go_ret
   exact⟨hE,_,rfl,hm⟩
end Go.Proofs.YtkddecjkfdogiaaGreat
