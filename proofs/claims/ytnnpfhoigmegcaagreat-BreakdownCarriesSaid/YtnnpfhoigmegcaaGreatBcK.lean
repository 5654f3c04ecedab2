/- Parts of a proof: each theorem states what it proves, and its conditions. -/
import Derived.Test.YtnnpfhoigmegcaaGreatBcJ
set_option maxRecDepth 100000
set_option maxHeartbeats 3200000
namespace Go.Lin
open Go.Lim Go.Rep
def b2W(x:Mat)(c:Nat)(d:List Rat)(i:Nat):List Rat:=a2P (x.take i) c d
theorem b1m{x:Mat}{c:Nat}{d:List Rat}{i:Nat}(h:i<x.length):b2W x c d (i+1)=b2W x c d i++[a2m (dot c (vec d) (vec x[i]))]:=by
 unfold b2W a2P;rw[List.take_succ_eq_append_getElem h,List.map_append];rfl
theorem b2X{x:Mat}{c:Nat}{d:List Rat}{i:Nat}(h:i<=x.length):(b2W x c d i).length=i:=by
 unfold b2W;rw[a2t,List.length_take];omega
theorem b2Y(x:Mat)(c:Nat)(d:List Rat):b2W x c d x.length=a2P x c d:=by unfold b2W;rw[List.take_length]
def a5p(x:Mat)(c:Nat)(d l:List Rat)(i:Nat):List Rat:=(List.range l.length).map fun m=>if 1<=m/\m<=i then a5E (l.getD m 0) (a1t x c d m)else l.getD m 0
theorem a8Z(x:Mat)(c:Nat)(d l:List Rat)(i:Nat):(a5p x c d l i).length=l.length:=by simp[a5p]
theorem b1n(x:Mat)(c:Nat)(d l:List Rat):a5p x c d l 0=l:=by
 unfold a5p;refine List.ext_getElem (by simp) fun m b a=>?_;simp[List.getD_eq_getElem?_getD,a,show¬(1<=m/\m=0)by omega]
theorem a9a{x:Mat}{c:Nat}{d l:List Rat}{i:Nat}(h:i+1<(a5p x c d l i).length):(a5p x c d l i)[i+1]=l.getD (i+1) 0:=by
 simp[a5p];omega
theorem a9b{x:Mat}{c:Nat}{d l:List Rat}{i:Nat}:(a5p x c d l i).set (i+1) (a5E (l.getD (i+1) 0) (a1t x c d (i+1)))=a5p x c d l (i+1):=by
 refine List.ext_getElem (by simp[a5p]) fun m g e=>?_;rw[List.getElem_set];by_cases b:i+1=m
 ·subst b
  simp[a5p]
 ·rw[if_neg b]
  have f:m<l.length:=by simpa[a5p]using e
  simp only[a5p,List.getElem_map,List.getElem_range];by_cases a:1<=m/\m<=i
  ·rw[if_pos a,if_pos ⟨a.1,by omega⟩]
  ·rw[if_neg a,if_neg (by omega)]
theorem b1o{x:Mat}{c:Nat}{d l:List Rat}{i:Nat}(b:a5E (l.getD (i+1) 0) (a1t x c d (i+1))=l.getD (i+1) 0):a5p x c d l i=a5p x c d l (i+1):=by
 rw[<-a9b,b];refine(List.ext_getElem (by simp) fun m e f=>?_).symm;rw[List.getElem_set];by_cases a:i+1=m
 ·subst a;rw[if_pos rfl,a9a]
 ·rw[if_neg a]
end Go.Lin
namespace Go.Proofs.YtnnpfhoigmegcaaGreat
open Go.RowKit Go.Rep Go.Lim Go.Lin
theorem b2Z(M:Nat->Bool)(W:World)(vd:Value)(d:List Rat)(x:Mat)(n c B bx bo base:Nat)(ao:Option Addr)(ca:Nat)(oo:Option Addr)(oc:Nat)(l:List Rat)(hM:HX M W)(hx:MV (mk (un M oo) W) (.slice ao n ca) x)(hd:RV (mk (un M oo) W) vd d)(hdl:d.length=c)(hs:Shp n c x)(hn8:n<=8)(hc4:c<=4)(hB:BM B x)(hBB:B<=1000)(hdB:BR 42875000 d)(bx9:Bx W bx #[.slice ao n ca] 25)(bo9:Bx W bo #[.slice oo (n+1) oc] 26)(hO:OL QC 3 M base 41 W oo oc l)(_hbase:base<=W.heap.size)(hll:l.length=n+1)(hlB:BR 4000000000 l)(_hobx:ob oo bx=false)(hobo:ob oo bo=false):Calls Tryz.prog 184 #[vd, .pointer (some ⟨bx,0,none⟩), .pointer (some ⟨bo,0,none⟩)] W (fun e W'=>e= .returned (.tuple #[])/\ExtX (ob oo) W W'/\OL QC 3 M base 41 W' oo oc (a5p x c d l n)):=by
 obtain⟨do_,dc,rfl,hdc,hds⟩:=hd;have hsx:Sl RV 1 (mk (un M oo) W) ao x:=by
  obtain⟨_,_,he,_,h⟩:=hx;simp only[Value.slice.injEq]at he;obtain⟨rfl,_,rfl⟩:=he;exact h
 have hxl:x.length=n:=hs.1;have hhx:=hsx.hd;rw[hxl]at hhx;have hxl':=hid hxl;have hs':=hid hs;obtain⟨m,hm⟩:∃m,d.length=m:=⟨_,rfl⟩;have hm':=hid hm;rw[hm];obtain⟨W1,hW1,hE1,bl0,hz1⟩:=a0J W #[.slice none 0 0] 26;obtain⟨bl,hbl⟩:∃bl,W.heap.size=bl:=⟨_,rfl⟩;rw[hbl]at bl0 hz1;have hnew:∀j,j<W.heap.size->ob (some ⟨bl,0,none⟩) j=false:=fun j hj=>a0b (by omega);obtain⟨M1,hM1⟩:∃M1,un M (some ⟨bl,0,none⟩)=M1:=⟨_,rfl⟩;have hMM1:∀k,M1 k=true↔M k=true\/k=bl:=fun k=>by
  rw[<-hM1];simp only[un,Bool.or_eq_true];constructor
  ·rintro (h|h)
   ·exact Or.inl h
   ·right;have:bl=k:=by simpa[ob]using h
    exact this.symm
  ·rintro (h|rfl)
   ·exact Or.inl h
   ·right;simp[ob]
 have hX1:HX M1 W1:=fun k hk=>by
  rcases(hMM1 k).1 hk with h|rfl
  ·exact hM.ext hE1 k h
  ·omega
 have hO1:OL QC 3 M1 base 41 W1 oo oc l:=hO.ext QC.elem hE1 (fun k _ hk=>by simp[noY]at hk) (fun k hk hz=>by
  rcases(hMM1 k).1 hz with h|h
  ·exact h
  ·omega)
 have hXu1:HX (un M1 oo) W1:=hO1.unX hX1;have hle1:Le (mk (un M oo) W) (mk (un M1 oo) W1):=a0Z hE1 (fun k _ hk=>by simp[noY]at hk) (fun k hk hz=>by
  rcases Bool.or_eq_true_iff.1 hz with h|h
  ·rcases(hMM1 k).1 h with h2|h2
   ·exact a0v h2
   ·omega
  ·exact a0A h)
 have hsx1:=hid (hsx.mono RV.mono hle1);have hdv1:=hid (RV.mono _ _ _ _ hle1 (show RV (mk (un M oo) W) (.slice do_ d.length dc) d from⟨do_,dc,rfl,hdc,hds⟩));rw[hm]at hdv1;obtain⟨H1,hH1⟩:∃H1,un M1 oo=H1:=⟨_,rfl⟩;rw[hH1]at hXu1 hsx1 hdv1;have hblH:H1 bl=true:=by rw[<-hH1];exact a0v ((hMM1 bl).2 (Or.inr rfl))
 have bx1:=bx9.ext0 hE1;have bo1:=bo9.ext0 hE1;have kx:W1.cell? ⟨bx,0,none⟩=some (.slice ao n ca):=bx1.cell 0 rfl;have hbxl:bx<bl:=by have:=bx9.lt;omega
 have hbol:bo<bl:=by have:=bo9.lt;omega
 have hW1':=hid hW1;have hM1b:M1 bl=true:=(hMM1 bl).2 (Or.inr rfl);have hMM1':=hid hMM1;have hH1':=hid hH1;have hoW:=hid (fun k (h:ob oo k=true)=>(hO.block h).2);have hll':=hid hll;have hX1':=hid hX1;clear hW1 hm hxl hs hx hds hdc hsx hM hM1 hMM1 hH1 hll hX1;go_enter Tryz.func184,Tryz.ntmps184
 have kx':(W.alloc (.cells #[.slice none 0 0] 26)).cell? ⟨bx,0,none⟩=some (.slice ao n ca):=by rw[hW1'.out];exact kx
 go_wp2_with fail
 rw[hW1'.out]
 (try rw[hbl])
 go_loopw [14] (fun cc wr=>∃(i:Nat) (lo:Option Addr) (lc:Nat),cc= .int .i64 i/\i<=n/\Bx wr bl #[.slice lo i lc] 26/\OL QC 3 H1 W1.heap.size 41 wr lo lc (b2W x c d i)/\ExtX (ob (some ⟨bl,0,none⟩)) W1 wr) (fun cc _=>n - (intOf cc).toNat)
 case atStart=>exact⟨0,none,0,rfl,Nat.zero_le _,bl0,OL.nil _ _ _ _ _ _,ExtX.refl _⟩
 case round=>
  obtain⟨i,lo,lc,rfl,hi,blr,hOl,hE⟩:=hrel;have hXr:HX H1 wr:=hXu1.ext hE;have hblY:∀k,ob (some ⟨bl,0,none⟩) k=true->H1 k=true:=fun k hk=>by
   have:bl=k:=by simpa[ob]using hk
   rw[<-this];exact hblH
  by_cases hlt:i<n
  ·have hil:i<x.length:=by rw[hxl'.out];exact hlt
   have hXu:HX (un H1 lo) wr:=hOl.unX hXr;have hleu:Le (mk H1 W1) (mk (un H1 lo) wr):=a0Z hE (fun k _ hk=>hblY k hk) (fun k hk hz=>by
    rcases Bool.or_eq_true_iff.1 hz with h|h
    ·exact h
    ·rw[hOl.ob_lt hk]at h;exact absurd h (by decide))
   obtain⟨a1,c1,hX1',hc1,hcl1,hq1⟩:=(hsx1.out.mono RV.mono (a0E hE hblY)).row i hil;have hrl:x[i].length=c:=hs'.out.2 _ (List.getElem_mem _);have hrB:=hB _ (List.getElem_mem hil);have hbd:=a8V hrl hc4 hrB hdB (by decide) hBB;obtain⟨u0,hcu,hru⟩:∃u,wr.cell? (adr ao i)=some u/\RV (mk (un H1 lo) wr) u x[i]:=by
    obtain⟨u,g1,_,g3⟩:=(hsx1.out.mono RV.mono hleu).cell SlV.one i hil;exact⟨u,a1o g1,_,g3⟩
   have hcu2:=hc1.out noY wr (ExtX.refl _) rfl;rw[hrl]at hcu2;rw[hcu2]at hcu;obtain rfl:Value.slice a1 c c1=u0:=by simpa using hcu
   have hdot:=hid fun w' (h:Ext wr w')=>a8J (un H1 lo) w' (.slice a1 c c1) (.slice do_ m dc) x[i] d (hXu.ext h) (mkx RV.mono hru h) (mkx RV.mono (RV.mono _ _ _ _ hleu hdv1.out) h) (by omega) (by rw[hrl,hdl]) (fun q hq=>Nat.le_trans (hbd.1 q hq) (by decide)) (fun q hq=>Nat.le_trans (hbd.2 q hq) (by decide));have hdq:Hid (hq (b2v x[i] d)<=200004013):=hid (hbd.1 _ (Nat.le_refl _));have hmo:=hid (b1m (c:=c) (d:=d) hil);have hal:=hid (b2X (c:=c) (d:=d) (Nat.le_of_lt hil));rw[a6K hrl]at hdot hdq;obtain⟨D,hD⟩:∃D,dot c (vec d) (vec x[i])=D:=⟨_,rfl⟩;rw[hD]at hdot hdq hmo;have kx2:wr.cell? ⟨bx,0,none⟩=some (.slice ao n ca):=hE.cellY kx (a0b (by show bx≠bl;omega));obtain⟨A,hA⟩:∃A,b2W x c d i=A:=⟨_,rfl⟩;rw[hA]at hOl hmo hal;have hobl:ob lo bl=false:=hOl.ob_lt (by omega);clear hc1 hq1 hcl1 hrl hrB hbd hru hcu hD hA hX1';go_upto_region 4 with(with_reducible refine a0n a0L (by omega) (by assumption) ?_)
   have hEd:Ext wr wr.drew:=(ExtX.refl wr).drew;have hwS:wr.drew.cell? ⟨bl,0,none⟩=some (.slice lo i lc):=hEd.cell (blr.cell 0 rfl)
   (try simp only[Act.put])
   refine a0K 7 (fun w'=>w'.cell? ⟨bl,0,none⟩=some (.slice lo i lc)) (by kernel_rfl) (by kernel_rfl) hwS (fun hHeld hOnce=>?_);refine kt 0 hOnce ?_;refine kt 1 hOnce ?_;refine kt 2 hOnce ?_;refine ks 3 (fun K hK=>?_);go_simp
   ((with_reducible refine(hdot.out wr.drew hEd).mono ?_);rintro ee wa ⟨ga,ua,rfl,hua⟩;obtain⟨s4,a4,n4,c4,d4,k4,e4,rfl⟩:=hua.shape)
   refine kcn hK (ga.cell hHeld) (fun hHeld=>?_);clear hK K;refine ks 4 (fun K hK=>?_);go_simp
   ((with_reducible refine(b7Z (un H1 lo) wa _ D (hXu.ext (hEd.trans ga)) (hua.qv (Nat.le_trans hdq.out (by decide)))).mono ?_);rintro ee wb ⟨gb,ub,rfl,hub⟩;obtain⟨s5,a5,n5,c5,d5,k5,e5,rfl⟩:=hub.shape)
   refine kcn hK (gb.cell hHeld) (fun hHeld=>?_);clear hK K;obtain⟨wc,hwc,gc,bc,hzc⟩:=a0J wb #[.bool s5, .slice a5 n5 c5, .slice d5 k5 e5] 41;refine ks 5 (fun K hK=>?_);go_simp
   skip
   refine kcn hK (gc.cell hHeld) (fun hHeld=>?_);clear hK K;have hEc:Ext wr wc:=hEd.trans (ga.trans (gb.trans gc));have hOc:=hOl.ext0 QC.elem hEc;obtain⟨g,hg⟩:∃g,wb.heap.size=g:=⟨_,rfl⟩;rw[hg]at bc
   (try rw[hg])
   have hgu:un H1 lo g=false:=by
    cases h:un H1 lo g
    ·rfl
    ·have:=hXu.ext (hEd.trans (ga.trans gb)) g h
     omega
   have hsz:=b6n (Y:=un H1 lo) (u:= .agg #[.bool s5, .slice a5 n5 c5, .slice d5 k5 e5]) bc hgu (mkx QC.mono hub gc) rfl;refine ks 6 (fun K hK=>?_)
   (refine a5C (l:=A) rfl rfl a1b rfl QC.elem (Nat.le_trans hE.size hEc.size) (hXr.ext hEc) [a2m D] i 1 hal.out rfl rfl rfl hOc hsz (by omega) (by omega) ?_;intro lo2 lc2 w6 hO6 hE6 hor)
   refine kcn hK (hE6.cellY hHeld hobl) (fun hHeld=>?_);clear hK K;have hE16:ExtX (ob (some ⟨bl,0,none⟩)) W1 w6:=(hE.trans (ExtX.of hEc)).then_ hE6 fun k hk _=>hOc.ob_lt hk;have bl6:=(blr.ext0 hEc).ext hE6 hobl;refine kl 7 (fun K hK=>?_)
   (refine a5A (v:= .slice lo2 (i+1) lc2) rfl rfl a8w rfl rfl rfl rfl bl6 (by simp) ?_;intro w7 bl7 y7)
   refine hK.out _ _ ?_;clear hK K
   (try simp only[Act.put])
   have hE17:=hE16.trans y7;have hO7:=hO6.ext QC.elem y7 (fun k _ hk=>hblY k hk) (fun _ _ h=>h);rw[<-hmo.out]at hO7;go_wp2_with fail
   go_roundw
   case rel=>exact⟨i+1,lo2,lc2,by go_num,by omega,bl7,hO7,hE17⟩
   case measure=>simp[intOf];omega
  ·obtain rfl:n=i:=by omega
   have hall:=b2Y x c d;rw[hxl'.out]at hall;rw[hall]at hOl;have hl0:(a2P x c d).length=n:=by rw[a2t,hxl'.out]
   have hl0B:BR 200004013 (a2P x c d):=fun q hq=>by
    obtain⟨r,hr,rfl⟩:=List.mem_map.1 hq;have hrl:=hs'.out.2 r hr;have hbd:=(a8V hrl hc4 (hB r hr) hdB (by decide) hBB).1 _ (Nat.le_refl _);rw[show a7N r d r.length=b2v r d from rfl,a6K hrl]at hbd;exact Nat.le_trans a5o hbd
   have hpart:=hid (show∀m,a1t x c d m=a7w (a2P x c d) m/a1n (a2P x c d)from fun m=>rfl);obtain⟨l0,hl0'⟩:∃l0,a2P x c d=l0:=⟨_,rfl⟩;rw[hl0']at hOl hl0 hl0B hpart;have hso:Sorting H1 W1.heap.size lo lc n bl l0.toArray wr:=⟨by rw[List.toList_toArray];exact hOl,by simpa using hl0,blr.cell 0 rfl,hOl.ob_lt (by omega),hXr,by rw[List.toList_toArray];exact fun q hq=>Nat.le_trans (hl0B q hq) (by decide)⟩;have hcall:=b5o H1 W1.heap.size lo lc bl l0 wr (by rw[hl0];exact hso) (by omega);rw[hl0]at hcall;have kbl:wr.cell? ⟨bl,0,none⟩=some (.slice lo n lc):=blr.cell 0 rfl;have hmf:∀(fn:Fn) (first cap:Array Value) (w:World),(Instr.makeFunc fn first cap).run Tryz.prog w= .ok (.func fn first cap) w:=fun _ _ _ _=>rfl;have hEW1:=hE;have hO1':=hid hO1;clear hE hlt hi kx hO1 hdv1 hsx1;go_wp2_with (first|(go_at_call 186;refine hcall.mono ?_;rintro e w2 ⟨rfl,hS,hE2⟩;have hv:=hS.var))
   have hEW2:ExtX (ob (some ⟨bl,0,none⟩)) W1 w2:=hEW1.then_ hE2 fun k hk _=>hOl.ob_lt hk;have hOD:=hS.own;rw[List.toList_toArray]at hOD;have hDl:(a3B l0).length=n:=by rw[a8W,hl0]
   have hDB:BR 200004013 (a3B l0):=fun q hq=>hl0B q (a8X.1 hq);have hcc:=hOD.lenCap;rw[hDl]at hcc;have hX2:=hS.hid;have hsl:=hOD.sl QC.elem;have hlh:=hOD.hd;rw[hDl]at hlh;have hsq:=a4s (n:=8) hDB (by omega);have hsum:=b2H H1 w2 (.slice lo n lc) (a3B l0) hX2 ⟨lo,lc,by rw[hDl],by rw[hDl];exact hcc,hsl.qv fun q hq=>Nat.le_trans (hDB q hq) (by decide)⟩ (by omega) (fun j hj=>Nat.le_trans (hsq j hj) (by decide));rw[show sm (a3B l0).length (fn (a3B l0))=a1n (a3B l0)from rfl]at hsum;have hSq:Hid (hq (a1n (a3B l0))<=1600032113):=hid (hsq (a3B l0).length (Nat.le_refl _));have hTk:=hid fun i=>(by
    have h1:=a4s (n:=8) (l:=(a3B l0).take i) (fun q hq=>hDB q (List.mem_of_mem_take hq)) (by rw[List.length_take];omega) _ (Nat.le_refl _);exact h1:hq (a1n ((a3B l0).take i))<=1600032113)
   have hTs:=hid fun i (hi:i<(a3B l0).length)=>(by
    rw[List.take_succ_eq_append_getElem hi,a8I,a0D,a2c];grind:a1n ((a3B l0).take i)+(a3B l0)[i]=a1n ((a3B l0).take (i+1)))
   have hPt:=hid fun i=>(by rw[hpart.out,<-b1k,<-b5k l0]:a1t x c d i=a1n ((a3B l0).take i)/a1n (a3B l0));obtain⟨D,hD⟩:∃D,a3B l0=D:=⟨_,rfl⟩;rw[hD]at hDl hDB hsl hsum hSq hTk hTs hPt;obtain⟨S,hSS⟩:∃S,a1n D=S:=⟨_,rfl⟩;rw[hSS]at hsum hSq hPt;have hDl':=hid hDl;clear hD hSS hcall hOD hS hsq hpart hl0B hl0 hl0' hso hOl blr hDl;go_wp2_with (first|(go_at_call 188;refine hsum.mono ?_;rintro ee w3 ⟨t3,u3,rfl,hu3⟩;obtain⟨sS,aS,nS,cS,dS,kS,eS,rfl⟩:=hu3.shape;have bx7:=Bx.new w3 #[.bool false, .slice none 0 0, .slice none 0 0] 41)|((with_reducible show wpList _ _ _ (⟨_, .store 41 _ _,_,_,_,_⟩::_) _ _);refine a0a a0j rfl rfl bx7 rfl rfl (a1q _ _ _ _ _ _ _) ?_;intro w5 r7 y7;have hE35:Ext w3 w5:=ExtX.box ((ExtX.refl w3).alloc _) y7 (Nat.le_refl _);obtain⟨w6,hw6,t6,r8,hz6⟩:=a0J w5 #[.bool false, .slice none 0 0, .slice none 0 0] 41;have kbl6:(w5.alloc (.cells #[.bool false, .slice none 0 0, .slice none 0 0] 41)).cell? ⟨bl,0,none⟩=some (.slice lo n lc):=by{rw[hw6];exact(t3.trans (hE35.trans t6)).cell hv};have hw6':=hid hw6;clear hw6))
   rw[hw6'.out];obtain⟨b7,hb7⟩:∃b7,w3.heap.size=b7:=⟨_,rfl⟩;obtain⟨b8,hb8⟩:∃b8,w5.heap.size=b8:=⟨_,rfl⟩;rw[hb7]at r7;rw[hb8]at r8
   (try rw[hb7])
   (try rw[hb8])
   have hE26:Ext w2 w6:=t3.trans (hE35.trans t6);have hM2:∀k,un M1 (some ⟨b8,0,none⟩) k=true↔M1 k=true\/k=b8:=fun k=>by
    simp only[un,Bool.or_eq_true];constructor
    ·rintro (h|h)
     ·exact Or.inl h
     ·right;have:b8=k:=by simpa[ob]using h
      exact this.symm
    ·rintro (h|rfl)
     ·exact Or.inl h
     ·right;simp[ob]
   have hsz26:=hE26.size;have hsz2:=hEW2.size;have hszw:W.heap.size<=W1.heap.size:=by omega
   have hb8w:w2.heap.size<=b8:=by have:=t3.size;have:=hE35.size;omega
   have hb7w:w2.heap.size<=b7:=by have:=t3.size;omega
   have hb78:b7<b8:=by have:=r7.lt;omega
   have hblw:bl<w2.heap.size:=by omega
   obtain⟨M2,hM2'⟩:∃M2,un M1 (some ⟨b8,0,none⟩)=M2:=⟨_,rfl⟩;rw[hM2']at hM2;have hM1H:∀k,M1 k=true->H1 k=true:=fun k hk=>by rw[<-hH1'.out];exact a0v hk
   have hO6:OL QC 3 M2 base 41 w6 oo oc l:=(hO1'.out.ext QC.elem hEW2 (fun k _ hk=>by
    have:bl=k:=by simpa[ob]using hk
    rw[<-this];exact hM1b) (fun _ _ h=>h)).ext QC.elem hE26 (fun k _ hk=>by simp[noY]at hk) (fun k hk hz=>by
    rcases(hM2 k).1 hz with h|h
    ·exact h
    ·omega)
   have hX6m:HX M2 w6:=fun k hk=>by
    rcases(hM2 k).1 hk with h|h
    ·have:=hX1'.out k h;omega
    ·have:=r8.lt;omega
   have hXu6:HX (un M2 oo) w6:=hO6.unX hX6m;obtain⟨H2,hH2⟩:∃H2,un M2 oo=H2:=⟨_,rfl⟩;rw[hH2]at hXu6;have hH2k:∀k,H2 k=true->k<w2.heap.size->H1 k=true:=fun k hk hs=>by
    rw[<-hH2]at hk;rw[<-hH1'.out];rcases Bool.or_eq_true_iff.1 hk with h|h
    ·rcases(hM2 k).1 h with h2|h2
     ·exact a0v h2
     ·omega
    ·exact a0A h
   have hb8H:H2 b8=true:=by rw[<-hH2];exact a0v ((hM2 b8).2 (Or.inr rfl))
   have hooH:∀k,ob oo k=true->H2 k=true:=fun k hk=>by rw[<-hH2];exact a0A hk
   have hb8M:M2 b8=true:=(hM2 b8).2 (Or.inr rfl);have hD6:=hid (hsl.mono QC.mono (a0Z (Z:=H2) hE26 (fun k _ hk=>by simp[noY]at hk) (fun k hk hz=>hH2k k hz hk)));have hS6:=hid (QC.mono _ _ _ _ (a0Z (Z:=H2) (hE35.trans t6) (fun k _ hk=>by simp[noY]at hk) (fun k hk hz=>by
    by_cases h:k<w2.heap.size
    ·exact hH2k k hz h
    ·rw[<-hH2]at hz
     rcases Bool.or_eq_true_iff.1 hz with h2|h2
     ·rcases(hM2 k).1 h2 with h3|h3
      ·have:=hX1'.out k h3;omega
      ·have:=hE35.size;omega
     ·have:=hoW.out k h2;omega)) hu3)
   have r76:=r7.ext0 t6;have bo6:=(bo1.ext hEW2 (a0b (by omega))).ext0 hE26;have hob8:ob oo b8=false:=by
    cases h:ob oo b8
    ·rfl
    ·have:=hoW.out b8 h;omega
   have hob7:ob oo b7=false:=by
    cases h:ob oo b7
    ·rfl
    ·have:=hoW.out b7 h;omega
   have hEW6:ExtX (ob (some ⟨bl,0,none⟩)) W1 w6:=hEW2.trans (ExtX.of hE26);have hu0:=hid (b1n x c d l);have hMs:=hid (fun k (hk:M k=true)=>((hM2 k).2 (Or.inl ((hMM1'.out k).2 (Or.inl hk))):M2 k=true));have hWw6:ExtX (ob oo) W w6:=(ExtX.of hE1).then_ hEW6 fun k hk _=>a0b (by omega);have hbo8:bo≠b8:=by omega
   have hbld:∀k,ob (some ⟨b8,0,none⟩) k=true->k=b8:=fun k hk=>by
    have:b8=k:=by simpa[ob]using hk
    exact this.symm
   clear hE26 hsl hu3 r7 bo1 hE35 t3 t6 hEW2 hEW1 hE2 hXr hblY hXu1 hX2 hO1' bx9 bo9 hE1 bl0 hle1 bx1 hW1' hMM1' hX1' kx' kbl hv bx7 kbl6 hw6' hz6 hH1' hM1H hM2 hM2' hsum hM1b hs' hdB hB hhx;go_loopw [34] (fun cc wr=>∃(i:Nat) (sp:Bool) (ap:Option Addr) (np cp:Nat) (dp:Option Addr) (kp ep:Nat),cc= .int .i64 i/\i<=n/\Bx wr b8 #[.bool sp, .slice ap np cp, .slice dp kp ep] 41/\QC (mk H2 wr) (.agg #[.bool sp, .slice ap np cp, .slice dp kp ep]) (a1n (D.take i))/\OL QC 3 M2 base 41 wr oo oc (a5p x c d l i)/\ExtX (fun k=>ob (some ⟨b8,0,none⟩) k||ob oo k) w6 wr) (fun cc _=>n - (intOf cc).toNat)
   case atStart=>exact⟨0,_,_,_,_,_,_,_,rfl,Nat.zero_le _,r8,QC.zero _,by rw[hu0.out];exact hO6,ExtX.refl _⟩
   case round=>
    obtain⟨i,sp,ap,np,cp,dp,kp,ep,rfl,hi,r8r,hqp,hOr,hEr⟩:=hrel;have hYH:∀k,(ob (some ⟨b8,0,none⟩) k||ob oo k)=true->H2 k=true:=fun k hk=>by
     rcases Bool.or_eq_true_iff.1 hk with h|h
     ·rw[hbld k h];exact hb8H
     ·exact hooH k h
    have hXr:HX H2 wr:=hXu6.ext hEr;by_cases hlt:i<n
    ·have hiD:i<D.length:=by rw[hDl'.out];exact hlt
     have hDr:=hD6.out.mono QC.mono (a0E hEr hYH);have hSr:=QC.mono _ _ _ _ (a0E hEr hYH) hS6.out;have r7r:=r76.ext hEr (by rw[a0b (show b7≠b8 by omega),hob7];rfl);have bor:=bo6.ext hEr (by rw[a0b hbo8,hobo];rfl);have hst:=hid (hTs.out i hiD);have hxB:=hDB _ (List.getElem_mem hiD);obtain⟨v,hv⟩:∃v,D[i]=v:=⟨_,rfl⟩;rw[hv]at hst hxB;have hv':=hid hv;have hp1:=hid (hTk.out i);have hp2:=hid (hTk.out (i+1));have hpq:=hid (hPt.out (i+1)).symm;obtain⟨P1,hP1⟩:∃P1,a1n (D.take i)=P1:=⟨_,rfl⟩;obtain⟨P2,hP2⟩:∃P2,a1n (D.take (i+1))=P2:=⟨_,rfl⟩;rw[hP1]at hqp hst hp1;rw[hP2]at hst hp2 hpq;have hP2':=hid hP2;have bx10:=Bx.new wr #[.bool false, .slice none 0 0, .slice none 0 0] 41;obtain⟨b10,hb10⟩:∃b10,wr.heap.size=b10:=⟨_,rfl⟩;have hb810:b8<b10:=by have:=r8r.lt;omega
     rw[hb10]at bx10;clear hv hP1 hP2;go_wp2_with (first
      |(with_reducible refine a1E a1b (by omega) (by assumption) ?_)
      |((with_reducible show wpList _ _ _ (⟨_, .load 41 _,_,_,_,_⟩::_) _ _);refine a1g a0j i hDr hiD rfl (by simp) QC.agg ?_;intro u5 hu5;rw[hv'.out]at hu5;obtain⟨sv,av,nv,cv,dv,kv,ev,rfl⟩:=hu5.shape)
      |((with_reducible show wpList _ _ _ (⟨_, .store 41 _ _,_,_,_,_⟩::_) _ _);refine a0a a0j rfl rfl bx10 rfl rfl (a1q _ _ _ _ _ _ _) ?_;intro w7 r10 y10;have hE7:Ext wr w7:=ExtX.box ((ExtX.refl wr).alloc _) y10 (by omega);have r87:=r8r.ext0 hE7;have kp7_0:w7.cell? ⟨b8,0,none⟩=some (.bool sp):=r87.cell 0 rfl;have kp7_1:w7.cell? ⟨b8,1,none⟩=some (.slice ap np cp):=r87.cell 1 rfl;have kp7_2:w7.cell? ⟨b8,2,none⟩=some (.slice dp kp ep):=r87.cell 2 rfl;have kv7_0:w7.cell? ⟨b10,0,none⟩=some (.bool sv):=r10.cell 0 rfl;have kv7_1:w7.cell? ⟨b10,1,none⟩=some (.slice av nv cv):=r10.cell 1 rfl;have kv7_2:w7.cell? ⟨b10,2,none⟩=some (.slice dv kv ev):=r10.cell 2 rfl;have hXw7:=hXr.ext hE7;have hp7:=mkx QC.mono hqp hE7;have hv7:=mkx QC.mono hu5 hE7)
      |(go_at_call 182;(with_reducible refine(b5B H2 w7 _ _ _ _ hXw7 (hp7.qv (Nat.le_trans hp1.out (by decide))) (hv7.qv (Nat.le_trans hxB (by decide)))).mono ?_);rintro ee wa ⟨ga,ua,rfl,hua⟩;rw[hst.out]at hua;obtain⟨sq,aq,nq,cq,dq,kq,eq,rfl⟩:=hua.shape;have r8a:=r87.ext0 ga)
      |((with_reducible show wpList _ _ _ (⟨_, .store 41 _ _,_,_,_,_⟩::_) _ _);refine a0a a0j rfl rfl r8a rfl rfl (a1q _ _ _ _ _ _ _) ?_;intro w9 r89 y89;have r79:=((r7r.ext0 hE7).ext0 ga).ext y89 (a0b (show b7≠b8 by omega));have kq9_0:w9.cell? ⟨b8,0,none⟩=some (.bool sq):=r89.cell 0 rfl;have kq9_1:w9.cell? ⟨b8,1,none⟩=some (.slice aq nq cq):=r89.cell 1 rfl;have kq9_2:w9.cell? ⟨b8,2,none⟩=some (.slice dq kq eq):=r89.cell 2 rfl;have kS9_0:w9.cell? ⟨b7,0,none⟩=some (.bool sS):=r79.cell 0 rfl;have kS9_1:w9.cell? ⟨b7,1,none⟩=some (.slice aS nS cS):=r79.cell 1 rfl;have kS9_2:w9.cell? ⟨b7,2,none⟩=some (.slice dS kS eS):=r79.cell 2 rfl;have hXw9:=(hXw7.ext ga).ext y89;have hb8y:∀k,ob (some ⟨b8,0,none⟩) k=true->H2 k=true:=fun k hk=>by{rw[hbld k hk];exact hb8H};have q9:=QC.mono _ _ _ _ (a0E y89 hb8y) hua;have S9:=QC.mono _ _ _ _ (a0E y89 hb8y) (mkx QC.mono hSr (hE7.trans ga)))
      |(go_at_call 152;(with_reducible refine(b6l H2 w9 _ _ _ _ hXw9 (q9.qv (Nat.le_trans hp2.out (by decide))) (S9.qv (Nat.le_trans hSq.out (by decide)))).mono ?_);rintro ee wb ⟨gb,ub,rfl,hub⟩;rw[hpq.out]at hub;obtain⟨s2,a2,n2,c2,d2,k2,e2,rfl⟩:=hub.shape;have bx11:=Bx.new wb #[.bool false, .slice none 0 0, .slice none 0 0] 41)
      |((with_reducible show wpList _ _ _ (⟨_, .store 41 _ _,_,_,_,_⟩::_) _ _);refine a0a a0j rfl rfl bx11 rfl rfl (a1q _ _ _ _ _ _ _) ?_;intro w12 r11 y11))
     have hE12:Ext wb w12:=ExtX.box ((ExtX.refl wb).alloc _) y11 (Nat.le_refl _);obtain⟨b11,hb11⟩:∃b11,wb.heap.size=b11:=⟨_,rfl⟩;rw[hb11]at r11
     (try rw[hb11])
     have hO12:OL QC 3 M2 base 41 w12 oo oc (a5p x c d l i):=((hOr.ext0 QC.elem (hE7.trans ga)).ext QC.elem y89 (fun k _ hk=>by rw[hbld k hk];exact hb8M) (fun _ _ h=>h)).ext0 QC.elem (gb.trans hE12);have hE9r:ExtX (ob (some ⟨b8,0,none⟩)) wr w9:=(ExtX.of (hE7.trans ga)).trans y89;have hE12r:ExtX (ob (some ⟨b8,0,none⟩)) wr w12:=hE9r.trans (ExtX.of (gb.trans hE12));have hX12:HX H2 w12:=hXw9.ext (gb.trans hE12);have bo12:=bor.ext hE12r (a0b hbo8);have r812:=r89.ext0 (gb.trans hE12);have hp12:=mkx QC.mono q9 (gb.trans hE12);have hu12:=mkx QC.mono hub hE12;have hil:i+1<(a5p x c d l i).length:=by rw[a8Z,hll'.out];omega
     obtain⟨g1,o1,s1,a1,n1,c1,d1,k1,e1,hg1,hy1,hc1,hq1⟩:=hO12.rat QC.shaped (i+1) hil;rw[hH2,a9a hil]at hq1;have hoh:Hd oo (n+1):=by have:=hO12.hd;rwa[a8Z,hll'.out]at this
     have hlb:hq (l.getD (i+1) 0)<=4000000000:=by
      have h1:i+1<l.length:=by rw[hll'.out];omega
      rw[show l.getD (i+1) 0=l[i+1]by simp[List.getD_eq_getElem?_getD,h1]];exact hlB _ (List.getElem_mem h1)
     have ewi:IntKind.i64.wrap ((i:Int)+1)=(i:Int)+1:=IntWalk.i64_in _ (by omega);have i1:∀W,(Instr.indexAt 26 (.slice oo (n+1) oc) (.int .i64 ((i:Int)+1))).run Tryz.prog W= .ok (.pointer (some ⟨g1,o1,none⟩)) W:=by
      rw[<-hg1,show((i:Int)+1)=((i+1:Nat):Int)by omega];exact a0o a1b oo (n+1) oc .i64 (i+1) hoh (by omega)
     have hEd:Ext w12 w12.drew:=(ExtX.refl w12).drew;have hwS:w12.drew.cell? ⟨bo,0,none⟩=some (.slice oo (n+1) oc)/\w12.drew.cell? ⟨g1,o1,none⟩=some (.bool s1)/\w12.drew.cell? ⟨g1,o1+1,none⟩=some (.slice a1 n1 c1)/\w12.drew.cell? ⟨g1,o1+2,none⟩=some (.slice d1 k1 e1)/\w12.drew.cell? ⟨b11,0,none⟩=some (.bool s2)/\w12.drew.cell? ⟨b11,1,none⟩=some (.slice a2 n2 c2)/\w12.drew.cell? ⟨b11,2,none⟩=some (.slice d2 k2 e2):=by
      have z:=hc1.out noY w12.drew hEd rfl;exact⟨hEd.cell (bo12.cell 0 rfl),z.1,z.2.1,z.2.2,hEd.cell (r11.cell 0 rfl),hEd.cell (r11.cell 1 rfl),hEd.cell (r11.cell 2 rfl)⟩
     have hle6:=b4X H2 w12.drew _ _ (l.getD (i+1) 0) (a1t x c d (i+1)) (hX12.ext hEd) ((mkx QC.mono hq1 hEd).qv (Nat.le_trans hlb (by decide))) ((mkx QC.mono hu12 hEd).qv (by
      have h1:=hq_div P2 S;have h2:=hp2.out;have h3:=hSq.out;rw[<-hpq.out];omega))
     have hst1:=hid (a9b (x:=x) (c:=c) (d:=d) (l:=l) (i:=i));have hmx1:=hid fun(h:ltQ (l.getD (i+1) 0) (a1t x c d (i+1))=true)=>(by unfold a5E;rw[if_pos (a2l.1 h)]:a5E (l.getD (i+1) 0) (a1t x c d (i+1))=a1t x c d (i+1));have hmx2:=hid fun(h:ltQ (l.getD (i+1) 0) (a1t x c d (i+1))=false)=>(by unfold a5E;rw[if_neg (fun h2=>by rw[a2l.2 h2]at h;cases h)]:a5E (l.getD (i+1) 0) (a1t x c d (i+1))=l.getD (i+1) 0);have hsm:=hid fun h=>b1o (x:=x) (c:=c) (d:=d) (l:=l) (i:=i) h;rw[show decide (b0g (l.getD (i+1) 0) (a1t x c d (i+1))<0)=ltQ (l.getD (i+1) 0) (a1t x c d (i+1))from rfl]at hle6;obtain⟨q1,hq1'⟩:∃q,l.getD (i+1) 0=q:=⟨_,rfl⟩;obtain⟨q2,hq2'⟩:∃q,a1t x c d (i+1)=q:=⟨_,rfl⟩;rw[hq1',hq2']at hle6 hst1 hmx1 hmx2 hsm;rw[hq2']at hu12;obtain⟨bb,hbb⟩:∃bb,ltQ q1 q2=bb:=⟨_,rfl⟩;rw[hbb]at hle6 hmx1 hmx2;clear hc1 hq1 hg1 hy1 hub hua hv7 hp7 hu5 q9 S9 hXw7 hXw9 bx11 r8a r87 r10 bx10 y10 y11 hO6 hOr hlb hq1' hq2' hbb kp7_0 kp7_1 kp7_2 kv7_0 kv7_1 kv7_2 kq9_0 kq9_1 kq9_2 kS9_0 kS9_1 kS9_2 r79 r7r r8r hDr hSr bor hE9r;go_upto_region 14 with fail
     (try simp only[Act.put])
     refine a0K 6 (fun w'=>w'.cell? ⟨bo,0,none⟩=some (.slice oo (n+1) oc)/\w'.cell? ⟨g1,o1,none⟩=some (.bool s1)/\w'.cell? ⟨g1,o1+1,none⟩=some (.slice a1 n1 c1)/\w'.cell? ⟨g1,o1+2,none⟩=some (.slice d1 k1 e1)/\w'.cell? ⟨b11,0,none⟩=some (.bool s2)/\w'.cell? ⟨b11,1,none⟩=some (.slice a2 n2 c2)/\w'.cell? ⟨b11,2,none⟩=some (.slice d2 k2 e2)) (by kernel_rfl) (by kernel_rfl) hwS (fun hHeld hOnce=>?_);refine kt 0 hOnce ?_;refine kt 1 hOnce ?_;refine kt 2 hOnce ?_;refine kt 3 hOnce ?_;refine kt 4 hOnce ?_;refine kt 5 hOnce ?_;refine kl 6 (fun K hK=>?_);go_simp
     (with_reducible refine hle6.mono ?_)
     rintro ee w13 ⟨g13,rfl⟩;refine hK.out _ _ ?_;clear hK K
     (try simp only[Act.put])
     have hE123:=hEd.trans g13;have hO13:=hO12.ext0 QC.elem hE123;have k30:w13.cell? ⟨bo,0,none⟩=some (.slice oo (n+1) oc):=g13.cell hHeld.1;have k31:w13.cell? ⟨b11,0,none⟩=some (.bool s2):=g13.cell hHeld.2.2.2.2.1;have k32:w13.cell? ⟨b11,1,none⟩=some (.slice a2 n2 c2):=g13.cell hHeld.2.2.2.2.2.1;have k33:w13.cell? ⟨b11,2,none⟩=some (.slice d2 k2 e2):=g13.cell hHeld.2.2.2.2.2.2;have r813:=r812.ext0 hE123;have hp13:=mkx QC.mono hp12 hE123;have hu13:=mkx QC.mono hu12 hE123;rw[<-hH2]at hu13;rw[<-hP2'.out]at hp13;have hE6w:ExtX (fun k=>ob (some ⟨b8,0,none⟩) k||ob oo k) w6 w13:=(hEr.trans (hE12r.weaken fun k _ hk=>by
      rw[Bool.or_eq_false_iff]at hk;exact hk.1)).trans (ExtX.of hE123)
     clear hwS hHeld hOnce hle6 hX12;cases bb with
     |true=>
      have hset:=hst1.out;rw[hmx1.out rfl]at hset;clear i1;go_wp2_with (first|(with_reducible refine a1E a1b (by omega) (by assumption) ?_)|((with_reducible show wpList _ _ _ (⟨_, .store 41 _ _,_,_,_,_⟩::_) _ _);refine a1O a6S QC.elem (i+1) rfl (by omega) hO13 hil _ q2 rfl hu13 ?_;intro w14 hO14 y14))
      rw[hset]at hO14;have hE14:ExtX (fun k=>ob (some ⟨b8,0,none⟩) k||ob oo k) w6 w14:=hE6w.trans (y14.weaken fun k _ hk=>by
       rw[Bool.or_eq_false_iff]at hk;exact hk.2)
      have r814:=r813.ext y14 hob8;have hp14:=QC.mono _ _ _ _ (a0E y14 hooH) hp13;go_roundw
      case rel=>exact⟨i+1,_,_,_,_,_,_,_,by go_num,by omega,r814,hp14,hO14,hE14⟩
      case measure=>simp[intOf];omega
     |false=>
      have hset:=hsm.out (hmx2.out rfl);rw[hset]at hO13;go_wp2_with fail
      go_roundw
      case rel=>exact⟨i+1,_,_,_,_,_,_,_,by go_num,by omega,r813,hp13,hO13,hE6w⟩
      case measure=>simp[intOf];omega
    ·obtain rfl:n=i:=by omega
     have hfinE:ExtX (ob oo) W wr:=hWw6.then_ hEr fun k hk hy=>by
      show(ob (some ⟨b8,0,none⟩) k||ob oo k)=false
      rw[a0b (show k≠b8 by omega),hy];rfl
     have hOf:OL QC 3 M base 41 wr oo oc (a5p x c d l n):=hOr.ext QC.elem (ExtX.refl (Y:=noY) wr) (fun k _ hk=>by simp[noY]at hk) (fun k _ hk=>hMs.out k hk);go_wp2_with fail
     go_end0
     exact⟨rfl,hfinE,hOf⟩
end Go.Proofs.YtnnpfhoigmegcaaGreat
namespace Go.Lin
open Go.Lim Go.Rep
theorem b1p{n c:Nat}{x:Mat}(l:Shp n c x)(v:1<=c){d:List Rat}(h:d∈a1m x c):nz c (vec d):=by
 unfold a1m at h;split at h
 ·rename_i g
  subst g;obtain rfl:d= [1]:=by simpa using h
  exact⟨0,by decide,by show(1:Rat)≠0;decide+kernel⟩
 ·obtain⟨s,k,f⟩:=List.mem_filterMap.1 h
  obtain⟨u,m,_⟩:=a3i _ _ _ _ k;have t:x.length=n:=l.1;have p:∀i∈s,0<=i/\i<(x.length:Int):=fun i hi=>by have:=m i hi;omega
  unfold a5D at f;split at f
  ·rename_i b q
   obtain rfl:b=d:=by simpa using f
   have a:=(a3t (a8c l p)).li;rw[show a1v x s=s.map fun i=>x.getD i.toNat []from rfl,q]at a;refine b2g fun o=>?_;have:=a (fun _=>1) (fun j r=>by
    show cmb 1 _ _ j=0
    unfold cmb
    show(0:Rat)+1*ent [b] 0 j=0
    have e:ent [b] 0 j=vec b j:=rfl;rw[e,o j r];grind) 0 (by simp)
   exact absurd this (by decide)
  ·cases f
theorem b6s{n c:Nat}{x:Mat}(f:Shp n c x)(i:1<=c)(e:a7Z x c):∃d,d∈a1m x c:=by
 obtain⟨y,⟨_,a,b⟩,_⟩:=a7a (a7d (z:=a1D x) (by omega) e) _ (fun _=>1) (by simp[Ort]) ⟨0,by omega,by show(1:Rat)≠0;decide+kernel⟩ rfl;obtain⟨d,hd,_⟩:=b3H f (by omega) a fun g h=>b g (by simp[Ort]) h;exact⟨d,hd⟩
theorem b3a{l:List Rat}(hn:∀q∈l,0<=q){q:Rat}(hq:q∈l)(h:0<q):0<a1n l:=by
 induction l with
 |nil=>simp at hq
 |cons a l ih=>
  rw[a0D];have h1:=hn a List.mem_cons_self;have h2:=b0T fun x hx=>hn x (List.mem_cons_of_mem a hx);rcases List.mem_cons.1 hq with rfl|hq
  ·grind
  ·have:=ih (fun x hx=>hn x (List.mem_cons_of_mem _ hx)) hq
   grind
theorem b1q{c:Nat}{x:Mat}(f:a7Z x c){d:List Rat}(hd:nz c (vec d)):0<a1n (a2P x c d):=by
 obtain⟨v,b,a⟩:∃v∈a1D x,dot c (vec d) v≠0:=by
  apply Classical.byContradiction;intro h;exact hd.not (f (vec d) fun v b=>Classical.byContradiction fun e=>h ⟨v,b,e⟩)
 obtain⟨r,g,rfl⟩:=List.mem_map.1 b;exact b3a b0W (List.mem_map.2 ⟨r,g,rfl⟩) (b0S a)
theorem b1s(q:Rat):0/q=0:=by rw[Rat.div_def];grind
theorem a4b(x:Mat)(c:Nat)(d:List Rat):a1t x c d 0=0:=by
 unfold a1t;rw[b0V,b1s]
theorem a9c{c:Nat}{x:Mat}(a:a7Z x c){d:List Rat}(hd:nz c (vec d)):a1t x c d x.length=1:=by
 unfold a1t;have h:=b1q a hd;rw[show a7w (a2P x c d) x.length=a1n (a2P x c d)by rw[<-b2N,a2t]];rw[Rat.div_def,Rat.mul_inv_cancel _ (by grind)]
theorem b1t{n c:Nat}{x:Mat}(e:Shp n c x)(a:1<=c)(b:a7Z x c):a0B x c x.length=1:=by
 obtain⟨d,hd⟩:=b6s e a b;have f:(0:Rat)<=1:=by decide+kernel
 refine Rat.le_antisymm (b2O f fun d hd=>by rw[a9c b (b1p e a hd)];exact Rat.le_refl) ?_;rw[<-a9c b (b1p e a hd)];exact a8O hd
theorem b5p(l:List Rat):∀(C:List Nat),C.Nodup->(∀i∈C,i<l.length)->∃r,((C.map fun i=>l.getD i 0)++r).Perm l:=by
 intro C f c;refine⟨((List.range l.length).filter (· ∉C)).map fun i=>l.getD i 0,?_⟩;rw[<-List.map_append];have h:(C++(List.range l.length).filter (· ∉C)).Perm (List.range l.length):=by
  refine(List.perm_ext_iff_of_nodup ?_ List.nodup_range).2 fun i=>?_
  ·rw[List.nodup_append]
   refine⟨f,List.Pairwise.filter _ List.nodup_range,fun a g b c e=>?_⟩;subst e;simp only[List.mem_filter,decide_not,Bool.not_eq_eq_eq_not,Bool.not_true,decide_eq_false_iff_not]at c;exact c.2 g
  ·simp only[List.mem_append,List.mem_filter,List.mem_range,decide_not,Bool.not_eq_eq_eq_not,Bool.not_true,decide_eq_false_iff_not]
   constructor
   ·rintro (h|h)
    ·exact c i h
    ·exact h.1
   ·intro h
    by_cases hi:i∈C
    ·exact Or.inl hi
    ·exact Or.inr ⟨h,hi⟩
 have d:=h.map fun i=>l.getD i 0;refine d.trans (List.Perm.of_eq ?_);refine List.ext_getElem (by simp) fun i j d=>?_;simp[List.getD_eq_getElem?_getD,d]
theorem b6t(l:List Rat)(C:List Nat)(hC:C.Nodup)(hb:∀i∈C,i<l.length):a1n (C.map fun i=>l.getD i 0)=sm l.length fun i=>(if i∈C then 1 else 0)*l.getD i 0:=by
 induction C with
 |nil=>rw[List.map_nil,a2c];exact(a3e fun i _=>by simp).symm
 |cons a C ih=>
  rw[List.nodup_cons]at hC;rw[List.map_cons,a0D,ih hC.2 fun i hi=>hb i (List.mem_cons_of_mem _ hi)];have e:(fun i=>(if i∈a::C then(1:Rat)else 0)*l.getD i 0)=fun i=>(if i=a then l.getD i 0 else 0)+(if i∈C then 1 else 0)*l.getD i 0:=by
   funext i
   by_cases h:i=a
   ·subst h
    simp[hC.1];grind
   ·simp[h]
    grind
  rw[e,a4E,a2r (f:=fun i=>if i=a then l.getD i 0 else 0) a (hb a List.mem_cons_self) fun i _ hi=>if_neg hi]
  show l.getD a 0+_=(if a=a then l.getD a 0 else 0)+_
  rw[if_pos rfl]
theorem b6L{n c:Nat}{x:Mat}(o:Shp n c x)(D:1<=c)(l:a7Z x c)(m:Nat)(C:List Nat)(g:C.Nodup)(j:∀i∈C,i<x.length)(E:C.length<=m)(d:List Rat):a1n (C.map fun i=>(a2P x c d).getD i 0)<=a0B x c m*a1n (a2P x c d):=by
 have b:∀e:List Rat,GW c (fun i=>(if i∈C then 1 else 0) - a0B x c m) (a1D x) (vec e)=a1n (C.map fun i=>(a2P x c e).getD i 0) - a0B x c m*a1n (a2P x c e):=fun e=>by
  rw[b6t _ _ g fun i hi=>by rw[a2t];exact j i hi];unfold GW a1n;rw[<-a2z,a2t,a8N,<-b3z];refine a0l fun i hi=>?_;have q:(a2P x c e).getD i 0=a2m (dot c (vec e) ((a1D x).getD i z0)):=by
   simp[a2P,a1D,List.getD_eq_getElem?_getD,hi]
  have s:fn (a2P x c e) i=(a2P x c e).getD i 0:=rfl;rw[s,q];grind
 have a:=b7Y (w:=fun i=>(if i∈C then 1 else 0) - a0B x c m) (a7d (z:=a1D x) (by omega) l) (fun y p=>by
  obtain⟨e,k,t,G,f⟩:=b3H o (by omega) p.2.1 fun H h=>p.2.2 H (by simp[Ort]) h;have u:=b2M (w:=fun i=>(if i∈C then 1 else 0) - a0B x c m) (z:=a1D x) f;have v:=b1q l (b1p o D k);have I:a1n (C.map fun i=>(a2P x c e).getD i 0)<=a7w (a2P x c e) m:=by
   obtain⟨r,F⟩:=b5p (a2P x c e) C g fun i hi=>by rw[a2t];exact j i hi
   exact b5i b0W F (by simpa using E)
  have A:a7w (a2P x c e) m/a1n (a2P x c e)<=a0B x c m:=a8O k;have J:a7w (a2P x c e) m<=a0B x c m*a1n (a2P x c e):=by
   have:=Rat.mul_le_mul_of_nonneg_right A (Rat.le_of_lt v);rwa[Rat.div_mul_cancel (by grind)]at this
  have B:GW c (fun i=>(if i∈C then 1 else 0) - a0B x c m) (a1D x) (vec e)<=0:=by rw[b];grind
  rw[u]at B;apply Classical.byContradiction;intro L;have K:=Rat.mul_pos (b0S G) (show 0<GW c (fun i=>(if i∈C then 1 else 0) - a0B x c m) (a1D x) y by grind);grind) _ (vec d) rfl
 rw[b]at a;grind
theorem a8e{n c B:Nat}{x:Mat}(k:Shp n c x)(t:n<=8)(h:c<=4)(s:BM B x)(f:B<=1000){d:List Rat}(i:BR 42875000 d)(m:Nat):hq (a1t x c d m)<=3300000000:=by
 have u:x.length=n:=k.1;have a:BR 200004013 (a2P x c d):=fun q b=>by
  obtain⟨r,j,rfl⟩:=List.mem_map.1 b;have e:=k.2 r j;have g:=(a8V e h (s r j) i (by decide) f).1 _ (Nat.le_refl _);rw[show a7N r d r.length=b2v r d from rfl,a6K e]at g;have:hq (a2m (dot c (vec d) (vec r)))<=hq (dot c (vec d) (vec r)):=by
   unfold a2m;split
   ·exact Nat.le_of_eq (a3U _)
   ·exact Nat.le_refl _
  omega
 have o:=a4s (n:=8) a (by rw[a2t];omega) _ (Nat.le_refl _);have p:=a4s (n:=8) (l:=(a3B (a2P x c d)).take m) (fun q b=>a q (a8X.1 (List.mem_of_mem_take b))) (by rw[List.length_take,a8W,a2t];omega) _ (Nat.le_refl _);have y:=hq_div (a7w (a2P x c d) m) (a1n (a2P x c d));have v:hq (a1n (a2P x c d))<=1600032113:=o;have w:hq (a7w (a2P x c d) m)<=1600032113:=by rw[<-b1k];exact p
 unfold a1t;omega
def shL(x:Mat)(c:Nat)(done:List (List Rat)):List Rat:=(List.range (x.length+1)).map fun m=>(done.map fun d=>a1t x c d m).foldl a5E 0
theorem b5q(x:Mat)(c:Nat)(done:List (List Rat)):(shL x c done).length=x.length+1:=by simp[shL]
theorem b5r(x:Mat)(c:Nat):shL x c []=List.replicate (x.length+1) 0:=by
 refine List.ext_getElem (by simp[shL]) fun m a b=>?_;simp[shL]
theorem b6u{x:Mat}{c K:Nat}{done:List (List Rat)}(h:∀d∈done,∀m,hq (a1t x c d m)<=K)(f:1<=K):BR K (shL x c done):=fun q a=>by
 obtain⟨m,_,rfl⟩:=List.mem_map.1 a;rcases(a9y (done.map fun d=>a1t x c d m) 0).2.2 with e|e
 ·rw[e,a1J];exact f
 ·obtain⟨d,hd,b⟩:=List.mem_map.1 e
  rw[<-b];exact h d hd m
theorem b3b(x:Mat)(c:Nat)(done:List (List Rat))(d:List Rat):a5p x c d (shL x c done) x.length=shL x c (done++[d]):=by
 refine List.ext_getElem (by simp[a5p,shL]) fun m i f=>?_;have g:m<x.length+1:=by simpa[shL]using f
 have e:(shL x c done).getD m 0=(done.map fun d=>a1t x c d m).foldl a5E 0:=by simp[shL,List.getD_eq_getElem?_getD,g]
 simp only[a5p,List.getElem_map,List.getElem_range];rw[e];simp only[shL,List.getElem_map,List.getElem_range,List.map_append,List.map_singleton,List.foldl_append,List.foldl_cons,List.foldl_nil];by_cases b:m=0
 ·subst b
  rw[if_neg (by omega),a4b];have hz:(done.map fun d=>a1t x c d 0).foldl a5E 0=0:=by
   rcases(a9y (done.map fun d=>a1t x c d 0) 0).2.2 with e|e
   ·exact e
   ·obtain⟨h,_,a⟩:=List.mem_map.1 e
    rw[<-a,a4b]
  rw[hz];decide+kernel
 ·rw[if_pos ⟨by omega,by omega⟩]
theorem b5s(x:Mat)(c:Nat):shL x c (a1m x c)=(List.range (x.length+1)).map fun m=>a0B x c m:=rfl
noncomputable def shE(x:Mat)(m:Int):Int:=if a5l x=false then 6 else if m<0\/(x.length:Int)<m then 1 else if(a1P x (a0u x)).2.length=a0u x then 0 else 7
end Go.Lin
namespace Go.Proofs.YtnnpfhoigmegcaaGreat
open Go.RowKit Go.Rep Go.Lim Go.Lin
theorem b7r(X:Nat->Bool)(w:World)(a k:Int)(u:HX X w)(o: -100000<=a)(p:a<=100000)(q: -100000<=k)(r:k<=100000):Calls Tryz.prog 105 #[.int .i64 a, .int .i64 k] w (a1u X w QC ((a:Rat)/(k:Rat))):=by
 obtain⟨W,P,t,i,hz⟩:=a0J w #[.bool false, .slice none 0 0, .slice none 0 0] 41;have c:HX (a0e X w.heap.size 1) W:=u.boxes hz;obtain⟨b,v⟩:∃b,w.heap.size=b:=⟨_,rfl⟩;have x:w.heap.size<=b:=by omega
 rw[v]at i hz c;have y:Hid (hq (a:Rat)<=68719476736):=hid (Nat.le_trans (a4U a 1 (lgI o p) (Nat.le_refl _)) (by decide));have z:Hid (hq (k:Rat)<=68719476736):=hid (Nat.le_trans (a4U k 1 (lgI q r) (Nat.le_refl _)) (by decide));go_enter Tryz.func105,Tryz.ntmps105
 go_wp2_with (first|(go_at_call 150;(with_reducible refine(b1X (a0e X b 1) W a c (by omega) (by omega)).mono ?_);rintro j B ⟨g,u1,rfl,d⟩;obtain⟨Y,D,T,G,J,Q,M,rfl⟩:=d.shape)|(go_at_call 150;(with_reducible refine(b1X (a0e X b 1) B k (c.ext g) (by omega) (by omega)).mono ?_);rintro j C ⟨h,u2,rfl,e⟩;obtain⟨Z,E,U,H,K,R,N,rfl⟩:=e.shape)|(go_at_call 152;(with_reducible refine(b6l (a0e X b 1) C _ _ _ _ ((c.ext g).ext h) ((mkx QC.mono d h).qv y.out) (e.qv z.out)).mono ?_);rintro j w3 ⟨m,u3,rfl,f⟩;obtain⟨s3,F,V,I,L,S,O,rfl⟩:=f.shape;have n:=i.ext0 (g.trans (h.trans m)))|((with_reducible show wpList _ _ _ (⟨_, .store 41 _ _,_,_,_,_⟩::_) _ _);refine a0a a0j rfl rfl n rfl rfl (a1q _ _ _ _ _ _ _) ?_;intro w7 A l))
 have s:=QC.mono _ _ _ _ a0h (QC.mono _ _ _ _ (a0f l (by omega) (by omega)) f);exact bodyPost_ret (a0d rfl rfl a0j A rfl) rfl ⟨ExtX.box (t.trans (g.trans (h.trans m))) l (by omega),_,rfl,s⟩
theorem b1u(X:Nat->Bool)(w:World)(u:Value)(x:List (List Rat))(B:Nat)(hX:HX X w)(hu:MV (mk X w) u x)(hd:a5l x=true)(J:x.length<=8)(hB:BM B x)(T:1<=B)(o:B<=1000):Calls Tryz.prog 106 #[u] w (fun e w'=>Ext w w'/\∃oo oc,e= .returned (.slice oo (x.length+1) oc)/\x.length+1<=oc/\Sl QC 3 (mk X w') oo ((List.range (x.length+1)).map fun m=>a0B x (a0u x) m)):=by
 have d0:∀(fn:Fn) (first cap:Array Value) (w:World),(Instr.makeFunc fn first cap).run Tryz.prog w= .ok (.func fn first cap) w:=fun _ _ _ _=>rfl;obtain⟨O,h1,S,I,p⟩:=a5m hd;obtain⟨ao,v,rfl,a0,a5⟩:=hu;obtain⟨c,hc⟩:∃c,a0u x=c:=⟨_,rfl⟩;obtain⟨n,hn⟩:∃n,x.length=n:=⟨_,rfl⟩;have r:=hid hn;rw[hn]at O h1 S J a0 |-;rw[hc]at O I p |-;obtain⟨W,hW,hE,b0,hz⟩:=a0J w #[.slice ao n v] 25;have c2:=a5.mono RV.mono (a0k hE);have b9:HX X W:=hX.ext hE;have c3:MV (mk X W) (.slice ao n v) x:=⟨ao,v,by rw[hn],by rw[hn];exact a0,c2⟩;obtain⟨b,hb⟩:∃b,w.heap.size=b:=⟨_,rfl⟩;rw[hb]at b0 hz;have k0:W.cell? ⟨b,0,none⟩=some (.slice ao n v):=b0.cell 0 rfl;have c8:IntKind.i64.wrap ((n:Int)+1)=((n+1:Nat):Int):=by rw[IntWalk.i64_in _ (by omega)];omega
 clear a5 hc hd;go_enter Tryz.func106,Tryz.ntmps106
 go_wp2_with ((with_reducible show wpList _ _ _ (⟨_, .makeSlice _ _ _,_,_,_,_⟩::_) _ _);refine a1S (R:=QC) a1b QC.elem (0:Rat) (fun _=>QC.zero _) X b9 W.heap.size (Nat.le_refl _) (n+1) rfl rfl rfl (by omega) (by omega) ?_;intro oo w2 G F;obtain⟨w3,M,t3,b3,t⟩:=a0J w2 #[.slice oo (n+1) (n+1)] 26;have k3:(w2.alloc (.cells #[.slice oo (n+1) (n+1)] 26)).cell? ⟨b,0,none⟩=some (.slice ao n v):=by{rw[M];exact(F.trans t3).cell k0};have a9:=hid M;clear M)
 rw[a9.out];obtain⟨a,H⟩:∃a,w2.heap.size=a:=⟨_,rfl⟩;rw[H]at b3 t
 (try rw[H])
 obtain⟨nb,a2⟩:∃nb,nb=if c=1 then 2 else 8:=⟨_,rfl⟩
 have c6:2<=nb:=by rw[a2];split<;>decide
 have y:Ext W w3:=F.trans t3;have i:=hid fun k (h:ob oo k=true)=>(by have:=G.block h;rw[H]at this;exact this:W.heap.size<=k/\k<a);have c9:b<W.heap.size:=b0.lt;have c5:W.heap.size<=a:=by have:=F.size;omega
 have C:ob oo b=false:=by
  cases h:ob oo b
  ·rfl
  ·have:=i.out b h;omega
 have D:ob oo a=false:=by
  cases h:ob oo a
  ·rfl
  ·have:=i.out a h;omega
 have P:=b0.ext0 y;have b1:∀k,X k=true->k<w.heap.size:=hX;have c7:w.heap.size<=W.heap.size:=hE.size;have z:∀k,(X k||a2C (a+1) nb k)=true↔X k=true\/(a+1<=k/\k<a+1+nb):=fun k=>by
  simp only[Bool.or_eq_true,a0O]
 have j:∀k,un (fun k=>X k||a2C (a+1) nb k) oo k=true↔X k=true\/(a+1<=k/\k<a+1+nb)\/ob oo k=true:=fun k=>by
  simp only[un,Bool.or_eq_true,a0O,or_assoc]
 have s:∀k,(ob oo k||a2C (a+1) nb k)=true↔ob oo k=true\/(a+1<=k/\k<a+1+nb):=fun k=>by
  simp only[Bool.or_eq_true,a0O]
 have N:MV (mk (un (fun k=>X k||a2C (a+1) nb k) oo) w3) (.slice ao n v) x:=MV.mono _ _ _ _ (a0Z y (fun k _ f=>by simp[noY]at f) fun k f hz=>by
  rcases(j k).1 hz with h|h|h
  ·exact h
  ·omega
  ·have:=i.out k h;omega) c3
 have U:OL QC 3 (fun k=>X k||a2C (a+1) nb k) W.heap.size 41 w3 oo (n+1) (shL x c []):=by
  rw[b5r,r.out];exact G.ext QC.elem t3 (fun k _ f=>by simp[noY]at f) fun k f hz=>by
   rcases(z k).1 hz with h|h
   ·exact h
   ·omega
 have E:=b6q 184 #[.pointer (some ⟨b,0,none⟩), .pointer (some ⟨a,0,none⟩)]
  (fun done W'=>ExtX (fun k=>ob oo k||a2C (a+1) nb k) w3 W'/\Bx W' b #[.slice ao n v] 25/\Bx W' a #[.slice oo (n+1) (n+1)] 26/\OL QC 3 (fun k=>X k||a2C (a+1) nb k) W.heap.size 41 W' oo (n+1) (shL x c done))
  (un (fun k=>X k||a2C (a+1) nb k) oo) w3 (.slice ao n v) x n c B nb a2 (fun _ _=>rfl)
  (fun k f=>by
   rcases(j k).1 f with h|h|h
   ·have:=b1 k h;have:=y.size;omega
   ·omega
   ·have:=i.out k h;omega)
  (fun k f=>by rw[t]at f;exact(j k).2 (Or.inr (Or.inl (a0O.1 f)))) N O h1 S I p hB T o
  (fun done W' hi=>hi.1.weaken fun k _ f=>by
   cases h:(ob oo k||a2C (a+1) nb k)
   ·rfl
   ·rcases(s k).1 h with l|l
    ·rw[(j k).2 (Or.inr (Or.inr l))]at f;exact absurd f (by decide)
    ·rw[(j k).2 (Or.inr (Or.inl l))]at f;exact absurd f (by decide))
  (fun done W' b4 hi g=>by
   rw[t]at g;have a3:∀k,k<=a->a2C (a+1) nb k=false:=fun k f=>by
    cases h:a2C (a+1) nb k
    ·rfl
    ·have:=a0O.1 h;omega
   exact⟨hi.1.trans (g.weaken fun k _ f=>by
    cases h:a2C (a+1) nb k
    ·rfl
    ·rw[(s k).2 (Or.inr (a0O.1 h))]at f;exact absurd f (by decide)),hi.2.1.ext g (a3 _ (by omega)),hi.2.2.1.ext g (a3 _ (Nat.le_refl _)),hi.2.2.2.ext QC.elem g (fun k _ f=>(z k).2 (Or.inr (a0O.1 f))) (fun _ _ h=>h)⟩)
  (fun done d W' vd hi a4 c4 c0 a8=>by
   obtain⟨rest,L⟩:=a4;have A:∀q∈done++[d],q∈a1m x c:=fun q hq=>by rw[<-L];exact List.mem_append_left _ hq
   have a1:∀q∈a1m x c,BR 42875000 q:=fun e he q hq=>by
    have:=(a4M O r.out I p (a9n hB T) o he).2 q hq;have l:=Nat.mul_le_mul_left 42875 o;omega
   rw[t]at a8;have b8:HX (fun k=>X k||a2C (a+1) nb k) W':=fun k f=>by
    rcases(z k).1 f with h|h
    ·have:=b1 k h;omega
    ·omega
   have b2:MV (mk (un (fun k=>X k||a2C (a+1) nb k) oo) W') (.slice ao n v) x:=MV.mono _ _ _ _ (a0E hi.1 fun k f=>by
    rcases(s k).1 f with l|l
    ·exact(j k).2 (Or.inr (Or.inr l))
    ·exact(j k).2 (Or.inr (Or.inl l))) N
   have c1:BR 4000000000 (shL x c done):=fun q hq=>Nat.le_trans (b6u (K:=3300000000) (fun e he m=>a8e O J p hB o (a1 e (A e (List.mem_append_left _ he))) m) (by decide) q hq) (by decide);refine(b2Z _ W' vd d x n c B b a W.heap.size ao v oo (n+1) (shL x c done) b8 b2 c4 c0 O J p hB o (a1 d (A d (by simp))) hi.2.1 hi.2.2.1 hi.2.2.2 (by omega) (by rw[b5q,r.out]) c1 C D).mono ?_;rintro e b4 ⟨rfl,g,Y⟩;have a7:=b3b x c done d;rw[r.out]at a7;rw[a7]at Y;refine⟨rfl,⟨hi.1.trans (g.weaken fun k _ f=>?_),hi.2.1.ext g C,hi.2.2.1.ext g D,Y⟩,?_⟩
   ·cases h:ob oo k
    ·rfl
    ·rw[(s k).2 (Or.inl h)]at f;exact absurd f (by decide)
   ·rw[t]
    exact a8d.of g (fun k f=>by
     have:=i.out k f;cases h:a2C (a+1) nb k
     ·rfl
     ·have:=a0O.1 h;omega) a8)
  ⟨ExtX.refl _,P,b3,U⟩
 clear G P b3 N U;refine E.mono ?_;rintro ee w4 ⟨rfl,b6,b5,Q,V⟩;have ko:w4.cell? ⟨a,0,none⟩=some (.slice oo (n+1) (n+1)):=Q.cell 0 rfl;have b7:Ext w w4:=(hE.trans y).then_ b6 fun k f _=>by
  cases h:(ob oo k||a2C (a+1) nb k)
  ·rfl
  ·rcases(s k).1 h with l|l
   ·have:=i.out k l;omega
   ·omega
 have a6:=(V.sl QC.elem).mono QC.mono (a2T (X:=X) (Z:=fun k=>X k||a2C (a+1) nb k) (w:=w4) fun k _ f=>(z k).2 (Or.inl f));rw[b5s,r.out]at a6;clear E b5 Q V k3;go_wp2_with fail
 go_ret
 exact⟨b7,oo,n+1,rfl,Nat.le_refl _,a6⟩
def b3L(X:Nat->Bool)(w:World)(er:Int)(q:Rat)(e:Ending)(w':World):Prop:=Ext w w'/\∃u,e= .returned (.tuple #[u, .int .i64 er])/\QC (mk X w') u (if er=0 then q else 0)
theorem b6v(X:Nat->Bool)(w:World)(u:Value)(x:List (List Rat))(m:Int)(B:Nat)(hX:HX X w)(hu:MV (mk X w) u x)(J:x.length<=8)(T:BM B x)(H:1<=B)(s:B<=1000):Calls Tryz.prog 38 #[u, .int .i64 m] w (b3L X w (shE x m) (a0B x (a0u x) m.toNat)):=by
 obtain⟨W,hW,N,M,hz⟩:=a0J w #[.bool false, .slice none 0 0, .slice none 0 0] 41;have C:HX (a0e X w.heap.size 1) W:=hX.boxes hz;have D:=MV.mono _ _ _ _ (a0i (nb:=1) N) hu;obtain⟨b,hb⟩:∃b,w.heap.size=b:=⟨_,rfl⟩;have a4:w.heap.size<=b:=by omega
 rw[hb]at M hz C D;obtain⟨ao,ca,rfl,Y,y⟩:=hu;have a:=b1h (a0e X b 1) W _ x D (by omega);have i:=hid fun(hd:a5l x=true)=>b6p (a0e X b 1) W _ x B C D hd T H s;have j:=hid fun(hd:a5l x=true) L (h:Ext W L)=>b1u (a0e X b 1) L _ x B (C.ext h) (mkx MV.mono D h) hd J T H s;have p:=hid fun(hd:a5l x=true) m'=>(by
  obtain⟨hs,h1,a3,V,P⟩:=a5m hd;rcases(a9y ((a1m x (a0u x)).map fun d=>a1t x (a0u x) d m') 0).2.2 with e|e
  ·unfold a0B;rw[e,a1J];decide
  ·obtain⟨d,Z,e2⟩:=List.mem_map.1 e
   have a0:BR 42875000 d:=fun q hq=>by
    have:=(a4M hs rfl V P (a9n T H) s Z).2 q hq;have h2:=Nat.mul_le_mul_left 42875 s;omega
   have:=a8e hs J P T s a0 m';unfold a0B;rw[<-e2];exact Nat.le_trans this (by decide):hq (a0B x (a0u x) m')<=68719476736)
 obtain⟨n,z⟩:∃n,x.length=n:=⟨_,rfl⟩;have a5:=hid z;rw[z]at Y J j a i |-;have g:=hid fun(er:Int) (w':World) (he:Ext W w') (a2:¬er=0)=>(⟨he,a2⟩:Ext W w'/\¬er=0);by_cases hd:a5l x=true
 ·rw[hd]at a
  have o:=i.out hd;have v:=hid (j.out hd);have t:=hid (p.out hd);by_cases G:m<0\/(n:Int)<m
  ·have r:shE x m=1:=by unfold shE;rw[hd,if_neg (by decide),z,if_pos G]
   rw[r];rcases G with G|G
   ·have t1:decide (m<0)=true:=decide_eq_true G
    clear r y z i j p v t o g;go_enter Tryz.func38,Tryz.ntmps38
    go_wp2_with (first|(go_at_call 107;refine a.mono ?_;rintro F L ⟨f,rfl⟩;obtain rfl:=f.symm)|((with_reducible show wpList _ _ _ (⟨_, .store 41 _ _,_,_,_,_⟩::_) _ _);refine a0a a0j rfl rfl M rfl rfl (a1q _ _ _ _ _ _ _) ?_;intro S E A))
    exact bodyPost_ret (a0I rfl rfl a0j E rfl) rfl ⟨ExtX.box N A (by omega),_,rfl,QC.zero _⟩
   ·have t1:decide (m<0)=false:=decide_eq_false (by omega)
    have t2:decide ((n:Int)<m)=true:=decide_eq_true G;clear r y z i j p v t o g;go_enter Tryz.func38,Tryz.ntmps38
    go_wp2_with (first|(go_at_call 107;refine a.mono ?_;rintro F L ⟨f,rfl⟩;obtain rfl:=f.symm)|((with_reducible show wpList _ _ _ (⟨_, .store 41 _ _,_,_,_,_⟩::_) _ _);refine a0a a0j rfl rfl M rfl rfl (a1q _ _ _ _ _ _ _) ?_;intro S E A))
    exact bodyPost_ret (a0I rfl rfl a0j E rfl) rfl ⟨ExtX.box N A (by omega),_,rfl,QC.zero _⟩
  ·have t1:decide (m<0)=false:=decide_eq_false (by omega)
   have t2:decide ((n:Int)<m)=false:=decide_eq_false (by omega);by_cases O:(a1P x (a0u x)).2.length=a0u x
   ·have r:shE x m=0:=by unfold shE;rw[hd,if_neg (by decide),z,if_neg G,if_pos O]
    rw[r];rw[decide_eq_true O]at o;obtain⟨k,rfl⟩:=Int.eq_ofNat_of_zero_le (show 0<=m by omega);rw[show((k:Nat):Int).toNat=k from rfl];obtain⟨c,hc⟩:∃c,a0u x=c:=⟨_,rfl⟩;rw[hc]at v t |-;clear r y z i j p g O hd hc;go_enter Tryz.func38,Tryz.ntmps38
    go_wp2_with (first|(go_at_call 107;refine a.mono ?_;rintro F L ⟨f,rfl⟩;obtain rfl:=f.symm)|(go_at_call 108;refine o.mono ?_;rintro F w2 ⟨l,rfl⟩)|(go_at_call 106;refine(v.out w2 l).mono ?_;rintro F S ⟨t3,oo,oc,rfl,a7,Q⟩;have a8:Hd oo (n+1):=(by have:=Q.hd;simpa using this);have a1:k<((List.range (n+1)).map fun m=>a0B x c m).length:=(by simp;omega))|(with_reducible refine a1E a1b (by omega) (by assumption) ?_)|((with_reducible show wpList _ _ _ (⟨_, .load 41 _,_,_,_,_⟩::_) _ _);refine a1g a0j k Q a1 rfl (by simp) QC.agg ?_;intro u5 K;rw[List.getElem_map,List.getElem_range]at K;obtain⟨sv,av,nv,cv,dv,kv,ev,rfl⟩:=K.shape)|(go_at_call 109;(with_reducible refine(b6k (a0e X b 1) S _ _ (C.ext (l.trans t3)) (K.qv (t.out k))).mono ?_);rintro F w4 ⟨t4,u6,rfl,R⟩;obtain⟨s6,a6,n6,c6,d6,k6,e6,rfl⟩:=R.shape;have U:=M.ext0 (l.trans (t3.trans t4)))|((with_reducible show wpList _ _ _ (⟨_, .store 41 _ _,_,_,_,_⟩::_) _ _);refine a0a a0j rfl rfl U rfl rfl (a1q _ _ _ _ _ _ _) ?_;intro w5 E A))
    have h7:=QC.mono _ _ _ _ a0h (QC.mono _ _ _ _ (a0f A (by omega) (by omega)) R);exact bodyPost_ret (a0I rfl rfl a0j E rfl) rfl ⟨ExtX.box (N.trans (l.trans (t3.trans t4))) A (by omega),_,rfl,by rw[if_pos rfl];exact h7⟩
   ·have r:shE x m=7:=by unfold shE;rw[hd,if_neg (by decide),z,if_neg G,if_neg O]
    rw[r];rw[decide_eq_false O]at o;clear r y z i j p v t g O hd;go_enter Tryz.func38,Tryz.ntmps38
    go_wp2_with (first|(go_at_call 107;refine a.mono ?_;rintro F L ⟨f,rfl⟩;obtain rfl:=f.symm)|(go_at_call 108;refine o.mono ?_;rintro F w2 ⟨l,rfl⟩;have U:=M.ext0 l)|((with_reducible show wpList _ _ _ (⟨_, .store 41 _ _,_,_,_,_⟩::_) _ _);refine a0a a0j rfl rfl U rfl rfl (a1q _ _ _ _ _ _ _) ?_;intro S E A))
    exact bodyPost_ret (a0I rfl rfl a0j E rfl) rfl ⟨ExtX.box (N.trans l) A (by omega),_,rfl,QC.zero _⟩
 ·have I:a5l x=false:=by cases h:a5l x<;>simp_all
  have r:shE x m=6:=by unfold shE;rw[I,if_pos rfl]
  rw[r];rw[I]at a;clear r y z i j p g hd I;go_enter Tryz.func38,Tryz.ntmps38
  go_wp2_with (first|(go_at_call 107;refine a.mono ?_;rintro F L ⟨f,rfl⟩;obtain rfl:=f.symm)|((with_reducible show wpList _ _ _ (⟨_, .store 41 _ _,_,_,_,_⟩::_) _ _);refine a0a a0j rfl rfl M rfl rfl (a1q _ _ _ _ _ _ _) ?_;intro S E A))
  exact bodyPost_ret (a0I rfl rfl a0j E rfl) rfl ⟨ExtX.box N A (by omega),_,rfl,QC.zero _⟩
end Go.Proofs.YtnnpfhoigmegcaaGreat
namespace Go.Lin
open Go.Lim Go.Rep
def a5q(x:Mat)(c m:Nat):Prop:=m<=x.length/\¬a0B x c m<((1:Int):Rat)/((2:Int):Rat)/\∀j,j<m->a0B x c j<((1:Int):Rat)/((2:Int):Rat)
theorem a5q.uniq{x:Mat}{c m k:Nat}(h:a5q x c m)(b:a5q x c k):m=k:=by
 rcases Nat.lt_trichotomy m k with a|a|a
 ·exact absurd (b.2.2 m a) h.2.1
 ·exact a
 ·exact absurd (h.2.2 k a) b.2.1
theorem a9A{n c:Nat}{x:Mat}(a:Shp n c x)(b:1<=c)(d:a7Z x c):¬a0B x c n<((1:Int):Rat)/((2:Int):Rat):=by
 have h:=b1t a b d;rw[a.1]at h;rw[h];decide+kernel
end Go.Lin
namespace Go.Proofs.YtnnpfhoigmegcaaGreat
open Go.RowKit Go.Rep Go.Lim Go.Lin
def b5t(w:World)(x:Mat)(er:Int)(e:Ending)(w':World):Prop:=Ext w w'/\∃m:Nat,e= .returned (.tuple #[.int .i64 (m:Int), .int .i64 er])/\(er=0->a5q x (a0u x) m)/\(er≠0->m=0)
theorem b7s(X:Nat->Bool)(w:World)(u:Value)(x:List (List Rat))(B:Nat)(hX:HX X w)(hu:MV (mk X w) u x)(hn8:x.length<=8)(hB:BM B x)(hB1:1<=B)(hBB:B<=1000):Calls Tryz.prog 36 #[u] w (b5t w x (shE x 0)):=by
 have hsh:=b6v X w u x 0 B hX hu hn8 hB hB1 hBB;unfold b3L at hsh;by_cases h0:shE x 0=0
 ·have hd:a5l x=true:=by
   cases h:a5l x
   ·unfold shE at h0;rw[h,if_pos rfl]at h0;exact absurd h0 (by decide)
   ·rfl
  obtain⟨hs,h1,h64,hc1,hc4⟩:=a5m hd;have hr:(a1P x (a0u x)).2.length=a0u x:=by
   apply Classical.byContradiction;intro hr;unfold shE at h0;rw[hd,if_neg (by decide),if_neg (by omega),if_neg hr]at h0;exact absurd h0 (by decide)
  have hfull:=b5f hs (by omega);have hhalf:=hid (a9A hs hc1 hfull);have hls:=hid fun w1 (h:Ext w w1)=>b1u X w1 u x B (hX.ext h) (mkx MV.mono hu h) hd hn8 hB hB1 hBB;have hsb:=hid fun m'=>(by
   rcases(a9y ((a1m x (a0u x)).map fun d=>a1t x (a0u x) d m') 0).2.2 with e|e
   ·unfold a0B;rw[e,a1J];decide
   ·obtain⟨d,hd',e2⟩:=List.mem_map.1 e
    have hdB:BR 42875000 d:=fun q hq=>by
     have:=(a4M hs rfl hc1 hc4 (a9n hB hB1) hBB hd').2 q hq;have h2:=Nat.mul_le_mul_left 42875 hBB;omega
    have:=a8e hs hn8 hc4 hB hBB hdB m';unfold a0B;rw[<-e2];exact Nat.le_trans this (by decide):hq (a0B x (a0u x) m')<=68719476736)
  rw[h0]at hsh |-;obtain⟨c,hc⟩:∃c,a0u x=c:=⟨_,rfl⟩;obtain⟨n,hn⟩:∃n,x.length=n:=⟨_,rfl⟩;have hc':=hid hc;rw[hc]at hsh hhalf hls hsb;rw[hn]at hhalf hls hn8;have hn':=hid hn;have hresp:Hid (∀m,m<=n->¬a0B x c m<((1:Int):Rat)/((2:Int):Rat)->(∀j,j<m->a0B x c j<((1:Int):Rat)/((2:Int):Rat))->a5q x c m):=hid fun m a b d=>⟨by rw[hn];exact a,b,d⟩;have hov:=hid fun w1 (h:Ext w w1)=>b7r X w1 1 2 (hX.ext h) (by decide) (by decide) (by decide) (by decide);obtain⟨hf,hhf⟩:∃q,((1:Int):Rat)/((2:Int):Rat)=q:=⟨_,rfl⟩;have hhq:Hid (hq hf<=68719476736):=hid (by rw[<-hhf];decide+kernel);rw[hhf]at hhalf hov hresp;clear hr hfull hd hs h0 hhf hn hc hu hB;go_enter Tryz.func36,Tryz.ntmps36
  go_wp2_with (first
   |(go_at_call 38;refine hsh.mono ?_;rintro ee w1 ⟨t1,u1,rfl,hu1⟩;obtain⟨s1,a1,n1,c1,d1,k1,e1,rfl⟩:=hu1.shape;have bx:=Bx.new w1 #[.bool false, .slice none 0 0, .slice none 0 0] 41)
   |((with_reducible show wpList _ _ _ (⟨_, .store 41 _ _,_,_,_,_⟩::_) _ _);refine a0a a0j rfl rfl bx rfl rfl (a1q _ _ _ _ _ _ _) ?_;intro w2 r1 r2;have hE2:Ext w1 w2:=ExtX.box ((ExtX.refl w1).alloc _) r2 (Nat.le_refl _);have t2:=t1.trans hE2;clear bx r1 r2)
   |(go_at_call 105;refine(hov.out w2 t2).mono ?_;rintro ee w3 ⟨t3,u3,rfl,hu3⟩;obtain⟨s3,a3,n3,c3,d3,k3,e3,rfl⟩:=hu3.shape;have bx:=Bx.new w3 #[.bool false, .slice none 0 0, .slice none 0 0] 41)
   |((with_reducible show wpList _ _ _ (⟨_, .store 41 _ _,_,_,_,_⟩::_) _ _);refine a0a a0j rfl rfl bx rfl rfl (a1q _ _ _ _ _ _ _) ?_;intro w4 r3 r4;have hE4:Ext w3 w4:=ExtX.box ((ExtX.refl w3).alloc _) r4 (Nat.le_refl _);have t4:=t2.trans (t3.trans hE4);clear bx r4)
   |(go_at_call 106;refine(hls.out w4 t4).mono ?_;rintro ee w5 ⟨t5,oo,oc,rfl,hoc,hsl⟩))
  have t45:=t4.trans t5;obtain⟨bh,hbh⟩:∃bh,w3.heap.size=bh:=⟨_,rfl⟩;rw[hbh]at r3
  (try rw[hbh])
  have r5:=r3.ext0 t5;have hh5:=mkx QC.mono hu3 (hE4.trans t5);have hX5:=hX.ext t45;have hoh:Hd oo (n+1):=by have:=hsl.hd;simpa using this
  clear hsh hls hov t1 t2 t3 t4 t5 hE2 hE4 r3 hu1 hu3 hbh;go_loopw [8] (fun cc wr=>∃m:Nat,cc= .int .i64 m/\m<=n/\Hid (∀j,j<m->a0B x c j<hf)/\Ext w5 wr) (fun cc _=>n - (intOf cc).toNat)
  case atStart=>exact⟨0,rfl,Nat.zero_le _,hid (fun j hj=>absurd hj (Nat.not_lt_zero _)),ExtX.refl _⟩
  case round=>
   obtain⟨m,rfl,hm,hlow,hE⟩:=hrel;have hml:m<((List.range (n+1)).map fun m=>a0B x c m).length:=by simp;omega
   obtain⟨g1,o1,s1,a1,n1,c1,d1,k1,e1,hg1,hy1,hc1,hq1⟩:=(hsl.mono QC.mono (a0k hE)).rat QC.shaped m hml;rw[List.getElem_map,List.getElem_range]at hq1;have i1:∀W,(Instr.indexAt 26 (.slice oo (n+1) oc) (.int .i64 (m:Int))).run Tryz.prog W= .ok (.pointer (some ⟨g1,o1,none⟩)) W:=by
    rw[<-hg1];exact a0o a1b oo (n+1) oc .i64 m hoh (by omega)
   have hEd:Ext wr wr.drew:=(ExtX.refl wr).drew;have r5r:=r5.ext0 (hE.trans hEd);have hwS:wr.drew.cell? ⟨g1,o1,none⟩=some (.bool s1)/\wr.drew.cell? ⟨g1,o1+1,none⟩=some (.slice a1 n1 c1)/\wr.drew.cell? ⟨g1,o1+2,none⟩=some (.slice d1 k1 e1)/\wr.drew.cell? ⟨bh,0,none⟩=some (.bool s3)/\wr.drew.cell? ⟨bh,1,none⟩=some (.slice a3 n3 c3)/\wr.drew.cell? ⟨bh,2,none⟩=some (.slice d3 k3 e3):=by
    have z:=hc1.out noY wr.drew hEd rfl;exact⟨z.1,z.2.1,z.2.2,r5r.cell 0 rfl,r5r.cell 1 rfl,r5r.cell 2 rfl⟩
   have hle6:=b4X X wr.drew _ _ (a0B x c m) hf (hX5.ext (hE.trans hEd)) ((mkx QC.mono hq1 hEd).qv (hsb.out m)) ((mkx QC.mono hh5 (hE.trans hEd)).qv hhq.out);rw[show decide (b0g (a0B x c m) hf<0)=ltQ (a0B x c m) hf from rfl]at hle6;have hlt1:=hid fun(h:ltQ (a0B x c m) hf=true)=>(a2l.1 h:a0B x c m<hf);have hlt2:=hid fun(h:ltQ (a0B x c m) hf=false)=>(show¬a0B x c m<hf from fun h2=>by rw[a2l.2 h2]at h;exact absurd h (by decide));obtain⟨bb,hbb⟩:∃bb,ltQ (a0B x c m) hf=bb:=⟨_,rfl⟩;rw[hbb]at hle6 hlt1 hlt2;clear hc1 hq1 hg1 hy1 hbb r5r;go_upto_region 7 with fail
   (try simp only[Act.put])
   refine a0K 5 (fun w'=>w'.cell? ⟨g1,o1,none⟩=some (.bool s1)/\w'.cell? ⟨g1,o1+1,none⟩=some (.slice a1 n1 c1)/\w'.cell? ⟨g1,o1+2,none⟩=some (.slice d1 k1 e1)/\w'.cell? ⟨bh,0,none⟩=some (.bool s3)/\w'.cell? ⟨bh,1,none⟩=some (.slice a3 n3 c3)/\w'.cell? ⟨bh,2,none⟩=some (.slice d3 k3 e3)) (by kernel_rfl) (by kernel_rfl) hwS (fun hHeld hOnce=>?_);refine kt 0 hOnce ?_;refine kt 1 hOnce ?_;refine kt 2 hOnce ?_;refine kt 3 hOnce ?_;refine kt 4 hOnce ?_;refine kl 5 (fun K hK=>?_);go_simp
   (with_reducible refine hle6.mono ?_)
   rintro ee w6 ⟨g6,rfl⟩;refine hK.out _ _ ?_;clear hK K
   (try simp only[Act.put])
   have hE6:=hE.trans (hEd.trans g6);clear hHeld hwS hOnce i1 hle6;cases bb with
   |true=>
    have hl1:=hlt1.out rfl;have hmn:m<n:=by
     rcases Nat.lt_or_ge m n with h|h
     ·exact h
     ·have:m=n:=by omega
      subst this;exact absurd hl1 hhalf.out
    have hlow2:Hid (∀j,j<m+1->a0B x c j<hf):=hid fun j hj=>by
     rcases Nat.lt_or_ge j m with h|h
     ·exact hlow.out j h
     ·have:j=m:=by omega
      rw[this];exact hl1
    clear hl1;go_wp2_with fail
    go_roundw
    case rel=>exact⟨m+1,by go_num,by omega,hlow2,hE6⟩
    case measure=>simp[intOf];omega
   |false=>
    have hR':Hid (a5q x c m):=hid (hresp.out m hm (hlt2.out rfl) hlow.out);go_wp2_with fail
    go_ret2
    exact⟨t45.trans hE6,m,rfl,fun _=>by rw[hc'.out];exact hR'.out,fun h=>absurd rfl h⟩
 ·obtain⟨er,her⟩:∃er,shE x 0=er:=⟨_,rfl⟩
  rw[her]at hsh h0 |-;have hne:(er !=(0:Int))=true:=a9E h0;clear her hu hB hX;go_enter Tryz.func36,Tryz.ntmps36
  go_wp2_with (first|(go_at_call 38;refine hsh.mono ?_;rintro ee w1 ⟨t1,u1,rfl,hu1⟩;obtain⟨s1,a1,n1,c1,d1,k1,e1,rfl⟩:=hu1.shape;have bx:=Bx.new w1 #[.bool false, .slice none 0 0, .slice none 0 0] 41)|((with_reducible show wpList _ _ _ (⟨_, .store 41 _ _,_,_,_,_⟩::_) _ _);refine a0a a0j rfl rfl bx rfl rfl (a1q _ _ _ _ _ _ _) ?_;intro w2 r1 r2))
  have hE2:Ext w1 w2:=ExtX.box ((ExtX.refl w1).alloc _) r2 (Nat.le_refl _);go_ret2
  exact⟨t1.trans hE2,0,rfl,fun h=>absurd h h0,fun _=>rfl⟩
end Go.Proofs.YtnnpfhoigmegcaaGreat
namespace Go
section
variable {P:Program} {ops:Array Oper} {Q:Exit->Act->World->Prop} {md:Region.Mode} {S:World->Prop} {n:Nat}
def b6M(l:Array Bool):Nat:=l.toList.count false
def b8a{T:Type}[DecidableEq T](md:Region.Mode)(ops:Array Oper)(all:List T)(L:T->Array Bool)(next:T->Nat->Option T)(fin:T->Bool):Bool:=
 all.all fun s=>fin s||(!(Region.ready md ops (L s)).isEmpty&&(Region.ready md ops (L s)).all fun i=>match next s i with
  |some t=>decide (t∈all)&&decide (L t=(L s).setIfInBounds i true)&&decide (b6M (L t)+1=b6M (L s))
  |none=>false)
theorem a3v{i:Nat}{o:Oper}{K:Act->World->Prop}{a:Act}{w:World}(d:ops[i]? =some o)(h:∀b:Act->World->Prop,Shut (∀a w,K a w->b a w)->if Region.wanted o (yielded ops a.tmps)=true then Oper.wp P o a w b Q else b (a.put o.dst undef) w):wpOp P ops Q i K a w:=wpOp_step d fun b c=>h b c
theorem a9B{T:Type}[DecidableEq T]{I:T->Act->World->Prop}(all:List T)(L:T->Array Bool)(next:T->Nat->Option T)(fin:T->Bool)(hc:b8a md ops all L next fin=true)(hstep:∀s i t a w,s∈all->next s i=some t->I s a w->wpOp P ops Q i (fun a' w'=>S w'/\I t a' w') a w)(hexit:∀s a w,s∈all->fin s=true->I s a w->a0X P md ops Q S n (b6M (L s)) (L s) a w):∀(fuel:Nat) (s:T) (a:Act) (w:World),s∈all->b6M (L s)=fuel->I s a w->a0X P md ops Q S n fuel (L s) a w:=by
 intro fuel
 induction fuel with
 |zero=>
  intro s a w hs hf hI;have h:=List.all_eq_true.1 hc s hs;cases hfin:fin s
  ·rw[hfin,Bool.false_or]at h
   obtain⟨h1,h2⟩:=(Bool.and_eq_true _ _).mp h;cases hr:Region.ready md ops (L s)with
   |nil=>rw[hr]at h1;cases h1
   |cons i r=>
    have h3:=List.all_eq_true.1 h2 i (by rw[hr];exact List.mem_cons_self);cases hn:next s i with
    |none=>rw[hn]at h3;cases h3
    |some t=>
     rw[hn]at h3;obtain⟨_,h5⟩:=(Bool.and_eq_true _ _).mp h3;have:=of_decide_eq_true h5;omega
  ·have:=hexit s a w hs hfin hI
   rwa[hf]at this
 |succ fuel ih=>
  intro s a w hs hf hI;have h:=List.all_eq_true.1 hc s hs;cases hfin:fin s
  ·rw[hfin,Bool.false_or]at h
   obtain⟨h1,h2⟩:=(Bool.and_eq_true _ _).mp h;refine⟨fun h0=>(by rw[h0]at h1;cases h1),fun i hi=>?_⟩;have h3:=List.all_eq_true.1 h2 i hi;cases hn:next s i with
   |none=>rw[hn]at h3;cases h3
   |some t=>
    rw[hn]at h3;obtain⟨h4,h5⟩:=(Bool.and_eq_true _ _).mp h3;obtain⟨h6,h7⟩:=(Bool.and_eq_true _ _).mp h4;have e1:=of_decide_eq_true h5;have e2:=of_decide_eq_true h6;have e3:=of_decide_eq_true h7;refine wpOp_mono (fun a' w' h=>⟨fun _=>h.1,?_⟩) (hstep s i t a w hs hn hI);rw[<-e3];exact ih t a' w' e2 (by omega) h.2
  ·have:=hexit s a w hs hfin hI
   rwa[hf]at this
end
end Go
namespace Go.Lin
open Go.Lim Go.Rep
def P35:Mat:=[[1,0],[1,0],[1,5]]
def O35:Mat:=[[1],[1],[1]]
theorem b6w{B:Nat}{m:Mat}(h:(m.all fun r=>r.all fun q=>decide (Go.Lim.hq q<=B))=true):BM B m:=fun r a q hq=>by
 rw[List.all_eq_true]at h;have:=h r a;rw[List.all_eq_true]at this;simpa using this q hq
theorem b6x:BM 2 P35:=b6w (by decide+kernel)
theorem b6y:BM 2 O35:=b6w (by decide+kernel)
theorem b6z:a5l P35=true:=by decide+kernel
theorem b7t:a5l O35=true:=by decide+kernel
theorem b3c:(a1P P35 2).2.length=2:=by decide+kernel
theorem b3d:(a1P O35 1).2.length=1:=by decide+kernel
theorem b3e:a1m P35 2= [[0,1],[0,1],[-5,1]]:=by
 unfold a1m;rw[if_neg (by decide)];have h1:a1j ([[1,0]]:Mat) 2= [[0,1]]:=by unfold a1j;decide+kernel
 have h2:a1j ([[1,5]]:Mat) 2= [[-5,1]]:=by unfold a1j;decide+kernel
 have e:a1e P35.length (2 - 1) 0= [[0],[1],[2]]:=by decide
 rw[e];have r0:a5D P35 2 [0]=some [0,1]:=by
  show(match a1j ([[1,0]]:Mat) 2 with| [d]=>some d|_=>none)=_
  rw[h1]
 have r1:a5D P35 2 [1]=some [0,1]:=by
  show(match a1j ([[1,0]]:Mat) 2 with| [d]=>some d|_=>none)=_
  rw[h1]
 have r2:a5D P35 2 [2]=some [-5,1]:=by
  show(match a1j ([[1,5]]:Mat) 2 with| [d]=>some d|_=>none)=_
  rw[h2]
 simp[r0,r1,r2]
theorem a7u:plN P35=2/\plE P35=0:=by
 have a:a0u P35=2:=by decide
 refine⟨?_,by unfold plE;rw[b6z,if_pos rfl]⟩;unfold plN;rw[b6z,if_pos rfl,a];unfold a4g;rw[b3c,if_neg (by decide),b3e];decide+kernel
theorem a5r(m:Nat)(h:m<=3):a0B O35 1 m=((m:Int):Rat)/((3:Int):Rat):=by
 have c:a1m O35 1= [[1]]:=by unfold a1m;rw[if_pos rfl]
 have a:a2P O35 1 [1]= [1,1,1]:=by decide+kernel
 have d:srt [1,1,1]= [1,1,1]:=(a6B (List.Perm.refl _) (by decide+kernel)).symm;have b:∀m,a1t O35 1 [1] m=a1n (([1,1,1]:List Rat).drop (3 - m))/a1n [1,1,1]:=fun m=>by
  unfold a1t a7w;rw[a,d];rfl
 have:m=0\/m=1\/m=2\/m=3:=by omega
 unfold a0B;rw[c,List.map_singleton,b];rcases this with rfl|rfl|rfl|rfl<;>decide+kernel
theorem a9d:a5q O35 (a0u O35) 2/\shE O35 0=0:=by
 have a:a0u O35=1:=by decide
 refine⟨?_,by unfold shE;rw[b7t,if_neg (by decide),if_neg (by decide),a,b3d,if_pos rfl]⟩;rw[a];refine⟨by decide,by rw[a5r 2 (by decide)];decide+kernel,fun j b=>?_⟩;have:j=0\/j=1:=by omega
 rcases this with rfl|rfl
 ·rw[a5r 0 (by decide)];decide+kernel
 ·rw[a5r 1 (by decide)];decide+kernel
end Go.Lin
namespace Go.Proofs.YtnnpfhoigmegcaaGreat
open Go.RowKit Go.Rep Go.Lim Go.Lin
theorem b1v(w:World)(us:List Value)(l:List Rat)(a:Array Value)(e:TypeId)(k:Nat)(b:a=(us.flatMap a0g).toArray)(d:us.length=l.length)(j:l.length=k)(h:∀i (hi:i<us.length) (c:i<l.length),QC (mk noY w) us[i] l[i])(n:l.length<=1000)(g:BR 68719476736 l):RV (mk noY (w.alloc (.cells a e))) (.slice (some ⟨w.heap.size,0,none⟩) k k) l:=by
 have f:=OL.lit QC.elem (HX.none w) (Nat.le_refl _) us l (e:=e) a b d (fun i hi c=>h i hi c) (by omega);have m:=f.lenCap;subst j;exact⟨_,_,rfl,Nat.le_refl _,(f.sl QC.elem).qv g⟩
theorem b3M(w:World)(us:List Value)(m:Mat)(arr:Array Value)(e:TypeId)(k:Nat)(harr:arr=us.toArray)(hlen:us.length=m.length)(hk:m.length=k)(h:∀i (hi:i<us.length) (hi':i<m.length),RV (mk noY w) us[i] m[i])(hl:m.length<=1000):MV (mk noY (w.alloc (.cells arr e))) (.slice (some ⟨w.heap.size,0,none⟩) k k) m:=by
 have hO:=OL.lit RV.elem (HX.none w) (Nat.le_refl _) us m (e:=e) arr (by
  rw[harr]
  congr 1
  have:∀u∈us,a0g u= [u]:=fun u hu=>by
   obtain⟨i,hi,rfl⟩:=List.getElem_of_mem hu;obtain⟨ao,c,he,_⟩:=h i hi (by omega);rw[he];rfl
  clear harr hlen hk h hl
  induction us with
  |nil=>rfl
  |cons a us ih=>rw[List.flatMap_cons,this a List.mem_cons_self,<-ih fun u hu=>this u (List.mem_cons_of_mem _ hu)];rfl) hlen (fun i hi hi'=>h i hi hi') (by omega)
 subst hk;exact⟨_,_,rfl,Nat.le_refl _,hO.sl RV.elem⟩
abbrev TJb:=Bool×Bool×Bool×Bool
def b6A:List TJb:=[true,false].flatMap fun b2=>[true,false].flatMap fun b5=>[(b2,b5,false,false),(b2,b5,true,false),(b2,b5,true,true)]
def lJb(s:TJb):Array Bool:=#[true,true,s.1,true,true,s.2.1,true,s.2.2.1,s.2.2.2,false,false,false,false,false,false,false]
def b3N(s:TJb)(i:Nat):Option TJb:=
 if i=2/\s.1=false then some (true,s.2)else if i=5/\s.2.1=false then some (s.1,true,s.2.2)else if i=7/\s.2.2.1=false then some (s.1,s.2.1,true,s.2.2.2)
 else if i=8/\s.2.2.2=false/\s.2.2.1=true then some (s.1,s.2.1,s.2.2.1,true)else none
def b7u(s:TJb):Bool:=s.1&&s.2.1&&s.2.2.2
def a8f(a:Act)(v2 v5 v7 v8:Value):Act:=(((a.put (some 19) v2).put (some 22) v5).put (some 24) v7).put (some 25) v8
theorem a6b:∀s∈b6A,s.2.2.2=true->s.2.2.1=true:=by decide
theorem a9C{P:Program}{ops:Array Oper}{Q:Exit->Act->World->Prop}{md:Region.Mode}{S:World->Prop}{n f:Nat}{l:Array Bool}{a:Act}{w:World}(h:∀b,b=a->a0X P md ops Q S n f l b w):a0X P md ops Q S n f l a w:=h a rfl
theorem a8g(w:World):Calls Tryz.prog 33 #[] w (b3s w true):=by
 have hloc:=hid fun w1=>(by
  have h:=a7t w1 2 0 5 (by decide) (by decide);rw[show b1z 2 0 5=3 by decide,show a9D 2 0 5=0 by decide]at h;exact h:Calls Tryz.prog 31 #[.agg #[.int .i64 2, .int .i64 0], .int .i64 5] w1 (fun e w'=>Ext w1 w'/\e= .returned (.tuple #[.int .i64 3, .int .i64 0])))
 have hpla:=hid fun w1 u (hu:MV (mk noY w1) u P35)=>(by
  have h:=b6r noY w1 u P35 2 (HX.none w1) hu (by decide) b6x (by decide) (by decide);rw[a7u.1,a7u.2]at h;exact h:Calls Tryz.prog 50 #[u] w1 (fun e w'=>Ext w1 w'/\e= .returned (.tuple #[.int .i64 2, .int .i64 0])))
 have hres:=hid fun w1 u (hu:MV (mk noY w1) u O35)=>((b7s noY w1 u O35 2 (HX.none w1) hu (by decide) b6y (by decide) (by decide)).mono fun e w' ⟨hE,m,he,h1,_⟩=>(by
  rw[a9d.2]at he h1;obtain rfl:=(h1 rfl).uniq a9d.1;exact⟨hE,he⟩:Ext w1 w'/\e= .returned (.tuple #[.int .i64 2, .int .i64 0])):Calls Tryz.prog 36 #[u] w1 (fun e w'=>Ext w1 w'/\e= .returned (.tuple #[.int .i64 2, .int .i64 0])))
 have h11:Hid ((((1:Int):Rat))=1):=hid (by decide+kernel);have h55:Hid ((((5:Int):Rat))=5):=hid (by decide+kernel);go_enter Tryz.func33,Tryz.ntmps33
 go_wp2_with fail
 refine(a5M noY w 1 (HX.none w) (by decide) (by decide)).mono ?_;rintro e w1 ⟨hE1,u1,rfl,hu1⟩;rw[h11.out]at hu1;obtain⟨s1,a1,n1,c1,d1,k1,e1,rfl⟩:=hu1.shape;obtain⟨w2,hw2,t2,x1,x2,hz2⟩:=a0W w1 #[.bool false, .slice none 0 0, .slice none 0 0] #[.bool false, .slice none 0 0, .slice none 0 0] 41 41;go_wp2_with (first
  |((with_reducible show wpList _ _ _ (⟨_, .store 41 _ _,_,_,_,_⟩::_) _ _);refine a0a a0j rfl rfl x1 rfl rfl (a1q _ _ _ _ _ _ _) ?_;intro w3 r1 y1;have x23:=x2.ext y1 (a0b (by omega)))
  |((with_reducible show wpList _ _ _ (⟨_, .store 41 _ _,_,_,_,_⟩::_) _ _);refine a0a a0j rfl rfl x23 rfl rfl (a1q _ _ _ _ _ _ _) ?_;intro w4 r2 y2)
  |(go_at_call 31;refine(hloc.out w4).mono ?_;rintro ee w5 ⟨t5,rfl⟩))
 have hE25:Ext w4 w5:=t5;have hE14:Ext w1 w4:=ExtX.box (ExtX.box t2 y1 (Nat.le_refl _)) y2 (by omega);have r14:=(r1.ext y2 (a0b (by omega))).ext0 t5;have r24:=r2.ext0 t5;obtain⟨g1,hg1⟩:∃g,w1.heap.size=g:=⟨_,rfl⟩;rw[hg1]at r14 r24
 (try rw[hg1])
 obtain⟨g2,hg2⟩:∃g,g1+1=g:=⟨_,rfl⟩;rw[hg2]at r24
 (try rw[hg2])
 have hu5:=mkx QC.mono hu1 (hE14.trans t5);have hEw5:=hE1.trans (hE14.trans t5);clear hw2 t2 x1 x2 hz2 r1 r2 y1 y2 x23 hu1 hE14 hE25 t5 hE1 hg1 hg2 hloc;have hEd:Ext w5 w5.drew:=(ExtX.refl w5).drew;have hS0:=hid fun w' (h:Ext w5 w')=>(⟨(r14.ext0 h).cell 0 rfl,(r14.ext0 h).cell 1 rfl,(r14.ext0 h).cell 2 rfl,(r24.ext0 h).cell 0 rfl,(r24.ext0 h).cell 1 rfl,(r24.ext0 h).cell 2 rfl⟩:w'.cell? ⟨g1,0,none⟩=some (.bool s1)/\w'.cell? ⟨g1,1,none⟩=some (.slice a1 n1 c1)/\w'.cell? ⟨g1,2,none⟩=some (.slice d1 k1 e1)/\w'.cell? ⟨g2,0,none⟩=some (.bool false)/\w'.cell? ⟨g2,1,none⟩=some (.slice none 0 0)/\w'.cell? ⟨g2,2,none⟩=some (.slice none 0 0));go_upto_region 3 with fail
 (try simp only[Act.put])
 refine a0K 15 (fun w'=>w'.cell? ⟨g1,0,none⟩=some (.bool s1)/\w'.cell? ⟨g1,1,none⟩=some (.slice a1 n1 c1)/\w'.cell? ⟨g1,2,none⟩=some (.slice d1 k1 e1)/\w'.cell? ⟨g2,0,none⟩=some (.bool false)/\w'.cell? ⟨g2,1,none⟩=some (.slice none 0 0)/\w'.cell? ⟨g2,2,none⟩=some (.slice none 0 0)) (by kernel_rfl) (by kernel_rfl) (hS0.out _ hEd) (fun hHeld hOnce=>?_);have hu0:=hid (mkx QC.mono hu5 hEd);have hSd:=hid fun w' (h:Ext w5.drew w')=>hS0.out w' (hEd.trans h);obtain⟨W0,hW0⟩:∃W0,w5.drew=W0:=⟨_,rfl⟩;rw[hW0]at hHeld hSd hu0 hEd |-;refine kt 0 hOnce ?_;refine kt 1 hOnce ?_;refine kt 3 hOnce ?_;refine kt 4 hOnce ?_;refine kt 6 hOnce ?_;refine a9C fun a0 ha0=>?_;have hrow:=hid fun w' (h:Ext W0 w')=>b1v w' [.agg #[.bool s1, .slice a1 n1 c1, .slice d1 k1 e1], .agg #[.bool false, .slice none 0 0, .slice none 0 0]] [1,0] #[.bool s1, .slice a1 n1 c1, .slice d1 k1 e1, .bool false, .slice none 0 0, .slice none 0 0] 41 2 (by simp[a0g,Value.cells]) rfl rfl (fun i hi hi'=>by
  match i,hi,hi' with
  |0,_,_=>exact mkx QC.mono hu0.out h
  |1,_,_=>exact QC.zero _) (by decide) (fun q hq=>by
  have:q=1\/q=0:=by simpa using hq
  rcases this with rfl|rfl<;>decide+kernel)
 have hrow5:=hid fun w' s a n c d k e (h:Ext W0 w') (h5:QC (mk noY w') (.agg #[.bool s, .slice a n c, .slice d k e]) 5)=>b1v w' [.agg #[.bool s1, .slice a1 n1 c1, .slice d1 k1 e1], .agg #[.bool s, .slice a n c, .slice d k e]] [1,5] #[.bool s1, .slice a1 n1 c1, .slice d1 k1 e1, .bool s, .slice a n c, .slice d k e] 41 2 (by simp[a0g,Value.cells]) rfl rfl (fun i hi hi'=>by
  match i,hi,hi' with
  |0,_,_=>exact mkx QC.mono hu0.out h
  |1,_,_=>exact h5) (by decide) (fun q hq=>by
  have:q=1\/q=5:=by simpa using hq
  rcases this with rfl|rfl<;>decide+kernel)
 refine a9B (I:=fun s a w'=>∃v2 v5 v7 v8 s5 a5 n5 c5 d5 k5 e5,a=a8f a0 v2 v5 v7 v8/\Ext W0 w'/\(s.1=true->RV (mk noY w') v2 [1,0])/\(s.2.1=true->RV (mk noY w') v5 [1,0])/\(s.2.2.1=true->v7= .agg #[.bool s5, .slice a5 n5 c5, .slice d5 k5 e5]/\QC (mk noY w') v7 5)/\(s.2.2.2=true->RV (mk noY w') v8 [1,5]))
  b6A lJb b3N b7u (by kernel_rfl) ?st ?ex 11 (false,false,false,false) a0 W0 (by decide) (by decide) ?hi
 case hi=>
  subst ha0;exact⟨undef,undef,undef,undef,false,none,0,0,none,0,0,by simp only[a8f,Act.put,List.setIfInBounds_toArray,List.set_cons_zero,List.set_cons_succ],ExtX.refl _,fun h=>(by cases h),fun h=>(by cases h),fun h=>(by cases h),fun h=>(by cases h)⟩
 case st=>
  rintro ⟨b2,b5,b7,b8⟩ i t a w' hs ht ⟨v2,v5,v7,v8,s5,a5,n5,c5,d5,k5,e5,rfl,hEx,f2,f5,f7,f8⟩;have h7:=a6b _ hs
  dsimp only at f2 f5 f7 f8 h7
  subst ha0;unfold b3N at ht
  dsimp only at ht
  have hE2:Ext w' (w'.alloc (.cells #[.bool s1, .slice a1 n1 c1, .slice d1 k1 e1, .bool false, .slice none 0 0, .slice none 0 0] 41)):=(ExtX.refl _).alloc _;split at ht
  ·rename_i hc
   obtain⟨rfl,rfl⟩:=hc;cases ht
   simp only[a8f,Act.put,List.setIfInBounds_toArray,List.set_cons_zero,List.set_cons_succ];refine a3v (o:=⟨_,_,_,_,_,_⟩) rfl (fun K hK=>?_);go_simp
   refine hK.out _ _ ⟨hSd.out _ (hEx.trans hE2), .slice (some ⟨w'.heap.size,0,none⟩) 2 2,v5,v7,v8,s5,a5,n5,c5,d5,k5,e5,rfl,hEx.trans hE2,fun _=>hrow.out w' hEx,fun h=>mkx RV.mono (f5 h) hE2,fun h=>⟨(f7 h).1,mkx QC.mono (f7 h).2 hE2⟩,fun h=>mkx RV.mono (f8 h) hE2⟩
  ·split at ht
   ·rename_i hc
    obtain⟨rfl,rfl⟩:=hc;cases ht
    simp only[a8f,Act.put,List.setIfInBounds_toArray,List.set_cons_zero,List.set_cons_succ];refine a3v (o:=⟨_,_,_,_,_,_⟩) rfl (fun K hK=>?_);go_simp
    refine hK.out _ _ ⟨hSd.out _ (hEx.trans hE2),v2, .slice (some ⟨w'.heap.size,0,none⟩) 2 2,v7,v8,s5,a5,n5,c5,d5,k5,e5,rfl,hEx.trans hE2,fun h=>mkx RV.mono (f2 h) hE2,fun _=>hrow.out w' hEx,fun h=>⟨(f7 h).1,mkx QC.mono (f7 h).2 hE2⟩,fun h=>mkx RV.mono (f8 h) hE2⟩
   ·split at ht
    ·rename_i hc
     obtain⟨rfl,rfl⟩:=hc;cases ht
     have hb8:b8=false:=by cases b8<;>simp_all
     simp only[a8f,Act.put,List.setIfInBounds_toArray,List.set_cons_zero,List.set_cons_succ];refine a3v (o:=⟨_,_,_,_,_,_⟩) rfl (fun K hK=>?_);go_simp
     (with_reducible refine(a5M noY w' 5 (HX.none w') (by decide) (by decide)).mono ?_)
     rintro ee w3 ⟨hE3,u3,rfl,hu3⟩;rw[h55.out]at hu3;obtain⟨s6,a6,n6,c6,d6,k6,e6,rfl⟩:=hu3.shape;refine hK.out _ _ ⟨hSd.out _ (hEx.trans hE3),v2,v5, .agg #[.bool s6, .slice a6 n6 c6, .slice d6 k6 e6],v8,s6,a6,n6,c6,d6,k6,e6,rfl,hEx.trans hE3,fun h=>mkx RV.mono (f2 h) hE3,fun h=>mkx RV.mono (f5 h) hE3,fun _=>⟨rfl,hu3⟩,fun h=>absurd (hb8.symm.trans h) (by decide)⟩
    ·split at ht
     ·rename_i hc
      obtain⟨rfl,rfl,rfl⟩:=hc;cases ht
      obtain⟨rfl,h5⟩:=f7 rfl;have hE4:Ext w' (w'.alloc (.cells #[.bool s1, .slice a1 n1 c1, .slice d1 k1 e1, .bool s5, .slice a5 n5 c5, .slice d5 k5 e5] 41)):=(ExtX.refl _).alloc _;simp only[a8f,Act.put,List.setIfInBounds_toArray,List.set_cons_zero,List.set_cons_succ];refine a3v (o:=⟨_,_,_,_,_,_⟩) rfl (fun K hK=>?_);go_simp
      refine hK.out _ _ ⟨hSd.out _ (hEx.trans hE4),v2,v5, .agg #[.bool s5, .slice a5 n5 c5, .slice d5 k5 e5], .slice (some ⟨w'.heap.size,0,none⟩) 2 2,s5,a5,n5,c5,d5,k5,e5,rfl,hEx.trans hE4,fun h=>mkx RV.mono (f2 h) hE4,fun h=>mkx RV.mono (f5 h) hE4,fun _=>⟨rfl,mkx QC.mono h5 hE4⟩,fun _=>hrow5.out w' s5 a5 n5 c5 d5 k5 e5 hEx h5⟩
     ·cases ht
 case ex=>
  rintro ⟨b2,b5,b7,b8⟩ a w' hs hf ⟨v2,v5,v7,v8,s5,a5,n5,c5,d5,k5,e5,rfl,hEx,f2,f5,f7,f8⟩;have h7:=a6b _ hs
  dsimp only at f2 f5 f7 f8 h7
  obtain⟨hf1,rfl⟩:=(Bool.and_eq_true _ _).mp hf;obtain⟨rfl,rfl⟩:=(Bool.and_eq_true _ _).mp hf1;have e7:=h7 rfl;subst e7 ha0;have R2:=f2 rfl;have R5:=f5 rfl;have R8:=f8 rfl;obtain⟨rfl,_⟩:=f7 rfl;obtain⟨o2,m2,rfl,q2,q22⟩:=id R2;obtain⟨o5,m5,rfl,q5,q55⟩:=id R5;obtain⟨o8,m8,rfl,q8,q88⟩:=id R8;have hHeld:=hSd.out w' hEx;have hM:=b3M w' [.slice o2 2 m2, .slice o5 2 m5, .slice o8 2 m8] P35 #[.slice o2 2 m2, .slice o5 2 m5, .slice o8 2 m8] 26 3 rfl rfl rfl (fun i hi hi'=>by
   match i,hi,hi' with
   |0,_,_=>exact R2
   |1,_,_=>exact R5
   |2,_,_=>exact R8) (by decide)
  have hE9:Ext w' (w'.alloc (.cells #[.slice o2 2 m2, .slice o5 2 m5, .slice o8 2 m8] 26)):=(ExtX.refl _).alloc _;clear f2 f5 f7 f8 h7 hs hf hf1 q22 q55 q88 q2 q5 q8 R2 R5 R8
  show a0X _ _ _ _ _ _ 7 #[true,true,true,true,true,true,true,true,true,false,false,false,false,false,false,false] _ _
  simp only[a8f,Act.put,List.setIfInBounds_toArray,List.set_cons_zero,List.set_cons_succ];refine ks 9 (fun K hK=>?_);go_simp
  skip
  refine kcn hK (hSd.out _ (hEx.trans hE9)) (fun hHeld=>?_);clear hK K;refine ks 10 (fun K hK=>?_);go_simp
  ((with_reducible refine(hpla.out _ _ hM).mono ?_);rintro ee w6 ⟨t6,rfl⟩)
  refine kcn hK (hSd.out _ (hEx.trans (hE9.trans t6))) (fun hHeld=>?_);clear hK K;refine kt 11 hOnce ?_;refine kt 12 hOnce ?_;refine kt 13 hOnce ?_;refine ks 14 (fun K hK=>?_);go_simp
  skip
  refine kcn hK hHeld (fun hHeld=>?_);clear hK K;refine kl 15 (fun K hK=>?_);go_simp
  refine hK.out _ _ ?_;clear hK K;have hE56:=hEd.trans (hEx.trans (hE9.trans t6));have hu6:=mkx QC.mono hu5 hE56;have hc0:=hS0.out _ hE56;obtain⟨A,hA⟩:∃A:Obj,A=(.cells #[.bool s1, .slice a1 n1 c1, .slice d1 k1 e1] 41):=⟨_,rfl⟩;obtain⟨wa,hwa⟩:∃wa,wa=w6.alloc A:=⟨_,rfl⟩;obtain⟨wb,hwb⟩:∃wb,wb=wa.alloc A:=⟨_,rfl⟩;obtain⟨wc,hwc⟩:∃wc,wc=wb.alloc A:=⟨_,rfl⟩;have ga:Ext w6 wa:=hwa▸(ExtX.refl _).alloc _;have gb:Ext wa wb:=hwb▸(ExtX.refl _).alloc _;have gc:Ext wb wc:=hwc▸(ExtX.refl _).alloc _;have hc1:=hS0.out _ (hE56.trans ga);have hc2:=hS0.out _ (hE56.trans (ga.trans gb));have r1x:∀w',QC (mk noY w') (.agg #[.bool s1, .slice a1 n1 c1, .slice d1 k1 e1]) 1->RV (mk noY (w'.alloc A)) (.slice (some ⟨w'.heap.size,0,none⟩) 1 1) [1]:=fun w' h1=>by
   rw[hA];exact b1v w' [.agg #[.bool s1, .slice a1 n1 c1, .slice d1 k1 e1]] [1] _ _ 1 (by simp[a0g,Value.cells]) rfl rfl (fun i hi hi'=>by
    obtain rfl:i=0:=by simp at hi;omega
    exact h1) (by decide) (fun q hq=>by
    obtain rfl:q=1:=by simpa using hq
    decide+kernel)
  have ra:=r1x w6 hu6;rw[<-hwa]at ra;have rb:=r1x wa (mkx QC.mono hu6 ga);rw[<-hwb]at rb;have rc:=r1x wb (mkx QC.mono hu6 (ga.trans gb));rw[<-hwc]at rc;have hM2:=b3M wc [.slice (some ⟨w6.heap.size,0,none⟩) 1 1, .slice (some ⟨wa.heap.size,0,none⟩) 1 1, .slice (some ⟨wb.heap.size,0,none⟩) 1 1] O35 _ 26 3 rfl rfl rfl (fun i hi hi'=>by
   match i,hi,hi' with
   |0,_,_=>exact mkx RV.mono ra (gb.trans gc)
   |1,_,_=>exact mkx RV.mono rb gc
   |2,_,_=>exact rc) (by decide)
  rw[hwc,hwb,hwa,hA]at hM2;rw[hwa,hA]at hc1;rw[hwb,hwa,hA]at hc2;clear ra rb rc r1x hwa hwb hwc hu6 hHeld hM hpla;have hz:∀(u:World) o,(u.alloc o).heap.size=u.heap.size+1:=fun u o=>Array.size_push _;simp only[hz]at hM2;have hEx6:Ext w6 _:=ExtX.refl _|>.alloc (.cells #[.bool s1, .slice a1 n1 c1, .slice d1 k1 e1] 41)|>.alloc (.cells #[.bool s1, .slice a1 n1 c1, .slice d1 k1 e1] 41)|>.alloc (.cells #[.bool s1, .slice a1 n1 c1, .slice d1 k1 e1] 41)|>.alloc (.cells #[.slice (some ⟨w6.heap.size,0,none⟩) 1 1, .slice (some ⟨w6.heap.size+1,0,none⟩) 1 1, .slice (some ⟨w6.heap.size+1+1,0,none⟩) 1 1] 26);go_wp2_with (go_at_call 36;refine(hres.out _ _ hM2).mono ?_;rintro ee w7 ⟨t7,rfl⟩)
  go_ret
  exact⟨hEw5.trans (hE56.trans (hEx6.trans t7)),rfl⟩
theorem ris(w:World)(k t:Int):Calls Tryz.prog 102 #[.agg #[.int .i64 k, .int .i64 t]] w (fun e o=>Ext w o/\e= .returned (.bool (a1C k t))):=by
 obtain⟨W,p,a,c,hz⟩:=a0J w #[.int .i64 k, .int .i64 t] 53;obtain⟨b,l⟩:∃b,w.heap.size=b:=⟨_,rfl⟩;rw[l]at c hz;have q:W.cell? ⟨b,0,none⟩=some (.int .i64 k):=c.cell 0 rfl;have r:W.cell? ⟨b,1,none⟩=some (.int .i64 t):=c.cell 1 rfl;by_cases d:1<=k
 ·by_cases f:k<=5
  ·by_cases g:0<=t
   ·by_cases i:t=0
    ·subst i
     have e:a1C k 0=true:=a1s.2 ⟨d,f,g, .inr rfl⟩;rw[e];go_enter Tryz.func102,Tryz.ntmps102
     go_wp2_with fail
     go_ret
     exact⟨a,rfl⟩
    ·have m:(t==0)=false:=by simpa using i
     by_cases j:k=5
     ·subst j
      have e:a1C 5 t=true:=a1s.2 ⟨d,f,g, .inl rfl⟩;rw[e];go_enter Tryz.func102,Tryz.ntmps102
      go_wp2_with fail
      go_ret
      exact⟨a,rfl⟩
     ·have e:a1C k t=false:=by rw[Bool.eq_false_iff];intro h;obtain⟨_,_,_,h|h⟩:=a1s.1 h<;>omega
      have n:(k==5)=false:=by simpa using j
      rw[e];go_enter Tryz.func102,Tryz.ntmps102
      go_wp2_with fail
      go_ret
      exact⟨a,rfl⟩
   ·have e:a1C k t=false:=by rw[Bool.eq_false_iff];intro h;obtain⟨_,_,h,_⟩:=a1s.1 h;omega
    rw[e];go_enter Tryz.func102,Tryz.ntmps102
    go_wp2_with fail
    go_ret
    exact⟨a,rfl⟩
  ·have e:a1C k t=false:=by rw[Bool.eq_false_iff];intro h;obtain⟨_,h,_⟩:=a1s.1 h;omega
   rw[e];go_enter Tryz.func102,Tryz.ntmps102
   go_wp2_with fail
   go_ret
   exact⟨a,rfl⟩
 ·have e:a1C k t=false:=by rw[Bool.eq_false_iff];intro h;obtain⟨h,_⟩:=a1s.1 h;omega
  rw[e];go_enter Tryz.func102,Tryz.ntmps102
  go_wp2_with fail
  go_ret
  exact⟨a,rfl⟩
theorem b5u(w:World)(k t n:Int)(j: -9223372036854775808<=n)(l:n<=9223372036854775807):Calls Tryz.prog 103 #[.agg #[.int .i64 k, .int .i64 t], .int .i64 n] w (fun e m=>Ext w m/\e= .returned (.bool (a2K k t n))):=by
 obtain⟨W,q,a,c,hz⟩:=a0J w #[.int .i64 k, .int .i64 t] 53;obtain⟨b,i⟩:∃b,w.heap.size=b:=⟨_,rfl⟩;rw[i]at c hz;have r:W.cell? ⟨b,0,none⟩=some (.int .i64 k):=c.cell 0 rfl;have s:W.cell? ⟨b,1,none⟩=some (.int .i64 t):=c.cell 1 rfl;by_cases d:1<=n
 ·have p:IntKind.i64.wrap (n - 1)=n - 1:=IntWalk.i64_in _ (by omega)
  have o:Int.tdiv (n - 1) 2=(n - 1)/2:=Int.tdiv_eq_ediv_of_nonneg (by omega);by_cases f:k=5
  ·subst f
   by_cases g:t<=(n - 1)/2
   ·have e:a2K 5 t n=true:=by simp[a2K,d,g]
    rw[e];go_enter Tryz.func103,Tryz.ntmps103
    go_wp2_with fail
    go_ret
    exact⟨a,rfl⟩
   ·have e:a2K 5 t n=false:=by simp[a2K,d,g]
    rw[e];go_enter Tryz.func103,Tryz.ntmps103
    go_wp2_with fail
    go_ret
    exact⟨a,rfl⟩
  ·have h:(k !=(5:Int))=true:=by simpa using f
   have e:a2K k t n=true:=by simp[a2K,d,f]
   rw[e];go_enter Tryz.func103,Tryz.ntmps103
   go_wp2_with fail
   go_ret
   exact⟨a,rfl⟩
 ·have e:a2K k t n=false:=by simp[a2K];omega
  rw[e];go_enter Tryz.func103,Tryz.ntmps103
  go_wp2_with fail
  go_ret
  exact⟨a,rfl⟩
theorem b3f(w:World)(k t:Int)(n:Nat)(C:n<=1000000)(q:a1B k t)(p:a2J k t n):Calls Tryz.prog 104 #[.agg #[.int .i64 k, .int .i64 t], .int .i64 (n:Int)] w (fun e r=>Ext w r/\e= .returned (.tuple #[.int .i64 (rkA k t n:Int), .int .i64 (rkB k t n:Int)])):=by
 obtain⟨W,B,a,c,hz⟩:=a0J w #[.int .i64 k, .int .i64 t] 53;obtain⟨b,m⟩:∃b,w.heap.size=b:=⟨_,rfl⟩;rw[m]at c hz;have D:W.cell? ⟨b,0,none⟩=some (.int .i64 k):=c.cell 0 rfl;have E:W.cell? ⟨b,1,none⟩=some (.int .i64 t):=c.cell 1 rfl;obtain⟨x,y,z,A⟩:=q;obtain⟨u,v⟩:=p;have s:IntKind.i64.wrap ((n:Int)+1)=(n:Int)+1:=IntWalk.i64_in _ (by omega);have f:Int.tdiv ((n:Int)+1) 2=((n:Int)+1)/2:=Int.tdiv_eq_ediv_of_nonneg (by omega);have g:Int.tdiv (n:Int) 2=(n:Int)/2:=Int.tdiv_eq_ediv_of_nonneg (by omega);have h:IntKind.i64.wrap (((n:Int)+1)/2 - 1)=((n:Int)+1)/2 - 1:=IntWalk.i64_in _ (by omega);have i:IntKind.i64.wrap ((n:Int)/2+1)=(n:Int)/2+1:=IntWalk.i64_in _ (by omega);have j:IntKind.i64.wrap (((n:Int)+1)/2 - 1+1)=((n:Int)+1)/2 - 1+1:=IntWalk.i64_in _ (by omega);have o:k=1\/k=2\/k=3\/k=4\/k=5:=by omega
 rcases o with rfl|rfl|rfl|rfl|rfl
 ·go_enter Tryz.func104,Tryz.ntmps104
  go_wp2_with fail
  go_ret2
  exact⟨a,by simp[rkA,rkB]⟩
 ·go_enter Tryz.func104,Tryz.ntmps104
  go_wp2_with fail
  go_ret2
  exact⟨a,by simp[rkA,rkB];omega⟩
 ·go_enter Tryz.func104,Tryz.ntmps104
  go_wp2_with fail
  go_ret2
  exact⟨a,by simp[rkA,rkB]⟩
 ·go_enter Tryz.func104,Tryz.ntmps104
  go_wp2_with fail
  go_ret2
  exact⟨a,by simp[rkA,rkB];omega⟩
 ·have l:IntKind.i64.wrap ((n:Int) - t)=(n:Int) - t:=IntWalk.i64_in _ (by omega)
  have d:Ext w W.drew:=a.trans (ExtX.refl W).drew;go_enter Tryz.func104,Tryz.ntmps104
  go_upto_region 11 with fail
  go_region
  all_goals
   go_wp2_with fail
   go_ret2
   exact⟨d,by simp[rkA,rkB];omega⟩
def b5v(_:Mem)(v:Value)(p:Int×Int):Prop:=v= .agg #[.int .i64 p.1, .int .i64 p.2]
theorem b5v.mono:a2Q b5v:=fun _ _ _ _ _ h=>h
theorem b5v.elem:Elem b5v 2:=by
 refine⟨b5v.mono,?_,?_,by decide⟩
 ·rintro h u p rfl;rfl
 ·rintro h u p rfl c a
  simp[a0g,Value.cells]at a;rcases a with rfl|rfl<;>rfl
theorem b5v.agg:∀h u p,b5v h u p->∃a,u= .agg a:=by
 rintro h u p rfl;exact⟨_,rfl⟩
theorem b6B{a:Nat}{w b c:World}(h:w.heap.size<=a)(e:Ext w b)(d:ExtX (tbm a) b c):Ext w c:=e.then_ d fun i hi _=>a2N (by omega)
theorem b6C(X:Nat->Bool)(w:World)(u:Value)(l:List Rat)(hX:HX X w)(hu:RV (mk X w) u l)(hn:l.length<=1000000)(r:∀k,k<=l.length->hq (sm k (fn l))<=68719476736):Calls Tryz.prog 193 #[u] w (a1u X w QC (sm l.length (fn l))):=by
 obtain⟨ao,ca,rfl,Z,J⟩:=hu;have a0:=J.hd;obtain⟨W,hW,hE,A,o,hz⟩:=a0W w #[.bool false, .slice none 0 0, .slice none 0 0] #[.bool false, .slice none 0 0, .slice none 0 0] 41 41;have E:HX (a0e X w.heap.size 2) W:=hX.boxes hz;have h0:QC (mk (a0e X w.heap.size 2) W) (.agg #[.bool false, .slice none 0 0, .slice none 0 0]) (sm 0 (fn l)):=QC.zero _;obtain⟨n,t⟩:∃n,l.length=n:=⟨_,rfl⟩;rw[t]at hn r Z a0 |-;have f:=hid t;have G:=hid r;clear t r;go_enter Tryz.func193,Tryz.ntmps193
 go_wp2_with fail
 obtain⟨b,hb⟩:∃b,w.heap.size=b:=⟨_,rfl⟩;have a2:Hid (∀wr,Ext w wr->Le (mk X w) (mk (a0e X b 2) wr)):=hid fun wr h=>by rw[<-hb];exact a0i h
 have b5:w.heap.size<=b:=by omega
 rw[hb]at A o E h0 |-;clear hW;go_loopw [8] (fun k wr=>∃(i:Nat) (s:Bool) (a:Option Addr) (O B:Nat) (d:Option Addr) (N e:Nat),k= .int .i64 i/\i<=n/\Bx wr b #[.bool false, .slice none 0 0, .slice none 0 0] 41/\Bx wr (b+1) #[.bool s, .slice a O B, .slice d N e] 41/\QC (mk (a0e X b 2) wr) (.agg #[.bool s, .slice a O B, .slice d N e]) (sm i (fn l))/\HX (a0e X b 2) wr/\Ext w wr) (fun k _=>n - (intOf k).toNat)
 case atStart=>exact⟨0,_,_,_,_,_,_,_,rfl,Nat.zero_le _,A,o,h0,E,hE⟩
 case round=>
  obtain⟨i,s,a,O,B,d,N,e,rfl,hi,A,o,hq,Y,q⟩:=hrel;by_cases a3:i<n
  ·have I:i<l.length:=by rw[f.out];exact a3
   have a6:=J.mono QV.mono (a2.out wr q);have gl:Hid (fn l i=l[i]):=hid (by simp[fn,List.getD_eq_getElem?_getD,I]);have m:Hid (sm i (fn l)+l[i]=sm (i+1) (fn l)):=hid (by rw[<-gl.out];rfl);have H:=hid (G.out i hi);obtain⟨x,hx⟩:∃x,l[i]=x:=⟨_,rfl⟩;rw[hx]at m;have a8:=hid hx;have bx:=Bx.new wr #[.bool false, .slice none 0 0, .slice none 0 0] 41;obtain⟨D,hD⟩:∃D,sm i (fn l)=D:=⟨_,rfl⟩;obtain⟨D2,p⟩:∃D2,sm (i+1) (fn l)=D2:=⟨_,rfl⟩;rw[hD]at hq m H;rw[p]at m;have C:=hid p;clear hx hD p;go_wp2_with (first|(with_reducible refine a1E a1b (by omega) (by assumption) ?_)|((with_reducible show wpList _ _ _ (⟨_, .load 41 _,_,_,_,_⟩::_) _ _);refine a1g a0j i a6 I rfl (by simp) QV.agg ?_;intro u5 v;rw[a8.out]at v;obtain⟨s5,a5,n5,c5,d5,k5,e5,rfl⟩:=v.shape)|((with_reducible show wpList _ _ _ (⟨_, .store _ _ _,_,_,_,_⟩::_) _ _);refine a0a a0j rfl rfl bx rfl rfl (a1q _ _ _ _ _ _ _) ?_;intro g z P;have c:Ext wr g:=ExtX.box ((ExtX.refl wr).alloc _) P (Nat.le_refl _);have j:=o.ext0 c;have K:g.cell? ⟨b+1,0,none⟩=some (.bool s):=j.cell 0 rfl;have L:g.cell? ⟨b+1,1,none⟩=some (.slice a O B):=j.cell 1 rfl;have M:g.cell? ⟨b+1,2,none⟩=some (.slice d N e):=j.cell 2 rfl;have b2:g.cell? ⟨wr.heap.size,0,none⟩=some (.bool s5):=z.cell 0 rfl;have b3:g.cell? ⟨wr.heap.size,1,none⟩=some (.slice a5 n5 c5):=z.cell 1 rfl;have b4:g.cell? ⟨wr.heap.size,2,none⟩=some (.slice d5 k5 e5):=z.cell 2 rfl;have F:=Y.ext c;have a9:QV (mk (a0e X b 2) g) (.agg #[.bool s5, .slice a5 n5 c5, .slice d5 k5 e5]) x:=mkx QV.mono v c;have a4:QV (mk (a0e X b 2) g) (.agg #[.bool s, .slice a O B, .slice d N e]) D:=(mkx QC.mono hq c).qv H.out;clear bx z)|(go_at_call 48;(with_reducible refine(b4r (a0e X b 2) g _ _ _ _ F a4 a9).mono ?_);rintro ee w7 ⟨Q,u7,rfl,y⟩;obtain⟨s7,a7,n7,c7,d7,k7,e7,rfl⟩:=y.shape;rw[m.out]at y;have T:=j.ext0 Q;clear K L M b2 b3 b4)|((with_reducible show wpList _ _ _ (⟨_, .store _ _ _,_,_,_,_⟩::_) _ _);refine a0a a0j rfl rfl T rfl rfl (a1q _ _ _ _ _ _ _) ?_;intro w8 z1 R))
   have h8:=QC.mono _ _ _ _ (a0f (lo:=b) (nb:=2) R (by omega) (by omega)) y;have S:=((A.ext0 c).ext0 Q).ext R (a0b (by omega));have U:Ext w _:=ExtX.box (q.trans (c.trans Q)) R (by omega);have V:=(F.ext Q).ext R;rw[<-C.out]at h8;go_roundw
   case rel=>exact⟨i+1,_,_,_,_,_,_,_,by go_num,by omega,S,z1,h8,V,U⟩
   case measure=>simp[intOf];omega
  ·have a1:i=n:=by omega
   subst a1;rw[<-f.out]at hq;have K:=o.cell 0 rfl;have L:=o.cell 1 rfl;have M:=o.cell 2 rfl;go_wp2_with ((with_reducible show wpList _ _ _ (⟨_, .store _ _ _,_,_,_,_⟩::_) _ _);refine a0a a0j rfl rfl A rfl rfl (a1q _ _ _ _ _ _ _) ?_;intro w7 z P)
   have h7:=QC.mono _ _ _ _ a0h (QC.mono _ _ _ _ (a0f P (by omega) (by omega)) hq);rw[f.out]at h7;exact bodyPost_ret (a0d rfl rfl a0j z rfl) rfl ⟨ExtX.box q P (by omega),_,rfl,h7⟩
end Go.Proofs.YtnnpfhoigmegcaaGreat
namespace Go.Rep
open Go.RowKit Go.Lim
section
variable {P:Program} {α:Type} {R:Mem->Value->α->Prop} {sz:Nat} {X:Nat->Bool} {base:Nat} {e:TypeId} {w:World} {ao:Option Addr} {cap:Nat} {l:List α}
end
section
variable {P:Program} {ops:Array Oper} {Q:Exit->Act->World->Prop} {a:Act} {w:World}
end
end Go.Rep
namespace Go.Rep
open Go.RowKit Go.Lim
section
variable {P:Program} {ops:Array Oper} {Q:Exit->Act->World->Prop} {rest:List Oper} {a:Act} {w:World}
variable {α:Type} {R:Mem->Value->α->Prop} {sz:Nat} {X:Nat->Bool} {base:Nat} {e:TypeId} {ao:Option Addr} {cap:Nat} {l:List α}
variable {d:Option Tmp} {ty:TypeId} {ps:String} {af:Array Edge}
end
end Go.Rep
namespace Go.Rep
open Go.RowKit Go.Lim
section
variable {P:Program} {ops:Array Oper} {Q:Exit->Act->World->Prop} {a:Act} {w:World}
variable {α:Type} {R:Mem->Value->α->Prop} {sz:Nat} {X:Nat->Bool} {base:Nat} {e:TypeId} {ao:Option Addr} {cap:Nat} {l:List α}
theorem a5s{sz:Nat}{us:List Value}(h:∀u∈us,u.cells.size=sz)(j k:Nat):((us.drop j).take k).flatMap a0g=((us.flatMap a0g).drop (j*sz)).take (k*sz):=by
 have hd:∀(vs:List Value),(∀u∈vs,u.cells.size=sz)->∀j,(vs.drop j).flatMap a0g=(vs.flatMap a0g).drop (j*sz):=by
  intro vs
  induction vs with
  |nil=>intro _ j;simp
  |cons v vs ih=>
   intro hv j;cases j with
   |zero=>simp
   |succ j=>
    have h1:(a0g v).length=sz:=by have:=hv v (by simp);simpa[a0g]using this
    simp only[List.drop_succ_cons,List.flatMap_cons];rw[ih (fun u hu=>hv u (by simp[hu])) j,Nat.succ_mul,Nat.add_comm,<-h1,List.drop_length_add_append]
 have ht:∀(vs:List Value),(∀u∈vs,u.cells.size=sz)->∀k,(vs.take k).flatMap a0g=(vs.flatMap a0g).take (k*sz):=by
  intro vs
  induction vs with
  |nil=>intro _ k;simp
  |cons v vs ih=>
   intro hv k;cases k with
   |zero=>simp
   |succ k=>
    have h1:(a0g v).length=sz:=by have:=hv v (by simp);simpa[a0g]using this
    simp only[List.take_succ_cons,List.flatMap_cons];rw[ih (fun u hu=>hv u (by simp[hu])) k,Nat.succ_mul,Nat.add_comm,<-h1,List.take_length_add_append]
 rw[ht _ (fun u hu=>h u (List.mem_of_mem_drop hu)),hd _ h]
theorem a8h{β:Type}{L:List β}{i j k q:Nat}(e:i+k<=L.length)(f:j+k<=L.length)(hq:q<(L.take i++(L.drop j).take k++L.drop (i+k)).length)(hx:(if q<i then q else if q<i+k then j+(q - i)else q)<L.length):(L.take i++(L.drop j).take k++L.drop (i+k))[q]=L[if q<i then q else if q<i+k then j+(q - i)else q]:=by
 have c:(L.take i).length=i:=by rw[List.length_take];omega
 have d:((L.drop j).take k).length=k:=by rw[List.length_take,List.length_drop];omega
 by_cases a:q<i
 ·simp only[if_pos a]
  rw[List.getElem_append_left (by rw[List.length_append];omega),List.getElem_append_left (by omega),List.getElem_take]
 ·by_cases b:q<i+k
  ·simp only[if_neg a,if_pos b]
   rw[List.getElem_append_left (by rw[List.length_append];omega),List.getElem_append_right (by omega),List.getElem_take,List.getElem_drop];simp only[c]
  ·simp only[if_neg a,if_neg b]
   rw[List.getElem_append_right (by rw[List.length_append];omega),List.getElem_drop];simp only[List.length_append,c,d]
   congr 1
   omega
theorem OL.run_copyIn{t W:Nat}{z:Value}(T:SliceT P t e sz W z)(hR:Elem R sz)(h:OL R sz X base e w ao cap l)(i j k n1 n2 m1 m2 c1 c2:Nat)(D:i+k<=l.length)(M:j+k<=l.length)(hk:0<k)(Z:m1≠i)(a0:m2≠j)(U:Nat.min n2 n1=k)(ty:TypeId):∃w',(Builtin.copy_ #[t,t] ty #[.slice (a0z ao i m1 sz) n1 c1, .slice (a0z ao j m2 sz) n2 c2]).run P w= .ok (goInt k) w'/\OL R sz X base e w' ao cap (l.take i++(l.drop j).take k++l.drop (i+k))/\ExtX (ob ao) w w':=by
 obtain⟨ti,hi,hz,a9,b2⟩:=info_parts T.info;obtain⟨b4,g1,g2,g3,g4,g5⟩:=h.cells;have C:=h.form;obtain⟨hx,us,h1,G,J,h3,h5⟩:=h;rcases C with⟨rfl,rfl,rfl⟩|⟨g,a,rfl,h6,V,h8,h9,y⟩
 ·simp at D;omega
 have x:us.flatMap a0g=a.toList.take (l.length*sz):=by
  rcases h3.2 with⟨H,_⟩|⟨g',c',I,H,_,K,_,_,_,Y⟩
  ·simp at H
  simp at H;obtain⟨rfl,rfl⟩:=H;rw[V]at K;obtain rfl:a=I:=by simpa using K
  exact Y.symm
 have b3:=Nat.mul_le_mul_right sz h8;have r:=Nat.mul_le_mul_right sz D;have N:=Nat.mul_le_mul_right sz M;rw[Nat.add_mul]at r N;have o:((us.drop j).take k).flatMap a0g=(a.toList.drop (j*sz)).take (k*sz):=by
  rw[a5s G,x,List.drop_take,List.take_take]
  congr 1
  omega
 obtain⟨d,p⟩:∃d,(us.drop j).take k=d:=⟨_,rfl⟩;have s:d.length=k:=by rw[<-p,List.length_take,List.length_drop];omega
 have E:∀u∈d,u∈us:=fun u b=>by rw[<-p]at b;exact List.mem_of_mem_drop (List.mem_of_mem_take b)
 rw[p]at o;have f:(d.flatMap a0g).length=k*sz:=by rw[a0C d fun u b=>G u (E u b),s]
 have F:∀v∈d.flatMap a0g,v.oneCell'=true:=by
  intro c hc;obtain⟨v,H,a3⟩:=List.mem_flatMap.1 hc;exact J v (E v H) c a3
 have L:i*sz+(d.flatMap a0g).length<=a.size:=by rw[f,y];omega
 have a1:a0z (some ⟨g,0,none⟩) i m1 sz=some ⟨g,i*sz,none⟩:=by unfold a0z;rw[if_neg Z];simp only[Option.map_some,Addr.add_lit,Nat.zero_add]
 have a2:a0z (some ⟨g,0,none⟩) j m2 sz=some ⟨g,j*sz,none⟩:=by unfold a0z;rw[if_neg a0];simp only[Option.map_some,Addr.add_lit,Nat.zero_add]
 have A:∀q u,(d.flatMap a0g)[q]? =some u->w.cell? ((⟨g,j*sz,none⟩:Addr).add q)=some u:=by
  intro q u hq;have a7:q<k*sz:=by rw[<-f];exact(List.getElem?_eq_some_iff.1 hq).1
  rw[o,List.getElem?_take_of_lt a7,List.getElem?_drop]at hq;rw[Addr.add_lit];unfold World.cell?;simp[V,<-Array.getElem?_toList,hq]
 have a4:=run_loadCells_list (P:=P) w ⟨g,j*sz,none⟩ (d.flatMap a0g) A;have a8:=run_storeCells_at P g (i*sz) e (d.flatMap a0g) 0 a w V (by simpa using L) F;have hE:ExtX (ob (some ⟨g,0,none⟩)) w (w.setRow g (a.toList.take (i*sz+0)++d.flatMap a0g++a.toList.drop (i*sz+0+(d.flatMap a0g).length)).toArray):=
  ⟨rfl,rfl,rfl,by simp,fun q _ hq=>setRow_other w g q _ (fun ek=>by subst ek;simp[ob]at hq)⟩
 have B:∀u∈us.take i++d++us.drop (i+k),u∈us:=by
  intro u b;rcases List.mem_append.1 b with b|b
  ·rcases List.mem_append.1 b with b|b
   ·exact List.mem_of_mem_take b
   ·exact E u b
  ·exact List.mem_of_mem_drop b
 have m:(us.take i++d++us.drop (i+k)).length=(l.take i++(l.drop j).take k++l.drop (i+k)).length:=by simp[s,h1];omega
 have n:(l.take i++(l.drop j).take k++l.drop (i+k)).length=l.length:=by simp;omega
 have O:(a.toList.take (i*sz)).length=i*sz:=by
  rw[List.length_take,Array.length_toList,y];exact Nat.min_eq_left (by omega)
 have Q:(a.toList.take (i*sz)++d.flatMap a0g).length=i*sz+k*sz:=by rw[List.length_append,O,f]
 refine⟨_,?_,⟨hx,us.take i++d++us.drop (i+k),m,fun u b=>G u (B u b),fun u b=>J u (B u b),⟨?_, .inr ⟨g,cap,_,by simp,h6,setRow_heap w g a _ e _ V,by rw[n];exact h8,h9,?_,?_⟩⟩,?_⟩,hE⟩
 ·have S:(loadCells ⟨g,j*sz,none⟩ (k*ti.size)).run P w= .ok (d.flatMap a0g).toArray w:=by rw[a9,<-f];exact a4
  rw[a1,a2];simp[Builtin.copy_,run_underlying T.und,Builtin.lenOf,Builtin.firstCells,sizeOf,typeInfo,hi,U,S,a8]
 ·rw[a0C _ (fun u b=>G u (B u b)),m]
 ·simp only[List.size_toArray,List.length_append,Nat.add_zero,O,List.length_drop,Array.length_toList,y,f]
  omega
 ·have b0:(us.take i).flatMap a0g=a.toList.take (i*sz):=by
   have:=a5s (us:=us) G 0 i;simp only[List.drop_zero,Nat.zero_mul]at this;rw[this,x,List.take_take,Nat.min_eq_left (by omega)]
  have b1:(us.drop (i+k)).flatMap a0g=(a.toList.take (l.length*sz)).drop (i*sz+k*sz):=by
   have:=a5s (us:=us) G (i+k) us.length;rw[List.take_of_length_le (by simp)]at this;rw[this,x,List.take_of_length_le (by simp[h1];rw[Nat.add_mul];omega),Nat.add_mul]
  rw[n,List.flatMap_append,List.flatMap_append,b0,b1];simp only[Nat.add_zero,f];rw[List.take_append,List.take_of_length_le (by rw[Q];exact r),Q,List.drop_take]
 ·intro q hq a6
  have a5:Le (mk (un X (some ⟨g,0,none⟩)) w) (mk (un X (some ⟨g,0,none⟩)) _):=a2f hE (.inl rfl);refine hR.mono _ _ _ _ a5 ?_;subst p;rw[a8h (by omega) (by omega) hq (by split<;>(try split)<;>omega),a8h D M a6 (by split<;>(try split)<;>omega)];exact h5 _ _ _
theorem OL.run_copy0{t c:Nat}{z:Value}(T:SliceT P t e sz c z)(_:Elem R sz)(h:OL R sz X base e w ao cap l)(d f A i j k n:Nat)(ty:TypeId):(Builtin.copy_ #[t,t] ty #[.slice (a0z ao i d sz) 0 k, .slice (a0z ao j f sz) A n]).run P w= .ok (goInt 0) w:=by
 obtain⟨ti,hi,hz,y,x⟩:=info_parts T.info;rcases h.form with⟨rfl,rfl,rfl⟩|⟨g,p,rfl,C,D,E,F,v⟩
 ·have a:∀i m,a0z none i m sz=none:=fun i m=>by unfold a0z;split<;>rfl
  rw[a,a];simp[Builtin.copy_,run_underlying T.und,Builtin.lenOf,Builtin.firstCells,sizeOf,typeInfo,hi]
 ·have a:∀i m,∃o,a0z (some ⟨g,0,none⟩) i m sz=some ⟨g,o,none⟩:=fun i m=>by
   unfold a0z;split
   ·exact⟨0,rfl⟩
   ·exact⟨0+i*sz,by simp only[Option.map_some,Addr.add_lit]⟩
  obtain⟨G,r⟩:=a i d;obtain⟨B,s⟩:=a j f;have b:=run_loadCells_list (P:=P) w ⟨g,B,none⟩ [] (fun q u hq=>by simp at hq);rw[r,s];simp at b;simp[Builtin.copy_,run_underlying T.und,Builtin.lenOf,Builtin.firstCells,sizeOf,typeInfo,hi,b,storeCells]
theorem a8i{o:Oper}{K:Act->World->Prop}{E:Prop}{t d:Nat}{z:Value}{s x:Operand}(v:o.guard=none)(k:o.op=Op.call {callee:=Callee.builtin Builtin.copy,args:=#[s,x],argTypes:=#[t,t]})(T:SliceT P t e sz d z)(m:Elem R sz)(i j n p q:Nat)(C:l.length=n)(A:j<=i)(y:i<=n)(f:p=n - i)(c:q=n - j)(F:a.eval s= .slice (a0z ao i cap sz) p (cap - i))(hx:a.eval x= .slice (a0z ao j cap sz) q (cap - j))(h:OL R sz X base e w ao cap l)(u:∀b,OL R sz X base e b ao cap (l.take i++(l.drop j).take (n - i))->ExtX (ob ao) w b->K (a.put o.dst (.int .i64 ((n - i:Nat):Int))) b):if Region.wanted o (yielded ops a.tmps)=true then Oper.wp P o a w K Q else E:=by
 have G:Region.wanted o (yielded ops a.tmps)=true:=by simp[Region.wanted,v]
 rw[if_pos G];subst f;subst c;subst C;have B:=h.lenCap;obtain⟨b,D,c,g⟩:∃b,(Builtin.copy_ #[t,t] o.type #[.slice (a0z ao i cap sz) (l.length - i) (cap - i), .slice (a0z ao j cap sz) (l.length - j) (cap - j)]).run P w= .ok (goInt ((l.length - i:Nat):Int)) b/\OL R sz X base e b ao cap (l.take i++(l.drop j).take (l.length - i))/\ExtX (ob ao) w b:=by
  by_cases r:i=l.length
  ·subst r
   have:=h.run_copy0 (P:=P) T m cap cap (l.length - j) l.length j (cap - l.length) (cap - j) o.type;rw[Nat.sub_self];exact⟨w,this,by simpa using h,ExtX.refl _⟩
  ·obtain⟨b,f,c,g⟩:=h.run_copyIn (P:=P) T m i j (l.length - i) (l.length - i) (l.length - j) cap cap (cap - i) (cap - j) (by omega) (by omega) (by omega) (by omega) (by omega) (Nat.min_eq_right (by omega)) o.type
   refine⟨b,f,?_,g⟩;rw[show i+(l.length - i)=l.length by omega,List.drop_length,List.append_nil]at c;exact c
 unfold Oper.wp execOp;rw[k];simp only[resolve,invoke,builtin,Sem.run_bind,Sem.run_pure,Result.andThen_ok,List.map_toArray,List.map_cons,List.map_nil,F,hx,D];exact u _ c g
end
end Go.Rep
namespace Go.Proofs.YtnnpfhoigmegcaaGreat
open Go.RowKit Go.Rep Go.Lim Go.Lin
theorem b3g(X:Nat->Bool)(w:World)(u:Value)(x:Rat)(y:HX X w)(h:QV (mk X w) u x):Calls Tryz.prog 272 #[u] w (a1u X w QC x):=by
 obtain⟨E,p,C,q,r,B,s,rfl⟩:=h.shape;obtain⟨W,J,n,f,m,hz⟩:=a0W w #[.bool E, .slice p C q, .slice r B s] #[.bool false, .slice none 0 0, .slice none 0 0] 41 41;have d:HX (a0e X w.heap.size 2) W:=y.boxes hz;have e:=QV.mono _ _ _ _ (a0i (nb:=2) n) h;obtain⟨b,z⟩:∃b,w.heap.size=b:=⟨_,rfl⟩;have A:w.heap.size<=b:=by omega
 rw[z]at f m hz d e;have j:=f.cell 0 rfl;have k:=f.cell 1 rfl;have l:=f.cell 2 rfl;have t:QV (mk (a0e X b 2) W) (.agg #[.bool false, .slice none 0 0, .slice none 0 0]) 0:=(QC.zero _).qv (by decide+kernel);have i:x+0=x:=by grind
 clear h;go_enter Tryz.func272,Tryz.ntmps272
 go_wp2_with fail
 refine(b4r (a0e X b 2) W _ _ x 0 d e t).mono ?_;rintro I O ⟨c,N,rfl,a⟩;rw[i]at a;obtain⟨M,F,L,G,H,K,e5,rfl⟩:=a.shape;have g:=m.ext0 c;clear j k l;go_wp2_with ((with_reducible show wpList _ _ _ (⟨_, .store 41 _ _,_,_,_,_⟩::_) _ _);refine a0a a0j rfl rfl g rfl rfl (a1q _ _ _ _ _ _ _) ?_;intro P D o)
 have v:=QC.mono _ _ _ _ a0h (QC.mono _ _ _ _ (a0f o (by omega) (by omega)) a);exact bodyPost_ret (a0d rfl rfl a0j D rfl) rfl ⟨ExtX.box (n.trans c) o (by omega),_,rfl,v⟩
end Go.Proofs.YtnnpfhoigmegcaaGreat
