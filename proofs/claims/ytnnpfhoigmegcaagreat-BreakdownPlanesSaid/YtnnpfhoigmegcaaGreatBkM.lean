/- Parts of a proof: each theorem states what it proves, and its conditions. -/
import Derived.Test.YtnnpfhoigmegcaaGreatBkL
import Derived.WalkKit
import Derived.ProofKit
import Derived.OpenShut
import Derived.ShutString
import Derived.ChangeOld
import Derived.Below
import Derived.Deep.Slices
import Derived.Deep.Fields
import Derived.ChangeSame
set_option maxRecDepth 100000
set_option maxHeartbeats 3200000
namespace Go.Lin
open Go.Lim Go.Rep
def b0K(x:Mat)(c:Nat)(d:List Rat)(i:Nat):List Rat:=a2l (x.take i) c d
theorem a8l{x:Mat}{c:Nat}{d:List Rat}{i:Nat}(h:i<x.length):b0K x c d (i+1)=b0K x c d i++[a3o (dot c (vec d) (vec x[i]))]:=by
 unfold b0K a2l;rw[List.take_succ_eq_append_getElem h,List.map_append];rfl
theorem b0a{x:Mat}{c:Nat}{d:List Rat}{i:Nat}(h:i<=x.length):(b0K x c d i).length=i:=by
 unfold b0K;rw[a1X,List.length_take];omega
theorem b0b(x:Mat)(c:Nat)(d:List Rat):b0K x c d x.length=a2l x c d:=by unfold b0K;rw[List.take_length]
def a6i(x:Mat)(c:Nat)(d l:List Rat)(i:Nat):List Rat:=(List.range l.length).map fun m=>if 1<=m/\m<=i then a4H (l.getD m 0) (a1g x c d m)else l.getD m 0
theorem b0c(x:Mat)(c:Nat)(d l:List Rat)(i:Nat):(a6i x c d l i).length=l.length:=by simp[a6i]
theorem b2z(x:Mat)(c:Nat)(d l:List Rat):a6i x c d l 0=l:=by
 unfold a6i;refine List.ext_getElem (by simp) fun m b a=>?_;simp[List.getD_eq_getElem?_getD,a,show¬(1<=m/\m=0)by omega]
theorem b0d{x:Mat}{c:Nat}{d l:List Rat}{i:Nat}(h:i+1<(a6i x c d l i).length):(a6i x c d l i)[i+1]=l.getD (i+1) 0:=by
 simp[a6i];omega
theorem b0e{x:Mat}{c:Nat}{d l:List Rat}{i:Nat}:(a6i x c d l i).set (i+1) (a4H (l.getD (i+1) 0) (a1g x c d (i+1)))=a6i x c d l (i+1):=by
 refine List.ext_getElem (by simp[a6i]) fun m g e=>?_;rw[List.getElem_set];by_cases b:i+1=m
 ·subst b
  simp[a6i]
 ·rw[if_neg b]
  have f:m<l.length:=by simpa[a6i]using e
  simp only[a6i,List.getElem_map,List.getElem_range];by_cases a:1<=m/\m<=i
  ·rw[if_pos a,if_pos ⟨a.1,by omega⟩]
  ·rw[if_neg a,if_neg (by omega)]
theorem b2A{x:Mat}{c:Nat}{d l:List Rat}{i:Nat}(b:a4H (l.getD (i+1) 0) (a1g x c d (i+1))=l.getD (i+1) 0):a6i x c d l i=a6i x c d l (i+1):=by
 rw[<-b0e,b];refine(List.ext_getElem (by simp) fun m e f=>?_).symm;rw[List.getElem_set];by_cases a:i+1=m
 ·subst a;rw[if_pos rfl,b0d]
 ·rw[if_neg a]
end Go.Lin
namespace Go.Proofs.YtnnpfhoigmegcaaGreat
open Go.RowKit Go.Rep Go.Lim Go.Lin
theorem b4m(M:Nat->Bool)(W:World)(vd:Value)(d:List Rat)(x:Mat)(n c B bx bo base:Nat)(ao:Option Addr)(ca:Nat)(oo:Option Addr)(oc:Nat)(l:List Rat)(hM:HX M W)(hx:MV (mk (un M oo) W) (.slice ao n ca) x)(hd:RV (mk (un M oo) W) vd d)(hdl:d.length=c)(hs:Shp n c x)(hn8:n<=8)(hc4:c<=4)(hB:BM B x)(hBB:B<=1000)(hdB:BR 42875000 d)(bx9:Bx W bx #[.slice ao n ca] 25)(bo9:Bx W bo #[.slice oo (n+1) oc] 26)(hO:OL QC 3 M base 41 W oo oc l)(_hbase:base<=W.heap.size)(hll:l.length=n+1)(hlB:BR 4000000000 l)(_hobx:ob oo bx=false)(hobo:ob oo bo=false):Calls Tryz.prog 184 #[vd, .pointer (some ⟨bx,0,none⟩), .pointer (some ⟨bo,0,none⟩)] W (fun e W'=>e= .returned (.tuple #[])/\ExtX (ob oo) W W'/\OL QC 3 M base 41 W' oo oc (a6i x c d l n)):=by
 obtain⟨do_,dc,rfl,hdc,hds⟩:=hd;have hsx:Sl RV 1 (mk (un M oo) W) ao x:=by
  obtain⟨_,_,he,_,h⟩:=hx;simp only[Value.slice.injEq]at he;obtain⟨rfl,_,rfl⟩:=he;exact h
 have hxl:x.length=n:=hs.1;have hhx:=hsx.hd;rw[hxl]at hhx;have hxl':=hid hxl;have hs':=hid hs;obtain⟨m,hm⟩:∃m,d.length=m:=⟨_,rfl⟩;have hm':=hid hm;rw[hm];obtain⟨W1,hW1,hE1,bl0,hz1⟩:=a0Q W #[.slice none 0 0] 26;obtain⟨bl,hbl⟩:∃bl,W.heap.size=bl:=⟨_,rfl⟩;rw[hbl]at bl0 hz1;have hnew:∀j,j<W.heap.size->ob (some ⟨bl,0,none⟩) j=false:=fun j hj=>a0c (by omega);obtain⟨M1,hM1⟩:∃M1,un M (some ⟨bl,0,none⟩)=M1:=⟨_,rfl⟩;have hMM1:∀k,M1 k=true↔M k=true\/k=bl:=fun k=>by
  rw[<-hM1];simp only[un,Bool.or_eq_true];constructor
  ·rintro (h|h)
   ·exact Or.inl h
   ·right;have:bl=k:=by simpa[ob]using h
    exact this.symm
  ·rintro (h|rfl)
   ·exact Or.inl h
   ·right;simp[ob]
 have hX1:HX M1 W1:=fun k hk=>by
  rcases(hMM1 k).1 hk with h|rfl
  ·exact hM.ext hE1 k h
  ·omega
 have hO1:OL QC 3 M1 base 41 W1 oo oc l:=hO.ext QC.elem hE1 (fun k _ hk=>by simp[noY]at hk) (fun k hk hz=>by
  rcases(hMM1 k).1 hz with h|h
  ·exact h
  ·omega)
 have hXu1:HX (un M1 oo) W1:=hO1.unX hX1;have hle1:Le (mk (un M oo) W) (mk (un M1 oo) W1):=a0T hE1 (fun k _ hk=>by simp[noY]at hk) (fun k hk hz=>by
  rcases Bool.or_eq_true_iff.1 hz with h|h
  ·rcases(hMM1 k).1 h with h2|h2
   ·exact a0o h2
   ·omega
  ·exact a0t h)
 have hsx1:=hid (hsx.mono RV.mono hle1);have hdv1:=hid (RV.mono _ _ _ _ hle1 (show RV (mk (un M oo) W) (.slice do_ d.length dc) d from⟨do_,dc,rfl,hdc,hds⟩));rw[hm]at hdv1;obtain⟨H1,hH1⟩:∃H1,un M1 oo=H1:=⟨_,rfl⟩;rw[hH1]at hXu1 hsx1 hdv1;have hblH:H1 bl=true:=by rw[<-hH1];exact a0o ((hMM1 bl).2 (Or.inr rfl))
 have bx1:=bx9.ext0 hE1;have bo1:=bo9.ext0 hE1;have kx:W1.cell? ⟨bx,0,none⟩=some (.slice ao n ca):=bx1.cell 0 rfl;have hbxl:bx<bl:=by have:=bx9.lt;omega
 have hbol:bo<bl:=by have:=bo9.lt;omega
 have hW1':=hid hW1;have hM1b:M1 bl=true:=(hMM1 bl).2 (Or.inr rfl);have hMM1':=hid hMM1;have hH1':=hid hH1;have hoW:=hid (fun k (h:ob oo k=true)=>(hO.block h).2);have hll':=hid hll;have hX1':=hid hX1;clear hW1 hm hxl hs hx hds hdc hsx hM hM1 hMM1 hH1 hll hX1;go_enter Tryz.func184,Tryz.ntmps184
 have kx':(W.alloc (.cells #[.slice none 0 0] 26)).cell? ⟨bx,0,none⟩=some (.slice ao n ca):=by rw[hW1'.out];exact kx
 go_wp2_with fail
 rw[hW1'.out]
 (try rw[hbl])
 go_loopw [14] (fun cc wr=>∃(i:Nat) (lo:Option Addr) (lc:Nat),cc= .int .i64 i/\i<=n/\Bx wr bl #[.slice lo i lc] 26/\OL QC 3 H1 W1.heap.size 41 wr lo lc (b0K x c d i)/\ExtX (ob (some ⟨bl,0,none⟩)) W1 wr) (fun cc _=>n - (intOf cc).toNat)
 case atStart=>exact⟨0,none,0,rfl,Nat.zero_le _,bl0,OL.nil _ _ _ _ _ _,ExtX.refl _⟩
 case round=>
  obtain⟨i,lo,lc,rfl,hi,blr,hOl,hE⟩:=hrel;have hXr:HX H1 wr:=hXu1.ext hE;have hblY:∀k,ob (some ⟨bl,0,none⟩) k=true->H1 k=true:=fun k hk=>by
   have:bl=k:=by simpa[ob]using hk
   rw[<-this];exact hblH
  by_cases hlt:i<n
  ·have hil:i<x.length:=by rw[hxl'.out];exact hlt
   have hXu:HX (un H1 lo) wr:=hOl.unX hXr;have hleu:Le (mk H1 W1) (mk (un H1 lo) wr):=a0T hE (fun k _ hk=>hblY k hk) (fun k hk hz=>by
    rcases Bool.or_eq_true_iff.1 hz with h|h
    ·exact h
    ·rw[hOl.ob_lt hk]at h;exact absurd h (by decide))
   obtain⟨a1,c1,hX1',hc1,hcl1,hq1⟩:=(hsx1.out.mono RV.mono (a0r hE hblY)).row i hil;have hrl:x[i].length=c:=hs'.out.2 _ (List.getElem_mem _);have hrB:=hB _ (List.getElem_mem hil);have hbd:=a6e hrl hc4 hrB hdB (by decide) hBB;obtain⟨u0,hcu,hru⟩:∃u,wr.cell? (adr ao i)=some u/\RV (mk (un H1 lo) wr) u x[i]:=by
    obtain⟨u,g1,_,g3⟩:=(hsx1.out.mono RV.mono hleu).cell SlV.one i hil;exact⟨u,a1i g1,_,g3⟩
   have hcu2:=hc1.out noY wr (ExtX.refl _) rfl;rw[hrl]at hcu2;rw[hcu2]at hcu;obtain rfl:Value.slice a1 c c1=u0:=by simpa using hcu
   have hdot:=hid fun w' (h:Ext wr w')=>a9M (un H1 lo) w' (.slice a1 c c1) (.slice do_ m dc) x[i] d (hXu.ext h) (mkx RV.mono hru h) (mkx RV.mono (RV.mono _ _ _ _ hleu hdv1.out) h) (by omega) (by rw[hrl,hdl]) (fun q hq=>Nat.le_trans (hbd.1 q hq) (by decide)) (fun q hq=>Nat.le_trans (hbd.2 q hq) (by decide));have hdq:Hid (hq (a8G x[i] d)<=200004013):=hid (hbd.1 _ (Nat.le_refl _));have hmo:=hid (a8l (c:=c) (d:=d) hil);have hal:=hid (b0a (c:=c) (d:=d) (Nat.le_of_lt hil));rw[a4j hrl]at hdot hdq;obtain⟨D,hD⟩:∃D,dot c (vec d) (vec x[i])=D:=⟨_,rfl⟩;rw[hD]at hdot hdq hmo;have kx2:wr.cell? ⟨bx,0,none⟩=some (.slice ao n ca):=hE.cellY kx (a0c (by show bx≠bl;omega));obtain⟨A,hA⟩:∃A,b0K x c d i=A:=⟨_,rfl⟩;rw[hA]at hOl hmo hal;have hobl:ob lo bl=false:=hOl.ob_lt (by omega);clear hc1 hq1 hcl1 hrl hrB hbd hru hcu hD hA hX1';go_upto_region 4 with(with_reducible refine a0m a0q (by omega) (by assumption) ?_)
   have hEd:Ext wr wr.drew:=(ExtX.refl wr).drew;have hwS:wr.drew.cell? ⟨bl,0,none⟩=some (.slice lo i lc):=hEd.cell (blr.cell 0 rfl)
   (try simp only[Act.put])
   refine a0K 7 (fun w'=>w'.cell? ⟨bl,0,none⟩=some (.slice lo i lc)) (by kernel_rfl) (by kernel_rfl) hwS (fun hHeld hOnce=>?_);refine kt 0 hOnce ?_;refine kt 1 hOnce ?_;refine kt 2 hOnce ?_;refine ks 3 (fun K hK=>?_);go_simp
   ((with_reducible refine(hdot.out wr.drew hEd).mono ?_);rintro ee wa ⟨ga,ua,rfl,hua⟩;obtain⟨s4,a4,n4,c4,d4,k4,e4,rfl⟩:=hua.shape)
   refine kcn hK (ga.cell hHeld) (fun hHeld=>?_);clear hK K;refine ks 4 (fun K hK=>?_);go_simp
   ((with_reducible refine(b9j (un H1 lo) wa _ D (hXu.ext (hEd.trans ga)) (hua.qv (Nat.le_trans hdq.out (by decide)))).mono ?_);rintro ee wb ⟨gb,ub,rfl,hub⟩;obtain⟨s5,a5,n5,c5,d5,k5,e5,rfl⟩:=hub.shape)
   refine kcn hK (gb.cell hHeld) (fun hHeld=>?_);clear hK K;obtain⟨wc,hwc,gc,bc,hzc⟩:=a0Q wb #[.bool s5, .slice a5 n5 c5, .slice d5 k5 e5] 41;refine ks 5 (fun K hK=>?_);go_simp
   skip
   refine kcn hK (gc.cell hHeld) (fun hHeld=>?_);clear hK K;have hEc:Ext wr wc:=hEd.trans (ga.trans (gb.trans gc));have hOc:=hOl.ext0 QC.elem hEc;obtain⟨g,hg⟩:∃g,wb.heap.size=g:=⟨_,rfl⟩;rw[hg]at bc
   (try rw[hg])
   have hgu:un H1 lo g=false:=by
    cases h:un H1 lo g
    ·rfl
    ·have:=hXu.ext (hEd.trans (ga.trans gb)) g h
     omega
   have hsz:=b7C (Y:=un H1 lo) (u:= .agg #[.bool s5, .slice a5 n5 c5, .slice d5 k5 e5]) bc hgu (mkx QC.mono hub gc) rfl;refine ks 6 (fun K hK=>?_)
   (refine a6q (l:=A) rfl rfl a0J rfl QC.elem (Nat.le_trans hE.size hEc.size) (hXr.ext hEc) [a3o D] i 1 hal.out rfl rfl rfl hOc hsz (by omega) (by omega) ?_;intro lo2 lc2 w6 hO6 hE6 hor)
   refine kcn hK (hE6.cellY hHeld hobl) (fun hHeld=>?_);clear hK K;have hE16:ExtX (ob (some ⟨bl,0,none⟩)) W1 w6:=(hE.trans (ExtX.of hEc)).then_ hE6 fun k hk _=>hOc.ob_lt hk;have bl6:=(blr.ext0 hEc).ext hE6 hobl;refine kl 7 (fun K hK=>?_)
   (refine a6o (v:= .slice lo2 (i+1) lc2) rfl rfl a3G rfl rfl rfl rfl bl6 (by simp) ?_;intro w7 bl7 y7)
   refine hK.out _ _ ?_;clear hK K
   (try simp only[Act.put])
   have hE17:=hE16.trans y7;have hO7:=hO6.ext QC.elem y7 (fun k _ hk=>hblY k hk) (fun _ _ h=>h);rw[<-hmo.out]at hO7;go_wp2_with fail
   go_roundw
   case rel=>exact⟨i+1,lo2,lc2,by go_num,by omega,bl7,hO7,hE17⟩
   case measure=>simp[intOf];omega
  ·obtain rfl:n=i:=by omega
   have hall:=b0b x c d;rw[hxl'.out]at hall;rw[hall]at hOl;have hl0:(a2l x c d).length=n:=by rw[a1X,hxl'.out]
   have hl0B:BR 200004013 (a2l x c d):=fun q hq=>by
    obtain⟨r,hr,rfl⟩:=List.mem_map.1 hq;have hrl:=hs'.out.2 r hr;have hbd:=(a6e hrl hc4 (hB r hr) hdB (by decide) hBB).1 _ (Nat.le_refl _);rw[show a5B r d r.length=a8G r d from rfl,a4j hrl]at hbd;exact Nat.le_trans b2y hbd
   have hpart:=hid (show∀m,a1g x c d m=a7Y (a2l x c d) m/a1K (a2l x c d)from fun m=>rfl);obtain⟨l0,hl0'⟩:∃l0,a2l x c d=l0:=⟨_,rfl⟩;rw[hl0']at hOl hl0 hl0B hpart;have hso:Sorting H1 W1.heap.size lo lc n bl l0.toArray wr:=⟨by rw[List.toList_toArray];exact hOl,by simpa using hl0,blr.cell 0 rfl,hOl.ob_lt (by omega),hXr,by rw[List.toList_toArray];exact fun q hq=>Nat.le_trans (hl0B q hq) (by decide)⟩;have hcall:=b6D H1 W1.heap.size lo lc bl l0 wr (by rw[hl0];exact hso) (by omega);rw[hl0]at hcall;have kbl:wr.cell? ⟨bl,0,none⟩=some (.slice lo n lc):=blr.cell 0 rfl;have hmf:∀(fn:Fn) (first cap:Array Value) (w:World),(Instr.makeFunc fn first cap).run Tryz.prog w= .ok (.func fn first cap) w:=fun _ _ _ _=>rfl;have hEW1:=hE;have hO1':=hid hO1;clear hE hlt hi kx hO1 hdv1 hsx1;go_wp2_with (first|(go_at_call 186;refine hcall.mono ?_;rintro e w2 ⟨rfl,hS,hE2⟩;have hv:=hS.var))
   have hEW2:ExtX (ob (some ⟨bl,0,none⟩)) W1 w2:=hEW1.then_ hE2 fun k hk _=>hOl.ob_lt hk;have hOD:=hS.own;rw[List.toList_toArray]at hOD;have hDl:(a3X l0).length=n:=by rw[a9X,hl0]
   have hDB:BR 200004013 (a3X l0):=fun q hq=>hl0B q (a9Y.1 hq);have hcc:=hOD.lenCap;rw[hDl]at hcc;have hX2:=hS.hid;have hsl:=hOD.sl QC.elem;have hlh:=hOD.hd;rw[hDl]at hlh;have hsq:=a5c (n:=8) hDB (by omega);have hsum:=b3Y H1 w2 (.slice lo n lc) (a3X l0) hX2 ⟨lo,lc,by rw[hDl],by rw[hDl];exact hcc,hsl.qv fun q hq=>Nat.le_trans (hDB q hq) (by decide)⟩ (by omega) (fun j hj=>Nat.le_trans (hsq j hj) (by decide));rw[show sm (a3X l0).length (fn (a3X l0))=a1K (a3X l0)from rfl]at hsum;have hSq:Hid (hq (a1K (a3X l0))<=1600032113):=hid (hsq (a3X l0).length (Nat.le_refl _));have hTk:=hid fun i=>(by
    have h1:=a5c (n:=8) (l:=(a3X l0).take i) (fun q hq=>hDB q (List.mem_of_mem_take hq)) (by rw[List.length_take];omega) _ (Nat.le_refl _);exact h1:hq (a1K ((a3X l0).take i))<=1600032113)
   have hTs:=hid fun i (hi:i<(a3X l0).length)=>(by
    rw[List.take_succ_eq_append_getElem hi,a9H,a0X,a3d];grind:a1K ((a3X l0).take i)+(a3X l0)[i]=a1K ((a3X l0).take (i+1)))
   have hPt:=hid fun i=>(by rw[hpart.out,<-b2w,<-b6z l0]:a1g x c d i=a1K ((a3X l0).take i)/a1K (a3X l0));obtain⟨D,hD⟩:∃D,a3X l0=D:=⟨_,rfl⟩;rw[hD]at hDl hDB hsl hsum hSq hTk hTs hPt;obtain⟨S,hSS⟩:∃S,a1K D=S:=⟨_,rfl⟩;rw[hSS]at hsum hSq hPt;have hDl':=hid hDl;clear hD hSS hcall hOD hS hsq hpart hl0B hl0 hl0' hso hOl blr hDl;go_wp2_with (first|(go_at_call 188;refine hsum.mono ?_;rintro ee w3 ⟨t3,u3,rfl,hu3⟩;obtain⟨sS,aS,nS,cS,dS,kS,eS,rfl⟩:=hu3.shape;have bx7:=Bx.new w3 #[.bool false, .slice none 0 0, .slice none 0 0] 41)|((with_reducible show wpList _ _ _ (⟨_, .store 41 _ _,_,_,_,_⟩::_) _ _);refine a0a a0k rfl rfl bx7 rfl rfl (a1n _ _ _ _ _ _ _) ?_;intro w5 r7 y7;have hE35:Ext w3 w5:=ExtX.box ((ExtX.refl w3).alloc _) y7 (Nat.le_refl _);obtain⟨w6,hw6,t6,r8,hz6⟩:=a0Q w5 #[.bool false, .slice none 0 0, .slice none 0 0] 41;have kbl6:(w5.alloc (.cells #[.bool false, .slice none 0 0, .slice none 0 0] 41)).cell? ⟨bl,0,none⟩=some (.slice lo n lc):=by{rw[hw6];exact(t3.trans (hE35.trans t6)).cell hv};have hw6':=hid hw6;clear hw6))
   rw[hw6'.out];obtain⟨b7,hb7⟩:∃b7,w3.heap.size=b7:=⟨_,rfl⟩;obtain⟨b8,hb8⟩:∃b8,w5.heap.size=b8:=⟨_,rfl⟩;rw[hb7]at r7;rw[hb8]at r8
   (try rw[hb7])
   (try rw[hb8])
   have hE26:Ext w2 w6:=t3.trans (hE35.trans t6);have hM2:∀k,un M1 (some ⟨b8,0,none⟩) k=true↔M1 k=true\/k=b8:=fun k=>by
    simp only[un,Bool.or_eq_true];constructor
    ·rintro (h|h)
     ·exact Or.inl h
     ·right;have:b8=k:=by simpa[ob]using h
      exact this.symm
    ·rintro (h|rfl)
     ·exact Or.inl h
     ·right;simp[ob]
   have hsz26:=hE26.size;have hsz2:=hEW2.size;have hszw:W.heap.size<=W1.heap.size:=by omega
   have hb8w:w2.heap.size<=b8:=by have:=t3.size;have:=hE35.size;omega
   have hb7w:w2.heap.size<=b7:=by have:=t3.size;omega
   have hb78:b7<b8:=by have:=r7.lt;omega
   have hblw:bl<w2.heap.size:=by omega
   obtain⟨M2,hM2'⟩:∃M2,un M1 (some ⟨b8,0,none⟩)=M2:=⟨_,rfl⟩;rw[hM2']at hM2;have hM1H:∀k,M1 k=true->H1 k=true:=fun k hk=>by rw[<-hH1'.out];exact a0o hk
   have hO6:OL QC 3 M2 base 41 w6 oo oc l:=(hO1'.out.ext QC.elem hEW2 (fun k _ hk=>by
    have:bl=k:=by simpa[ob]using hk
    rw[<-this];exact hM1b) (fun _ _ h=>h)).ext QC.elem hE26 (fun k _ hk=>by simp[noY]at hk) (fun k hk hz=>by
    rcases(hM2 k).1 hz with h|h
    ·exact h
    ·omega)
   have hX6m:HX M2 w6:=fun k hk=>by
    rcases(hM2 k).1 hk with h|h
    ·have:=hX1'.out k h;omega
    ·have:=r8.lt;omega
   have hXu6:HX (un M2 oo) w6:=hO6.unX hX6m;obtain⟨H2,hH2⟩:∃H2,un M2 oo=H2:=⟨_,rfl⟩;rw[hH2]at hXu6;have hH2k:∀k,H2 k=true->k<w2.heap.size->H1 k=true:=fun k hk hs=>by
    rw[<-hH2]at hk;rw[<-hH1'.out];rcases Bool.or_eq_true_iff.1 hk with h|h
    ·rcases(hM2 k).1 h with h2|h2
     ·exact a0o h2
     ·omega
    ·exact a0t h
   have hb8H:H2 b8=true:=by rw[<-hH2];exact a0o ((hM2 b8).2 (Or.inr rfl))
   have hooH:∀k,ob oo k=true->H2 k=true:=fun k hk=>by rw[<-hH2];exact a0t hk
   have hb8M:M2 b8=true:=(hM2 b8).2 (Or.inr rfl);have hD6:=hid (hsl.mono QC.mono (a0T (Z:=H2) hE26 (fun k _ hk=>by simp[noY]at hk) (fun k hk hz=>hH2k k hz hk)));have hS6:=hid (QC.mono _ _ _ _ (a0T (Z:=H2) (hE35.trans t6) (fun k _ hk=>by simp[noY]at hk) (fun k hk hz=>by
    by_cases h:k<w2.heap.size
    ·exact hH2k k hz h
    ·rw[<-hH2]at hz
     rcases Bool.or_eq_true_iff.1 hz with h2|h2
     ·rcases(hM2 k).1 h2 with h3|h3
      ·have:=hX1'.out k h3;omega
      ·have:=hE35.size;omega
     ·have:=hoW.out k h2;omega)) hu3)
   have r76:=r7.ext0 t6;have bo6:=(bo1.ext hEW2 (a0c (by omega))).ext0 hE26;have hob8:ob oo b8=false:=by
    cases h:ob oo b8
    ·rfl
    ·have:=hoW.out b8 h;omega
   have hob7:ob oo b7=false:=by
    cases h:ob oo b7
    ·rfl
    ·have:=hoW.out b7 h;omega
   have hEW6:ExtX (ob (some ⟨bl,0,none⟩)) W1 w6:=hEW2.trans (ExtX.of hE26);have hu0:=hid (b2z x c d l);have hMs:=hid (fun k (hk:M k=true)=>((hM2 k).2 (Or.inl ((hMM1'.out k).2 (Or.inl hk))):M2 k=true));have hWw6:ExtX (ob oo) W w6:=(ExtX.of hE1).then_ hEW6 fun k hk _=>a0c (by omega);have hbo8:bo≠b8:=by omega
   have hbld:∀k,ob (some ⟨b8,0,none⟩) k=true->k=b8:=fun k hk=>by
    have:b8=k:=by simpa[ob]using hk
    exact this.symm
   clear hE26 hsl hu3 r7 bo1 hE35 t3 t6 hEW2 hEW1 hE2 hXr hblY hXu1 hX2 hO1' bx9 bo9 hE1 bl0 hle1 bx1 hW1' hMM1' hX1' kx' kbl hv bx7 kbl6 hw6' hz6 hH1' hM1H hM2 hM2' hsum hM1b hs' hdB hB hhx;go_loopw [34] (fun cc wr=>∃(i:Nat) (sp:Bool) (ap:Option Addr) (np cp:Nat) (dp:Option Addr) (kp ep:Nat),cc= .int .i64 i/\i<=n/\Bx wr b8 #[.bool sp, .slice ap np cp, .slice dp kp ep] 41/\QC (mk H2 wr) (.agg #[.bool sp, .slice ap np cp, .slice dp kp ep]) (a1K (D.take i))/\OL QC 3 M2 base 41 wr oo oc (a6i x c d l i)/\ExtX (fun k=>ob (some ⟨b8,0,none⟩) k||ob oo k) w6 wr) (fun cc _=>n - (intOf cc).toNat)
   case atStart=>exact⟨0,_,_,_,_,_,_,_,rfl,Nat.zero_le _,r8,QC.zero _,by rw[hu0.out];exact hO6,ExtX.refl _⟩
   case round=>
    obtain⟨i,sp,ap,np,cp,dp,kp,ep,rfl,hi,r8r,hqp,hOr,hEr⟩:=hrel;have hYH:∀k,(ob (some ⟨b8,0,none⟩) k||ob oo k)=true->H2 k=true:=fun k hk=>by
     rcases Bool.or_eq_true_iff.1 hk with h|h
     ·rw[hbld k h];exact hb8H
     ·exact hooH k h
    have hXr:HX H2 wr:=hXu6.ext hEr;by_cases hlt:i<n
    ·have hiD:i<D.length:=by rw[hDl'.out];exact hlt
     have hDr:=hD6.out.mono QC.mono (a0r hEr hYH);have hSr:=QC.mono _ _ _ _ (a0r hEr hYH) hS6.out;have r7r:=r76.ext hEr (by rw[a0c (show b7≠b8 by omega),hob7];rfl);have bor:=bo6.ext hEr (by rw[a0c hbo8,hobo];rfl);have hst:=hid (hTs.out i hiD);have hxB:=hDB _ (List.getElem_mem hiD);obtain⟨v,hv⟩:∃v,D[i]=v:=⟨_,rfl⟩;rw[hv]at hst hxB;have hv':=hid hv;have hp1:=hid (hTk.out i);have hp2:=hid (hTk.out (i+1));have hpq:=hid (hPt.out (i+1)).symm;obtain⟨P1,hP1⟩:∃P1,a1K (D.take i)=P1:=⟨_,rfl⟩;obtain⟨P2,hP2⟩:∃P2,a1K (D.take (i+1))=P2:=⟨_,rfl⟩;rw[hP1]at hqp hst hp1;rw[hP2]at hst hp2 hpq;have hP2':=hid hP2;have bx10:=Bx.new wr #[.bool false, .slice none 0 0, .slice none 0 0] 41;obtain⟨b10,hb10⟩:∃b10,wr.heap.size=b10:=⟨_,rfl⟩;have hb810:b8<b10:=by have:=r8r.lt;omega
     rw[hb10]at bx10;clear hv hP1 hP2;go_wp2_with (first
      |(with_reducible refine a1D a0J (by omega) (by assumption) ?_)
      |((with_reducible show wpList _ _ _ (⟨_, .load 41 _,_,_,_,_⟩::_) _ _);refine a0W a0k i hDr hiD rfl (by simp) QC.agg ?_;intro u5 hu5;rw[hv'.out]at hu5;obtain⟨sv,av,nv,cv,dv,kv,ev,rfl⟩:=hu5.shape)
      |((with_reducible show wpList _ _ _ (⟨_, .store 41 _ _,_,_,_,_⟩::_) _ _);refine a0a a0k rfl rfl bx10 rfl rfl (a1n _ _ _ _ _ _ _) ?_;intro w7 r10 y10;have hE7:Ext wr w7:=ExtX.box ((ExtX.refl wr).alloc _) y10 (by omega);have r87:=r8r.ext0 hE7;have kp7_0:w7.cell? ⟨b8,0,none⟩=some (.bool sp):=r87.cell 0 rfl;have kp7_1:w7.cell? ⟨b8,1,none⟩=some (.slice ap np cp):=r87.cell 1 rfl;have kp7_2:w7.cell? ⟨b8,2,none⟩=some (.slice dp kp ep):=r87.cell 2 rfl;have kv7_0:w7.cell? ⟨b10,0,none⟩=some (.bool sv):=r10.cell 0 rfl;have kv7_1:w7.cell? ⟨b10,1,none⟩=some (.slice av nv cv):=r10.cell 1 rfl;have kv7_2:w7.cell? ⟨b10,2,none⟩=some (.slice dv kv ev):=r10.cell 2 rfl;have hXw7:=hXr.ext hE7;have hp7:=mkx QC.mono hqp hE7;have hv7:=mkx QC.mono hu5 hE7)
      |(go_at_call 182;(with_reducible refine(b6S H2 w7 _ _ _ _ hXw7 (hp7.qv (Nat.le_trans hp1.out (by decide))) (hv7.qv (Nat.le_trans hxB (by decide)))).mono ?_);rintro ee wa ⟨ga,ua,rfl,hua⟩;rw[hst.out]at hua;obtain⟨sq,aq,nq,cq,dq,kq,eq,rfl⟩:=hua.shape;have r8a:=r87.ext0 ga)
      |((with_reducible show wpList _ _ _ (⟨_, .store 41 _ _,_,_,_,_⟩::_) _ _);refine a0a a0k rfl rfl r8a rfl rfl (a1n _ _ _ _ _ _ _) ?_;intro w9 r89 y89;have r79:=((r7r.ext0 hE7).ext0 ga).ext y89 (a0c (show b7≠b8 by omega));have kq9_0:w9.cell? ⟨b8,0,none⟩=some (.bool sq):=r89.cell 0 rfl;have kq9_1:w9.cell? ⟨b8,1,none⟩=some (.slice aq nq cq):=r89.cell 1 rfl;have kq9_2:w9.cell? ⟨b8,2,none⟩=some (.slice dq kq eq):=r89.cell 2 rfl;have kS9_0:w9.cell? ⟨b7,0,none⟩=some (.bool sS):=r79.cell 0 rfl;have kS9_1:w9.cell? ⟨b7,1,none⟩=some (.slice aS nS cS):=r79.cell 1 rfl;have kS9_2:w9.cell? ⟨b7,2,none⟩=some (.slice dS kS eS):=r79.cell 2 rfl;have hXw9:=(hXw7.ext ga).ext y89;have hb8y:∀k,ob (some ⟨b8,0,none⟩) k=true->H2 k=true:=fun k hk=>by{rw[hbld k hk];exact hb8H};have q9:=QC.mono _ _ _ _ (a0r y89 hb8y) hua;have S9:=QC.mono _ _ _ _ (a0r y89 hb8y) (mkx QC.mono hSr (hE7.trans ga)))
      |(go_at_call 152;(with_reducible refine(b7B H2 w9 _ _ _ _ hXw9 (q9.qv (Nat.le_trans hp2.out (by decide))) (S9.qv (Nat.le_trans hSq.out (by decide)))).mono ?_);rintro ee wb ⟨gb,ub,rfl,hub⟩;rw[hpq.out]at hub;obtain⟨s2,a2,n2,c2,d2,k2,e2,rfl⟩:=hub.shape;have bx11:=Bx.new wb #[.bool false, .slice none 0 0, .slice none 0 0] 41)
      |((with_reducible show wpList _ _ _ (⟨_, .store 41 _ _,_,_,_,_⟩::_) _ _);refine a0a a0k rfl rfl bx11 rfl rfl (a1n _ _ _ _ _ _ _) ?_;intro w12 r11 y11))
     have hE12:Ext wb w12:=ExtX.box ((ExtX.refl wb).alloc _) y11 (Nat.le_refl _);obtain⟨b11,hb11⟩:∃b11,wb.heap.size=b11:=⟨_,rfl⟩;rw[hb11]at r11
     (try rw[hb11])
     have hO12:OL QC 3 M2 base 41 w12 oo oc (a6i x c d l i):=((hOr.ext0 QC.elem (hE7.trans ga)).ext QC.elem y89 (fun k _ hk=>by rw[hbld k hk];exact hb8M) (fun _ _ h=>h)).ext0 QC.elem (gb.trans hE12);have hE9r:ExtX (ob (some ⟨b8,0,none⟩)) wr w9:=(ExtX.of (hE7.trans ga)).trans y89;have hE12r:ExtX (ob (some ⟨b8,0,none⟩)) wr w12:=hE9r.trans (ExtX.of (gb.trans hE12));have hX12:HX H2 w12:=hXw9.ext (gb.trans hE12);have bo12:=bor.ext hE12r (a0c hbo8);have r812:=r89.ext0 (gb.trans hE12);have hp12:=mkx QC.mono q9 (gb.trans hE12);have hu12:=mkx QC.mono hub hE12;have hil:i+1<(a6i x c d l i).length:=by rw[b0c,hll'.out];omega
     obtain⟨g1,o1,s1,a1,n1,c1,d1,k1,e1,hg1,hy1,hc1,hq1⟩:=hO12.rat QC.shaped (i+1) hil;rw[hH2,b0d hil]at hq1;have hoh:Hd oo (n+1):=by have:=hO12.hd;rwa[b0c,hll'.out]at this
     have hlb:hq (l.getD (i+1) 0)<=4000000000:=by
      have h1:i+1<l.length:=by rw[hll'.out];omega
      rw[show l.getD (i+1) 0=l[i+1]by simp[List.getD_eq_getElem?_getD,h1]];exact hlB _ (List.getElem_mem h1)
     have ewi:IntKind.i64.wrap ((i:Int)+1)=(i:Int)+1:=IntWalk.i64_in _ (by omega);have i1:∀W,(Instr.indexAt 26 (.slice oo (n+1) oc) (.int .i64 ((i:Int)+1))).run Tryz.prog W= .ok (.pointer (some ⟨g1,o1,none⟩)) W:=by
      rw[<-hg1,show((i:Int)+1)=((i+1:Nat):Int)by omega];exact a0j a0J oo (n+1) oc .i64 (i+1) hoh (by omega)
     have hEd:Ext w12 w12.drew:=(ExtX.refl w12).drew;have hwS:w12.drew.cell? ⟨bo,0,none⟩=some (.slice oo (n+1) oc)/\w12.drew.cell? ⟨g1,o1,none⟩=some (.bool s1)/\w12.drew.cell? ⟨g1,o1+1,none⟩=some (.slice a1 n1 c1)/\w12.drew.cell? ⟨g1,o1+2,none⟩=some (.slice d1 k1 e1)/\w12.drew.cell? ⟨b11,0,none⟩=some (.bool s2)/\w12.drew.cell? ⟨b11,1,none⟩=some (.slice a2 n2 c2)/\w12.drew.cell? ⟨b11,2,none⟩=some (.slice d2 k2 e2):=by
      have z:=hc1.out noY w12.drew hEd rfl;exact⟨hEd.cell (bo12.cell 0 rfl),z.1,z.2.1,z.2.2,hEd.cell (r11.cell 0 rfl),hEd.cell (r11.cell 1 rfl),hEd.cell (r11.cell 2 rfl)⟩
     have hle6:=b6p H2 w12.drew _ _ (l.getD (i+1) 0) (a1g x c d (i+1)) (hX12.ext hEd) ((mkx QC.mono hq1 hEd).qv (Nat.le_trans hlb (by decide))) ((mkx QC.mono hu12 hEd).qv (by
      have h1:=hq_div P2 S;have h2:=hp2.out;have h3:=hSq.out;rw[<-hpq.out];omega))
     have hst1:=hid (b0e (x:=x) (c:=c) (d:=d) (l:=l) (i:=i));have hmx1:=hid fun(h:ltQ (l.getD (i+1) 0) (a1g x c d (i+1))=true)=>(by unfold a4H;rw[if_pos (a2s.1 h)]:a4H (l.getD (i+1) 0) (a1g x c d (i+1))=a1g x c d (i+1));have hmx2:=hid fun(h:ltQ (l.getD (i+1) 0) (a1g x c d (i+1))=false)=>(by unfold a4H;rw[if_neg (fun h2=>by rw[a2s.2 h2]at h;cases h)]:a4H (l.getD (i+1) 0) (a1g x c d (i+1))=l.getD (i+1) 0);have hsm:=hid fun h=>b2A (x:=x) (c:=c) (d:=d) (l:=l) (i:=i) h;rw[show decide (b1A (l.getD (i+1) 0) (a1g x c d (i+1))<0)=ltQ (l.getD (i+1) 0) (a1g x c d (i+1))from rfl]at hle6;obtain⟨q1,hq1'⟩:∃q,l.getD (i+1) 0=q:=⟨_,rfl⟩;obtain⟨q2,hq2'⟩:∃q,a1g x c d (i+1)=q:=⟨_,rfl⟩;rw[hq1',hq2']at hle6 hst1 hmx1 hmx2 hsm;rw[hq2']at hu12;obtain⟨bb,hbb⟩:∃bb,ltQ q1 q2=bb:=⟨_,rfl⟩;rw[hbb]at hle6 hmx1 hmx2;clear hc1 hq1 hg1 hy1 hub hua hv7 hp7 hu5 q9 S9 hXw7 hXw9 bx11 r8a r87 r10 bx10 y10 y11 hO6 hOr hlb hq1' hq2' hbb kp7_0 kp7_1 kp7_2 kv7_0 kv7_1 kv7_2 kq9_0 kq9_1 kq9_2 kS9_0 kS9_1 kS9_2 r79 r7r r8r hDr hSr bor hE9r;go_upto_region 14 with fail
     (try simp only[Act.put])
     refine a0K 6 (fun w'=>w'.cell? ⟨bo,0,none⟩=some (.slice oo (n+1) oc)/\w'.cell? ⟨g1,o1,none⟩=some (.bool s1)/\w'.cell? ⟨g1,o1+1,none⟩=some (.slice a1 n1 c1)/\w'.cell? ⟨g1,o1+2,none⟩=some (.slice d1 k1 e1)/\w'.cell? ⟨b11,0,none⟩=some (.bool s2)/\w'.cell? ⟨b11,1,none⟩=some (.slice a2 n2 c2)/\w'.cell? ⟨b11,2,none⟩=some (.slice d2 k2 e2)) (by kernel_rfl) (by kernel_rfl) hwS (fun hHeld hOnce=>?_);refine kt 0 hOnce ?_;refine kt 1 hOnce ?_;refine kt 2 hOnce ?_;refine kt 3 hOnce ?_;refine kt 4 hOnce ?_;refine kt 5 hOnce ?_;refine kl 6 (fun K hK=>?_);go_simp
     (with_reducible refine hle6.mono ?_)
     rintro ee w13 ⟨g13,rfl⟩;refine hK.out _ _ ?_;clear hK K
     (try simp only[Act.put])
     have hE123:=hEd.trans g13;have hO13:=hO12.ext0 QC.elem hE123;have k30:w13.cell? ⟨bo,0,none⟩=some (.slice oo (n+1) oc):=g13.cell hHeld.1;have k31:w13.cell? ⟨b11,0,none⟩=some (.bool s2):=g13.cell hHeld.2.2.2.2.1;have k32:w13.cell? ⟨b11,1,none⟩=some (.slice a2 n2 c2):=g13.cell hHeld.2.2.2.2.2.1;have k33:w13.cell? ⟨b11,2,none⟩=some (.slice d2 k2 e2):=g13.cell hHeld.2.2.2.2.2.2;have r813:=r812.ext0 hE123;have hp13:=mkx QC.mono hp12 hE123;have hu13:=mkx QC.mono hu12 hE123;rw[<-hH2]at hu13;rw[<-hP2'.out]at hp13;have hE6w:ExtX (fun k=>ob (some ⟨b8,0,none⟩) k||ob oo k) w6 w13:=(hEr.trans (hE12r.weaken fun k _ hk=>by
      rw[Bool.or_eq_false_iff]at hk;exact hk.1)).trans (ExtX.of hE123)
     clear hwS hHeld hOnce hle6 hX12;cases bb with
     |true=>
      have hset:=hst1.out;rw[hmx1.out rfl]at hset;clear i1;go_wp2_with (first|(with_reducible refine a1D a0J (by omega) (by assumption) ?_)|((with_reducible show wpList _ _ _ (⟨_, .store 41 _ _,_,_,_,_⟩::_) _ _);refine a1t a4V QC.elem (i+1) rfl (by omega) hO13 hil _ q2 rfl hu13 ?_;intro w14 hO14 y14))
      rw[hset]at hO14;have hE14:ExtX (fun k=>ob (some ⟨b8,0,none⟩) k||ob oo k) w6 w14:=hE6w.trans (y14.weaken fun k _ hk=>by
       rw[Bool.or_eq_false_iff]at hk;exact hk.2)
      have r814:=r813.ext y14 hob8;have hp14:=QC.mono _ _ _ _ (a0r y14 hooH) hp13;go_roundw
      case rel=>exact⟨i+1,_,_,_,_,_,_,_,by go_num,by omega,r814,hp14,hO14,hE14⟩
      case measure=>simp[intOf];omega
     |false=>
      have hset:=hsm.out (hmx2.out rfl);rw[hset]at hO13;go_wp2_with fail
      go_roundw
      case rel=>exact⟨i+1,_,_,_,_,_,_,_,by go_num,by omega,r813,hp13,hO13,hE6w⟩
      case measure=>simp[intOf];omega
    ·obtain rfl:n=i:=by omega
     have hfinE:ExtX (ob oo) W wr:=hWw6.then_ hEr fun k hk hy=>by
      show(ob (some ⟨b8,0,none⟩) k||ob oo k)=false
      rw[a0c (show k≠b8 by omega),hy];rfl
     have hOf:OL QC 3 M base 41 wr oo oc (a6i x c d l n):=hOr.ext QC.elem (ExtX.refl (Y:=noY) wr) (fun k _ hk=>by simp[noY]at hk) (fun k _ hk=>hMs.out k hk);go_wp2_with fail
     go_end0
     exact⟨rfl,hfinE,hOf⟩
end Go.Proofs.YtnnpfhoigmegcaaGreat
namespace Go.Lin
open Go.Lim Go.Rep
theorem b2B{n c:Nat}{x:Mat}(l:Shp n c x)(v:1<=c){d:List Rat}(h:d∈a0R x c):nz c (vec d):=by
 unfold a0R at h;split at h
 ·rename_i g
  subst g;obtain rfl:d= [1]:=by simpa using h
  exact⟨0,by decide,by show(1:Rat)≠0;decide+kernel⟩
 ·obtain⟨s,k,f⟩:=List.mem_filterMap.1 h
  obtain⟨u,m,_⟩:=a1M _ _ _ _ k;have t:x.length=n:=l.1;have p:∀i∈s,0<=i/\i<(x.length:Int):=fun i hi=>by have:=m i hi;omega
  unfold a4c at f;split at f
  ·rename_i b q
   obtain rfl:b=d:=by simpa using f
   have a:=(a3N (a6d l p)).li;rw[show a1p x s=s.map fun i=>x.getD i.toNat []from rfl,q]at a;refine b2U fun o=>?_;have:=a (fun _=>1) (fun j r=>by
    show cmb 1 _ _ j=0
    unfold cmb
    show(0:Rat)+1*ent [b] 0 j=0
    have e:ent [b] 0 j=vec b j:=rfl;rw[e,o j r];grind) 0 (by simp)
   exact absurd this (by decide)
  ·cases f
theorem b7L{n c:Nat}{x:Mat}(f:Shp n c x)(i:1<=c)(e:a8w x c):∃d,d∈a0R x c:=by
 obtain⟨y,⟨_,a,b⟩,_⟩:=a7H (a7K (z:=a1R x) (by omega) e) _ (fun _=>1) (by simp[Ort]) ⟨0,by omega,by show(1:Rat)≠0;decide+kernel⟩ rfl;obtain⟨d,hd,_⟩:=b4D f (by omega) a fun g h=>b g (by simp[Ort]) h;exact⟨d,hd⟩
theorem b4n{l:List Rat}(hn:∀q∈l,0<=q){q:Rat}(hq:q∈l)(h:0<q):0<a1K l:=by
 induction l with
 |nil=>simp at hq
 |cons a l ih=>
  rw[a0X];have h1:=hn a List.mem_cons_self;have h2:=b1O fun x hx=>hn x (List.mem_cons_of_mem a hx);rcases List.mem_cons.1 hq with rfl|hq
  ·grind
  ·have:=ih (fun x hx=>hn x (List.mem_cons_of_mem _ hx)) hq
   grind
theorem b2C{c:Nat}{x:Mat}(f:a8w x c){d:List Rat}(hd:nz c (vec d)):0<a1K (a2l x c d):=by
 obtain⟨v,b,a⟩:∃v∈a1R x,dot c (vec d) v≠0:=by
  apply Classical.byContradiction;intro h;exact hd.not (f (vec d) fun v b=>Classical.byContradiction fun e=>h ⟨v,b,e⟩)
 obtain⟨r,g,rfl⟩:=List.mem_map.1 b;exact b4n b1R (List.mem_map.2 ⟨r,g,rfl⟩) (b1N a)
theorem b2D(q:Rat):0/q=0:=by rw[Rat.div_def];grind
theorem a4F(x:Mat)(c:Nat)(d:List Rat):a1g x c d 0=0:=by
 unfold a1g;rw[b1Q,b2D]
theorem b0f{c:Nat}{x:Mat}(a:a8w x c){d:List Rat}(hd:nz c (vec d)):a1g x c d x.length=1:=by
 unfold a1g;have h:=b2C a hd;rw[show a7Y (a2l x c d) x.length=a1K (a2l x c d)by rw[<-b3J,a1X]];rw[Rat.div_def,Rat.mul_inv_cancel _ (by grind)]
theorem b2E{n c:Nat}{x:Mat}(e:Shp n c x)(a:1<=c)(b:a8w x c):a0x x c x.length=1:=by
 obtain⟨d,hd⟩:=b7L e a b;have f:(0:Rat)<=1:=by decide+kernel
 refine Rat.le_antisymm (b3K f fun d hd=>by rw[b0f b (b2B e a hd)];exact Rat.le_refl) ?_;rw[<-b0f b (b2B e a hd)];exact a9K hd
theorem b6E(l:List Rat):∀(C:List Nat),C.Nodup->(∀i∈C,i<l.length)->∃r,((C.map fun i=>l.getD i 0)++r).Perm l:=by
 intro C f c;refine⟨((List.range l.length).filter (· ∉C)).map fun i=>l.getD i 0,?_⟩;rw[<-List.map_append];have h:(C++(List.range l.length).filter (· ∉C)).Perm (List.range l.length):=by
  refine(List.perm_ext_iff_of_nodup ?_ List.nodup_range).2 fun i=>?_
  ·rw[List.nodup_append]
   refine⟨f,List.Pairwise.filter _ List.nodup_range,fun a g b c e=>?_⟩;subst e;simp only[List.mem_filter,decide_not,Bool.not_eq_eq_eq_not,Bool.not_true,decide_eq_false_iff_not]at c;exact c.2 g
  ·simp only[List.mem_append,List.mem_filter,List.mem_range,decide_not,Bool.not_eq_eq_eq_not,Bool.not_true,decide_eq_false_iff_not]
   constructor
   ·rintro (h|h)
    ·exact c i h
    ·exact h.1
   ·intro h
    by_cases hi:i∈C
    ·exact Or.inl hi
    ·exact Or.inr ⟨h,hi⟩
 have d:=h.map fun i=>l.getD i 0;refine d.trans (List.Perm.of_eq ?_);refine List.ext_getElem (by simp) fun i j d=>?_;simp[List.getD_eq_getElem?_getD,d]
theorem b7M(l:List Rat)(C:List Nat)(hC:C.Nodup)(hb:∀i∈C,i<l.length):a1K (C.map fun i=>l.getD i 0)=sm l.length fun i=>(if i∈C then 1 else 0)*l.getD i 0:=by
 induction C with
 |nil=>rw[List.map_nil,a3d];exact(a3p fun i _=>by simp).symm
 |cons a C ih=>
  rw[List.nodup_cons]at hC;rw[List.map_cons,a0X,ih hC.2 fun i hi=>hb i (List.mem_cons_of_mem _ hi)];have e:(fun i=>(if i∈a::C then(1:Rat)else 0)*l.getD i 0)=fun i=>(if i=a then l.getD i 0 else 0)+(if i∈C then 1 else 0)*l.getD i 0:=by
   funext i
   by_cases h:i=a
   ·subst h
    simp[hC.1];grind
   ·simp[h]
    grind
  rw[e,a5g,a2m (f:=fun i=>if i=a then l.getD i 0 else 0) a (hb a List.mem_cons_self) fun i _ hi=>if_neg hi]
  show l.getD a 0+_=(if a=a then l.getD a 0 else 0)+_
  rw[if_pos rfl]
theorem b8d{n c:Nat}{x:Mat}(o:Shp n c x)(D:1<=c)(l:a8w x c)(m:Nat)(C:List Nat)(g:C.Nodup)(j:∀i∈C,i<x.length)(E:C.length<=m)(d:List Rat):a1K (C.map fun i=>(a2l x c d).getD i 0)<=a0x x c m*a1K (a2l x c d):=by
 have b:∀e:List Rat,GW c (fun i=>(if i∈C then 1 else 0) - a0x x c m) (a1R x) (vec e)=a1K (C.map fun i=>(a2l x c e).getD i 0) - a0x x c m*a1K (a2l x c e):=fun e=>by
  rw[b7M _ _ g fun i hi=>by rw[a1X];exact j i hi];unfold GW a1K;rw[<-a2G,a1X,a9w,<-b4w];refine a0s fun i hi=>?_;have q:(a2l x c e).getD i 0=a3o (dot c (vec e) ((a1R x).getD i z0)):=by
   simp[a2l,a1R,List.getD_eq_getElem?_getD,hi]
  have s:fn (a2l x c e) i=(a2l x c e).getD i 0:=rfl;rw[s,q];grind
 have a:=b9g (w:=fun i=>(if i∈C then 1 else 0) - a0x x c m) (a7K (z:=a1R x) (by omega) l) (fun y p=>by
  obtain⟨e,k,t,G,f⟩:=b4D o (by omega) p.2.1 fun H h=>p.2.2 H (by simp[Ort]) h;have u:=b3I (w:=fun i=>(if i∈C then 1 else 0) - a0x x c m) (z:=a1R x) f;have v:=b2C l (b2B o D k);have I:a1K (C.map fun i=>(a2l x c e).getD i 0)<=a7Y (a2l x c e) m:=by
   obtain⟨r,F⟩:=b6E (a2l x c e) C g fun i hi=>by rw[a1X];exact j i hi
   exact b6e b1R F (by simpa using E)
  have A:a7Y (a2l x c e) m/a1K (a2l x c e)<=a0x x c m:=a9K k;have J:a7Y (a2l x c e) m<=a0x x c m*a1K (a2l x c e):=by
   have:=Rat.mul_le_mul_of_nonneg_right A (Rat.le_of_lt v);rwa[Rat.div_mul_cancel (by grind)]at this
  have B:GW c (fun i=>(if i∈C then 1 else 0) - a0x x c m) (a1R x) (vec e)<=0:=by rw[b];grind
  rw[u]at B;apply Classical.byContradiction;intro L;have K:=Rat.mul_pos (b1N G) (show 0<GW c (fun i=>(if i∈C then 1 else 0) - a0x x c m) (a1R x) y by grind);grind) _ (vec d) rfl
 rw[b]at a;grind
theorem a5e{n c B:Nat}{x:Mat}(k:Shp n c x)(t:n<=8)(h:c<=4)(s:BM B x)(f:B<=1000){d:List Rat}(i:BR 42875000 d)(m:Nat):hq (a1g x c d m)<=3300000000:=by
 have u:x.length=n:=k.1;have a:BR 200004013 (a2l x c d):=fun q b=>by
  obtain⟨r,j,rfl⟩:=List.mem_map.1 b;have e:=k.2 r j;have g:=(a6e e h (s r j) i (by decide) f).1 _ (Nat.le_refl _);rw[show a5B r d r.length=a8G r d from rfl,a4j e]at g;have:hq (a3o (dot c (vec d) (vec r)))<=hq (dot c (vec d) (vec r)):=by
   unfold a3o;split
   ·exact Nat.le_of_eq (a3j _)
   ·exact Nat.le_refl _
  omega
 have o:=a5c (n:=8) a (by rw[a1X];omega) _ (Nat.le_refl _);have p:=a5c (n:=8) (l:=(a3X (a2l x c d)).take m) (fun q b=>a q (a9Y.1 (List.mem_of_mem_take b))) (by rw[List.length_take,a9X,a1X];omega) _ (Nat.le_refl _);have y:=hq_div (a7Y (a2l x c d) m) (a1K (a2l x c d));have v:hq (a1K (a2l x c d))<=1600032113:=o;have w:hq (a7Y (a2l x c d) m)<=1600032113:=by rw[<-b2w];exact p
 unfold a1g;omega
def shL(x:Mat)(c:Nat)(done:List (List Rat)):List Rat:=(List.range (x.length+1)).map fun m=>(done.map fun d=>a1g x c d m).foldl a4H 0
theorem b6F(x:Mat)(c:Nat)(done:List (List Rat)):(shL x c done).length=x.length+1:=by simp[shL]
theorem b6G(x:Mat)(c:Nat):shL x c []=List.replicate (x.length+1) 0:=by
 refine List.ext_getElem (by simp[shL]) fun m a b=>?_;simp[shL]
theorem b7N{x:Mat}{c K:Nat}{done:List (List Rat)}(h:∀d∈done,∀m,hq (a1g x c d m)<=K)(f:1<=K):BR K (shL x c done):=fun q a=>by
 obtain⟨m,_,rfl⟩:=List.mem_map.1 a;rcases(a7u (done.map fun d=>a1g x c d m) 0).2.2 with e|e
 ·rw[e,a1r];exact f
 ·obtain⟨d,hd,b⟩:=List.mem_map.1 e
  rw[<-b];exact h d hd m
theorem b4o(x:Mat)(c:Nat)(done:List (List Rat))(d:List Rat):a6i x c d (shL x c done) x.length=shL x c (done++[d]):=by
 refine List.ext_getElem (by simp[a6i,shL]) fun m i f=>?_;have g:m<x.length+1:=by simpa[shL]using f
 have e:(shL x c done).getD m 0=(done.map fun d=>a1g x c d m).foldl a4H 0:=by simp[shL,List.getD_eq_getElem?_getD,g]
 simp only[a6i,List.getElem_map,List.getElem_range];rw[e];simp only[shL,List.getElem_map,List.getElem_range,List.map_append,List.map_singleton,List.foldl_append,List.foldl_cons,List.foldl_nil];by_cases b:m=0
 ·subst b
  rw[if_neg (by omega),a4F];have hz:(done.map fun d=>a1g x c d 0).foldl a4H 0=0:=by
   rcases(a7u (done.map fun d=>a1g x c d 0) 0).2.2 with e|e
   ·exact e
   ·obtain⟨h,_,a⟩:=List.mem_map.1 e
    rw[<-a,a4F]
  rw[hz];decide+kernel
 ·rw[if_pos ⟨by omega,by omega⟩]
theorem b6H(x:Mat)(c:Nat):shL x c (a0R x c)=(List.range (x.length+1)).map fun m=>a0x x c m:=rfl
noncomputable def shE(x:Mat)(m:Int):Int:=if a2F x=false then 6 else if m<0\/(x.length:Int)<m then 1 else if(a1C x (a0n x)).2.length=a0n x then 0 else 7
end Go.Lin
namespace Go.Proofs.YtnnpfhoigmegcaaGreat
open Go.RowKit Go.Rep Go.Lim Go.Lin
theorem b8G(X:Nat->Bool)(w:World)(a k:Int)(u:HX X w)(o: -100000<=a)(p:a<=100000)(q: -100000<=k)(r:k<=100000):Calls Tryz.prog 105 #[.int .i64 a, .int .i64 k] w (a1F X w QC ((a:Rat)/(k:Rat))):=by
 obtain⟨W,O,t,i,hz⟩:=a0Q w #[.bool false, .slice none 0 0, .slice none 0 0] 41;have c:HX (a0e X w.heap.size 1) W:=u.boxes hz;obtain⟨b,v⟩:∃b,w.heap.size=b:=⟨_,rfl⟩;have x:w.heap.size<=b:=by omega
 rw[v]at i hz c;have y:Hid (hq (a:Rat)<=68719476736):=hid (Nat.le_trans (a5l a 1 (lgI o p) (Nat.le_refl _)) (by decide));have z:Hid (hq (k:Rat)<=68719476736):=hid (Nat.le_trans (a5l k 1 (lgI q r) (Nat.le_refl _)) (by decide));go_enter Tryz.func105,Tryz.ntmps105
 go_wp2_with (first|(go_at_call 150;(with_reducible refine(b3w (a0e X b 1) W a c (by omega) (by omega)).mono ?_);rintro j w1 ⟨g,u1,rfl,d⟩;obtain⟨V,C,S,F,I,P,L,rfl⟩:=d.shape)|(go_at_call 150;(with_reducible refine(b3w (a0e X b 1) w1 k (c.ext g) (by omega) (by omega)).mono ?_);rintro j B ⟨h,u2,rfl,e⟩;obtain⟨Y,D,T,G,J,Q,M,rfl⟩:=e.shape)|(go_at_call 152;(with_reducible refine(b7B (a0e X b 1) B _ _ _ _ ((c.ext g).ext h) ((mkx QC.mono d h).qv y.out) (e.qv z.out)).mono ?_);rintro j w3 ⟨m,u3,rfl,f⟩;obtain⟨Z,E,U,H,K,R,N,rfl⟩:=f.shape;have n:=i.ext0 (g.trans (h.trans m)))|((with_reducible show wpList _ _ _ (⟨_, .store 41 _ _,_,_,_,_⟩::_) _ _);refine a0a a0k rfl rfl n rfl rfl (a1n _ _ _ _ _ _ _) ?_;intro w7 A l))
 have s:=QC.mono _ _ _ _ a0h (QC.mono _ _ _ _ (a0f l (by omega) (by omega)) f);exact bodyPost_ret (a0d rfl rfl a0k A rfl) rfl ⟨ExtX.box (t.trans (g.trans (h.trans m))) l (by omega),_,rfl,s⟩
theorem b2F(X:Nat->Bool)(w:World)(u:Value)(x:List (List Rat))(B:Nat)(hX:HX X w)(hu:MV (mk X w) u x)(hd:a2F x=true)(J:x.length<=8)(hB:BM B x)(U:1<=B)(o:B<=1000):Calls Tryz.prog 106 #[u] w (fun e w'=>Ext w w'/\∃oo oc,e= .returned (.slice oo (x.length+1) oc)/\x.length+1<=oc/\Sl QC 3 (mk X w') oo ((List.range (x.length+1)).map fun m=>a0x x (a0n x) m)):=by
 have d2:∀(fn:Fn) (first S:Array Value) (w:World),(Instr.makeFunc fn first S).run Tryz.prog w= .ok (.func fn first S) w:=fun _ _ _ _=>rfl;obtain⟨O,h1,T,I,p⟩:=a3f hd;obtain⟨ao,v,rfl,a1,a6⟩:=hu;obtain⟨c,hc⟩:∃c,a0n x=c:=⟨_,rfl⟩;obtain⟨n,hn⟩:∃n,x.length=n:=⟨_,rfl⟩;have r:=hid hn;rw[hn]at O h1 T J a1 |-;rw[hc]at O I p |-;obtain⟨W,hW,hE,b0,hz⟩:=a0Q w #[.slice ao n v] 25;have c3:=a6.mono RV.mono (a0l hE);have c0:HX X W:=hX.ext hE;have c4:MV (mk X W) (.slice ao n v) x:=⟨ao,v,by rw[hn],by rw[hn];exact a1,c3⟩;obtain⟨b,hb⟩:∃b,w.heap.size=b:=⟨_,rfl⟩;rw[hb]at b0 hz;have k0:W.cell? ⟨b,0,none⟩=some (.slice ao n v):=b0.cell 0 rfl;have d0:IntKind.i64.wrap ((n:Int)+1)=((n+1:Nat):Int):=by rw[IntWalk.i64_in _ (by omega)];omega
 clear a6 hc hd;go_enter Tryz.func106,Tryz.ntmps106
 go_wp2_with ((with_reducible show wpList _ _ _ (⟨_, .makeSlice _ _ _,_,_,_,_⟩::_) _ _);refine a1G (R:=QC) a0J QC.elem (0:Rat) (fun _=>QC.zero _) X c0 W.heap.size (Nat.le_refl _) (n+1) rfl rfl rfl (by omega) (by omega) ?_;intro oo w2 G F;obtain⟨w3,M,t3,b3,t⟩:=a0Q w2 #[.slice oo (n+1) (n+1)] 26;have k3:(w2.alloc (.cells #[.slice oo (n+1) (n+1)] 26)).cell? ⟨b,0,none⟩=some (.slice ao n v):=by{rw[M];exact(F.trans t3).cell k0};have b1:=hid M;clear M)
 rw[b1.out];obtain⟨a,H⟩:∃a,w2.heap.size=a:=⟨_,rfl⟩;rw[H]at b3 t
 (try rw[H])
 obtain⟨nb,a3⟩:∃nb,nb=if c=1 then 2 else 8:=⟨_,rfl⟩
 have c7:2<=nb:=by rw[a3];split<;>decide
 have y:Ext W w3:=F.trans t3;have i:=hid fun k (h:ob oo k=true)=>(by have:=G.block h;rw[H]at this;exact this:W.heap.size<=k/\k<a);have d1:b<W.heap.size:=b0.lt;have c6:W.heap.size<=a:=by have:=F.size;omega
 have C:ob oo b=false:=by
  cases h:ob oo b
  ·rfl
  ·have:=i.out b h;omega
 have D:ob oo a=false:=by
  cases h:ob oo a
  ·rfl
  ·have:=i.out a h;omega
 have P:=b0.ext0 y;have b2:∀k,X k=true->k<w.heap.size:=hX;have c8:w.heap.size<=W.heap.size:=hE.size;have z:∀k,(X k||a2R (a+1) nb k)=true↔X k=true\/(a+1<=k/\k<a+1+nb):=fun k=>by
  simp only[Bool.or_eq_true,a0V]
 have j:∀k,un (fun k=>X k||a2R (a+1) nb k) oo k=true↔X k=true\/(a+1<=k/\k<a+1+nb)\/ob oo k=true:=fun k=>by
  simp only[un,Bool.or_eq_true,a0V,or_assoc]
 have s:∀k,(ob oo k||a2R (a+1) nb k)=true↔ob oo k=true\/(a+1<=k/\k<a+1+nb):=fun k=>by
  simp only[Bool.or_eq_true,a0V]
 have N:MV (mk (un (fun k=>X k||a2R (a+1) nb k) oo) w3) (.slice ao n v) x:=MV.mono _ _ _ _ (a0T y (fun k _ f=>by simp[noY]at f) fun k f hz=>by
  rcases(j k).1 hz with h|h|h
  ·exact h
  ·omega
  ·have:=i.out k h;omega) c4
 have V:OL QC 3 (fun k=>X k||a2R (a+1) nb k) W.heap.size 41 w3 oo (n+1) (shL x c []):=by
  rw[b6G,r.out];exact G.ext QC.elem t3 (fun k _ f=>by simp[noY]at f) fun k f hz=>by
   rcases(z k).1 hz with h|h
   ·exact h
   ·omega
 have E:=b7E 184 #[.pointer (some ⟨b,0,none⟩), .pointer (some ⟨a,0,none⟩)]
  (fun done W'=>ExtX (fun k=>ob oo k||a2R (a+1) nb k) w3 W'/\Bx W' b #[.slice ao n v] 25/\Bx W' a #[.slice oo (n+1) (n+1)] 26/\OL QC 3 (fun k=>X k||a2R (a+1) nb k) W.heap.size 41 W' oo (n+1) (shL x c done))
  (un (fun k=>X k||a2R (a+1) nb k) oo) w3 (.slice ao n v) x n c B nb a3 (fun _ _=>rfl)
  (fun k f=>by
   rcases(j k).1 f with h|h|h
   ·have:=b2 k h;have:=y.size;omega
   ·omega
   ·have:=i.out k h;omega)
  (fun k f=>by rw[t]at f;exact(j k).2 (Or.inr (Or.inl (a0V.1 f)))) N O h1 T I p hB U o
  (fun done W' hi=>hi.1.weaken fun k _ f=>by
   cases h:(ob oo k||a2R (a+1) nb k)
   ·rfl
   ·rcases(s k).1 h with l|l
    ·rw[(j k).2 (Or.inr (Or.inr l))]at f;exact absurd f (by decide)
    ·rw[(j k).2 (Or.inr (Or.inl l))]at f;exact absurd f (by decide))
  (fun done W' b5 hi g=>by
   rw[t]at g;have a4:∀k,k<=a->a2R (a+1) nb k=false:=fun k f=>by
    cases h:a2R (a+1) nb k
    ·rfl
    ·have:=a0V.1 h;omega
   exact⟨hi.1.trans (g.weaken fun k _ f=>by
    cases h:a2R (a+1) nb k
    ·rfl
    ·rw[(s k).2 (Or.inr (a0V.1 h))]at f;exact absurd f (by decide)),hi.2.1.ext g (a4 _ (by omega)),hi.2.2.1.ext g (a4 _ (Nat.le_refl _)),hi.2.2.2.ext QC.elem g (fun k _ f=>(z k).2 (Or.inr (a0V.1 f))) (fun _ _ h=>h)⟩)
  (fun done d W' vd hi a5 c5 c1 a9=>by
   obtain⟨c9,L⟩:=a5;have A:∀q∈done++[d],q∈a0R x c:=fun q hq=>by rw[<-L];exact List.mem_append_left _ hq
   have a2:∀q∈a0R x c,BR 42875000 q:=fun e he q hq=>by
    have:=(a2B O r.out I p (a5Y hB U) o he).2 q hq;have l:=Nat.mul_le_mul_left 42875 o;omega
   rw[t]at a9;have b9:HX (fun k=>X k||a2R (a+1) nb k) W':=fun k f=>by
    rcases(z k).1 f with h|h
    ·have:=b2 k h;omega
    ·omega
   have b4:MV (mk (un (fun k=>X k||a2R (a+1) nb k) oo) W') (.slice ao n v) x:=MV.mono _ _ _ _ (a0r hi.1 fun k f=>by
    rcases(s k).1 f with l|l
    ·exact(j k).2 (Or.inr (Or.inr l))
    ·exact(j k).2 (Or.inr (Or.inl l))) N
   have c2:BR 4000000000 (shL x c done):=fun q hq=>Nat.le_trans (b7N (K:=3300000000) (fun e he m=>a5e O J p hB o (a2 e (A e (List.mem_append_left _ he))) m) (by decide) q hq) (by decide);refine(b4m _ W' vd d x n c B b a W.heap.size ao v oo (n+1) (shL x c done) b9 b4 c5 c1 O J p hB o (a2 d (A d (by simp))) hi.2.1 hi.2.2.1 hi.2.2.2 (by omega) (by rw[b6F,r.out]) c2 C D).mono ?_;rintro e b5 ⟨rfl,g,a0⟩;have a8:=b4o x c done d;rw[r.out]at a8;rw[a8]at a0;refine⟨rfl,⟨hi.1.trans (g.weaken fun k _ f=>?_),hi.2.1.ext g C,hi.2.2.1.ext g D,a0⟩,?_⟩
   ·cases h:ob oo k
    ·rfl
    ·rw[(s k).2 (Or.inl h)]at f;exact absurd f (by decide)
   ·rw[t]
    exact a9c.of g (fun k f=>by
     have:=i.out k f;cases h:a2R (a+1) nb k
     ·rfl
     ·have:=a0V.1 h;omega) a9)
  ⟨ExtX.refl _,P,b3,V⟩
 clear G P b3 N V;refine E.mono ?_;rintro ee w4 ⟨rfl,b7,b6,Q,Y⟩;have ko:w4.cell? ⟨a,0,none⟩=some (.slice oo (n+1) (n+1)):=Q.cell 0 rfl;have b8:Ext w w4:=(hE.trans y).then_ b7 fun k f _=>by
  cases h:(ob oo k||a2R (a+1) nb k)
  ·rfl
  ·rcases(s k).1 h with l|l
   ·have:=i.out k l;omega
   ·omega
 have a7:=(Y.sl QC.elem).mono QC.mono (a1N (X:=X) (Z:=fun k=>X k||a2R (a+1) nb k) (w:=w4) fun k _ f=>(z k).2 (Or.inl f));rw[b6H,r.out]at a7;clear E b6 Q Y k3;go_wp2_with fail
 go_ret
 exact⟨b8,oo,n+1,rfl,Nat.le_refl _,a7⟩
def a6O(X:Nat->Bool)(w:World)(er:Int)(q:Rat)(e:Ending)(w':World):Prop:=Ext w w'/\∃u,e= .returned (.tuple #[u, .int .i64 er])/\QC (mk X w') u (if er=0 then q else 0)
theorem b4Y(X:Nat->Bool)(w:World)(u:Value)(x:List (List Rat))(m:Int)(B:Nat)(hX:HX X w)(hu:MV (mk X w) u x)(J:x.length<=8)(S:BM B x)(H:1<=B)(s:B<=1000):Calls Tryz.prog 38 #[u, .int .i64 m] w (a6O X w (shE x m) (a0x x (a0n x) m.toNat)):=by
 obtain⟨W,hW,M,L,hz⟩:=a0Q w #[.bool false, .slice none 0 0, .slice none 0 0] 41;have C:HX (a0e X w.heap.size 1) W:=hX.boxes hz;have D:=MV.mono _ _ _ _ (a0i (nb:=1) M) hu;obtain⟨b,hb⟩:∃b,w.heap.size=b:=⟨_,rfl⟩;have a3:w.heap.size<=b:=by omega
 rw[hb]at L hz C D;obtain⟨ao,ca,rfl,V,y⟩:=hu;have a:=b2i (a0e X b 1) W _ x D (by omega);have i:=hid fun(hd:a2F x=true)=>b7D (a0e X b 1) W _ x B C D hd S H s;have j:=hid fun(hd:a2F x=true) w1 (h:Ext W w1)=>b2F (a0e X b 1) w1 _ x B (C.ext h) (mkx MV.mono D h) hd J S H s;have p:=hid fun(hd:a2F x=true) m'=>(by
  obtain⟨hs,h1,a2,U,O⟩:=a3f hd;rcases(a7u ((a0R x (a0n x)).map fun d=>a1g x (a0n x) d m') 0).2.2 with e|e
  ·unfold a0x;rw[e,a1r];decide
  ·obtain⟨d,Y,e2⟩:=List.mem_map.1 e
   have Z:BR 42875000 d:=fun q hq=>by
    have:=(a2B hs rfl U O (a5Y S H) s Y).2 q hq;have h2:=Nat.mul_le_mul_left 42875 s;omega
   have:=a5e hs J O S s Z m';unfold a0x;rw[<-e2];exact Nat.le_trans this (by decide):hq (a0x x (a0n x) m')<=68719476736)
 obtain⟨n,z⟩:∃n,x.length=n:=⟨_,rfl⟩;have a4:=hid z;rw[z]at V J j a i |-;have g:=hid fun(er:Int) (w':World) (he:Ext W w') (a1:¬er=0)=>(⟨he,a1⟩:Ext W w'/\¬er=0);by_cases hd:a2F x=true
 ·rw[hd]at a
  have o:=i.out hd;have v:=hid (j.out hd);have t:=hid (p.out hd);by_cases G:m<0\/(n:Int)<m
  ·have r:shE x m=1:=by unfold shE;rw[hd,if_neg (by decide),z,if_pos G]
   rw[r];rcases G with G|G
   ·have t1:decide (m<0)=true:=decide_eq_true G
    clear r y z i j p v t o g;go_enter Tryz.func38,Tryz.ntmps38
    go_wp2_with (first|(go_at_call 107;refine a.mono ?_;rintro F w1 ⟨f,rfl⟩;obtain rfl:=f.symm)|((with_reducible show wpList _ _ _ (⟨_, .store 41 _ _,_,_,_,_⟩::_) _ _);refine a0a a0k rfl rfl L rfl rfl (a1n _ _ _ _ _ _ _) ?_;intro R E A))
    exact bodyPost_ret (a0D rfl rfl a0k E rfl) rfl ⟨ExtX.box M A (by omega),_,rfl,QC.zero _⟩
   ·have t1:decide (m<0)=false:=decide_eq_false (by omega)
    have t2:decide ((n:Int)<m)=true:=decide_eq_true G;clear r y z i j p v t o g;go_enter Tryz.func38,Tryz.ntmps38
    go_wp2_with (first|(go_at_call 107;refine a.mono ?_;rintro F w1 ⟨f,rfl⟩;obtain rfl:=f.symm)|((with_reducible show wpList _ _ _ (⟨_, .store 41 _ _,_,_,_,_⟩::_) _ _);refine a0a a0k rfl rfl L rfl rfl (a1n _ _ _ _ _ _ _) ?_;intro R E A))
    exact bodyPost_ret (a0D rfl rfl a0k E rfl) rfl ⟨ExtX.box M A (by omega),_,rfl,QC.zero _⟩
  ·have t1:decide (m<0)=false:=decide_eq_false (by omega)
   have t2:decide ((n:Int)<m)=false:=decide_eq_false (by omega);by_cases N:(a1C x (a0n x)).2.length=a0n x
   ·have r:shE x m=0:=by unfold shE;rw[hd,if_neg (by decide),z,if_neg G,if_pos N]
    rw[r];rw[decide_eq_true N]at o;obtain⟨k,rfl⟩:=Int.eq_ofNat_of_zero_le (show 0<=m by omega);rw[show((k:Nat):Int).toNat=k from rfl];obtain⟨c,hc⟩:∃c,a0n x=c:=⟨_,rfl⟩;rw[hc]at v t |-;clear r y z i j p g N hd hc;go_enter Tryz.func38,Tryz.ntmps38
    go_wp2_with (first|(go_at_call 107;refine a.mono ?_;rintro F w1 ⟨f,rfl⟩;obtain rfl:=f.symm)|(go_at_call 108;refine o.mono ?_;rintro F w2 ⟨l,rfl⟩)|(go_at_call 106;refine(v.out w2 l).mono ?_;rintro F R ⟨t3,oo,oc,rfl,a5,P⟩;have a7:Hd oo (n+1):=(by have:=P.hd;simpa using this);have a0:k<((List.range (n+1)).map fun m=>a0x x c m).length:=(by simp;omega))|(with_reducible refine a1D a0J (by omega) (by assumption) ?_)|((with_reducible show wpList _ _ _ (⟨_, .load 41 _,_,_,_,_⟩::_) _ _);refine a0W a0k k P a0 rfl (by simp) QC.agg ?_;intro u5 K;rw[List.getElem_map,List.getElem_range]at K;obtain⟨sv,av,nv,cv,dv,kv,ev,rfl⟩:=K.shape)|(go_at_call 109;(with_reducible refine(b7A (a0e X b 1) R _ _ (C.ext (l.trans t3)) (K.qv (t.out k))).mono ?_);rintro F w4 ⟨t4,u6,rfl,Q⟩;obtain⟨s6,a6,n6,c6,d6,k6,e6,rfl⟩:=Q.shape;have T:=L.ext0 (l.trans (t3.trans t4)))|((with_reducible show wpList _ _ _ (⟨_, .store 41 _ _,_,_,_,_⟩::_) _ _);refine a0a a0k rfl rfl T rfl rfl (a1n _ _ _ _ _ _ _) ?_;intro w5 E A))
    have h7:=QC.mono _ _ _ _ a0h (QC.mono _ _ _ _ (a0f A (by omega) (by omega)) Q);exact bodyPost_ret (a0D rfl rfl a0k E rfl) rfl ⟨ExtX.box (M.trans (l.trans (t3.trans t4))) A (by omega),_,rfl,by rw[if_pos rfl];exact h7⟩
   ·have r:shE x m=7:=by unfold shE;rw[hd,if_neg (by decide),z,if_neg G,if_neg N]
    rw[r];rw[decide_eq_false N]at o;clear r y z i j p v t g N hd;go_enter Tryz.func38,Tryz.ntmps38
    go_wp2_with (first|(go_at_call 107;refine a.mono ?_;rintro F w1 ⟨f,rfl⟩;obtain rfl:=f.symm)|(go_at_call 108;refine o.mono ?_;rintro F w2 ⟨l,rfl⟩;have T:=L.ext0 l)|((with_reducible show wpList _ _ _ (⟨_, .store 41 _ _,_,_,_,_⟩::_) _ _);refine a0a a0k rfl rfl T rfl rfl (a1n _ _ _ _ _ _ _) ?_;intro R E A))
    exact bodyPost_ret (a0D rfl rfl a0k E rfl) rfl ⟨ExtX.box (M.trans l) A (by omega),_,rfl,QC.zero _⟩
 ·have I:a2F x=false:=by cases h:a2F x<;>simp_all
  have r:shE x m=6:=by unfold shE;rw[I,if_pos rfl]
  rw[r];rw[I]at a;clear r y z i j p g hd I;go_enter Tryz.func38,Tryz.ntmps38
  go_wp2_with (first|(go_at_call 107;refine a.mono ?_;rintro F w1 ⟨f,rfl⟩;obtain rfl:=f.symm)|((with_reducible show wpList _ _ _ (⟨_, .store 41 _ _,_,_,_,_⟩::_) _ _);refine a0a a0k rfl rfl L rfl rfl (a1n _ _ _ _ _ _ _) ?_;intro R E A))
  exact bodyPost_ret (a0D rfl rfl a0k E rfl) rfl ⟨ExtX.box M A (by omega),_,rfl,QC.zero _⟩
end Go.Proofs.YtnnpfhoigmegcaaGreat
namespace Go.Lin
open Go.Lim Go.Rep
def a3Y(x:Mat)(c m:Nat):Prop:=m<=x.length/\¬a0x x c m<((1:Int):Rat)/((2:Int):Rat)/\∀j,j<m->a0x x c j<((1:Int):Rat)/((2:Int):Rat)
theorem a3Y.uniq{x:Mat}{c m k:Nat}(h:a3Y x c m)(b:a3Y x c k):m=k:=by
 rcases Nat.lt_trichotomy m k with a|a|a
 ·exact absurd (b.2.2 m a) h.2.1
 ·exact a
 ·exact absurd (h.2.2 k a) b.2.1
theorem a6P{n c:Nat}{x:Mat}(a:Shp n c x)(b:1<=c)(d:a8w x c):¬a0x x c n<((1:Int):Rat)/((2:Int):Rat):=by
 have h:=b2E a b d;rw[a.1]at h;rw[h];decide+kernel
end Go.Lin
namespace Go.Proofs.YtnnpfhoigmegcaaGreat
open Go.RowKit Go.Rep Go.Lim Go.Lin
def a9i(w:World)(x:Mat)(er:Int)(e:Ending)(w':World):Prop:=Ext w w'/\∃m:Nat,e= .returned (.tuple #[.int .i64 (m:Int), .int .i64 er])/\(er=0->a3Y x (a0n x) m)/\(er≠0->m=0)
theorem b7O(X:Nat->Bool)(w:World)(u:Value)(x:List (List Rat))(B:Nat)(hX:HX X w)(hu:MV (mk X w) u x)(hn8:x.length<=8)(hB:BM B x)(hB1:1<=B)(hBB:B<=1000):Calls Tryz.prog 36 #[u] w (a9i w x (shE x 0)):=by
 have hsh:=b4Y X w u x 0 B hX hu hn8 hB hB1 hBB;unfold a6O at hsh;by_cases h0:shE x 0=0
 ·have hd:a2F x=true:=by
   cases h:a2F x
   ·unfold shE at h0;rw[h,if_pos rfl]at h0;exact absurd h0 (by decide)
   ·rfl
  obtain⟨hs,h1,h64,hc1,hc4⟩:=a3f hd;have hr:(a1C x (a0n x)).2.length=a0n x:=by
   apply Classical.byContradiction;intro hr;unfold shE at h0;rw[hd,if_neg (by decide),if_neg (by omega),if_neg hr]at h0;exact absurd h0 (by decide)
  have hfull:=b1e hs (by omega);have hhalf:=hid (a6P hs hc1 hfull);have hls:=hid fun w1 (h:Ext w w1)=>b2F X w1 u x B (hX.ext h) (mkx MV.mono hu h) hd hn8 hB hB1 hBB;have hsb:=hid fun m'=>(by
   rcases(a7u ((a0R x (a0n x)).map fun d=>a1g x (a0n x) d m') 0).2.2 with e|e
   ·unfold a0x;rw[e,a1r];decide
   ·obtain⟨d,hd',e2⟩:=List.mem_map.1 e
    have hdB:BR 42875000 d:=fun q hq=>by
     have:=(a2B hs rfl hc1 hc4 (a5Y hB hB1) hBB hd').2 q hq;have h2:=Nat.mul_le_mul_left 42875 hBB;omega
    have:=a5e hs hn8 hc4 hB hBB hdB m';unfold a0x;rw[<-e2];exact Nat.le_trans this (by decide):hq (a0x x (a0n x) m')<=68719476736)
  rw[h0]at hsh |-;obtain⟨c,hc⟩:∃c,a0n x=c:=⟨_,rfl⟩;obtain⟨n,hn⟩:∃n,x.length=n:=⟨_,rfl⟩;have hc':=hid hc;rw[hc]at hsh hhalf hls hsb;rw[hn]at hhalf hls hn8;have hn':=hid hn;have hresp:Hid (∀m,m<=n->¬a0x x c m<((1:Int):Rat)/((2:Int):Rat)->(∀j,j<m->a0x x c j<((1:Int):Rat)/((2:Int):Rat))->a3Y x c m):=hid fun m a b d=>⟨by rw[hn];exact a,b,d⟩;have hov:=hid fun w1 (h:Ext w w1)=>b8G X w1 1 2 (hX.ext h) (by decide) (by decide) (by decide) (by decide);obtain⟨hf,hhf⟩:∃q,((1:Int):Rat)/((2:Int):Rat)=q:=⟨_,rfl⟩;have hhq:Hid (hq hf<=68719476736):=hid (by rw[<-hhf];decide+kernel);rw[hhf]at hhalf hov hresp;clear hr hfull hd hs h0 hhf hn hc hu hB;go_enter Tryz.func36,Tryz.ntmps36
  go_wp2_with (first
   |(go_at_call 38;refine hsh.mono ?_;rintro ee w1 ⟨t1,u1,rfl,hu1⟩;obtain⟨s1,a1,n1,c1,d1,k1,e1,rfl⟩:=hu1.shape;have bx:=Bx.new w1 #[.bool false, .slice none 0 0, .slice none 0 0] 41)
   |((with_reducible show wpList _ _ _ (⟨_, .store 41 _ _,_,_,_,_⟩::_) _ _);refine a0a a0k rfl rfl bx rfl rfl (a1n _ _ _ _ _ _ _) ?_;intro w2 r1 r2;have hE2:Ext w1 w2:=ExtX.box ((ExtX.refl w1).alloc _) r2 (Nat.le_refl _);have t2:=t1.trans hE2;clear bx r1 r2)
   |(go_at_call 105;refine(hov.out w2 t2).mono ?_;rintro ee w3 ⟨t3,u3,rfl,hu3⟩;obtain⟨s3,a3,n3,c3,d3,k3,e3,rfl⟩:=hu3.shape;have bx:=Bx.new w3 #[.bool false, .slice none 0 0, .slice none 0 0] 41)
   |((with_reducible show wpList _ _ _ (⟨_, .store 41 _ _,_,_,_,_⟩::_) _ _);refine a0a a0k rfl rfl bx rfl rfl (a1n _ _ _ _ _ _ _) ?_;intro w4 r3 r4;have hE4:Ext w3 w4:=ExtX.box ((ExtX.refl w3).alloc _) r4 (Nat.le_refl _);have t4:=t2.trans (t3.trans hE4);clear bx r4)
   |(go_at_call 106;refine(hls.out w4 t4).mono ?_;rintro ee w5 ⟨t5,oo,oc,rfl,hoc,hsl⟩))
  have t45:=t4.trans t5;obtain⟨bh,hbh⟩:∃bh,w3.heap.size=bh:=⟨_,rfl⟩;rw[hbh]at r3
  (try rw[hbh])
  have r5:=r3.ext0 t5;have hh5:=mkx QC.mono hu3 (hE4.trans t5);have hX5:=hX.ext t45;have hoh:Hd oo (n+1):=by have:=hsl.hd;simpa using this
  clear hsh hls hov t1 t2 t3 t4 t5 hE2 hE4 r3 hu1 hu3 hbh;go_loopw [8] (fun cc wr=>∃m:Nat,cc= .int .i64 m/\m<=n/\Hid (∀j,j<m->a0x x c j<hf)/\Ext w5 wr) (fun cc _=>n - (intOf cc).toNat)
  case atStart=>exact⟨0,rfl,Nat.zero_le _,hid (fun j hj=>absurd hj (Nat.not_lt_zero _)),ExtX.refl _⟩
  case round=>
   obtain⟨m,rfl,hm,hlow,hE⟩:=hrel;have hml:m<((List.range (n+1)).map fun m=>a0x x c m).length:=by simp;omega
   obtain⟨g1,o1,s1,a1,n1,c1,d1,k1,e1,hg1,hy1,hc1,hq1⟩:=(hsl.mono QC.mono (a0l hE)).rat QC.shaped m hml;rw[List.getElem_map,List.getElem_range]at hq1;have i1:∀W,(Instr.indexAt 26 (.slice oo (n+1) oc) (.int .i64 (m:Int))).run Tryz.prog W= .ok (.pointer (some ⟨g1,o1,none⟩)) W:=by
    rw[<-hg1];exact a0j a0J oo (n+1) oc .i64 m hoh (by omega)
   have hEd:Ext wr wr.drew:=(ExtX.refl wr).drew;have r5r:=r5.ext0 (hE.trans hEd);have hwS:wr.drew.cell? ⟨g1,o1,none⟩=some (.bool s1)/\wr.drew.cell? ⟨g1,o1+1,none⟩=some (.slice a1 n1 c1)/\wr.drew.cell? ⟨g1,o1+2,none⟩=some (.slice d1 k1 e1)/\wr.drew.cell? ⟨bh,0,none⟩=some (.bool s3)/\wr.drew.cell? ⟨bh,1,none⟩=some (.slice a3 n3 c3)/\wr.drew.cell? ⟨bh,2,none⟩=some (.slice d3 k3 e3):=by
    have z:=hc1.out noY wr.drew hEd rfl;exact⟨z.1,z.2.1,z.2.2,r5r.cell 0 rfl,r5r.cell 1 rfl,r5r.cell 2 rfl⟩
   have hle6:=b6p X wr.drew _ _ (a0x x c m) hf (hX5.ext (hE.trans hEd)) ((mkx QC.mono hq1 hEd).qv (hsb.out m)) ((mkx QC.mono hh5 (hE.trans hEd)).qv hhq.out);rw[show decide (b1A (a0x x c m) hf<0)=ltQ (a0x x c m) hf from rfl]at hle6;have hlt1:=hid fun(h:ltQ (a0x x c m) hf=true)=>(a2s.1 h:a0x x c m<hf);have hlt2:=hid fun(h:ltQ (a0x x c m) hf=false)=>(show¬a0x x c m<hf from fun h2=>by rw[a2s.2 h2]at h;exact absurd h (by decide));obtain⟨bb,hbb⟩:∃bb,ltQ (a0x x c m) hf=bb:=⟨_,rfl⟩;rw[hbb]at hle6 hlt1 hlt2;clear hc1 hq1 hg1 hy1 hbb r5r;go_upto_region 7 with fail
   (try simp only[Act.put])
   refine a0K 5 (fun w'=>w'.cell? ⟨g1,o1,none⟩=some (.bool s1)/\w'.cell? ⟨g1,o1+1,none⟩=some (.slice a1 n1 c1)/\w'.cell? ⟨g1,o1+2,none⟩=some (.slice d1 k1 e1)/\w'.cell? ⟨bh,0,none⟩=some (.bool s3)/\w'.cell? ⟨bh,1,none⟩=some (.slice a3 n3 c3)/\w'.cell? ⟨bh,2,none⟩=some (.slice d3 k3 e3)) (by kernel_rfl) (by kernel_rfl) hwS (fun hHeld hOnce=>?_);refine kt 0 hOnce ?_;refine kt 1 hOnce ?_;refine kt 2 hOnce ?_;refine kt 3 hOnce ?_;refine kt 4 hOnce ?_;refine kl 5 (fun K hK=>?_);go_simp
   (with_reducible refine hle6.mono ?_)
   rintro ee w6 ⟨g6,rfl⟩;refine hK.out _ _ ?_;clear hK K
   (try simp only[Act.put])
   have hE6:=hE.trans (hEd.trans g6);clear hHeld hwS hOnce i1 hle6;cases bb with
   |true=>
    have hl1:=hlt1.out rfl;have hmn:m<n:=by
     rcases Nat.lt_or_ge m n with h|h
     ·exact h
     ·have:m=n:=by omega
      subst this;exact absurd hl1 hhalf.out
    have hlow2:Hid (∀j,j<m+1->a0x x c j<hf):=hid fun j hj=>by
     rcases Nat.lt_or_ge j m with h|h
     ·exact hlow.out j h
     ·have:j=m:=by omega
      rw[this];exact hl1
    clear hl1;go_wp2_with fail
    go_roundw
    case rel=>exact⟨m+1,by go_num,by omega,hlow2,hE6⟩
    case measure=>simp[intOf];omega
   |false=>
    have hR':Hid (a3Y x c m):=hid (hresp.out m hm (hlt2.out rfl) hlow.out);go_wp2_with fail
    go_ret2
    exact⟨t45.trans hE6,m,rfl,fun _=>by rw[hc'.out];exact hR'.out,fun h=>absurd rfl h⟩
 ·obtain⟨er,her⟩:∃er,shE x 0=er:=⟨_,rfl⟩
  rw[her]at hsh h0 |-;have hne:(er !=(0:Int))=true:=a7B h0;clear her hu hB hX;go_enter Tryz.func36,Tryz.ntmps36
  go_wp2_with (first|(go_at_call 38;refine hsh.mono ?_;rintro ee w1 ⟨t1,u1,rfl,hu1⟩;obtain⟨s1,a1,n1,c1,d1,k1,e1,rfl⟩:=hu1.shape;have bx:=Bx.new w1 #[.bool false, .slice none 0 0, .slice none 0 0] 41)|((with_reducible show wpList _ _ _ (⟨_, .store 41 _ _,_,_,_,_⟩::_) _ _);refine a0a a0k rfl rfl bx rfl rfl (a1n _ _ _ _ _ _ _) ?_;intro w2 r1 r2))
  have hE2:Ext w1 w2:=ExtX.box ((ExtX.refl w1).alloc _) r2 (Nat.le_refl _);go_ret2
  exact⟨t1.trans hE2,0,rfl,fun h=>absurd h h0,fun _=>rfl⟩
end Go.Proofs.YtnnpfhoigmegcaaGreat
namespace Go
section
variable {P:Program} {ops:Array Oper} {Q:Exit->Act->World->Prop} {md:Region.Mode} {S:World->Prop} {n:Nat}
def b8e(l:Array Bool):Nat:=l.toList.count false
def b9k{T:Type}[DecidableEq T](md:Region.Mode)(ops:Array Oper)(all:List T)(L:T->Array Bool)(next:T->Nat->Option T)(fin:T->Bool):Bool:=
 all.all fun s=>fin s||(!(Region.ready md ops (L s)).isEmpty&&(Region.ready md ops (L s)).all fun i=>match next s i with
  |some t=>decide (t∈all)&&decide (L t=(L s).setIfInBounds i true)&&decide (b8e (L t)+1=b8e (L s))
  |none=>false)
theorem a3Q{i:Nat}{o:Oper}{K:Act->World->Prop}{a:Act}{w:World}(d:ops[i]? =some o)(h:∀b:Act->World->Prop,Shut (∀a w,K a w->b a w)->if Region.wanted o (yielded ops a.tmps)=true then Oper.wp P o a w b Q else b (a.put o.dst undef) w):wpOp P ops Q i K a w:=wpOp_step d fun b c=>h b c
theorem b0F{T:Type}[DecidableEq T]{I:T->Act->World->Prop}(all:List T)(L:T->Array Bool)(next:T->Nat->Option T)(fin:T->Bool)(hc:b9k md ops all L next fin=true)(hstep:∀s i t a w,s∈all->next s i=some t->I s a w->wpOp P ops Q i (fun a' w'=>S w'/\I t a' w') a w)(hexit:∀s a w,s∈all->fin s=true->I s a w->a1q P md ops Q S n (b8e (L s)) (L s) a w):∀(fuel:Nat) (s:T) (a:Act) (w:World),s∈all->b8e (L s)=fuel->I s a w->a1q P md ops Q S n fuel (L s) a w:=by
 intro fuel
 induction fuel with
 |zero=>
  intro s a w hs hf hI;have h:=List.all_eq_true.1 hc s hs;cases hfin:fin s
  ·rw[hfin,Bool.false_or]at h
   obtain⟨h1,h2⟩:=(Bool.and_eq_true _ _).mp h;cases hr:Region.ready md ops (L s)with
   |nil=>rw[hr]at h1;cases h1
   |cons i r=>
    have h3:=List.all_eq_true.1 h2 i (by rw[hr];exact List.mem_cons_self);cases hn:next s i with
    |none=>rw[hn]at h3;cases h3
    |some t=>
     rw[hn]at h3;obtain⟨_,h5⟩:=(Bool.and_eq_true _ _).mp h3;have:=of_decide_eq_true h5;omega
  ·have:=hexit s a w hs hfin hI
   rwa[hf]at this
 |succ fuel ih=>
  intro s a w hs hf hI;have h:=List.all_eq_true.1 hc s hs;cases hfin:fin s
  ·rw[hfin,Bool.false_or]at h
   obtain⟨h1,h2⟩:=(Bool.and_eq_true _ _).mp h;refine⟨fun h0=>(by rw[h0]at h1;cases h1),fun i hi=>?_⟩;have h3:=List.all_eq_true.1 h2 i hi;cases hn:next s i with
   |none=>rw[hn]at h3;cases h3
   |some t=>
    rw[hn]at h3;obtain⟨h4,h5⟩:=(Bool.and_eq_true _ _).mp h3;obtain⟨h6,h7⟩:=(Bool.and_eq_true _ _).mp h4;have e1:=of_decide_eq_true h5;have e2:=of_decide_eq_true h6;have e3:=of_decide_eq_true h7;refine wpOp_mono (fun a' w' h=>⟨fun _=>h.1,?_⟩) (hstep s i t a w hs hn hI);rw[<-e3];exact ih t a' w' e2 (by omega) h.2
  ·have:=hexit s a w hs hfin hI
   rwa[hf]at this
end
end Go
namespace Go.Lin
open Go.Lim Go.Rep
def P35:Mat:=[[1,0],[1,0],[1,5]]
def O35:Mat:=[[1],[1],[1]]
theorem b7P{B:Nat}{m:Mat}(h:(m.all fun r=>r.all fun q=>decide (Go.Lim.hq q<=B))=true):BM B m:=fun r a q hq=>by
 rw[List.all_eq_true]at h;have:=h r a;rw[List.all_eq_true]at this;simpa using this q hq
theorem b7Q:BM 2 P35:=b7P (by decide+kernel)
theorem b7R:BM 2 O35:=b7P (by decide+kernel)
theorem b7S:a2F P35=true:=by decide+kernel
theorem b8H:a2F O35=true:=by decide+kernel
theorem b4p:(a1C P35 2).2.length=2:=by decide+kernel
theorem b4q:(a1C O35 1).2.length=1:=by decide+kernel
theorem b4r:a0R P35 2= [[0,1],[0,1],[-5,1]]:=by
 unfold a0R;rw[if_neg (by decide)];have h1:a1j ([[1,0]]:Mat) 2= [[0,1]]:=by unfold a1j;decide+kernel
 have h2:a1j ([[1,5]]:Mat) 2= [[-5,1]]:=by unfold a1j;decide+kernel
 have e:a0z P35.length (2 - 1) 0= [[0],[1],[2]]:=by decide
 rw[e];have r0:a4c P35 2 [0]=some [0,1]:=by
  show(match a1j ([[1,0]]:Mat) 2 with| [d]=>some d|_=>none)=_
  rw[h1]
 have r1:a4c P35 2 [1]=some [0,1]:=by
  show(match a1j ([[1,0]]:Mat) 2 with| [d]=>some d|_=>none)=_
  rw[h1]
 have r2:a4c P35 2 [2]=some [-5,1]:=by
  show(match a1j ([[1,5]]:Mat) 2 with| [d]=>some d|_=>none)=_
  rw[h2]
 simp[r0,r1,r2]
theorem a8m:plN P35=2/\plE P35=0:=by
 have a:a0n P35=2:=by decide
 refine⟨?_,by unfold plE;rw[b7S,if_pos rfl]⟩;unfold plN;rw[b7S,if_pos rfl,a];unfold a3u;rw[b4p,if_neg (by decide),b4r];decide+kernel
theorem a6j(m:Nat)(h:m<=3):a0x O35 1 m=((m:Int):Rat)/((3:Int):Rat):=by
 have c:a0R O35 1= [[1]]:=by unfold a0R;rw[if_pos rfl]
 have a:a2l O35 1 [1]= [1,1,1]:=by decide+kernel
 have d:srt [1,1,1]= [1,1,1]:=(a7t (List.Perm.refl _) (by decide+kernel)).symm;have b:∀m,a1g O35 1 [1] m=a1K (([1,1,1]:List Rat).drop (3 - m))/a1K [1,1,1]:=fun m=>by
  unfold a1g a7Y;rw[a,d];rfl
 have:m=0\/m=1\/m=2\/m=3:=by omega
 unfold a0x;rw[c,List.map_singleton,b];rcases this with rfl|rfl|rfl|rfl<;>decide+kernel
theorem b0g:a3Y O35 (a0n O35) 2/\shE O35 0=0:=by
 have a:a0n O35=1:=by decide
 refine⟨?_,by unfold shE;rw[b8H,if_neg (by decide),if_neg (by decide),a,b4q,if_pos rfl]⟩;rw[a];refine⟨by decide,by rw[a6j 2 (by decide)];decide+kernel,fun j b=>?_⟩;have:j=0\/j=1:=by omega
 rcases this with rfl|rfl
 ·rw[a6j 0 (by decide)];decide+kernel
 ·rw[a6j 1 (by decide)];decide+kernel
end Go.Lin
namespace Go.Proofs.YtnnpfhoigmegcaaGreat
open Go.RowKit Go.Rep Go.Lim Go.Lin
theorem b2G(w:World)(us:List Value)(l:List Rat)(a:Array Value)(e:TypeId)(k:Nat)(b:a=(us.flatMap a0g).toArray)(d:us.length=l.length)(j:l.length=k)(h:∀i (hi:i<us.length) (c:i<l.length),QC (mk noY w) us[i] l[i])(n:l.length<=1000)(g:BR 68719476736 l):RV (mk noY (w.alloc (.cells a e))) (.slice (some ⟨w.heap.size,0,none⟩) k k) l:=by
 have f:=OL.lit QC.elem (HX.none w) (Nat.le_refl _) us l (e:=e) a b d (fun i hi c=>h i hi c) (by omega);have m:=f.lenCap;subst j;exact⟨_,_,rfl,Nat.le_refl _,(f.sl QC.elem).qv g⟩
theorem b4Z(w:World)(us:List Value)(m:Mat)(arr:Array Value)(e:TypeId)(k:Nat)(harr:arr=us.toArray)(hlen:us.length=m.length)(hk:m.length=k)(h:∀i (hi:i<us.length) (hi':i<m.length),RV (mk noY w) us[i] m[i])(hl:m.length<=1000):MV (mk noY (w.alloc (.cells arr e))) (.slice (some ⟨w.heap.size,0,none⟩) k k) m:=by
 have hO:=OL.lit RV.elem (HX.none w) (Nat.le_refl _) us m (e:=e) arr (by
  rw[harr]
  congr 1
  have:∀u∈us,a0g u= [u]:=fun u hu=>by
   obtain⟨i,hi,rfl⟩:=List.getElem_of_mem hu;obtain⟨ao,c,he,_⟩:=h i hi (by omega);rw[he];rfl
  clear harr hlen hk h hl
  induction us with
  |nil=>rfl
  |cons a us ih=>rw[List.flatMap_cons,this a List.mem_cons_self,<-ih fun u hu=>this u (List.mem_cons_of_mem _ hu)];rfl) hlen (fun i hi hi'=>h i hi hi') (by omega)
 subst hk;exact⟨_,_,rfl,Nat.le_refl _,hO.sl RV.elem⟩
abbrev TJb:=Bool×Bool×Bool×Bool
def b7T:List TJb:=[true,false].flatMap fun b2=>[true,false].flatMap fun b5=>[(b2,b5,false,false),(b2,b5,true,false),(b2,b5,true,true)]
def lJb(s:TJb):Array Bool:=#[true,true,s.1,true,true,s.2.1,true,s.2.2.1,s.2.2.2,false,false,false,false,false,false,false]
def b5a(s:TJb)(i:Nat):Option TJb:=
 if i=2/\s.1=false then some (true,s.2)else if i=5/\s.2.1=false then some (s.1,true,s.2.2)else if i=7/\s.2.2.1=false then some (s.1,s.2.1,true,s.2.2.2)
 else if i=8/\s.2.2.2=false/\s.2.2.1=true then some (s.1,s.2.1,s.2.2.1,true)else none
def b8I(s:TJb):Bool:=s.1&&s.2.1&&s.2.2.2
def a9j(a:Act)(v2 v5 v7 v8:Value):Act:=(((a.put (some 19) v2).put (some 22) v5).put (some 24) v7).put (some 25) v8
theorem a6Q:∀s∈b7T,s.2.2.2=true->s.2.2.1=true:=by decide
theorem b0G{P:Program}{ops:Array Oper}{Q:Exit->Act->World->Prop}{md:Region.Mode}{S:World->Prop}{n f:Nat}{l:Array Bool}{a:Act}{w:World}(h:∀b,b=a->a1q P md ops Q S n f l b w):a1q P md ops Q S n f l a w:=h a rfl
theorem a1y(w:World):Calls Tryz.prog 33 #[] w (a8n w true):=by
 have hloc:=hid fun w1=>(by
  have h:=b2h w1 2 0 5 (by decide) (by decide);rw[show b4T 2 0 5=3 by decide,show b3Z 2 0 5=0 by decide]at h;exact h:Calls Tryz.prog 31 #[.agg #[.int .i64 2, .int .i64 0], .int .i64 5] w1 (fun e w'=>Ext w1 w'/\e= .returned (.tuple #[.int .i64 3, .int .i64 0])))
 have hpla:=hid fun w1 u (hu:MV (mk noY w1) u P35)=>(by
  have h:=b2j noY w1 u P35 2 (HX.none w1) hu (by decide) b7Q (by decide) (by decide);rw[a8m.1,a8m.2]at h;exact h:Calls Tryz.prog 50 #[u] w1 (fun e w'=>Ext w1 w'/\e= .returned (.tuple #[.int .i64 2, .int .i64 0])))
 have hres:=hid fun w1 u (hu:MV (mk noY w1) u O35)=>((b7O noY w1 u O35 2 (HX.none w1) hu (by decide) b7R (by decide) (by decide)).mono fun e w' ⟨hE,m,he,h1,_⟩=>(by
  rw[b0g.2]at he h1;obtain rfl:=(h1 rfl).uniq b0g.1;exact⟨hE,he⟩:Ext w1 w'/\e= .returned (.tuple #[.int .i64 2, .int .i64 0])):Calls Tryz.prog 36 #[u] w1 (fun e w'=>Ext w1 w'/\e= .returned (.tuple #[.int .i64 2, .int .i64 0])))
 have h11:Hid ((((1:Int):Rat))=1):=hid (by decide+kernel);have h55:Hid ((((5:Int):Rat))=5):=hid (by decide+kernel);go_enter Tryz.func33,Tryz.ntmps33
 go_wp2_with fail
 refine(a3W noY w 1 (HX.none w) (by decide) (by decide)).mono ?_;rintro e w1 ⟨hE1,u1,rfl,hu1⟩;rw[h11.out]at hu1;obtain⟨s1,a1,n1,c1,d1,k1,e1,rfl⟩:=hu1.shape;obtain⟨w2,hw2,t2,x1,x2,hz2⟩:=a1a w1 #[.bool false, .slice none 0 0, .slice none 0 0] #[.bool false, .slice none 0 0, .slice none 0 0] 41 41;go_wp2_with (first
  |((with_reducible show wpList _ _ _ (⟨_, .store 41 _ _,_,_,_,_⟩::_) _ _);refine a0a a0k rfl rfl x1 rfl rfl (a1n _ _ _ _ _ _ _) ?_;intro w3 r1 y1;have x23:=x2.ext y1 (a0c (by omega)))
  |((with_reducible show wpList _ _ _ (⟨_, .store 41 _ _,_,_,_,_⟩::_) _ _);refine a0a a0k rfl rfl x23 rfl rfl (a1n _ _ _ _ _ _ _) ?_;intro w4 r2 y2)
  |(go_at_call 31;refine(hloc.out w4).mono ?_;rintro ee w5 ⟨t5,rfl⟩))
 have hE25:Ext w4 w5:=t5;have hE14:Ext w1 w4:=ExtX.box (ExtX.box t2 y1 (Nat.le_refl _)) y2 (by omega);have r14:=(r1.ext y2 (a0c (by omega))).ext0 t5;have r24:=r2.ext0 t5;obtain⟨g1,hg1⟩:∃g,w1.heap.size=g:=⟨_,rfl⟩;rw[hg1]at r14 r24
 (try rw[hg1])
 obtain⟨g2,hg2⟩:∃g,g1+1=g:=⟨_,rfl⟩;rw[hg2]at r24
 (try rw[hg2])
 have hu5:=mkx QC.mono hu1 (hE14.trans t5);have hEw5:=hE1.trans (hE14.trans t5);clear hw2 t2 x1 x2 hz2 r1 r2 y1 y2 x23 hu1 hE14 hE25 t5 hE1 hg1 hg2 hloc;have hEd:Ext w5 w5.drew:=(ExtX.refl w5).drew;have hS0:=hid fun w' (h:Ext w5 w')=>(⟨(r14.ext0 h).cell 0 rfl,(r14.ext0 h).cell 1 rfl,(r14.ext0 h).cell 2 rfl,(r24.ext0 h).cell 0 rfl,(r24.ext0 h).cell 1 rfl,(r24.ext0 h).cell 2 rfl⟩:w'.cell? ⟨g1,0,none⟩=some (.bool s1)/\w'.cell? ⟨g1,1,none⟩=some (.slice a1 n1 c1)/\w'.cell? ⟨g1,2,none⟩=some (.slice d1 k1 e1)/\w'.cell? ⟨g2,0,none⟩=some (.bool false)/\w'.cell? ⟨g2,1,none⟩=some (.slice none 0 0)/\w'.cell? ⟨g2,2,none⟩=some (.slice none 0 0));go_upto_region 3 with fail
 (try simp only[Act.put])
 refine a0K 15 (fun w'=>w'.cell? ⟨g1,0,none⟩=some (.bool s1)/\w'.cell? ⟨g1,1,none⟩=some (.slice a1 n1 c1)/\w'.cell? ⟨g1,2,none⟩=some (.slice d1 k1 e1)/\w'.cell? ⟨g2,0,none⟩=some (.bool false)/\w'.cell? ⟨g2,1,none⟩=some (.slice none 0 0)/\w'.cell? ⟨g2,2,none⟩=some (.slice none 0 0)) (by kernel_rfl) (by kernel_rfl) (hS0.out _ hEd) (fun hHeld hOnce=>?_);have hu0:=hid (mkx QC.mono hu5 hEd);have hSd:=hid fun w' (h:Ext w5.drew w')=>hS0.out w' (hEd.trans h);obtain⟨W0,hW0⟩:∃W0,w5.drew=W0:=⟨_,rfl⟩;rw[hW0]at hHeld hSd hu0 hEd |-;refine kt 0 hOnce ?_;refine kt 1 hOnce ?_;refine kt 3 hOnce ?_;refine kt 4 hOnce ?_;refine kt 6 hOnce ?_;refine b0G fun a0 ha0=>?_;have hrow:=hid fun w' (h:Ext W0 w')=>b2G w' [.agg #[.bool s1, .slice a1 n1 c1, .slice d1 k1 e1], .agg #[.bool false, .slice none 0 0, .slice none 0 0]] [1,0] #[.bool s1, .slice a1 n1 c1, .slice d1 k1 e1, .bool false, .slice none 0 0, .slice none 0 0] 41 2 (by simp[a0g,Value.cells]) rfl rfl (fun i hi hi'=>by
  match i,hi,hi' with
  |0,_,_=>exact mkx QC.mono hu0.out h
  |1,_,_=>exact QC.zero _) (by decide) (fun q hq=>by
  have:q=1\/q=0:=by simpa using hq
  rcases this with rfl|rfl<;>decide+kernel)
 have hrow5:=hid fun w' s a n c d k e (h:Ext W0 w') (h5:QC (mk noY w') (.agg #[.bool s, .slice a n c, .slice d k e]) 5)=>b2G w' [.agg #[.bool s1, .slice a1 n1 c1, .slice d1 k1 e1], .agg #[.bool s, .slice a n c, .slice d k e]] [1,5] #[.bool s1, .slice a1 n1 c1, .slice d1 k1 e1, .bool s, .slice a n c, .slice d k e] 41 2 (by simp[a0g,Value.cells]) rfl rfl (fun i hi hi'=>by
  match i,hi,hi' with
  |0,_,_=>exact mkx QC.mono hu0.out h
  |1,_,_=>exact h5) (by decide) (fun q hq=>by
  have:q=1\/q=5:=by simpa using hq
  rcases this with rfl|rfl<;>decide+kernel)
 refine b0F (I:=fun s a w'=>∃v2 v5 v7 v8 s5 a5 n5 c5 d5 k5 e5,a=a9j a0 v2 v5 v7 v8/\Ext W0 w'/\(s.1=true->RV (mk noY w') v2 [1,0])/\(s.2.1=true->RV (mk noY w') v5 [1,0])/\(s.2.2.1=true->v7= .agg #[.bool s5, .slice a5 n5 c5, .slice d5 k5 e5]/\QC (mk noY w') v7 5)/\(s.2.2.2=true->RV (mk noY w') v8 [1,5]))
  b7T lJb b5a b8I (by kernel_rfl) ?st ?ex 11 (false,false,false,false) a0 W0 (by decide) (by decide) ?hi
 case hi=>
  subst ha0;exact⟨undef,undef,undef,undef,false,none,0,0,none,0,0,by simp only[a9j,Act.put,List.setIfInBounds_toArray,List.set_cons_zero,List.set_cons_succ],ExtX.refl _,fun h=>(by cases h),fun h=>(by cases h),fun h=>(by cases h),fun h=>(by cases h)⟩
 case st=>
  rintro ⟨b2,b5,b7,b8⟩ i t a w' hs ht ⟨v2,v5,v7,v8,s5,a5,n5,c5,d5,k5,e5,rfl,hEx,f2,f5,f7,f8⟩;have h7:=a6Q _ hs
  dsimp only at f2 f5 f7 f8 h7
  subst ha0;unfold b5a at ht
  dsimp only at ht
  have hE2:Ext w' (w'.alloc (.cells #[.bool s1, .slice a1 n1 c1, .slice d1 k1 e1, .bool false, .slice none 0 0, .slice none 0 0] 41)):=(ExtX.refl _).alloc _;split at ht
  ·rename_i hc
   obtain⟨rfl,rfl⟩:=hc;cases ht
   simp only[a9j,Act.put,List.setIfInBounds_toArray,List.set_cons_zero,List.set_cons_succ];refine a3Q (o:=⟨_,_,_,_,_,_⟩) rfl (fun K hK=>?_);go_simp
   refine hK.out _ _ ⟨hSd.out _ (hEx.trans hE2), .slice (some ⟨w'.heap.size,0,none⟩) 2 2,v5,v7,v8,s5,a5,n5,c5,d5,k5,e5,rfl,hEx.trans hE2,fun _=>hrow.out w' hEx,fun h=>mkx RV.mono (f5 h) hE2,fun h=>⟨(f7 h).1,mkx QC.mono (f7 h).2 hE2⟩,fun h=>mkx RV.mono (f8 h) hE2⟩
  ·split at ht
   ·rename_i hc
    obtain⟨rfl,rfl⟩:=hc;cases ht
    simp only[a9j,Act.put,List.setIfInBounds_toArray,List.set_cons_zero,List.set_cons_succ];refine a3Q (o:=⟨_,_,_,_,_,_⟩) rfl (fun K hK=>?_);go_simp
    refine hK.out _ _ ⟨hSd.out _ (hEx.trans hE2),v2, .slice (some ⟨w'.heap.size,0,none⟩) 2 2,v7,v8,s5,a5,n5,c5,d5,k5,e5,rfl,hEx.trans hE2,fun h=>mkx RV.mono (f2 h) hE2,fun _=>hrow.out w' hEx,fun h=>⟨(f7 h).1,mkx QC.mono (f7 h).2 hE2⟩,fun h=>mkx RV.mono (f8 h) hE2⟩
   ·split at ht
    ·rename_i hc
     obtain⟨rfl,rfl⟩:=hc;cases ht
     have hb8:b8=false:=by cases b8<;>simp_all
     simp only[a9j,Act.put,List.setIfInBounds_toArray,List.set_cons_zero,List.set_cons_succ];refine a3Q (o:=⟨_,_,_,_,_,_⟩) rfl (fun K hK=>?_);go_simp
     (with_reducible refine(a3W noY w' 5 (HX.none w') (by decide) (by decide)).mono ?_)
     rintro ee w3 ⟨hE3,u3,rfl,hu3⟩;rw[h55.out]at hu3;obtain⟨s6,a6,n6,c6,d6,k6,e6,rfl⟩:=hu3.shape;refine hK.out _ _ ⟨hSd.out _ (hEx.trans hE3),v2,v5, .agg #[.bool s6, .slice a6 n6 c6, .slice d6 k6 e6],v8,s6,a6,n6,c6,d6,k6,e6,rfl,hEx.trans hE3,fun h=>mkx RV.mono (f2 h) hE3,fun h=>mkx RV.mono (f5 h) hE3,fun _=>⟨rfl,hu3⟩,fun h=>absurd (hb8.symm.trans h) (by decide)⟩
    ·split at ht
     ·rename_i hc
      obtain⟨rfl,rfl,rfl⟩:=hc;cases ht
      obtain⟨rfl,h5⟩:=f7 rfl;have hE4:Ext w' (w'.alloc (.cells #[.bool s1, .slice a1 n1 c1, .slice d1 k1 e1, .bool s5, .slice a5 n5 c5, .slice d5 k5 e5] 41)):=(ExtX.refl _).alloc _;simp only[a9j,Act.put,List.setIfInBounds_toArray,List.set_cons_zero,List.set_cons_succ];refine a3Q (o:=⟨_,_,_,_,_,_⟩) rfl (fun K hK=>?_);go_simp
      refine hK.out _ _ ⟨hSd.out _ (hEx.trans hE4),v2,v5, .agg #[.bool s5, .slice a5 n5 c5, .slice d5 k5 e5], .slice (some ⟨w'.heap.size,0,none⟩) 2 2,s5,a5,n5,c5,d5,k5,e5,rfl,hEx.trans hE4,fun h=>mkx RV.mono (f2 h) hE4,fun h=>mkx RV.mono (f5 h) hE4,fun _=>⟨rfl,mkx QC.mono h5 hE4⟩,fun _=>hrow5.out w' s5 a5 n5 c5 d5 k5 e5 hEx h5⟩
     ·cases ht
 case ex=>
  rintro ⟨b2,b5,b7,b8⟩ a w' hs hf ⟨v2,v5,v7,v8,s5,a5,n5,c5,d5,k5,e5,rfl,hEx,f2,f5,f7,f8⟩;have h7:=a6Q _ hs
  dsimp only at f2 f5 f7 f8 h7
  obtain⟨hf1,rfl⟩:=(Bool.and_eq_true _ _).mp hf;obtain⟨rfl,rfl⟩:=(Bool.and_eq_true _ _).mp hf1;have e7:=h7 rfl;subst e7 ha0;have R2:=f2 rfl;have R5:=f5 rfl;have R8:=f8 rfl;obtain⟨rfl,_⟩:=f7 rfl;obtain⟨o2,m2,rfl,q2,q22⟩:=id R2;obtain⟨o5,m5,rfl,q5,q55⟩:=id R5;obtain⟨o8,m8,rfl,q8,q88⟩:=id R8;have hHeld:=hSd.out w' hEx;have hM:=b4Z w' [.slice o2 2 m2, .slice o5 2 m5, .slice o8 2 m8] P35 #[.slice o2 2 m2, .slice o5 2 m5, .slice o8 2 m8] 26 3 rfl rfl rfl (fun i hi hi'=>by
   match i,hi,hi' with
   |0,_,_=>exact R2
   |1,_,_=>exact R5
   |2,_,_=>exact R8) (by decide)
  have hE9:Ext w' (w'.alloc (.cells #[.slice o2 2 m2, .slice o5 2 m5, .slice o8 2 m8] 26)):=(ExtX.refl _).alloc _;clear f2 f5 f7 f8 h7 hs hf hf1 q22 q55 q88 q2 q5 q8 R2 R5 R8
  show a1q _ _ _ _ _ _ 7 #[true,true,true,true,true,true,true,true,true,false,false,false,false,false,false,false] _ _
  simp only[a9j,Act.put,List.setIfInBounds_toArray,List.set_cons_zero,List.set_cons_succ];refine ks 9 (fun K hK=>?_);go_simp
  skip
  refine kcn hK (hSd.out _ (hEx.trans hE9)) (fun hHeld=>?_);clear hK K;refine ks 10 (fun K hK=>?_);go_simp
  ((with_reducible refine(hpla.out _ _ hM).mono ?_);rintro ee w6 ⟨t6,rfl⟩)
  refine kcn hK (hSd.out _ (hEx.trans (hE9.trans t6))) (fun hHeld=>?_);clear hK K;refine kt 11 hOnce ?_;refine kt 12 hOnce ?_;refine kt 13 hOnce ?_;refine ks 14 (fun K hK=>?_);go_simp
  skip
  refine kcn hK hHeld (fun hHeld=>?_);clear hK K;refine kl 15 (fun K hK=>?_);go_simp
  refine hK.out _ _ ?_;clear hK K;have hE56:=hEd.trans (hEx.trans (hE9.trans t6));have hu6:=mkx QC.mono hu5 hE56;have hc0:=hS0.out _ hE56;obtain⟨A,hA⟩:∃A:Obj,A=(.cells #[.bool s1, .slice a1 n1 c1, .slice d1 k1 e1] 41):=⟨_,rfl⟩;obtain⟨wa,hwa⟩:∃wa,wa=w6.alloc A:=⟨_,rfl⟩;obtain⟨wb,hwb⟩:∃wb,wb=wa.alloc A:=⟨_,rfl⟩;obtain⟨wc,hwc⟩:∃wc,wc=wb.alloc A:=⟨_,rfl⟩;have ga:Ext w6 wa:=hwa▸(ExtX.refl _).alloc _;have gb:Ext wa wb:=hwb▸(ExtX.refl _).alloc _;have gc:Ext wb wc:=hwc▸(ExtX.refl _).alloc _;have hc1:=hS0.out _ (hE56.trans ga);have hc2:=hS0.out _ (hE56.trans (ga.trans gb));have r1x:∀w',QC (mk noY w') (.agg #[.bool s1, .slice a1 n1 c1, .slice d1 k1 e1]) 1->RV (mk noY (w'.alloc A)) (.slice (some ⟨w'.heap.size,0,none⟩) 1 1) [1]:=fun w' h1=>by
   rw[hA];exact b2G w' [.agg #[.bool s1, .slice a1 n1 c1, .slice d1 k1 e1]] [1] _ _ 1 (by simp[a0g,Value.cells]) rfl rfl (fun i hi hi'=>by
    obtain rfl:i=0:=by simp at hi;omega
    exact h1) (by decide) (fun q hq=>by
    obtain rfl:q=1:=by simpa using hq
    decide+kernel)
  have ra:=r1x w6 hu6;rw[<-hwa]at ra;have rb:=r1x wa (mkx QC.mono hu6 ga);rw[<-hwb]at rb;have rc:=r1x wb (mkx QC.mono hu6 (ga.trans gb));rw[<-hwc]at rc;have hM2:=b4Z wc [.slice (some ⟨w6.heap.size,0,none⟩) 1 1, .slice (some ⟨wa.heap.size,0,none⟩) 1 1, .slice (some ⟨wb.heap.size,0,none⟩) 1 1] O35 _ 26 3 rfl rfl rfl (fun i hi hi'=>by
   match i,hi,hi' with
   |0,_,_=>exact mkx RV.mono ra (gb.trans gc)
   |1,_,_=>exact mkx RV.mono rb gc
   |2,_,_=>exact rc) (by decide)
  rw[hwc,hwb,hwa,hA]at hM2;rw[hwa,hA]at hc1;rw[hwb,hwa,hA]at hc2;clear ra rb rc r1x hwa hwb hwc hu6 hHeld hM hpla;have hz:∀(u:World) o,(u.alloc o).heap.size=u.heap.size+1:=fun u o=>Array.size_push _;simp only[hz]at hM2;have hEx6:Ext w6 _:=ExtX.refl _|>.alloc (.cells #[.bool s1, .slice a1 n1 c1, .slice d1 k1 e1] 41)|>.alloc (.cells #[.bool s1, .slice a1 n1 c1, .slice d1 k1 e1] 41)|>.alloc (.cells #[.bool s1, .slice a1 n1 c1, .slice d1 k1 e1] 41)|>.alloc (.cells #[.slice (some ⟨w6.heap.size,0,none⟩) 1 1, .slice (some ⟨w6.heap.size+1,0,none⟩) 1 1, .slice (some ⟨w6.heap.size+1+1,0,none⟩) 1 1] 26);go_wp2_with (go_at_call 36;refine(hres.out _ _ hM2).mono ?_;rintro ee w7 ⟨t7,rfl⟩)
  go_ret
  exact⟨hEw5.trans (hE56.trans (hEx6.trans t7)),rfl⟩
def b6I(_:Mem)(v:Value)(p:Int×Int):Prop:=v= .agg #[.int .i64 p.1, .int .i64 p.2]
theorem b6I.mono:a2X b6I:=fun _ _ _ _ _ h=>h
theorem b6I.elem:Elem b6I 2:=by
 refine⟨b6I.mono,?_,?_,by decide⟩
 ·rintro h u p rfl;rfl
 ·rintro h u p rfl c a
  simp[a0g,Value.cells]at a;rcases a with rfl|rfl<;>rfl
theorem b6I.agg:∀h u p,b6I h u p->∃a,u= .agg a:=by
 rintro h u p rfl;exact⟨_,rfl⟩
open Go.ChangeShapes Go.WideShapes Go.ChangeAt Go.Deep
section
variable {H:Type} {enc:TypeId×Value->H} {w:World} {base:Nat} {spare:Nat->Bool} {held:Bool}
theorem a0U{x:Addr}{v:Value}(h:w.cell? (x.add 0)=some v):(∀j,x.add j=adr (some x) j)/\∃b c,x=⟨b,c,none⟩:=by
 have e:=World.cell?_spot h;obtain⟨b,c,d⟩:=x;have a:d=none:=by simpa[Addr.add]using e
 subst a;exact⟨fun j=>by rw[Addr.add_lit];simp[adr],b,c,rfl⟩
end
end Go.Proofs.YtnnpfhoigmegcaaGreat
namespace Go.Rep
open Go.RowKit Go.Lim
abbrev a5f:=Bool×List Nat×List Nat
def QR(h:Mem)(u:Value)(x:a5f):Prop:=∃ao c bo e,u= .agg #[.bool x.1, .slice ao x.2.1.length c, .slice bo x.2.2.length e]/\x.2.1.length<=c/\x.2.2.length<=e/\Dig x.2.1/\Dig x.2.2/\x.2.1.length<=9223372036854775807/\x.2.2.length<=9223372036854775807/\Sl (a0b .u32) 1 h ao x.2.1/\Sl (a0b .u32) 1 h bo x.2.2
theorem QR.mono:a2X QR:=by rintro h n u x a ⟨ao,c,b,e,rfl,d,f,g,i,j,k,l,m⟩;exact⟨ao,c,b,e,rfl,d,f,g,i,j,k,l.mono (a0b.mono _) a,m.mono (a0b.mono _) a⟩
theorem QR.elem:Elem QR 3:=⟨QR.mono,by rintro h u x ⟨ao,c,b,e,rfl,_⟩;rfl,by
 rintro h u x ⟨ao,c,b,e,rfl,_⟩ v a;simp[a0g,Value.cells]at a;rcases a with rfl|rfl|rfl<;>rfl,by decide⟩
theorem QR.shape{h:Mem}{u:Value}{x:a5f}(b:QR h u x):∃ao c a e,u= .agg #[.bool x.1, .slice ao x.2.1.length c, .slice a x.2.2.length e]:=by
 obtain⟨ao,c,a,e,rfl,_⟩:=b;exact⟨_,_,_,_,rfl⟩
theorem QR.agg:∀h u y,QR h u y->∃a,u= .agg a:=by rintro h u x ⟨ao,c,b,e,rfl,_⟩;exact⟨_,rfl⟩
noncomputable def b6J(x:a5f):Rat:=b1f x.1 x.2.1 x.2.2
abbrev Few(k:Nat)(x:a5f):Prop:=x.2.1.length<=k/\x.2.2.length<=k
theorem QR.qv{h:Mem}{u:Value}{x:a5f}(l:QR h u x)(a:Few 68719476736 x):QV h u (b6J x):=by
 obtain⟨ao,c,b,e,rfl,d,f,g,i,_,_,j,k⟩:=l;exact⟨_,ao,c,_,b,e,_,rfl,d,f,g,i,a.1,a.2,j,k,rfl⟩
theorem QR.hq{h:Mem}{u:Value}{x:a5f}{k:Nat}(g:QR h u x)(a:Few k x)(f:1<=k):hq (b6J x)<=k:=by
 obtain⟨ao,c,i,e,rfl,j,l,b,d,_,_,m,n⟩:=g;exact a8x _ _ _ k b d a.1 a.2 f
theorem Sl.qvR{h:Mem}{ao:Option Addr}{l:List a5f}(s:Sl QR 3 h ao l)(e:∀x∈l,Few 68719476736 x):Sl QV 3 h ao (l.map b6J):=
 ⟨fun f=>s.1 (by simpa using f),fun i hi=>by
  have a:i<l.length:=by simpa using hi
  obtain⟨u,b,c,d⟩:=s.2 i a;exact⟨u,b,c,by rw[List.getElem_map];exact d.qv (e _ (List.getElem_mem _))⟩⟩
theorem Sl.brR{h:Mem}{ao:Option Addr}{l:List a5f}{k:Nat}(s:Sl QR 3 h ao l)(b:∀x∈l,Few k x)(c:1<=k):BR k (l.map b6J):=fun q hq=>by
 obtain⟨x,hx,rfl⟩:=List.mem_map.1 hq;obtain⟨i,hi,rfl⟩:=List.getElem_of_mem hx;obtain⟨u,d,e,a⟩:=s.2 i hi;exact a.hq (b _ (List.getElem_mem _)) c
abbrev RR:Mem->Value->List a5f->Prop:=SlV QR 3
abbrev MR:Mem->Value->List (List a5f)->Prop:=SlV RR 1
theorem RR.mono:a2X RR:=SlV.mono QR.mono 3
theorem RR.elem:Elem RR 1:=SlV.elem QR.elem
theorem MR.mono:a2X MR:=SlV.mono RR.mono 1
theorem RR.rv{h:Mem}{u:Value}{l:List a5f}(e:RR h u l)(d:∀x∈l,Few 68719476736 x):RV h u (l.map b6J):=by
 obtain⟨ao,c,rfl,a,b⟩:=e;exact⟨ao,c,by rw[List.length_map],by rw[List.length_map];exact a,b.qvR d⟩
theorem RR.br{h:Mem}{u:Value}{l:List a5f}{k:Nat}(e:RR h u l)(b:∀x∈l,Few k x)(d:1<=k):BR k (l.map b6J):=by
 obtain⟨ao,c,rfl,f,a⟩:=e;exact a.brR b d
noncomputable def b4s(m:List (List a5f)):List (List Rat):=m.map fun r=>r.map b6J
theorem MR.mv{h:Mem}{u:Value}{m:List (List a5f)}(g:MR h u m)(e:∀r∈m,∀x∈r,Few 68719476736 x):MV h u (b4s m):=by
 obtain⟨ao,c,rfl,d,b⟩:=g;refine⟨ao,c,by rw[b4s,List.length_map],by rw[b4s,List.length_map];exact d,fun f=>b.1 (by simpa[b4s]using f),fun i hi=>?_⟩;have a:i<m.length:=by simpa[b4s]using hi
 obtain⟨u,j,k,l⟩:=b.2 i a;exact⟨u,j,k,by simp only[b4s,List.getElem_map];exact RR.rv l (e _ (List.getElem_mem _))⟩
theorem MR.bm{h:Mem}{u:Value}{m:List (List a5f)}{k:Nat}(f:MR h u m)(b:∀r∈m,∀x∈r,Few k x)(d:1<=k):BM k (b4s m):=fun r e=>by
 obtain⟨ao,c,rfl,l,a⟩:=f;obtain⟨y,g,rfl⟩:=List.mem_map.1 e;obtain⟨i,hi,rfl⟩:=List.getElem_of_mem g;obtain⟨u,n,o,j⟩:=a.2 i hi;exact RR.br j (b _ (List.getElem_mem _)) d
end Go.Rep
namespace Go.Proofs.YtnnpfhoigmegcaaGreat
open Go.ChangeShapes Go.WideShapes Go.ChangeAt Go.RowKit Go.Rep Go.Deep Go.Lim
section
variable {H:Type} {enc:TypeId×Value->H} {w:World} {base:Nat} {spare:Nat->Bool} {held:Bool}
theorem b0h{α:Type}{R:Mem->Value->α->Prop}{t e:TypeId}{sz:Nat}(ht:Tryz.prog.underlying t=some (.slice e))(hC:Tryz.prog.cellsOf e=sz)(hz:0<sz)(hsize:∀h u x,R h u x->u.cells.size=sz)(hel:∀(n:Nat) (cs:List Value) (y:DataW H×List MemPlace),cs.length=sz->DataW.trod enc Tryz.prog w base spare held n e cs=some y->∃u x,a0g u=cs/\R w.cell? u x){fuel:Nat}{v:Value}{x:DataW H×List MemPlace}(h:DataW.trod enc Tryz.prog w base spare held fuel t [v]=some x):∃(a:Option Addr) (L:List α) (cap:Nat),v= .slice a L.length cap/\L.length<=cap/\cap<=9223372036854775807/\Sl R sz w.cell? a L:=by
 rcases open_slice ht h with⟨hcs,_⟩|⟨x,len,c,m,n,D,Pl,hcs,_,hl,hm,hmm,_,hi⟩
 ·exact⟨none,[],0,by simpa using hcs,by simp,by simp,Sl.nil _ _ _ _⟩
 ·have hml:len<=m:=by rw[hmm];split<;>omega
  have hmax:c<=9223372036854775807:=by simpa[maxLen]using hm
  have key:∀k,k<=len->∃L:List α,L.length=k/\∀i (hi:i<L.length),∃u,u.cells.size=sz/\(∀j (hj:j<u.cells.size),w.cell? (x.add (i*sz+j))=some u.cells[j])/\R w.cell? u L[i]:=by
   intro k
   induction k with
   |zero=>intro _;exact⟨[],rfl,by simp⟩
   |succ k ih=>
    intro hk;obtain⟨L,h1,h3⟩:=ih (by omega);obtain⟨cs',hc,ht'⟩:=hi k (by omega);rw[hC]at hc;obtain⟨_,hcl,hat⟩:=World.cells?_some hc;obtain⟨u,y,hu,hR⟩:=hel n cs' _ hcl ht';refine⟨L++[y],by simp[h1],fun i hi=>?_⟩;by_cases hik:i<L.length
    ·obtain⟨u,q1,q2,q3⟩:=h3 i hik
     exact⟨u,q1,q2,by simpa[List.getElem_append_left hik]using q3⟩
    ·have hik2:i=k:=by simp at hi;omega
     subst hik2;refine⟨u,hsize _ _ _ hR,fun j hj=>?_,?_⟩
     ·have hj2:j<sz:=by rw[hsize _ _ _ hR]at hj;exact hj
      have h5:=hat j (by omega);rw[Go.Deep.add_add]at h5;rw[h5];have h6:cs'[j]? =(a0g u)[j]?:=by rw[hu]
      rw[h6];simp[a0g,hj]
     ·simp only[h1.symm,List.getElem_concat_length]
      exact hR
  obtain⟨L,h1,h3⟩:=key len (Nat.le_refl _);refine⟨some x,L,c,by rw[h1];simpa using hcs,by omega,by omega,⟨fun h0=>?_,fun i hi=>?_⟩⟩
  ·obtain⟨u,q1,q2,_⟩:=h3 0 h0
   obtain⟨_,b,off,hx⟩:=a0U (by simpa using q2 0 (by omega));exact⟨b,off,by rw[hx]⟩
  ·obtain⟨u,q1,q2,q3⟩:=h3 i hi
   obtain⟨v,p1,p2,_⟩:=h3 0 (by omega);have ha:=(a0U (by simpa using p2 0 (by omega))).1;exact⟨u,q1,fun j hj=>by rw[<-ha];exact q2 j hj,q3⟩
theorem b2H{m:Nat}{v:Value}{x:DataW H×List MemPlace}(h:DataW.trod enc Tryz.prog w base spare held m 37 [v]=some x):∃(a:Option Addr) (l:List Nat) (k:Nat),v= .slice a l.length k/\l.length<=k/\l.length<=9223372036854775807/\Dig l/\Sl (a0b .u32) 1 w.cell? a l:=by
 rcases open_ints Tryz.underlying37 Tryz.underlying110 (by kernel_rfl) h with⟨f,_⟩|⟨x,len,c,g,f,_,K,E,hz,_,e,r⟩
 ·exact⟨none,[],0,by simpa using f,by simp,by simp,by simp[Dig],Sl.nil _ _ _ _⟩
 ·have G:len<=g.length:=by
   rw[hz];split<;>omega
  have B:∀n∈g,0<=n/\n<4294967296:=fun n F=>by
   have:=r n F;unfold Lit.wf at this;have:0<=n/\n<=4294967295:=by simpa[IntKind.min,IntKind.max,IntKind.signed,IntKind.bits]using this
   omega
  have p:((g.take len).map Int.toNat).length=len:=by simp;omega
  have A:c<=9223372036854775807:=by simpa[maxLen]using E
  refine⟨some x,(g.take len).map Int.toNat,c,by rw[p];simpa using f,by omega,by omega,fun d hd=>?_,fun I=>?_,fun i hi=>?_⟩
  ·obtain⟨z,s,rfl⟩:=List.mem_map.1 hd
   have:=B z (List.mem_of_mem_take s);rw[a1b];omega
  ·obtain⟨_,b,t,hx⟩:=a0U (e 0 (by omega))
   exact⟨b,t,by rw[hx]⟩
  ·have o:i<g.length:=by omega
   have D:i<len:=by omega
   refine⟨.int .u32 (((g.take len).map Int.toNat)[i]:Nat),rfl,fun j y=>?_,rfl⟩;have q:j=0:=by simp[Value.cells]at y;exact y
   subst q;have u:=e i o;have C:=(a0U (e 0 (by omega))).1 i;rw[C]at u;have J:=B g[i] (List.getElem_mem _);simp only[Nat.mul_one,Nat.add_zero,List.getElem_map,List.getElem_take];rw[u];simp[List.getD_eq_getElem?_getD,o,Value.cells];omega
theorem b7U{f:Nat}{e:List Value}{x:DataW H×List MemPlace}(g:e.length=3)(h:DataW.trod enc Tryz.prog w base spare held f 41 e=some x):∃u y,a0g u=e/\QR w.cell? u y:=by
 obtain⟨q,J,P,Y,D,o,B⟩:=DataW.trod_struct Tryz.underlying41 h;have L:Tryz.prog.cellsOf 39=2:=by kernel_rfl
 have A:Tryz.prog.cellsOf 37=1:=by kernel_rfl
 have M:Tryz.prog.cellsOf 4=1:=by kernel_rfl
 have i:DataW.trod enc Tryz.prog w base spare held J 39 ((e.drop 0).take (Tryz.prog.cellsOf 39))=q[0]?:=B 0 _ rfl;have j:DataW.trod enc Tryz.prog w base spare held J 37 ((e.drop 2).take (Tryz.prog.cellsOf 37))=q[1]?:=B 1 _ rfl;have E:q.length=2:=o;obtain⟨a,b,c,rfl⟩:∃a b c,e= [a,b,c]:=by
  rcases e with _|⟨a,_|⟨b,_|⟨c,_|⟨d,r⟩⟩⟩⟩
  ·simp at g
  ·simp at g
  ·simp at g
  ·exact⟨a,b,c,rfl⟩
  ·simp at g
 rw[L]at i;rw[A]at j;rw[List.getElem?_eq_getElem (by omega)]at i j;obtain⟨t,K,_,_,_,p,C⟩:=DataW.trod_struct Tryz.underlying39 i;have k:DataW.trod enc Tryz.prog w base spare held K 4 (([a,b].drop 0).take (Tryz.prog.cellsOf 4))=t[0]?:=C 0 _ rfl;have l:DataW.trod enc Tryz.prog w base spare held K 37 (([a,b].drop 1).take (Tryz.prog.cellsOf 37))=t[1]?:=C 1 _ rfl;have F:t.length=2:=p;rw[M]at k;rw[A]at l;rw[List.getElem?_eq_getElem (by omega)]at k l;obtain⟨v,m,G,N,Q,R,S,T⟩:=b2H l;obtain⟨z,d,I,O,U,V,W,X⟩:=b2H j;obtain⟨s,n,_⟩:=DataW.trod_bool Tryz.underlying4 k;have n:a= .bool s:=by simpa using n
 subst n N O;exact⟨.agg #[.bool s, .slice v m.length G, .slice z d.length I],(s,m,d),rfl,v,G,z,I,rfl,Q,U,S,W,R,V,T,X⟩
theorem b6K{c:Nat}{v:Value}{x:DataW H×List MemPlace}(h:DataW.trod enc Tryz.prog w base spare held c 26 [v]=some x):∃(a:Option Addr) (L:List a5f) (b:Nat),v= .slice a L.length b/\L.length<=b/\b<=9223372036854775807/\Sl QR 3 w.cell? a L:=
 b0h (R:=QR) Tryz.underlying26 (by kernel_rfl) (by decide) QR.elem.size (fun _ _ _ d h=>b7U d h) h
theorem b0i{fuel:Nat}{v:Value}{x:DataW H×List MemPlace}(h:DataW.trod enc Tryz.prog w base spare held fuel 25 [v]=some x):∃(a:Option Addr) (L:List (List a5f)) (cap:Nat),v= .slice a L.length cap/\L.length<=cap/\cap<=9223372036854775807/\Sl RR 1 w.cell? a L:=
 b0h (R:=RR) Tryz.underlying25 (by kernel_rfl) (by decide) RR.elem.size (fun _ cs _ hl h=>by
  match cs,hl with
  | [a],_=>
   obtain⟨ao,L,cap,rfl,h1,h2,h3⟩:=b6K h;exact⟨.slice ao L.length cap,L,rfl,ao,cap,rfl,h1,h3⟩) h
end
end Go.Proofs.YtnnpfhoigmegcaaGreat
namespace Go.Rep
open Go.RowKit Go.Lim
theorem Sl.raw{X:Nat->Bool}{w:World}{ao:Option Addr}{l:List a5f}(s:Sl QR 3 (mk X w) ao l)(i:Nat)(hi:i<l.length):∃g o a c d e,adr ao (i*3)=⟨g,o,none⟩/\X g=false/\Hid (∀Y W',ExtX Y w W'->Y g=false->W'.cell? ⟨g,o,none⟩=some (.bool l[i].1)/\W'.cell? ⟨g,o+1,none⟩=some (.slice a l[i].2.1.length c)/\W'.cell? ⟨g,o+2,none⟩=some (.slice d l[i].2.2.length e))/\QR (mk X w) (.agg #[.bool l[i].1, .slice a l[i].2.1.length c, .slice d l[i].2.2.length e]) l[i]:=by
 obtain⟨u,q,b,k⟩:=s.2 i hi;obtain⟨a,c,d,e,rfl⟩:=k.shape;have j:=b 0 (by simp[Value.cells]);have m:=b 1 (by simp[Value.cells]);have n:=b 2 (by simp[Value.cells]);refine⟨(adr ao (i*3)).block,(adr ao (i*3)).off,a,c,d,e,rfl,?_,hid fun Y W' f h=>⟨?_,?_,?_⟩,k⟩
 ·cases hx:X (adr ao (i*3)).block
  ·rfl
  ·have p:mk X w (adr ao (i*3))=some (.bool l[i].1):=j
   simp[mk,hx]at p
 ·exact f.cellY (a1i j) h
 ·exact f.cellY (a1i m) h
 ·exact f.cellY (a1i n) h
theorem Sl.rowR{α:Type}{R:Mem->Value->α->Prop}{sz:Nat}{X:Nat->Bool}{w:World}{ao:Option Addr}{m:List (List α)}(s:Sl (SlV R sz) 1 (mk X w) ao m)(i:Nat)(hi:i<m.length):∃a c,X (adr ao i).block=false/\Hid (∀Y W',ExtX Y w W'->Y (adr ao i).block=false->W'.cell? (adr ao i)=some (.slice a m[i].length c))/\m[i].length<=c/\Sl R sz (mk X w) a m[i]:=by
 obtain⟨u,b,a,c,rfl,d,e⟩:=s.cell SlV.one i hi;refine⟨a,c,?_,hid fun Y W' f g=>f.cellY (a1i b) g,d,e⟩;cases hx:X (adr ao i).block
 ·rfl
 ·simp[mk,hx]at b
theorem Few.dec{k n m:Nat}{x:a5f}(a:x.2.1.length=n)(b:x.2.2.length=m):(decide (n<=k)&&decide (m<=k))=true↔Few k x:=by
 rw[Bool.and_eq_true,decide_eq_true_eq,decide_eq_true_eq];subst a b;exact Iff.rfl
end Go.Rep
namespace Go.Proofs.YtnnpfhoigmegcaaGreat
open Go.RowKit Go.Rep Go.Lim
theorem a6R(w:World)(s:Bool)(ao l:Option Addr)(n c k e:Nat):Calls Tryz.prog 141 #[.agg #[.bool s, .slice ao n c, .slice l k e]] w (a8n w (decide (n<=8)&&decide (k<=8))):=by
 obtain⟨W,r,j,f,hz⟩:=a0Q w #[.bool s, .slice ao n c, .slice l k e] 41;obtain⟨b,m⟩:∃b,w.heap.size=b:=⟨_,rfl⟩;rw[m]at f hz;have o:=f.cell 0 rfl;have p:=f.cell 1 rfl;have q:=f.cell 2 rfl;clear hz;by_cases a:n<=8
 ·have h:(n:Int)<=8:=by omega
  by_cases g:k<=8
  ·have i:(k:Int)<=8:=by omega
   have d:=hid (show true=(decide (n<=8)&&decide (k<=8))by simp[a,g]);clear a g;go_enter Tryz.func141,Tryz.ntmps141
   go_wp2_with fail
   go_ret
   exact⟨j,a0p d.out⟩
  ·have i:¬(k:Int)<=8:=by omega
   have d:=hid (show false=(decide (n<=8)&&decide (k<=8))by simp[g]);clear a g;go_enter Tryz.func141,Tryz.ntmps141
   go_wp2_with fail
   go_ret
   exact⟨j,a0p d.out⟩
 ·have h:¬(n:Int)<=8:=by omega
  have d:=hid (show false=(decide (n<=8)&&decide (k<=8))by simp[a]);clear a;go_enter Tryz.func141,Tryz.ntmps141
  go_wp2_with fail
  go_ret
  exact⟨j,a0p d.out⟩
def a3Z(l:List a5f)(most:Nat):Bool:=decide (l.length<=most/\∀x∈l,Few 8 x)
def lightM(m:List (List a5f))(r c:Nat):Bool:=decide (m.length<=r/\∀x∈m,a3Z x c=true)
theorem a7z(X:Nat->Bool)(w:World)(u:Value)(l:List a5f)(b:Nat)(T:RR (mk X w) u l)(Z:b<=1000):Calls Tryz.prog 69 #[u, .int .i64 (b:Int)] w (a8n w (a3Z l b)):=by
 obtain⟨ao,W,rfl,E,z⟩:=T;have Q:=z.hd;by_cases C:l.length<=b
 ·have I:¬(b:Int)<(l.length:Int):=by omega
  have A:Hid ((∀p (f:p<l.length),Few 8 l[p])->a3Z l b=true):=hid fun h=>decide_eq_true ⟨C,fun x hx=>by obtain⟨p,f,rfl⟩:=List.getElem_of_mem hx;exact h p f⟩;have J:Hid (∀p (f:p<l.length),¬Few 8 l[p]->a3Z l b=false):=hid fun p f h=>decide_eq_false fun O=>h (O.2 _ (List.getElem_mem _));obtain⟨n,H⟩:∃n,l.length=n:=⟨_,rfl⟩;have s:=hid H;have R:n<=1000:=by omega
  rw[H]at Q I |-;clear C H E;go_enter Tryz.func69,Tryz.ntmps69
  go_wp2_with fail
  go_loopw [5] (fun c wr=>∃i:Nat,c= .int .i64 i/\i<=n/\Hid (∀p (f:p<l.length),p<i->Few 8 l[p])/\Ext w wr) (fun c _=>n - (intOf c).toNat)
  case atStart=>exact⟨0,rfl,Nat.zero_le _,hid (fun p f h=>by omega),ExtX.refl _⟩
  case round=>
   obtain⟨i,rfl,hi,t,B⟩:=hrel;by_cases G:i<n
   ·have j:i<l.length:=by rw[s.out];exact G
    have m:=z.mono QR.mono (a0l B);obtain⟨g,o,a,c,d,e,_,_,_,hq⟩:=m.raw i j;by_cases r:Few 8 l[i]
    ·have D:Hid ((decide (l[i].2.1.length<=8)&&decide (l[i].2.2.length<=8))=true):=hid ((Few.dec rfl rfl).2 r)
     have v:Hid (∀p (f:p<l.length),p<i+1->Few 8 l[p]):=hid fun p f S=>by
      by_cases h:p=i
      ·subst h;exact r
      ·exact t.out p f (by omega)
     clear r;go_wp2_with (first|(with_reducible refine a1D a0J (by omega) (by assumption) ?_)|((with_reducible show wpList _ _ _ (⟨_, .load 41 _,_,_,_,_⟩::_) _ _);refine a0W a0k i m j rfl (by simp) QR.agg ?_;intro U q;obtain⟨K,L,M,e5,rfl⟩:=q.shape))
     refine(a6R wr _ _ _ _ _ _ _).mono ?_;rintro N V ⟨k,rfl⟩;rw[D.out];go_wp2_with fail
     go_roundw
     case rel=>exact⟨i+1,by go_num,by omega,v,B.trans k⟩
     case measure=>simp[intOf];omega
    ·have D:Hid ((decide (l[i].2.1.length<=8)&&decide (l[i].2.2.length<=8))=false):=hid (by
      cases P:(decide (l[i].2.1.length<=8)&&decide (l[i].2.2.length<=8))
      ·rfl
      ·exact absurd ((Few.dec rfl rfl).1 P) r)
     have y:=hid (J.out i j r).symm;clear r;go_wp2_with (first|(with_reducible refine a1D a0J (by omega) (by assumption) ?_)|((with_reducible show wpList _ _ _ (⟨_, .load 41 _,_,_,_,_⟩::_) _ _);refine a0W a0k i m j rfl (by simp) QR.agg ?_;intro U q;obtain⟨K,L,M,e5,rfl⟩:=q.shape))
     refine(a6R wr _ _ _ _ _ _ _).mono ?_;rintro N V ⟨k,rfl⟩;rw[D.out];go_wp2_with fail
     go_ret
     exact⟨B.trans k,a0p y.out⟩
   ·have y:=hid (A.out fun p f=>t.out p f (by rw[s.out]at f;omega)).symm
    have F:i=n:=by omega
    subst F;go_wp2_with fail
    go_ret
    exact⟨B,a0p y.out⟩
 ·have Y:(b:Int)<(l.length:Int):=by omega
  have y:Hid (false=a3Z l b):=hid (decide_eq_false fun h=>C h.1).symm;clear C;go_enter Tryz.func69,Tryz.ntmps69
  go_wp2_with fail
  go_ret
  exact⟨ExtX.refl _,a0p y.out⟩
theorem a5x(X:Nat->Bool)(w:World)(u:Value)(m:List (List a5f))(r c:Nat)(S:MR (mk X w) u m)(f:r<=1000)(O:c<=1000):Calls Tryz.prog 34 #[u, .int .i64 (r:Int), .int .i64 (c:Int)] w (a8n w (lightM m r c)):=by
 obtain⟨ao,U,rfl,C,t⟩:=S;have P:=t.hd;by_cases A:m.length<=r
 ·have G:¬(r:Int)<(m.length:Int):=by omega
  have v:Hid ((∀p (a:p<m.length),a3Z m[p] c=true)->lightM m r c=true):=hid fun h=>decide_eq_true ⟨A,fun x hx=>by obtain⟨p,a,rfl⟩:=List.getElem_of_mem hx;exact h p a⟩;have H:Hid (∀p (a:p<m.length),a3Z m[p] c=false->lightM m r c=false):=hid fun p a h=>decide_eq_false fun M=>by have:=M.2 _ (List.getElem_mem a);rw[h]at this;simp at this
  obtain⟨n,F⟩:∃n,m.length=n:=⟨_,rfl⟩;have l:=hid F;have Q:n<=1000:=by omega
  rw[F]at P G |-;clear A F C;go_enter Tryz.func34,Tryz.ntmps34
  go_wp2_with fail
  go_loopw [7] (fun B wr=>∃i:Nat,B= .int .i64 i/\i<=n/\Hid (∀p (a:p<m.length),p<i->a3Z m[p] c=true)/\Ext w wr) (fun B _=>n - (intOf B).toNat)
  case atStart=>exact⟨0,rfl,Nat.zero_le _,hid (fun p a h=>by omega),ExtX.refl _⟩
  case round=>
   obtain⟨i,rfl,hi,o,z⟩:=hrel;by_cases E:i<n
   ·have k:i<m.length:=by rw[l.out];exact E
    have I:=t.mono RR.mono (a0l z);obtain⟨J,K,N,g,j,s⟩:=I.rowR i k;have y:=g.out noY wr (ExtX.refl _) rfl;have b:=a7z X wr (.slice J m[i].length K) m[i] c ⟨J,K,rfl,j,s⟩ O;clear g s;cases e:a3Z m[i] c
    ·rw[e]at b
     have f:=hid (H.out i k e).symm;clear e;go_wp2_with (with_reducible refine a0m a0q (by omega) (by assumption) ?_)
     refine b.mono ?_;rintro L T ⟨d,rfl⟩;clear y;go_wp2_with fail
     go_ret
     exact⟨z.trans d,a0p f.out⟩
    ·rw[e]at b
     have q:Hid (∀p (a:p<m.length),p<i+1->a3Z m[p] c=true):=hid fun p a R=>by
      by_cases h:p=i
      ·subst h;exact e
      ·exact o.out p a (by omega)
     clear e;go_wp2_with (with_reducible refine a0m a0q (by omega) (by assumption) ?_)
     refine b.mono ?_;rintro L T ⟨d,rfl⟩;clear y;go_wp2_with fail
     go_roundw
     case rel=>exact⟨i+1,by go_num,by omega,q,z.trans d⟩
     case measure=>simp[intOf];omega
   ·have f:=hid (v.out fun p a=>o.out p a (by rw[l.out]at a;omega)).symm
    have D:i=n:=by omega
    subst D;go_wp2_with fail
    go_ret
    exact⟨z,a0p f.out⟩
 ·have V:(r:Int)<(m.length:Int):=by omega
  have f:Hid (false=lightM m r c):=hid (decide_eq_false fun h=>A h.1).symm;clear A;go_enter Tryz.func34,Tryz.ntmps34
  go_wp2_with fail
  go_ret
  exact⟨ExtX.refl _,a0p f.out⟩
end Go.Proofs.YtnnpfhoigmegcaaGreat
