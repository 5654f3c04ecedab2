/- leastsq: leverage. Conditions: at most 8 rows and 4 columns of few digits, whose products are invertible. leastsq: Fit. Conditions: at most 8 rows and 4 columns, numbers of few digits. law 13: the numbers of the chapter's example. Conditions: none. reference 03: Div, Same. Conditions: at most 2^36 digits. reference 03: Same. Conditions: at most 2^36 digits. reference 03: SameList, SameLists. Conditions: at most 2^36 digits. reference 03: SameLists. Conditions: at most 2^36 digits. law 06: awake. Conditions: none. -/
import Derived.Test.YtkddecjkfdogiaaGreatLkN
namespace Go.Lin
open Go.Lim
def a4z (L:List Rat) (i:Nat):List Rat:=L.take i++List.replicate (L.length - i) 0
theorem a9r (L:List Rat):a4z L 0=List.replicate L.length 0:=by simp[a4z]
theorem a7l {L:List Rat} {i:Nat} (h:i<=L.length):(a4z L i).length=L.length:=by simp[a4z];omega
theorem a9s (L:List Rat):a4z L L.length=L:=by simp[a4z]
theorem b0I {L:List Rat} {i:Nat} (h:i<L.length):(a4z L i).set i L[i]=a4z L (i+1):=by
 unfold a4z;rw[List.set_append_right _ _ (by simp;omega),show L.length - i=(L.length - (i+1))+1 by omega,List.replicate_succ,show i - (L.take i).length=0 by simp;omega,List.set_cons_zero,<-List.take_append_getElem h,List.append_assoc];rfl
theorem b2i {u:Mat} {n m i:Nat} (hi:i<u.length) (h:i<(a5p u n m).length):(a5p u n m)[i]=a3q u[i] (a3B (a3u (a2M u n m) m) u[i]):=a7h hi h
end Go.Lin
namespace Go.Proofs.YtkddecjkfdogiaaGreat
open Go.RowKit Go.Rep Go.Lim Go.Lin
set_option maxRecDepth 100000 in
set_option maxHeartbeats 3200000 in
theorem a7m (X:Nat->Bool) (w:World) (u:Value) (z:Mat) (n m B:Nat) (hX:HX X w) (hu:MV (mk X w) u z) (hsh:Shp n m z) (hn1:1<=n) (hn:n<=8) (hm:m<=4) (hB:BM B z) (hB1:1<=B) (hBB:B<=370) (hns:m≠0->¬a3P (a2M z n m) m):
  Calls Tryz.prog 113 #[u] w (a2w X w RC (a5p z n m)):=by
 have hLl:Hid ((a5p z n m).length=n):=hid (by rw[a6m];exact hsh.1);have hLr:=hid fun i (h1:i<z.length) (h:i<(a5p z n m).length)=>b2i h1 h;have hlz:=hid fun(h0:m=0)=>(by subst h0;exact b0v hsh:a5p z n m=List.replicate n 0);have huv:=hid fun w' (h:Ext w w')=>mkx MV.mono hu h;obtain⟨ua,uc,rfl,huc,hus⟩:=hu;have hhu:=hus.hd;rw[hsh.1]at huv hhu huc |-;have hzl:=hid hsh.1;have hrw:=hid hsh.2;have h0:0<z.length:=by rw[hsh.1];exact hn1
 obtain⟨a0,c0,hX0,hc0,hcl0,hq0⟩:=hus.row 0 h0;rw[hsh.2 z[0] (List.getElem_mem _)]at hc0;have hg:=hid fun(h1:1<=m)=>(⟨b0V hsh (by omega) h1 (by omega),a8y hsh hn1,b0V (a2j z n m) (by omega) hn1 (by omega),a8y (a2j z n m) h1,b0V (a1c z n m) (by omega) h1 (by omega),a8y (a1c z n m) h1,b0V (a2W (a1c z n m)) (by omega) h1 (by omega),a8y (a2W (a1c z n m)) h1⟩:a0x z=true/\colsL z=m/\a0x (trL z n m)=true/\colsL (trL z n m)=n/\a0x (a2M z n m)=true/\colsL (a2M z n m)=m/\a0x (a3u (a2M z n m) m)=true/\colsL (a3u (a2M z n m) m)=m);have hhb:=a7D hB hB1;have htb:BM B (trL z n m):=a6V (b2F hhb);have hgb:=hid (a8K (m:=m) hhb hn hBB);have hib:=hid (b0B (m:=m) hhb hn hm hBB);have hlb:=hid fun r (hr:r∈z)=>b3V (m:=m) hB hn hm hB1 hBB hr;have hl1:=hid (a2j z n m).1;have hl2:=hid (a1c z n m).1;have hl3:=hid (a2W (a1c z n m));have htw:=hid fun(h1:1<=m)=>(a4w (a1j (a1c z n m)) (a8L (a1c z n m) hgb.out) hm (by decide)).1;have htr:=hid fun(h1:1<=m) Z w' (v:Value) (hZ:HX Z w') (h:MV (mk Z w') v z)=>a2e Z w' v z n m hZ h (hg.out h1).1 hsh.1 (hg.out h1).2.1;have hmu:=hid fun(h1:1<=m) Z w' (v u2:Value) (hZ:HX Z w') (ht:MV (mk Z w') v (trL z n m)) (h:MV (mk Z w') u2 z)=>b5h Z w' v u2 (trL z n m) z m n m B hZ ht h (hg.out h1).2.2.1 (hg.out h1).1 hl1.out hsh.1 (hg.out h1).2.2.2.1 (hg.out h1).2.1 htb hB hB1 (by omega);have hin:=hid fun(h1:1<=m) Z w' (v:Value) (hZ:HX Z w') (ht:MV (mk Z w') v (a2M z n m))=>a9p Z w' v (a2M z n m) m hZ ht (hg.out h1).2.2.2.2.1 hl2.out (hg.out h1).2.2.2.2.2.1 (htw.out h1);obtain⟨T,hT⟩:∃T,trL z n m=T:=⟨_,rfl⟩;have hgl:a2M z n m=a5n T z n m:=by rw[<-hT];rfl
 have hgb2:BM 68719476736 (a5n T z n m):=by rw[<-hgl];exact fun r hr q hq=>Nat.le_trans (a6V hgb.out r hr q hq) (by decide)
 rw[hT]at htr hmu htb;rw[hgl]at hin hns hLr hib hlb hl3 hg;obtain⟨G,hG⟩:∃G,a5n T z n m=G:=⟨_,rfl⟩;rw[hG]at hin hns hLr hib hlb hl3 hg hgb2 hmu;obtain⟨I,hI⟩:∃I,a3u G m=I:=⟨_,rfl⟩;rw[hI]at hLr hib hlb hl3 hg;unfold b2Q at hin;rw[hI]at hin;have hap:=hid fun(Z:Nat->Bool) w' (v t:Value) (r:List Rat) (h1:1<=m) (hXw:HX Z w') (h2:MV (mk Z w') v I) (h3:RV (mk Z w') t r) (h4:r.length=m) (h5:BR B r)=>a8z Z w' v t I r 8000000 hXw h2 h3 (hg.out h1).2.2.2.2.2.2.1 (by rw[h4,(hg.out h1).2.2.2.2.2.2.2]) hib.out (fun q hq=>Nat.le_trans (h5 q hq) (by omega)) (by decide) (by decide);have hdo:=hid fun(Z:Nat->Bool) w' (v t:Value) (r:List Rat) (hXw:HX Z w') (h2:RV (mk Z w') v r) (h3:RV (mk Z w') t (a3B I r)) (h4:r.length=m) (h5:r∈z) (h6:(a3B I r).length=r.length)=>a4S Z w' v t r (a3B I r) hXw h2 h3 (by omega) h6 (a2q (B:=33000000) (fun q hq=>Nat.le_trans (hB r h5 q hq) (by omega)) (hlb.out r h5) (by decide) (by omega) (by decide)).1 (a2q (B:=33000000) (fun q hq=>Nat.le_trans (hB r h5 q hq) (by omega)) (hlb.out r h5) (by decide) (by omega) (by decide)).2;have hdq:=hid fun r (h5:r∈z) (h4:r.length=m)=>(Nat.le_trans (b0z h4 (hB r h5) (hlb.out r h5) hB1 (by decide)) (by have:=Nat.mul_le_mul hm (show B+33000000+1<=33000371 by omega);omega):hq (a3q r (a3B I r))<=68719476736);have hIb:BM 68719476736 I:=fun r hr q hq=>Nat.le_trans (hib.out r hr q hq) (by decide);have hTb:BM 68719476736 T:=fun r hr q hq=>Nat.le_trans (htb r hr q hq) (by omega);obtain⟨L,hL⟩:∃L,a5p z n m=L:=⟨_,rfl⟩;rw[hL]at hLl hLr hlz |-;have hLz:Hid (a4z L 0=List.replicate n 0):=hid (by rw[a9r,hLl.out]);have hBm:=hid hB;clear hT hgl hG hI hL htb hhb hgb hB hsh hq0 hcl0 h0;go_enter Tryz.func113,Tryz.ntmps113
 go_wp2_with ((with_reducible show wpList _ _ _ (⟨_, .makeSlice _ _ _,_,_,_,_⟩::_) _ _);refine a1Z (R:=QC) a0E QC.elem (0:Rat) (fun _=>QC.zero _) X hX w.heap.size (Nat.le_refl _) n rfl rfl rfl (by omega) (by omega) ?_;intro oo w1 hO1 hE1)
 rw[<-hLz.out]at hO1;have hX1:=hX.ext hE1;have k00:=hc0.out noY w1 hE1 rfl;have hI0:(0:Int)<=0/\(0:Int)<(n:Int):=by omega
 by_cases hm0:m=0
 ·have ht:((m:Int)==0)=true:=a7n (by omega)
  have hz:=hlz.out hm0;rw[hLz.out,<-hz]at hO1;have hc:=hO1.lenCap;have hs:=hO1.sl QC.elem;rw[hLl.out]at hc;clear hlz hz hm0 hI0 htr hmu hin hap hdo hdq;go_wp2_with (with_reducible refine a0t a0r (by omega) (by assumption) ?_)
  go_ret
  exact⟨hE1,_,rfl,oo,n,by rw[hLl.out];rfl,by rw[hLl.out];exact hc,hs⟩
 ·have ht:((m:Int)==0)=false:=a3E (by omega)
  have h1:1<=m:=by omega
  have hXu1:HX (un X oo) w1:=hO1.unX hX1;have hzu:Hid (∀w',Ext w1 w'->MV (mk (un X oo) w') (.slice ua n uc) z):=hid fun w' h=>mkx MV.mono ⟨ua,uc,by rw[hzl.out],by rw[hzl.out];exact huc,hus.old RV.mono hE1 (fun j hj=>hO1.ob_lt hj)⟩ h;have htr1:=htr.out h1 (un X oo) w1 _ hXu1 (hzu.out w1 (ExtX.refl _));have hns:=hns hm0;clear hlz htr hm0;go_wp2_with (with_reducible refine a0t a0r (by omega) (by assumption) ?_)
  refine htr1.mono ?_;rintro e w2 ⟨hE2,tv,rfl,htv⟩;have hmu2:=hmu.out h1 (un X oo) w2 tv _ (hXu1.ext hE2) (htv.mv hTb) (hzu.out w2 hE2);obtain⟨tvo,tc,rfl,_,_⟩:=htv;clear htr1 k00;go_wp2_with fail
  refine hmu2.mono ?_;rintro e w3 ⟨hE3,gv,rfl,hgv⟩;have hin3:=hin.out h1 (un X oo) w3 gv (hXu1.ext (hE2.trans hE3)) (hgv.mv hgb2);clear hmu2;go_wp2_with fail
  refine hin3.mono ?_;rintro e w4 ⟨hE4,hor⟩;rcases hor with⟨hsg,_⟩|⟨_,iv,rfl,hiv⟩
  ·exact absurd hsg hns
  have hE14:=hE2.trans (hE3.trans hE4);have hO4:=hO1.ext0 QC.elem hE14;have hiu:=hiv.mv hIb;have hE04:=hE1.trans hE14;have hX4:=hX.ext hE04;clear hI0 hin3 hmu hin hO1 hiv hzu;obtain⟨ivo,ivc,rfl,hivc,hivs⟩:=hiu;rw[hl3.out.1]at hivc |-;have hiw:MV (mk (un X oo) w4) (.slice ivo m ivc) I:=⟨ivo,ivc,by rw[hl3.out.1],by rw[hl3.out.1];exact hivc,hivs⟩;go_wp2_with fail
  go_loopw [41] (fun k wr=>∃(i:Nat),k= .int .i64 i/\i<=n/\OL QC 3 X w.heap.size 32 wr oo n (a4z L i)/\ExtX (ob oo) w4 wr/\Ext w wr) (fun k _=>n - (intOf k).toNat)
  case atStart=>exact⟨0,rfl,Nat.zero_le _,hO4,ExtX.refl _,hE04⟩
  case round=>
   obtain⟨i,rfl,hi,hO,hEo,hE0r⟩:=hrel;clear hO4;have hXr:HX X wr:=hX.ext hE0r;by_cases hlt:i<n
   ·have hiz:i<z.length:=by rw[hzl.out];exact hlt
    have hiL:i<L.length:=by rw[hLl.out];exact hlt
    have hXu:HX (un X oo) wr:=hO.unX hXr;have hsr:Sl RV 1 (mk (un X oo) wr) ua z:=hus.old RV.mono hE0r (fun j hj=>hO.ob_lt hj);obtain⟨a1,c1,hX1',hc1,hcl1,hq1⟩:=hsr.row i hiz;have k00:=hc1.out noY wr (ExtX.refl _) rfl;have hrl:=hrw.out z[i] (List.getElem_mem _);have hLi:=hLr.out i hiz hiL;have hzm:=List.getElem_mem hiz;have hrV:RV (mk (un X oo) wr) (.slice a1 m c1) z[i]:=⟨a1,c1,by rw[hrl],hcl1,hq1⟩;have hap1:=hap.out (un X oo) wr _ _ z[i] h1 hXu (MV.mono _ _ _ _ (a0O hEo fun k hk=>a0q hk) hiw) hrV hrl (hBm.out z[i] hzm);have hdo1:=hid fun w' (v t:Value) (hX':HX (un X oo) w') (h2:RV (mk (un X oo) w') v z[i]) (h3:RV (mk (un X oo) w') t (a3B I z[i]))=>hdo.out (un X oo) w' v t z[i] hX' h2 h3 hrl hzm (by rw[a6g,hl3.out.1,hrl]);have hdq1:=hid (hdq.out z[i] hzm hrl);have hfs:=hid (b0I hiL);rw[hLi]at hfs;rw[hrl]at k00;have hfl:i<(a4z L i).length:=by rw[a7l (by omega)];exact hiL
    have hho:Hd oo n:=by have:=hO.hd;rw[a7l (by omega),hLl.out]at this;exact this
    have hlnb:Hid (BR 68719476736 (a3B I z[i])):=hid fun q hq=>Nat.le_trans (hlb.out z[i] hzm q hq) (by decide);have hlnl:Hid ((a3B I z[i]).length=m):=hid (by rw[a6g];exact hl3.out.1);obtain⟨v,hv⟩:∃v,a3q z[i] (a3B I z[i])=v:=⟨_,rfl⟩;rw[hv]at hdo1 hfs;obtain⟨ln,hln⟩:∃ln,a3B I z[i]=ln:=⟨_,rfl⟩;rw[hln]at hap1 hdo1 hlnb hlnl;obtain⟨r,hr⟩:∃r,z[i]=r:=⟨_,rfl⟩;rw[hr]at hrV hdo1;clear hv hln hr hc1 hrl hLi hq1 hcl1 hdq1;go_wp2_with (with_reducible refine a0t a0r (by omega) (by assumption) ?_)
    refine hap1.mono ?_;rintro e w6 ⟨hE6,lv,rfl,hlv⟩;have hX6:=hXu.ext hE6;have hrV6:=mkx RV.mono hrV hE6;have hO6:=hO.ext0 QC.elem hE6;have hd6:=hdo1.out w6 _ lv hX6 hrV6 (hlv.rv hlnb.out);obtain⟨lo,lc,rfl,_,_⟩:=hlv;rw[hlnl.out]at hd6 |-;clear hap1 k00;go_wp2_with fail
    refine hd6.mono ?_;rintro e w7 ⟨hE7,u7,rfl,hu7⟩;obtain⟨s7,a7,n7,c7,d7,k7,e7,rfl⟩:=hu7.shape;have hO7:=hO6.ext0 QC.elem hE7;clear hd6;go_wp2_with (first|(with_reducible refine a2r a0E (by omega) (by assumption) ?_)|((with_reducible show wpList _ _ _ (⟨_, .store 32 _ _,_,_,_,_⟩::_) _ _);refine a2O a6c QC.elem i rfl (by simp) hO7 hfl (.agg #[.bool s7, .slice a7 n7 c7, .slice d7 k7 e7]) v rfl hu7 ?_;intro w8 hO8 hE8))
    rw[hfs.out]at hO8;have hE9:=(hE0r.trans (hE6.trans hE7)).own hO7 (Nat.le_refl _) hE8;have hEo9:=(hEo.trans (ExtX.of (hE6.trans hE7))).trans hE8;go_roundw
    case rel=>exact⟨i+1,by go_num,by omega,hO8,hEo9,hE9⟩
    case measure=>simp[intOf];omega
   ·have hin:i=n:=by omega
    subst hin;have hff:a4z L i=L:=by rw[<-hLl.out];exact a9s L
    rw[hff]at hO;have hc:=hO.lenCap;have hs:=hO.sl QC.elem;go_wp2_with fail
    go_ret
    exact⟨hE0r,_,rfl,oo,i,by rw[hLl.out];rfl,hc,hs⟩
end Go.Proofs.YtkddecjkfdogiaaGreat
namespace Go.Lin
open Go.Lim Go.Rep
noncomputable def b4e (x:Mat) (y:List Rat) (n c:Nat):Fit:=⟨(a1i x c).2.length,usedL (a1i x c).2 c,a1X x y n c,a4u x y (a1X x y n c),a3q (a4u x y (a1X x y n c)) (a4u x y (a1X x y n c)),a5p (pkL x (a1i x c).2) n (a1i x c).2.length⟩
theorem b2j {x:Mat} {y:List Rat} {n c:Nat} (hs:Shp n c x) (hn:n<=8) (hc1:1<=c) (hc:c<=4):
  a3b (gmM x y c n)=true/\(gmM x y c n).xx.length=c/\c∉(fmS (gmM x y c n)).2/\fmC (gmM x y c n)=a1X x y n c/\a6Q (gmM x y c n).xx c=(a1i x c).2.length:=by
 have h1:(gmM x y c n).xx.length=c:=(a1B x n c).1;have h2:fmS (gmM x y c n)=lsS x y n c:=by unfold fmS lsS;rw[h1];rfl
 have h3:fmC (gmM x y c n)=a1X x y n c:=by unfold fmC a1X;rw[h2,h1]
 have h4:colsL (gmM x y c n).xx=c:=a8y (a1B x n c) hc1;refine⟨?_,h1,by rw[h2];exact(b3L hs).1,h3,by rw[a6R];exact congrArg List.length (b5k hs)⟩;unfold a3b;rw[h1,h4,show a0x (gmM x y c n).xx=true from b0V (a1B x n c) (by omega) hc1 (by omega),show(gmM x y c n).xy.length=c from a5k x y n c];simp only[Bool.true_and,Bool.and_eq_true,decide_eq_true_eq];exact⟨⟨by show(0:Int)<=(n:Int);omega,by show(n:Int)<=1099511627776;omega⟩,trivial,trivial,by omega⟩
end Go.Lin
namespace Go.Proofs.YtkddecjkfdogiaaGreat
open Go.RowKit Go.Rep Go.Lim Go.Lin
theorem b2k:(Tryz.prog.info? 61).map (fun i=>(i.zero,i.size,i.bytes))=some (some (.slice none 0 0),1,24):=by kernel_rfl
theorem b4f:TyI Tryz.prog 61 1:=let ⟨i,h,_,h2,_⟩:=info_parts b2k;⟨i,h,h2⟩
theorem a7M {P:Program} {ops:Array Oper} {Q:Exit->Act->World->Prop} {rest:List Oper} {a:Act} {w:World} {d:Option Tmp} {ty:TypeId} {ps:String} {af:Array Edge} {t:TypeId} {x y:Operand} {n b o:Nat} {cs vs:Array Value} {T:TypeId} (hT:a1F P t n) (hx:a.eval x= .pointer (some ⟨b,o,none⟩)) (hy:a.eval y= .agg vs) (hb:Bx w b cs T) (hcs:o+n<=cs.size) (hvs:vs.size=n) (hone:∀v∈vs.toList,v.oneCell'=true)
  (K:∀w',Bx w' b (cs.toList.take o++vs.toList++cs.toList.drop (o+n)).toArray T->ExtX (ob (some ⟨b,0,none⟩)) w w'->wpList P ops Q rest (a.put d undef) w'):
  wpList P ops Q (⟨d, .store t x y,ty,ps,af,none⟩::rest) a w:=by
 refine wpList_plain rfl fun K' hK'=>?_;obtain⟨fs,ti,h1,h2,h3⟩:=hT;have hst:=run_storeCells_at P b o T vs.toList 0 cs w hb (by simp[hvs];omega) hone;have hr:(storeVar t ⟨b,o,none⟩ (.agg vs)).run P w= .ok () (w.setRow b (cs.toList.take (o+0)++vs.toList++cs.toList.drop (o+0+vs.toList.length)).toArray):=by
  simp[storeVar,sizeOf,typeInfo,h2,h3,Value.cells,hvs];simp only[Nat.add_zero,Array.length_toList,hvs,List.append_assoc]at hst |-;exact hst
 unfold Oper.wp;simp[execOp,hx,hy,Instr.storeAt,Instr.sureAddr,hr,Result.andThen];refine hK' _ _ (K _ ?_ ?_)
 ·unfold Bx
  have:=setRow_heap w b cs (cs.toList.take (o+0)++vs.toList++cs.toList.drop (o+0+vs.toList.length)).toArray T (0,0) hb;simp only[Nat.add_zero,Array.length_toList,hvs,List.append_assoc]at this |-;exact this
 ·exact⟨rfl,rfl,rfl,by simp,fun k _ hk=>setRow_other w b k _ (fun ek=>by subst ek;simp[ob]at hk)⟩
def b0J (X:Nat->Bool) (w:World) (f:Fit) (e:Ending) (w':World):Prop:=Ext w w'/\∃u,e= .returned (.tuple #[u, .int .i64 0])/\b6e (mk X w') u f
set_option maxRecDepth 100000 in
set_option maxHeartbeats 6400000 in
theorem b0K (X:Nat->Bool) (w:World) (u t:Value) (x:Mat) (y:List Rat) (n c B:Nat) (hX:HX X w) (hu:MV (mk X w) u x) (ht:RV (mk X w) t y) (hok:a7I x y=true) (hnx:x.length=n) (hcx:colsL x=c) (hn:n<=8) (hc:c<=4) (hxB:BM B x) (hyB:BR B y) (hB1:1<=B) (hB:B<=370):
  Calls Tryz.prog 39 #[u,t] w (b0J X w (b4e x y n c)):=by
 obtain⟨W,hW,hE,b0,hz⟩:=a1L w #[.int .i64 0, .slice none 0 0, .slice none 0 0, .slice none 0 0, .bool false, .slice none 0 0, .slice none 0 0, .slice none 0 0] 63;have hXW:HX (a0i X w.heap.size 1) W:=hX.boxes hz;have hle:Hid (∀w',Ext W w'->Le (mk X w) (mk (a0i X w.heap.size 1) w')):=hid fun w' h=>a0s (hE.trans h);obtain⟨b,hb⟩:∃b,w.heap.size=b:=⟨_,rfl⟩;rw[hb]at b0 hz hXW hle;have hbw:w.heap.size<=b:=by omega
 obtain⟨Z0,hZ0⟩:∃Z0,a0i X b 1=Z0:=⟨_,rfl⟩;rw[hZ0]at hXW hle;obtain⟨hf,h1,h64,h12,hyl⟩:=a2N.1 hok;obtain⟨hsh,h96,_,hpos,_⟩:=a0K hf;rw[hnx]at h1;have hc1:=hpos (by omega);rw[hcx]at hc1;have hsh':=hsh;rw[hnx,hcx]at hsh;rw[hnx]at hyl;have huW:=hid fun w' (h:Ext W w')=>MV.mono _ _ _ _ (hle.out w' h) hu;have htW:=hid fun w' (h:Ext W w')=>RV.mono _ _ _ _ (hle.out w' h) ht;have hga:=a4x Z0 W u t x y n c B hXW (huW.out W (ExtX.refl _)) (htW.out W (ExtX.refl _)) hok hnx hcx hn hc hxB hyB hB1 hB;obtain⟨f1,f2,f3,f4,f5⟩:=b2j (y:=y) hsh hn hc1 hc;have hhb:=a7D hxB hB1;have hT:=a9j hsh hhb hc (by omega);obtain⟨_,hg,_,_⟩:=a0X hsh;have hrb:BM 68719476736 (a1i x c).1:=by
  obtain⟨B',hb6,hbj⟩:=hT.2;rw[(b2B hsh).1];exact fun r hr q hq=>Nat.le_trans (a6V (hbj c (Nat.le_refl _)).1 r hr q hq) (by omega)
 have hcb:=b3S (c:=c) hhb hyB hn hc hB;have hrsb:=b3T hsh hxB hyB hcb hB1 hc hB;have hresl:(a4u x y (a1X x y n c)).length=n:=by rw[a8F (by rw[hyl,hnx])];exact hnx
 have hp4:=Nat.le_trans (b5m hsh) hc;have hbmM:BMo 5929 (gmM x y c n):=⟨a6V (a8I hhb hn hB),a8J hhb hyB hn hB,Nat.le_trans (a9k (B:=2*B) fun r _=>Nat.le_trans (hq_mul _ _) (by have:=b2a hyB hB1 r;omega)) (a4l hn hB)⟩;have hal:=hid fun Z w' (hZ:HX Z w') (h:MV (mk Z w') u x)=>b0C Z w' u x n c hZ h hf hnx hcx h1 hT.1 hrb;have hfm:=hid fun Z w' (v:Value) (hZ:HX Z w') (h:a2x (mk Z w') v (gmM x y c n))=>b0H Z w' v (gmM x y c n) hZ (h.mv ⟨fun r hr q hq=>Nat.le_trans (hbmM.1 r hr q hq) (by decide),fun q hq=>Nat.le_trans (hbmM.2.1 q hq) (by decide),Nat.le_trans hbmM.2.2 (by decide)⟩) (by rw[f2];exact hc) hbmM;have hrs:=hid fun Z w' (v:Value) (hZ:HX Z w') (h:MV (mk Z w') u x) (h2:RV (mk Z w') t y) (h3:RV (mk Z w') v (a1X x y n c))=>b2h Z w' u t v x y (a1X x y n c) n c 8000000 hZ h h2 h3 hsh hyl (a7e _ _ _ _) (by omega) (by omega) (fun r hr q hq=>Nat.le_trans (hxB r hr q hq) (by omega)) hcb (by decide) (by decide);have hdb:=a2q (l:=a4u x y (a1X x y n c)) (m:=a4u x y (a1X x y n c)) hrsb hrsb (by decide) (by rw[hresl];omega) (by decide);have hdo:=hid fun Z w' (v:Value) (hZ:HX Z w') (h:RV (mk Z w') v (a4u x y (a1X x y n c)))=>a4S Z w' v v _ _ hZ h h (by rw[hresl];omega) rfl hdb.1 hdb.2;have hch:=hid fun Z w' (uo:Option Addr) (uc:Nat) (hZ:HX Z w') (h:MV (mk Z w') u x) (h2:Sl BlR 1 (mk Z w') uo (usedL (a1i x c).2 c))=>a9q Z w' u uo uc x (a1i x c).2 n c hZ h h2 hsh (by omega) (by omega) hg.pw (fun j hj=>by obtain⟨k,hk,rfl⟩:=List.getElem_of_mem hj;exact hg.lt k hk) (fun r hr q hq=>Nat.le_trans (hxB r hr q hq) (by omega));have hlv:=hid fun Z w' (v:Value) (hZ:HX Z w') (h:MV (mk Z w') v (pkL x (a1i x c).2))=>a7m Z w' v (pkL x (a1i x c).2) n (a1i x c).2.length B hZ h (b3M hsh _) h1 hn hp4 (b5s hxB hB1) hB1 hB (fun _=>(b3O hsh hp4).1);have hcbv:Hid (BR 68719476736 (a1X x y n c)):=hid fun q hq=>Nat.le_trans (hcb q hq) (by decide);have hrbv:Hid (BR 68719476736 (a4u x y (a1X x y n c))):=hid fun q hq=>Nat.le_trans (hrsb q hq) (by decide);have hcl:=hid (a7e x y n c);have hrl:=hid hresl;have hfd:=hid (show b4e x y n c=⟨(a1i x c).2.length,usedL (a1i x c).2 c,a1X x y n c,a4u x y (a1X x y n c),a3q (a4u x y (a1X x y n c)) (a4u x y (a1X x y n c)),a5p (pkL x (a1i x c).2) n (a1i x c).2.length⟩from rfl);unfold b0G at hfm;rw[f1,f2,f4,f5]at hfm;obtain⟨Fi,hFi⟩:∃Fi,b4e x y n c=Fi:=⟨_,rfl⟩;rw[hFi]at hfd |-;have hul:=hid (a4k (a1i x c).2 c);obtain⟨Cf,hCf⟩:∃Cf,a1X x y n c=Cf:=⟨_,rfl⟩;rw[hCf]at hfm hrs hdo hcbv hrbv hcl hrl hfd;obtain⟨Rs,hRs⟩:∃Rs,a4u x y Cf=Rs:=⟨_,rfl⟩;rw[hRs]at hrs hdo hrbv hrl hfd;obtain⟨Us,hUs⟩:∃Us,usedL (a1i x c).2 c=Us:=⟨_,rfl⟩;unfold b5v at hal;rw[hUs]at hch hfd hal hul;obtain⟨p,hp⟩:∃p,(a1i x c).2=p:=⟨_,rfl⟩;rw[hp]at hch hfd hlv hfm;obtain⟨pl,hpl⟩:∃pl,p.length=pl:=⟨_,rfl⟩;rw[hpl]at hfd hlv hfm;obtain⟨M,hM⟩:∃M,gmM x y c n=M:=⟨_,rfl⟩;rw[hM]at hga hfm f3;clear hok hf h64 h12 hpos hsh hsh' f1 f2 f4 f5 hhb hT hg hrb hcb hrsb hresl hp4 hbmM hdb hFi hCf hRs hUs hp hpl hM hnx hcx hyl hu ht h96;have hfin:Hid (∀w' uo uc co cc ro rc (s:Bool) a n' c' d k e lo lc,Ext w w'->c<=uc->Sl BlR 1 (mk X w') uo Us->RC (mk X w') (.slice co c cc) Cf->RC (mk X w') (.slice ro n rc) Rs->QC (mk X w') (.agg #[.bool s, .slice a n' c', .slice d k e]) (a3q Rs Rs)->∀ll,RC (mk X w') (.slice lo ll lc) (a5p (pkL x p) n pl)->b0J X w Fi (.returned (.tuple #[.agg #[.int .i64 (pl:Int), .slice uo c uc, .slice co c cc, .slice ro n rc, .bool s, .slice a n' c', .slice d k e, .slice lo ll lc], .int .i64 0])) w'):=hid fun w' uo uc co cc ro rc s a n' c' d k e lo lc h0 h1 h2 h3 h4 h5 ll h6=>by
  rw[hfd.out];exact⟨h0,_,rfl,uo,uc,co,c,cc,ro,n,rc,s,a,n',c',d,k,e,lo,ll,lc,by rw[hul.out],by rw[hul.out];exact h1,h2,h3,h4,h5,h6⟩
 obtain⟨F,hF⟩:∃F,b0J X w Fi=F:=⟨_,rfl⟩;rw[hF]at hfin |-;have hXZ0:Hid (∀k,X k=true->Z0 k=true):=hid fun k hk=>by rw[<-hZ0];simp[a0i,hk]
 have hb0:Hid (∀k,ob (some ⟨b,0,none⟩) k=true->Z0 k=true):=hid fun k hk=>by
  have hk2:b=k:=by simpa[ob]using hk
  rw[<-hZ0];exact a6b (by omega) (by omega)
 clear hF hfd hul hZ0;go_enter Tryz.func39,Tryz.ntmps39
 go_wp2_with fail
 refine hga.mono ?_;rintro ee w1 ⟨hE1,mv,rfl,hmv⟩;obtain⟨xo,xl,xc,yo,yl,yc,s,a,n',c',d,k,e,rfl,q1,q2,q3⟩:=hmv;have hmv:a2x (mk Z0 w1) _ M:=⟨xo,xl,xc,yo,yl,yc,s,a,n',c',d,k,e,rfl,q1,q2,q3⟩;have bm:=Bx.new w1 #[.int .i64 0, .slice none 0 0, .slice none 0 0, .bool false, .slice none 0 0, .slice none 0 0] 83;clear q1 q2 q3 hga;go_wp2_with (first
  |((with_reducible show wpList _ _ _ (⟨_, .store 83 _ _,_,_,_,_⟩::_) _ _);refine a0c a1I rfl rfl bm rfl rfl (by intro v hv;simp at hv;rcases hv with rfl|rfl|rfl|rfl|rfl|rfl<;>rfl) ?_;intro w2 m1 m2;have bf:=Bx.new w2 #[.int .i64 0, .slice none 0 0, .slice none 0 0, .slice none 0 0, .bool false, .slice none 0 0, .slice none 0 0, .slice none 0 0] 63)
  |((with_reducible show wpList _ _ _ (⟨_, .store 63 _ _,_,_,_,_⟩::_) _ _);refine a0c b1Y rfl rfl bf rfl rfl (by intro v hv;simp at hv;rcases hv with rfl|rfl|rfl|rfl|rfl|rfl|rfl|rfl<;>rfl) ?_;intro w3 v1 v2))
 obtain⟨g,hg⟩:∃g,w1.heap.size=g:=⟨_,rfl⟩;have hgw:w1.heap.size<=g:=by omega
 have zG:(w1.alloc (.cells #[.int .i64 0, .slice none 0 0, .slice none 0 0, .bool false, .slice none 0 0, .slice none 0 0] 83)).heap.size=g+1:=by rw[<-hg];simp
 have eG:Ext w1 (w1.alloc (.cells #[.int .i64 0, .slice none 0 0, .slice none 0 0, .bool false, .slice none 0 0, .slice none 0 0] 83)):=(ExtX.refl _).alloc _;rw[hg]at m1 m2 |-;have hE2:Ext w1 w2:=ExtX.box eG m2 hgw;have hg2:g<w2.heap.size:=by have:=m2.size;omega
 obtain⟨h,hh⟩:∃h,w2.heap.size=h:=⟨_,rfl⟩;have zH:(w2.alloc (.cells #[.int .i64 0, .slice none 0 0, .slice none 0 0, .slice none 0 0, .bool false, .slice none 0 0, .slice none 0 0, .slice none 0 0] 63)).heap.size=h+1:=by rw[<-hh];simp
 have eH:Ext w2 (w2.alloc (.cells #[.int .i64 0, .slice none 0 0, .slice none 0 0, .slice none 0 0, .bool false, .slice none 0 0, .slice none 0 0, .slice none 0 0] 63)):=(ExtX.refl _).alloc _;rw[hh]at v1 v2 hg2 |-;have hgh:w1.heap.size<=h:=by omega
 have hE3:Ext w1 w3:=ExtX.box (hE2.trans eH) v2 hgh;have hh3:h<w3.heap.size:=by have:=v2.size;omega
 have m3:=(m1.ext0 eH).ext v2 (a0e (by omega));obtain⟨Z,hZ⟩:∃Z,un Z0 (some ⟨h,0,none⟩)=Z:=⟨_,rfl⟩;have hX3:HX Z w3:=by rw[<-hZ];exact a1x (hXW.ext (hE1.trans hE3)) hh3
 have hZb:Hid (∀k,ob (some ⟨h,0,none⟩) k=true->Z k=true):=hid fun k hk=>by rw[<-hZ];simp[un,hk]
 have hZ0:Hid (∀k,Z0 k=true->Z k=true):=hid fun k hk=>by rw[<-hZ];simp[un,hk]
 have hnx:Hid (∀a b,ExtX (ob (some ⟨h,0,none⟩)) a b->Le (mk Z a) (mk Z b)):=hid fun a b hab=>a4v hab hZb.out fun _ hk=>hk;have huZ:=hid fun w' (hw:Ext w1 w')=>MV.mono _ _ _ _ (hZ▸a1w hw hgh:Le (mk Z0 w1) (mk Z w')) (huW.out w1 hE1);have htZ:=hid fun w' (hw:Ext w1 w')=>RV.mono _ _ _ _ (hZ▸a1w hw hgh:Le (mk Z0 w1) (mk Z w')) (htW.out w1 hE1);have hmZ:=hid fun w' (hw:Ext w1 w')=>a2x.mono _ _ _ _ (hZ▸a1w hw hgh:Le (mk Z0 w1) (mk Z w')) hmv;have hxg:=hid fun w' (hw:w3.heap.size<=w'.heap.size)=>(fun k hk=>Nat.lt_of_lt_of_le (hX3 k hk) hw:HX Z w');have ha3:=hal.out Z w3 hX3 (huZ.out w3 hE3);clear hal hmv huW htW hZ zG zH eG eH bm bf m1 m2 v2 hE2;go_wp2_with fail
 refine ha3.mono ?_;rintro ee w4 ⟨e4,uo,uc,uv,rfl,huc,hus⟩;have v4:=v1.ext0 e4;have m4:=m3.ext0 e4;have hE4:=hE3.trans e4;have s4:=e4.size;clear ha3 v1 m3;go_wp2_with ((show wpList _ _ _ (⟨_, .store _ _ _,_,_,_,_⟩::_) _ _);refine a1N (v:= .slice uo c uc) b4f rfl rfl rfl rfl v4 (by decide) ?_;intro w5 v5 x5;have m5:=m4.ext x5 (a0e (by omega));have q0:=m5.cell 0 rfl;have q1:=m5.cell 1 rfl;have q2:=m5.cell 2 rfl;have q3:=m5.cell 3 rfl;have q4:=m5.cell 4 rfl;have q5:=m5.cell 5 rfl)
 have hE5:=ExtX.box hE4 x5 hgh;have hus:=hus.mono BlR.mono (hnx.out _ _ x5);have hf5:=hfm.out Z w5 _ (hxg.out w5 (Nat.le_trans s4 x5.size)) (hmZ.out w5 hE5);have s5:=Nat.le_trans s4 x5.size;clear hfm q0 q1 q2 q3 q4 q5 m4 m5 v4 hmZ e4 s4 hE4;refine hf5.mono ?_;rintro ee w6 ⟨e6,cv,cu,ck,cc0,rfl,hor⟩;rcases hor with⟨hbad,_⟩|⟨_,hbad,_⟩|⟨_,_,rfl,rfl,hcv,_⟩
 ·simp at hbad
 ·exact absurd hbad f3
 have v6:=v5.ext0 e6;have hE6:=hE5.trans e6;have s6:=Nat.le_trans s5 e6.size;have hus:=hus.mono BlR.mono (hnx.out _ _ (ExtX.of e6));have hcv':=hid hcv;obtain⟨co,cc,rfl,hcc,hcs⟩:=hcv;rw[hcl.out]at hcv' hcc |-;clear hf5 f3 v5 e6 s5 hE5 x5 hcs hcl;go_wp2_with ((show wpList _ _ _ (⟨_, .store _ _ _,_,_,_,_⟩::_) _ _);first
  |(refine a1N (v:= .slice co c cc) a8H rfl rfl rfl rfl v6 (by simp) ?_;intro w7 v7 x7)
  |(refine a1N (v:= .int .i64 (pl:Int)) b5J rfl rfl rfl rfl v7 (by simp) ?_;intro w8 v8 x8;have q2:=v8.cell 2 rfl))
 have w68:=x7.trans x8;have hE8:=ExtX.box (ExtX.box hE6 x7 hgh) x8 hgh;have s8:=Nat.le_trans s6 w68.size;have hus:=hus.mono BlR.mono (hnx.out _ _ w68);have hcv8:=RC.mono _ _ _ _ (hnx.out _ _ w68) hcv'.out;have hr8:=hrs.out Z w8 _ (hxg.out w8 s8) (huZ.out w8 hE8) (htZ.out w8 hE8) (hcv8.rv hcbv.out);clear hrs htZ hcv' x7 x8 v6 v7 w68 hcbv s6 hE6;go_wp2_with fail
 refine hr8.mono ?_;rintro ee w9 ⟨e9,rv,rfl,hrv⟩;have v9:=v8.ext0 e9;have hE9:=hE8.trans e9;have s9:=Nat.le_trans s8 e9.size;have hus:=hus.mono BlR.mono (hnx.out _ _ (ExtX.of e9));have hcv9:=RC.mono _ _ _ _ (hnx.out _ _ (ExtX.of e9)) hcv8;have hrv':=hid hrv;obtain⟨ro,rc,rfl,hrc,hrs⟩:=hrv;rw[hrl.out]at hrv' hrc |-;clear q2 hr8 v8 e9 s8 hE8 hrs hrl hcv8;go_wp2_with ((show wpList _ _ _ (⟨_, .store _ _ _,_,_,_,_⟩::_) _ _);refine a1N (v:= .slice ro n rc) a8H rfl rfl rfl rfl v9 (by simp) ?_;intro wa va xa;have q3:=va.cell 3 rfl)
 have hEa:=ExtX.box hE9 xa hgh;have sa:=Nat.le_trans s9 xa.size;have hus:=hus.mono BlR.mono (hnx.out _ _ xa);have hcva:=RC.mono _ _ _ _ (hnx.out _ _ xa) hcv9;have hrva:=RC.mono _ _ _ _ (hnx.out _ _ xa) hrv'.out;have hda:=hdo.out Z wa _ (hxg.out wa sa) (hrva.rv hrbv.out);clear hdo v9 xa s9 hE9 hrv' hcv9 hrbv;refine hda.mono ?_;rintro ee wb ⟨eb,dv,rfl,hdv⟩;have hdv':=hid hdv;obtain⟨s',a',n'',c'',d',k',e',rfl⟩:=hdv.shape;have vb:=va.ext0 eb;have hEb:=hEa.trans eb;have sb:=Nat.le_trans sa eb.size;have hus:=hus.mono BlR.mono (hnx.out _ _ (ExtX.of eb));have hcvb:=RC.mono _ _ _ _ (hnx.out _ _ (ExtX.of eb)) hcva;have hrvb:=RC.mono _ _ _ _ (hnx.out _ _ (ExtX.of eb)) hrva;clear q3 hda va eb sa hEa hdv hcva hrva;go_wp2_with ((show wpList _ _ _ (⟨_, .store _ _ _,_,_,_,_⟩::_) _ _);refine a7M a0w rfl rfl vb (by simp) rfl (by intro v hv;simp at hv;rcases hv with rfl|rfl|rfl<;>rfl) ?_;intro wc vc xc';have q1:=vc.cell 1 rfl)
 have hEc:=ExtX.box hEb xc' hgh;have sc:=Nat.le_trans sb xc'.size;have hus:=hus.mono BlR.mono (hnx.out _ _ xc');have hcvc:=RC.mono _ _ _ _ (hnx.out _ _ xc') hcvb;have hrvc:=RC.mono _ _ _ _ (hnx.out _ _ xc') hrvb;have hdvc:=QC.mono _ _ _ _ (hnx.out _ _ xc') hdv'.out;have hcc8:=hch.out Z wc uo uc (hxg.out wc sc) (huZ.out wc hEc) hus;clear hch vb xc' sb hEb hdv' hcvb hrvb huZ;refine hcc8.mono ?_;rintro ee wd ⟨ed,zv,rfl,hzv⟩;have hEd:=hEc.trans ed;have sd:=Nat.le_trans sc ed.size;have hlv8:=hlv.out Z wd zv (hxg.out wd sd) hzv;clear hcc8 hlv;go_wp2_with fail
 refine hlv8.mono ?_;rintro ee we ⟨ee',lv,rfl,hlvv⟩;have ece:=ed.trans ee';have ve:=vc.ext0 ece;have hEe:=hEd.trans ee';have hus:=hus.mono BlR.mono (hnx.out _ _ (ExtX.of ece));have hcve:=RC.mono _ _ _ _ (hnx.out _ _ (ExtX.of ece)) hcvc;have hrve:=RC.mono _ _ _ _ (hnx.out _ _ (ExtX.of ece)) hrvc;have hdve:=QC.mono _ _ _ _ (hnx.out _ _ (ExtX.of ece)) hdvc;have hlv':=hid hlvv;obtain⟨lo,lc,rfl,hlc,hls⟩:=hlvv;obtain⟨ll,hll⟩:∃ll,(a5p (pkL x p) n pl).length=ll:=⟨_,rfl⟩;rw[hll]at hlv' hlc |-;have hby:b<we.heap.size:=by have:=hEe.size;have:=hE1.size;omega
 have hbg:h≠b:=by have:=hE1.size;omega
 clear q1 hlv8 vc ed ee' sd sc hEc hEd ece hcvc hrvc hdvc hls hzv hxg;have be:=b0.ext0 (hE1.trans hEe);go_wp2_with ((show wpList _ _ _ (⟨_, .store _ _ _,_,_,_,_⟩::_) _ _);first|(refine a0c b1Y rfl rfl bb rfl rfl (by intro v hv;simp at hv;rcases hv with rfl|rfl|rfl|rfl|rfl|rfl|rfl|rfl<;>rfl) ?_;intro wg vg xg)|(refine a1N (v:= .slice lo ll lc) a8H rfl rfl rfl rfl ve (by simp) ?_;intro wf vf xf;have bb:=be.ext xf (a0e (by omega));have q0:=vf.cell 0 rfl;have q1:=vf.cell 1 rfl;have q2:=vf.cell 2 rfl;have q3:=vf.cell 3 rfl;have q4:=vf.cell 4 rfl;have q5:=vf.cell 5 rfl;have q6:=vf.cell 6 rfl;have q7:=vf.cell 7 rfl))
 have hEf:Ext w wf:=hE.trans (hE1.trans (ExtX.box hEe xf hgh));have hdr:=a4v (X:=X) xg (fun k hk=>hZ0.out k (hb0.out k hk)) (fun k hk=>hZ0.out k (hXZ0.out k hk));have hd1:=hnx.out _ _ xf;have hus:=(hus.mono BlR.mono hd1).mono BlR.mono hdr;have hcvg:=RC.mono _ _ _ _ hdr (RC.mono _ _ _ _ hd1 hcve);have hrvg:=RC.mono _ _ _ _ hdr (RC.mono _ _ _ _ hd1 hrve);have hdvg:=QC.mono _ _ _ _ hdr (QC.mono _ _ _ _ hd1 hdve);have hlvg:=RC.mono _ _ _ _ hdr (RC.mono _ _ _ _ hd1 hlv'.out);exact bodyPost_ret (a0P rfl rfl b1Y vg rfl) rfl (hfin.out _ _ _ _ _ _ _ _ _ _ _ _ _ _ _ _ (ExtX.box hEf xg hbw) huc hus hcvg hrvg hdvg _ hlvg)
end Go.Proofs.YtkddecjkfdogiaaGreat
namespace Go.Lin
open Go.Lim Go.Rep
def awX:Mat:=[[1,0],[1,1],[1,2]]
def awY:List Rat:=[0,1,1]
theorem b4g:(a1i awX 2).2.length=2:=by decide+kernel
theorem b0L:a1X awX awY 3 2= [mkRat 1 6,mkRat 1 2]:=by decide+kernel
theorem b5z:a3q (a4u awX awY [mkRat 1 6,mkRat 1 2]) (a4u awX awY [mkRat 1 6,mkRat 1 2])=mkRat 1 6:=by decide+kernel
theorem b6k:a7I awX awY=true:=by decide+kernel
end Go.Lin
namespace Go.Proofs.YtkddecjkfdogiaaGreat
open Go.RowKit Go.Rep Go.Lim
set_option maxRecDepth 100000 in
theorem a8N (X:Nat->Bool) (w:World) (u v:Value) (x y:Rat) (hu:QC (mk X w) u x) (hv:QC (mk X w) v y) (hx:hq x<=68719476736):Calls Tryz.prog 36 #[u,v] w (a9V w (decide (x=y))):=by
 replace hx:=hid hx
 obtain⟨s1,a1,n1,c1,d1,k1,e1,rfl⟩:=hu.shape;obtain⟨s2,a2,n2,c2,d2,k2,e2,rfl⟩:=hv.shape;obtain⟨W,hW,hE,b0,b1,hz⟩:=a1Y w #[.bool s1, .slice a1 n1 c1, .slice d1 k1 e1] #[.bool s2, .slice a2 n2 c2, .slice d2 k2 e2] 32 32;have hu1:=mkx QC.mono hu hE;have hv1:=mkx QC.mono hv hE;obtain⟨b,hb⟩:∃b,w.heap.size=b:=⟨_,rfl⟩;rw[hb]at b0 b1 hz;have k00:=b0.cell 0 rfl;have k01:=b0.cell 1 rfl;have k02:=b0.cell 2 rfl;have k10:=b1.cell 0 rfl;have k11:=b1.cell 1 rfl;have k12:=b1.cell 2 rfl;clear hu hv;obtain⟨hxz,_,hxd⟩:=hu1.num;obtain⟨hyz,_,hyd⟩:=hv1.num;have hl1:=hid (Nat.le_trans (a1k x) (Nat.le_trans hx.out (by decide:(68719476736:Nat)<=1099511627776)));have hl2:=hid (Nat.le_trans (b4G x) (Nat.le_trans hx.out (by decide:(68719476736:Nat)<=1099511627776)));by_cases h1:x.num=y.num
 ·have hr:Hid (decide (dn x=dn y)=decide (x=y)):=hid (by
   rw[Bool.eq_iff_iff,decide_eq_true_eq,decide_eq_true_eq];constructor
   ·intro h
    refine Rat.ext h1 ?_;have:=a3M x;have:=a3M y;unfold dn at h;have:=x.den_nz;have:=y.den_nz;split at h<;>split at h<;>omega
   ·rintro rfl;rfl)
  have hd:Hid (decide (x.num=y.num)=true):=hid (decide_eq_true h1);clear h1;go_enter Tryz.func36,Tryz.ntmps36
  go_wp2_with fail
  refine(b2y X W _ _ _ _ hxz hyz hl1.out).mono ?_;rintro e w5 ⟨hE5,rfl⟩;rw[hd.out];have j02:=(b0.ext0 hE5).cell 2 rfl;have j12:=(b1.ext0 hE5).cell 2 rfl;clear k00 k01 k02 k10 k11 k12;go_wp2_with fail
  refine(b2x X w5 _ _ _ _ (mkx NC.mono hxd hE5) (mkx NC.mono hyd hE5) hl2.out).mono ?_;rintro e w6 ⟨rfl,m,rfl⟩;go_wp2_with fail
  go_ret
  exact⟨(hE.trans hE5).drewN m,a0l hr.out⟩
 ·have hr:Hid (false=decide (x=y)):=hid (decide_eq_false (by rintro rfl;exact h1 rfl)).symm
  have hd:Hid (decide (x.num=y.num)=false):=hid (decide_eq_false h1);clear h1;go_enter Tryz.func36,Tryz.ntmps36
  go_wp2_with fail
  refine(b2y X W _ _ _ _ hxz hyz hl1.out).mono ?_;rintro e w5 ⟨hE5,rfl⟩;rw[hd.out];clear k00 k01 k02 k10 k11 k12;go_wp2_with fail
  go_ret
  exact⟨hE.trans hE5,a0l hr.out⟩
theorem a9t {a b:List Rat} (hl:a.length=b.length) (h:∀p,p<a.length->∀(hp:p<a.length) (hq:p<b.length),a[p]=b[p]):a=b:=List.ext_getElem hl fun i h1 h2=>h i h1 h1 h2
set_option maxRecDepth 100000 in
theorem a3D (X:Nat->Bool) (w:World) (u v:Value) (a b:List Rat) (hu:RC (mk X w) u a) (hv:RC (mk X w) v b) (hB:BR 68719476736 a) (hla:a.length<=1099511627776):Calls Tryz.prog 45 #[u,v] w (a9V w (decide (a=b))):=by
 obtain⟨ao,ca,rfl,hca,hsa⟩:=hu;obtain⟨bo,cb,rfl,hcb,hsb⟩:=hv;have hha:=hsa.hd;have hhb:=hsb.hd;have hB':=hid hB;clear hB;by_cases hlen:a.length=b.length
 ·have hbl:b.length<=a.length:=by omega
  have hab:a.length<=b.length:=by omega
  have hne:((a.length:Int) !=b.length)=false:=a8S (by omega);have hlen':=hid hlen;clear hlen;go_enter Tryz.func45,Tryz.ntmps45
  go_wp2_with fail
  go_loopw [5] (fun c wr=>∃i:Nat,c= .int .i64 i/\i<=a.length/\Hid (∀p,p<i->∀(hp:p<a.length) (hq:p<b.length),a[p]=b[p])/\Ext w wr) (fun c _=>a.length - (intOf c).toNat)
  case atStart=>exact⟨0,rfl,Nat.zero_le _,fun p hp=>by omega,ExtX.refl _⟩
  case round=>
   obtain⟨i,rfl,hi,hok,hE⟩:=hrel;by_cases hlt:i<a.length
   ·have hlt2:i<b.length:=by omega
    obtain⟨g1,o1,s1,a1,n1,c1,d1,k1,e1,hg1,hX1,hc1,hq1⟩:=(hsa.mono QC.mono (a0o hE)).rat QC.shaped i hlt;obtain⟨g2,o2,s2,a2,n2,c2,d2,k2,e2,hg2,hX2,hc2,hq2⟩:=(hsb.mono QC.mono (a0o hE)).rat QC.shaped i hlt2;have i1:∀W,(Instr.indexAt 45 (.slice ao a.length ca) (.int .i64 (i:Int))).run Tryz.prog W= .ok (.pointer (some ⟨g1,o1,none⟩)) W:=by rw[<-hg1];exact a0n a0E ao a.length ca .i64 i hha (by omega)
    have i2:∀W,(Instr.indexAt 45 (.slice bo b.length cb) (.int .i64 (i:Int))).run Tryz.prog W= .ok (.pointer (some ⟨g2,o2,none⟩)) W:=by rw[<-hg2];exact a0n a0E bo b.length cb .i64 i hhb (by omega)
    have hEd:Ext wr wr.drew:=(ExtX.refl wr).drew;have hS:Hid (∀W',Ext wr.drew W'->W'.cell? ⟨g1,o1,none⟩=some (.bool s1)/\W'.cell? ⟨g1,o1+1,none⟩=some (.slice a1 n1 c1)/\W'.cell? ⟨g1,o1+2,none⟩=some (.slice d1 k1 e1)/\W'.cell? ⟨g2,o2,none⟩=some (.bool s2)/\W'.cell? ⟨g2,o2+1,none⟩=some (.slice a2 n2 c2)/\W'.cell? ⟨g2,o2+2,none⟩=some (.slice d2 k2 e2)):=hid fun W' h=>by
     have p1:=hc1.out noY W' (hEd.trans h) rfl;have p2:=hc2.out noY W' (hEd.trans h) rfl;exact⟨p1.1,p1.2.1,p1.2.2,p2.1,p2.2.1,p2.2.2⟩
    obtain⟨k00,k01,k02,k10,k11,k12⟩:=hS.out wr.drew (ExtX.refl _);have hbq:=hid (hB'.out a[i] (List.getElem_mem _));have hq1d:QC (mk X wr.drew) (.agg #[.bool s1, .slice a1 n1 c1, .slice d1 k1 e1]) a[i]:=hq1;have hq2d:QC (mk X wr.drew) (.agg #[.bool s2, .slice a2 n2 c2, .slice d2 k2 e2]) b[i]:=hq2;obtain⟨x,hx⟩:∃x,a[i]=x:=⟨_,rfl⟩;obtain⟨y,hy⟩:∃y,b[i]=y:=⟨_,rfl⟩;rw[hx]at hq1d hbq;rw[hy]at hq2d;have hx':=hid hx;have hy':=hid hy;clear hx hy hc1 hc2 hg1 hg2 hq1 hq2;by_cases hxy:x=y
    ·have hn:Hid (∀(hp:i<a.length) (hq:i<b.length),a[i]=b[i]):=hid fun _ _=>by rw[hx'.out,hy'.out,hxy]
     have hb:=hid (decide_eq_true hxy);clear hxy;go_wp2_with fail
     go_region_held3 (fun w'=>w'.cell? ⟨g1,o1,none⟩=some (.bool s1)/\w'.cell? ⟨g1,o1+1,none⟩=some (.slice a1 n1 c1)/\w'.cell? ⟨g1,o1+2,none⟩=some (.slice d1 k1 e1)/\w'.cell? ⟨g2,o2,none⟩=some (.bool s2)/\w'.cell? ⟨g2,o2+1,none⟩=some (.slice a2 n2 c2)/\w'.cell? ⟨g2,o2+2,none⟩=some (.slice d2 k2 e2))
      (first|exact hS.out _ t1|go_keep)
      ((go_at_call 36;(with_reducible refine(a8N X wr.drew _ _ x y hq1d hq2d hbq.out).mono ?_);rintro ee w5 ⟨t1,rfl⟩;rw[hb.out]))
     have hE5:=hE.trans (hEd.trans t1);clear k00 k01 k02 k10 k11 k12;go_wp2_with fail
     go_roundw
     case rel=>exact⟨i+1,by go_num,by omega,a4Z hok.out hn.out,hE5⟩
     case measure=>simp[intOf];omega
    ·have hv:Hid (false=decide (a=b)):=hid (by
      symm;rw[decide_eq_false_iff_not];intro h;subst h;exact hxy (hx'.out.symm.trans hy'.out))
     have hb:=hid (decide_eq_false hxy);clear hxy;go_wp2_with fail
     go_region_held3 (fun w'=>w'.cell? ⟨g1,o1,none⟩=some (.bool s1)/\w'.cell? ⟨g1,o1+1,none⟩=some (.slice a1 n1 c1)/\w'.cell? ⟨g1,o1+2,none⟩=some (.slice d1 k1 e1)/\w'.cell? ⟨g2,o2,none⟩=some (.bool s2)/\w'.cell? ⟨g2,o2+1,none⟩=some (.slice a2 n2 c2)/\w'.cell? ⟨g2,o2+2,none⟩=some (.slice d2 k2 e2))
      (first|exact hS.out _ t1|go_keep)
      ((go_at_call 36;(with_reducible refine(a8N X wr.drew _ _ x y hq1d hq2d hbq.out).mono ?_);rintro ee w5 ⟨t1,rfl⟩;rw[hb.out]))
     have hE5:=hE.trans (hEd.trans t1);clear k00 k01 k02 k10 k11 k12;go_wp2_with fail
     go_ret
     exact⟨hE5,a0l hv.out⟩
   ·have hv:Hid (true=decide (a=b)):=hid (by
     symm;rw[decide_eq_true_eq];exact a9t hlen'.out fun p hp=>hok.out p (by omega))
    go_wp2_with fail
    go_ret
    exact⟨hE,a0l hv.out⟩
 ·have hne:((a.length:Int) !=b.length)=true:=a7p (by omega)
  have hv:Hid (false=decide (a=b)):=hid (by
   symm;rw[decide_eq_false_iff_not];intro h;subst h;exact hlen rfl)
  clear hlen;go_enter Tryz.func45,Tryz.ntmps45
  go_wp2_with fail
  go_ret
  exact⟨ExtX.refl _,a0l hv.out⟩
theorem a7N {a b:List (List Rat)} (hl:a.length=b.length) (h:∀p,p<a.length->∀(hp:p<a.length) (hq:p<b.length),a[p]=b[p]):a=b:=List.ext_getElem hl fun i h1 h2=>h i h1 h1 h2
set_option maxRecDepth 100000 in
theorem a7O (X:Nat->Bool) (w:World) (u v:Value) (a b:List (List Rat)) (hu:MC (mk X w) u a) (hv:MC (mk X w) v b) (hB:BM 68719476736 a) (hla:a.length<=1099511627776) (hrl:∀r∈a,r.length<=1099511627776):Calls Tryz.prog 133 #[u,v] w (a9V w (decide (a=b))):=by
 obtain⟨ao,ca,rfl,hca,hsa⟩:=hu;obtain⟨bo,cb,rfl,hcb,hsb⟩:=hv;have hha:=hsa.hd;have hhb:=hsb.hd;have hB':=hid hB;have hrl':=hid hrl;clear hB hrl;by_cases hlen:a.length=b.length
 ·have hbl:b.length<=a.length:=by omega
  have hab:a.length<=b.length:=by omega
  have hne:((a.length:Int) !=b.length)=false:=a8S (by omega);have hlen':=hid hlen;clear hlen;go_enter Tryz.func133,Tryz.ntmps133
  go_wp2_with fail
  go_loopw [5] (fun c wr=>∃i:Nat,c= .int .i64 i/\i<=a.length/\Hid (∀p,p<i->∀(hp:p<a.length) (hq:p<b.length),a[p]=b[p])/\Ext w wr) (fun c _=>a.length - (intOf c).toNat)
  case atStart=>exact⟨0,rfl,Nat.zero_le _,fun p hp=>by omega,ExtX.refl _⟩
  case round=>
   obtain⟨i,rfl,hi,hok,hE⟩:=hrel;by_cases hlt:i<a.length
   ·have hlt2:i<b.length:=by omega
    obtain⟨a1,c1,hX1,hc1,hcl1,hq1⟩:=(hsa.mono RC.mono (a0o hE)).row i hlt;obtain⟨a2,c2,hX2,hc2,hcl2,hq2⟩:=(hsb.mono RC.mono (a0o hE)).row i hlt2;have i1:∀W,(Instr.indexAt 25 (.slice ao a.length ca) (.int .i64 (i:Int))).run Tryz.prog W= .ok (.pointer (some (adr ao i))) W:=a0z a0r ao a.length ca .i64 i hha (by omega) rfl;have i2:∀W,(Instr.indexAt 25 (.slice bo b.length cb) (.int .i64 (i:Int))).run Tryz.prog W= .ok (.pointer (some (adr bo i))) W:=a0z a0r bo b.length cb .i64 i hhb (by omega) rfl;have hEd:Ext wr wr.drew:=(ExtX.refl wr).drew;have hS:Hid (∀W',Ext wr.drew W'->W'.cell? (adr ao i)=some (.slice a1 a[i].length c1)/\W'.cell? (adr bo i)=some (.slice a2 b[i].length c2)):=hid fun W' h=>⟨hc1.out noY W' (hEd.trans h) rfl,hc2.out noY W' (hEd.trans h) rfl⟩;obtain⟨k00,k10⟩:=hS.out wr.drew (ExtX.refl _);have hbq:=hid (hB'.out a[i] (List.getElem_mem _));have hbl2:=hid (hrl'.out a[i] (List.getElem_mem _));have hq1d:RC (mk X wr.drew) (.slice a1 a[i].length c1) a[i]:=⟨a1,c1,rfl,hcl1,hq1⟩;have hq2d:RC (mk X wr.drew) (.slice a2 b[i].length c2) b[i]:=⟨a2,c2,rfl,hcl2,hq2⟩;obtain⟨x,hx⟩:∃x,a[i]=x:=⟨_,rfl⟩;obtain⟨y,hy⟩:∃y,b[i]=y:=⟨_,rfl⟩;rw[hx]at hq1d hbq hbl2 k00 hS;rw[hy]at hq2d k10 hS;have hx':=hid hx;have hy':=hid hy;clear hx hy hc1 hc2 hq1 hq2 hcl1 hcl2;by_cases hxy:x=y
    ·have hn:Hid (∀(hp:i<a.length) (hq:i<b.length),a[i]=b[i]):=hid fun _ _=>by rw[hx'.out,hy'.out,hxy]
     have hb:=hid (decide_eq_true hxy);clear hxy;go_wp2_with fail
     go_region_held3 (fun w'=>w'.cell? (adr ao i)=some (.slice a1 x.length c1)/\w'.cell? (adr bo i)=some (.slice a2 y.length c2))
      (first|exact hS.out _ t1|go_keep)
      ((go_at_call 45;(with_reducible refine(a3D X wr.drew _ _ x y hq1d hq2d hbq.out hbl2.out).mono ?_);rintro ee w5 ⟨t1,rfl⟩;rw[hb.out]))
     have hE5:=hE.trans (hEd.trans t1);clear k00 k10;go_wp2_with fail
     go_roundw
     case rel=>exact⟨i+1,by go_num,by omega,a4Z hok.out hn.out,hE5⟩
     case measure=>simp[intOf];omega
    ·have hv:Hid (false=decide (a=b)):=hid (by
      symm;rw[decide_eq_false_iff_not];intro h;subst h;exact hxy (hx'.out.symm.trans hy'.out))
     have hb:=hid (decide_eq_false hxy);clear hxy;go_wp2_with fail
     go_region_held3 (fun w'=>w'.cell? (adr ao i)=some (.slice a1 x.length c1)/\w'.cell? (adr bo i)=some (.slice a2 y.length c2))
      (first|exact hS.out _ t1|go_keep)
      ((go_at_call 45;(with_reducible refine(a3D X wr.drew _ _ x y hq1d hq2d hbq.out hbl2.out).mono ?_);rintro ee w5 ⟨t1,rfl⟩;rw[hb.out]))
     have hE5:=hE.trans (hEd.trans t1);clear k00 k10;go_wp2_with fail
     go_ret
     exact⟨hE5,a0l hv.out⟩
   ·have hv:Hid (true=decide (a=b)):=hid (by
     symm;rw[decide_eq_true_eq];exact a7N hlen'.out fun p hp=>hok.out p (by omega))
    go_wp2_with fail
    go_ret
    exact⟨hE,a0l hv.out⟩
 ·have hne:((a.length:Int) !=b.length)=true:=a7p (by omega)
  have hv:Hid (false=decide (a=b)):=hid (by
   symm;rw[decide_eq_false_iff_not];intro h;subst h;exact hlen rfl)
  clear hlen;go_enter Tryz.func133,Tryz.ntmps133
  go_wp2_with fail
  go_ret
  exact⟨ExtX.refl _,a0l hv.out⟩
end Go.Proofs.YtkddecjkfdogiaaGreat
namespace Go.Lin
open Go.Lim
theorem BM.hb {B:Nat} {m:Mat} (h:Go.Rep.BM B m) (hB:1<=B):HB B m:=fun i j=>by
 unfold ent;by_cases hi:i<m.length
 ·by_cases hj:j<(m[i]).length
  ·have:=h m[i] (List.getElem_mem _) (m[i])[j] (List.getElem_mem _)
   simpa[List.getD_eq_getElem?_getD,hi,hj]using this
  ·rw[a2c hi,List.getD_eq_getElem?_getD,List.getElem?_eq_none (by omega)]
   simpa[a0Q]using hB
 ·rw[List.getD_eq_getElem?_getD (l:=m),List.getElem?_eq_none (by omega)]
  simpa[a0Q]using hB
end Go.Lin
namespace Go.Rep
open Go.RowKit Go.Lim
theorem a0H {X:Nat->Bool} {w:World} {e:TypeId} (hX:HX X w) {u v:Value} {x y:Rat} (hu:QC (mk X w) u x) (hv:QC (mk X w) v y) {arr:Array Value} (harr:arr=(a0g u++a0g v).toArray):RC (mk X (w.alloc (.cells arr e))) (.slice (some ⟨w.heap.size,0,none⟩) 2 2) [x,y]:=by
 have:=OL.lit (w:=w) (base:=w.heap.size) (e:=e) QC.elem hX (Nat.le_refl _) [u,v] [x,y] arr (by rw[harr];simp) rfl (fun i hi hi'=>by
  match i,hi with
  |0,_=>exact hu
  |1,_=>exact hv) (by simp)
 exact⟨_,_,rfl,Nat.le_refl _,this.sl QC.elem⟩
end Go.Rep
namespace Go.Proofs.YtkddecjkfdogiaaGreat
open Go.RowKit Go.Rep Go.Lim Go.Lin
end Go.Proofs.YtkddecjkfdogiaaGreat
