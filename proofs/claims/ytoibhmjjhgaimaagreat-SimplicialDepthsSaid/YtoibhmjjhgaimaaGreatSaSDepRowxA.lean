/- law 26: SimplicialDepths. Conditions: none. -/
import Derived.Test.YtoibhmjjhgaimaaGreatSaP
namespace Go.Proofs.YtoibhmjjhgaimaaGreat
open Go.RowKit Go.Rep Go.Lim Go.Lin
set_option maxRecDepth 100000 in
set_option maxHeartbeats 3200000 in
theorem b4Q (lo:Option Addr) (l:List Int) (cl:Nat) (ua uv:Value) (ra:List (List a4X)) (rx:List a4X) (w:World) (hl:Sl (a0x .i64) 1 w.cell? lo l) (hcl:l.length<=cl) (hlb:l.length<=9223372036854775807)
  (hua:MR (mk noY w) ua ra) (huv:RR (mk noY w) uv rx):
  Calls Tryz.prog 6 #[.slice lo l.length cl,ua,uv] w (a7A w true):=by
 have l1:=a6h noY w ua ra 200 200 hua (by decide) (by decide);have l3:=hid (fun w' (h:Ext w w')=>a3x noY w' uv rx 200 (mkx RR.mono huv h) (by decide));cases h1:lightM ra 200 200
 ·rw[h1]at l1
  clear h1;go_enter Tryz.func6,Tryz.ntmps6
  go_wp2_with fail
  refine l1.mono ?_;rintro e w1 ⟨hE1,rfl⟩;clear l1;go_wp2_with fail
  refine(a0X w1).mono ?_;rintro e w2 ⟨hE2,rfl⟩;go_wp2_with fail
  go_ret
  exact⟨hE1.trans hE2,rfl⟩
 rw[h1]at l1;cases h3:lightL rx 200
 ·rw[h3]at l3
  clear h1 h3;go_enter Tryz.func6,Tryz.ntmps6
  go_wp2_with fail
  refine l1.mono ?_;rintro e w1 ⟨hE1,rfl⟩;have l33:=l3.out w1 hE1;clear l1;go_wp2_with fail
  refine l33.mono ?_;rintro e w3 ⟨hE3,rfl⟩;clear l33;go_wp2_with fail
  refine(a0X w3).mono ?_;rintro e w4 ⟨hE4,rfl⟩;go_wp2_with fail
  go_ret
  exact⟨hE1.trans (hE3.trans hE4),rfl⟩
 rw[h3]at l3;obtain⟨n1,f1⟩:=b1K h1;obtain⟨n3,f3⟩:=b1L h3;have hma:=hua.mv (fun r hr x hx=>((f1 r hr).2 x hx).big3);have hrv:=huv.rv (fun x hx=>(f3 x hx).big3);have ba:=hua.bm (fun r hr=>(f1 r hr).2) (by decide);have bv:=huv.br f3 (by decide);have hrl:∀r∈b2x ra,r.length<=200:=fun r hr=>by
  unfold b2x at hr;obtain⟨s,hs,rfl⟩:=List.mem_map.1 hr;rw[List.length_map];exact(f1 s hs).1
 obtain⟨Ra,hRa⟩:∃Ra,b2x ra=Ra:=⟨_,rfl⟩;obtain⟨Rx,hRx⟩:∃Rx,rx.map b6O=Rx:=⟨_,rfl⟩;rw[hRa]at hma ba hrl;rw[hRx]at hrv bv;obtain⟨aa,ca,rfl,hca,hsa⟩:=hma;obtain⟨ax,cx,rfl,hcx,hsx⟩:=hrv;obtain⟨na,hna⟩:∃na,Ra.length=na:=⟨_,rfl⟩;obtain⟨nx,hnx⟩:∃nx,Rx.length=nx:=⟨_,rfl⟩;have hMa':Hid (MV (mk noY w) (.slice aa na ca) Ra):=hid ⟨aa,ca,by rw[hna],hca,hsa⟩;have hMx':Hid (RV (mk noY w) (.slice ax nx cx) Rx):=hid ⟨ax,cx,by rw[hnx],hcx,hsx⟩;have hna':=hid hna;rw[hna]at l1 hca |-;rw[hnx]at l3 |-;clear h1 h3 f1 f3 n1 n3 hua huv hRa hRx hsa hsx hca hcx hna hnx;go_enter Tryz.func6,Tryz.ntmps6
 go_wp2_with fail
 refine l1.mono ?_;rintro e v1 ⟨hG1,rfl⟩;have l33:=l3.out v1 hG1;clear l1;go_wp2_with fail
 refine l33.mono ?_;rintro e v3 ⟨hG3,rfl⟩;have hEv:=hG1.trans hG3;clear l33 l3;by_cases hbig:6<na\/10<nx
 ·rcases(by omega:6<na\/(na<=6/\10<nx))with hc|hc
  all_goals
   clear hbig;go_wp2_with fail
   refine(a0X v3).mono ?_;rintro e w4 ⟨hE4,rfl⟩;go_wp2_with fail
   go_ret
   exact⟨hEv.trans hE4,rfl⟩
 have b1:na<=6:=by omega
 have b3:nx<=10:=by omega
 clear hbig hG1 hG3;have hlv:Sl (a0x .i64) 1 v3.cell? lo l:=by
  rw[<-a2T]at hl |-;exact hl.mono (a0x.mono _) (a0m hEv)
 go_wp2_with fail
 refine(a6r lo l cl v3 hlv hcl hlb).mono ?_;rintro e w1 ⟨rfl,hE1,ht1,hsz1⟩;obtain⟨tb,htb⟩:∃tb,v3.heap.size=tb:=⟨_,rfl⟩;have hX1:HX (tbm tb) w1:=fun k hk=>by
  have:k=tb:=by simpa[tbm]using hk
  omega
 have hfin:=hid (fun w2 (h:ExtX (tbm tb) w1 w2)=>(hEv.trans (hE1.then_ h fun i hi _=>a2O (by omega)):Ext w w2));have hin:Le (mk noY v3) (mk (tbm tb) w1):=a1g hE1 (fun k _ hk=>by simp[noY]at hk) fun k hk hz=>by
  have:k=tb:=by simpa[tbm]using hz
  omega
 rw[htb]at ht1 |-;obtain⟨X,hX⟩:∃X,tbm tb=X:=⟨_,rfl⟩;have hsub:∀k,tbm tb k=true->X k=true:=fun k hk=>by rw[<-hX];exact hk
 rw[hX]at ht1 hX1 hin;have hXe:=hid hX;have hMa1:=hid (MV.mono _ _ _ _ hin (mkx MV.mono hMa'.out hEv));have hMx1:=hid (RV.mono _ _ _ _ hin (mkx RV.mono hMx'.out hEv));clear hE1 hsz1 htb hl hlv hX hMa' hMx' hin;go_wp2_with fail
 refine(a8A X tb 6 w1 ht1 hX1 (by decide) (by decide)).mono ?_;rintro e w2 ⟨hE2,ht2,v2',p,rfl,hp,hpB,hpl,hpr⟩;have hX2:=hX1.ext hE2;obtain⟨po,pc,rfl,hpc,hps⟩:=hp;obtain⟨np,hnp⟩:∃np,p.length=np:=⟨_,rfl⟩;have hP2:Hid (MV (mk X w2) (.slice po np pc) p):=hid ⟨po,pc,by rw[hnp],hpc,hps⟩;have hMa2:=hid (MV.mono _ _ _ _ (a0u hE2 hsub) hMa1.out);have hMx2:=hid (RV.mono _ _ _ _ (a0u hE2 hsub) hMx1.out);have hnp65:np<=65:=by omega
 have hnp':=hid hnp;rw[hnp]at hpl |-;clear ht1 hX1 hps hpc hnp hMa1 hMx1;by_cases h10:10<np
 ·have hd:=a2V X w2 (.slice po np pc) (.slice ax nx cx) p Rx 1023 hX2 hP2.out hMx2.out (by rw[hnp'.out];omega) (hpB.le (by decide)) (fun q hq=>Nat.le_trans (bv q hq) (by decide)) (by decide) (by decide)
  have hno:a2k p=false:=by
   cases h:a2k p
   ·rfl
   ·have:=(a0L.1 h).2.1
    have:=hnp'.out;omega
  have he:sdE p Rx=6:=by unfold sdE b7r;rw[hno];rfl
  unfold a3v at hd;rw[he]at hd;obtain⟨V,hV⟩:∃V,a4i p Rx (sdL p Rx)=V:=⟨_,rfl⟩;obtain⟨V2,hV2⟩:∃V,(sdL p Rx).length=V:=⟨_,rfl⟩;rw[hV,hV2]at hd;clear hno hV hV2 he;go_wp2_with fail
  refine hd.mono ?_;rintro e w3 ⟨hE3,rfl⟩;clear hd;go_wp2_with fail
  refine(a0X w3).mono ?_;rintro e w4 ⟨hE4,rfl⟩;go_wp2_with fail
  go_ret
  exact⟨hfin.out _ (by rw[hXe.out]at*;exact hE2.then_ (hE3.trans hE4) (fun _ _ _=>rfl)),rfl⟩
 have hT1:=b1N X w2 po aa np na pc ca p Ra 25 hX2 hP2.out hMa2.out;have hEt1:Ext w2 (w2.alloc (.cells #[.slice po np pc, .slice aa na ca] 25)):=(ExtX.refl _).alloc _;obtain⟨wa,hwa⟩:∃wa,w2.alloc (.cells #[.slice po np pc, .slice aa na ca] 25)=wa:=⟨_,rfl⟩;obtain⟨ga,hga⟩:∃ga:Option Addr,some ⟨w2.heap.size,0,none⟩=ga:=⟨_,rfl⟩;obtain⟨LA,hLA⟩:∃LA:List (List (List Rat)),[p,Ra]=LA:=⟨_,rfl⟩;have hLAl:Hid (LA.length=2):=hid (by rw[<-hLA];rfl);have hLAp:Hid (∀m∈LA,m.length<=1000/\BM 510 m/\∀r∈m,r.length<=200):=hid fun m hm=>by
  subst hLA;simp only[List.mem_cons,List.not_mem_nil,or_false]at hm;rcases hm with rfl|rfl
  ·exact⟨by rw[hnp'.out];omega,hpB,fun r hr=>by have:=hpr r hr;omega⟩
  ·exact⟨by rw[hna'.out];omega,ba.le (by decide),hrl⟩
 rw[hwa,hga,hLA]at hT1;rw[hwa]at hEt1;have hhA:=hT1.hd;rw[hLAl.out]at hhA;have hXa:=hX2.ext hEt1;have hta:=ht2.ext hEt1;have hMxa:=hid (mkx RV.mono hMx2.out hEt1);have bv':Hid (BR 1023 Rx):=hid fun q hq=>Nat.le_trans (bv q hq) (by decide);clear hLA hP2 hMa2 hMx2;go_wp2_with fail
 go_loopw [63] (fun cx wx=>∃k:Nat,cx= .int .i64 k/\k<=2/\a0H X tb wx/\ExtX (tbm tb) wa wx) (fun cx _=>2 - (intOf cx).toNat)
 case atStart=>exact⟨0,rfl,Nat.zero_le _,hta,ExtX.refl _⟩
 case round=>
  obtain⟨k,rfl,hk,htr,hEk⟩:=hrel;have hXr:=hXa.ext hEk;by_cases hlk:k<2
  ·have hkL:k<LA.length:=by rw[hLAl.out];exact hlk
   obtain⟨qa,qc,k00,hql,hqs⟩:=(hT1.mono MV.mono (a0u hEk hsub)).slice k hkL;obtain⟨hQ1,hQ2,hQ3⟩:=hLAp.out LA[k] (List.getElem_mem _);have hQV:MV (mk X wr) (.slice qa LA[k].length qc) LA[k]:=⟨qa,qc,rfl,hql,hqs⟩;obtain⟨Q,hQ⟩:∃Q,LA[k]=Q:=⟨_,rfl⟩;rw[hQ]at k00 hQ1 hQ2 hQ3 hQV;obtain⟨nq,hnq⟩:∃nq,Q.length=nq:=⟨_,rfl⟩;have hnq':=hid hnq;rw[hnq]at k00 hQV;have hat:=b4z X tb wr (.slice qa nq qc) Q 510 200 htr hXr hQV hQ1 hQ2 hQ3 (by decide) (by decide) (by decide);have hMxr:=RV.mono _ _ _ _ (a0u hEk hsub) hMxa.out;clear hQ hnq hqs hql;go_wp2_with (with_reducible refine a0n b1M (by omega) (by assumption) ?_)
   refine hat.mono ?_;rintro e u1 ⟨hE5,ht5,yv,y,rfl,hy,hyB,hyl⟩;have hX5:=hXr.ext hE5;have hQ5:=MV.mono _ _ _ _ (a0u hE5 hsub) hQV;have hMx5:=RV.mono _ _ _ _ (a0u hE5 hsub) hMxr;obtain⟨ya,yc,rfl,hyc,hys⟩:=hy;obtain⟨yl,hyl'⟩:∃yl,y.length=yl:=⟨_,rfl⟩;have hyV:RV (mk X u1) (.slice ya yl yc) y:=⟨ya,yc,by rw[hyl'],hyc,hys⟩;rw[hyl'];have hT2:=a9B X u1 ya ax yl nx yc cx y Rx 45 hX5 hyV hMx5;have hEt2:Ext u1 (u1.alloc (.cells #[.slice ya yl yc, .slice ax nx cx] 45)):=(ExtX.refl _).alloc _;obtain⟨wb,hwb⟩:∃wb,u1.alloc (.cells #[.slice ya yl yc, .slice ax nx cx] 45)=wb:=⟨_,rfl⟩;obtain⟨gb,hgb⟩:∃gb:Option Addr,some ⟨u1.heap.size,0,none⟩=gb:=⟨_,rfl⟩;obtain⟨LB,hLB⟩:∃LB:List (List Rat),[y,Rx]=LB:=⟨_,rfl⟩;have hLBl:Hid (LB.length=2):=hid (by rw[<-hLB];rfl);have hLBp:Hid (∀m∈LB,BR 1023 m):=hid fun m hm=>by
    subst hLB;simp only[List.mem_cons,List.not_mem_nil,or_false]at hm;rcases hm with rfl|rfl
    ·exact hyB
    ·exact bv'.out
   rw[hwb,hgb,hLB]at hT2;rw[hwb]at hEt2;have hhB:=hT2.hd;rw[hLBl.out]at hhB;have hXb:=hX5.ext hEt2;have htb2:=ht5.ext hEt2;have hQb:=mkx MV.mono hQ5 hEt2;have hEb:ExtX (tbm tb) wa wb:=(hEk.trans hE5).then_ hEt2 (fun _ _ _=>rfl);clear hLB hat k00 hQV hQ5 hyV hMx5 hMxr htr hE5 ht5 hyl' hys hyc;go_wp2_with fail
   go_loopw [73] (fun cx wx=>∃j:Nat,cx= .int .i64 j/\j<=2/\Ext wb wx) (fun cx _=>2 - (intOf cx).toNat)
   case atStart=>exact⟨0,rfl,Nat.zero_le _,ExtX.refl _⟩
   case round=>
    obtain⟨j,rfl,hj,hEj⟩:=hrel;by_cases hlj:j<2
    ·have hjL:j<LB.length:=by rw[hLBl.out];exact hlj
     obtain⟨sa,sc,k01,hsl,hss⟩:=(hT2.mono RV.mono (a0m hEj)).slice j hjL;have hS2:=hLBp.out LB[j] (List.getElem_mem _);have hSV:RV (mk X wr) (.slice sa LB[j].length sc) LB[j]:=⟨sa,sc,rfl,hsl,hss⟩;obtain⟨S,hS⟩:∃S,LB[j]=S:=⟨_,rfl⟩;rw[hS]at k01 hS2 hSV;obtain⟨ns,hns⟩:∃ns,S.length=ns:=⟨_,rfl⟩;rw[hns]at k01 hSV;have hXj:=hXb.ext hEj;have P1:=hid (fun w' (h:Ext wr w')=>a2V X w' (.slice qa nq qc) (.slice sa ns sc) Q S 1023 (hXj.ext h) (mkx MV.mono hQb (hEj.trans h)) (mkx RV.mono hSV h) hQ1 (hQ2.le (by decide)) hS2 (by decide) (by decide));have P2:=hid (fun w' (h:Ext wr w')=>a9y X w' (.slice qa nq qc) (.slice sa ns sc) Q S 1023 (hXj.ext h) (mkx MV.mono hQb (hEj.trans h)) (mkx RV.mono hSV h) hQ1 (hQ2.le (by decide)) hS2 (by decide) (by decide));unfold a3v at P1 P2;obtain⟨K1,hK1⟩:∃K,a4i Q S (sdL Q S)=K:=⟨_,rfl⟩;obtain⟨K2,hK2⟩:∃K,(sdL Q S).length=K:=⟨_,rfl⟩;obtain⟨C1,hC1⟩:∃C,sdE Q S=C:=⟨_,rfl⟩;rw[hK1,hK2,hC1]at P1 P2;have z1:((K1:Int) !=(K1:Int))=false:=a6k rfl;have z2:((K2:Int) !=(K2:Int))=false:=a6k rfl;have z3:(C1 !=C1)=false:=a6k rfl;clear hS hns hss hsl hK1 hK2 hC1;obtain⟨wj,hwj⟩:∃wj,wj=wr:=⟨_,rfl⟩;subst hwj;go_wp2_with (with_reducible refine a0n a0o (by omega) (by assumption) ?_)
     refine(P1.out wj (ExtX.refl _)).mono ?_;rintro e u1 ⟨y1,rfl⟩;clear k01;go_wp2_with fail
     refine(P2.out u1 y1).mono ?_;rintro e u2 ⟨y2,rfl⟩;have y14:=hEj.trans (y1.trans y2);go_wp2_with fail
     go_roundw
     case rel=>exact⟨j+1,by go_num,by omega,y14⟩
     case measure=>simp[intOf];omega
    ·have hE9:ExtX (tbm tb) wa wr:=hEb.then_ hEj (fun _ _ _=>rfl)
     have ht9:=htb2.ext hEj;go_wp2_with fail
     go_roundw
     case rel=>exact⟨k+1,by go_num,by omega,ht9,hE9⟩
     case measure=>simp[intOf];omega
  ·go_wp2_with fail
   refine(a0X wr).mono ?_;rintro e w6 ⟨hE6,rfl⟩;go_wp2_with fail
   go_ret
   exact⟨hfin.out _ (by rw[hXe.out]at*;exact((hE2.then_ hEt1 (fun _ _ _=>rfl)).trans hEk).then_ hE6 (fun _ _ _=>rfl)),rfl⟩
end Go.Proofs.YtoibhmjjhgaimaaGreat
