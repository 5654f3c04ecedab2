/- Parts of a proof: each theorem states what it proves, and its conditions. -/
import Derived.Test.YtjmnhbebpffoaaaGreatIwP
set_option maxRecDepth 100000
set_option maxHeartbeats 6400000
namespace Go.Proofs.YtjmnhbebpffoaaaGreat
open Go.RowKit
def b9W(X:Nat->Bool)(w:World)(L:List Pc)(e:Ending)(w':World):Prop:=Ext w w'/\∃ao cap,e=.returned (.tuple #[.slice ao L.length cap,.int .i64 0])/\L.length<=cap/\Sl a1W 14 (mk X w') ao L
theorem b4k(X:Nat->Bool)(w:World)(u:Value)(k t:Int)(l:List Rat)(B:Nat)(hX:HX X w)(hu:RV (mk X w) u l)(hk:a5n k t)(hf:a6H k t l.length)(hl:l.length<=19)(hB:BR B l)(hBB:B<=100000):Calls Tryz.prog 18 #[.agg #[.int .i64 k,.int .i64 t],u] w (b9W X w (b9S k t l)):=by
 obtain⟨W,hW,hE,b0,hz⟩:=a0Y w #[.int .i64 k,.int .i64 t] 52;have hXW:HX (a0f X w.heap.size 1) W:=hX.boxes hz;have hu1:=RV.mono _ _ _ _ (a0i (nb:=1) hE) hu;obtain⟨b,hb⟩:=c1F w.heap.size;rw[hb]at b0 hz hXW hu1;obtain⟨Z,hZ⟩:=c1F (a0f X b 1);rw[hZ]at hXW hu1;have hn1:1<=l.length:=hf.1;obtain⟨ao,ca,rfl,hca,hsa⟩:=hu;have hck:=b6L W k t ao l.length ca (by omega);rw[a9k.2 ⟨hk,hf,by omega⟩]at hck;have hso:=hid fun w' (h:Ext W w')=>b3C Z w' _ l (hXW.ext h) (mkx RV.mono hu1 h) (by omega) (fun q hq=>c1A (hB q hq) (by omega));have hpc:=hid fun M w' u' vz vw z y (hM:HX M w') (hr:RV (mk M w') u' l) (hz:QV (mk M w') vz z) (hy:QV (mk M w') vw y) (b1:hq z<=B+10) (b2:hq y<=B+10)=>b9T M w' u' vz vw k t l z y (B+10) hM hr hz hy hk (a9n hf) hl (fun q hq=>c1A (hB q hq) (by omega)) b1 b2 (by omega);obtain⟨S,hS⟩:=c1F (srt l);have hSl:Hid (S.length=l.length):=hid (by rw[<-hS,a8g]);have hSB:Hid (BR B S):=hid (by rw[<-hS];exact b3D hB);have hSp':=hid fun i=>(List.Pairwise.sublist (List.take_sublist i S) (by rw[<-hS];exact b3v l):(S.take i).Pairwise (· <= ·));have hSf:=hid (a8n _ S rfl (by rw[<-hS];exact b3v l));have hcr:Hid (b9S k t l=b1j (fun z=>a5o k t (l++[z])) (dd S) ((dd S).length+1)):=hid (by rw[<-hS];rfl);rw[hS]at hso;have k0:=b0.cell 0 rfl;have k1:=b0.cell 1 rfl;obtain⟨L,hL⟩:=c1F (b9S k t l);rw[hL]at hcr |-;obtain⟨f,hff⟩:=c1F ((fun z=>a5o k t (l++[z])));rw[hff]at hpc hcr;have hfB:Hid (∀z,hq z<=B+10->hq (f z)<=50000000):=hid (by
  intro z hz;rw[<-hff];exact a9j (B:=B+10) (fun q hq=>by
   rw[List.mem_append,List.mem_singleton]at hq;rcases hq with h|rfl
   ·exact c1A (hB q h) (by omega)
   ·exact hz) (by simp;omega) (by omega))
 obtain⟨n,hn⟩:=c1F l.length;rw[hn]at hck hca hl hSl hso hn1 hu1 |-;have hn64:((n:Int)==64)=false:=a2C (by omega);clear hS hL hff hn hsa hf hk hB;go_enter Tryz.func18,Tryz.ntmps18
 go_upto_region 7 with(first
  |(go_at_call 42;refine hck.mono ?_;rintro ee w1 ⟨hE1,rfl⟩))
 have hs1:=hso.out w1 hE1;clear hso k0 k1 hck;go_wp2_with (first
  |(go_at_call 43;refine hs1.mono ?_;rintro ee w2 ⟨hE2,oo,co,rfl,hO⟩))
 have hss:=hO.sl QC.elem;have hho:=hO.hd;rw[hSl.out]at hho;have hXW2:=(hXW.ext hE1).ext hE2;have hW2:=hid (hE1.trans hE2);clear hs1 hO;go_loopw [7,34] (fun o c wr=>∃(i:Nat) (eo:Option Addr) (ec m:Nat) (D:List Rat),c=.int .i64 i/\o=.slice eo m ec/\i<=n/\Hid (D=dd (S.take i))/\Hid (D.length=m)/\OL QC 3 Z w2.heap.size 47 wr eo ec D/\Ext w2 wr) (fun _ c _=>n - (intOf c).toNat)
 case atStart=>exact⟨0,none,0,0,[],rfl,rfl,Nat.zero_le _,hid rfl,hid rfl,OL.nil _ _ _ _ _ _,ExtX.refl _⟩
 case round=>
  obtain⟨i,eo,ec,m,D,rfl,rfl,hi,hD,hDm,hOD,hE⟩:=hrel;have hXr:=hXW2.ext hE;have hXu:HX (un Z eo) wr:=hOD.unX hXr;by_cases hlt:i<n
  ·have hiS:i<S.length:=by rw[hSl.out];exact hlt
   have hsu:=hid (hss.old QC.mono hE (fun j hj=>hOD.ob_lt hj));have hst:=hid (b8v hiS);have hvB:=hid (hSB.out _ (c1E hiS));obtain⟨v,hv⟩:=c1F (S[i]);have hv':=hid hv;rw[hv]at hst hvB;have hDl:Hid (m<=19):=hid (by
    have h1:=b6M (S.take i);rw[<-hD.out,hDm.out,List.length_take]at h1;omega)
   have bx:=Bx.new wr #[.bool false,.slice none 0 0,.slice none 0 0] 47;clear hv;go_upto_region 10 with(first|(with_reducible refine a1w a0x ?_)|((with_reducible refine c1K (t:=47) ?_);refine a0z a0p i hsu.out hiS rfl (by simp) QC.agg ?_;intro u5 hu5;rw[hv'.out]at hu5;obtain⟨s5,a5,n5,c5,d5,k5,e5,rfl⟩:=hu5.shape)|((with_reducible refine c1J (t:=47) ?_);refine a0a a0p rfl rfl bx rfl rfl a1s ?_;intro w5 r1 r2;have hE5:=c1M r2))
   obtain⟨gv,hgv⟩:=c1F wr.heap.size;rw[hgv]at r1;rw[hgv];have hgl:w2.heap.size<=gv:=by rw[<-hgv];exact hE.size
   have hu6:=mkx QC.mono hu5 hE5;have hXu5:HX (un Z eo) w5:=HX.ext (w:=wr) hXu hE5;have hO5:=hOD.ext0 QC.elem hE5;have hcnd:Hid ((decide (m=0)|| !decide (D.getLast?=some v))=decide (¬D.getLast?=some v)):=hid (by
    rcases Nat.eq_zero_or_pos m with h0|h0
    ·have:D= []:=List.length_eq_zero_iff.1 (by rw[hDm.out,h0])
     subst this;simp[h0]
    ·simp[show m≠0 by omega])
   obtain⟨c,hc⟩:=c1F (decide (¬D.getLast?=some v));rw[hc]at hcnd;have hc':=hid hc;have hEd:=c1L w5;have hXd:=HX.ext (w:=w5) hXu5 hEd;clear hc hu5 bx r2 hgv hsu
   (try simp only[Act.put])
   go_cut [51]from 38 to 50 (fun q wx=>q=.bool c/\Ext w5 wx)
   case first=>
    rcases Nat.eq_zero_or_pos m with hm|hm
    ·subst hm
     refine a0n 13 (fun _=>True) (by kernel_rfl) (by kernel_rfl) trivial (fun hHeld hOnce=>?_);have hct:c=true:=by rw[<-hcnd.out];rfl
     refine kt 0 hOnce ?_;refine kt 1 hOnce ?_;refine kt 2 hOnce ?_;refine kt 3 hOnce ?_;refine ku 4 hOnce ?_;refine ku 5 hOnce ?_;refine ku 6 hOnce ?_;refine ku 7 hOnce ?_;refine ku 8 hOnce ?_;refine ku 9 hOnce ?_;refine ku 10 hOnce ?_;refine ku 11 hOnce ?_;refine ku 12 hOnce ?_;refine kl 13 (fun K hK=>?_);go_simp
     refine hK.out _ _ ?_;clear hK K;go_wp2_with fail
     go_meet
     case rel=>exact⟨by rw[hct],hEd⟩
    ·have hml:m - 1<D.length:=by rw[hDm.out];omega
     obtain⟨g2,o2,s6,a6,n6,c6,d6,k6,e6,hg2,hy2,hc2,hq2⟩:=hO5.rat QC.shaped (m - 1) hml;have hhd:Hd eo m:=by have:=hOD.hd;rw[hDm.out]at this;exact this
     have hm0:((m:Int)==0)=false:=a2C (by omega);have ew:IntKind.i64.wrap ((m:Int) - 1)=(m:Int) - 1:=IntWalk.i64_in _ (by have:=hDl.out;omega);have i2:∀W,(Instr.indexAt 24 (.slice eo m ec) (.int .i64 ((m:Int) - 1))).run Tryz.prog W=.ok (.pointer (some ⟨g2,o2,none⟩)) W:=by
      rw[<-hg2,show((m:Int) - 1)=((m - 1:Nat):Int)by omega];exact a0e a0x eo m ec .i64 (m - 1) hhd (by omega)
     have hS:Hid (∀w',Ext w5 w'->w'.cell? ⟨g2,o2,none⟩=some (.bool s6)/\w'.cell? ⟨g2,o2+1,none⟩=some (.slice a6 n6 c6)/\w'.cell? ⟨g2,o2+2,none⟩=some (.slice d6 k6 e6)/\w'.cell? ⟨gv,0,none⟩=some (.bool s5)/\w'.cell? ⟨gv,1,none⟩=some (.slice a5 n5 c5)/\w'.cell? ⟨gv,2,none⟩=some (.slice d5 k5 e5)):=hid fun w' h=>
      ⟨(hc2.out _ _ h rfl).1,(hc2.out _ _ h rfl).2.1,(hc2.out _ _ h rfl).2.2,(r1.ext0 h).cell 0 rfl,(r1.ext0 h).cell 1 rfl,(r1.ext0 h).cell 2 rfl⟩
     have hDB:hq D[m - 1]<=68719476736:=by
      have h1:D[m - 1]∈S:=by
       have h2:=c1E hml;have h3:=(a8n _ (S.take i) rfl (hSp'.out i)).1;exact List.mem_of_mem_take ((h3 _).1 (by rw[<-hD.out];exact h2))
      exact c1A (hSB.out _ h1) (by omega)
     have heq:=hid (b4j (un Z eo) w5.drew _ _ D[m - 1] v hXd ((mkx QC.mono hq2 hEd).qv hDB) ((mkx QC.mono hu6 hEd).qv (c1A hvB.out (by omega))));have hlst:decide (D[m - 1]=v)= !c:=by
      rw[<-hcnd.out,List.getLast?_eq_getElem?,hDm.out,List.getElem?_eq_getElem hml];simp[show m≠0 by omega]
     rw[hlst]at heq;clear hg2 hy2 hc2 hq2 hlst;refine a0n 13 (fun w'=>w'.cell? ⟨g2,o2,none⟩=some (.bool s6)/\w'.cell? ⟨g2,o2+1,none⟩=some (.slice a6 n6 c6)/\w'.cell? ⟨g2,o2+2,none⟩=some (.slice d6 k6 e6)/\w'.cell? ⟨gv,0,none⟩=some (.bool s5)/\w'.cell? ⟨gv,1,none⟩=some (.slice a5 n5 c5)/\w'.cell? ⟨gv,2,none⟩=some (.slice d5 k5 e5)) (by kernel_rfl) (by kernel_rfl) (hS.out _ hEd) (fun hHeld hOnce=>?_);refine kt 0 hOnce ?_;refine kt 1 hOnce ?_;refine kt 2 hOnce ?_;refine kt 3 hOnce ?_;refine kt 4 hOnce ?_;refine kt 5 hOnce ?_;refine kt 6 hOnce ?_;refine kt 7 hOnce ?_;refine kt 8 hOnce ?_;refine kt 9 hOnce ?_;refine kt 10 hOnce ?_;refine ks 11 (fun K hK=>?_);go_simp
     ((with_reducible refine heq.out.mono ?_);rintro ee wa ⟨ga,rfl⟩)
     refine kcn hK (hS.out _ (hEd.trans ga)) (fun hHeld=>?_);clear hK K;refine kt 12 hOnce ?_;refine kl 13 (fun K hK=>?_);go_simp
     refine hK.out _ _ ?_;clear hK K;go_wp2_with fail
     go_meet
     case rel=>exact⟨by simp,hEd.trans ga⟩
   case rest=>
    obtain⟨rfl,hEc⟩:=hcut;have hOc:=hO5.ext0 QC.elem hEc;have hEwc:=hE.trans (hE5.trans hEc);have huc:=mkx QC.mono hu6 hEc;cases c with
    |false=>
     have hnew:Hid (D=dd (S.take (i+1))):=hid (by
      rw[hst.out,<-hD.out];have:=hc'.out;simp at this;unfold ddS;rw[if_pos this])
     go_wp2_with fail
     go_roundw
     case rel=>exact⟨i+1,eo,ec,m,D,by go_num,rfl,by omega,hnew,hDm,hOc,hEwc⟩
     case measure=>simp[intOf];omega
    |true=>
     have hnew:Hid (D++[v]=dd (S.take (i+1))):=hid (by
      rw[hst.out,<-hD.out];have:=hc'.out;simp at this;unfold ddS;rw[if_neg this])
     have rc:=r1.ext0 hEc;have k0:=rc.cell 0 rfl;have k1:=rc.cell 1 rfl;have k2:=rc.cell 2 rfl;have hXc:HX Z wc:=hXW2.ext hEwc;have hbc:=hEwc.size;have hm19:=hDl.out;go_wp2_with (at_builtin;refine a0t (l:=D) a0x rfl QC.elem hbc hXc m hDm.out rfl rfl hOc (.agg #[.bool s5,.slice a5 n5 c5,.slice d5 k5 e5]) v rfl huc (by omega) (by omega) ?_;intro eo2 ec2 w9 hO9 hE9 hor)
     have hE10:=hEwc.own hOc (c1B _) hE9;have hm2:Hid ((D++[v]).length=m+1):=hid (by simp[hDm.out]);go_roundw
     case rel=>exact⟨i+1,eo2,ec2,m+1,D++[v],by go_num,rfl,by omega,hnew,hm2,hO9,hE10⟩
     case measure=>simp[intOf];omega
  ·obtain rfl:n=i:=by omega
   have hDS:Hid (D=dd S):=hid (by rw[hD.out,c1D (by rw[hSl.out];exact c1B _)]);have hm1:Hid (1<=m/\m<=19):=hid (by
    have h1:=b6M S;rw[<-hDS.out,hDm.out,hSl.out]at h1;refine⟨?_,by omega⟩;rcases Nat.eq_zero_or_pos m with h0|h0
    ·have:D= []:=List.length_eq_zero_iff.1 (by rw[hDm.out,h0])
     have h2:=(hSf.out.1 (S[0]'(by rw[hSl.out];omega))).2 (c1E _);rw[<-hDS.out,this]at h2;simp at h2
    ·exact h0)
   have hW2r:=hid (hW2.out.trans hE);have hDs:=hOD.sl QC.elem;have hDh:=hOD.hd;rw[hDm.out]at hDh;have hDB:Hid (BR B D):=hid (fun q hq=>hSB.out q ((hSf.out.1 q).1 (by rw[<-hDS.out];exact hq)));clear hss hho hD hE hOD hXu hSp' hSl hSB hi hlt hXW2;have hone:=a8G Z wr 1 hXr (by decide) (by decide);go_upto_region 14 with(first
    |(go_at_call 34;(with_reducible refine hone.mono ?_);rintro ee w3 ⟨hE3,u3,rfl,hu3⟩;obtain⟨s4,a4,n4,c4,d4,k4,e4,rfl⟩:=hu3.shape;have bx3:=Bx.new w3 #[.bool false,.slice none 0 0,.slice none 0 0] 47)
    |((with_reducible refine c1J (t:=47) ?_);refine a0a a0p rfl rfl bx3 rfl rfl a1s ?_;intro w4 r1 r2;have hE34:=c1M r2))
   obtain⟨g10,hg10⟩:=c1F w3.heap.size;rw[hg10]at r1;rw[hg10];have hEr4:=hE3.trans hE34;have hW4:=hid (hW2r.out.trans hEr4);have hX4:=hXr.ext hEr4;have hq1:=mkx QC.mono hu3 hE34;have hDs4:=hDs.mono QC.mono (a0k hEr4);have b04:=b0.ext0 hW4.out;have h1b:hq (((1:Int)):Rat)<=68719476736:=by decide+kernel
   have hm0:0<D.length:=by rw[hDm.out];exact hm1.out.1
   obtain⟨g0,o0,s5,a5,n5,c5,d5,k5,e5,hg0,hy0,hc0,hq0⟩:=hDs4.rat QC.shaped 0 hm0;have hf0:Hid (D[0]=fn D 0):=hid (by simp[fn,List.getD_eq_getElem?_getD,hm0]);have hB0:Hid (hq (fn D 0)<=B):=hid (by rw[<-hf0.out];exact hDB.out _ (c1E hm0));rw[hf0.out]at hq0;have hB1:Hid (hq (fn D 0 - (((1:Int)):Rat))<=B+10):=hid (by
    have h1:=a3J (fn D 0) (((1:Int)):Rat);have h2:hq (((1:Int)):Rat)<=1:=by decide+kernel
    have h3:=hB0.out;omega)
   have i1:∀W,(Instr.indexAt 24 (.slice eo m ec) (.int .i64 0)).run Tryz.prog W=.ok (.pointer (some ⟨g0,o0,none⟩)) W:=by rw[<-hg0];exact a0e a0x eo m ec .i64 0 hDh hm1.out.1
   have hEd:=c1L w4;have hXd:=hX4.ext hEd;have hwS:w4.drew.cell? ⟨b,0,none⟩=some (.int .i64 k)/\w4.drew.cell? ⟨b,1,none⟩=some (.int .i64 t)/\w4.drew.cell? ⟨g0,o0,none⟩=some (.bool s5)/\w4.drew.cell? ⟨g0,o0+1,none⟩=some (.slice a5 n5 c5)/\w4.drew.cell? ⟨g0,o0+2,none⟩=some (.slice d5 k5 e5)/\w4.drew.cell? ⟨g10,0,none⟩=some (.bool s4)/\w4.drew.cell? ⟨g10,1,none⟩=some (.slice a4 n4 c4)/\w4.drew.cell? ⟨g10,2,none⟩=some (.slice d4 k4 e4):=⟨hEd.cell (b04.cell 0 rfl),hEd.cell (b04.cell 1 rfl),(hc0.out noY _ hEd rfl).1,(hc0.out noY _ hEd rfl).2.1,(hc0.out noY _ hEd rfl).2.2,hEd.cell (r1.cell 0 rfl),hEd.cell (r1.cell 1 rfl),hEd.cell (r1.cell 2 rfl)⟩;have hud:=hid (mkx RV.mono hu1 (hW4.out.trans hEd));have hq1d:=hid ((mkx QC.mono hq1 hEd).qv h1b);have hq0d:=hid ((mkx QC.mono hq0 hEd).qv (c1A hB0.out (by omega)))
   (try simp only[Act.put])
   refine a0n 12 (fun w'=>w'.cell? ⟨b,0,none⟩=some (.int .i64 k)/\w'.cell? ⟨b,1,none⟩=some (.int .i64 t)/\w'.cell? ⟨g0,o0,none⟩=some (.bool s5)/\w'.cell? ⟨g0,o0+1,none⟩=some (.slice a5 n5 c5)/\w'.cell? ⟨g0,o0+2,none⟩=some (.slice d5 k5 e5)/\w'.cell? ⟨g10,0,none⟩=some (.bool s4)/\w'.cell? ⟨g10,1,none⟩=some (.slice a4 n4 c4)/\w'.cell? ⟨g10,2,none⟩=some (.slice d4 k4 e4)) (by kernel_rfl) (by kernel_rfl) hwS (fun hHeld hOnce=>?_);refine kt 0 hOnce ?_;refine kt 1 hOnce ?_;refine kt 2 hOnce ?_;refine kt 3 hOnce ?_;refine kt 4 hOnce ?_;refine kt 5 hOnce ?_;refine kt 6 hOnce ?_;refine kt 7 hOnce ?_;refine kt 8 hOnce ?_;refine a1z [9,10] [⟨11,11,58,b8s⟩] Z 1 hXd hHeld (fun _ _ h hE=>⟨hE.cell h.1,hE.cell h.2.1,hE.cell h.2.2.1,hE.cell h.2.2.2.1,hE.cell h.2.2.2.2.1,hE.cell h.2.2.2.2.2.1,hE.cell h.2.2.2.2.2.2.1,hE.cell h.2.2.2.2.2.2.2⟩) ?_;refine a0E (fun M1 w1 ps1 hX1 hZ1 hE1 hF1 hS1 K hK=>?_);simp only[a1y,Act.put,c1G,c1H,c1I];go_simp
   (with_reducible refine(b4X M1 w1 _ _ _ _ hX1 (upx QV.mono hF1 hq0d.out) (upx QV.mono hF1 hq1d.out)).mono ?_);rintro ee w' ⟨hE',u1,rfl,hv1⟩
   refine hK.out _ _ _ _ _ QC.mono hE' hv1 (by simp only[a1y,Act.put,c1G,c1H,c1I]) ?_;clear hK K hX1 hZ1 hE1 hF1 hS1;refine a0E (fun M2 w2 ps2 hX2 hZ2 hE2 hF2 hS2 K hK=>?_);simp only[a1y,Act.put,c1G,c1H,c1I];go_simp
   (with_reducible refine(hpc.out M2 w2 _ _ _ _ _ hX2 (upx RV.mono hF2.1 hud.out) (upx QV.mono hF2.1 hq0d.out) (hF2.2.qv (c1A hB1.out (by omega))) (c1A hB0.out (by omega)) hB1.out).mono ?_);rintro ee w' ⟨hE',u2,rfl,hv2⟩
   refine hK.out _ _ _ _ _ b8C.mono hE' hv2 (by simp only[a1y,Act.put,c1G,c1H,c1I]) ?_;clear hK K hX2 hZ2 hE2 hF2 hS2;refine a2W (fun M w5 gs hX5 hZ5 hE5 hF5 hS5 hb5 hn5=>?_);simp only[a1y,ptr,Act.put,c1G,c1H,c1I];obtain⟨ga,hga⟩:=c1F (gs 0);obtain⟨x5,m5,l5⟩:=hb5 0 _ rfl;rw[hga]at x5 m5 l5;simp only[hga];obtain⟨s6,a6,n6,c6,d6,k6,e6,s7,a7,n7,c7,d7,k7,e7,rfl,qA,qB⟩:=hF5.2;refine kl 12 (fun K hK=>?_)
   (refine a0r rfl rfl a6h rfl rfl x5 rfl rfl b8w ?_;intro w6 z6 y6)
   refine hK.out _ _ ?_;clear hK K
   (try simp only[Act.put])
   have hMg:∀k,ob (some ⟨ga,0,none⟩) k=true->M k=true:=fun k hk=>by
    have:ga=k:=by simpa[ob]using hk
    rw[<-this];exact m5
   have hl56:=a0s (X:=M) y6 hMg;have qA6:=QC.mono _ _ _ _ hl56 qA;have qB6:=QC.mono _ _ _ _ hl56 qB;have q06:=QC.mono _ _ _ _ (hF5.1.1.trans hl56) (mkx QC.mono hq0 hEd);have hMZ:=hid hZ5;have hE46:Ext w4 w6:=ExtX.box (hEd.trans hE5) y6 l5;have z6':Bx w6 ga #[.bool false,.slice none 0 0,.slice none 0 0,.bool false,.slice none 0 0,.slice none 0 0,.bool false,.bool false,.bool s6,.slice a6 n6 c6,.slice d6 k6 e6,.bool s7,.slice a7 n7 c7,.slice d7 k7 e7] 58:=z6;have hl4:w4.heap.size<=ga:=l5;have hDs4h:=hid hDs4;have r1h:=hid r1;have hc06:=hid (fun w' (h:Ext w6 w')=>hc0.out noY w' (hE46.trans h) rfl);have hga0:g0≠ga:=fun h=>by
    have:=a1Z (hc0.out noY w4 (ExtX.refl _) rfl).1;have h1:g0<w4.heap.size:=this;omega
   clear hv1 hv2 hF5 hS5 hb5 hn5 hE5 hX5 hZ5 x5 y6 z6 qA qB hl56 l5 m5 hga hHeld hOnce hwS hud hq1d hq0d hXd hEd hDs4 hX4 hDs hXr hc0 hone r1 hq0;have hEd:=c1L w6;have z7:=z6'.ext0 hEd;go_upto_region 15 with fail
   (try simp only[Act.put])
   refine a0n 6 (fun w'=>w'.cell? ⟨g0,o0,none⟩=some (.bool s5)/\w'.cell? ⟨g0,o0+1,none⟩=some (.slice a5 n5 c5)/\w'.cell? ⟨g0,o0+2,none⟩=some (.slice d5 k5 e5)) (by kernel_rfl) (by kernel_rfl) (hc06.out _ hEd) (fun hHeld hOnce=>?_);refine kt 0 hOnce ?_;refine kt 1 hOnce ?_;refine kt 2 hOnce ?_;refine kt 3 hOnce ?_;refine ks 4 (fun K hK=>?_)
   (refine a4E rfl rfl b0l rfl rfl rfl rfl z7 (by show 6<14;decide) ?_;intro w8 z8 y8)
   refine kcn hK ⟨y8.cellY hHeld.1 (a0b hga0),y8.cellY hHeld.2.1 (a0b hga0),y8.cellY hHeld.2.2 (a0b hga0)⟩ (fun hHeld=>?_);clear hK K;refine kt 5 hOnce ?_;refine kl 6 (fun K hK=>?_)
   (refine a2O rfl rfl a0p rfl rfl z8 (by show 3+3<=14;decide) rfl a1s ?_;intro w9 z9 y9)
   refine hK.out _ _ ?_;clear hK K
   (try simp only[Act.put])
   have hl69:=(a0k (X:=M) hEd).trans ((a0s (X:=M) y8 hMg).trans (a0s (X:=M) y9 hMg));have hl9:Le (mk M w6) (mk Z w9):=hl69.trans (a1a fun k _ hk=>hMZ.out k hk);have hE49:Ext w4 w9:=ExtX.box (ExtX.box (hE46.trans hEd) y8 hl4) y9 hl4;have z9':Bx w9 ga #[.bool false,.slice none 0 0,.slice none 0 0,.bool s5,.slice a5 n5 c5,.slice d5 k5 e5,.bool true,.bool false,.bool s6,.slice a6 n6 c6,.slice d6 k6 e6,.bool s7,.slice a7 n7 c7,.slice d7 k7 e7] 58:=z9;have hp0:a1W (mk Z w9) (.agg #[.bool false,.slice none 0 0,.slice none 0 0,.bool s5,.slice a5 n5 c5,.slice d5 k5 e5,.bool true,.bool false,.bool s6,.slice a6 n6 c6,.slice d6 k6 e6,.bool s7,.slice a7 n7 c7,.slice d7 k7 e7]) (pcE f D 0):=by
    have hD0:0≠D.length:=by omega
    have e1:(pcE f D 0).lo=none:=rfl;have e2:(pcE f D 0).hi=some (fn D 0):=by simp[pcE,hiE,hD0]
    have e3:(pcE f D 0).a=a5p f (fn D 0) (fn D 0 - (((1:Int)):Rat)):=by simp[pcE,ptP,ptQ]
    have e4:(pcE f D 0).b=a4i f (fn D 0) (fn D 0 - (((1:Int)):Rat)):=by simp[pcE,ptP,ptQ]
    refine a1W.of ?_ ?_ ?_ ?_ (by rw[e1];rfl) (by rw[e2];rfl)
    ·rw[e1];exact QC.zero _
    ·rw[e2];exact QC.mono _ _ _ _ hl9 q06
    ·rw[e3];exact QC.mono _ _ _ _ hl9 qA6
    ·rw[e4];exact QC.mono _ _ _ _ hl9 qB6
   have hW9:=hid (hW4.out.trans hE49);have hX9:HX Z w9:=hXW.ext hW9.out;have hDs9:=hid (hDs4h.out.mono QC.mono (a0k hE49));have hu9:=hid (mkx RV.mono hu1 hW9.out);have hq19:=hid (mkx QC.mono hq1 hE49);have r19:=r1h.out.ext0 hE49;have b09:=b0.ext0 hW9.out;clear hl69 hl9 y8 y9 z8 z7 z6' qA6 qB6 q06 hMg hHeld hOnce hEd hc06 b04 hE49 hE46 hl4 hga0 i1 hq1 hEr4 hW4 hE34 bx3 r2 hE3 hf0 hy0 hg0 hu3 hMZ hW2r hE1 hE2 hXW hW2 hB1 hB0;go_upto_region 18 with(first|((with_reducible refine c1K (t:=58) ?_);refine a2P a6h rfl z9' rfl ?_))
   clear z9';have hlit:=b8t (e:=58) hX9 hp0;have hEl:Ext w9 (w9.alloc (.cells #[.bool false,.slice none 0 0,.slice none 0 0,.bool s5,.slice a5 n5 c5,.slice d5 k5 e5,.bool true,.bool false,.bool s6,.slice a6 n6 c6,.slice d6 k6 e6,.bool s7,.slice a7 n7 c7,.slice d7 k7 e7] 58)):=(ExtX.refl w9).alloc _;go_loopw [12,13] (fun o c wr=>∃(i:Nat) (bo:Option Addr) (bc:Nat),c=.int .i64 i/\o=.slice bo i bc/\1<=i/\i<=m/\OL a1W 14 Z w9.heap.size 58 wr bo bc (a9s f D i)/\Ext w9 wr) (fun _ c _=>m - (intOf c).toNat)
   case atStart=>exact⟨1,_,1,rfl,rfl,c1B _,hm1.out.1,hlit,hEl⟩
   case round=>
    obtain⟨i,bo,bc,rfl,rfl,hi1,him,hOB,hEa⟩:=hrel;clear hlit hEl hp0;have hXa:=hX9.ext hEa;have hXb:HX (un Z bo) wr:=hOB.unX hXa;have hm19:=hm1.out.2;by_cases hlt:i<m
    ·have hi2:i<D.length:=by rw[hDm.out];omega
     have hi1':i - 1<D.length:=by omega
     have hDr:=hDs9.out.old QC.mono hEa (fun j hj=>hOB.ob_lt hj);have hur:=hid (a2j RV.mono hu9.out hEa (fun j hj=>hOB.ob_lt hj));obtain⟨g1,o1,s1,a1,n1,c1,d1,k1,e1,hg1,hy1,hc1,hq1⟩:=hDr.rat QC.shaped (i - 1) hi1';obtain⟨g2,o2,s2,a2,n2,c2,d2,k2,e2,hg2,hy2,hc2,hq2⟩:=hDr.rat QC.shaped i hi2;have hf1:Hid (D[i - 1]=fn D (i - 1)):=hid (by simp[fn,List.getD_eq_getElem?_getD,hi1']);have hf2:Hid (D[i]=fn D i):=hid (by simp[fn,List.getD_eq_getElem?_getD,hi2]);have hB1:Hid (hq (fn D (i - 1))<=B):=hid (by rw[<-hf1.out];exact hDB.out _ (c1E hi1'));have hB2:Hid (hq (fn D i)<=B):=hid (by rw[<-hf2.out];exact hDB.out _ (c1E hi2));rw[hf1.out]at hq1;rw[hf2.out]at hq2;have ew:IntKind.i64.wrap ((i:Int) - 1)=(i:Int) - 1:=IntWalk.i64_in _ (by omega);have j1:∀W,(Instr.indexAt 24 (.slice eo m ec) (.int .i64 ((i:Int) - 1))).run Tryz.prog W=.ok (.pointer (some ⟨g1,o1,none⟩)) W:=by
      rw[<-hg1,show((i:Int) - 1)=((i - 1:Nat):Int)by omega];exact a0e a0x eo m ec .i64 (i - 1) hDh (by omega)
     have j2:∀W,(Instr.indexAt 24 (.slice eo m ec) (.int .i64 i)).run Tryz.prog W=.ok (.pointer (some ⟨g2,o2,none⟩)) W:=by
      rw[<-hg2];exact a0e a0x eo m ec .i64 i hDh hlt
     have ba:=b09.ext0 hEa;have hEd:=c1L wr;have hcs:Hid (∀w',Ext wr w'->w'.cell? ⟨g1,o1,none⟩=some (.bool s1)/\w'.cell? ⟨g1,o1+1,none⟩=some (.slice a1 n1 c1)/\w'.cell? ⟨g1,o1+2,none⟩=some (.slice d1 k1 e1)/\w'.cell? ⟨g2,o2,none⟩=some (.bool s2)/\w'.cell? ⟨g2,o2+1,none⟩=some (.slice a2 n2 c2)/\w'.cell? ⟨g2,o2+2,none⟩=some (.slice d2 k2 e2)):=hid fun w' h=>
      ⟨(hc1.out noY _ h rfl).1,(hc1.out noY _ h rfl).2.1,(hc1.out noY _ h rfl).2.2,(hc2.out noY _ h rfl).1,(hc2.out noY _ h rfl).2.1,(hc2.out noY _ h rfl).2.2⟩
     have hwS:wr.drew.cell? ⟨b,0,none⟩=some (.int .i64 k)/\wr.drew.cell? ⟨b,1,none⟩=some (.int .i64 t)/\wr.drew.cell? ⟨g1,o1,none⟩=some (.bool s1)/\wr.drew.cell? ⟨g1,o1+1,none⟩=some (.slice a1 n1 c1)/\wr.drew.cell? ⟨g1,o1+2,none⟩=some (.slice d1 k1 e1)/\wr.drew.cell? ⟨g2,o2,none⟩=some (.bool s2)/\wr.drew.cell? ⟨g2,o2+1,none⟩=some (.slice a2 n2 c2)/\wr.drew.cell? ⟨g2,o2+2,none⟩=some (.slice d2 k2 e2):=⟨hEd.cell (ba.cell 0 rfl),hEd.cell (ba.cell 1 rfl),hcs.out _ hEd⟩;have hg1l:g1<wr.heap.size:=a1Z (hc1.out noY wr (ExtX.refl _) rfl).1;have hg2l:g2<wr.heap.size:=a1Z (hc2.out noY wr (ExtX.refl _) rfl).1;have hXd:=hXb.ext hEd;have hud:=hid (mkx RV.mono hur.out hEd);have hq1d:=hid ((mkx QC.mono hq1 hEd).qv (c1A hB1.out (by omega)));have hq2d:=hid ((mkx QC.mono hq2 hEd).qv (c1A hB2.out (by omega)));go_upto_region 20 with fail
     (try simp only[Act.put])
     refine a0n 13 (fun w'=>w'.cell? ⟨b,0,none⟩=some (.int .i64 k)/\w'.cell? ⟨b,1,none⟩=some (.int .i64 t)/\w'.cell? ⟨g1,o1,none⟩=some (.bool s1)/\w'.cell? ⟨g1,o1+1,none⟩=some (.slice a1 n1 c1)/\w'.cell? ⟨g1,o1+2,none⟩=some (.slice d1 k1 e1)/\w'.cell? ⟨g2,o2,none⟩=some (.bool s2)/\w'.cell? ⟨g2,o2+1,none⟩=some (.slice a2 n2 c2)/\w'.cell? ⟨g2,o2+2,none⟩=some (.slice d2 k2 e2)) (by kernel_rfl) (by kernel_rfl) hwS (fun hHeld hOnce=>?_);refine kt 0 hOnce ?_;refine kt 1 hOnce ?_;refine kt 2 hOnce ?_;refine kt 3 hOnce ?_;refine kt 4 hOnce ?_;refine kt 5 hOnce ?_;refine kt 6 hOnce ?_;refine kt 7 hOnce ?_;refine kt 8 hOnce ?_;refine kt 9 hOnce ?_;refine kt 10 hOnce ?_;refine a1z [11] [⟨12,14,58,b8s⟩] (un Z bo) 1 hXd hHeld (fun _ _ h hE=>⟨hE.cell h.1,hE.cell h.2.1,hE.cell h.2.2.1,hE.cell h.2.2.2.1,hE.cell h.2.2.2.2.1,hE.cell h.2.2.2.2.2.1,hE.cell h.2.2.2.2.2.2.1,hE.cell h.2.2.2.2.2.2.2⟩) ?_;refine a0E (fun M1 w1 ps1 hX1 hZ1 hE1 hF1 hS1 K hK=>?_);simp only[a1y,Act.put,c1G,c1H,c1I];go_simp
     (with_reducible refine(hpc.out M1 w1 _ _ _ _ _ hX1 (upx RV.mono hF1 hud.out) (upx QV.mono hF1 hq1d.out) (upx QV.mono hF1 hq2d.out) (c1A hB1.out (by omega)) (c1A hB2.out (by omega))).mono ?_);rintro ee w' ⟨hE',u2,rfl,hv2⟩
     refine hK.out _ _ _ _ _ b8C.mono hE' hv2 (by simp only[a1y,Act.put,c1G,c1H,c1I]) ?_;clear hK K hX1 hZ1 hE1 hF1 hS1;refine a2W (fun M w5 gs hX5 hZ5 hE5 hF5 hS5 hb5 hn5=>?_);simp only[a1y,ptr,Act.put,c1G,c1H,c1I];obtain⟨ga,hga⟩:=c1F (gs 0);obtain⟨x5,m5,l5⟩:=hb5 0 _ rfl;rw[hga]at x5 m5 l5;simp only[hga];obtain⟨s6,a6,n6,c6,d6,k6,e6,s7,a7,n7,c7,d7,k7,e7,rfl,qA,qB⟩:=hF5.2;refine kl 13 (fun K hK=>?_)
     (refine a0r rfl rfl a6h rfl rfl x5 rfl rfl b8w ?_;intro w6 z6 y6)
     refine hK.out _ _ ?_;clear hK K
     (try simp only[Act.put])
     have hMg:∀k,ob (some ⟨ga,0,none⟩) k=true->M k=true:=fun k hk=>by
      have:ga=k:=by simpa[ob]using hk
      rw[<-this];exact m5
     have hMZ:=hid hZ5;have hEr6:Ext wr w6:=ExtX.box (hEd.trans hE5) y6 l5;have z6':Bx w6 ga #[.bool false,.slice none 0 0,.slice none 0 0,.bool false,.slice none 0 0,.slice none 0 0,.bool false,.bool false,.bool s6,.slice a6 n6 c6,.slice d6 k6 e6,.bool s7,.slice a7 n7 c7,.slice d7 k7 e7] 58:=z6;have hl56:=hid ((a0k (X:=M) (ExtX.refl w5)).trans (a0s (X:=M) y6 hMg));have hF1:=hid (hF5.1.trans hl56.out);have qA6:=QC.mono _ _ _ _ hl56.out qA;have qB6:=QC.mono _ _ _ _ hl56.out qB;have hEd6:=c1L w6;have z7:=z6'.ext0 hEd6;have hga1:g1≠ga:=by have h1:wr.heap.size<=ga:=l5;omega
     have hga2:g2≠ga:=by have h1:wr.heap.size<=ga:=l5;omega
     have hgaL:wr.heap.size<=ga:=l5;have hcs2:=hcs.out _ (hEr6.trans hEd6);clear hv2 hF5 hS5 hb5 hn5 hE5 hX5 hZ5 x5 y6 z6 z6' qA qB l5 m5 hga hHeld hOnce hwS hud hq1d hq2d hXd hEd;go_upto_region 21 with fail
     (try simp only[Act.put])
     refine a0n 12 (fun w'=>w'.cell? ⟨g1,o1,none⟩=some (.bool s1)/\w'.cell? ⟨g1,o1+1,none⟩=some (.slice a1 n1 c1)/\w'.cell? ⟨g1,o1+2,none⟩=some (.slice d1 k1 e1)/\w'.cell? ⟨g2,o2,none⟩=some (.bool s2)/\w'.cell? ⟨g2,o2+1,none⟩=some (.slice a2 n2 c2)/\w'.cell? ⟨g2,o2+2,none⟩=some (.slice d2 k2 e2)) (by kernel_rfl) (by kernel_rfl) hcs2 (fun hHeld hOnce=>?_);refine kt 0 hOnce ?_;refine kt 1 hOnce ?_;refine kt 2 hOnce ?_;refine kt 3 hOnce ?_;refine kt 4 hOnce ?_;refine kt 5 hOnce ?_;refine kt 6 hOnce ?_;refine kt 7 hOnce ?_;refine kt 8 hOnce ?_;refine kt 9 hOnce ?_;refine ks 10 (fun K hK=>?_)
     (refine a2O rfl rfl a0p rfl rfl z7 (by show 0+3<=14;decide) rfl a1s ?_;intro w8 z8 y8)
     refine kcn hK ⟨y8.cellY hHeld.1 (a0b hga1),y8.cellY hHeld.2.1 (a0b hga1),y8.cellY hHeld.2.2.1 (a0b hga1),y8.cellY hHeld.2.2.2.1 (a0b hga2),y8.cellY hHeld.2.2.2.2.1 (a0b hga2),y8.cellY hHeld.2.2.2.2.2 (a0b hga2)⟩ (fun hHeld=>?_);clear hK K;refine kt 11 hOnce ?_;refine kl 12 (fun K hK=>?_)
     (refine a2O rfl rfl a0p rfl rfl z8 (by show 3+3<=14;decide) rfl a1s ?_;intro w10 z10 y10)
     refine hK.out _ _ ?_;clear hK K
     (try simp only[Act.put])
     have hl610:=(a0k (X:=M) hEd6).trans ((a0s (X:=M) y8 hMg).trans (a0s (X:=M) y10 hMg));have hl10:Le (mk M w6) (mk (un Z bo) w10):=hl610.trans (a1a fun k _ hk=>hMZ.out k hk);have hEr10:Ext wr w10:=ExtX.box (ExtX.box (hEr6.trans hEd6) y8 hgaL) y10 hgaL;have z10':Bx w10 ga #[.bool s1,.slice a1 n1 c1,.slice d1 k1 e1,.bool s2,.slice a2 n2 c2,.slice d2 k2 e2,.bool false,.bool false,.bool s6,.slice a6 n6 c6,.slice d6 k6 e6,.bool s7,.slice a7 n7 c7,.slice d7 k7 e7] 58:=z10;have hp1:a1W (mk (un Z bo) w10) (.agg #[.bool s1,.slice a1 n1 c1,.slice d1 k1 e1,.bool s2,.slice a2 n2 c2,.slice d2 k2 e2,.bool false,.bool false,.bool s6,.slice a6 n6 c6,.slice d6 k6 e6,.bool s7,.slice a7 n7 c7,.slice d7 k7 e7]) (pcE f D i):=by
      have h0:i≠0:=by omega
      have h1:i≠D.length:=by omega
      have x1:(pcE f D i).lo=some (fn D (i - 1)):=by simp[pcE,loE,h0]
      have x2:(pcE f D i).hi=some (fn D i):=by simp[pcE,hiE,h1]
      have x3:(pcE f D i).a=a5p f (fn D (i - 1)) (fn D i):=by simp[pcE,ptP,ptQ,h0,h1]
      have x4:(pcE f D i).b=a4i f (fn D (i - 1)) (fn D i):=by simp[pcE,ptP,ptQ,h0,h1]
      refine a1W.of ?_ ?_ ?_ ?_ (by rw[x1];rfl) (by rw[x2];rfl)
      ·rw[x1];exact QC.mono _ _ _ _ (a0k hEr10) hq1
      ·rw[x2];exact QC.mono _ _ _ _ (a0k hEr10) hq2
      ·rw[x3];exact QC.mono _ _ _ _ hl10 qA6
      ·rw[x4];exact QC.mono _ _ _ _ hl10 qB6
     have hX10:=hXa.ext hEr10;have hO10:=hOB.ext0 a1W.elem hEr10;have hb10:=(hEa.trans hEr10).size;clear hl610 hl10 y8 y10 z8 z10 z7 qA6 qB6 hMg hHeld hOnce hEd6 hcs2 hl56 hF1;go_wp2_with (first
      |((with_reducible refine c1K (t:=58) ?_);refine a2P a6h rfl z10' rfl ?_)
      |(at_builtin;refine a0t (l:=a9s f D i) a7j rfl a1W.elem hb10 hX10 i (a6n _ _ _) rfl rfl hO10 (.agg #[.bool s1,.slice a1 n1 c1,.slice d1 k1 e1,.bool s2,.slice a2 n2 c2,.slice d2 k2 e2,.bool false,.bool false,.bool s6,.slice a6 n6 c6,.slice d6 k6 e6,.bool s7,.slice a7 n7 c7,.slice d7 k7 e7]) (pcE f D i) rfl hp1 (by omega) (by omega) ?_;intro bo2 bc2 w11 hO11 hE11 hor))
     have hE12:=(hEa.trans hEr10).own hO10 (c1B _) hE11;rw[<-a9m]at hO11;go_roundw
     case rel=>exact⟨i+1,bo2,bc2,by go_num,rfl,by omega,by omega,hO11,hE12⟩
     case measure=>simp[intOf];omega
    ·obtain rfl:m=i:=by omega
     have hi1':m - 1<D.length:=by rw[hDm.out];omega
     have hDr:=hDs9.out.old QC.mono hEa (fun j hj=>hOB.ob_lt hj);have hur:=hid (a2j RV.mono hu9.out hEa (fun j hj=>hOB.ob_lt hj));have hq1r:=hid (a2j QC.mono hq19 hEa (fun j hj=>hOB.ob_lt hj));obtain⟨g1,o1,s1,a1,n1,c1,d1,kk,e1,hg1,hy1,hc1,hq1⟩:=hDr.rat QC.shaped (m - 1) hi1';have hf1:Hid (D[m - 1]=fn D (m - 1)):=hid (by simp[fn,List.getD_eq_getElem?_getD,hi1']);have hB1:Hid (hq (fn D (m - 1))<=B):=hid (by rw[<-hf1.out];exact hDB.out _ (c1E hi1'));have hB2:Hid (hq (fn D (m - 1)+(((1:Int)):Rat))<=B+10):=hid (by
      have h1:=a7p (fn D (m - 1)) (((1:Int)):Rat);have h2:hq (((1:Int)):Rat)<=1:=by decide+kernel
      have h3:=hB1.out;omega)
     rw[hf1.out]at hq1;have ew:IntKind.i64.wrap ((m:Int) - 1)=(m:Int) - 1:=IntWalk.i64_in _ (by omega);have j1:∀W,(Instr.indexAt 24 (.slice eo m ec) (.int .i64 ((m:Int) - 1))).run Tryz.prog W=.ok (.pointer (some ⟨g1,o1,none⟩)) W:=by
      rw[<-hg1,show((m:Int) - 1)=((m - 1:Nat):Int)by omega];exact a0e a0x eo m ec .i64 (m - 1) hDh (by omega)
     have k0:wr.cell? ⟨g1,o1,none⟩=some (.bool s1):=(hc1.out noY _ (ExtX.refl _) rfl).1;have k1:wr.cell? ⟨g1,o1+1,none⟩=some (.slice a1 n1 c1):=(hc1.out noY _ (ExtX.refl _) rfl).2.1;have k2:wr.cell? ⟨g1,o1+2,none⟩=some (.slice d1 kk e1):=(hc1.out noY _ (ExtX.refl _) rfl).2.2;have bx:=Bx.new wr #[.bool false,.slice none 0 0,.slice none 0 0] 47;go_upto_region 24 with(first|((with_reducible refine c1J (t:=47) ?_);refine a0a a0p rfl rfl bx rfl rfl a1s ?_;intro w4 r1 r2;have hE4:=c1M r2))
     obtain⟨g15,hg15⟩:=c1F wr.heap.size;rw[hg15]at r1;rw[hg15];have hEd:=c1L w4;have b04:=b09.ext0 (hEa.trans (hE4.trans hEd));have r19':=r19.ext0 (hEa.trans (hE4.trans hEd));have rd1:=r1.ext0 hEd;have hwS:w4.drew.cell? ⟨b,0,none⟩=some (.int .i64 k)/\w4.drew.cell? ⟨b,1,none⟩=some (.int .i64 t)/\w4.drew.cell? ⟨g15,0,none⟩=some (.bool s1)/\w4.drew.cell? ⟨g15,1,none⟩=some (.slice a1 n1 c1)/\w4.drew.cell? ⟨g15,2,none⟩=some (.slice d1 kk e1)/\w4.drew.cell? ⟨g10,0,none⟩=some (.bool s4)/\w4.drew.cell? ⟨g10,1,none⟩=some (.slice a4 n4 c4)/\w4.drew.cell? ⟨g10,2,none⟩=some (.slice d4 k4 e4):=⟨b04.cell 0 rfl,b04.cell 1 rfl,rd1.cell 0 rfl,rd1.cell 1 rfl,rd1.cell 2 rfl,r19'.cell 0 rfl,r19'.cell 1 rfl,r19'.cell 2 rfl⟩;have hX4:=(HX.ext (w:=wr) hXb hE4);have hXd:=hX4.ext hEd;have hud:=hid (mkx RV.mono hur.out (hE4.trans hEd));have hq1d:=hid ((mkx QC.mono hq1r.out (hE4.trans hEd)).qv h1b);have hq0d:=hid ((mkx QC.mono hq1 (hE4.trans hEd)).qv (c1A hB1.out (by omega)))
     (try simp only[Act.put])
     refine a0n 8 (fun w'=>w'.cell? ⟨b,0,none⟩=some (.int .i64 k)/\w'.cell? ⟨b,1,none⟩=some (.int .i64 t)/\w'.cell? ⟨g15,0,none⟩=some (.bool s1)/\w'.cell? ⟨g15,1,none⟩=some (.slice a1 n1 c1)/\w'.cell? ⟨g15,2,none⟩=some (.slice d1 kk e1)/\w'.cell? ⟨g10,0,none⟩=some (.bool s4)/\w'.cell? ⟨g10,1,none⟩=some (.slice a4 n4 c4)/\w'.cell? ⟨g10,2,none⟩=some (.slice d4 k4 e4)) (by kernel_rfl) (by kernel_rfl) hwS (fun hHeld hOnce=>?_);refine kt 0 hOnce ?_;refine kt 1 hOnce ?_;refine kt 2 hOnce ?_;refine kt 3 hOnce ?_;refine kt 4 hOnce ?_;refine a1z [5,6] [⟨7,16,58,b8s⟩] (un Z bo) 1 hXd hHeld (fun _ _ h hE=>⟨hE.cell h.1,hE.cell h.2.1,hE.cell h.2.2.1,hE.cell h.2.2.2.1,hE.cell h.2.2.2.2.1,hE.cell h.2.2.2.2.2.1,hE.cell h.2.2.2.2.2.2.1,hE.cell h.2.2.2.2.2.2.2⟩) ?_;refine a0E (fun M1 w1 ps1 hX1 hZ1 hE1 hF1 hS1 K hK=>?_);simp only[a1y,Act.put,c1G,c1H,c1I];go_simp
     (with_reducible refine(b2U M1 w1 _ _ _ _ hX1 (upx QV.mono hF1 hq0d.out) (upx QV.mono hF1 hq1d.out)).mono ?_);rintro ee w' ⟨hE',u1,rfl,hv1⟩
     refine hK.out _ _ _ _ _ QC.mono hE' hv1 (by simp only[a1y,Act.put,c1G,c1H,c1I]) ?_;clear hK K hX1 hZ1 hE1 hF1 hS1;refine a0E (fun M2 w2 ps2 hX2 hZ2 hE2 hF2 hS2 K hK=>?_);simp only[a1y,Act.put,c1G,c1H,c1I];go_simp
     (with_reducible refine(hpc.out M2 w2 _ _ _ _ _ hX2 (upx RV.mono hF2.1 hud.out) (upx QV.mono hF2.1 hq0d.out) (hF2.2.qv (c1A hB2.out (by omega))) (c1A hB1.out (by omega)) hB2.out).mono ?_);rintro ee w' ⟨hE',u2,rfl,hv2⟩
     refine hK.out _ _ _ _ _ b8C.mono hE' hv2 (by simp only[a1y,Act.put,c1G,c1H,c1I]) ?_;clear hK K hX2 hZ2 hE2 hF2 hS2;refine a2W (fun M w5 gs hX5 hZ5 hE5 hF5 hS5 hb5 hn5=>?_);simp only[a1y,ptr,Act.put,c1G,c1H,c1I];obtain⟨ga,hga⟩:=c1F (gs 0);obtain⟨x5,m5,l5⟩:=hb5 0 _ rfl;rw[hga]at x5 m5 l5;simp only[hga];obtain⟨s6,a6,n6,c6,d6,k6,e6,s7,a7,n7,c7,d7,k7,e7,rfl,qA,qB⟩:=hF5.2;refine kl 8 (fun K hK=>?_)
     (refine a0r rfl rfl a6h rfl rfl x5 rfl rfl b8w ?_;intro w6 z6 y6)
     refine hK.out _ _ ?_;clear hK K
     (try simp only[Act.put])
     have hMg:∀k,ob (some ⟨ga,0,none⟩) k=true->M k=true:=fun k hk=>by
      have:ga=k:=by simpa[ob]using hk
      rw[<-this];exact m5
     have hMZ:=hid hZ5;have hE46:Ext w4 w6:=ExtX.box (hEd.trans hE5) y6 l5;have hEr6:Ext wr w6:=hE4.trans hE46;have hgaL:wr.heap.size<=ga:=c1A hE4.size l5;have z6':Bx w6 ga #[.bool false,.slice none 0 0,.slice none 0 0,.bool false,.slice none 0 0,.slice none 0 0,.bool false,.bool false,.bool s6,.slice a6 n6 c6,.slice d6 k6 e6,.bool s7,.slice a7 n7 c7,.slice d7 k7 e7] 58:=z6;have hl56:=hid ((a0k (X:=M) (ExtX.refl w5)).trans (a0s (X:=M) y6 hMg));have qA6:=QC.mono _ _ _ _ hl56.out qA;have qB6:=QC.mono _ _ _ _ hl56.out qB;have r6:=r1.ext0 hE46;have k3:=r6.cell 0 rfl;have k4':w6.cell? ⟨g15,1,none⟩=some (.slice a1 n1 c1):=r6.cell 1 rfl;have k5':w6.cell? ⟨g15,2,none⟩=some (.slice d1 kk e1):=r6.cell 2 rfl;clear hv1 hv2 hF5 hS5 hb5 hn5 hE5 hX5 hZ5 x5 y6 z6 qA qB l5 m5 hga hHeld hOnce hwS hud hq1d hq0d hXd hEd hX4 rd1 r1 r2 k0 k1 k2 b04 r19' bx;go_upto_region 26 with(first
      |((with_reducible refine c1J (t:=47) ?_);refine a9l a0p rfl rfl z6' (by show 0+3<=14;decide) rfl a1s ?_;intro w8 z8 y8)
      |((with_reducible refine c1J (t:=4) ?_);refine a1G b0l rfl rfl rfl rfl z8 (by show 7<14;decide) ?_;intro w10 z10 y10))
     have hl610:=(a0s (X:=M) y8 hMg).trans (a0s (X:=M) y10 hMg);have hl10:Le (mk M w6) (mk (un Z bo) w10):=hl610.trans (a1a fun k _ hk=>hMZ.out k hk);have hEr10:Ext wr w10:=ExtX.box (ExtX.box hEr6 y8 hgaL) y10 hgaL;have z10':Bx w10 ga #[.bool s1,.slice a1 n1 c1,.slice d1 kk e1,.bool false,.slice none 0 0,.slice none 0 0,.bool false,.bool true,.bool s6,.slice a6 n6 c6,.slice d6 k6 e6,.bool s7,.slice a7 n7 c7,.slice d7 k7 e7] 58:=z10;have hp1:a1W (mk (un Z bo) w10) (.agg #[.bool s1,.slice a1 n1 c1,.slice d1 kk e1,.bool false,.slice none 0 0,.slice none 0 0,.bool false,.bool true,.bool s6,.slice a6 n6 c6,.slice d6 k6 e6,.bool s7,.slice a7 n7 c7,.slice d7 k7 e7]) (pcE f D m):=by
      have h0:m≠0:=by omega
      have h1:m=D.length:=hDm.out.symm;have x1:(pcE f D m).lo=some (fn D (m - 1)):=by simp[pcE,loE,h0]
      have x2:(pcE f D m).hi=none:=by simp[pcE,hiE,<-h1]
      have x3:(pcE f D m).a=a5p f (fn D (m - 1)) (fn D (m - 1)+(((1:Int)):Rat)):=by simp[pcE,ptP,ptQ,h0,<-h1]
      have x4:(pcE f D m).b=a4i f (fn D (m - 1)) (fn D (m - 1)+(((1:Int)):Rat)):=by simp[pcE,ptP,ptQ,h0,<-h1]
      refine a1W.of ?_ ?_ ?_ ?_ (by rw[x1];rfl) (by rw[x2];rfl)
      ·rw[x1];exact QC.mono _ _ _ _ (a0k hEr10) hq1
      ·rw[x2];exact QC.zero _
      ·rw[x3];exact QC.mono _ _ _ _ hl10 qA6
      ·rw[x4];exact QC.mono _ _ _ _ hl10 qB6
     have hX10:=hXa.ext hEr10;have hO10:=hOB.ext0 a1W.elem hEr10;have hb10:=(hEa.trans hEr10).size;clear hl610 hl10 y8 y10 z8 z10 qA6 qB6 hMg hl56 k3 k4' k5' j1;go_upto_region 29 with(first
      |((with_reducible refine c1K (t:=58) ?_);refine a2P a6h rfl z10' rfl ?_)
      |(at_builtin;refine a0t (l:=a9s f D m) a7j rfl a1W.elem hb10 hX10 m (a6n _ _ _) rfl rfl hO10 (.agg #[.bool s1,.slice a1 n1 c1,.slice d1 kk e1,.bool false,.slice none 0 0,.slice none 0 0,.bool false,.bool true,.bool s6,.slice a6 n6 c6,.slice d6 k6 e6,.bool s7,.slice a7 n7 c7,.slice d7 k7 e7]) (pcE f D m) rfl hp1 (by omega) (by omega) ?_;intro bo2 bc2 w11 hO11 hE11 hor))
     have hE12:=hid ((hEa.trans hEr10).own hO10 (c1B _) hE11);rw[<-a9m]at hO11;have hal:=hO11.sl a1W.elem;have hah:=hO11.hd;rw[a6n]at hah;have hX11:=hX9.ext hE12.out;have hgd:=hid (fun i=>b6a hfB.out hDB.out hBB i);clear hp1 z10' hO10 hX10 hb10 hEr10 hO11 hE11 hor hq1 hB2 hB1 hf1 hc1 hg1 hy1 hDr hur hq1r hXb hOB hEa hi1' ew hpc hu9 hDs9 hDh r19 b09;go_loopw [17,131] (fun o c wr=>∃(i q:Nat) (oo:Option Addr) (oc:Nat) (T:List Pc),c=.int .i64 i/\o=.slice oo q oc/\i<=m+1/\Hid (T=b1j f D i)/\Hid (T.length=q)/\OL a1W 14 Z w11.heap.size 58 wr oo oc T/\Ext w11 wr) (fun _ c _=>m+1 - (intOf c).toNat)
     case atStart=>exact⟨0,0,none,0,[],rfl,rfl,Nat.zero_le _,hid rfl,hid rfl,OL.nil _ _ _ _ _ _,ExtX.refl _⟩
     case round=>
      obtain⟨i,q,oo,oc,T,rfl,rfl,hi,hT,hTq,hOT,hEt⟩:=hrel;have hXt:=hX11.ext hEt;have hXu:HX (un Z oo) wr:=hOT.unX hXt;have hq19':Hid (q<=i):=hid (by rw[<-hTq.out,hT.out];exact b1l _ _ _);by_cases hlt:i<m+1
      ·have hil:i<(a9s f D (m+1)).length:=by rw[a6n];exact hlt
       have halr:=hid (hal.old a1W.mono hEt (fun j hj=>hOT.ob_lt hj));have hgT:=hid (a6Y (K:=1000000000) (f:=f) (e:=D) i (fun j _=>hgd.out j));have hpi:=hid (b5Y f D (m+1) i hil);obtain⟨p,hp⟩:=c1F (pcE f D i);have hgp:Hid (a8o 1000000000 p):=hid (hp▸hgd.out i);rw[hp]at hpi;rw[<-hT.out]at hgT;have bx:=Bx.new wr b8s 58;go_upto_region 31 with(first
        |(with_reducible refine a1w a7j ?_)
        |((with_reducible refine c1K (t:=58) ?_);refine a0z a6h i halr.out hil rfl (by simp) a1W.agg ?_;intro u5 hu5;rw[hpi.out]at hu5;obtain⟨s1,a1,n1,c1,d1,k1,e1,s2,a2,n2,c2,d2,k2,e2,s3,a3,n3,c3,d3,k3,e3,s4,a4,n4,c4,d4,k4,e4,rfl,qa,qb,qc,qd⟩:=hu5)
        |((with_reducible refine c1J (t:=58) ?_);refine a0a a6h rfl rfl bx rfl rfl b9U ?_;intro w5 r1 r2;have hE5:=c1M r2))
       go_upto_region 32 with fail
       obtain⟨g19,hg19⟩:=c1F wr.heap.size;have hob19:ob oo g19=false:=hOT.ob_ge (Nat.le_of_eq hg19);rw[hg19]at r1;rw[hg19];have hO5:=hOT.ext0 a1W.elem hE5;have hX5:=HX.ext (w:=wr) hXu hE5;have hEd:=c1L w5;have hlw:=(a0k (X:=un Z oo) hE5);have qa5:=QC.mono _ _ _ _ hlw qa;have qb5:=QC.mono _ _ _ _ hlw qb;have qc5:=QC.mono _ _ _ _ hlw qc;have qd5:=QC.mono _ _ _ _ hlw qd;obtain⟨c,hc⟩:=c1F ((match T.getLast? with|some o=>decide (o.a=p.a)&&decide (o.b=p.b)|none=>false));have hc':=hid hc;have hXd:=HX.ext (w:=w5) hX5 hEd;clear hc qa qb qc qd bx r2 hlw halr hpi
       (try simp only[Act.put])
       go_cut [160]from 137 to 159 (fun x wx=>x=.bool c/\Ext w5 wx)
       case first=>
        rcases Nat.eq_zero_or_pos q with hq0|hq0
        ·subst hq0
         have hcf:c=false:=by rw[<-hc'.out,List.length_eq_zero_iff.1 hTq.out];rfl
         refine a0n 23 (fun _=>True) (by kernel_rfl) (by kernel_rfl) trivial (fun hHeld hOnce=>?_);refine kt 0 hOnce ?_;refine kt 1 hOnce ?_;refine kt 2 hOnce ?_;refine ku 3 hOnce ?_;refine ku 4 hOnce ?_;refine ku 5 hOnce ?_;refine ku 6 hOnce ?_;refine ku 7 hOnce ?_;refine ku 8 hOnce ?_;refine ku 9 hOnce ?_;refine ku 10 hOnce ?_;refine ku 11 hOnce ?_;refine kt 12 hOnce ?_;refine kt 13 hOnce ?_;refine ku 14 hOnce ?_;refine ku 15 hOnce ?_;refine ku 16 hOnce ?_;refine ku 17 hOnce ?_;refine ku 18 hOnce ?_;refine ku 19 hOnce ?_;refine ku 20 hOnce ?_;refine ku 21 hOnce ?_;refine ku 22 hOnce ?_;refine kl 23 (fun K hK=>?_);go_simp
         refine hK.out _ _ ?_;clear hK K;go_wp2_with fail
         go_meet
         case rel=>exact⟨by rw[hcf],hEd⟩
        ·have hql:q - 1<T.length:=by rw[hTq.out];omega
         obtain⟨g2,o2,u2,hg2,hy2,hR2,hc2⟩:=hO5.elemAt (q - 1) hql;obtain⟨o,ho⟩:=c1F (T[q - 1]);rw[ho]at hR2;have hgo:Hid (a8o 1000000000 o):=hid (hgT.out o (by rw[<-ho];exact c1E _));have hcc:Hid (c=(decide (o.a=p.a)&&decide (o.b=p.b))):=hid (by
          rw[<-hc'.out,List.getLast?_eq_getElem?,hTq.out,List.getElem?_eq_getElem hql,ho])
         obtain⟨S1,A1,N1,C1,D1,K1,E1,S2,A2,N2,C2,D2,K2,E2,S3,A3,N3,C3,D3,K3,E3,S4,A4,N4,C4,D4,K4,E4,rfl,qe,qf,qg,qh⟩:=hR2;have hhd:Hd oo q:=by have:=hOT.hd;rw[hTq.out]at this;exact this
         have ew:IntKind.i64.wrap ((q:Int) - 1)=(q:Int) - 1:=IntWalk.i64_in _ (by have:=hq19'.out;omega);have j1:∀W,(Instr.indexAt 48 (.slice oo q oc) (.int .i64 ((q:Int) - 1))).run Tryz.prog W=.ok (.pointer (some ⟨g2,o2,none⟩)) W:=by
          rw[<-hg2,show((q:Int) - 1)=((q - 1:Nat):Int)by omega];exact a0e a7j oo q oc .i64 (q - 1) hhd (by omega)
         have hS:Hid (∀w',Ext w5 w'->w'.cell? ⟨g2,o2+8,none⟩=some (.bool S3)/\w'.cell? ⟨g2,o2+8+1,none⟩=some (.slice A3 N3 C3)/\w'.cell? ⟨g2,o2+8+2,none⟩=some (.slice D3 K3 E3)/\w'.cell? ⟨g2,o2+11,none⟩=some (.bool S4)/\w'.cell? ⟨g2,o2+11+1,none⟩=some (.slice A4 N4 C4)/\w'.cell? ⟨g2,o2+11+2,none⟩=some (.slice D4 K4 E4)/\w'.cell? ⟨g19,8,none⟩=some (.bool s3)/\w'.cell? ⟨g19,9,none⟩=some (.slice a3 n3 c3)/\w'.cell? ⟨g19,10,none⟩=some (.slice d3 k3 e3)/\w'.cell? ⟨g19,11,none⟩=some (.bool s4)/\w'.cell? ⟨g19,12,none⟩=some (.slice a4 n4 c4)/\w'.cell? ⟨g19,13,none⟩=some (.slice d4 k4 e4)):=hid fun w' h=>
          ⟨hc2.out noY _ h rfl 8 _ (by decide) rfl,hc2.out noY _ h rfl 9 _ (by decide) rfl,hc2.out noY _ h rfl 10 _ (by decide) rfl,hc2.out noY _ h rfl 11 _ (by decide) rfl,hc2.out noY _ h rfl 12 _ (by decide) rfl,hc2.out noY _ h rfl 13 _ (by decide) rfl,(r1.ext0 h).cell 8 rfl,(r1.ext0 h).cell 9 rfl,(r1.ext0 h).cell 10 rfl,(r1.ext0 h).cell 11 rfl,(r1.ext0 h).cell 12 rfl,(r1.ext0 h).cell 13 rfl⟩
         have heq:=hid (b4j (un Z oo) w5.drew _ _ o.a p.a hXd ((mkx QC.mono qg hEd).qv (c1A hgo.out.1 (by decide))) ((mkx QC.mono qc5 hEd).qv (c1A hgp.out.1 (by decide))));have heq2:=hid fun w' (h:Ext w5 w')=>b4j (un Z oo) w' _ _ o.b p.b (HX.ext (w:=w5) hX5 h) ((mkx QC.mono qh h).qv (c1A hgo.out.2.1 (by decide))) ((mkx QC.mono qd5 h).qv (c1A hgp.out.2.1 (by decide)));obtain⟨x1,hx1⟩:=c1F (decide (o.a=p.a));obtain⟨x2,hx2⟩:=c1F (decide (o.b=p.b));rw[hx1]at heq hcc;rw[hx2]at hcc;simp only[hx2]at heq2;have hgt:decide ((0:Int)<(q:Int))=true:=by simp;omega
         clear hg2 hy2 hc2 qe qf qg qh hx1 hx2;refine a0n 23 (fun w'=>w'.cell? ⟨g2,o2+8,none⟩=some (.bool S3)/\w'.cell? ⟨g2,o2+8+1,none⟩=some (.slice A3 N3 C3)/\w'.cell? ⟨g2,o2+8+2,none⟩=some (.slice D3 K3 E3)/\w'.cell? ⟨g2,o2+11,none⟩=some (.bool S4)/\w'.cell? ⟨g2,o2+11+1,none⟩=some (.slice A4 N4 C4)/\w'.cell? ⟨g2,o2+11+2,none⟩=some (.slice D4 K4 E4)/\w'.cell? ⟨g19,8,none⟩=some (.bool s3)/\w'.cell? ⟨g19,9,none⟩=some (.slice a3 n3 c3)/\w'.cell? ⟨g19,10,none⟩=some (.slice d3 k3 e3)/\w'.cell? ⟨g19,11,none⟩=some (.bool s4)/\w'.cell? ⟨g19,12,none⟩=some (.slice a4 n4 c4)/\w'.cell? ⟨g19,13,none⟩=some (.slice d4 k4 e4)) (by kernel_rfl) (by kernel_rfl) (hS.out _ hEd) (fun hHeld hOnce=>?_);refine kt 0 hOnce ?_;refine kt 1 hOnce ?_;refine kt 2 hOnce ?_;refine kt 3 hOnce ?_;refine kt 4 hOnce ?_;refine kt 5 hOnce ?_;refine kt 6 hOnce ?_;refine kt 7 hOnce ?_;refine kt 8 hOnce ?_;refine kt 9 hOnce ?_;refine kt 10 hOnce ?_;refine ks 11 (fun K hK=>?_);go_simp
         ((with_reducible refine heq.out.mono ?_);rintro ee wa ⟨ga,rfl⟩)
         refine kcn hK (hS.out _ (hEd.trans ga)) (fun hHeld=>?_);clear hK K;cases x1 with
         |false=>
          refine kt 12 hOnce ?_;refine kt 13 hOnce ?_;refine ku 14 hOnce ?_;refine ku 15 hOnce ?_;refine ku 16 hOnce ?_;refine ku 17 hOnce ?_;refine ku 18 hOnce ?_;refine ku 19 hOnce ?_;refine ku 20 hOnce ?_;refine ku 21 hOnce ?_;refine ku 22 hOnce ?_;refine kl 23 (fun K hK=>?_);go_simp
          refine hK.out _ _ ?_;clear hK K;go_wp2_with fail
          go_meet
          case rel=>exact⟨by rw[hcc.out];rfl,hEd.trans ga⟩
         |true=>
          have hq2:=heq2.out _ (hEd.trans ga);refine kt 12 hOnce ?_;refine kt 13 hOnce ?_;refine kt 14 hOnce ?_;refine kt 15 hOnce ?_;refine kt 16 hOnce ?_;refine kt 17 hOnce ?_;refine kt 18 hOnce ?_;refine kt 19 hOnce ?_;refine kt 20 hOnce ?_;refine kt 21 hOnce ?_;refine ks 22 (fun K hK=>?_);go_simp
          ((with_reducible refine hq2.mono ?_);rintro ee wb ⟨gb,rfl⟩)
          refine kcn hK (hS.out _ (hEd.trans (ga.trans gb))) (fun hHeld=>?_);clear hK K;refine kl 23 (fun K hK=>?_);go_simp
          refine hK.out _ _ ?_;clear hK K;go_wp2_with fail
          go_meet
          case rel=>exact⟨by rw[hcc.out];rfl,hEd.trans (ga.trans gb)⟩
       case rest=>
        obtain⟨rfl,hEc⟩:=hcut;have hEwc:=hEt.trans (hE5.trans hEc);have hXc:HX Z wc:=hX11.ext hEwc;have rc:=r1.ext0 hEc;have hOc:=hO5.ext0 a1W.elem hEc;have hlc:=a0k (X:=un Z oo) hEc;have qbc:=QC.mono _ _ _ _ hlc qb5;have hpw:a1W (mk (un Z oo) wc) (.agg #[.bool s1,.slice a1 n1 c1,.slice d1 k1 e1,.bool s2,.slice a2 n2 c2,.slice d2 k2 e2,.bool p.lo.isNone,.bool p.hi.isNone,.bool s3,.slice a3 n3 c3,.slice d3 k3 e3,.bool s4,.slice a4 n4 c4,.slice d4 k4 e4]) p:=a1W.of (QC.mono _ _ _ _ hlc qa5) qbc (QC.mono _ _ _ _ hlc qc5) (QC.mono _ _ _ _ hlc qd5) rfl rfl;have hbc:=hEwc.size;have hq20:=hq19'.out;clear qa5 qb5 qc5 qd5 hlc r1 hO5 hX5 hXd hEd;cases c with
        |false=>
         have hnew:Hid (T++[p]=b1j f D (i+1)):=hid (by
          rw[a4n,<-hT.out,hp];have h9:=hc'.out;unfold a6g;split
          ·rename_i o ho
           rw[ho]at h9;simp at h9;rw[if_neg (by rintro ⟨e1,e2⟩;exact h9 e1 e2)]
          ·rename_i ho
           rw[List.getLast?_eq_none_iff.1 ho];rfl)
         go_wp2_with (first
          |((with_reducible refine c1K (t:=58) ?_);refine a2P a6h rfl rc rfl ?_)
          |(at_builtin;refine a0t (l:=T) a7j rfl a1W.elem hbc hXc q hTq.out rfl rfl hOc (.agg #[.bool s1,.slice a1 n1 c1,.slice d1 k1 e1,.bool s2,.slice a2 n2 c2,.slice d2 k2 e2,.bool p.lo.isNone,.bool p.hi.isNone,.bool s3,.slice a3 n3 c3,.slice d3 k3 e3,.bool s4,.slice a4 n4 c4,.slice d4 k4 e4]) p rfl hpw (by omega) (by omega) ?_;intro oo2 oc2 w12 hO12 hE12' hor))
         have hE13:=hEwc.own hOc (c1B _) hE12';go_roundw
         case rel=>exact⟨i+1,q+1,oo2,oc2,T++[p],by go_num,rfl,by omega,hnew,hid (by simp[hTq.out]),hO12,hE13⟩
         case measure=>simp[intOf];omega
        |true=>
         obtain⟨o,hol,hoa,hob⟩:∃o,T.getLast?=some o/\o.a=p.a/\o.b=p.b:=by
          have h9:=hc'.out;cases hl9:T.getLast? with
          |none=>rw[hl9]at h9;cases h9
          |some o=>rw[hl9]at h9;simp at h9;exact⟨o,rfl,h9⟩
         have hq0:0<q:=by
          rcases Nat.eq_zero_or_pos q with h0|h0
          ·rw[List.length_eq_zero_iff.1 (hTq.out.trans h0)]at hol;cases hol
          ·exact h0
         have hql:q - 1<T.length:=by rw[hTq.out];omega
         have ho:T[q - 1]=o:=by
          rw[List.getLast?_eq_getElem?,hTq.out,List.getElem?_eq_getElem hql]at hol;exact Option.some.inj hol
         have hno:Hid ((({o with hi:=some (p.hi.getD 0)}:Pc)).hi.isNone=o.hi.isNone):=hid (by
          obtain⟨o',h1,h2⟩:=b8u (f:=f) (e:=D) (n:=i) (by omega);rw[<-hT.out,hol]at h1;obtain rfl:=Option.some.inj h1;rw[h2];unfold hiE;rw[if_neg (by rw[hDm.out];omega)];rfl)
         have hnew:Hid ((T.set (q - 1) {o with hi:=some (p.hi.getD 0)}).set (q - 1) {o with hi:=p.hi}=b1j f D (i+1)):=hid (by
          rw[List.set_set,b5X hTq.out hq0,a4n,<-hT.out,hp];unfold a6g;rw[hol];simp only;rw[if_pos ⟨hoa,hob⟩])
         have hhd:Hd oo q:=by have:=hOT.hd;rw[hTq.out]at this;exact this
         have ew:IntKind.i64.wrap ((q:Int) - 1)=(q:Int) - 1:=IntWalk.i64_in _ (by omega);obtain⟨g2,o2,u2,hg2,hy2,_,_⟩:=hOc.elemAt (q - 1) hql;have j1:∀W,(Instr.indexAt 48 (.slice oo q oc) (.int .i64 ((q:Int) - 1))).run Tryz.prog W=.ok (.pointer (some ⟨g2,o2,none⟩)) W:=by
          rw[<-hg2,show((q:Int) - 1)=((q - 1:Nat):Int)by omega];exact a0e a7j oo q oc .i64 (q - 1) hhd (by omega)
         have hA3:adr oo ((q - 1)*14+3)=⟨g2,o2+3,none⟩:=by rw[<-a3y,hg2,Addr.add_lit]
         have hA7:adr oo ((q - 1)*14+7)=⟨g2,o2+7,none⟩:=by rw[<-a3y,hg2,Addr.add_lit]
         have hEd:=c1L wc;have hOd:=hOc.ext0 a1W.elem hEd;have qbd:=QC.mono _ _ _ _ (a0k (X:=un Z oo) hEd) qbc;have rd:=rc.ext0 hEd;have hwS:wc.drew.cell? ⟨g19,3,none⟩=some (.bool s2)/\wc.drew.cell? ⟨g19,4,none⟩=some (.slice a2 n2 c2)/\wc.drew.cell? ⟨g19,5,none⟩=some (.slice d2 k2 e2)/\wc.drew.cell? ⟨g19,7,none⟩=some (.bool p.hi.isNone):=⟨rd.cell 3 rfl,rd.cell 4 rfl,rd.cell 5 rfl,rd.cell 7 rfl⟩;have hEwd:=hEwc.trans hEd;clear hg2 hpw hc' hol hoa hob;go_upto_region 33 with fail
         (try simp only[Act.put])
         refine a0n 15 (fun w'=>w'.cell? ⟨g19,3,none⟩=some (.bool s2)/\w'.cell? ⟨g19,4,none⟩=some (.slice a2 n2 c2)/\w'.cell? ⟨g19,5,none⟩=some (.slice d2 k2 e2)/\w'.cell? ⟨g19,7,none⟩=some (.bool p.hi.isNone)) (by kernel_rfl) (by kernel_rfl) hwS (fun hHeld hOnce=>?_);refine kt 0 hOnce ?_;refine kt 1 hOnce ?_;refine kt 2 hOnce ?_;refine kt 3 hOnce ?_;refine kt 4 hOnce ?_;refine kt 5 hOnce ?_;refine kt 6 hOnce ?_;refine kt 7 hOnce ?_;refine kt 8 hOnce ?_;refine kt 9 hOnce ?_;refine kt 10 hOnce ?_;refine kt 11 hOnce ?_;refine ks 12 (fun K hK=>?_)
         (refine a0R rfl rfl a9o a3C a1W.elem (q - 1) 3 rfl hA3 hOd hql (by decide) (.agg #[.bool s2,.slice a2 n2 c2,.slice d2 k2 e2]) rfl rfl a1s {o with hi:=some (p.hi.getD 0)} (fun u hu=>by rw[ho]at hu;exact a1W.putTo hu qbd rfl hno.out rfl rfl) ?_;intro w8 hO8 y8)
         refine kcn hK ⟨y8.cellY hHeld.1 hob19,y8.cellY hHeld.2.1 hob19,y8.cellY hHeld.2.2.1 hob19,y8.cellY hHeld.2.2.2 hob19⟩ (fun hHeld=>?_);clear hK K;refine kt 13 hOnce ?_;refine kt 14 hOnce ?_;refine kl 15 (fun K hK=>?_)
         (refine a0R rfl rfl a9o b0l a1W.elem (q - 1) 7 rfl hA7 hO8 (by rw[List.length_set];exact hql) (by decide) (.bool p.hi.isNone) rfl rfl (by intro c hc;simp[a0g,Value.cells]at hc;subst hc;rfl) {o with hi:=p.hi} (fun u hu=>by rw[List.getElem_set_self]at hu;exact a1W.putNo hu) ?_;intro w9' hO9 y9)
         refine hK.out _ _ ?_;clear hK K
         (try simp only[Act.put])
         have hE13:=(hEwd.own hOd (c1B _) y8).own hO8 (c1B _) y9;go_wp2_with fail
         go_roundw
         case rel=>exact⟨i+1,q,oo,oc,_,by go_num,rfl,by omega,hnew,hid (by rw[List.length_set,List.length_set];exact hTq.out),hO9,hE13⟩
         case measure=>simp[intOf];omega
      ·obtain rfl:i=m+1:=by omega
       have hTL:Hid (T=L):=hid (by rw[hcr.out,<-hDS.out,hDm.out];exact hT.out);have hgT:=hid (a6Y (K:=1000000000) (f:=f) (e:=D) (m+1) (fun j _=>hgd.out j));rw[<-hT.out]at hgT;clear hT;go_upto_region 37 with fail
       have hOq:OL a1W 14 Z w11.heap.size 58 wr oo oc T:=hOT;clear hOT;go_loopw [182] (fun c wr=>∃(j:Nat),c=.int .i64 j/\j<=q/\OL a1W 14 Z w11.heap.size 58 wr oo oc T/\Ext w11 wr) (fun c _=>q - (intOf c).toNat)
       case atStart=>exact⟨0,rfl,Nat.zero_le _,hOq,hEt⟩
       case round=>
        obtain⟨j,rfl,hj,hOT,hEt⟩:=hrel;clear hOq;have hXt:=hX11.ext hEt;have hXu:HX (un Z oo) wr:=hOT.unX hXt;by_cases hlt:j<q
        ·have hjl:j<T.length:=by rw[hTq.out];exact hlt
         have hhd:Hd oo q:=by have:=hOT.hd;rw[hTq.out]at this;exact this
         have hq20:=hq19'.out;obtain⟨g2,o2,u2,hg2,hy2,hR2,hc2⟩:=hOT.elemAt j hjl;obtain⟨o,ho⟩:=c1F (T[j]);rw[ho]at hR2;have hgo:Hid (a8o 1000000000 o):=hid (hgT.out o (by rw[<-ho];exact c1E _));obtain⟨S1,A1,N1,C1,D1,K1,E1,S2,A2,N2,C2,D2,K2,E2,S3,A3,N3,C3,D3,K3,E3,S4,A4,N4,C4,D4,K4,E4,rfl,qe,qf,qg,qh⟩:=hR2;have j1:∀W,(Instr.indexAt 48 (.slice oo q oc) (.int .i64 j)).run Tryz.prog W=.ok (.pointer (some ⟨g2,o2,none⟩)) W:=by
          rw[<-hg2];exact a0e a7j oo q oc .i64 j hhd hlt
         have hA0:adr oo (j*14+0)=⟨g2,o2,none⟩:=by rw[<-a3y,hg2,Addr.add_lit];rfl
         have hA3:adr oo (j*14+3)=⟨g2,o2+3,none⟩:=by rw[<-a3y,hg2,Addr.add_lit]
         have hS:Hid (∀w',Ext wr w'->w'.cell? ⟨g2,o2,none⟩=some (.bool S1)/\w'.cell? ⟨g2,o2+1,none⟩=some (.slice A1 N1 C1)/\w'.cell? ⟨g2,o2+2,none⟩=some (.slice D1 K1 E1)/\w'.cell? ⟨g2,o2+3,none⟩=some (.bool S2)/\w'.cell? ⟨g2,o2+3+1,none⟩=some (.slice A2 N2 C2)/\w'.cell? ⟨g2,o2+3+2,none⟩=some (.slice D2 K2 E2)):=hid fun w' h=>
          ⟨hc2.out noY _ h rfl 0 _ (by decide) rfl,hc2.out noY _ h rfl 1 _ (by decide) rfl,hc2.out noY _ h rfl 2 _ (by decide) rfl,hc2.out noY _ h rfl 3 _ (by decide) rfl,hc2.out noY _ h rfl 4 _ (by decide) rfl,hc2.out noY _ h rfl 5 _ (by decide) rfl⟩
         have hcF:=hid fun w' (h:Ext wr w')=>b3y (un Z oo) w' _ (o.lo.getD 0) (HX.ext (w:=wr) hXu h) ((mkx QC.mono qe h).qv (c1A hgo.out.2.2.1 (by decide)));have hcT:=hid fun w' (h:Ext wr w')=>b3y (un Z oo) w' _ (o.hi.getD 0) (HX.ext (w:=wr) hXu h) ((mkx QC.mono qf h).qv (c1A hgo.out.2.2.2 (by decide)));have hset:Hid ((T.set j o).set j o=T):=hid (by rw[List.set_set,<-ho,List.set_getElem_self]);have hEd:=c1L wr;have hSd:=hS.out _ hEd;clear hg2 hc2 qe qf qg qh;go_upto_region 39 with fail
         (try simp only[Act.put])
         refine a0n 21 (fun _=>True) (by kernel_rfl) (by kernel_rfl) trivial (fun hHeld hOnce=>?_);refine kt 0 hOnce ?_;refine kt 1 hOnce ?_;refine kt 2 hOnce ?_;refine kt 3 hOnce ?_;refine kt 4 hOnce ?_;refine kt 5 hOnce ?_;refine kt 6 hOnce ?_;refine kt 7 hOnce ?_;refine kt 10 hOnce ?_;refine kt 11 hOnce ?_;refine kt 12 hOnce ?_;refine kt 13 hOnce ?_;refine a1E (i:=8) (j:=14) (oi:=⟨_,_,_,_,_,_⟩) (oj:=⟨_,_,_,_,_,_⟩) (by kernel_rfl) rfl rfl (fun K hK=>?_) (fun K hK=>?_)
         ·skip
          go_simp
          skip
          refine kcn hK trivial (fun hHeld=>?_);clear hK K;refine a1E (i:=9) (j:=14) (oi:=⟨_,_,_,_,_,_⟩) (oj:=⟨_,_,_,_,_,_⟩) (by kernel_rfl) rfl rfl (fun K hK=>?_) (fun K hK=>?_)
          ·skip
           go_simp
           (with_reducible refine(hcF.out _ hEd).mono ?_);rintro ee wa ⟨ga,u7,rfl,hu7⟩;obtain⟨s7,a7,n7,c7,d7,k7,e7,rfl⟩:=hu7.shape;have hSa:=hS.out _ (hEd.trans ga)
           refine kcn hK trivial (fun hHeld=>?_);clear hK K;refine ks 14 (fun K hK=>?_);go_simp
           skip
           refine kcn hK trivial (fun hHeld=>?_);clear hK K;refine ks 15 (fun K hK=>?_);go_simp
           ((with_reducible refine(hcT.out _ (hEd.trans ga)).mono ?_);rintro ee wb ⟨gb,u8,rfl,hu8⟩;obtain⟨s8,a8,n8,c8,d8,k8,e8,rfl⟩:=hu8.shape)
           refine kcn hK trivial (fun hHeld=>?_);clear hK K;have hEb:=(hEd.trans ga).trans gb;have hOb:=hOT.ext0 a1W.elem hEb;have hu7':=mkx QC.mono hu7 gb;have hEwb:=hEt.trans hEb;refine kt 16 hOnce ?_;refine kt 17 hOnce ?_;refine ks 18 (fun K hK=>?_)
           (refine a0R rfl rfl a9o a3C a1W.elem j 0 rfl hA0 hOb hjl (by decide) (.agg #[.bool s7,.slice a7 n7 c7,.slice d7 k7 e7]) rfl rfl a1s o (fun u hu=>by rw[ho]at hu;exact a1W.putFrom hu hu7') ?_;intro w8 hO8 y8)
           refine kcn hK trivial (fun hHeld=>?_);clear hK K;have hu8':=hOb.own_read QC.mono hu8 y8;refine kt 19 hOnce ?_;refine kt 20 hOnce ?_;refine kl 21 (fun K hK=>?_)
           (refine a0R rfl rfl a9o a3C a1W.elem j 3 rfl hA3 hO8 (by rw[List.length_set];exact hjl) (by decide) (.agg #[.bool s8,.slice a8 n8 c8,.slice d8 k8 e8]) rfl rfl a1s o (fun u hu=>by rw[List.getElem_set_self]at hu;exact a1W.putTo hu hu8' rfl rfl rfl rfl) ?_;intro w9' hO9 y9)
           refine hK.out _ _ ?_;clear hK K
           (try simp only[Act.put])
           have hE13:=(hEwb.own hOb (c1B _) y8).own hO8 (c1B _) y9;rw[hset.out]at hO9;go_wp2_with fail
           go_roundw
           case rel=>
            refine⟨_,_,_,_,_,_,_,_,_,_,_,_,_,_,_,_,_,_,_,_,_,_,_,_,_,?_,rfl⟩;exact⟨j+1,by go_num,by omega,hO9,hE13⟩
           case measure=>simp[intOf];omega
          ·skip
           go_simp
           skip
           refine kcn hK trivial (fun hHeld=>?_);clear hK K;refine ks 9 (fun K hK=>?_);go_simp
           ((with_reducible refine(hcF.out _ (hEd)).mono ?_);rintro ee wa ⟨ga,u7,rfl,hu7⟩;obtain⟨s7,a7,n7,c7,d7,k7,e7,rfl⟩:=hu7.shape)
           refine kcn hK trivial (fun hHeld=>?_);clear hK K;refine ks 15 (fun K hK=>?_);go_simp
           ((with_reducible refine(hcT.out _ (hEd.trans ga)).mono ?_);rintro ee wb ⟨gb,u8,rfl,hu8⟩;obtain⟨s8,a8,n8,c8,d8,k8,e8,rfl⟩:=hu8.shape)
           refine kcn hK trivial (fun hHeld=>?_);clear hK K;have hEb:=(hEd.trans ga).trans gb;have hOb:=hOT.ext0 a1W.elem hEb;have hu7':=mkx QC.mono hu7 gb;have hEwb:=hEt.trans hEb;refine kt 16 hOnce ?_;refine kt 17 hOnce ?_;refine ks 18 (fun K hK=>?_)
           (refine a0R rfl rfl a9o a3C a1W.elem j 0 rfl hA0 hOb hjl (by decide) (.agg #[.bool s7,.slice a7 n7 c7,.slice d7 k7 e7]) rfl rfl a1s o (fun u hu=>by rw[ho]at hu;exact a1W.putFrom hu hu7') ?_;intro w8 hO8 y8)
           refine kcn hK trivial (fun hHeld=>?_);clear hK K;have hu8':=hOb.own_read QC.mono hu8 y8;refine kt 19 hOnce ?_;refine kt 20 hOnce ?_;refine kl 21 (fun K hK=>?_)
           (refine a0R rfl rfl a9o a3C a1W.elem j 3 rfl hA3 hO8 (by rw[List.length_set];exact hjl) (by decide) (.agg #[.bool s8,.slice a8 n8 c8,.slice d8 k8 e8]) rfl rfl a1s o (fun u hu=>by rw[List.getElem_set_self]at hu;exact a1W.putTo hu hu8' rfl rfl rfl rfl) ?_;intro w9' hO9 y9)
           refine hK.out _ _ ?_;clear hK K
           (try simp only[Act.put])
           have hE13:=(hEwb.own hOb (c1B _) y8).own hO8 (c1B _) y9;rw[hset.out]at hO9;go_wp2_with fail
           go_roundw
           case rel=>
            refine⟨_,_,_,_,_,_,_,_,_,_,_,_,_,_,_,_,_,_,_,_,_,_,_,_,_,?_,rfl⟩;exact⟨j+1,by go_num,by omega,hO9,hE13⟩
           case measure=>simp[intOf];omega
         ·skip
          go_simp
          skip
          refine kcn hK trivial (fun hHeld=>?_);clear hK K;refine ks 8 (fun K hK=>?_);go_simp
          skip
          refine kcn hK trivial (fun hHeld=>?_);clear hK K;refine ks 9 (fun K hK=>?_);go_simp
          ((with_reducible refine(hcF.out _ (hEd)).mono ?_);rintro ee wa ⟨ga,u7,rfl,hu7⟩;obtain⟨s7,a7,n7,c7,d7,k7,e7,rfl⟩:=hu7.shape)
          refine kcn hK trivial (fun hHeld=>?_);clear hK K;refine ks 15 (fun K hK=>?_);go_simp
          ((with_reducible refine(hcT.out _ (hEd.trans ga)).mono ?_);rintro ee wb ⟨gb,u8,rfl,hu8⟩;obtain⟨s8,a8,n8,c8,d8,k8,e8,rfl⟩:=hu8.shape)
          refine kcn hK trivial (fun hHeld=>?_);clear hK K;have hEb:=(hEd.trans ga).trans gb;have hOb:=hOT.ext0 a1W.elem hEb;have hu7':=mkx QC.mono hu7 gb;have hEwb:=hEt.trans hEb;refine kt 16 hOnce ?_;refine kt 17 hOnce ?_;refine ks 18 (fun K hK=>?_)
          (refine a0R rfl rfl a9o a3C a1W.elem j 0 rfl hA0 hOb hjl (by decide) (.agg #[.bool s7,.slice a7 n7 c7,.slice d7 k7 e7]) rfl rfl a1s o (fun u hu=>by rw[ho]at hu;exact a1W.putFrom hu hu7') ?_;intro w8 hO8 y8)
          refine kcn hK trivial (fun hHeld=>?_);clear hK K;have hu8':=hOb.own_read QC.mono hu8 y8;refine kt 19 hOnce ?_;refine kt 20 hOnce ?_;refine kl 21 (fun K hK=>?_)
          (refine a0R rfl rfl a9o a3C a1W.elem j 3 rfl hA3 hO8 (by rw[List.length_set];exact hjl) (by decide) (.agg #[.bool s8,.slice a8 n8 c8,.slice d8 k8 e8]) rfl rfl a1s o (fun u hu=>by rw[List.getElem_set_self]at hu;exact a1W.putTo hu hu8' rfl rfl rfl rfl) ?_;intro w9' hO9 y9)
          refine hK.out _ _ ?_;clear hK K
          (try simp only[Act.put])
          have hE13:=(hEwb.own hOb (c1B _) y8).own hO8 (c1B _) y9;rw[hset.out]at hO9;go_wp2_with fail
          go_roundw
          case rel=>
           refine⟨_,_,_,_,_,_,_,_,_,_,_,_,_,_,_,_,_,_,_,_,_,_,_,_,_,?_,rfl⟩;exact⟨j+1,by go_num,by omega,hO9,hE13⟩
          case measure=>simp[intOf];omega
        ·obtain rfl:q=j:=by omega
         have hsl:=hOT.sl a1W.elem;have hcap:=hOT.lenCap;have hEw:=hE.trans (hW9.out.trans (hE12.out.trans hEt));rw[<-hZ]at hsl;have hsl':=hid (hsl.mono a1W.mono a0l);rw[hTq.out]at hcap;rw[hTL.out]at hTq hsl';clear hsl hOT hHeld;go_wp2_with fail
         exact bodyPost_ret (results_tmp2 rfl _ _ _) rfl ⟨hEw,oo,oc,by rw[hTq.out];rfl,by rw[hTq.out];exact hcap,hsl'.out⟩
theorem a6Z{l s:List Rat}(a:s.Perm l)(b:s.Pairwise (· <= ·)):srt l=s:=(b0V a b).symm
theorem b9X:srt [1,3]= [1,3]:=a6Z (List.Perm.refl _) (by decide+kernel)
theorem b9Y:srt [1,3,1]= [1,1,3]:=a6Z (by decide+kernel) (by decide+kernel)
theorem b9Z:srt [1,3,0]= [0,1,3]:=a6Z (by decide+kernel) (by decide+kernel)
theorem c0a:srt [1,3,3]= [1,3,3]:=a6Z (by decide+kernel) (by decide+kernel)
theorem c0b:srt [1,3,4]= [1,3,4]:=a6Z (by decide+kernel) (by decide+kernel)
theorem c0c:srt [0,0,3]= [0,0,3]:=a6Z (by decide+kernel) (by decide+kernel)
theorem c0d:srt [0,0]= [0,0]:=a6Z (by decide+kernel) (by decide+kernel)
theorem c1x:dd [1,3]= [1,3]:=by decide+kernel
theorem b6N:a5o 2 0 ([1,3]++[1])=1:=by
 show b1F (a8p (srt [1,3,1]) 1 2)/_=_
 rw[b9Y];decide+kernel
theorem c0e:a5o 2 0 ([1,3]++[1 - 1])=1:=by
 rw[show(1:Rat) - 1=0 by decide+kernel]
 show b1F (a8p (srt [1,3,0]) 1 2)/_=_
 rw[b9Z];decide+kernel
theorem b6O:a5o 2 0 ([1,3]++[3])=3:=by
 show b1F (a8p (srt [1,3,3]) 1 2)/_=_
 rw[c0a];decide+kernel
theorem c0f:a5o 2 0 ([1,3]++[3+1])=3:=by
 rw[show(3:Rat)+1=4 by decide+kernel]
 show b1F (a8p (srt [1,3,4]) 1 2)/_=_
 rw[c0b];decide+kernel
theorem c0g:a5o 1 0 ([0,0]++[3])=1:=by
 show b1F (a8p (srt [0,0,3]) 0 3)/_=_
 rw[c0c];decide+kernel
theorem c0h:a5o 1 0 [0,0]=0:=by
 show b1F (a8p (srt [0,0]) 0 2)/_=_
 rw[c0d];decide+kernel
theorem c0R{f:Rat->Rat}(b:f 1=1)(a:f (1 - 1)=1):pcE f [1,3] 0=⟨none,some 1,1,0⟩:=by
 show Pc.mk none (some (fn [1,3] 0)) (a5p f (fn [1,3] 0) (fn [1,3] 0 - 1)) (a4i f (fn [1,3] 0) (fn [1,3] 0 - 1))=_
 have e:fn [1,3] 0=1:=rfl;rw[e];unfold a5p a4i;rw[b,a];simp only[Pc.mk.injEq,true_and];decide+kernel
theorem c0S{f:Rat->Rat}(b:f 1=1)(c:f 3=3):pcE f [1,3] 1=⟨some 1,some 3,0,1⟩:=by
 show Pc.mk (some (fn [1,3] 0)) (some (fn [1,3] 1)) (a5p f (fn [1,3] 0) (fn [1,3] 1)) (a4i f (fn [1,3] 0) (fn [1,3] 1))=_
 have e:fn [1,3] 0=1:=rfl;have a:fn [1,3] 1=3:=rfl;rw[e,a];unfold a5p a4i;rw[b,c];simp only[Pc.mk.injEq,true_and];decide+kernel
theorem c0T{f:Rat->Rat}(b:f 3=3)(c:f (3+1)=3):pcE f [1,3] 2=⟨some 3,none,3,0⟩:=by
 show Pc.mk (some (fn [1,3] 1)) none (a5p f (fn [1,3] 1) (fn [1,3] 1+1)) (a4i f (fn [1,3] 1) (fn [1,3] 1+1))=_
 have a:fn [1,3] 1=3:=rfl;rw[a];unfold a5p a4i;rw[b,c];simp only[Pc.mk.injEq,true_and];decide+kernel
def c0U:List Pc:=[⟨none,some 1,1,0⟩,⟨some 1,some 3,0,1⟩,⟨some 3,none,3,0⟩]
theorem c0V:b9S 2 0 [1,3]=c0U:=by
 unfold b9S;rw[b9X,c1x]
 show([pcE _ [1,3] 0,pcE _ [1,3] 1,pcE _ [1,3] 2]:List Pc).foldl a6g []=_
 rw[c0R (f:=fun z=>a5o 2 0 ([1,3]++[z])) b6N c0e,c0S (f:=fun z=>a5o 2 0 ([1,3]++[z])) b6N b6O,c0T (f:=fun z=>a5o 2 0 ([1,3]++[z])) b6O c0f];simp[a6g,c0U]
theorem Sl.lin{X:Nat->Bool}{w:World}{ao:Option Addr}{l:List Pc}(s:Sl a1W 14 (mk X w) ao l)(i:Nat)(U:i<l.length):∃g o f h I p v E A M k J q x F B N m K r y G C O n L t z H D,adr ao (i*14)=⟨g,o,none⟩/\X g=false/\Hid (∀Y W',ExtX Y w W'->Y g=false->W'.cell? ⟨g,o,none⟩=some (.bool f)/\W'.cell? ⟨g,o+1,none⟩=some (.slice h I p)/\W'.cell? ⟨g,o+2,none⟩=some (.slice v E A))/\Hid (∀Y W',ExtX Y w W'->Y g=false->W'.cell? ⟨g,o+3,none⟩=some (.bool M)/\W'.cell? ⟨g,o+4,none⟩=some (.slice k J q)/\W'.cell? ⟨g,o+5,none⟩=some (.slice x F B))/\Hid (∀Y W',ExtX Y w W'->Y g=false->W'.cell? ⟨g,o+6,none⟩=some (.bool l[i].lo.isNone)/\W'.cell? ⟨g,o+7,none⟩=some (.bool l[i].hi.isNone))/\Hid (∀Y W',ExtX Y w W'->Y g=false->W'.cell? ⟨g,o+8,none⟩=some (.bool N)/\W'.cell? ⟨g,o+9,none⟩=some (.slice m K r)/\W'.cell? ⟨g,o+10,none⟩=some (.slice y G C))/\Hid (∀Y W',ExtX Y w W'->Y g=false->W'.cell? ⟨g,o+11,none⟩=some (.bool O)/\W'.cell? ⟨g,o+12,none⟩=some (.slice n L t)/\W'.cell? ⟨g,o+13,none⟩=some (.slice z H D))/\QC (mk X w) (.agg #[.bool f,.slice h I p,.slice v E A]) (l[i].lo.getD 0)/\QC (mk X w) (.agg #[.bool M,.slice k J q,.slice x F B]) (l[i].hi.getD 0)/\QC (mk X w) (.agg #[.bool N,.slice m K r,.slice y G C]) l[i].a/\QC (mk X w) (.agg #[.bool O,.slice n L t,.slice z H D]) l[i].b:=by
 obtain⟨u,h1,Q,T⟩:=s.2 i U;obtain⟨f,h,I,p,v,E,A,M,k,J,q,x,F,B,N,m,K,r,y,G,C,O,n,L,t,z,H,D,rfl,W,Z,q3,q4⟩:=T;have R:=Q 0 (by simp[Value.cells]);have e:∀j (P:j<14) Y W',ExtX Y w W'->Y (adr ao (i*14)).block=false->W'.cell? (adr ao (i*14+j))=some ((Value.agg #[.bool f,.slice h I p,.slice v E A,.bool M,.slice k J q,.slice x F B,.bool l[i].lo.isNone,.bool l[i].hi.isNone,.bool N,.slice m K r,.slice y G C,.bool O,.slice n L t,.slice z H D]).cells[j]'(by simpa[Value.cells]using P)):=fun j P Y W' c d=>c.cellY (a1H (Q j (by simpa[Value.cells]using P))) d;refine⟨(adr ao (i*14)).block,(adr ao (i*14)).off,f,h,I,p,v,E,A,M,k,J,q,x,F,B,N,m,K,r,y,G,C,O,n,L,t,z,H,D,rfl,?_,hid fun Y W' c d=>⟨e 0 (by decide) Y W' c d,e 1 (by decide) Y W' c d,e 2 (by decide) Y W' c d⟩,hid fun Y W' c d=>⟨e 3 (by decide) Y W' c d,e 4 (by decide) Y W' c d,e 5 (by decide) Y W' c d⟩,hid fun Y W' c d=>⟨e 6 (by decide) Y W' c d,e 7 (by decide) Y W' c d⟩,hid fun Y W' c d=>⟨e 8 (by decide) Y W' c d,e 9 (by decide) Y W' c d,e 10 (by decide) Y W' c d⟩,hid fun Y W' c d=>⟨e 11 (by decide) Y W' c d,e 12 (by decide) Y W' c d,e 13 (by decide) Y W' c d⟩,W,Z,q3,q4⟩;cases V:X (adr ao (i*14)).block
 ·rfl
 ·have S:mk X w (adr ao (i*14))=some (.bool f):=R
  simp[mk,V]at S
def b2f(l:List Int):List Rat:=l.map fun i:Int=>(i:Rat)
theorem b4l(l:List Int)(i:Nat)(h:i<l.length):b2f (l.take (i+1))=b2f (l.take i)++[((l[i]:Int):Rat)]:=by
 unfold b2f;rw[List.take_succ_eq_append_getElem h,List.map_append];rfl
theorem b2g(w:World)(lo:Option Addr)(l:List Int)(P:Nat)(K:Sl (a1U .i64) 1 (mk noY w) lo l)(T:l.length<=1000)(H:∀x∈l,-1000<=x/\x<=1000):Calls Tryz.prog 19 #[.slice lo l.length P] w (fun e M=>Ext w M/\∃ao d,e=.returned (.slice ao l.length d)/\l.length<=d/\Sl QC 3 (mk noY M) ao (b2f l)):=by
 have S:=K.hd;have A:=hid H;obtain⟨n,E⟩:=c1F l.length;have b:=hid E;rw[E]at S T |-;clear H E;go_enter Tryz.func19,Tryz.ntmps19
 go_wp2_with fail
 go_loopw [3,8] (fun o k wr=>∃(i:Nat) (oo:Option Addr) (s:Nat),k=.int .i64 i/\o=.slice oo i s/\i<=n/\OL QC 3 noY w.heap.size 47 wr oo s (b2f (l.take i))/\Ext w wr) (fun _ k _=>n - (intOf k).toNat)
 case atStart=>exact⟨0,none,0,rfl,rfl,Nat.zero_le _,OL.nil _ _ _ _ _ _,ExtX.refl _⟩
 case round=>
  obtain⟨i,oo,s,rfl,rfl,Z,h,u⟩:=hrel;by_cases D:i<n
  ·have a:i<l.length:=by rw[b.out];exact D
   have C:Hid ((b2f (l.take i)).length=i):=hid (by unfold b2f;rw[List.length_map,List.length_take];have:=b.out;omega);have q:=hid (b4l l i a);have I:=(K.mono (a1U.mono _) (a0k u)).int i a;have J:=hid (A.out l[i] (c1E a));obtain⟨x,L⟩:=c1F (l[i]);rw[L]at I J q;have z:HX (un noY oo) wr:=h.unX (HX.none wr);have F:=J.out;clear L;go_wp2_with (with_reducible refine a0v a6e ?_)
   refine(a3n (un noY oo) wr x z (by omega) (by omega)).mono ?_;rintro e Y ⟨f,u6,rfl,r⟩;obtain⟨X,N,W,O,Q,V,R,rfl⟩:=r.shape;have j:=h.ext0 QC.elem f;have g:=u.trans f;have c:=g.size;clear h I F;go_wp2_with (at_builtin;refine a0t (l:=b2f (l.take i)) a0x rfl QC.elem c (HX.none Y) i C.out rfl rfl j (.agg #[.bool X,.slice N W O,.slice Q V R]) (x:Rat) rfl r (by omega) (by omega) ?_;intro G t w7 m v U)
   have y:=g.own j (c1B _) v;rw[<-q.out]at m;go_roundw
   case rel=>exact⟨i+1,G,t,by go_num,by go_num,by omega,m,y⟩
   case measure=>simp[intOf];omega
  ·obtain rfl:i=n:=by omega
   have B:=h.lenCap;have p:=h.sl QC.elem;rw[show l.take i=l from c1D (by rw[b.out];exact c1B _)]at B p;have a:(b2f l).length=i:=by unfold b2f;rw[List.length_map,b.out]
   rw[a]at B;go_wp2_with fail
   go_ret
   exact⟨u,oo,s,rfl,B,p⟩
theorem a7C(w:World)(l:List Int)(a:Array Value)(e:TypeId)(len:Nat)(c:a=(l.map (Value.int .i64)).toArray)(d:len=l.length)(g:l.length<=1000)(k:∀x∈l,-1000<=x/\x<=1000):Calls Tryz.prog 19 #[.slice (some ⟨w.heap.size,0,none⟩) len len] (w.alloc (.cells a e)) (fun e f=>Ext w f/\∃ao b,e=.returned (.slice ao len b)/\len<=b/\Sl QC 3 (mk noY f) ao (b2f l)):=by
 have j:=(b6B noY w l e a c (HX.none w) g).sl (a1U.elem .i64);subst d;exact(b2g (w.alloc (.cells a e)) _ l l.length j g k).mono fun e f ⟨h,i⟩=>⟨((ExtX.refl w).alloc _).trans h,i⟩
theorem a2X(w:World):Calls Tryz.prog 6 #[] w (a7U w true):=by
 have c2:b2f [1,3]= [1,3]:=by decide+kernel
 have c3:b2f [0,0]= [0,0]:=by decide+kernel
 have x:=hid fun i ao c (hc:2<=c) (hs:Sl QC 3 (mk noY i) ao [1,3])=>(by
  have:=b4k noY i (.slice ao 2 c) 2 0 [1,3] 2 (HX.none i) ⟨ao,c,rfl,hc,hs.qv fun q hq=>by
   have:q=1\/q=3:=by simpa using hq
   rcases this with rfl|rfl<;>decide+kernel⟩ ⟨by decide,by decide,by decide,by decide⟩ ⟨by decide,by decide⟩ (by decide) (fun q hq=>by
   have:q=1\/q=3:=by simpa using hq
   rcases this with rfl|rfl<;>decide+kernel) (by decide)
  rw[c0V]at this;exact this:Calls Tryz.prog 18 #[.agg #[.int .i64 2,.int .i64 0],.slice ao 2 c] i (fun e h=>Ext i h/\∃ao c,e=.returned (.tuple #[.slice ao 3 c,.int .i64 0])/\3<=c/\Sl a1W 14 (mk noY h) ao c0U))
 have y:=hid fun i ao c u (hc:2<=c) (hs:Sl QC 3 (mk noY i) ao [0,0]) (hu:QC (mk noY i) u 3)=>(by
  have:=c0Q noY i (.slice ao 2 c) u 1 0 [0,0] 3 2 (HX.none i) ⟨ao,c,rfl,hc,hs.qv fun q hq=>by
   have:q=0:=by simpa using hq
   rcases this with rfl;decide+kernel⟩ (hu.qv (by decide+kernel)) ⟨by decide,by decide,by decide,by decide⟩ ⟨by decide,by decide⟩ (by decide) (fun q hq=>by
   have:q=0:=by simpa using hq
   rcases this with rfl;decide+kernel) (by decide+kernel) (by decide)
  have e1:okQ 0 (b9V 1 0 [0,0] 3)=3:=by
   unfold okQ b9V;rw[c0g,c0h];decide+kernel
  unfold QEo at this;rw[e1]at this;exact this:Calls Tryz.prog 20 #[.agg #[.int .i64 1,.int .i64 0],.slice ao 2 c,u] i (fun e h=>Ext i h/\∃u,e=.returned (.tuple #[u,.int .i64 0])/\QC (mk noY h) u 3))
 go_enter Tryz.func6,Tryz.ntmps6
 go_wp2_with fail
 refine(a7C w [1,3] _ _ 2 rfl rfl (by decide) (by decide)).mono ?_;rintro e i ⟨a2,ao,c,rfl,v,L⟩;rw[c2]at L;have b8:=x.out i ao c v L;go_wp2_with fail
 refine b8.mono ?_;rintro e w2 ⟨a5,co,Z,rfl,e9,d2⟩;have a3:=a2.trans a5;clear b8 L a2 a5 v;go_wp2_with fail
 refine(a7C w2 [0,0] _ _ 2 rfl rfl (by decide) (by decide)).mono ?_;rintro e w3 ⟨b0,bo,bc,rfl,b6,M⟩;rw[c3]at M;go_wp2_with fail
 refine(a3n noY w3 3 (HX.none w3) (by decide) (by decide)).mono ?_;rintro e w4 ⟨J,u4,rfl,p⟩;have I:Hid ((((3:Int):Rat))=3):=hid (by decide+kernel);rw[I.out]at p;obtain⟨s4,a4,n4,c4,d4,k4,e4,rfl⟩:=p.shape;have d3:=y.out w4 bo bc _ b6 (M.mono QC.mono (a0k J)) p;go_wp2_with fail
 refine d3.mono ?_;rintro e w5 ⟨b2,u5,rfl,N⟩;obtain⟨st,at_,nt,ct,dt,d9,et,rfl⟩:=N.shape;have bx:=Bx.new w5 #[.bool false,.slice none 0 0,.slice none 0 0] 47;have a9:=b0.trans (J.trans b2);clear d3 M b6 b0 J b2 p;go_upto_region 3 with((with_reducible refine c1J (t:=47) ?_);refine a0a a0p rfl rfl bx rfl rfl a1s ?_;intro f r1 r2)
 have b4:=c1M r2;have d5:=mkx QC.mono N b4;obtain⟨s,b7⟩:=c1F w5.heap.size;rw[b7]at r1 |-;have t:=a9.trans b4;have o:=d2.mono a1W.mono (a0k t);have b5:=a3.trans t;have hh:=o.hd;have d:=c1L f;obtain⟨gp,op,o3,h2,m9,i5,j5,l9,k9,o4,h3,n0,i6,j6,m0,l0,o5,h4,n1,i7,j7,m1,l1,o6,h5,n2,i8,j8,m2,l2,b9,_,f0,f1,c5,f2,f3,g2,g3,g4,g5⟩:=o.lin 0 (by decide);obtain⟨H,V,o7,h6,n3,i9,j9,m3,l3,o8,h7,n5,j0,k0,m4,l4,o9,h8,n9,j1,k1,m5,l5,X,z,T,B,D,R,F,c0,_,f4,f5,f6,f7,c9,g6,g7,g8,e0⟩:=o.lin 1 (by decide);obtain⟨gr,r,p0,h9,o0,j2,k2,m6,l6,p1,i3,o1,j3,k3,m7,l7,Y,A,U,C,E,S,G,p2,i4,o2,j4,k5,m8,l8,c1,_,f8,f9,d0,d1,g0,g9,h0,e2,h1⟩:=o.lin 2 (by decide);have qB:QC (mk noY f.drew) (.agg #[.bool X,.slice z T B,.slice D R F]) 1:=mkx QC.mono e0 d;have qA:QC (mk noY f.drew) (.agg #[.bool Y,.slice A U C,.slice E S G]) 3:=mkx QC.mono e2 d;have qS:=mkx QC.mono d5 d;have i0:∀W,(Instr.indexAt 48 (.slice co 3 Z) (.int .i64 0)).run Tryz.prog W=.ok (.pointer (some ⟨gp,op,none⟩)) W:=by rw[<-b9];exact a0e a7j co 3 Z .i64 0 hh (by decide)
 have i1:∀W,(Instr.indexAt 48 (.slice co 3 Z) (.int .i64 1)).run Tryz.prog W=.ok (.pointer (some ⟨H,V,none⟩)) W:=by rw[<-c0];exact a0e a7j co 3 Z .i64 1 hh (by decide)
 have i2:∀W,(Instr.indexAt 48 (.slice co 3 Z) (.int .i64 2)).run Tryz.prog W=.ok (.pointer (some ⟨gr,r,none⟩)) W:=by rw[<-c1];exact a0e a7j co 3 Z .i64 2 hh (by decide)
 have g1:f.drew.cell? ⟨gp,op+6,none⟩=some (.bool true)/\f.drew.cell? ⟨gr,r+7,none⟩=some (.bool true)/\f.drew.cell? ⟨H,V+11,none⟩=some (.bool X)/\f.drew.cell? ⟨H,V+12,none⟩=some (.slice z T B)/\f.drew.cell? ⟨H,V+13,none⟩=some (.slice D R F)/\f.drew.cell? ⟨gr,r+8,none⟩=some (.bool Y)/\f.drew.cell? ⟨gr,r+9,none⟩=some (.slice A U C)/\f.drew.cell? ⟨gr,r+10,none⟩=some (.slice E S G)/\f.drew.cell? ⟨s,0,none⟩=some (.bool st)/\f.drew.cell? ⟨s,1,none⟩=some (.slice at_ nt ct)/\f.drew.cell? ⟨s,2,none⟩=some (.slice dt d9 et):=by
  have z1:=c5.out noY f.drew d rfl;have z2:=d0.out noY f.drew d rfl;have z3:=c9.out noY f.drew d rfl;have z4:=d1.out noY f.drew d rfl;exact⟨z1.1,z2.2,z3.1,z3.2.1,z3.2.2,z4.1,z4.2.1,z4.2.2,d.cell (r1.cell 0 rfl),d.cell (r1.cell 1 rfl),d.cell (r1.cell 2 rfl)⟩
 have e3:Hid ((((1:Int):Rat))=1):=hid (by decide+kernel);have b1:Hid (hq (1:Rat)<=68719476736):=hid (by decide+kernel);have b3:Hid (hq (3:Rat)<=68719476736):=hid (by decide+kernel);clear f0 f1 c5 f2 f3 f4 f5 f6 f7 c9 f8 f9 d0 d1 g0 g2 g3 g4 g5 g6 g7 g8 e0 g9 h0 e2 h1 b9 c0 c1 o d2 N d5 r1 r2 bx b7 e9 x y c2 c3 hh
 (try simp only[Act.put])
 refine a0n 44 (fun h=>h.cell? ⟨gp,op+6,none⟩=some (.bool true)/\h.cell? ⟨gr,r+7,none⟩=some (.bool true)/\h.cell? ⟨H,V+11,none⟩=some (.bool X)/\h.cell? ⟨H,V+12,none⟩=some (.slice z T B)/\h.cell? ⟨H,V+13,none⟩=some (.slice D R F)/\h.cell? ⟨gr,r+8,none⟩=some (.bool Y)/\h.cell? ⟨gr,r+9,none⟩=some (.slice A U C)/\h.cell? ⟨gr,r+10,none⟩=some (.slice E S G)/\h.cell? ⟨s,0,none⟩=some (.bool st)/\h.cell? ⟨s,1,none⟩=some (.slice at_ nt ct)/\h.cell? ⟨s,2,none⟩=some (.slice dt d9 et)) (by kernel_rfl) (by kernel_rfl) g1 (fun a b=>?_);refine kt 0 b ?_;refine kt 1 b ?_;refine kt 2 b ?_;refine kt 3 b ?_;refine kt 4 b ?_;refine kt 5 b ?_;refine kt 6 b ?_;refine kt 7 b ?_;refine kt 8 b ?_;refine kt 9 b ?_;refine kt 10 b ?_;refine kt 11 b ?_;refine kt 12 b ?_;refine kt 13 b ?_;refine kt 14 b ?_;refine kt 15 b ?_;refine kt 16 b ?_;refine kt 17 b ?_;refine kt 18 b ?_;refine kt 19 b ?_;refine kt 20 b ?_;refine kt 21 b ?_;refine kt 22 b ?_;refine kt 23 b ?_;refine ks 24 (fun K g=>?_);go_simp
 ((with_reducible refine(a3n noY f.drew 1 (HX.none _) (by decide) (by decide)).mono ?_);rintro ee wa ⟨j,ua,rfl,O⟩;rw[e3.out]at O;obtain⟨s6,a6,n6,c6,d6,k6,e6,rfl⟩:=O.shape)
 refine kcn g ⟨j.cell a.1,j.cell a.2.1,j.cell a.2.2.1,j.cell a.2.2.2.1,j.cell a.2.2.2.2.1,j.cell a.2.2.2.2.2.1,j.cell a.2.2.2.2.2.2.1,j.cell a.2.2.2.2.2.2.2.1,j.cell a.2.2.2.2.2.2.2.2.1,j.cell a.2.2.2.2.2.2.2.2.2.1,j.cell a.2.2.2.2.2.2.2.2.2.2⟩ (fun a=>?_);clear g K;refine ks 25 (fun K g=>?_);go_simp
 ((with_reducible refine(a9i noY wa _ _ 1 1 (mkx QC.mono qB j) O b1.out).mono ?_);rintro ee wb ⟨l,rfl⟩)
 refine kcn g ⟨l.cell a.1,l.cell a.2.1,l.cell a.2.2.1,l.cell a.2.2.2.1,l.cell a.2.2.2.2.1,l.cell a.2.2.2.2.2.1,l.cell a.2.2.2.2.2.2.1,l.cell a.2.2.2.2.2.2.2.1,l.cell a.2.2.2.2.2.2.2.2.1,l.cell a.2.2.2.2.2.2.2.2.2.1,l.cell a.2.2.2.2.2.2.2.2.2.2⟩ (fun a=>?_);clear g K;have a0:=j.trans l;refine kt 26 b ?_;refine kt 27 b ?_;refine kt 28 b ?_;refine kt 29 b ?_;refine kt 30 b ?_;refine kt 31 b ?_;refine ks 32 (fun K g=>?_);go_simp
 ((with_reducible refine(a3n noY wb 3 (HX.none _) (by decide) (by decide)).mono ?_);rintro ee wc ⟨k,uc,rfl,P⟩;rw[I.out]at P;obtain⟨s7,a7,n7,c7,d7,k7,e7,rfl⟩:=P.shape)
 refine kcn g ⟨k.cell a.1,k.cell a.2.1,k.cell a.2.2.1,k.cell a.2.2.2.1,k.cell a.2.2.2.2.1,k.cell a.2.2.2.2.2.1,k.cell a.2.2.2.2.2.2.1,k.cell a.2.2.2.2.2.2.2.1,k.cell a.2.2.2.2.2.2.2.2.1,k.cell a.2.2.2.2.2.2.2.2.2.1,k.cell a.2.2.2.2.2.2.2.2.2.2⟩ (fun a=>?_);clear g K;refine ks 33 (fun K g=>?_);go_simp
 ((with_reducible refine(a9i noY wc _ _ 3 3 (mkx QC.mono qA (a0.trans k)) P b3.out).mono ?_);rintro ee wd ⟨m,rfl⟩)
 refine kcn g ⟨m.cell a.1,m.cell a.2.1,m.cell a.2.2.1,m.cell a.2.2.2.1,m.cell a.2.2.2.2.1,m.cell a.2.2.2.2.2.1,m.cell a.2.2.2.2.2.2.1,m.cell a.2.2.2.2.2.2.2.1,m.cell a.2.2.2.2.2.2.2.2.1,m.cell a.2.2.2.2.2.2.2.2.2.1,m.cell a.2.2.2.2.2.2.2.2.2.2⟩ (fun a=>?_);clear g K;have a1:=a0.trans (k.trans m);refine kt 34 b ?_;refine kt 35 b ?_;refine kt 36 b ?_;refine kt 37 b ?_;refine kt 38 b ?_;refine kt 39 b ?_;refine kt 40 b ?_;refine ks 41 (fun K g=>?_);go_simp
 ((with_reducible refine(a3n noY wd 3 (HX.none _) (by decide) (by decide)).mono ?_);rintro ee we ⟨ge,ue,rfl,Q⟩;rw[I.out]at Q;obtain⟨s8,a8,n8,c8,d8,k8,e8,rfl⟩:=Q.shape)
 refine kcn g ⟨ge.cell a.1,ge.cell a.2.1,ge.cell a.2.2.1,ge.cell a.2.2.2.1,ge.cell a.2.2.2.2.1,ge.cell a.2.2.2.2.2.1,ge.cell a.2.2.2.2.2.2.1,ge.cell a.2.2.2.2.2.2.2.1,ge.cell a.2.2.2.2.2.2.2.2.1,ge.cell a.2.2.2.2.2.2.2.2.2.1,ge.cell a.2.2.2.2.2.2.2.2.2.2⟩ (fun a=>?_);clear g K;refine ks 42 (fun K g=>?_);go_simp
 ((with_reducible refine(a9i noY we _ _ 3 3 (mkx QC.mono qS (a1.trans ge)) Q b3.out).mono ?_);rintro ee wf ⟨n,rfl⟩)
 refine kcn g ⟨n.cell a.1,n.cell a.2.1,n.cell a.2.2.1,n.cell a.2.2.2.1,n.cell a.2.2.2.2.1,n.cell a.2.2.2.2.2.1,n.cell a.2.2.2.2.2.2.1,n.cell a.2.2.2.2.2.2.2.1,n.cell a.2.2.2.2.2.2.2.2.1,n.cell a.2.2.2.2.2.2.2.2.2.1,n.cell a.2.2.2.2.2.2.2.2.2.2⟩ (fun a=>?_);clear g K;refine kt 43 b ?_;refine kl 44 (fun K g=>?_);go_simp
 refine g.out _ _ ?_;clear g K;go_wp2_with fail
 go_ret
 exact⟨b5.trans (d.trans (a1.trans (ge.trans n))),rfl⟩
theorem b6b{m:List (List a5z)}{r c:Nat}(h:YtjmnhbebpffoaaaGreat.lightM m r c=true):m.length<=r/\∀x∈m,x.length<=c/\∀q∈x,Few 8 q:=by
 have a:=of_decide_eq_true h;exact⟨a.1,fun x b=>of_decide_eq_true (a.2 x b)⟩
theorem b6c{l:List a5z}{c:Nat}(h:YtjmnhbebpffoaaaGreat.lightL l c=true):l.length<=c/\∀q∈l,Few 8 q:=of_decide_eq_true h
theorem Few.bigI{x:a5z}(h:Few 8 x):Few 68719476736 x:=⟨c1A h.1 (by decide),c1A h.2 (by decide)⟩
theorem a7a{p:Mat}{c:Nat}(h:∀r∈p,r.length<=c):colsL p<=c:=by
 by_cases a:0<p.length
 ·rw[a1i a];exact h _ (c1E _)
 ·obtain rfl:p= []:=List.eq_nil_of_length_eq_zero (by omega)
  exact Nat.zero_le _
def c0W(X:Nat->Bool)(w:World)(er:Int)(D:List (List Rat))(e:Ending)(w':World):Prop:=Ext w w'/\∃u,e=.returned (.tuple #[u,.int .i64 er])/\MC (mk X w') u D
def c0X(X:Nat->Bool)(w:World)(er:Int)(C:List Rat)(e:Ending)(w':World):Prop:=Ext w w'/\∃u,e=.returned (.tuple #[u,.int .i64 er])/\RC (mk X w') u C
theorem c1l{X:Nat->Bool}{w:World}{a:Int}{L:List (List Rat)}{e:Ending}{c:World}(h:b3S X w a L e c):c0W X w a (if a=0 then L else[]) e c:=by
 obtain⟨d,u,f,g,i⟩:=h;refine⟨d,u,f,?_⟩;by_cases b:a=0
 ·rw[if_pos b];exact i b
 ·rw[if_neg b,g b];exact SlV.zero _ _ _
theorem c1m{X:Nat->Bool}{w:World}{a:Int}{L:List Rat}{e:Ending}{c:World}(h:b0b X w a L e c):c0X X w a (if a=0 then L else[]) e c:=by
 obtain⟨d,u,f,g,i⟩:=h;refine⟨d,u,f,?_⟩;by_cases b:a=0
 ·rw[if_pos b];exact i b
 ·rw[if_neg b,g b];exact SlV.zero _ _ _
def c1y(x:Mat)(y:List Rat)(ed:Int)(D:List (List Rat))(ec:Int)(C:List Rat):Prop:=∀(X:Nat->Bool) (w:World) (u v:Value),HX X w->MV (mk X w) u x->RV (mk X w) v y->
 Calls Tryz.prog 11 #[u,v] w (c0W X w ed D)/\Calls Tryz.prog 12 #[u,v] w (c0W X w ed D)/\Calls Tryz.prog 13 #[u,v] w (c0X X w ec C)/\Calls Tryz.prog 14 #[u,v] w (c0X X w ec C)
def c0Y(D:List (List Rat))(C:List Rat):Prop:=BM 68719476736 D/\D.length<=1000/\(∀r∈D,r.length<=1000)/\BR 68719476736 C/\C.length<=1000
theorem a5x(x:Mat)(y:List Rat)(B:Nat)(hl:x.length<=8)(hc4:a2Y x y=true->colsL x<=4)(hxB:BM B x)(hyB:BR B y)(hB1:1<=B)(hB:B<=510/\x.length*(2*B+1)<=6540):∃ed D ec C,c0Y D C/\c1y x y ed D ec C:=by
 refine⟨b6F x y,if b6F x y=0 then a9r x y x.length (colsL x)else[],a4v (a1C x y) (a4m x y x.length (colsL x)) x.length (colsL x),if a4v (a1C x y) (a4m x y x.length (colsL x)) x.length (colsL x)=0 then a7i (a4m x y x.length (colsL x)) x.length (colsL x)else[],?_,?_⟩
 ·cases hok:a2Y x y with
  |false=>
   have h6:a1C x y=6:=by unfold a1C;rw[hok,if_pos rfl]
   have hd:b6F x y=6:=by unfold b6F;rw[h6,if_pos (by decide)]
   have hk:a4v (a1C x y) (a4m x y x.length (colsL x)) x.length (colsL x)=6:=by unfold a4v;rw[h6,if_pos (by decide)]
   rw[hd,hk,if_neg (by decide),if_neg (by decide)];exact⟨fun r hr=>by simp at hr,by simp,fun r hr=>by simp at hr,fun q hq=>by simp at hq,by simp⟩
  |true=>
   obtain⟨hf,h1,h64,h12,hyl⟩:=a1k.1 hok;have hsh:=(a0w hf).1;have hc:=hc4 hok;have hfb:=b3T hsh hyl hl hc hxB hyB hB1 hB;have hBn:B<=510/\(x.length - 1)*(2*B+1)<=6540:=⟨hB.1,c1A (Nat.mul_le_mul_right _ (Nat.sub_le _ _)) hB.2⟩;refine⟨?_,?_,?_,?_,?_⟩
   ·split
    ·intro r hr q hq
     obtain⟨i,hi,rfl⟩:=List.mem_map.1 hr;exact c1A (a8d (a6C (b3R hxB) hB1) (b3Q hyB) (by omega) hc hBn q hq) (by decide)
    ·intro r hr;simp at hr
   ·split
    ·simp[a9r];omega
    ·simp
   ·split
    ·intro r hr
     obtain⟨i,hi,rfl⟩:=List.mem_map.1 hr;rw[a4h];omega
    ·intro r hr;simp at hr
   ·split
    ·intro q hq
     obtain⟨i,hi,rfl⟩:=List.mem_map.1 hq;have hi':=List.mem_range.1 hi;obtain⟨_,_,_,_,_,_,b7,_,b9⟩:=a6U (c:=colsL x) hfb hi' hl (by omega);exact c1A (hq_div _ _) (by omega)
    ·intro q hq;simp at hq
   ·split
    ·rw[a6T];omega
    ·simp
 ·intro X w u v hX hu hv
  have hbd:a2Y x y=true->x.length<=8/\colsL x<=4:=fun h=>⟨hl,hc4 h⟩;exact⟨(b1X X w u v x y _ _ B hX hu hv rfl rfl (by omega) hbd hxB hyB hB1 hB).mono fun _ _ h=>c1l h,(a9f X w u v x y _ _ B hX hu hv rfl rfl (by omega) hbd hxB hyB hB1 hB).mono fun _ _ h=>c1l h,(c0J X w u v x y _ _ B hX hu hv rfl rfl (by omega) hbd hxB hyB hB1 hB).mono fun _ _ h=>c1m h,(b8p X w u v x y _ _ B hX hu hv rfl rfl (by omega) hbd hxB hyB hB1 hB).mono fun _ _ h=>c1m h⟩
theorem b6d(lo:Option Addr)(l:List Int)(cl:Nat)(ua uv:Value)(ra:List (List a5z))(rx:List a5z)(w:World)(hl:Sl (a1U .i64) 1 w.cell? lo l)(k9:l.length<=cl)(l4:l.length<=9223372036854775807)(b4:MR (mk noY w) ua ra)(b5:RR (mk noY w) uv rx):Calls Tryz.prog 3 #[.slice lo l.length cl,ua,uv] w (a7U w true):=by
 have l1:=a9h noY w ua ra 200 200 b4 (by decide) (by decide);have l3:=hid (fun o (h:Ext w o)=>a5w noY o uv rx 200 (mkx RR.mono b5 h) (by decide));cases h1:lightM ra 200 200
 ·rw[h1]at l1
  clear h1;go_enter Tryz.func3,Tryz.ntmps3
  go_wp2_with fail
  refine l1.mono ?_;rintro e w1 ⟨p,rfl⟩;clear l1;go_wp2_with fail
  refine(a2X w1).mono ?_;rintro e w2 ⟨j5,rfl⟩;go_wp2_with fail
  go_ret
  exact⟨p.trans j5,rfl⟩
 rw[h1]at l1;cases h3:lightL rx 200
 ·rw[h3]at l3
  clear h1 h3;go_enter Tryz.func3,Tryz.ntmps3
  go_wp2_with fail
  refine l1.mono ?_;rintro e w1 ⟨p,rfl⟩;have W:=l3.out w1 p;clear l1;go_wp2_with fail
  refine W.mono ?_;rintro e w3 ⟨v,rfl⟩;clear W;go_wp2_with fail
  refine(a2X w3).mono ?_;rintro e w4 ⟨f,rfl⟩;go_wp2_with fail
  go_ret
  exact⟨p.trans (v.trans f),rfl⟩
 rw[h3]at l3;obtain⟨n1,f1⟩:=b6b h1;obtain⟨n3,f3⟩:=b6c h3;have i0:=b4.mv (fun r j x hx=>((f1 r j).2 x hx).bigI);have i3:=b5.rv (fun x hx=>(f3 x hx).bigI);have ba:=b4.bm (fun r j=>(f1 r j).2) (by decide);have bv:=b5.br f3 (by decide);obtain⟨E,f2⟩:=c1F (b6K ra);obtain⟨Rx,f4⟩:=c1F (rx.map b6J);rw[f2]at i0 ba;rw[f4]at i3 bv;have u:=hid (fun(h5:E.length<=6) (h4:colsL E<=4)=>a5x E Rx 8 (by omega) (fun _=>h4) ba bv (by decide) ⟨by decide,by omega⟩);obtain⟨aa,ca,rfl,d3,b0⟩:=i0;obtain⟨ax,cx,rfl,g8,i4⟩:=i3;have R:Hid (E.length=0->colsL E=0):=hid fun h=>by
  obtain rfl:E= []:=List.eq_nil_of_length_eq_zero h;rfl
 have B:=hid (fun(h:0<E.length)=>(by
  obtain⟨M,N,_,s,_,_⟩:=b0.row 0 h;rw[<-a1i h]at s;exact⟨M,N,fun o hw=>s.out noY o hw rfl⟩:∃M N,∀o,Ext w o->o.cell? (adr aa 0)=some (.slice M (colsL E) N)))
 have l2:=b0.hd;obtain⟨Y,a7⟩:=c1F E.length;obtain⟨nx,d7⟩:=c1F Rx.length;obtain⟨cc,f7⟩:=c1F (colsL E);have b8:Hid (MV (mk noY w) (.slice aa Y ca) E):=hid ⟨aa,ca,by rw[a7],d3,b0⟩;have b9:Hid (RV (mk noY w) (.slice ax nx cx) Rx):=hid ⟨ax,cx,by rw[d7],g8,i4⟩;rw[a7,f7]at u B R;rw[a7]at l1 d3 l2 |-;rw[d7]at l3 |-;clear h1 h3 f1 f3 n1 n3 b4 b5 f2 f4 b0 i4 d3 g8 a7 d7 f7 ba bv;go_enter Tryz.func3,Tryz.ntmps3
 go_wp2_with fail
 refine l1.mono ?_;rintro e v1 ⟨c6,rfl⟩;have W:=l3.out v1 c6;clear l1;go_wp2_with fail
 refine W.mono ?_;rintro e v3 ⟨e4,rfl⟩;have y:=c6.trans e4;clear W l3;have d4:6<Y\/(Y<=6/\0<Y/\4<cc)\/(Y=0/\cc<=4)\/(Y<=6/\0<Y/\cc<=4):=by
  have:=R.out;omega
 clear R;have h9:Sl (a1U .i64) 1 v3.cell? lo l:=by
  rw[<-a4U]at hl |-;exact hl.mono (a1U.mono _) (a0k y)
 have b3:=hid (b5t lo l cl v3 h9 k9 l4);have e6:Hid (MV (mk noY v3) (.slice aa Y ca) E):=hid (mkx MV.mono b8.out y);have e7:Hid (RV (mk noY v3) (.slice ax nx cx) Rx):=hid (mkx RV.mono b9.out y);have d6:=hid (fun(h:0<Y)=>(by
  obtain⟨M,N,h2⟩:=B.out h;exact⟨M,N,h2 v3 y⟩:∃M N,v3.cell? (adr aa 0)=some (.slice M cc N)))
 clear B b8 b9 c6 e4 h9 hl;rcases d4 with hc|⟨a6,Q,d0⟩|⟨rfl,d0⟩|⟨a6,Q,d0⟩
 ·clear u b3
  go_wp2_with fail
  refine(a2X v3).mono ?_;rintro e w4 ⟨f,rfl⟩;go_wp2_with fail
  go_ret
  exact⟨y.trans f,rfl⟩
 ·obtain⟨M,N,k0⟩:=d6.out Q
  clear u b3;go_wp2_with (with_reducible refine a0v a0o ?_)
  refine(a2X v3).mono ?_;rintro e w4 ⟨f,rfl⟩;clear k0;go_wp2_with fail
  go_ret
  exact⟨y.trans f,rfl⟩
 case' inr.inr.inl=>
  have a6:0<=6:=by omega
 case' inr.inr.inr=>
  obtain⟨M,N,k0⟩:=d6.out Q
 all_goals
  go_wp2_with (with_reducible refine a0v a0o ?_)
  refine b3.out.mono ?_;rintro e w1 ⟨rfl,p,e1,i5⟩
  (try clear k0)
  obtain⟨Z,i8⟩:=c1F v3.heap.size;have c8:HX (tbm Z) w1:=fun k hk=>by
   have:k=Z:=by simpa[tbm]using hk
   omega
  have h7:=hid (fun w2 (h:ExtX (tbm Z) w1 w2)=>(y.trans (p.then_ h fun i hi _=>a3t (by omega)):Ext w w2));obtain⟨rd,RD,j2,a3,e9,e8⟩:=u.out (by omega) d0;have m:=hid (fun w2 (h:ExtX (tbm Z) w1 w2)=>(by
   have hE:Ext v3 w2:=p.then_ h fun i hi _=>a3t (by omega);exact e8 noY w2 _ _ (HX.none _) (mkx MV.mono e6.out hE) (mkx RV.mono e7.out hE)))
  have f0:=hid e9;rw[i8]at e1 |-;obtain⟨X,hX⟩:=c1F (tbm Z);have c3:∀k,tbm Z k=true->X k=true:=fun k hk=>by rw[<-hX];exact hk
  rw[hX]at e1 c8;clear p i5 i8 hX b3 e6 e7 d6 u e9 e8;have d5:=b0i X Z 5 3 w1 e1 c8 (by decide) (by decide) (by decide) (by decide);rw[show((5:Nat):Int)=5 from rfl,show((3:Nat):Int)=3 from rfl]at d5;go_wp2_with fail
  refine d5.mono ?_;rintro e w2 ⟨c5,i6,vx,vy,p3,y3,d,rfl,i2,i9,d8,d9,g9,m2,j,e2,V,H⟩;have f6:=c8.ext c5;have F:BM 4 p3:=V.le (by decide);clear d5;go_wp2_with fail
  refine(a5q X Z 5 w2 i6 (by decide) (by decide)).mono ?_;rintro e wz ⟨v,i7,b,rfl⟩;have z:=c5.trans v;have T:=MV.mono _ _ _ _ (a0s v c3) i2;have b6:=RV.mono _ _ _ _ (a0s v c3) i9;have a5:=f6.ext v;have a9:∀r∈p3,r.length<=4:=fun r h=>by rw[j r h];omega
  clear i2 i9 i6 c5 v f6;cases b
  case' false=>
   obtain⟨po,pc,rfl,a8,t⟩:=id T;have J:0<p3.length:=by omega
   obtain⟨M,N,j8,s,S,e0⟩:=t.row 0 J;have k0:=s.out noY wz (ExtX.refl _) rfl;have hh:=t.hd;rw[j (p3[0]'J) (c1E _)]at k0;obtain⟨ed,D,ec,C,g,a⟩:=a5x p3 y3 4 (by omega) (fun _=>a7a a9) F H (by decide) ⟨by decide,by omega⟩;have c:=hid (fun o (h:Ext wz o)=>a X o _ _ (a5.ext h) (mkx MV.mono T h) (mkx RV.mono b6 h));have O:=hid g;obtain⟨n,hn⟩:=c1F p3.length;rw[hn]at hh J c |-;clear hn s e0 S t T b6 a8 e2 d8 d9 j a9 V F H g a;go_wp2_with (with_reducible refine a0v a0o ?_)
   clear k0
  case' true=>
   go_wp2_with fail
   refine(b0j X Z 5 wz _ _ p3 y3 i7 a5 T b6 d8 d9 (by decide) e2 F H a9).mono ?_;rintro e wz ⟨f,m3,m6,m7,L,y4,rfl,U,b7,G,I,h8,c4,f8⟩;have z:=z.trans f;have c9:=a5.ext f;obtain⟨po,pc,rfl,a8,t⟩:=id U;have hh:=t.hd;clear T b6 f a5 i7 j a9 V F H d8 d9 e2;have f9:(0<L.length/\∀r∈L,r.length<=4)\/L.length=0\/(0<L.length/\∀r∈L,12<=r.length/\r.length<=13):=by
    by_cases J:0<L.length
    ·exact f8.elim (fun h=> .inl ⟨J,h⟩) fun h=> .inr (.inr ⟨J,h⟩)
    ·exact .inr (.inl (by omega))
   clear f8;rcases f9 with⟨J,h⟩|hz|⟨J,h⟩
   case' inl=>
    obtain⟨ed,D,ec,C,g,a⟩:=a5x L y4 4 (by omega) (fun _=>a7a h) G I (by decide) ⟨by decide,by omega⟩;have c:=hid (fun o (h:Ext wz o)=>a X o _ _ (c9.ext h) (mkx MV.mono U h) (mkx RV.mono b7 h))
   case' inr.inl=>
    have i1:L= []:=List.eq_nil_of_length_eq_zero hz;obtain⟨ed,D,ec,C,g,a⟩:=a5x L y4 4 (by omega) (fun _=>a7a (fun r j=>by rw[i1]at j;simp at j)) G I (by decide) ⟨by decide,by omega⟩;have c:=hid (fun o (h:Ext wz o)=>a X o _ _ (c9.ext h) (mkx MV.mono U h) (mkx RV.mono b7 h));have O:=hid g;rw[hz]at c |-;clear hz t U b7 a8 hh i1 g a G I h8 c4;go_wp2_with (with_reducible refine a0v a0o ?_)
   case' inr.inr=>
    obtain⟨ed,D,ec,C,g,a⟩:=a5x [] [] 4 (by simp) (fun _=>Nat.zero_le _) (fun r j=>by simp at j) (fun r j=>by simp at j) (by decide) ⟨by decide,by decide⟩;have c:=hid (fun o (h:Ext wz o)=>a X o (.slice none 0 0) (.slice none 0 0) (c9.ext h) (SlV.zero _ _ _) (SlV.zero _ _ _))
   case' inl|inr.inr=>
    have O:=hid g;obtain⟨M,N,j8,s,S,e0⟩:=t.row 0 J;have k0:=s.out noY wz (ExtX.refl _) rfl;have hd:=h (L[0]'J) (c1E _);obtain⟨dd,h6⟩:=c1F ((L[0]'J).length);rw[h6]at k0 hd;obtain⟨n,hn⟩:=c1F L.length
    (first|rw[hn]at hh J c |- |rw[hn]at hh J |-)
    clear h6 hn s e0 S t U b7 a8 h g a G I h8 c4;go_wp2_with (with_reducible refine a0v a0o ?_)
    clear k0
  all_goals
   have E0:Ext wz wz:=ExtX.refl _;have g0:=(c.out wz E0).1;refine g0.mono ?_;rintro e x0 ⟨j7,a1,rfl,j9⟩;have E1:=E0.trans j7;clear g0;have g1:=(c.out x0 E1).2.1;go_wp2_with fail
   refine g1.mono ?_;rintro e x1 ⟨f5,b1,rfl,k7⟩;have E2:=E1.trans f5;clear g1;have g2:=(c.out x1 E2).2.2.1;go_wp2_with fail
   refine g2.mono ?_;rintro e x2 ⟨c7,c1,rfl,a6⟩;have E3:=E2.trans c7;clear g2;have g3:=(c.out x2 E3).2.2.2;go_wp2_with fail
   refine g3.mono ?_;rintro e x3 ⟨a4,d1,rfl,g9⟩;have E4:=E3.trans a4;clear g3;have g4:=(m.out x3 (z.then_ E4 (fun _ _ _=>rfl))).1;go_wp2_with fail
   refine g4.mono ?_;rintro e x4 ⟨P,a2,rfl,k6⟩;have E5:=E4.trans P;clear g4;have g5:=(m.out x4 (z.then_ E5 (fun _ _ _=>rfl))).2.1;go_wp2_with fail
   refine g5.mono ?_;rintro e x5 ⟨K,b2,rfl,k8⟩;have E6:=E5.trans K;clear g5;have g6:=(m.out x5 (z.then_ E6 (fun _ _ _=>rfl))).2.2.1;go_wp2_with fail
   refine g6.mono ?_;rintro e x6 ⟨A,c2,rfl,Q⟩;have E7:=E6.trans A;clear g6;have g7:=(m.out x6 (z.then_ E7 (fun _ _ _=>rfl))).2.2.2;go_wp2_with fail
   refine g7.mono ?_;rintro e x7 ⟨q,d2,rfl,l0⟩;have E8:=E7.trans q;clear g7;have q3:(rd==rd)=true:=beq_self_eq_true _;have q4:(j2==j2)=true:=beq_self_eq_true _;obtain⟨j3,m0,e3,j4,m1⟩:=O.out;obtain⟨l5,m4,j0,l6,m5⟩:=f0.out;have t1:=a6X X x7 a1 b1 D D (mkx MC.mono j9 (f5.trans (c7.trans (a4.trans (P.trans (K.trans (A.trans q))))))) (mkx MC.mono k7 (c7.trans (a4.trans (P.trans (K.trans (A.trans q)))))) j3 (by omega) (fun r j=>c1A (e3 r j) (by decide));rw[decide_eq_true (rfl:D=D)]at t1;have j1:=hid j0;clear e3 j0;go_wp2_with fail
   refine t1.mono ?_;rintro e y1 ⟨k1,rfl⟩;clear t1;have t2:=a4t X y1 c1 d1 C C (mkx RC.mono a6 (a4.trans (P.trans (K.trans (A.trans (q.trans k1)))))) (mkx RC.mono g9 (P.trans (K.trans (A.trans (q.trans k1))))) j4 (by omega);rw[decide_eq_true (rfl:C=C)]at t2;go_wp2_with fail
   refine t2.mono ?_;rintro e y2 ⟨k2,rfl⟩;clear t2;have t3:=a6X noY y2 a2 b2 RD RD (mkx MC.mono k6 (K.trans (A.trans (q.trans (k1.trans k2))))) (mkx MC.mono k8 (A.trans (q.trans (k1.trans k2)))) l5 (by omega) (fun r j=>c1A (j1.out r j) (by decide));rw[decide_eq_true (rfl:RD=RD)]at t3;go_wp2_with fail
   refine t3.mono ?_;rintro e l7 ⟨k3,rfl⟩;clear t3;have t4:=a4t noY l7 c2 d2 a3 a3 (mkx RC.mono Q (q.trans (k1.trans (k2.trans k3)))) (mkx RC.mono l0 (k1.trans (k2.trans k3))) l6 (by omega);rw[decide_eq_true (rfl:a3=a3)]at t4;go_wp2_with fail
   refine t4.mono ?_;rintro e l8 ⟨k4,rfl⟩;clear t4;go_wp2_with fail
   refine(a2X l8).mono ?_;rintro e l9 ⟨k5,rfl⟩;have j6:=h7.out l9 (z.then_ (E8.trans (k1.trans (k2.trans (k3.trans (k4.trans k5))))) (fun _ _ _=>rfl));go_wp2_with fail
   go_ret
   exact⟨j6,rfl⟩
section
open Go.ChangeShapes Go.WideShapes Go.ChangeAt Go.Deep
theorem b8x{n:Int}(h:(Lit.int .i64 n).wf=true): -9223372036854775808<=n/\n<=9223372036854775807:=by
 unfold Lit.wf at h;simpa[IntKind.min,IntKind.max,IntKind.signed,IntKind.bits]using h
section
variable {H:Type} {enc:TypeId×Value->H} {P:Program} {w:World} {base:Nat} {spare:Nat->Bool} {held:Bool}
theorem b8y{g:Nat}{v:Value}{x:DataW H×List MemPlace}(h:DataW.trod enc Tryz.prog w base spare held g 22 [v]=some x):∃(a:Option Addr) (l:List Int) (f:Nat),v=.slice a l.length f/\l.length<=f/\l.length<=9223372036854775807/\Sl (a1U .i64) 1 (mk noY w) a l/\∀x∈l,-9223372036854775808<=x/\x<=9223372036854775807:=by
 rw[a4U];rcases open_ints Tryz.underlying22 Tryz.underlying3 (by kernel_rfl) h with⟨e,_⟩|⟨x,len,c,n,e,_,F,z,hz,_,d,p⟩
 ·refine⟨none,[],0,by simpa using e,by simp,by simp,Sl.nil _ _ _ _,by simp⟩
 ·have C:len<=n.length:=by
   rw[hz];split<;>omega
  have m:(n.take len).length=len:=by simp;omega
  have t:c<=9223372036854775807:=by simpa[maxLen]using z
  refine⟨some x,n.take len,c,by rw[m];simpa using e,by omega,by omega,⟨fun D=>?_,fun i E=>?_⟩,fun y B=>b8x (p y (List.mem_of_mem_take B))⟩
  ·obtain⟨_,b,q,A⟩:=a3u (d 0 (by omega))
   exact⟨b,q,by rw[A]⟩
  ·have k:i<n.length:=by omega
   refine⟨.int .i64 (n.take len)[i],rfl,fun j s=>?_,rfl⟩;have o:j=0:=by simp[Value.cells]at s;exact s
   subst o;have r:=d i k;have u:=(a3u (d 0 (by omega))).1 i;rw[u]at r;simp only[Nat.mul_one,Nat.add_zero,List.getElem_take];rw[r];simp[List.getD_eq_getElem?_getD,k,Value.cells]
end
end
end Go.Proofs.YtjmnhbebpffoaaaGreat
