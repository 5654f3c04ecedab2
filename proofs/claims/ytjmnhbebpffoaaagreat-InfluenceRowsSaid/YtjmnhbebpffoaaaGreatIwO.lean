/- Parts of a proof: each theorem states what it proves, and its conditions. -/
import Derived.Test.YtjmnhbebpffoaaaGreatIwN
import Derived.BigQuiet
import Derived.IntWalk
import Derived.Deep.RegionHeld3
import Derived.WalkKit
import Derived.ProofKit
import Derived.OpenShut
import Derived.ShutString
import Derived.ChangeOld
import Derived.Below
import Derived.Deep.Slices
import Derived.Deep.Fields
import Derived.ChangeSame
set_option maxRecDepth 100000
set_option maxHeartbeats 6400000
namespace Go.Proofs.YtjmnhbebpffoaaaGreat
open Go.RowKit
theorem b3Z(X:Nat->Bool)(w:World)(u v:Value)(x:Mat)(y:List Rat)(n c B:Nat)(hX:HX X w)(hu:MV (mk X w) u x)(hv:RV (mk X w) v y)(hnx:x.length=n)(hcx:colsL x=c)(hl:n<=1000000)(hbd:a2Y x y=true->n<=8/\c<=4)(hxB:BM B x)(hyB:BR B y)(hB1:1<=B)(hB:B<=510/\n*(2*B+1)<=6540):Calls Tryz.prog 30 #[u,v] w (b8h X w (a1C x y) (a4m x y n c)):=by
 obtain⟨W,hW,hE,b0,hz⟩:=a0Y w #[.int .i64 0,.slice none 0 0,.slice none 0 0,.slice none 0 0,.bool false,.slice none 0 0,.slice none 0 0,.slice none 0 0] 67;have hXW:HX (a0f X w.heap.size 1) W:=hX.boxes hz;have hu1:=MV.mono _ _ _ _ (a0i (nb:=1) hE) hu;have hv1:=RV.mono _ _ _ _ (a0i (nb:=1) hE) hv;obtain⟨b,hb⟩:=c1F w.heap.size;have hbw:w.heap.size<=b:=by omega
 rw[hb]at b0 hz hXW hu1 hv1;have bNw:=hid fun(w':World)=>Bx.new w' #[.int .i64 0,.slice none 0 0,.slice none 0 0,.slice none 0 0,.bool false,.slice none 0 0,.slice none 0 0,.slice none 0 0] 67;have hnl:=hid (show∃ao ca,u=.slice ao n ca from by
  obtain⟨ao,ca,e,_⟩:=hu;exact⟨ao,ca,by rw[e,hnx]⟩)
 cases hok:a2Y x y with
 |false=>
  have e1:a1C x y=6:=by unfold a1C;rw[hok,if_pos rfl]
  have hno:=b3P (a0f X b 1) W u v x y hXW hu1 hv1 hok (by omega);rw[e1];clear hok e1 hu1 hv1 hu hv hbd;go_enter Tryz.func30,Tryz.ntmps30
  go_wp2_with (first
   |(go_at_call 31;(with_reducible refine hno.mono ?_);rintro ee w2 ⟨t2,rfl⟩;have b2:=b0.ext0 t2;have bN:=bNw.out w2)
   |((with_reducible refine c1J (t:=67) ?_);(first|(refine a0a a1n rfl rfl bN rfl rfl a1Q ?_;intro w7 x1 y1;have hE7:=c1M y1;have b07:=b2.ext0 hE7;clear bN)|(refine a0a a1n rfl rfl b07 rfl rfl a1Q ?_;intro w8 x2 y2))))
  exact bodyPost_ret (a0C rfl rfl a1n x2 rfl) rfl ⟨ExtX.box (hE.trans (t2.trans hE7)) y2 hbw,_,rfl,⟨_,_,_,_,_,_,_,_,_,_,_,_,_,_,_,_,_,_,_,_,rfl⟩,fun h=>absurd h (by decide)⟩
 |true=>
  obtain⟨hn8,hc4⟩:=hbd hok;obtain⟨g1,g2,g3,g4,g5⟩:=a1k.1 hok;have hfit:=b3Y (a0f X b 1) W u v x y n c B hXW hu1 hv1 hok hnx hcx hn8 hc4 hxB hyB hB1 hB;have hrow:=hid (show∃ao ca a0 c0,u=.slice ao n ca/\Hd ao n/\∀w',Ext W w'->w'.cell? (adr ao 0)=some (.slice a0 c c0)from by
   obtain⟨ao,ca,e,hca,hsa⟩:=hu1;obtain⟨a0,c0,_,hc0,_,_⟩:=hsa.row 0 (by omega);rw[<-a1i (by omega),hcx]at hc0;have hd:=hsa.hd;rw[hnx]at hd;exact⟨ao,ca,a0,c0,by rw[e,hnx],hd,fun w' h=>hc0.out noY w' h rfl⟩)
  have hrk:(a4m x y n c).rank=(a0J x c).2.length:=rfl;have hfe:a1C x y=if(a0J x c).2.length<c then 7 else 0:=by unfold a1C;rw[hok,if_neg (by decide),hcx]
  have hrc:(a0J x c).2.length<=4:=by
   have:=a7u (a0w g1).1;rw[hcx]at this;omega
  obtain⟨er,her⟩:=c1F (a1C x y);obtain⟨F,hF⟩:=c1F (a4m x y n c);rw[hF]at hfit hrk |-;rw[her]at hfe |-;obtain⟨R,hR⟩:=c1F ((a0J x c).2.length);rw[hR]at hrk hfe hrc;obtain⟨ao,ca,a0,c0,hue,hhd,hk0⟩:=hrow.out;subst hue;have hn1:0<n:=by omega
  have hrk':=hid hrk;have hk0':=hid hk0;clear hok hu1 hv1 hu hv hbd hrow hF her hR g1 g2 g3 g4 g5 hrk hnl hk0;have i0:∀W,(Instr.indexAt 23 (.slice ao n ca) (.int .i64 0)).run Tryz.prog W=.ok (.pointer (some (adr ao 0))) W:=a0y a0o ao n ca .i64 0 hhd hn1 rfl;by_cases hlt:R<c
  ·rw[if_pos hlt]at hfe
   subst hfe;go_enter Tryz.func30,Tryz.ntmps30
   go_upto_region 4 with(first
    |(go_at_call 31;(with_reducible refine hfit.mono ?_);rintro ee w2 ⟨t2,fv,rfl,hfv⟩;have hfv':=hfv;obtain⟨uo,uc',co',cl',cc,ro,rl,rc,s3,a3,n3,c3,d3,k3,e3,fo,ll,lc,rfl,hfv2⟩:=hfv;rw[hrk'.out]at hfv' |-;clear hfv2;have b2:=b0.ext0 t2;have bN:=bNw.out w2)
    |((with_reducible refine c1J (t:=67) ?_);refine a0a a1n rfl rfl bN rfl rfl a1Q ?_;intro w7 x1 y1))
   have hE7:=c1M y1;have hEd:=c1L w7;have b07:=(b2.ext0 hE7).ext0 hEd;have x1d:=x1.ext0 hEd;have hwS:w7.drew.cell? ⟨w2.heap.size,0,none⟩=some (.int .i64 (R:Int))/\w7.drew.cell? (adr ao 0)=some (.slice a0 c c0):=⟨x1d.cell 0 rfl,hk0'.out _ ((t2.trans hE7).trans hEd)⟩
   (try simp only[Act.put])
   refine a0n 6 (fun w'=>w'.cell? ⟨w2.heap.size,0,none⟩=some (.int .i64 (R:Int))/\w'.cell? (adr ao 0)=some (.slice a0 c c0)) (by kernel_rfl) (by kernel_rfl) hwS (fun hHeld hOnce=>?_);refine kt 0 hOnce ?_;refine kt 1 hOnce ?_;refine kt 2 hOnce ?_;refine kt 3 hOnce ?_;refine kt 4 hOnce ?_;refine kt 5 hOnce ?_;refine kl 6 (fun K hK=>?_);go_simp
   refine hK.out _ _ ?_;clear hK K;clear hHeld hOnce hwS y1 bN x1 i0;go_wp2_with ((with_reducible refine c1J (t:=67) ?_);refine a0a a1n rfl rfl b07 rfl rfl a1Q ?_;intro w8 x2 y2)
   exact bodyPost_ret (a0C rfl rfl a1n x2 rfl) rfl ⟨ExtX.box (hE.trans (t2.trans (hE7.trans hEd))) y2 hbw,_,rfl,⟨_,_,_,_,_,_,_,_,_,_,_,_,_,_,_,_,_,_,_,_,rfl⟩,fun h=>absurd h (by decide)⟩
  ·rw[if_neg hlt]at hfe
   subst hfe;go_enter Tryz.func30,Tryz.ntmps30
   go_upto_region 4 with(first
    |(go_at_call 31;(with_reducible refine hfit.mono ?_);rintro ee w2 ⟨t2,fv,rfl,hfv⟩;have hfv':=hfv;obtain⟨uo,uc',co',cl',cc,ro,rl,rc,s3,a3,n3,c3,d3,k3,e3,fo,ll,lc,rfl,hfv2⟩:=hfv;rw[hrk'.out]at hfv' |-;clear hfv2;have b2:=b0.ext0 t2;have bN:=bNw.out w2)
    |((with_reducible refine c1J (t:=67) ?_);refine a0a a1n rfl rfl bN rfl rfl a1Q ?_;intro w7 x1 y1))
   have hE7:=c1M y1;have hEd:=c1L w7;have b07:=(b2.ext0 hE7).ext0 hEd;have x1d:=x1.ext0 hEd;have hwS:w7.drew.cell? ⟨w2.heap.size,0,none⟩=some (.int .i64 (R:Int))/\w7.drew.cell? (adr ao 0)=some (.slice a0 c c0):=⟨x1d.cell 0 rfl,hk0'.out _ ((t2.trans hE7).trans hEd)⟩
   (try simp only[Act.put])
   refine a0n 6 (fun w'=>w'.cell? ⟨w2.heap.size,0,none⟩=some (.int .i64 (R:Int))/\w'.cell? (adr ao 0)=some (.slice a0 c c0)) (by kernel_rfl) (by kernel_rfl) hwS (fun hHeld hOnce=>?_);refine kt 0 hOnce ?_;refine kt 1 hOnce ?_;refine kt 2 hOnce ?_;refine kt 3 hOnce ?_;refine kt 4 hOnce ?_;refine kt 5 hOnce ?_;refine kl 6 (fun K hK=>?_);go_simp
   refine hK.out _ _ ?_;clear hK K;clear hHeld hOnce hwS y1 bN x1 i0;go_wp2_with (first
    |((with_reducible refine c1K (t:=67) ?_);refine a2P a1n rfl x1d rfl ?_)
    |((with_reducible refine c1J (t:=67) ?_);refine a0a a1n rfl rfl b07 rfl rfl a1Q ?_;intro w8 x2 y2))
   have h8:=b4o.mono _ _ _ _ a0l (b4o.mono _ _ _ _ (a0h y2 (by omega) (by omega)) (mkx b4o.mono hfv' (hE7.trans hEd)));exact bodyPost_ret (a0C rfl rfl a1n x2 rfl) rfl ⟨ExtX.box (hE.trans (t2.trans (hE7.trans hEd))) y2 hbw,_,rfl,⟨_,_,_,_,_,_,_,_,_,_,_,_,_,_,_,_,_,_,_,_,rfl⟩,fun _=>h8⟩
theorem a9f(X:Nat->Bool)(w:World)(u v:Value)(x:Mat)(y:List Rat)(n c B:Nat)(hX:HX X w)(hu:MV (mk X w) u x)(hv:RV (mk X w) v y)(hnx:x.length=n)(hcx:colsL x=c)(hl:n<=1000000)(hbd:a2Y x y=true->n<=8/\c<=4)(hxB:BM B x)(hyB:BR B y)(hB1:1<=B)(hB:B<=510/\n*(2*B+1)<=6540):Calls Tryz.prog 12 #[u,v] w (b3S X w (b6F x y) (a9r x y n c)):=by
 have hfu:=b3Z X w u v x y n c B hX hu hv hnx hcx hl hbd hxB hyB hB1 hB;have hde:Hid (b6F x y=if a1C x y≠0 then a1C x y else if∃i,i<x.length/\(x.length=1\/(a0J (a1P x i) (colsL x)).2.length<colsL x)then 7 else 0):=hid rfl;obtain⟨F,hF⟩:=c1F (a4m x y n c);rw[hF]at hfu;have bNw:=hid fun(w':World)=>Bx.new w' #[.int .i64 0,.slice none 0 0,.slice none 0 0,.slice none 0 0,.bool false,.slice none 0 0,.slice none 0 0,.slice none 0 0] 67;by_cases h0:a1C x y=0
 rotate_left 1
 ·have hde1:=hde.out
  rw[if_pos h0]at hde1;rw[hde1];obtain⟨er,her⟩:=c1F (a1C x y);rw[her]at h0 hfu |-;have d0:(er !=(0:Int))=true:=a7c h0;have h0':=hid h0;clear h0 her hde hde1 hu hv hbd hF;go_enter Tryz.func12,Tryz.ntmps12
  go_wp2_with (first
   |(go_at_call 30;refine hfu.mono ?_;rintro ee w2 ⟨t2,fv,rfl,hfs,_⟩;obtain⟨r,uo,ul,uc',co',cl',cc,ro,rl,rc,s3,a3,n3,c3,d3,k3,e3,fo,ll,lc,rfl⟩:=hfs;have bN:=bNw.out w2)
   |((with_reducible refine c1J (t:=67) ?_);refine a0a a1n rfl rfl bN rfl rfl a1Q ?_;intro w7 x1 y1;have hE7:=c1M y1;clear bN))
  go_ret2
  exact⟨t2.trans hE7,_,rfl,fun _=>rfl,fun h=>absurd h h0'.out⟩
 ·have hok:a2Y x y=true:=by
   cases h:a2Y x y
   ·unfold a1C at h0;rw[h,if_pos rfl]at h0;exact absurd h0 (by decide)
   ·rfl
  obtain⟨hn8,hc4⟩:=hbd hok;obtain⟨g1,g2,g3,g4,g5⟩:=a1k.1 hok;have hde1:=hde.out;rw[if_neg (by rw[h0];decide),hnx,hcx]at hde1;have hn1:1<=n:=by omega
  have hc1:1<=c:=by have:=(a0w g1).2.2.2.1 (by omega);omega
  have hyl:y.length=n:=by omega
  have hdu:=hid fun X' w' u' v' i (hi:i<n) (h2:2<=n) (h3:HX X' w') (h4:MV (mk X' w') u' (a1P x i)) (h5:RV (mk X' w') v' (a1P y i))=>(by
   obtain⟨q1,q2,q3,q4⟩:=a6m hok hnx hcx h2 hi;have hBn:(n - 1)*(2*B+1)<=6540:=c1A (Nat.mul_le_mul_right _ (by omega)) hB.2;exact b3Y X' w' u' v' (a1P x i) (a1P y i) (n - 1) c B h3 h4 h5 q2 q4 q3 (by omega) hc4 (b3R hxB) (b3Q hyB) hB1 ⟨hB.1,hBn⟩:Calls Tryz.prog 31 #[u',v'] w' (a6R X' w' (a4m (a1P x i) (a1P y i) (n - 1) c)))
  have hd1:=hid fun X' w' u' v' (h2:n=1) (h3:HX X' w') (h4:MV (mk X' w') u' (a1P x 0)) (h5:RV (mk X' w') v' (a1P y 0))=>(by
   have hl0:(a1P x 0).length=0:=by rw[a3G (by omega),hnx,h2]
   have hno:a2Y (a1P x 0) (a1P y 0)=false:=by
    cases h:a2Y (a1P x 0) (a1P y 0)with
    |false=>rfl
    |true=>have:=(a1k.1 h).2.1;omega
   exact b3P X' w' u' v' (a1P x 0) (a1P y 0) h3 h4 h5 hno (by omega):Calls Tryz.prog 31 #[u',v'] w' (b5M w' (.agg #[.int .i64 0,.slice none 0 0,.slice none 0 0,.slice none 0 0,.bool false,.slice none 0 0,.slice none 0 0,.slice none 0 0])))
  have hcl:(a9r x y n c).length=n:=by simp[a9r]
  have hcg:=hid fun i (hi:i<(a9r x y n c).length)=>(by simp[a9r]:(a9r x y n c)[i]=a1I (a1P x i) (a1P y i) (n - 1) c);have hwo:=hid fun X' w' u' v' i (h3:HX X' w') (h4:MV (mk X' w') u' x) (h5:RV (mk X' w') v' y) (hi:i<n)=>c0K X' w' u' v' x y n i h3 h4 h5 hnx hyl (by omega) hi;obtain⟨ao,ca,hue,hca,hsa⟩:=id hu;obtain⟨vo,vc,hve,hvc,hsv⟩:=id hv;obtain⟨a0,c0,_,hc0,_,_⟩:=hsa.row 0 (by omega);rw[<-a1i (by omega),hcx]at hc0;have hk0:=hid fun w' (h:Ext w w')=>hc0.out noY w' h rfl;have hhd:Hd ao n:=by have:=hsa.hd;rwa[hnx]at this
  rw[hnx]at hue hca;rw[hyl]at hve hvc;obtain⟨C,hC⟩:=c1F (a9r x y n c);rw[hC]at hcl hcg |-;have hcl':=hid hcl;have hnx':=hid hnx;have hyl':=hid hyl;subst hue hve;rw[h0]at hfu;rw[hde1];obtain⟨er,her⟩:∃er:Int,(if∃i,i<n/\(n=1\/(a0J (a1P x i) c).2.length<c)then 7 else 0)=er:=⟨_,rfl⟩;rw[her];have her':=hid her;clear her;clear hde hde1 h0 hF hbd hc0 hC hcl hxB hyB;clear hok;have i0:∀W,(Instr.indexAt 23 (.slice ao n ca) (.int .i64 0)).run Tryz.prog W=.ok (.pointer (some (adr ao 0))) W:=a0y a0o ao n ca .i64 0 hhd (by omega) rfl;have i0':=hid i0;clear i0;go_enter Tryz.func12,Tryz.ntmps12
  go_wp2_with (first
   |(go_at_call 30;refine hfu.mono ?_;rintro ee w2 ⟨t2,fv,rfl,hfs,_⟩;obtain⟨r,uo,ul,uc',co',cl',cc,ro,rl,rc,s3,a3,n3,c3,d3,k3,e3,fo,ll,lc,rfl⟩:=hfs;have bN:=bNw.out w2)
   |((with_reducible refine c1J (t:=67) ?_);refine a0a a1n rfl rfl bN rfl rfl a1Q ?_;intro w7 x1 y1;have hE7:=c1M y1;clear bN))
  have t7:=t2.trans hE7;have hX7:=hX.ext t7;have hs7:=hsa.mono RV.mono (a0k t7);have hv7:=hsv.mono QV.mono (a0k t7);clear hfu x1 y1 t2 hE7;go_loopw [8,23] (fun o cx wr=>∃(i:Nat) (oo:Option Addr) (oc:Nat),cx=.int .i64 i/\o=.slice oo i oc/\i<=n/\Hid (∀j,j<i->n≠1/\¬(a0J (a1P x j) c).2.length<c)/\OL RC 1 X w7.heap.size 24 wr oo oc (C.take i)/\Ext w7 wr) (fun _ cx _=>n - (intOf cx).toNat)
  case atStart=>exact⟨0,none,0,rfl,rfl,Nat.zero_le _,hid fun j hj=>absurd hj (Nat.not_lt_zero _),OL.nil _ _ _ _ _ _,ExtX.refl _⟩
  case round=>
   obtain⟨i,oo,oc,rfl,rfl,hi,hall,hO,hE⟩:=hrel;have hXr:=hX7.ext hE;by_cases hlt:i<n
   ·have hXu:HX (un X oo) wr:=hO.unX hXr
    have hxu:MV (mk (un X oo) wr) (.slice ao n ca) x:=⟨ao,ca,by rw[hnx'.out],by rw[hnx'.out];exact hca,hs7.old RV.mono hE (fun j hj=>hO.ob_lt hj)⟩;have hyu:RV (mk (un X oo) wr) (.slice vo n vc) y:=⟨vo,vc,by rw[hyl'.out],by rw[hyl'.out];exact hvc,hv7.old QV.mono hE (fun j hj=>hO.ob_lt hj)⟩;have hw1:=hwo.out (un X oo) wr _ _ i hXu hxu hyu hlt;clear hxu hyu;by_cases hn2:n=1
    ·have hi0:i=0:=by omega
     subst hi0;have e7:=her'.out;rw[if_pos ⟨0,by omega,.inl hn2⟩]at e7;subst e7;have hdu1:=hid fun w' u' v' (h:HX (un X oo) w') h4 h5=>hd1.out (un X oo) w' u' v' hn2 h h4 h5;clear hdu hd1;subst hn2;go_wp2_with fail
     refine hw1.mono ?_;rintro e w2 ⟨hE2,u2,v2,rfl,hu2,hv2⟩;have hw3:=hdu1.out w2 u2 v2 (hXu.ext hE2) hu2 hv2;clear hw1 hdu1;go_wp2_with fail
     refine hw3.mono ?_;rintro e w4 ⟨hE4,rfl⟩;have bN:=bNw.out w4;clear hw3 hu2 hv2;go_wp2_with ((with_reducible refine c1J (t:=67) ?_);refine a0a a1n rfl rfl bN rfl rfl a1Q ?_;intro w7 x1 y1;have hE8:=c1M y1;clear bN)
     go_quiet (fail)
     go_wp2_with fail
     go_ret2
     exact⟨(t7.trans (hE.trans (hE2.trans (hE4.trans hE8)))).drewN _,_,rfl,fun _=>rfl,fun h=>absurd h (by decide)⟩
    have hn2':2<=n:=by omega
    have hdu1:=hid fun w' u' v' (h:HX (un X oo) w') h4 h5=>hdu.out (un X oo) w' u' v' i hlt hn2' h h4 h5;have hcg1:=hid (hcg.out i (by rw[hcl'.out];exact hlt));have hln:=hid (a0O (l:=C) (i:=i) (by rw[hcl'.out];omega));have htk:=hid (a0I C i (by rw[hcl'.out];exact hlt));obtain⟨Fi,hFi⟩:=c1F (a4m (a1P x i) (a1P y i) (n - 1) c);have hco:Hid (Fi.coef=C[i]'(by rw[hcl'.out];exact hlt)):=hid (by rw[hcg1.out,<-hFi];rfl);have hrkF:Hid (Fi.rank=(a0J (a1P x i) c).2.length):=hid (by rw[<-hFi];rfl);rw[hFi]at hdu1;obtain⟨Ci,hCi⟩:∃D,C[i]'(by rw[hcl'.out];exact hlt)=D:=⟨_,rfl⟩;rw[hCi]at hco htk;clear hFi hCi hcg1;go_wp2_with fail
    refine hw1.mono ?_;rintro e w2 ⟨hE2,u2,v2,rfl,hu2,hv2⟩;have hw3:=hdu1.out w2 u2 v2 (hXu.ext hE2) hu2 hv2;clear hw1 hdu1;go_wp2_with fail
    refine hw3.mono ?_;rintro e w4 ⟨hE4,z,rfl,hzf⟩;have bN:=bNw.out w4;have hE14:=hE2.trans hE4;obtain⟨uo,uc',co',cl',cc,ro,rl,rc,s3,a3,n3,c3,d3,k3,e3,fo,ll,lc,rfl,_,_,hRC,_,_,_⟩:=hzf;rw[hco.out]at hRC;obtain⟨R,hR⟩:=c1F Fi.rank;have hRe:Hid (R=(a0J (a1P x i) c).2.length):=hid (by rw[<-hR,hrkF.out]);rw[hR];have hk4:=hid fun w' (h:Ext w4 w')=>hk0.out w' (((t7.trans hE).trans hE14).trans h);clear hw3 hu2 hv2 hR hrkF;by_cases hrk:R<c
    ·have hex:∃q,q<n/\(n=1\/(a0J (a1P x q) c).2.length<c):=⟨i,hlt,.inr (by rw[<-hRe.out];exact hrk)⟩
     have e7:=her'.out;rw[if_pos hex]at e7;subst e7;have dR:decide ((R:Int)<(c:Int))=true:=decide_eq_true (by omega);have i0:=i0'.out;clear hex;go_wp2_with ((with_reducible refine c1J (t:=67) ?_);refine a0a a1n rfl rfl bN rfl rfl a1Q ?_;intro w7 x1 y1;have hE8:=c1M y1;have k1:w7.cell? ⟨w4.heap.size,0,none⟩=some (.int .i64 (R:Int)):=x1.cell 0 rfl;have k2:=hk4.out w7 hE8;clear bN)
     go_quiet (fail)
     go_wp2_with fail
     go_ret2
     exact⟨(t7.trans (hE.trans (hE14.trans hE8))).drewN _,_,rfl,fun _=>rfl,fun h=>absurd h (by decide)⟩
    ·have dR:decide ((R:Int)<(c:Int))=false:=decide_eq_false (by omega)
     have hall2:Hid (∀j,j<i+1->n≠1/\¬(a0J (a1P x j) c).2.length<c):=hid fun j hj=>by
      by_cases e:j=i
      ·subst e;exact⟨hn2,by rw[<-hRe.out];exact hrk⟩
      ·exact hall.out j (by omega)
     have hO4:=hO.ext0 RC.elem hE14;have hE04:=hE.trans hE14;have i0:=i0'.out;clear hO hE14 hE2 hE4 hall;go_wp2_with ((with_reducible refine c1J (t:=67) ?_);refine a0a a1n rfl rfl bN rfl rfl a1Q ?_;intro w7' x1 y1;have hE8:Ext w4 w7':=ExtX.box ((ExtX.refl w4).alloc _) y1 (c1B _);have hO8:=hO4.ext0 RC.elem hE8;have hRC8:=mkx RC.mono hRC hE8;have hX8:=(hX7.ext hE04).ext hE8;have hb8:=(hE04.trans hE8).size;have kc:w7'.cell? ⟨w4.heap.size,2,none⟩=some (.slice co' cl' cc):=x1.cell 2 rfl;have k1:w7'.cell? ⟨w4.heap.size,0,none⟩=some (.int .i64 (R:Int)):=x1.cell 0 rfl;have k2:=hk4.out w7' hE8;clear bN)
     go_quiet (fail)
     clear i0 k1 k2;have hED:Ext w7' (w7'.drewN nq):=(ExtX.refl w7').drewN nq;have hO9:=hO8.ext0 RC.elem hED;have hRC9:=mkx RC.mono hRC8 hED;have hX9:=hX8.ext hED;have kc9:(w7'.drewN nq).cell? ⟨w4.heap.size,2,none⟩=some (.slice co' cl' cc):=kc;have hb9:w7.heap.size<=(w7'.drewN nq).heap.size:=hb8;go_wp2_with (at_builtin;refine a0t (l:=C.take i) a0o rfl RC.elem hb9 hX9 i hln.out rfl rfl hO9 (.slice co' cl' cc) Ci rfl hRC9 (by omega) (by omega) ?_;intro oo2 oc2 w9 hO10 hE9 hor)
     have hE10:=(hE04.trans (hE8.trans hED)).own hO9 (c1B _) hE9;rw[htk.out]at hO10;go_roundw
     case rel=>exact⟨i+1,oo2,oc2,by go_num,by go_num,by omega,hall2,hO10,hE10⟩
     case measure=>simp[intOf];omega
   ·obtain rfl:i=n:=by omega
    have hne:¬∃q,q<i/\(i=1\/(a0J (a1P x q) c).2.length<c):=fun⟨q,h1,h2⟩=>by
     rcases h2 with h2|h2
     ·exact(hall.out q h1).1 h2
     ·exact(hall.out q h1).2 h2
    have e0:=her'.out;rw[if_neg hne]at e0;subst e0;rw[c1D (by rw[hcl'.out];exact c1B _)]at hO;clear hne;go_wp2_with fail
    go_ret2
    exact⟨t7.trans hE,_,rfl,fun h=>absurd rfl h,fun _=>⟨oo,oc,by rw[hcl'.out];rfl,hO.lenCap,hO.sl RC.elem⟩⟩
theorem rof(X:Nat->Bool)(w:World)(v:Int)(n:HX X w)(i: -9223372036854775808<=v)(j:v<=9223372036854775807):Calls Tryz.prog 40 #[.int .i64 v] w (a2b X w QC v):=by
 obtain⟨W,y,m,h,hz⟩:=a0Y w #[.bool false,.slice none 0 0,.slice none 0 0] 47;have c:HX (a0f X w.heap.size 1) W:=n.boxes hz;obtain⟨b,o⟩:=c1F w.heap.size;have p:w.heap.size<=b:=by omega
 rw[o]at h hz c;have f:=hid i;have g:=hid j;clear i j;go_enter Tryz.func40,Tryz.ntmps40
 go_wp2_with fail
 refine(a3n (a0f X b 1) W v c f.out g.out).mono ?_;rintro u D ⟨a,C,rfl,d⟩;obtain⟨B,r,A,s,t,z,x,rfl⟩:=d.shape;have e:=h.ext0 a;go_wp2_with ((with_reducible refine c1J ?_);refine a0a a0p rfl rfl e rfl rfl a1s ?_;intro E q k)
 have l:=QC.mono _ _ _ _ a0l (QC.mono _ _ _ _ (a0h k (by omega) (by omega)) d);exact bodyPost_ret (a0d rfl rfl a0p q rfl) rfl ⟨ExtX.box (m.trans a) k (by omega),_,rfl,l⟩
theorem b8p(X:Nat->Bool)(w:World)(u v:Value)(x:Mat)(y:List Rat)(n c B:Nat)(hX:HX X w)(hu:MV (mk X w) u x)(hv:RV (mk X w) v y)(hnx:x.length=n)(hcx:colsL x=c)(hl:n<=1000000)(hbd:a2Y x y=true->n<=8/\c<=4)(hxB:BM B x)(hyB:BR B y)(hB1:1<=B)(hB:B<=510/\n*(2*B+1)<=6540):Calls Tryz.prog 14 #[u,v] w (b0b X w (a4v (a1C x y) (a4m x y n c) n c) (a7i (a4m x y n c) n c)):=by
 have hfu:=b3Z X w u v x y n c B hX hu hv hnx hcx hl hbd hxB hyB hB1 hB;have bNw:=hid fun(w':World)=>Bx.new w' #[.int .i64 0,.slice none 0 0,.slice none 0 0,.slice none 0 0,.bool false,.slice none 0 0,.slice none 0 0,.slice none 0 0] 67;have bRw:=hid fun(w':World)=>Bx.new w' #[.bool false,.slice none 0 0,.slice none 0 0] 47;by_cases h0:a1C x y=0
 rotate_left 1
 ·have he:a4v (a1C x y) (a4m x y n c) n c=a1C x y:=by unfold a4v;rw[if_pos h0]
  rw[he];obtain⟨er,her⟩:=c1F (a1C x y);obtain⟨F,hF⟩:=c1F (a4m x y n c);rw[hF]at hfu |-;rw[her]at h0 hfu |-;have d0:(er !=(0:Int))=true:=a7c h0;have h0':=hid h0;clear h0 her he hu hv hbd hF;go_enter Tryz.func14,Tryz.ntmps14
  go_wp2_with (first
   |(go_at_call 30;refine hfu.mono ?_;rintro ee w2 ⟨t2,fv,rfl,hfs,_⟩;obtain⟨r,uo,ul,uc',co',cl',cc,ro,rl,rc,s3,a3,n3,c3,d3,k3,e3,fo,ll,lc,rfl⟩:=hfs;have bN:=bNw.out w2)
   |((with_reducible refine c1J (t:=67) ?_);refine a0a a1n rfl rfl bN rfl rfl a1Q ?_;intro w7 x1 y1;have hE7:=c1M y1;clear bN))
  go_ret2
  exact⟨t2.trans hE7,_,rfl,fun _=>rfl,fun h=>absurd h h0'.out⟩
 have hok:a2Y x y=true:=by
  cases h:a2Y x y
  ·unfold a1C at h0;rw[h,if_pos rfl]at h0;exact absurd h0 (by decide)
  ·rfl
 obtain⟨hn8,hc4⟩:=hbd hok;obtain⟨g1,g2,g3,g4,g5⟩:=a1k.1 hok;have hn1:1<=n:=by omega
 have hc1:1<=c:=by have:=(a0w g1).2.2.2.1 (by omega);omega
 have hsh:Shp n c x:=by
  have:=(a0w g1).1;rw[hnx,hcx]at this;exact this
 have hfb:=b3T hsh (by omega) hn8 hc4 hxB hyB hB1 hB;have hrow:=hid (show∃ao ca a0 c0,u=.slice ao n ca/\Hd ao n/\∀w',Ext w w'->w'.cell? (adr ao 0)=some (.slice a0 c c0)from by
  obtain⟨ao,ca,e,hca,hsa⟩:=hu;obtain⟨a0,c0,_,hc0,_,_⟩:=hsa.row 0 (by omega);rw[<-a1i (by omega),hcx]at hc0;have hd:=hsa.hd;rw[hnx]at hd;exact⟨ao,ca,a0,c0,by rw[e,hnx],hd,fun w' h=>hc0.out noY w' h rfl⟩)
 rw[h0]at hfu |-;obtain⟨F,hF⟩:=c1F (a4m x y n c);rw[hF]at hfu hfb |-;have hce:Hid (a4v 0 F n c=if n<=c\/F.rss=0 then 7 else if∃i,i<n/\1 - fn F.lev i=0 then 7 else 0):=hid (by unfold a4v;rw[if_neg (by decide)]);have hLl:=hid (a6T F n c);have hLg:=hid fun i h=>a9c F n c i h;have hqs:=hid fun i (h:i<n)=>a6U hfb h hn8 (c:=c) (by omega);have hqs0:=hid (a6U (i:=0) hfb (by omega) hn8 (c:=c) (by omega));have hfb':=hid hfb;obtain⟨er,her⟩:=c1F (a4v 0 F n c);rw[her]at hce |-;obtain⟨L,hL⟩:=c1F (a7i F n c);rw[hL]at hLl hLg |-;obtain⟨ao,ca,a0,c0,hue,hhd,hk0⟩:=hrow.out;subst hue;have hk0':=hid hk0;clear h0 hok hbd g1 g2 g3 g4 g5 hsh hrow hF her hL hu hv hxB hyB hnx hcx hfb hk0;go_enter Tryz.func14,Tryz.ntmps14
 go_upto_region 4 with(first
  |(go_at_call 30;refine hfu.mono ?_;rintro ee w2 ⟨t2,fv,rfl,_,hfv⟩;have hfv':=hfv rfl;obtain⟨uo,uc',co',cl',cc,ro,rl,rc,s3,a3,n3,c3,d3,k3,e3,fo,ll,lc,rfl,_,_,_,hRr,hQs,hLv⟩:=hfv';have bN:=bNw.out w2)
  |((with_reducible refine c1J (t:=67) ?_);refine a0a a1n rfl rfl bN rfl rfl a1Q ?_;intro wd x7 y1))
 have hE7:=c1M y1;obtain⟨gf,hgf⟩:=c1F w2.heap.size;rw[hgf]at x7
 (try rw[hgf])
 have hRr7:=mkx RC.mono hRr hE7;have hQs7:=mkx QC.mono hQs hE7;have hLv7:=mkx RC.mono hLv hE7;have t7:=t2.trans hE7;have k00:=hk0'.out _ t7;clear hRr hQs hLv y1 bN hfv hfu bNw hgf hE7;have hXd:HX X wd:=hX.ext t7;have hrl:=hfb'.out.rl;have hll:=hfb'.out.ll;obtain⟨rr,hrr⟩:∃rr,rr=rl:=⟨_,rfl⟩;have er1:rl=n:=by obtain⟨_,_,he,_⟩:=hRr7;simp only[Value.slice.injEq]at he;rw[he.2.1];exact hrl
 have el1:ll=n:=by obtain⟨_,_,he,_⟩:=hLv7;simp only[Value.slice.injEq]at he;rw[he.2.1];exact hll
 subst er1;subst el1;clear hrr rr;have j4:=x7.cell 4 rfl;have j5:wd.cell? ⟨gf,4+1,none⟩=some (.slice a3 n3 c3):=x7.cell 5 rfl;have j6:wd.cell? ⟨gf,4+2,none⟩=some (.slice d3 k3 e3):=x7.cell 6 rfl;have hrssq:hq F.rss<=68719476736:=c1A hfb'.out.sb (by decide);have hsig:=hid fun w' (h:Ext wd w')=>a6B X w' _ F.rss (hXd.ext h) ((mkx QC.mono hQs7 h).qv hrssq);have hce1:=hce.out;clear hce;by_cases hnc:ll<=c
 ·rw[if_pos (.inl hnc)]at hce1
  subst hce1;have d1:decide ((ll:Int)<=(c:Int))=true:=decide_eq_true (by omega);go_wp2_with (with_reducible refine a0v a0o ?_)
  go_ret2
  exact⟨t7,_,rfl,fun _=>rfl,fun h=>absurd h (by decide)⟩
 have d1:decide ((ll:Int)<=(c:Int))=false:=decide_eq_false (by omega);by_cases hr0:F.rss=0
 ·rw[if_pos (.inr hr0)]at hce1
  subst hce1;have hsg:(F.rss.num.sign==(0:Int))=true:=by rw[hr0];rfl
  have hs1:=hsig.out wd (ExtX.refl _);obtain⟨sg,hsg'⟩:∃sg,F.rss.num.sign=sg:=⟨_,rfl⟩;rw[hsg']at hs1 hsg;clear hsg' hr0 hsig;go_wp2_with (with_reducible refine a0v a0o ?_)
  refine hs1.mono ?_;rintro e w8 ⟨hE8,rfl⟩;clear j4 j5 j6 hs1 k00;go_wp2_with fail
  go_ret2
  exact⟨t7.trans hE8,_,rfl,fun _=>rfl,fun h=>absurd h (by decide)⟩
 rw[if_neg (fun h=>h.elim hnc hr0)]at hce1;have hce2:=hid hce1;have hsg:(F.rss.num.sign==(0:Int))=false:=a2C (fun h=>hr0 (by rw[Int.sign_eq_zero_iff_zero]at h;exact Rat.num_eq_zero.1 h));have hs1:=hsig.out wd (ExtX.refl _);obtain⟨sg,hsg'⟩:∃sg,F.rss.num.sign=sg:=⟨_,rfl⟩;rw[hsg']at hs1 hsg;clear hsg' hr0 hsig hce1;go_wp2_with (with_reducible refine a0v a0o ?_)
 refine hs1.mono ?_;rintro e w8 ⟨hE8,rfl⟩;clear j4 j5 j6 hs1 k00;go_upto_region 7 with fail
 have hEd10:=c1L w8;have hE7d:=hE8.trans hEd10;have xf:=x7.ext0 hE7d;have hRr:=mkx RC.mono hRr7 hE7d;have hQs:=hid (mkx QC.mono hQs7 hE7d);have hLv:=mkx RC.mono hLv7 hE7d;have tD:=t7.trans hE7d;have hXD:=hX.ext tD;obtain⟨q1,q2,_⟩:=hqs0.out;have hk1:=hid (c1A (a7A (k:=c) (by omega)) (show 2<=68719476736 by decide));have hk2:=hid (c1A (a7A (k:=ll - c) (by omega)) (show 2<=68719476736 by decide));have ew:IntKind.i64.wrap ((ll:Int) - (c:Int))=((ll - c:Nat):Int):=by rw[IntWalk.i64_in _ (by omega)];omega
 have hsc:Hid (a6S F ll c=((c:Int):Rat)*(F.rss/(((ll - c:Nat):Int):Rat))):=hid rfl;obtain⟨SS,hSS⟩:=c1F (F.rss/(((ll - c:Nat):Int):Rat));have hSS':=hid hSS;rw[hSS]at hsc q1;have hq1:=hid q1;have hSd:w8.drew.cell? ⟨gf,4,none⟩=some (.bool s3)/\w8.drew.cell? ⟨gf,4+1,none⟩=some (.slice a3 n3 c3)/\w8.drew.cell? ⟨gf,4+2,none⟩=some (.slice d3 k3 e3):=⟨xf.cell 4 rfl,xf.cell 5 rfl,xf.cell 6 rfl⟩;clear hE8 hEd10 hE7d x7 hRr7 hQs7 hLv7 hqs0 hXd hSS q1 q2
 (try simp only[Act.put])
 refine a0n 9 (fun w'=>w'.cell? ⟨gf,4,none⟩=some (.bool s3)/\w'.cell? ⟨gf,4+1,none⟩=some (.slice a3 n3 c3)/\w'.cell? ⟨gf,4+2,none⟩=some (.slice d3 k3 e3)) (by kernel_rfl) (by kernel_rfl) hSd (fun hHeld hOnce=>?_);refine kt 0 hOnce ?_;refine kt 1 hOnce ?_;refine kt 2 hOnce ?_;refine kt 3 hOnce ?_;refine kt 4 hOnce ?_;refine kt 5 hOnce ?_;refine a1z [6,7] [⟨8,9,47,#[.bool false,.slice none 0 0,.slice none 0 0]⟩] X 1 hXD hHeld (fun _ _ h hE=>⟨hE.cell h.1,hE.cell h.2.1,hE.cell h.2.2⟩) ?_;refine a0E (fun M1 w1 ps1 hX1 hZ1 hE1 hF1 hS1 K hK=>?_);simp only[a1y,Act.put,c1G,c1H,c1I];go_simp
 (with_reducible refine(rof M1 w1 ((ll - c:Nat):Int) hX1 (by omega) (by omega)).mono ?_);rintro ee w' ⟨hE',u1,rfl,hu1⟩
 refine hK.out _ _ _ _ _ QC.mono hE' hu1 (by simp only[a1y,Act.put,c1G,c1H,c1I]) ?_;clear hK K hX1 hZ1 hE1 hF1 hS1;refine a0E (fun M2 w2 ps2 hX2 hZ2 hE2 hF2 hS2 K hK=>?_);simp only[a1y,Act.put,c1G,c1H,c1I];go_simp
 (with_reducible refine(b0X M2 w2 _ u1 F.rss _ hX2 ((upx QC.mono hF2.1 hQs.out).qv hrssq) (hF2.2.qv hk2.out)).mono ?_);rintro ee w' ⟨hE',u2,rfl,hu2⟩;obtain⟨s4,a4,n4,c4,d4,k4,e4,rfl⟩:=hu2.shape
 refine hK.out _ _ _ _ _ QC.mono hE' hu2 (by simp only[a1y,Act.put,c1G,c1H,c1I]) ?_;clear hK K hX2 hZ2 hE2 hF2 hS2;refine a2W (fun M w5 gs hX5 hZ5 hE5 hF5 hS5 hb5 hn5=>?_);simp only[a1y,ptr,Act.put,c1G,c1H,c1I];obtain⟨g2,hg2⟩:=c1F (gs 0);obtain⟨x5,m5,l5⟩:=hb5 0 _ rfl;rw[hg2]at x5 m5 l5;simp only[hg2];refine kl 9 (fun K hK=>?_)
 (refine a0r rfl rfl a0p rfl rfl x5 rfl rfl a1s ?_;intro w11 hsx y5)
 refine hK.out _ _ ?_;clear hK K
 (try simp only[Act.put])
 have hl6:=a0s (X:=M) y5 (fun k hk=>by
  have:g2=k:=by simpa[ob]using hk
  rw[<-this];exact m5)
 have hsub11:Le (mk M w11) (mk X w11):=a1a fun k _ h=>hZ5 k h;have hscq:=QC.mono _ _ _ _ (hl6.trans hsub11) hF5.2;rw[hSS'.out]at hscq;have hE11d:Ext w8.drew w11:=ExtX.box hE5 y5 l5;have xf2:=xf.ext0 hE11d;have hRr2:=mkx RC.mono hRr hE11d;have hLv2:=mkx RC.mono hLv hE11d;have t11:=tD.trans hE11d;have hX11:=hX.ext t11;clear hF5 hS5 hb5 hn5 hX5 hZ5 hE5 l5 m5 x5 y5 hl6 hHeld hOnce hSd hsub11 hg2 xf hRr hLv hQs hE11d tD hXD;have j3:=xf2.cell 3 rfl;go_wp2_with fail
 clear j3;go_loopw [10,50] (fun o cx wr=>∃(i:Nat) (oo:Option Addr) (oc:Nat),cx=.int .i64 i/\o=.slice oo i oc/\i<=ll/\Hid (∀j,j<i->1 - fn F.lev j≠0)/\OL QC 3 X w11.heap.size 47 wr oo oc (L.take i)/\Ext w11 wr) (fun _ cx _=>ll - (intOf cx).toNat)
 case atStart=>exact⟨0,none,0,rfl,rfl,Nat.zero_le _,hid fun j hj=>absurd hj (Nat.not_lt_zero _),OL.nil _ _ _ _ _ _,ExtX.refl _⟩
 case round=>
  obtain⟨i,oo,oc,rfl,rfl,hi,hall,hO,hE⟩:=hrel;have hXr:=hX11.ext hE;by_cases hlt:i<ll
  ·have hUr:HX (un X oo) wr:=hO.unX hXr
   have hob:∀j,j<w11.heap.size->ob oo j=false:=fun j hj=>hO.ob_lt hj;have hobn:∀k,wr.heap.size<=k->ob oo k=false:=fun k hk=>by
    cases h:ob oo k
    ·rfl
    ·have:=(hO.block h).2;omega
   obtain⟨q1',q2',q3',q4',q5',q6',q7',q8',q9'⟩:=hqs.out i hlt;have hLu:RC (mk (un X oo) wr) (.slice fo ll lc) F.lev:=a2j RC.mono hLv2 hE hob;have hRu:RC (mk (un X oo) wr) (.slice ro ll rc) F.res:=a2j RC.mono hRr2 hE hob;have hsu:=a2j QC.mono hscq hE hob;have hsl:Sl QC 3 (mk (un X oo) wr) fo F.lev:=by
    obtain⟨_,_,he,_,h⟩:=hLu;simp only[Value.slice.injEq]at he;obtain⟨rfl,_,rfl⟩:=he;exact h
   have hsr:Sl QC 3 (mk (un X oo) wr) ro F.res:=by
    obtain⟨_,_,he,_,h⟩:=hRu;simp only[Value.slice.injEq]at he;obtain⟨rfl,_,rfl⟩:=he;exact h
   have hil:i<F.lev.length:=by rw[hll];exact hlt
   have hir:i<F.res.length:=by rw[hfb'.out.rl];exact hlt
   have hdl:Hd fo ll:=by have:=hsl.hd;rwa[hll]at this
   have hdr:Hd ro ll:=by have:=hsr.hd;rwa[hfb'.out.rl]at this
   have eh:=hid (b1f hil);have ere:=hid (b1f hir);have hcg:=hid (hLg.out i (by rw[hLl.out];exact hlt));have hcv:Hid (b1Z F ll c i=(fn F.res i*fn F.res i*fn F.lev i)/(a6S F ll c*((1 - fn F.lev i)*(1 - fn F.lev i)))):=hid rfl;have hln:=hid (a0O (l:=L) (i:=i) (by rw[hLl.out];omega));have htk:=hid (a0I L i (by rw[hLl.out];exact hlt));have hLi:Hid (L[i]'(by rw[hLl.out];exact hlt)=b1Z F ll c i):=hid (hcg.out);obtain⟨Li,hLie⟩:∃D,L[i]'(by rw[hLl.out];exact hlt)=D:=⟨_,rfl⟩;rw[hLie]at htk hLi;obtain⟨hv,hhv⟩:=c1F (fn F.lev i);obtain⟨rv,hrv⟩:=c1F (fn F.res i);obtain⟨sc,hsce⟩:=c1F (a6S F ll c);have hsc':=hid hsc.out;rw[hhv,hrv,hsce]at hcv;rw[<-hLi.out]at hcv;rw[hhv]at eh q4' q5' q6' q7' q9';rw[hrv]at ere q3' q8' q9';rw[hsce]at q2' q7' hsc';have hhv':=hid hhv;have hee:=hid eh.out.symm;have her2:=hid ere.out.symm;have bx:=bRw.out wr;clear hhv hrv hsce hLie hcg eh ere hLi hLu hRu hqs;go_upto_region 13 with(first
    |(with_reducible refine a1w a0x ?_)
    |((with_reducible refine c1K (t:=47) ?_);refine a0z a0p i hsr hir rfl (by simp) QC.agg ?_;intro u16 hu16;rw[her2.out]at hu16;obtain⟨s16,a16,n16,c16,d16,k16,e16,rfl⟩:=hu16.shape)
    |((with_reducible refine c1K (t:=47) ?_);refine a0z a0p i hsl16 hil rfl (by simp) QC.agg ?_;intro u12 hu12;rw[hee.out]at hu12;obtain⟨s12,a12,n12,c12,d12,k12,e12,rfl⟩:=hu12.shape)
    |((with_reducible refine c1J (t:=47) ?_);refine a0a a0p rfl rfl bx rfl rfl a1s ?_;intro w16 r16 y16;have hE16:=c1M y16;have hsl16:=hsl.mono QC.mono (a0k hE16);have y7:w16.cell? ⟨gf,7,none⟩=some (.slice fo ll lc):=((xf2.ext0 hE).ext0 hE16).cell 7 rfl;have bx2:=bRw.out w16;clear bx y16)
    |((with_reducible refine c1J (t:=47) ?_);refine a0a a0p rfl rfl bx2 rfl rfl a1s ?_;intro w12 r12 y12))
   have hE12:=c1M y12;obtain⟨g12,hg12⟩:=c1F wr.heap.size;obtain⟨g13,hg13⟩:=c1F w16.heap.size;have hlt23:g12<g13:=by have:=r16.lt;omega
   rw[hg12]at r16 hobn;rw[hg13]at r12
   (try rw[hg12])
   (try rw[hg13])
   have hEd12:=c1L w12;have hE12d:=hE12.trans hEd12;have hEr0:=hE16.trans hE12d;have r16a:=r16.ext0 hE12d;have r12a:=r12.ext0 hEd12;have hr12:=mkx QC.mono hu16 hEr0;have hh12:=mkx QC.mono hu12 hE12d;have qh12:=hid (hh12.qv (c1A q4' (by decide)));have hU12:=hUr.ext hEr0;obtain⟨re,hre⟩:=c1F (1 - hv);have hre':=hid hre;rw[hre]at q5' q6' q7' hcv;have hSd:w12.drew.cell? ⟨g13,0,none⟩=some (.bool s12)/\w12.drew.cell? ⟨g13,1,none⟩=some (.slice a12 n12 c12)/\w12.drew.cell? ⟨g13,2,none⟩=some (.slice d12 k12 e12):=⟨r12a.cell 0 rfl,r12a.cell 1 rfl,r12a.cell 2 rfl⟩;clear hu12 hu16 bx2 y12 hre hg12 hg13 r16 r12 y7 hsl16 hsl hsr
   (try simp only[Act.put])
   refine a0n 4 (fun w'=>w'.cell? ⟨g13,0,none⟩=some (.bool s12)/\w'.cell? ⟨g13,1,none⟩=some (.slice a12 n12 c12)/\w'.cell? ⟨g13,2,none⟩=some (.slice d12 k12 e12)) (by kernel_rfl) (by kernel_rfl) hSd (fun hHeld hOnce=>?_);refine kt 1 hOnce ?_;refine a1z [0,2] [⟨3,14,47,#[.bool false,.slice none 0 0,.slice none 0 0]⟩] (un X oo) 1 hU12 hHeld (fun _ _ h hE=>⟨hE.cell h.1,hE.cell h.2.1,hE.cell h.2.2⟩) ?_;refine a0E (fun M1 w1 ps1 hX1 hZ1 hE1 hF1 hS1 K hK=>?_);simp only[a1y,Act.put,c1G,c1H,c1I];go_simp
   (with_reducible refine(rof M1 w1 1 hX1 (by decide) (by decide)).mono ?_);rintro ee w' ⟨hE',u1,rfl,hu1⟩
   refine hK.out _ _ _ _ _ QC.mono hE' hu1 (by simp only[a1y,Act.put,c1G,c1H,c1I]) ?_;clear hK K hX1 hZ1 hE1 hF1 hS1;refine a0E (fun M2 w2 ps2 hX2 hZ2 hE2 hF2 hS2 K hK=>?_);simp only[a1y,Act.put,c1G,c1H,c1I];go_simp
   (with_reducible refine(b9l M2 w2 u1 _ _ hv hX2 (hF2.2.qv (by decide+kernel)) (upx QV.mono hF2.1 qh12.out)).mono ?_);rintro ee w' ⟨hE',u2,rfl,hu2⟩;obtain⟨s13,a13,n13,c13,d13,k13,e13,rfl⟩:=hu2.shape
   refine hK.out _ _ _ _ _ QC.mono hE' hu2 (by simp only[a1y,Act.put,c1G,c1H,c1I]) ?_;clear hK K hX2 hZ2 hE2 hF2 hS2;refine a2W (fun M w5 gs hX5 hZ5 hE5 hF5 hS5 hb5 hn5=>?_);simp only[a1y,ptr,Act.put,c1G,c1H,c1I];obtain⟨g14,hg14⟩:=c1F (gs 0);obtain⟨x5,m5,l5⟩:=hb5 0 _ rfl;rw[hg14]at x5 m5 l5;simp only[hg14];refine kl 4 (fun K hK=>?_)
   (refine a0r rfl rfl a0p rfl rfl x5 rfl rfl a1s ?_;intro w14 r14 y14)
   refine hK.out _ _ ?_;clear hK K
   (try simp only[Act.put])
   have hl14:=a0s (X:=M) y14 (fun k hk=>by
    have:g14=k:=by simpa[ob]using hk
    rw[<-this];exact m5)
   have hsub14:Le (mk M w14) (mk (un X oo) w14):=a1a fun k _ h=>hZ5 k h;have hq14:=QC.mono _ _ _ _ (hl14.trans hsub14) hF5.2;rw[show((((1:Int)):Rat))=1 from rfl,hre'.out]at hq14;have hE14:Ext w12.drew w14:=ExtX.box hE5 y14 l5;have hE214:=hEr0.trans hE14;have r16b:=r16a.ext0 hE14;have r12b:=r12a.ext0 hE14;have hr14:=mkx QC.mono hr12 hE14;have hh14:=mkx QC.mono hh12 hE14;have g1314:g13<g14:=by have:=r12a.lt;omega
   have hob14:=hobn g14 (by omega);have z0:=r14.cell 0 rfl;have z1:=r14.cell 1 rfl;have z2:=r14.cell 2 rfl;have hsg:=a6B (un X oo) w14 _ re (hUr.ext hE214) (hq14.qv (c1A q5' (by decide)));have hsz:Hid (re.num.sign=0↔re=0):=hid (by rw[Int.sign_eq_zero_iff_zero];exact Rat.num_eq_zero);obtain⟨sg,hsg'⟩:∃sg,re.num.sign=sg:=⟨_,rfl⟩;rw[hsg']at hsg hsz;clear hF5 hS5 hb5 hn5 hX5 hZ5 hE5 l5 m5 x5 y14 hl14 hHeld hOnce hSd hsub14 hg14 r16a r12a hr12 hh12 qh12 hU12 hsg' hE12 hE16 hEd12 hE12d hEr0 hE14;go_wp2_with fail
   refine hsg.mono ?_;rintro e w15 ⟨hE15,rfl⟩;clear z0 z1 z2 hsg;have hE215:=hE214.trans hE15;by_cases hz:re=0
   ·have d2:(sg==(0:Int))=true:=a6u (hsz.out.2 hz)
    have e7:=hce2.out;rw[if_pos ⟨i,hlt,by rw[hhv'.out,hre'.out];exact hz⟩]at e7;subst e7;clear hsz hz;go_wp2_with fail
    go_ret2
    exact⟨t11.trans (hE.trans hE215),_,rfl,fun _=>rfl,fun h=>absurd h (by decide)⟩
   have d2:(sg==(0:Int))=false:=a2C (fun h=>hz (hsz.out.1 h));have hall2:Hid (∀j,j<i+1->1 - fn F.lev j≠0):=hid fun j hj=>by
    by_cases e:j=i
    ·subst e;rw[hhv'.out,hre'.out];exact hz
    ·exact hall.out j (by omega)
   clear hsz hz hall hhv' hre';go_upto_region 16 with fail
   have hEd15:=c1L w15;have hE15d:=hE15.trans hEd15;have hEr:=hE214.trans hE15d;have b16:=r16b.ext0 hE15d;have b12:=r12b.ext0 hE15d;have b14:=r14.ext0 hE15d;have hUd:=hUr.ext hEr;have qr:=hid ((mkx QC.mono hr14 hE15d).qv (c1A q3' (by decide)));have qh:=hid ((mkx QC.mono hh14 hE15d).qv (c1A q4' (by decide)));have qre:=hid ((mkx QC.mono hq14 hE15d).qv (c1A q5' (by decide)));have hwS:w15.drew.cell? ⟨g12,0,none⟩=some (.bool s16)/\w15.drew.cell? ⟨g12,1,none⟩=some (.slice a16 n16 c16)/\w15.drew.cell? ⟨g12,2,none⟩=some (.slice d16 k16 e16)/\w15.drew.cell? ⟨g13,0,none⟩=some (.bool s12)/\w15.drew.cell? ⟨g13,1,none⟩=some (.slice a12 n12 c12)/\w15.drew.cell? ⟨g13,2,none⟩=some (.slice d12 k12 e12):=⟨b16.cell 0 rfl,b16.cell 1 rfl,b16.cell 2 rfl,b12.cell 0 rfl,b12.cell 1 rfl,b12.cell 2 rfl⟩;clear hr14 hh14 hq14 r16b r12b r14 hE15 hE15d hEd15
   (try simp only[Act.put])
   refine a0n 6 (fun w'=>w'.cell? ⟨g12,0,none⟩=some (.bool s16)/\w'.cell? ⟨g12,1,none⟩=some (.slice a16 n16 c16)/\w'.cell? ⟨g12,2,none⟩=some (.slice d16 k16 e16)/\w'.cell? ⟨g13,0,none⟩=some (.bool s12)/\w'.cell? ⟨g13,1,none⟩=some (.slice a12 n12 c12)/\w'.cell? ⟨g13,2,none⟩=some (.slice d12 k12 e12)) (by kernel_rfl) (by kernel_rfl) hwS (fun hHeld hOnce=>?_);refine kt 0 hOnce ?_;refine kt 1 hOnce ?_;refine kt 3 hOnce ?_;refine a1z [2,4] [⟨5,15,47,#[.bool false,.slice none 0 0,.slice none 0 0]⟩] (un X oo) 1 hUd hHeld (fun _ _ h hE=>⟨hE.cell h.1,hE.cell h.2.1,hE.cell h.2.2.1,hE.cell h.2.2.2.1,hE.cell h.2.2.2.2.1,hE.cell h.2.2.2.2.2⟩) ?_;refine a0E (fun M1 w1 ps1 hX1 hZ1 hE1 hF1 hS1 K hK=>?_);simp only[a1y,Act.put,c1G,c1H,c1I];go_simp
   (with_reducible refine(a7Z M1 w1 _ _ rv rv hX1 (upx QV.mono hF1 qr.out) (upx QV.mono hF1 qr.out)).mono ?_);rintro ee w' ⟨hE',u1,rfl,hu1⟩
   refine hK.out _ _ _ _ _ QC.mono hE' hu1 (by simp only[a1y,Act.put,c1G,c1H,c1I]) ?_;clear hK K hX1 hZ1 hE1 hF1 hS1;refine a0E (fun M2 w2 ps2 hX2 hZ2 hE2 hF2 hS2 K hK=>?_);simp only[a1y,Act.put,c1G,c1H,c1I];go_simp
   (with_reducible refine(a7Z M2 w2 u1 _ _ hv hX2 (hF2.2.qv (c1A q8' (by decide))) (upx QV.mono hF2.1 qh.out)).mono ?_);rintro ee w' ⟨hE',u2,rfl,hu2⟩;obtain⟨s17,a17,n17,c17,d17,k17,e17,rfl⟩:=hu2.shape
   refine hK.out _ _ _ _ _ QC.mono hE' hu2 (by simp only[a1y,Act.put,c1G,c1H,c1I]) ?_;clear hK K hX2 hZ2 hE2 hF2 hS2;refine a2W (fun M w5 gs hX5 hZ5 hE5 hF5 hS5 hb5 hn5=>?_);simp only[a1y,ptr,Act.put,c1G,c1H,c1I];obtain⟨g17,hg17⟩:=c1F (gs 0);obtain⟨x5,m5,l5⟩:=hb5 0 _ rfl;rw[hg17]at x5 m5 l5;simp only[hg17];refine kl 6 (fun K hK=>?_)
   (refine a0r rfl rfl a0p rfl rfl x5 rfl rfl a1s ?_;intro w17 z17 y17)
   refine hK.out _ _ ?_;clear hK K
   (try simp only[Act.put])
   have hl17:=a0s (X:=M) y17 (fun k hk=>by
    have:g17=k:=by simpa[ob]using hk
    rw[<-this];exact m5)
   have hsub17:Le (mk M w17) (mk (un X oo) w17):=a1a fun k _ h=>hZ5 k h;have hup:=QC.mono _ _ _ _ (hl17.trans hsub17) hF5.2;have hE17:Ext w15.drew w17:=ExtX.box hE5 y17 l5;have hEr17:=hEr.trans hE17;have g1417:g14<g17:=by have:=b14.lt;omega
   have b14:=b14.ext0 hE17;have qre17:=hid (mkx QV.mono qre.out hE17);have hO17:=hO.ext0 QC.elem hEr17;have scd:=((hsx.ext0 hE).ext0 hEr).ext0 hE17;clear hF5 hS5 hb5 hn5 hX5 hZ5 hE5 m5 x5 y17 hl17 hsub17 hHeld hOnce hwS hg17 qre qh qr b16 b12 hUd hO l5;go_upto_region 17 with fail
   have hEd17:=c1L w17;have hErd:=hEr17.trans hEd17;have hUd:=hUr.ext hErd;have b14d:=b14.ext0 hEd17;have b17d:=z17.ext0 hEd17;have scdd:=scd.ext0 hEd17;have qupd:=hid ((mkx QC.mono hup hEd17).qv (c1A q9' (by decide)));have qred:=hid (mkx QV.mono qre17.out hEd17);have qSd:=hid ((mkx QC.mono hsu hErd).qv (c1A hq1.out (by decide)));have ob2:ob oo g2=false:=hob g2 (by have:=hsx.lt;omega);have hwS:w17.drew.cell? ⟨g17,0,none⟩=some (.bool s17)/\w17.drew.cell? ⟨g17,1,none⟩=some (.slice a17 n17 c17)/\w17.drew.cell? ⟨g17,2,none⟩=some (.slice d17 k17 e17)/\w17.drew.cell? ⟨g2,0,none⟩=some (.bool s4)/\w17.drew.cell? ⟨g2,1,none⟩=some (.slice a4 n4 c4)/\w17.drew.cell? ⟨g2,2,none⟩=some (.slice d4 k4 e4)/\w17.drew.cell? ⟨g14,0,none⟩=some (.bool s13)/\w17.drew.cell? ⟨g14,1,none⟩=some (.slice a13 n13 c13)/\w17.drew.cell? ⟨g14,2,none⟩=some (.slice d13 k13 e13):=⟨b17d.cell 0 rfl,b17d.cell 1 rfl,b17d.cell 2 rfl,scdd.cell 0 rfl,scdd.cell 1 rfl,scdd.cell 2 rfl,b14d.cell 0 rfl,b14d.cell 1 rfl,b14d.cell 2 rfl⟩;have hS18:=hid fun w' (h:Ext w17.drew w')=>(⟨(b17d.ext0 h).cell 0 rfl,(b17d.ext0 h).cell 1 rfl,(b17d.ext0 h).cell 2 rfl,(scdd.ext0 h).cell 0 rfl,(scdd.ext0 h).cell 1 rfl,(scdd.ext0 h).cell 2 rfl,(b14d.ext0 h).cell 0 rfl,(b14d.ext0 h).cell 1 rfl,(b14d.ext0 h).cell 2 rfl⟩:w'.cell? ⟨g17,0,none⟩=some (.bool s17)/\w'.cell? ⟨g17,1,none⟩=some (.slice a17 n17 c17)/\w'.cell? ⟨g17,2,none⟩=some (.slice d17 k17 e17)/\w'.cell? ⟨g2,0,none⟩=some (.bool s4)/\w'.cell? ⟨g2,1,none⟩=some (.slice a4 n4 c4)/\w'.cell? ⟨g2,2,none⟩=some (.slice d4 k4 e4)/\w'.cell? ⟨g14,0,none⟩=some (.bool s13)/\w'.cell? ⟨g14,1,none⟩=some (.slice a13 n13 c13)/\w'.cell? ⟨g14,2,none⟩=some (.slice d13 k13 e13))
   (try simp only[Act.put])
   refine a0n 13 (fun w'=>w'.cell? ⟨g17,0,none⟩=some (.bool s17)/\w'.cell? ⟨g17,1,none⟩=some (.slice a17 n17 c17)/\w'.cell? ⟨g17,2,none⟩=some (.slice d17 k17 e17)/\w'.cell? ⟨g2,0,none⟩=some (.bool s4)/\w'.cell? ⟨g2,1,none⟩=some (.slice a4 n4 c4)/\w'.cell? ⟨g2,2,none⟩=some (.slice d4 k4 e4)/\w'.cell? ⟨g14,0,none⟩=some (.bool s13)/\w'.cell? ⟨g14,1,none⟩=some (.slice a13 n13 c13)/\w'.cell? ⟨g14,2,none⟩=some (.slice d13 k13 e13)) (by kernel_rfl) (by kernel_rfl) hwS (fun hHeld hOnce=>?_);refine kt 0 hOnce ?_;refine kt 1 hOnce ?_;refine kt 2 hOnce ?_;refine kt 4 hOnce ?_;refine kt 6 hOnce ?_;refine kt 7 hOnce ?_;refine ks 3 (fun K hK=>?_);go_simp
   ((with_reducible refine(rof (un X oo) w17.drew (c:Int) hUd (by omega) (by omega)).mono ?_);rintro ee wa ⟨ga,ua,rfl,hua⟩)
   refine kcn hK (hS18.out _ ga) (fun hHeld=>?_);clear hK K;refine ks 5 (fun K hK=>?_);go_simp
   ((with_reducible refine(a7Z (un X oo) wa ua _ _ SS (hUd.ext ga) (hua.qv hk1.out) (mkx QV.mono qSd.out ga)).mono ?_);rintro ee wb ⟨gb,ub,rfl,hub⟩)
   refine kcn hK (hS18.out _ (ga.trans gb)) (fun hHeld=>?_);clear hK K;have gab:=ga.trans gb;rw[<-hsc'.out]at hub;refine ks 8 (fun K hK=>?_);go_simp
   ((with_reducible refine(a7Z (un X oo) wb _ _ re re (hUd.ext gab) (mkx QV.mono qred.out gab) (mkx QV.mono qred.out gab)).mono ?_);rintro ee wc ⟨gc,uc,rfl,huc⟩)
   refine kcn hK (hS18.out _ (gab.trans gc)) (fun hHeld=>?_);clear hK K;have gac:=gab.trans gc;refine ks 9 (fun K hK=>?_);go_simp
   ((with_reducible refine(a7Z (un X oo) wc ub uc sc _ (hUd.ext gac) ((mkx QC.mono hub gc).qv (c1A q2' (by decide))) (huc.qv (c1A q6' (by decide)))).mono ?_);rintro ee we ⟨ge,ue,rfl,hue⟩)
   refine kcn hK (hS18.out _ (gac.trans ge)) (fun hHeld=>?_);clear hK K;have gae:=gac.trans ge;refine ks 10 (fun K hK=>?_);go_simp
   ((with_reducible refine(b0X (un X oo) we _ ue _ _ (hUd.ext gae) (mkx QV.mono qupd.out gae) (hue.qv (c1A q7' (by decide)))).mono ?_);rintro ee wf ⟨gg,uf,rfl,huf⟩;obtain⟨s18,a18,n18,c18,d18,k18,e18,rfl⟩:=huf.shape)
   refine kcn hK (hS18.out _ (gae.trans gg)) (fun hHeld=>?_);clear hK K;have gaf:=gae.trans gg;rw[<-hcv.out]at huf;have hOc:=(hO17.ext0 QC.elem hEd17).ext0 QC.elem gaf;have hXc:=hXr.ext (hErd.trans gaf);have hbc:=(hE.trans (hErd.trans gaf)).size;have hEal:Ext wf (wf.alloc (.cells #[.bool s18,.slice a18 n18 c18,.slice d18 k18 e18] 47)):=(ExtX.refl _).alloc _;refine ks 11 (fun K hK=>?_);go_simp
   skip
   refine kcn hK (hS18.out _ (gaf.trans hEal)) (fun hHeld=>?_);clear hK K;obtain⟨j1,j2,j3,j4,j5,j6,j7,j8,j9⟩:=hS18.out _ gaf;have ob17:=hobn g17 (by omega);refine ks 12 (fun K hK=>?_)
   (refine a1p (l:=L.take i) rfl (by rfl) a0x rfl QC.elem hbc hXc i hln.out rfl rfl hOc (.agg #[.bool s18,.slice a18 n18 c18,.slice d18 k18 e18]) Li rfl huf (by omega) (by omega) ?_;intro oo2 oc2 w19 hO19 hE19 hor)
   refine kcn hK ⟨hE19.cellY j1 ob17,hE19.cellY j2 ob17,hE19.cellY j3 ob17,hE19.cellY j4 ob2,hE19.cellY j5 ob2,hE19.cellY j6 ob2,hE19.cellY j7 hob14,hE19.cellY j8 hob14,hE19.cellY j9 hob14⟩ (fun hHeld=>?_);clear hK K;refine kl 13 (fun K hK=>?_);go_simp
   refine hK.out _ _ ?_;clear hK K;have hE20:=(hE.trans (hErd.trans gaf)).own hOc (c1B _) hE19;rw[htk.out]at hO19;clear hHeld hOnce hwS hS18 j1 j2 j3 j4 j5 j6 j7 j8 j9;go_wp2_with fail
   go_roundw
   case rel=>exact⟨i+1,oo2,oc2,by go_num,by go_num,by omega,hall2,hO19,hE20⟩
   case measure=>simp[intOf];omega
  ·obtain rfl:i=ll:=by omega
   have e0:=hce2.out;rw[if_neg (fun⟨q,h1,h2⟩=>hall.out q h1 h2)]at e0;subst e0;rw[c1D (by rw[hLl.out];exact c1B _)]at hO;go_wp2_with fail
   go_ret2
   exact⟨t11.trans hE,_,rfl,fun h=>absurd rfl h,fun _=>⟨oo,oc,by rw[hLl.out];rfl,hO.lenCap,hO.sl QC.elem⟩⟩
def b8q(X:Nat->Bool)(tb:Nat)(R:Mem->Value->Rat->Prop)(k:Nat)(w:World)(e:Ending)(w':World):Prop:=ExtX (tbm tb) w w'/\a0L X tb w'/\∃u q,e=.returned u/\R (mk X w') u q/\hq q<=k
theorem a0L.box{X:Nat->Bool}{c nb:Nat}{w W:World}(h:a0L X c w)(d:Ext w W):a0L (a0f X w.heap.size nb) c W:=by
 have b:=h.lt;obtain⟨j,lo,l,a,at_,e,f,g,i⟩:=h;exact⟨a8C j,lo,l,a,at_,by rw[d.block c b rfl];exact e,f,g,i.mono (a1U.mono _) (a0i d)⟩
theorem a0L.unbox{X:Nat->Bool}{c b nb:Nat}{w:World}(h:a0L (a0f X b nb) c w)(i:X c=true):a0L X c w:=by
 obtain⟨_,lo,l,a,at_,d,e,f,g⟩:=h;exact⟨i,lo,l,a,at_,d,e,f,g.mono (a1U.mono _) a0l⟩
theorem a0L.store{X:Nat->Bool}{a b nb:Nat}{w c:World}(h:a0L (a0f X b nb) a w)(d:ExtX (ob (some ⟨b,0,Option.none⟩)) w c)(g:0<nb)(f:a≠b):a0L (a0f X b nb) a c:=
 h.extY d (fun k e=>by
  have:k=b:=by
   have:=e;simp[ob]at this;omega
  subst this;simp[a0f];omega) (a0b f)
theorem ExtX.tbox{a b:Nat}{w c d:World}(h:ExtX (tbm a) w c)(e:ExtX (ob (some ⟨b,0,none⟩)) c d)(f:w.heap.size<=b):ExtX (tbm a) w d:=h.then_ e (fun i g _=>a0b (by omega))
theorem b9N{n:Nat}(h:n<4294967296):lg n<=1:=by
 by_cases a:n=0
 ·subst a;simp[a5B]
 ·rw[a2c (by omega) h];exact c1B _
theorem lgI{a:Int}(b: -100000<=a)(c:a<=100000):lg a.natAbs<=1:=b9N (by omega)
theorem b4a{a k:Int}(b: -100000<=a)(c:a<=100000)(d: -100000<=k)(e:k<=100000):hq ((a:Rat)/(k:Rat))<=2:=by
 have:=hq_div (a:Rat) (k:Rat);have:=a4y a 1 (lgI b c) (by omega);have:=a4y k 1 (lgI d e) (by omega);omega
theorem b1h(X:Nat->Bool)(i:Nat)(w:World)(R:a0L X i w)(hX:HX X w):Calls Tryz.prog 54 #[.pointer (some ⟨i,0,none⟩)] w (b8q X i QC 2 w):=by
 have a0:=R.lt;have D:=R.1;obtain⟨W,hW,P,M,hz⟩:=a0Y w #[.bool false,.slice none 0 0,.slice none 0 0] 47;have y:HX (a0f X w.heap.size 1) W:=hX.boxes hz;have C:a0L (a0f X w.heap.size 1) i W:=R.box P;obtain⟨b,hb⟩:=c1F w.heap.size;have z:w.heap.size<=b:=by omega
 have o:i≠b:=by omega
 have h:b≠i:=by omega
 rw[hb]at M hz y C;have G:ExtX (tbm i) w W:=ExtX.of P;clear P;go_enter Tryz.func54,Tryz.ntmps54
 go_wp2_with fail
 refine(a1L (a0f X b 1) i 8 _ C (by omega)).mono ?_;rintro e w1 ⟨q,A,m,rfl,hm⟩;have N:=M.ext q (a3t h);have v:=y.ext q;have t:=G.trans q;clear M y C G q;by_cases h6:m=6
 ·subst h6
  go_wp2_with fail
  refine(a1L (a0f X b 1) i 13 _ A (by omega)).mono ?_;rintro e L ⟨a,l,J,rfl,H⟩;have r:J<13:=by omega
  have E:=N.ext a (a3t h);have g:=v.ext a;have j:=t.trans a;go_wp2_with fail
  refine(a1L (a0f X b 1) i 6 _ l (by omega)).mono ?_;rintro e S ⟨f,B,m3,rfl,Q⟩;have I:m3<6:=by omega
  have O:=E.ext f (a3t h);have x:=g.ext f;have u:=j.trans f;go_wp2_with fail
  refine(a7t (a0f X b 1) S _ _ x (by omega) (by omega) (by omega) (by omega) (by omega) (c1A (lgI (by omega) (by omega)) (by omega)) (c1A (lgI (by omega) (by omega)) (by omega))).mono ?_;rintro e w4 ⟨c,u4,rfl,d⟩;obtain⟨s6,T,n6,U,V,Z,Y,rfl⟩:=d.shape;have F:=O.ext0 c;have n:=B.ext c;have k:=u.trans (ExtX.of c);go_wp2_with ((with_reducible refine c1J ?_);refine a0a a0p rfl rfl F rfl rfl a1s ?_;intro w7 K p)
  have s:=QC.mono _ _ _ _ a0l (QC.mono _ _ _ _ (a0h p (by omega) (by omega)) d);exact bodyPost_ret (a0d rfl rfl a0p K rfl) rfl ⟨k.tbox p z,(n.store p (by omega) o).unbox D,_,_,rfl,s,b4a (by omega) (by omega) (by omega) (by omega)⟩
 ·by_cases s:m=7
  ·subst s
   go_wp2_with fail
   refine(a1L (a0f X b 1) i 2001 _ A (by omega)).mono ?_;rintro e L ⟨a,l,J,rfl,H⟩;have r:J<2001:=by omega
   have E:=N.ext a (a3t h);have g:=v.ext a;have j:=t.trans a;go_wp2_with fail
   refine(b5u (a0f X b 1) i [1,1,7] _ _ _ L 1 7 l g rfl rfl (by simp) (by simp) (hid (by simp))).mono ?_;rintro e S ⟨f,B,m3,rfl,Q,I⟩;have O:=E.ext f (a3t h);have x:=g.ext f;have u:=j.trans f;go_wp2_with fail
   refine(a7t (a0f X b 1) S _ _ x (by omega) (by omega) (by omega) (by omega) (by omega) (c1A (lgI (by omega) (by omega)) (by omega)) (c1A (lgI (by omega) (by omega)) (by omega))).mono ?_;rintro e w4 ⟨c,u4,rfl,d⟩;obtain⟨s6,T,n6,U,V,Z,Y,rfl⟩:=d.shape;have F:=O.ext0 c;have n:=B.ext c;have k:=u.trans (ExtX.of c);go_wp2_with ((with_reducible refine c1J ?_);refine a0a a0p rfl rfl F rfl rfl a1s ?_;intro w7 K p)
   have s:=QC.mono _ _ _ _ a0l (QC.mono _ _ _ _ (a0h p (by omega) (by omega)) d);exact bodyPost_ret (a0d rfl rfl a0p K rfl) rfl ⟨k.tbox p z,(n.store p (by omega) o).unbox D,_,_,rfl,s,b4a (by omega) (by omega) (by omega) (by omega)⟩
  ·have t6:((m:Int)==6)=false:=a2C (by omega)
   have t7:((m:Int)==7)=false:=a2C (by omega);go_wp2_with fail
   refine(a1L (a0f X b 1) i 9 _ A (by omega)).mono ?_;rintro e L ⟨a,l,J,rfl,H⟩;have r:J<9:=by omega
   have E:=N.ext a (a3t h);have g:=v.ext a;have j:=t.trans a;go_wp2_with fail
   refine(a3n (a0f X b 1) L _ g (by omega) (by omega)).mono ?_;rintro e w4 ⟨c,u4,rfl,d⟩;obtain⟨s6,T,n6,U,V,Z,Y,rfl⟩:=d.shape;have F:=E.ext0 c;have n:=l.ext c;have k:=j.trans (ExtX.of c);go_wp2_with ((with_reducible refine c1J ?_);refine a0a a0p rfl rfl F rfl rfl a1s ?_;intro w7 K p)
   have s:=QC.mono _ _ _ _ a0l (QC.mono _ _ _ _ (a0h p (by omega) (by omega)) d);exact bodyPost_ret (a0d rfl rfl a0p K rfl) rfl ⟨k.tbox p z,(n.store p (by omega) o).unbox D,_,_,rfl,s,c1A (a4y _ 1 (lgI (by omega) (by omega)) (by omega)) (by omega)⟩
def b4b(X:Nat->Bool)(tb:Nat)(R:Mem->Value->Rat->Prop)(k n:Nat)(w:World)(e:Ending)(w':World):Prop:=ExtX (tbm tb) w w'/\∃(ao:Option Addr) (l:List Rat) (cap:Nat),e=.returned (.slice ao n cap)/\l.length=n/\n<=cap/\BR k l/\a0L (un X ao) tb w'/\OL R 3 X w.heap.size 47 w' ao cap l
theorem a5v(X:Nat->Bool)(j n:Nat)(w:World)(K:a0L X j w)(V:HX X w)(hn:n<=1000):Calls Tryz.prog 24 #[.pointer (some ⟨j,0,none⟩),.int .i64 (n:Int)] w (b4b X j QC 2 n w):=by
 have u:=a4j K.1;go_enter Tryz.func24,Tryz.ntmps24
 go_wp2_with fail
 go_loopw [5,6] (fun s c wr=>∃(i:Nat) (oo:Option Addr) (y:Nat) (l:List Rat),c=.int .i64 i/\s=.slice oo i y/\l.length=i/\i<=n/\BR 2 l/\OL QC 3 X w.heap.size 47 wr oo y l/\a0L (un X oo) j wr/\ExtX (tbm j) w wr) (fun _ c _=>n - (intOf c).toNat)
 case atStart=>exact⟨0,none,0,[],rfl,rfl,rfl,Nat.zero_le _,fun x N=>by simp at N,OL.nil _ _ _ _ _ _,K.none,ExtX.refl _⟩
 case round=>
  obtain⟨i,oo,y,l,rfl,rfl,b,W,P,p,g,z⟩:=hrel;have f:HX X wr:=V.ext z;by_cases Z:i<n
  ·have r:HX (un X oo) wr:=p.unX f
   have t:=hid b;clear b;go_wp2_with fail
   refine(b1h (un X oo) j _ g r).mono ?_;rintro e w2 ⟨a,L,u6,q,rfl,v,J⟩;obtain⟨s6,R,n6,S,T,k6,U,rfl⟩:=v.shape;have d:=p.ext QC.elem a (fun k _ Y=>u k Y) (fun _ _ h=>h);have E:HX X w2:=f.ext a;have m:=z.trans a;have F:=m.size;clear p g z a f r;go_wp2_with (at_builtin;refine a0t (l:=l) a0x rfl QC.elem (by omega) E i t.out rfl rfl d (.agg #[.bool s6,.slice R n6 S,.slice T k6 U]) q rfl v (by omega) (by omega) ?_;intro O A w7 D o I)
   have C:=m.own d (c1B _) o;have M:=L.unstep (d.not_ob K.1) o I;have B:BR 2 (l++[q]):=fun x N=>by
    rcases List.mem_append.1 N with h|h
    ·exact P x h
    ·rw[List.mem_singleton.1 h];exact J
   have H:(l++[q]).length=i+1:=by rw[List.length_append,t.out];rfl
   go_roundw
   case rel=>exact⟨i+1,O,A,_,by go_num,by go_num,H,by omega,B,D,M,C⟩
   case measure=>simp[intOf];omega
  ·have G:i=n:=by omega
   subst G;have Q:=p.lenCap;rw[b]at Q;go_wp2_with fail
   go_ret
   exact⟨z,oo,l,y,rfl,b,Q,P,g,p⟩
theorem b0g(n:Nat)(h:n<100):Dig [n]:=fun x a=>by
 have:x=n:=by simpa using a
 subst this;have:=a1t;omega
theorem a0c.lit1(X:Nat->Bool)(w:World)(n:Nat)(e:TypeId)(a:HX X w):Sl (a0c .u32) 1 (mk X (w.alloc (.cells #[.int .u32 (n:Int)] e))) (some ⟨w.heap.size,0,none⟩) [n]:=
 (OL.lit (a0c.elem .u32) a (c1B _) [.int .u32 (n:Int)] [n] _ (by simp[a0g,Value.cells]) rfl (fun i b _=>by
  have:i=0:=by simpa using b
  subst this;rfl) (by simp)).sl (a0c.elem _)
theorem b5R{h:Mem}{s:Bool}{k c:Option Addr}{mc e:Nat}{m d:List Nat}(l:Sl (a0c .u32) 1 h k m)(hd:Sl (a0c .u32) 1 h c d)(i:m.length<=mc)(f:d.length<=e)(b:Dig m)(a:Dig d)(j:m.length<=3)(g:d.length<=3):∃q,QV h (.agg #[.bool s,.slice k m.length mc,.slice c d.length e]) q/\hq q<=3:=
 ⟨_,⟨s,k,mc,m,c,e,d,rfl,i,f,b,a,by omega,by omega,l,hd,rfl⟩,a9v s m d 3 b a j g (by omega)⟩
theorem b5S(X:Nat->Bool)(tb:Nat)(w:World)(ht:a0L X tb w)(hX:HX X w):Calls Tryz.prog 59 #[.pointer (some ⟨tb,0,none⟩)] w (b8q X tb QV 3 w):=by
 have htb:=ht.lt;have htX:=ht.1;obtain⟨W,hW,hE,b0,hz⟩:=a0Y w #[.bool false,.slice none 0 0,.slice none 0 0] 47;have hXW:HX (a0f X w.heap.size 1) W:=hX.boxes hz;have htW:a0L (a0f X w.heap.size 1) tb W:=ht.box hE;obtain⟨b,hb⟩:=c1F w.heap.size;have hbw:w.heap.size<=b:=by omega
 have htb':tb≠b:=by omega
 have hbt:b≠tb:=by omega
 rw[hb]at b0 hz hXW htW;have hEb:ExtX (tbm tb) w W:=ExtX.of hE;clear hE;go_enter Tryz.func59,Tryz.ntmps59
 go_wp2_with fail
 refine(b1h (a0f X b 1) tb _ htW hXW).mono ?_;rintro e w1 ⟨hE1,ht1,u1,q,rfl,hu1,hq1⟩;obtain⟨s,ma,mc,m,da,dc,d,rfl,hmc,hdc,hcq,hms,hds⟩:=hu1;have hmd:Dig m:=hcq.1.2.1;have hdd:Dig d:=hcq.2.1;have hml:m.length<=2:=by have:=a0G q;rw[hcq.1.len];omega
 have hdl:d.length<=2:=by have:=b7a q;rw[hcq.2.len];omega
 have b1:=b0.ext hE1 (a3t hbt);have hX1:=hXW.ext hE1;have hF1:=hEb.trans hE1;have hz1:=hE1.size;have bx:=Bx.new w1 #[.bool false,.slice none 0 0,.slice none 0 0] 47;obtain⟨bo,hbo⟩:=c1F w1.heap.size;rw[hbo]at bx;have hbnew:∀j,j<w1.heap.size->ob (some ⟨bo,0,none⟩) j=false:=fun j hj=>a0b (by omega);have hbob:b<bo:=by have:=b1.lt;omega
 have htbo:tb<bo:=by have:=ht1.lt;omega
 clear b0 hXW htW hEb hcq hz;go_wp2_with ((with_reducible refine c1J (t:=47) ?_);refine a0a a0p rfl rfl bx rfl rfl a1s ?_;intro w2 r1 r2)
 have hE2:Ext w1 w2:=ExtX.box ((ExtX.refl w1).alloc _) r2 (by omega);have ht2:a0L (un (a0f X b 1) (some ⟨bo,0,none⟩)) tb w2:=ht1.old hE2 hbnew;have hms2:=hms.old (oo:=some ⟨bo,0,none⟩) (a0c.mono _) hE2 hbnew;have hds2:=hds.old (oo:=some ⟨bo,0,none⟩) (a0c.mono _) hE2 hbnew;have hX2:HX (un (a0f X b 1) (some ⟨bo,0,none⟩)) w2:=fun k hk=>by
  by_cases hx:a0f X b 1 k=true
  ·exact hX1.ext hE2 k hx
  ·have:bo=k:=by simpa[un,hx,ob]using hk
   have:=r1.lt;omega
 have b2:=b1.ext0 hE2;have hF2:=hF1.trans (ExtX.of hE2);clear bx hms hds ht1 hE1 hE2 hX1 hF1;refine(a1L (un (a0f X b 1) (some ⟨bo,0,none⟩)) tb 24 _ ht2 (by omega)).mono ?_;rintro e w3 ⟨hE3,ht3,k,rfl,hk⟩;have hsub:=a4j ht3.1;have hms3:=hms2.mono (a0c.mono _) (a0s hE3 hsub);have hds3:=hds2.mono (a0c.mono _) (a0s hE3 hsub);have hX3:=hX2.ext hE3;have b3:=b2.ext hE3 (a3t hbt);have r3:=r1.ext hE3 (a3t (by omega));have hF3:=hF2.trans hE3;clear hms2 hds2 hX2 b2 r1 r2 hF2 ht2 hE3 hbnew hz1;have hdone:Hid (∀(wz w7:World) (s:Bool) (ma da:Option Addr) (mc dc:Nat) (m d:List Nat),ExtX (tbm tb) w wz->a0L (un (a0f X b 1) (some ⟨bo,0,none⟩)) tb wz->Sl (a0c .u32) 1 (mk (un (a0f X b 1) (some ⟨bo,0,none⟩)) wz) ma m->Sl (a0c .u32) 1 (mk (un (a0f X b 1) (some ⟨bo,0,none⟩)) wz) da d->m.length<=mc->d.length<=dc->Dig m->Dig d->m.length<=3->d.length<=3->ExtX (ob (some ⟨b,0,none⟩)) wz w7->b8q X tb QV 3 w (.returned (.agg #[.bool s,.slice ma m.length mc,.slice da d.length dc])) w7):=hid fun wz w7 s ma da mc dc m d g1 g2 g3 g4 g5 g6 g7 g8 g9 g10 g11=>by
  have hle:Le (mk (un (a0f X b 1) (some ⟨bo,0,none⟩)) wz) (mk X w7):=by
   refine a1g g11 (fun j hj hk=>?_) (fun j _ hk=>a0j (a8C hk));have:b=j:=by simpa[ob]using hk
   subst this;exact a0j (a3B (c1B _) (by omega))
  obtain⟨q,p1,p2⟩:=b5R (s:=s) (g3.mono (a0c.mono _) hle) (g4.mono (a0c.mono _) hle) g5 g6 g7 g8 g9 g10;have t1:a0L X tb w7:=by
   have hlt:=g2.lt;obtain⟨_,lo,l,cap,at_,h1,h2,h3,h4⟩:=g2;exact⟨htX,lo,l,cap,at_,by rw[g11.block tb hlt (a0b htb')];exact h1,h2,h3,h4.mono (a1U.mono _) hle⟩
  exact⟨g1.tbox g11 hbw,t1,_,q,rfl,p1,p2⟩
 have hcase:k<20\/k=20\/k=21\/k=22\/k=23:=by omega
 rcases hcase with h|rfl|rfl|rfl|rfl
 ·have k0:=r3.cell 0 rfl
  have k1:=r3.cell 1 rfl;have k2:=r3.cell 2 rfl;have t20:((k:Int)==20)=false:=a2C (by omega);have t21:((k:Int)==21)=false:=a2C (by omega);have t22:((k:Int)==22)=false:=a2C (by omega);have t23:((k:Int)==23)=false:=a2C (by omega);go_wp2_with ((with_reducible refine c1J (t:=47) ?_);refine a0a a0p rfl rfl b3 rfl rfl a1s ?_;intro w7 r1 r2)
  exact bodyPost_ret (a0d rfl rfl a0p r1 rfl) rfl (hdone.out w3 w7 _ _ _ _ _ _ _ hF3 ht3 hms3 hds3 hmc hdc hmd hdd (by omega) (by omega) r2)
 ·have hEa:Ext w3 (w3.alloc (.cells #[.int .u32 1] 114)):=(ExtX.refl _).alloc _
  have r4:=r3.ext0 hEa;have hdn:=a0c.lit1 (un (a0f X b 1) (some ⟨bo,0,none⟩)) w3 1 114 hX3;have k2:=r4.cell 2 rfl;have f2:=r4.frozen 2;obtain⟨g1,g2⟩:=a0X r4 (.slice (some ⟨w3.heap.size,0,none⟩) 1 1) (i:=2) (by simp);obtain⟨w5,hw5⟩:=c1F ((w3.alloc (.cells #[.int .u32 1] 114)).setCell ⟨bo,2,none⟩ (.slice (some ⟨w3.heap.size,0,none⟩) 1 1));rw[hw5]at g1 g2;have k0:=g1.cell 0 rfl;have k1:=g1.cell 1 rfl;have k5:=g1.cell 2 rfl;have hE5:ExtX (ob (some ⟨bo,0,none⟩)) w3 w5:=(ExtX.of hEa).trans g2;have hle:Le (mk (un (a0f X b 1) (some ⟨bo,0,none⟩)) w3) (mk (un (a0f X b 1) (some ⟨bo,0,none⟩)) w5):=a0s hE5 fun _ hk=>a0u hk;have hle2:Le (mk (un (a0f X b 1) (some ⟨bo,0,none⟩)) (w3.alloc (.cells #[.int .u32 1] 114))) (mk (un (a0f X b 1) (some ⟨bo,0,none⟩)) w5):=a0s g2 fun _ hk=>a0u hk;have b5:=(b3.ext0 hEa).ext g2 (a0b (by omega));have hfin:=hid (hdone.out w5 · s ma (some ⟨w3.heap.size,0,none⟩) mc 1 m [1] (hF3.tbox hE5 (by omega)) (ht3.extY hE5 (fun _ hk=>a0u hk) (a0b (by omega))) (hms3.mono (a0c.mono _) hle) (hdn.mono (a0c.mono _) hle2) hmc (by simp) hmd (b0g 1 (by omega)) (by omega) (by simp));go_wp2_with (first|((with_reducible refine c1J (t:=43) ?_);refine b7P b8W rfl rfl rfl rfl k2 f2 ?_;rw[hw5];clear k2 f2)|((with_reducible refine c1J (t:=47) ?_);refine a0a a0p rfl rfl b5 rfl rfl a1s ?_;intro w7 r1 r2))
  exact bodyPost_ret (a0d rfl rfl a0p r1 rfl) rfl (hfin.out w7 r2)
 ·have k1:=r3.cell 1 rfl
  have h0:=hid (show Sl (a0c .u32) 1 (mk (un (un (a0f X b 1) (some ⟨bo,0,none⟩)) none) w3) ma m from by rw[b0W];exact hms3);go_wp2_with (first
   |(at_builtin;refine a3m (l:=([]:List Nat)) a0Q rfl (a0c.elem .u32) (c1B w3.heap.size) hX3 m rfl rfl (OL.nil _ _ _ _ _ _) h0.out (by simp;omega) (by simp;omega) ?_;intro oo4 co4 w4 hO4 hE4 hor4;have hE34:Ext w3 w4:=hE4.weaken (fun _ _ _=>rfl);have hX4:=hX3.ext hE34;have hb4:=hE34.size)
   |(at_builtin;refine a3l (l:=[]++m) a0Q rfl (a0c.elem .u32) hb4 hX4 rfl rfl hO4 (.int .u32 0) 0 rfl rfl (by simp;omega) (by simp;omega) ?_;intro oo5 co5 w5 hO5 hE5 hor5;have hE35:Ext w3 w5:=hE34.own hO4 (c1B _) hE5;have r5:=r3.ext0 hE35;have k2:=r5.cell 1 rfl;have f2:=r5.frozen 1;obtain⟨g1,g2⟩:=a0X r5 (.slice oo5 (m.length+1) co5) (i:=1) (by simp);obtain⟨w6,hw6⟩:=c1F (w5.setCell ⟨bo,1,none⟩ (.slice oo5 (m.length+1) co5));rw[hw6]at g1 g2;have q0:=g1.cell 0 rfl;have q1:=g1.cell 1 rfl;have q2:=g1.cell 2 rfl;have b6:=(b3.ext0 hE35).ext g2 (a0b (by omega)))
   |((with_reducible refine c1J (t:=47) ?_);refine a0a a0p rfl rfl b6 rfl rfl a1s ?_;intro w7 r1 r2))
  have hE6:ExtX (ob (some ⟨bo,0,none⟩)) w3 w6:=(ExtX.of hE35).trans g2;have hle:Le (mk (un (a0f X b 1) (some ⟨bo,0,none⟩)) w3) (mk (un (a0f X b 1) (some ⟨bo,0,none⟩)) w6):=a0s hE6 fun _ hk=>a0u hk;have hle2:Le (mk (un (a0f X b 1) (some ⟨bo,0,none⟩)) w5) (mk (un (a0f X b 1) (some ⟨bo,0,none⟩)) w6):=a0s g2 fun _ hk=>a0u hk;have hc5:=hO5.lenCap;have hlen:([]++m++[0]).length=m.length+1:=by simp
  rw[hlen]at hc5;have hfin:=hdone.out w6 w7 s oo5 da co5 dc ([]++m++[0]) d (hF3.tbox hE6 (by omega)) (ht3.extY hE6 (fun _ hk=>a0u hk) (a0b (by omega))) ((hO5.sl (a0c.elem _)).mono (a0c.mono _) hle2) (hds3.mono (a0c.mono _) hle) (by rw[hlen];exact hc5) hdc (fun x hx=>by
   rcases List.mem_append.1 hx with h|h
   ·exact hmd x (by simpa using h)
   ·rw[List.mem_singleton.1 h];exact a2B) hdd (by simp;omega) (by omega) r2
  rw[hlen]at hfin;exact bodyPost_ret (a0d rfl rfl a0p r1 rfl) rfl hfin
 ·go_wp2_with ((with_reducible refine c1J (t:=47) ?_);refine a0a a0p rfl rfl b3 rfl rfl a1s ?_;intro w7 r1 r2)
  exact bodyPost_ret (a0d rfl rfl a0p r1 rfl) rfl (hdone.out w3 w7 true none none 0 0 [] [] hF3 ht3 (Sl.nil _ _ _ _) (Sl.nil _ _ _ _) (by simp) (by simp) (fun x hx=>by simp at hx) (fun x hx=>by simp at hx) (by simp) (by simp) r2)
 ·obtain⟨w4,hw4⟩:=c1F (w3.alloc (.cells #[.int .u32 2] 114))
  have hE4:Ext w3 w4:=by rw[<-hw4];exact(ExtX.refl _).alloc _
  have hz4:w4.heap.size=w3.heap.size+1:=by rw[<-hw4];simp
  have hX4:=hX3.ext hE4;have hm2:=a0c.lit1 (un (a0f X b 1) (some ⟨bo,0,none⟩)) w3 2 114 hX3;have hd4:=a0c.lit1 (un (a0f X b 1) (some ⟨bo,0,none⟩)) w4 4 114 hX4;rw[show((2:Nat):Int)=2 from rfl,hw4]at hm2;rw[show((4:Nat):Int)=4 from rfl]at hd4;obtain⟨w5,hw5⟩:=c1F (w4.alloc (.cells #[.int .u32 4] 114));have hE5:Ext w4 w5:=by rw[<-hw5];exact(ExtX.refl _).alloc _
  rw[hw5,hz4]at hd4;have hm5:=hm2.mono (a0c.mono _) (a0k hE5);have hE35:Ext w3 w5:=hE4.trans hE5;have b5:=b3.ext0 hE35;have hfin:=hid (hdone.out w5 · false (some ⟨w3.heap.size,0,none⟩) (some ⟨w3.heap.size+1,0,none⟩) 1 1 [2] [4] (hF3.trans (ExtX.of hE35)) (ht3.ext hE35) hm5 hd4 (by simp) (by simp) (b0g 2 (by omega)) (b0g 4 (by omega)) (by simp) (by simp));clear hE4 hX4 hm2 hd4 hE5 hm5 hE35;go_wp2_with ((with_reducible refine c1J (t:=47) ?_);refine a0a a0p rfl rfl b5 rfl rfl a1s ?_;intro w7 r1 r2)
  exact bodyPost_ret (a0d rfl rfl a0p r1 rfl) rfl (hfin.out w7 r2)
theorem a6V(X:Nat->Bool)(j n:Nat)(w:World)(K:a0L X j w)(V:HX X w)(hn:n<=1000):Calls Tryz.prog 26 #[.pointer (some ⟨j,0,none⟩),.int .i64 (n:Int)] w (b4b X j QV 3 n w):=by
 have u:=a4j K.1;go_enter Tryz.func26,Tryz.ntmps26
 go_wp2_with fail
 go_loopw [5,6] (fun s c wr=>∃(i:Nat) (oo:Option Addr) (y:Nat) (l:List Rat),c=.int .i64 i/\s=.slice oo i y/\l.length=i/\i<=n/\BR 3 l/\OL QV 3 X w.heap.size 47 wr oo y l/\a0L (un X oo) j wr/\ExtX (tbm j) w wr) (fun _ c _=>n - (intOf c).toNat)
 case atStart=>exact⟨0,none,0,[],rfl,rfl,rfl,Nat.zero_le _,fun x N=>by simp at N,OL.nil _ _ _ _ _ _,K.none,ExtX.refl _⟩
 case round=>
  obtain⟨i,oo,y,l,rfl,rfl,b,W,P,p,g,z⟩:=hrel;have f:HX X wr:=V.ext z;by_cases Z:i<n
  ·have r:HX (un X oo) wr:=p.unX f
   have t:=hid b;clear b;go_wp2_with fail
   refine(b5S (un X oo) j _ g r).mono ?_;rintro e w2 ⟨a,L,u6,q,rfl,v,J⟩;obtain⟨s6,R,n6,S,T,k6,U,rfl⟩:=v.shape;have d:=p.ext QV.elem a (fun k _ Y=>u k Y) (fun _ _ h=>h);have E:HX X w2:=f.ext a;have m:=z.trans a;have F:=m.size;clear p g z a f r;go_wp2_with (at_builtin;refine a0t (l:=l) a0x rfl QV.elem (by omega) E i t.out rfl rfl d (.agg #[.bool s6,.slice R n6 S,.slice T k6 U]) q rfl v (by omega) (by omega) ?_;intro O A w7 D o I)
   have C:=m.own d (c1B _) o;have M:=L.unstep (d.not_ob K.1) o I;have B:BR 3 (l++[q]):=fun x N=>by
    rcases List.mem_append.1 N with h|h
    ·exact P x h
    ·rw[List.mem_singleton.1 h];exact J
   have H:(l++[q]).length=i+1:=by rw[List.length_append,t.out];rfl
   go_roundw
   case rel=>exact⟨i+1,O,A,_,by go_num,by go_num,H,by omega,B,D,M,C⟩
   case measure=>simp[intOf];omega
  ·have G:i=n:=by omega
   subst G;have Q:=p.lenCap;rw[b]at Q;go_wp2_with fail
   go_ret
   exact⟨z,oo,l,y,rfl,b,Q,P,g,p⟩
theorem b2c{P:Program}{ops:Array Oper}{Q:Exit->Act->World->Prop}{f:List Oper}{a:Act}{w:World}{α:Type}{R:Mem->Value->α->Prop}{sz:Nat}{X:Nat->Bool}{e:TypeId}{d:Option Tmp}{I:TypeId}{H:String}{v:Array Edge}{t i:Nat}{z:Value}{s x:Operand}{p:Option Addr}{y:Nat}(T:SliceT P t e sz i z)(u:z.cells.size=sz)(C:Elem R sz)(base:Nat)(g:base<=w.heap.size)(D:∀k,X k=true->k<w.heap.size)(o:List α)(n:Nat)(E:o.length=n)(F:a.eval s=.slice none 0 0)(G:a.eval x=.slice p n y)(r:Sl R sz (mk X w) p o)(h:n*i<=140737488355328)(j:n<=9223372036854775807)(K:∀c b m,OL R sz X base e m c b o->n<=b->Ext w m->wpList P ops Q f (a.put d (.slice c n b)) m):wpList P ops Q (⟨d,.call {callee:= .builtin .append,args:=#[s,x],argTypes:=#[t,t]},I,H,v,none⟩::f) a w:=by
 subst E;have A:Sl R sz (mk (un X none) w) p o:=by
  have:un X none=X:=by funext k;simp[un,ob]
  rw[this];exact r
 refine a3m (l:=[]) T u C g D o F G (OL.nil _ _ _ _ _ _) A (by simpa using h) (by simpa using j) fun c b m q B _=>?_;rw[List.nil_append]at q |-;exact K c b m q q.lenCap (B.weaken fun _ _ _=>rfl)
theorem OL.rowsF{X:Nat->Bool}{base:Nat}{e:TypeId}{w:World}{ao:Option Addr}{g:Nat}{m:List (List Rat)}(s:OL RC 1 X base e w ao g m):∃f:Nat->Option Addr×Nat,∀i (b:i<m.length),w.cell? (adr ao i)=some (.slice (f i).1 m[i].length (f i).2)/\m[i].length<=(f i).2/\Sl QC 3 (mk (un X ao) w) (f i).1 m[i]:=by
 have d:∀i,∃p:Option Addr×Nat,∀(b:i<m.length),w.cell? (adr ao i)=some (.slice p.1 m[i].length p.2)/\m[i].length<=p.2/\Sl QC 3 (mk (un X ao) w) p.1 m[i]:=fun i=>by
  by_cases b:i<m.length
  ·obtain⟨u,j,_,k⟩:=s.cell SlV.one i b
   obtain⟨a,c,rfl,l,n⟩:=k;exact⟨(a,c),fun _=>⟨j,l,n⟩⟩
  ·exact⟨(none,0),fun h=>absurd h b⟩
 exact⟨fun i=>(d i).choose,fun i b=>(d i).choose_spec b⟩
theorem b6I{ao:Option Addr}{n k:Nat}(hd:Hd ao n)(c:0<n){b:Nat}(a:ob ao b=false):(adr ao k).block≠b:=by
 obtain⟨g,o,rfl⟩:=hd c;intro h;have:g=b:=h;subst this;simp[ob]at a
theorem BM.le{B C:Nat}{m:List (List Rat)}(h:BM B m)(a:B<=C):BM C m:=fun r b q hq=>c1A (h r b q hq) a
theorem BM.set{B:Nat}{m:List (List Rat)}(h:BM B m){r:List Rat}(b:BR B r)(i:Nat):BM B (m.set i r):=fun x a=>by
 rcases List.mem_or_eq_of_mem_set a with a|rfl
 ·exact h x a
 ·exact b
def b4c(X:Nat->Bool)(tb:Nat)(n k:Nat)(w:World)(e:Ending)(w':World):Prop:=ExtX (tbm tb) w w'/\a0L X tb w'/\∃(vx vy:Value) (p:List (List Rat)) (y:List Rat) (d:Nat),e=.returned (.tuple #[vx,vy])/\MV (mk X w') vx p/\RV (mk X w') vy y/\1<=p.length/\p.length<=n/\1<=d/\d<=k/\(∀r∈p,r.length=d)/\y.length=p.length/\BM 2 p/\BR 4 y
def b9O(X:Nat->Bool)(oo:Option Addr)(tb d:Nat)(w:World)(v:Value)(w':World):Prop:=∃(po:Option Addr) (p:List Rat) (pc:Nat),v=.slice po d pc/\p.length=d/\BR 2 p/\a0L (un (un X oo) po) tb w'/\OL QC 3 (un X oo) w.heap.size 47 w' po pc p/\ExtX (tbm tb) w w'
theorem c0N{h:Mem}{ao:Option Addr}{l:List (List Rat)}(s:Sl RC 1 h ao l)(d:BM 68719476736 l):Sl RV 1 h ao l:=
 ⟨s.1,fun i e=>let ⟨u,a,b,c⟩:=s.2 i e;⟨u,a,b,RC.rv c (d _ (c1E _))⟩⟩
def twN(y:List Rat)(p:List (List Rat))(j:Nat):List Rat:=(List.range y.length).map fun i=>if i<j then 2*(p.getD i []).getD 0 0 else y.getD i 0
theorem b0h(y:List Rat)(p:List (List Rat))(j:Nat):(twN y p j).length=y.length:=by simp[twN]
theorem b5T(y:List Rat)(p:List (List Rat)):y=twN y p 0:=by
 refine List.ext_getElem (by simp[twN]) fun i a b=>?_;simp[twN,List.getD_eq_getElem?_getD,a]
theorem b8r(y:List Rat)(p:List (List Rat))(j:Nat):(twN y p j).set j (2*(p.getD j []).getD 0 0)=twN y p (j+1):=by
 refine List.ext_getElem (by simp[twN]) fun i a b=>?_;rw[List.getElem_set];simp only[twN,List.getElem_map,List.getElem_range];split
 ·subst_vars;simp
 ·by_cases h:i<j
  ·simp[h,show i<j+1 by omega]
  ·simp[h,show¬i<j+1 by omega]
theorem b9P{x:Rat}{B:Nat}(c:hq x<=B):hq (2*x)<=B+2:=by
 have a:=hq_mul 2 x;have b:hq (2:Rat)<=1:=a4y 2 1 (lgI (by omega) (by omega)) (by omega);omega
theorem b9Q{y:List Rat}{p:List (List Rat)}(e:BR 2 y)(d:BM 2 p)(j:Nat):BR 4 (twN y p j):=by
 intro q a;unfold twN at a;obtain⟨i,b,rfl⟩:=List.mem_map.1 a;have b:=List.mem_range.1 b;split
 ·refine b9P ?_
  by_cases h:i<p.length
  ·rw[show p.getD i []=p[i]by simp[List.getD_eq_getElem?_getD,h]]
   by_cases c:0<p[i].length
   ·rw[show p[i].getD 0 0=p[i][0]by simp[List.getD_eq_getElem?_getD,c]]
    exact d _ (c1E _) _ (c1E _)
   ·rw[show p[i].getD 0 0=0 by simp[List.getD_eq_getElem?_getD,List.getElem?_eq_none (show p[i].length<=0 by omega)],a0U];decide
  ·rw[show p.getD i []= []by simp[List.getD_eq_getElem?_getD,List.getElem?_eq_none (show p.length<=i by omega)],show([]:List Rat).getD 0 0=0 from rfl,a0U];decide
 ·rw[show y.getD i 0=y[i]by simp[List.getD_eq_getElem?_getD,b]]
  exact c1A (e _ (c1E _)) (by decide)
theorem b0i(X:Nat->Bool)(u n k:Nat)(w:World)(ht:a0L X u w)(hX:HX X w)(p7:1<=n)(hn:n<=8)(p5:1<=k)(D:k<=8):Calls Tryz.prog 8 #[.pointer (some ⟨u,0,none⟩),.int .i64 (n:Int),.int .i64 (k:Int)] w (b4c X u n k w):=by
 have C:=a4j ht.1;have F:=ht.1;go_enter Tryz.func8,Tryz.ntmps8
 go_wp2_with fail
 refine(a1L X u k w ht (by omega)).mono ?_;rintro e w1 ⟨h9,k4,m,rfl,hm⟩;have m5:(1+(m:Int))=((m+1:Nat):Int):=by omega
 have j4:m+1<=k:=by omega
 obtain⟨d,hd⟩:=c1F (m+1);have m6:1<=d:=by omega
 rw[hd]at m5 j4;clear hd hm;go_wp2_with fail
 refine(a5q X u 2 w1 k4 (by decide) (by decide)).mono ?_;rintro e w2 ⟨f,t,l5,rfl⟩;go_wp2_with fail
 refine(a1L X u n w2 t (by omega)).mono ?_;rintro e w3 ⟨a3,a8,m2,rfl,n3⟩;have l8:(1+(m2:Int))=((m2+1:Nat):Int):=by omega
 have l9:m2+1<=n:=by omega
 obtain⟨N,hN⟩:=c1F (m2+1);have p0:1<=N:=by omega
 rw[hN]at l8 l9;have i6:=(h9.trans f).trans a3;clear hN n3 h9 f a3 k4 t ht;go_wp2_with fail
 go_loopw [9,10] (fun s c wr=>∃(i j:Nat) (oo:Option Addr) (co:Nat) (l:List (List Rat)),c=.int .i64 i/\s=.slice oo j co/\l.length=j/\i+j=N/\(∀r∈l,r.length=d)/\BM 2 l/\OL RC 1 X w.heap.size 24 wr oo co l/\a0L (un X oo) u wr/\ExtX (tbm u) w wr) (fun _ c _=>(intOf c).toNat)
 case atStart=>exact⟨N,0,none,0,[],rfl,rfl,rfl,rfl,by simp,fun r L=>by simp at L,OL.nil _ _ _ _ _ _,by rw[show un X none=X by funext k;simp[un,ob]];exact a8,i6⟩
 case round=>
  clear i6 a8;obtain⟨i,j,oo,co,l,rfl,rfl,a5,n2,e0,d2,hO,k9,hE⟩:=hrel;have m3:HX X wr:=hX.ext hE;have b7:HX (un X oo) wr:=hO.unX m3;have B:=hid a5;have a0:=hid e0;have I:=hid d2;by_cases c2:0<i
  ·obtain⟨i,rfl⟩:∃j,i=j+1:=⟨i - 1,by omega⟩
   obtain⟨wo,h5⟩:∃wo,wo=wr:=⟨_,rfl⟩;subst h5;clear a5 e0 d2;go_upto_region 7 with fail
   go_cut [11]from 28 to 30 (fun v wx=>b9O X oo u d wo v wx)
   case first=>
    go_wp2_with fail
    refine(a5v (un X oo) u d wo k9 b7 (by omega)).mono ?_;rintro e w2 ⟨f,H,p,pc,rfl,A,T,J,t,S⟩;go_wp2_with fail
    all_goals go_meet
    all_goals case rel=>exact⟨H,p,pc,rfl,A,J,t,S,f⟩
   case rest=>
   obtain⟨H,p,pc,rfl,A,J,t,S,f⟩:=hcut
   go_step
   go_step
   go_cut [11]from 31 to 45 (fun v wx=>b9O X oo u d wo v wx)
   case first=>
    by_cases p4:0<j
    ·go_wp2_with fail
     refine(a5q (un (un X oo) H) u 6 wc t (by decide) (by decide)).mono ?_;rintro e w4 ⟨f6,g8,b2,rfl⟩;have i8:=S.ext QC.elem f6 (fun k _ D=>a0j (C k D)) (fun _ _ h=>h);have b1:=f.trans f6;cases b2
     ·go_wp2_with fail
      all_goals go_meet
      all_goals case rel=>exact⟨H,p,pc,rfl,A,J,g8,i8,b1⟩
     ·go_wp2_with fail
      refine(a1L (un (un X oo) H) u j w4 g8 (by omega)).mono ?_;rintro e w5 ⟨i4,k5,m4,rfl,p6⟩;have V:=b1.trans i4;have e8:m4<l.length:=by rw[B.out];omega
      have f8:=hO.ext RC.elem V (fun k _ D=>C k D) (fun _ _ h=>h);have i9:=b7.ext V;obtain⟨u4,j2,_,n8⟩:=f8.cell SlV.one m4 e8;obtain⟨a4,c4,rfl,e4,k3⟩:=n8;have c0:=f8.hd;rw[B.out]at c0;have E:=a0.out l[m4] (c1E _);have d9:=I.out l[m4] (c1E _);obtain⟨r,L⟩:=c1F (l[m4]);rw[L]at j2 e4 k3 E d9;have f3:=hid E;rw[E]at j2 e4;have o8:m4<j:=by omega
      have k8:a0L (un X oo) u w5:=k5.unX (a0j F);have k2:=V.size;clear L E e8 i8 S f8 k5 g8 t f6 i4 b1 f;go_wp2_with (first|(with_reducible refine a0v a0o ?_)|(at_builtin;refine b2c a0x rfl QC.elem w5.heap.size (c1B _) i9 r d f3.out rfl rfl k3 (by omega) (by omega) ?_;intro o7 o6 w6 i7 p3 i5))
      have n9:=k8.old i5 (fun j hj=>i7.ob_lt hj);have i0:=V.trans (ExtX.of i5)
      all_goals go_meet
      all_goals case rel=>exact⟨o7,r,o6,rfl,f3.out,d9,n9,i7.base_le k2,i0⟩
    ·go_wp2_with fail
     all_goals go_meet
     all_goals case rel=>exact⟨H,p,pc,rfl,A,J,t,S,f⟩
   case rest=>
   clear A J t S f;obtain⟨H,p,pc,rfl,A,J,t,S,f⟩:=hcut;obtain⟨wq,o2⟩:∃wq,wq=wc:=⟨_,rfl⟩;subst o2;have g2:HX (un (un X oo) H) wq:=S.unX (b7.ext f);have n4:ob H u=false:=S.not_ob (a0j F);cases l5
   ·have R:=hO.ext RC.elem f (fun k _ D=>C k D) (fun _ _ h=>h)
    have h2:a0L (un X oo) u wq:=t.unX (a0j F);have Q:=hE.trans f;have g0:=hX.ext Q;have T:=S.lenCap;have f9:RC (mk (un X oo) wq) (.slice H d pc) p:=⟨H,pc,by rw[A],T,S.sl QC.elem⟩;have c3:=hid A;have g3:=Q.size;clear A T S t g2;go_wp2_with (at_builtin;refine a0t (l:=l) a0o rfl RC.elem g3 g0 j B.out rfl rfl R (.slice H d pc) p rfl f9 (by omega) (by omega) ?_;intro h7 f4 w7 b6 b3 g5)
    have d3:=Q.own R (c1B _) b3;have g9:=h2.unstep (R.not_ob F) b3 g5;have g4:(l++[p]).length=j+1:=by rw[List.length_append,B.out];rfl
    have g7:∀r∈l++[p],r.length=d:=fun r L=>by
     rcases List.mem_append.1 L with h|h
     ·exact a0.out r h
     ·rw[List.mem_singleton.1 h];exact c3.out
    have f5:BM 2 (l++[p]):=fun r L=>by
     rcases List.mem_append.1 L with h|h
     ·exact I.out r h
     ·rw[List.mem_singleton.1 h];exact J
    go_roundw
    case rel=>exact⟨i,j+1,h7,f4,_,by go_num,by go_num,g4,by omega,g7,f5,b6,g9,d3⟩
    case measure=>simp[intOf]
   ·have h0:0<p.length:=by omega
    have m8:Hd H d:=by have:=S.hd;rw[A]at this;exact this
    obtain⟨g,o,hg⟩:∃g o,adr H (0*3)=⟨g,o,none⟩:=⟨_,_,rfl⟩;have i1:∀W,(Instr.indexAt 24 (.slice H d pc) (.int .i64 0)).run Tryz.prog W=.ok (.pointer (some ⟨g,o,none⟩)) W:=by rw[<-hg];exact a0e a0x H d pc .i64 0 m8 (by omega)
    have b9:=hid hg;have j8:=hid A;clear hg A;go_wp2_with fail
    refine(a3n (un (un X oo) H) wq 1 g2 (by decide) (by decide)).mono ?_;rintro e w6 ⟨t1,u6,rfl,a9⟩;obtain⟨s6,a6,n6,c6,d6,k6,e6,rfl⟩:=a9.shape;have d5:=S.ext0 QC.elem t1;obtain⟨_,v0,v1,v2,_,⟨q0,f0⟩,⟨q1,f1⟩,⟨q2,f2⟩,_⟩:=d5.cell3 0 h0 b9.out;have c9:=d5.set3 (P:=Tryz.prog) a3C QC.elem 0 h0 b9.out (v0:= .bool s6) (v1:= .slice a6 n6 c6) (v2:= .slice d6 k6 e6) (x:=((1:Int):Rat)) a9;go_upto_region 12 with fail
    obtain⟨r1,r2⟩:=c9;obtain⟨w7,l1⟩:=c1F ((((w6.setCell ⟨g,o,none⟩ (.bool s6)).setCell ⟨g,o+1,none⟩ (.slice a6 n6 c6)).setCell ⟨g,o+2,none⟩ (.slice d6 k6 e6)));rw[l1]at r1 r2 |-;have b3:=(f.then_ t1 (fun _ _ _=>rfl)).own d5 (c1B _) r2;have R:=hO.ext RC.elem b3 (fun k _ D=>C k D) (fun _ _ h=>h);have h2:a0L (un X oo) u w7:=((t.ext t1).extY r2 (fun _ D=>a0u D) n4).unX (a0j F);have Q:=hE.trans b3;have g0:=hX.ext Q;have G:(p.set 0 ((1:Int):Rat)).length=d:=by rw[List.length_set];exact j8.out
    have e9:BR 2 (p.set 0 ((1:Int):Rat)):=fun q n5=>by
     rcases List.mem_or_eq_of_mem_set n5 with h|rfl
     ·exact J q h
     ·exact c1A (a4y 1 1 (lgI (by omega) (by omega)) (by omega)) (by decide)
    have T:=r1.lenCap;rw[G]at T;obtain⟨r,L⟩:=c1F (p.set 0 ((1:Int):Rat));rw[L]at r1 G e9;have f9:RC (mk (un X oo) w7) (.slice H d pc) r:=⟨H,pc,by rw[G],by rw[G];exact T,r1.sl QC.elem⟩;have c3:=hid G;have g3:=Q.size;clear L G T S t g2 d5 r1 r2 l1 q0 f0 q1 f1 q2 f2 i1 a9;go_wp2_with (at_builtin;refine a0t (l:=l) a0o rfl RC.elem g3 g0 j B.out rfl rfl R (.slice H d pc) r rfl f9 (by omega) (by omega) ?_;intro h7 f4 w8 m0 d3 g5)
    have f7:=Q.own R (c1B _) d3;have g9:=h2.unstep (R.not_ob F) d3 g5;have g4:(l++[r]).length=j+1:=by rw[List.length_append,B.out];rfl
    have g7:∀x∈l++[r],x.length=d:=fun x L=>by
     rcases List.mem_append.1 L with h|h
     ·exact a0.out x h
     ·rw[List.mem_singleton.1 h];exact c3.out
    have f5:BM 2 (l++[r]):=fun x L=>by
     rcases List.mem_append.1 L with h|h
     ·exact I.out x h
     ·rw[List.mem_singleton.1 h];exact e9
    go_roundw
    case rel=>exact⟨i,j+1,h7,f4,_,by go_num,by go_num,g4,by omega,g7,f5,m0,g9,f7⟩
    case measure=>simp[intOf]
  ·have n0:i=0:=by omega
   subst n0;obtain rfl:j=N:=by omega
   clear n2;have p1:=hO.sl RC.elem;have c0:=hO.hd;rw[a5]at c0;obtain⟨wo,h5⟩:∃wo,wo=wr:=⟨_,rfl⟩;subst h5;have b8:=hid (fun(wz:World) (vy:Value) (y:List Rat) (d4:ExtX (tbm u) wo wz) (h3:a0L X u wz) (hy:RV (mk X wz) vy y) (e3:y.length=j) (e2:BR 4 y)=>(⟨hE.trans d4,h3,.slice oo j co,vy,l,y,d,rfl,⟨oo,co,by rw[a5],hO.lenCap,c0N ((hO.ext RC.elem d4 (fun k _ D=>C k D) (fun _ _ h=>h)).sl RC.elem) (fun r L q hq=>c1A (d2 r L q hq) (by decide))⟩,hy,by omega,by omega,m6,j4,e0,by rw[e3,a5],d2,e2⟩:b4c X u n k w (.returned (.tuple #[.slice oo j co,vy])) wz));clear a5 e0 c2;go_wp2_with fail
   refine(a5v (un X oo) u j wo k9 b7 (by omega)).mono ?_;rintro e w2 ⟨f,M,y,yc,rfl,e3,o4,e2,t,hY⟩;go_wp2_with fail
   refine(a5q (un (un X oo) M) u 5 w2 t (by decide) (by decide)).mono ?_;rintro e w3 ⟨a3,a8,b,rfl⟩;have d8:=hY.ext QC.elem a3 (fun k _ D=>a0j (C k D)) (fun _ _ h=>h);have b0:=f.trans a3;have Y:=hid (fun(wz:World) (z:List Rat) (d4:ExtX (tbm u) wo wz) (h3:a0L (un (un X oo) M) u wz) (hz:OL QC 3 (un X oo) wo.heap.size 47 wz M yc z) (h6:z.length=j) (l4:BR 4 z)=>b8.out wz (.slice M j yc) z d4 ((h3.unX (a0j F)).unX F) ⟨M,yc,by rw[h6],by rw[h6];exact o4,((hz.sl QC.elem).mono QC.mono (a1a fun k _ D=>a0j D)).qv fun q hq=>c1A (l4 q hq) (by decide)⟩ h6 l4);have a2:=hid e3;clear hY t f a3 e3;cases b
   ·have hf:=hid (Y.out w3 y b0 a8 d8 a2.out (fun q hq=>c1A (e2 q hq) (by decide)))
    clear b8 Y;go_wp2_with fail
    go_ret2
    exact hf.out
   ·rw[b5T y l]at d8
    clear b8;have j7:ob oo u=false:=hO.not_ob F;obtain⟨fr,hf⟩:=hO.rowsF;have k0:=hid hf;clear hf;go_wp2_with fail
    go_loopw [62] (fun cc wx=>∃q:Nat,cc=.int .i64 q/\q<=j/\OL QC 3 (un X oo) wo.heap.size 47 wx M yc (twN y l q)/\a0L (un (un X oo) M) u wx/\ExtX (tbm u) wo wx) (fun cc _=>j - (intOf cc).toNat)
    case atStart=>exact⟨0,rfl,Nat.zero_le _,d8,a8,b0⟩
    case round=>
     clear d8 a8 b0;obtain⟨q,rfl,o9,hY,l0,b4⟩:=hrel;by_cases c2:q<j
     ·have c5:q<l.length:=by rw[B.out];exact c2
      have j9:q<(twN y l q).length:=by rw[b0h,a2.out];exact c2
      have h1:=(k0.out q c5).1;have E:=hid (a0.out _ (c1E c5));have d9:=hid (I.out _ (c1E c5));rw[E.out]at h1;have c8:=(k0.out q c5).2.2.mono QC.mono (a1g (Z:=un (un X oo) M) b4 (fun k _ D=>a0j (C k D)) (fun k D hz=>by simpa[un,hY.ob_lt D]using hz));have l2:Hid ((l.getD q []).getD 0 0=l[q][0]'(by rw[E.out];omega)):=hid (by
       have:0<l[q].length:=by rw[E.out];omega
       simp[List.getD_eq_getElem?_getD,c5,this])
      have U:=hid (b8r y l q);have d0:0<l[q].length:=by rw[E.out];omega
      rw[l2.out]at U;have l3:Hid (hq (l[q][0]'d0)<=2):=hid (d9.out _ (c1E d0));obtain⟨⟨aa,ac⟩,j5⟩:∃z,fr q=z:=⟨_,rfl⟩;rw[j5]at h1 c8
      dsimp only at h1 c8
      obtain⟨g1,o1,s1,a1,n1,c1,d1,k1,e1,j6,p2,j1,g6⟩:=c8.rat QC.shaped 0 d0;obtain⟨x,hx⟩:=c1F (l[q][0]'d0);rw[hx]at U l3 g6;have m7:Hd aa d:=by have:=c8.hd;rw[E.out]at this;exact this
      have j3:=(b4.cellY h1 (a3t (b6I c0 (by omega) j7)));have O:=c1L wr;have hZ:HX (un (un X oo) M) wr:=hY.unX (b7.ext b4);have j0:HX (un (un X oo) M) wr.drew:=hZ.ext O;have o3:=mkx QV.mono (g6.qv (c1A l3.out (by decide))) O;have l7:Hid (hq (((2:Int):Rat))<=1):=hid (a4y 2 1 (lgI (by omega) (by omega)) (by omega));have l6:Hid (((2:Int):Rat)=2):=hid rfl;have hS:Hid (∀w',Ext wr.drew w'->w'.cell? (adr oo q)=some (.slice aa d ac)/\w'.cell? ⟨g1,o1,none⟩=some (.bool s1)/\w'.cell? ⟨g1,o1+1,none⟩=some (.slice a1 n1 c1)/\w'.cell? ⟨g1,o1+2,none⟩=some (.slice d1 k1 e1)):=hid fun w' h=>⟨(O.trans h).cell j3,j1.out noY w' (O.trans h) rfl⟩;have m1:=hY.ext0 QC.elem O;obtain⟨g,o,hg⟩:∃g o,adr M (q*3)=⟨g,o,none⟩:=⟨_,_,rfl⟩;have m9:Hd M j:=by have:=hY.hd;rw[b0h,a2.out]at this;exact this
      have i1:∀W,(Instr.indexAt 23 (.slice oo j co) (.int .i64 (q:Int))).run Tryz.prog W=.ok (.pointer (some (adr oo q))) W:=a0y a0o oo j co .i64 q c0 c2 rfl;have i2:∀W,(Instr.indexAt 24 (.slice aa d ac) (.int .i64 0)).run Tryz.prog W=.ok (.pointer (some ⟨g1,o1,none⟩)) W:=by rw[<-j6];exact a0e a0x aa d ac .i64 0 m7 (by omega)
      have i3:∀W,(Instr.indexAt 24 (.slice M j yc) (.int .i64 (q:Int))).run Tryz.prog W=.ok (.pointer (some ⟨g,o,none⟩)) W:=by rw[<-hg];exact a0e a0x M j yc .i64 q m9 (by omega)
      have b9:=hid hg;have o5:ob M u=false:=hY.not_ob (a0j F);clear hx j5 h1 c8 l2 j3 j1 g6 hg j6 hY hZ;go_wp2_with fail
      refine a0n 11 (fun w'=>w'.cell? (adr oo q)=some (.slice aa d ac)/\w'.cell? ⟨g1,o1,none⟩=some (.bool s1)/\w'.cell? ⟨g1,o1+1,none⟩=some (.slice a1 n1 c1)/\w'.cell? ⟨g1,o1+2,none⟩=some (.slice d1 k1 e1)) (by kernel_rfl) (by kernel_rfl) (hS.out _ (ExtX.refl _)) (fun b5 a=>?_);refine kt 0 a ?_;refine kt 1 a ?_;refine kt 3 a ?_;refine kt 4 a ?_;refine kt 5 a ?_;refine kt 6 a ?_;refine kt 7 a ?_;refine kt 8 a ?_;refine ks 2 (fun K hK=>?_);go_simp
      ((with_reducible refine(a3n (un (un X oo) M) wr.drew 2 j0 (by decide) (by decide)).mono ?_);rintro ee w6 ⟨t1,u6,rfl,a9⟩;obtain⟨s6,a6,n6,c6,d6,k6,e6,rfl⟩:=a9.shape)
      refine kcn hK (hS.out _ t1) (fun b5=>?_);clear hK K;refine ks 9 (fun K hK=>?_);go_simp
      ((with_reducible refine(a7Z (un (un X oo) M) w6 _ _ ((2:Int):Rat) x (j0.ext t1) (a9.qv (c1A l7.out (by decide))) (mkx QV.mono o3 t1)).mono ?_);rintro ee w7 ⟨t2,u7,rfl,h4⟩;obtain⟨s7,a7,n7,c7,d7,k7,e7,rfl⟩:=h4.shape)
      refine kcn hK (hS.out _ (t1.trans t2)) (fun b5=>?_);clear hK K;have h8:=t1.trans t2;have b6:=m1.ext0 QC.elem h8;obtain⟨_,v0,v1,v2,_,⟨q0,f0⟩,⟨q1,f1⟩,⟨q2,f2⟩,_⟩:=b6.cell3 q j9 b9.out;rw[l6.out]at h4;have c9:=b6.set3 (P:=Tryz.prog) a3C QC.elem q j9 b9.out (v0:= .bool s7) (v1:= .slice a7 n7 c7) (v2:= .slice d7 k7 e7) (x:=2*x) h4;refine kt 10 a ?_;refine kl 11 (fun K hK=>?_);go_simp
      refine hK.out _ _ ?_;clear hK K;obtain⟨r1,r2⟩:=c9;rw[U.out]at r1;have f7:=(b4.then_ (O.trans h8) (fun _ _ _=>rfl)).own b6 (c1B _) r2;have o0:=(l0.ext (O.trans h8)).extY r2 (fun _ D=>a0u D) o5;clear i1 i2 i3 q0 q1 q2 f0 f1 f2;go_wp2_with fail
      go_roundw
      case rel=>exact⟨q+1,by go_num,by omega,r1,o0,f7⟩
      case measure=>simp[intOf];omega
     ·have p8:q=j:=by omega
      have hf:=hid (Y.out wr _ b4 l0 hY (by rw[b0h];exact a2.out) (b9Q e2 I.out q));clear Y;go_wp2_with fail
      go_ret2
      exact hf.out
def a6W(X:Nat->Bool)(tb n:Nat)(w:World)(e:Ending)(w':World):Prop:=ExtX (tbm tb) w w'/\a0L X tb w'/\∃vx vy p y,e=.returned (.tuple #[vx,vy])/\MV (mk X w') vx p/\RV (mk X w') vy y/\BM 4 p/\BR 4 y/\p.length<=n/\y.length<=n+1/\((∀r∈p,r.length<=4)\/(∀r∈p,12<=r.length/\r.length<=13))
theorem a9g{X:Nat->Bool}{b a:Nat}{T:TypeId}{w:World}{oo:Option Addr}{l:List (List Rat)}(c:OL RV 1 X b T w oo a l):MV (mk X w) (.slice oo l.length a) l:=⟨oo,a,rfl,c.lenCap,c.sl RV.elem⟩
theorem b4d{B C:Nat}{l:List Rat}(h:BR B l)(a:B<=C):BR C l:=fun q hq=>c1A (h q hq) a
theorem b0j(X:Nat->Bool)(tb n:Nat)(w:World)(u v:Value)(p:List (List Rat))(y:List Rat)(ht:a0L X tb w)(hX:HX X w)(hu:MV (mk X w) u p)(hv:RV (mk X w) v y)(hp1:1<=p.length)(hpn:p.length<=n)(hn:n<=8)(hyl:y.length=p.length)(hpB:BM 4 p)(hyB:BR 4 y)(hpr:∀r∈p,r.length<=4):Calls Tryz.prog 10 #[.pointer (some ⟨tb,0,none⟩),u,v] w (a6W X tb n w):=by
 have hsub:=a4j ht.1;have htX:=ht.1;obtain⟨po,pc,rfl,hpc,hps⟩:=id hu;obtain⟨yo,yc,rfl,hyc,hys⟩:=id hv;obtain⟨k,hk⟩:=c1F p.length;have hk':=hid hk;rw[hyl]at hyc hv;rw[hk]at hp1 hpn hpc hyc hv;have hyk:=hid (hyl.trans hk);rw[hyl,hk];clear hu hys hk hyl;go_enter Tryz.func10,Tryz.ntmps10
 go_wp2_with (at_builtin;refine a9W a0o rfl RV.elem hX p rfl rfl hk'.out.symm hps (by omega) (by omega) ?_;intro oo co w1 hO1 hE1)
 have ht1:=ht.old hE1 (fun j hj=>hO1.ob_lt hj);have hF1:ExtX (tbm tb) w w1:=ExtX.of hE1;have hv1:RV (mk (un X oo) w1) (.slice yo k yc) y:=a2j RV.mono hv hE1 (fun j hj=>hO1.ob_lt hj);clear hps hE1 hv;refine(a1L (un X oo) tb 6 w1 ht1 (by omega)).mono ?_;rintro e w3 ⟨hE3,ht3,m,rfl,hm⟩;have hO3:=hO1.ext RV.elem hE3 (fun k _ hk=>hsub k hk) (fun _ _ h=>h);have hF3:=hF1.trans hE3;have hX3:=hX.ext hF3;have hv3:RV (mk (un X oo) w3) (.slice yo k yc) y:=RV.mono _ _ _ _ (a0s hE3 fun k hk=>a0j (hsub k hk)) hv1;clear hO1 hF1 ht1 hE3 hv1;have hcase:m=0\/m=1\/m=2\/m=3\/m=4\/m=5:=by omega
 rcases hcase with rfl|rfl|rfl|rfl|rfl|rfl
 ·have hd1:Hid (((k:Int)+1)=((k+1:Nat):Int)):=hid (by omega)
  have hXu3:HX (un X oo) w3:=hO3.unX hX3;clear hv3;go_wp2_with fail
  rw[hd1.out];refine(a5v (un X oo) tb (k+1) w3 ht3 hXu3 (by omega)).mono ?_;rintro e w6 ⟨hE6,zo,z,zc,rfl,hzl,hzc,hzB,ht6,hZ⟩;have hO6:=hO3.ext RV.elem hE6 (fun k _ hk=>hsub k hk) (fun _ _ h=>h);have hm6:=a9g hO6;rw[hk'.out]at hm6;have hRC:RC (mk (un X oo) w6) (.slice zo (k+1) zc) z:=⟨zo,zc,by rw[hzl],by rw[hzl];exact hzc,hZ.sl QC.elem⟩;have hRV:=RV.mono _ _ _ _ (a1a (X:=X) fun k _ hk=>a0j hk) (RC.rv hRC (fun q hq=>c1A (hzB q hq) (by decide)));have hout:a6W X tb n w (.returned (.tuple #[.slice oo k co,.slice zo (k+1) zc])) w6:=⟨hF3.trans hE6,(ht6.unX (a0j htX)).unX htX,_,_,p,z,rfl,hm6,hRV,hpB,b4d hzB (by decide),by rw[hk'.out];exact hpn,by omega,.inl hpr⟩;have hout':=hid hout;clear hout hm6 hRC hRV hO6 hZ;go_wp2_with fail
  go_ret2
  exact hout'.out
 ·have hout:a6W X tb n w (.returned (.tuple #[.slice none 0 0,.slice none 0 0])) w3:=⟨hF3,ht3.unX htX,_,_,[],[],rfl,SlV.zero _ _ _,SlV.zero _ _ _,fun r hr=>by simp at hr,fun r hr=>by simp at hr,by simp,by simp,.inl fun r hr=>by simp at hr⟩
  have hout':=hid hout;clear hout;go_wp2_with fail
  go_ret2
  exact hout'.out
 ·go_wp2_with fail
  refine(a1L (un X oo) tb k w3 ht3 (by omega)).mono ?_;rintro e w4 ⟨hE4,ht4,i,rfl,hi⟩;go_wp2_with fail
  refine(a1L (un X oo) tb 5 w4 ht4 (by omega)).mono ?_;rintro e w5 ⟨hE5,ht5,c,rfl,hc⟩;have hE45:=hE4.trans hE5;have hO5:=hO3.ext RV.elem hE45 (fun k _ hk=>hsub k hk) (fun _ _ h=>h);have hF5:=hF3.trans hE45;have hXu5:=hO5.unX (hX.ext hF5);go_wp2_with fail
  refine(a5v (un X oo) tb c w5 ht5 hXu5 (by omega)).mono ?_;rintro e w6 ⟨hE6,zo,z,zc,rfl,hzl,hzc,hzB,ht6,hZ⟩;have hO6:=hO5.ext RV.elem hE6 (fun k _ hk=>hsub k hk) (fun _ _ h=>h);have hF6:=hF5.trans hE6;have hRC:RC (mk (un X oo) w6) (.slice zo c zc) z:=⟨zo,zc,by rw[hzl],by rw[hzl];exact hzc,hZ.sl QC.elem⟩;have hRV:=RC.rv hRC (fun q hq=>c1A (hzB q hq) (by decide));have ht6u:a0L (un X oo) tb w6:=ht6.unX (a0j htX);have hik:i<k:=by omega
  have hil:i<p.length:=by rw[hk'.out];exact hik
  have hhd:=hO6.hd;rw[hk'.out]at hhd;have hls:(p.set i z).length=k:=by rw[List.length_set];exact hk'.out
  have hBs:BM 4 (p.set i z):=hpB.set (b4d hzB (by decide)) i;have hrs:∀r∈p.set i z,r.length<=4:=fun r hr=>by
   rcases List.mem_or_eq_of_mem_set hr with hr|rfl
   ·exact hpr r hr
   ·omega
  have hv6:RV (mk (un X oo) w6) (.slice yo k yc) y:=RV.mono _ _ _ _ (a0s (hE45.trans hE6) fun k hk=>a0j (hsub k hk)) hv3;clear hO3 ht3 hF3 hE4 hE5 hE45 hO5 hF5 hXu5 ht5 hE6 ht6 hZ hX3 ht4 hRC hv3;go_wp2_with (first
   |(with_reducible refine a0v a0o ?_)
   |((with_reducible refine c1J ?_);refine a2L a3L RV.elem i rfl (by simp) hO6 hil _ z rfl hRV ?_;intro w7 hO7 hE7))
  have hF7:=hF6.own hO6 (c1B _) hE7;have ht7:=ht6u.unstep (hO6.not_ob htX) hE7 (.inl rfl);have hm7:=a9g hO7;rw[hls]at hm7;have hv7:RV (mk X w7) (.slice yo k yc) y:=RV.mono _ _ _ _ (a1g hE7 (fun _ _ hk=>a0u hk) (fun _ _ hk=>a0j hk)) hv6;have hyk2:=hyk.out;have hout':Hid (a6W X tb n w (.returned (.tuple #[.slice oo k co,.slice yo k yc])) w7):=hid ⟨hF7,ht7.unX htX,_,_,_,y,rfl,hm7,hv7,hBs,hyB,by rw[hls];exact hpn,by omega,.inl hrs⟩;clear hm7 hv7 hO7 hBs hrs hls hyk2;go_wp2_with fail
  go_ret2
  exact hout'.out
 ·have hhd:=hO3.hd
  rw[hk'.out]at hhd;have h0:0<p.length:=by rw[hk'.out];omega
  obtain⟨u,hc,_,hru⟩:=hO3.cell SlV.one 0 h0;obtain⟨a0,c0,rfl,hcl0,hs0⟩:=hru;have hdd4:=hpr p[0] (c1E _);obtain⟨dd,hdd⟩:=c1F (p[0].length);rw[hdd]at hc hdd4;clear hdd;have hobt:ob oo tb=false:=hO3.not_ob htX;have htd:a0L (un X oo) tb w3.drew:=ht3.ext (ExtX.refl _).drew;have hS:Hid (∀w',ExtX (tbm tb) w3.drew w'->w'.cell? (adr oo 0)=some (.slice a0 dd c0)):=hid fun w' h=>h.cellY (show w3.drew.cell? _=_ from hc) (a3t (b6I hhd (by omega) hobt));have i1:∀m,m<k->∀W,(Instr.indexAt 23 (.slice oo k co) (.int .i64 (m:Int))).run Tryz.prog W=.ok (.pointer (some (adr oo m))) W:=fun m hm=>a0y a0o oo k co .i64 m hhd hm rfl;have i1':=hid i1;have i0:∀W,(Instr.indexAt 23 (.slice oo k co) (.int .i64 0)).run Tryz.prog W=.ok (.pointer (some (adr oo 0))) W:=i1 0 (by omega);have hkb:(k:Int)<=1099511627776:=by omega
  have hOd:=hO3.ext0 RV.elem (ExtX.refl _).drew;have hFd:ExtX (tbm tb) w w3.drew:=hF3.drew;clear hs0 hcl0 i1 h0 hO3 hF3 ht3 hX3;go_wp2_with fail
  refine a0n 12 (fun w'=>w'.cell? (adr oo 0)=some (.slice a0 dd c0)) (by kernel_rfl) (by kernel_rfl) (hS.out _ (ExtX.refl _)) (fun hHeld hOnce=>?_);refine kt 0 hOnce ?_;refine kt 1 hOnce ?_;refine kt 2 hOnce ?_;refine kt 3 hOnce ?_;refine kt 5 hOnce ?_;refine kt 6 hOnce ?_;refine kt 7 hOnce ?_;refine kt 8 hOnce ?_;refine kt 9 hOnce ?_;refine ks 4 (fun K hK=>?_);go_simp
  (go_at_call 23;(with_reducible refine(a1L (un X oo) tb k w3.drew htd hkb).mono ?_);rintro ee w4 ⟨t1,ht4,i,rfl,hi⟩)
  refine kcn hK (hS.out w4 t1) (fun hHeld=>?_);clear hK K;have hik:i<k:=by omega
  have hil:i<p.length:=by rw[hk'.out];exact hik
  have i4:=i1'.out i hik;have hO4:=hOd.ext RV.elem t1 (fun k _ hk=>hsub k hk) (fun _ _ h=>h);have hF4:=hFd.trans t1;have hXu4:HX (un X oo) w4:=hO4.unX (hX.ext hF4);have hd4:dd<=1000:=by omega
  refine ks 10 (fun K hK=>?_);go_simp
  (go_at_call 26;(with_reducible refine(a6V (un X oo) tb dd w4 ht4 hXu4 hd4).mono ?_);rintro ee w5 ⟨t2,zo,z,zc,rfl,hzl,hzc,hzB,ht5,hZ⟩)
  refine kcn hK (hS.out w5 (t1.trans t2)) (fun hHeld=>?_);clear hK K;have hO5:=hO4.ext RV.elem t2 (fun k _ hk=>hsub k hk) (fun _ _ h=>h);have hF5:=hF4.trans t2;have hRV:RV (mk (un X oo) w5) (.slice zo dd zc) z:=⟨zo,zc,by rw[hzl],by rw[hzl];exact hzc,hZ.sl QV.elem⟩;have ht5u:a0L (un X oo) tb w5:=ht5.unX (a0j htX);obtain⟨_,q0,f0,_⟩:=hO5.cell SlV.one i hil;refine kt 11 hOnce ?_;refine kl 12 (fun K hK=>?_);go_simp
  refine hK.out _ _ ?_;clear hK K;obtain⟨hO7,hE7⟩:=hO5.set1 a3L RV.elem SlV.one i hil (.slice zo dd zc) z hRV;have hF7:=hF5.own hO5 (c1B _) hE7;have ht7:=ht5u.unstep (hO5.not_ob htX) hE7 (.inl rfl);have hls:(p.set i z).length=k:=by rw[List.length_set];exact hk'.out
  have hBs:BM 4 (p.set i z):=hpB.set (b4d hzB (by decide)) i;have hrs:∀r∈p.set i z,r.length<=4:=fun r hr=>by
   rcases List.mem_or_eq_of_mem_set hr with hr|rfl
   ·exact hpr r hr
   ·omega
  clear q0 f0 i0 i4;have hXu7:=hO7.unX (hX.ext hF7);have hm7:=a9g hO7;rw[hls]at hm7;obtain⟨w7,hw7⟩:=c1F (w5.setCell (adr oo i) (.slice zo dd zc));rw[hw7]at hO7 hF7 ht7 hXu7 hm7 |-;clear hS hOd hFd htd hO4 hF4 hXu4 ht4 hO5 hF5 hE7 ht5u ht5 hZ hRV t1 t2 hHeld hw7;go_wp2_with fail
  refine(a6V (un X oo) tb k w7 ht7 hXu7 (by omega)).mono ?_;rintro e w8 ⟨hE8,zo2,z2,zc2,rfl,hzl2,hzc2,hzB2,ht8,hZ2⟩;have hRV2:RV (mk (un X oo) w8) (.slice zo2 k zc2) z2:=⟨zo2,zc2,by rw[hzl2],by rw[hzl2];exact hzc2,hZ2.sl QV.elem⟩;have hm8:MV (mk X w8) (.slice oo k co) (p.set i z):=MV.mono _ _ _ _ (a0s hE8 hsub) hm7;have hout':Hid (a6W X tb n w (.returned (.tuple #[.slice oo k co,.slice zo2 k zc2])) w8):=hid ⟨hF7.trans hE8,(ht8.unX (a0j htX)).unX htX,_,_,_,z2,rfl,hm8,RV.mono _ _ _ _ (a1a fun k _ hk=>a0j hk) hRV2,hBs,b4d hzB2 (by decide),by rw[hls];exact hpn,by omega,.inl hrs⟩;clear hm7 hm8 hRV2 hO7 hBs hrs hls hZ2;go_wp2_with fail
  go_ret2
  exact hout'.out
 ·go_wp2_with fail
  go_loopw [58] (fun o wr=>∃(i:Nat) (m:List (List Rat)),o=.int .i64 i/\i<=k/\Hid (m.length=k)/\(∀j (h:j<m.length),j<i->12<=m[j].length/\m[j].length<=13)/\BM 4 m/\OL RV 1 X w.heap.size 24 wr oo co m/\a0L (un X oo) tb wr/\ExtX (tbm tb) w wr/\RV (mk (un X oo) wr) (.slice yo k yc) y) (fun o _=>k - (intOf o).toNat)
  case atStart=>exact⟨0,p,rfl,Nat.zero_le _,hk',fun j _ h=>by omega,hpB,hO3,ht3,hF3,hv3⟩
  case round=>
   clear hO3 ht3 hF3 hX3 hv3;obtain⟨i,m,rfl,hi,hml,hlo,hmB,hO,htr,hE,hvr⟩:=hrel;have hhd:=hO.hd;rw[hml.out]at hhd;by_cases hlt:i<k
   ·have hil:i<m.length:=by rw[hml.out];exact hlt
    go_wp2_with fail
    refine(a1L (un X oo) tb 2 wr htr (by omega)).mono ?_;rintro e w4 ⟨hE4,ht4,c,rfl,hc⟩;have hO4:=hO.ext RV.elem hE4 (fun k _ hk=>hsub k hk) (fun _ _ h=>h);have hF4:=hE.trans hE4;have hXu4:=hO4.unX (hX.ext hF4);have hd1:Hid ((12:Int)+(c:Int)=((12+c:Nat):Int)):=hid (by omega);go_wp2_with fail
    rw[hd1.out];refine(a5v (un X oo) tb (12+c) w4 ht4 hXu4 (by omega)).mono ?_;rintro e w6 ⟨hE6,zo,z,zc,rfl,hzl,hzc,hzB,ht6,hZ⟩;have hO6:=hO4.ext RV.elem hE6 (fun k _ hk=>hsub k hk) (fun _ _ h=>h);have hF6:=hF4.trans hE6;have hRC:RC (mk (un X oo) w6) (.slice zo (12+c) zc) z:=⟨zo,zc,by rw[hzl],by rw[hzl];exact hzc,hZ.sl QC.elem⟩;have hRV:=RC.rv hRC (fun q hq=>c1A (hzB q hq) (by decide));have ht6u:a0L (un X oo) tb w6:=ht6.unX (a0j htX);have hls:Hid ((m.set i z).length=k):=hid (by rw[List.length_set];exact hml.out);have hBs:BM 4 (m.set i z):=hmB.set (b4d hzB (by decide)) i;have hlo2:∀j (h:j<(m.set i z).length),j<i+1->12<=(m.set i z)[j].length/\(m.set i z)[j].length<=13:=fun j h hj=>by
     by_cases e:i=j
     ·subst e
      rw[List.getElem_set_self];omega
     ·rw[List.getElem_set_ne e]
      exact hlo j (by simpa using h) (by omega)
    have hv6:RV (mk (un X oo) w6) (.slice yo k yc) y:=RV.mono _ _ _ _ (a0s (hE4.trans hE6) fun k hk=>a0j (hsub k hk)) hvr;clear hO htr hE hE4 hO4 hF4 hXu4 ht4 hE6 ht6 hZ hRC hvr hlo hmB;go_wp2_with (first
     |(with_reducible refine a0v a0o ?_)
     |((with_reducible refine c1J ?_);refine a2L a3L RV.elem i rfl (by simp) hO6 hil _ z rfl hRV ?_;intro w7 hO7 hE7))
    have hF7:=hF6.own hO6 (c1B _) hE7;have ht7:=ht6u.unstep (hO6.not_ob htX) hE7 (.inl rfl);have hv7:RV (mk (un X oo) w7) (.slice yo k yc) y:=RV.mono _ _ _ _ (a0s hE7 fun _ hk=>a0u hk) hv6;go_roundw
    case rel=>exact⟨i+1,m.set i z,by go_num,by omega,hls,hlo2,hBs,hO7,ht7,hF7,hv7⟩
    case measure=>simp[intOf];omega
   ·have hie:i=k:=by omega
    have hm7:=a9g hO;rw[hml.out]at hm7;have hyk2:=hyk.out;have hml2:=hml.out;have hout':Hid (a6W X tb n w (.returned (.tuple #[.slice oo k co,.slice yo k yc])) wr):=hid ⟨hE,htr.unX htX,_,_,_,y,rfl,hm7,RV.mono _ _ _ _ (a1a fun k _ hk=>a0j hk) hvr,hmB,hyB,by omega,by omega,.inr fun r hr=>by
     obtain⟨j,hj,rfl⟩:=List.getElem_of_mem hr;exact hlo j hj (by omega)⟩
    clear hm7 hvr hO hyk2 hml2 hlo;go_wp2_with fail
    go_ret2
    exact hout'.out
 ·have hm7:=a9g hO3
  rw[hk'.out]at hm7;have hyk2:=hyk.out;have hout':Hid (a6W X tb n w (.returned (.tuple #[.slice oo k co,.slice yo k yc])) w3):=hid ⟨hF3,ht3.unX htX,_,_,_,y,rfl,hm7,RV.mono _ _ _ _ (a1a fun k _ hk=>a0j hk) hv3,hpB,hyB,by rw[hk'.out];exact hpn,by omega,.inl hpr⟩;clear hm7 hv3 hO3 hyk2;go_wp2_with fail
  go_ret2
  exact hout'.out
section
open Go.ChangeShapes Go.WideShapes Go.ChangeAt Go.Deep
section
variable {H:Type} {enc:TypeId×Value->H} {w:World} {base:Nat} {spare:Nat->Bool} {held:Bool}
theorem a3u{x:Addr}{v:Value}(h:w.cell? (x.add 0)=some v):(∀j,x.add j=adr (some x) j)/\∃b c,x=⟨b,c,none⟩:=by
 have e:=World.cell?_spot h;obtain⟨b,c,d⟩:=x;have a:d=none:=by simpa[Addr.add]using e
 subst a;exact⟨fun j=>by rw[Addr.add_lit];simp[adr],b,c,rfl⟩
end
end
end Go.Proofs.YtjmnhbebpffoaaaGreat
