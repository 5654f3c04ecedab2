/- Parts of a proof: each theorem states what it proves, and its conditions. -/
import Derived.Test.YtnnpfhoigmegcaaGreatBkK
import Derived.Deep.RegionHeld3
set_option maxRecDepth 100000
set_option maxHeartbeats 3200000
namespace Go.Proofs.YtnnpfhoigmegcaaGreat
open Go.RowKit Go.Rep Go.Lim Go.Lin
theorem a9V(X:Nat->Bool)(w:World)(u:Value)(x:Mat)(B:Nat)(hX:HX X w)(hu:MV (mk X w) u x)(hl:x.length<=8)(hB:BM B x)(hB1:1<=B)(hBB:B<=1000):Calls Tryz.prog 57 #[u] w (fun e w'=>Ext w w'/\e= .returned (.tuple #[.int .i64 (plN x:Int), .int .i64 (plE x)])):=by
 have hshp:=a6f X w u x hu (by omega);unfold b2k at hshp;cases hd:a2F x with
 |false=>
  have e1:plE x=6:=by unfold plE;rw[hd,if_neg (by decide)]
  have e2:(plN x:Int)=0:=by unfold plN;rw[hd,if_neg (by decide)];rfl
  rw[hd]at hshp;rw[e1,e2];clear hd e1 e2 hu;go_enter Tryz.func57,Tryz.ntmps57
  go_wp2_with fail
  refine hshp.mono ?_;rintro e w1 ⟨hE1,k,rfl,_⟩;go_wp2_with fail
  go_ret2
  exact⟨hE1,rfl⟩
 |true=>
  obtain⟨hs,h1,h64,hc1,hc4⟩:=a3f hd;have e1:plE x=0:=by unfold plE;rw[hd,if_pos rfl]
  have e2:plN x=a3u x (a0n x):=by unfold plN;rw[hd,if_pos rfl]
  rw[hd]at hshp;rw[e1,e2];obtain⟨hf,_⟩:=a2P hs (by omega) hc1 (by omega) (by omega);have hhb:=a5Y hB hB1;have hrk:=hid fun w' (h:Ext w w')=>(by
   have:=a9U X w' u x x.length (a0n x) (hX.ext h) (mkx MV.mono hu h) hf rfl rfl (a5b hs hhb hc4 (by omega)).2;rw[a4C]at this;exact this:Calls Tryz.prog 51 #[u] w' (fun e w''=>Ext w' w''/\e= .returned (.tuple #[.int .i64 ((a1C x (a0n x)).2.length:Int), .int .i64 0])))
  have hrays:=hid fun w' (h:Ext w w') (h2:a0n x<=x.length)=>b2q X w' u x x.length (a0n x) B (hX.ext h) (mkx MV.mono hu h) hs h1 hl hc1 hc4 h2 hB hB1 hBB;have hrm:=hid fun d (h:d∈a0R x (a0n x))=>a2B hs rfl hc1 hc4 hhb hBB h;have hpr:=a4h hs;have hple:=a6Y x (a0n x);have hpd:a3u x (a0n x)=if(a1C x (a0n x)).2.length<a0n x then x.length else a7L ((a0R x (a0n x)).map (a2u x (a0n x))):=rfl
  obtain⟨ao,ca,rfl,hca,hsa⟩:=hu;obtain⟨n,hn⟩:∃n,x.length=n:=⟨_,rfl⟩;have hn':=hid hn;have hhx:=hsa.hd;rw[hn]at hs h1 hl hrays hpr hple hpd hca hhx hrk hshp |-;obtain⟨c,hc⟩:∃c,a0n x=c:=⟨_,rfl⟩;rw[hc]at hs hc1 hc4 hrk hrays hrm hpr hple hpd hshp |-;obtain⟨R,hR⟩:∃R,(a1C x c).2.length=R:=⟨_,rfl⟩;rw[hR]at hrk hpr hpd;have hxB:=hid hB;have hs':=hid hs;clear hR hc hn hf hhb e1 e2 hB hd h64;by_cases hr:R<c
  ·rw[if_pos hr]at hpd
   rw[hpd];have hRd:(R:Int)<(c:Int):=by omega
   clear hrays hrm hsa hpd hple;go_enter Tryz.func57,Tryz.ntmps57
   go_wp2_with fail
   refine hshp.mono ?_;rintro e w1 ⟨hE1,k,rfl,hk⟩;obtain rfl:=hk (by trivial);have hr1:=hrk.out w1 hE1;go_wp2_with fail
   refine hr1.mono ?_;rintro e w2 ⟨hE2,rfl⟩;go_wp2_with fail
   go_ret2
   exact⟨hE1.trans hE2,rfl⟩
  ·rw[if_neg hr]at hpd
   rw[hpd];have hRd:¬(R:Int)<(c:Int):=by omega
   have hcn:c<=n:=by omega
   obtain⟨L,hL⟩:∃L,a0R x c=L:=⟨_,rfl⟩;rw[hL]at hrays hrm |-;have hLb:L.length<=1000:=by rw[<-hL];exact b2o hs hl hc1
   have hfl:=hid (a5O x c);rw[hn'.out]at hfl;have hmx:=hid fun q=>(a8v fun k hk=>by
    obtain⟨d,_,rfl⟩:=List.mem_map.1 hk;exact hfl.out d:a7L ((L.take q).map (a2u x c))<=n)
   clear hL hpd hple;go_enter Tryz.func57,Tryz.ntmps57
   go_wp2_with fail
   refine hshp.mono ?_;rintro e w1 ⟨hE1,k,rfl,hk⟩;obtain rfl:=hk (by trivial);have hr1:=hrk.out w1 hE1;clear hk hshp hrk;go_wp2_with fail
   refine hr1.mono ?_;rintro e w2 ⟨hE2,rfl⟩;have hr2:=hrays.out w2 (hE1.trans hE2) hcn;clear hr1 hrays;go_wp2_with fail
   refine hr2.mono ?_;rintro e w3 ⟨hE3,u3,rfl,lo,lc,rfl,hlc,hls⟩;have hE03:=hE1.trans (hE2.trans hE3);have hX3:=hX.ext hE03;have hhl:=hls.hd;obtain⟨K,hK⟩:∃K,L.length=K:=⟨_,rfl⟩;have hK':=hid hK;have hKb:K<=1000:=by rw[<-hK];exact hLb
   rw[hK]at hlc hhl |-;have hx3:=hsa.mono RV.mono (a0l hE03);clear hr2 hK hE1 hE2 hE3 hsa;go_wp2_with fail
   go_loopw [8,35] (fun a cx wr=>∃q:Nat,cx= .int .i64 q/\q<=K/\a= .int .i64 ((a7L ((L.take q).map (a2u x k)):Nat):Int)/\Ext w3 wr) (fun _ cx _=>K - (intOf cx).toNat)
   case atStart=>exact⟨0,rfl,Nat.zero_le _,rfl,ExtX.refl _⟩
   case round=>
    obtain⟨q,rfl,hqK,rfl,hE⟩:=hrel;have hXr:=hX3.ext hE;by_cases hlt:q<K
    ·have hqL:q<L.length:=by rw[hK'.out];exact hlt
     obtain⟨a1,c1,hX1,hc1',hcl1,hq1⟩:=(hls.mono RC.mono (a0l hE)).row q hqL;have k00:=hc1'.out noY wr (ExtX.refl _) rfl;have hmq:=hmx.out q;have hsn:a7L ((L.take (q+1)).map (a2u x k))=max (a7L ((L.take q).map (a2u x k))) (a2u x k L[q]):=by
      rw[List.take_succ_eq_append_getElem hqL,List.map_append,List.map_singleton,a8h]
     have hsn':=hid hsn;obtain⟨hdl,hdB⟩:=hrm.out L[q] (List.getElem_mem _);obtain⟨d,hd⟩:∃d,L[q]=d:=⟨_,rfl⟩;have hdB2:BR 42875000 d:=fun v hv=>by
      rw[hd]at hdB;have:=hdB v hv;have h2:=Nat.mul_le_mul_left 42875 hBB;omega
     rw[hd]at k00 hcl1 hq1 hdl hsn';rw[hdl]at k00 hcl1;have hdv:RV (mk X wr) (.slice a1 k c1) d:=⟨a1,c1,by rw[hdl],by rw[hdl];exact hcl1,hq1.qv fun v hv=>Nat.le_trans (hdB2 v hv) (by decide)⟩;have hall:=hid (a8g x k d);rw[hn'.out]at hall;have hfd:=hfl.out d;obtain⟨m,hm⟩:∃m,a7L ((L.take q).map (a2u x k))=m:=⟨_,rfl⟩;rw[hm]at hmq hsn' |-;have hxr:=hx3.mono RV.mono (a0l hE);have hdl':=hid hdl;clear hc1' hcl1 hq1 hd hdB hm hsn hdl;obtain⟨wo,hwo⟩:∃wo,wo=wr:=⟨_,rfl⟩;subst hwo;go_wp2_with (with_reducible refine a0m a0q (by omega) (by assumption) ?_)
     go_loopw [11,41] (fun o cx wx=>∃i:Nat,cx= .int .i64 i/\o= .int .i64 (a3M x k d i:Int)/\i<=n/\Ext wo wx) (fun _ cx _=>n - (intOf cx).toNat)
     case atStart=>exact⟨0,rfl,by simp[a3M,a2u],Nat.zero_le _,ExtX.refl _⟩
     case round=>
      obtain⟨i,rfl,rfl,hi,hEi⟩:=hrel;clear k00;by_cases hli:i<n
      ·have hil:i<x.length:=by rw[hn'.out];exact hli
       have hft:=a9Q x k d i;have hmo:=hid (a6M (c:=k) (d:=d) hil);obtain⟨a2,c2,hX2,hc2,hcl2,hq2⟩:=(hxr.mono RV.mono (a0l hEi)).row i hil;have hrl:x[i].length=k:=hs'.out.2 _ (List.getElem_mem _);have hrB:=hxB.out _ (List.getElem_mem hil);have hbd:=a6e hrl hc4 hrB hdB2 (by decide) hBB;have hrv:RV (mk X wr) (.slice a2 k c2) x[i]:=⟨a2,c2,by rw[hrl],by rw[hrl]at hcl2;rw[hrl];exact hcl2,hq2⟩;have hdot:=hid (a6N X wr (.slice a2 k c2) (.slice a1 k c1) x[i] d (hXr.ext hEi) hrv (mkx RV.mono hdv hEi) (by omega) (by rw[hrl,hdl'.out]) (fun q hq=>Nat.le_trans (hbd.1 q hq) (by decide)) (fun q hq=>Nat.le_trans (hbd.2 q hq) (by decide)));have hdq:Hid (hq (a8G x[i] d)<=68719476736):=hid (Nat.le_trans (hbd.1 _ (Nat.le_refl _)) (by decide));rw[a4j hrl]at hdot hdq;rw[hrl]at hc2;have k1:=hc2.out noY wr (ExtX.refl _) rfl;obtain⟨D,hD⟩:∃D,dot k (vec d) (vec x[i])=D:=⟨_,rfl⟩;rw[hD]at hdot hdq hmo;obtain⟨f,hf⟩:∃f,a3M x k d i=f:=⟨_,rfl⟩;rw[hf]at hft hmo |-;have ef:IntKind.i64.wrap ((f:Int)+1)=(f:Int)+1:=IntWalk.i64_in _ (by omega);clear hc2 hq2 hcl2 hrl hrB hbd hrv hD hf;by_cases h0:D=0
       ·have hsg:(D.num.sign==(0:Int))=true:=by rw[a4J.2 h0];rfl
        have hmo2:Hid (a3M x k d (i+1)=f+1):=hid (by rw[hmo.out,if_pos h0]);obtain⟨sg,hsg'⟩:∃sg,D.num.sign=sg:=⟨_,rfl⟩;have hsq:=hid fun w2 u (h1:HX X w2) (h2:QC (mk X w2) u D)=>(by have:=a5V X w2 u D h1 (h2.qv hdq.out);rw[hsg']at this;exact this:Calls Tryz.prog 42 #[u] w2 (a2y w2 sg));rw[hsg']at hsg;clear hsg' h0;go_wp2_with (first|(with_reducible refine a0m a0q (by omega) (by assumption) ?_)|(go_at_call 47;refine hdot.out.mono ?_;rintro ee w7 ⟨t7,u7,rfl,hu7⟩)|(go_at_call 42;refine(hsq.out w7 u7 ((hXr.ext hEi).ext t7) hu7).mono ?_;rintro ee w8 ⟨t8,rfl⟩))
        go_roundw
        case rel=>exact⟨i+1,by go_num,by rw[hmo2.out];go_num,by omega,hEi.trans (t7.trans t8)⟩
        case measure=>simp[intOf];omega
       ·have hsg:(D.num.sign==(0:Int))=false:=a2v (fun h=>h0 (a4J.1 h))
        have hmo2:Hid (a3M x k d (i+1)=f):=hid (by rw[hmo.out,if_neg h0];rfl);obtain⟨sg,hsg'⟩:∃sg,D.num.sign=sg:=⟨_,rfl⟩;have hsq:=hid fun w2 u (h1:HX X w2) (h2:QC (mk X w2) u D)=>(by have:=a5V X w2 u D h1 (h2.qv hdq.out);rw[hsg']at this;exact this:Calls Tryz.prog 42 #[u] w2 (a2y w2 sg));rw[hsg']at hsg;clear hsg' h0;go_wp2_with (first|(with_reducible refine a0m a0q (by omega) (by assumption) ?_)|(go_at_call 47;refine hdot.out.mono ?_;rintro ee w7 ⟨t7,u7,rfl,hu7⟩)|(go_at_call 42;refine(hsq.out w7 u7 ((hXr.ext hEi).ext t7) hu7).mono ?_;rintro ee w8 ⟨t8,rfl⟩))
        go_roundw
        case rel=>exact⟨i+1,by go_num,by rw[hmo2.out],by omega,hEi.trans (t7.trans t8)⟩
        case measure=>simp[intOf];omega
      ·obtain rfl:i=n:=by omega
       rw[hall.out];obtain⟨f,hf⟩:∃f,a2u x k d=f:=⟨_,rfl⟩;rw[hf]at hfd hsn'
       (try rw[hf])
       clear hall hf;go_wp2_with fail
       go_roundw
       case rel=>exact⟨q+1,by go_num,by omega,by rw[hsn'.out,show((max m f:Nat):Int)=max (m:Int) (f:Int)by omega],hE.trans hEi⟩
       case measure=>simp[intOf];omega
    ·obtain rfl:q=K:=by omega
     rw[<-hK'.out,List.take_length];go_wp2_with fail
     go_ret2
     exact⟨hE03.trans hE,rfl⟩
def b6v(X:Nat->Bool)(tb:Nat)(R:Mem->Value->Rat->Prop)(k:Nat)(w:World)(e:Ending)(w':World):Prop:=ExtX (tbm tb) w w'/\a0C X tb w'/\∃u q,e= .returned u/\R (mk X w') u q/\hq q<=k
theorem a0C.box{X:Nat->Bool}{c nb:Nat}{w W:World}(h:a0C X c w)(d:Ext w W):a0C (a0e X w.heap.size nb) c W:=by
 have b:=h.lt;obtain⟨j,lo,l,a,at_,e,f,g,i⟩:=h;exact⟨a9C j,lo,l,a,at_,by rw[d.block c b rfl];exact e,f,g,i.mono (a0v.mono _) (a0i d)⟩
theorem a0C.unbox{X:Nat->Bool}{c b nb:Nat}{w:World}(h:a0C (a0e X b nb) c w)(i:X c=true):a0C X c w:=by
 obtain⟨_,lo,l,a,at_,d,e,f,g⟩:=h;exact⟨i,lo,l,a,at_,d,e,f,g.mono (a0v.mono _) a0h⟩
theorem a0C.store{X:Nat->Bool}{a b nb:Nat}{w c:World}(h:a0C (a0e X b nb) a w)(d:ExtX (ob (some ⟨b,0,Option.none⟩)) w c)(g:0<nb)(f:a≠b):a0C (a0e X b nb) a c:=
 h.extY d (fun k e=>by
  have:k=b:=by
   have:=e;simp[ob]at this;omega
  subst this;simp[a0e];omega) (a0c f)
theorem _root_.Go.Rep.ExtX.tbox{a b:Nat}{w c d:World}(h:ExtX (tbm a) w c)(e:ExtX (ob (some ⟨b,0,none⟩)) c d)(f:w.heap.size<=b):ExtX (tbm a) w d:=h.then_ e (fun i hi _=>a0c (by omega))
theorem b7H{n:Nat}(h:n<4294967296):lg n<=1:=by
 by_cases a:n=0
 ·subst a;simp[a5K]
 ·rw[a2I (by omega) h];exact Nat.le_refl _
theorem lgI{a:Int}(b: -100000<=a)(c:a<=100000):lg a.natAbs<=1:=b7H (by omega)
theorem b2r{a k:Int}(b: -100000<=a)(c:a<=100000)(d: -100000<=k)(e:k<=100000):hq ((a:Rat)/(k:Rat))<=2:=by
 have:=hq_div (a:Rat) (k:Rat);have:=a5l a 1 (lgI b c) (by omega);have:=a5l k 1 (lgI d e) (by omega);omega
theorem a9W(X:Nat->Bool)(i:Nat)(w:World)(R:a0C X i w)(hX:HX X w):Calls Tryz.prog 61 #[.pointer (some ⟨i,0,none⟩)] w (b6v X i QC 2 w):=by
 have a0:=R.lt;have D:=R.1;obtain⟨W,hW,P,M,hz⟩:=a0Q w #[.bool false, .slice none 0 0, .slice none 0 0] 41;have y:HX (a0e X w.heap.size 1) W:=hX.boxes hz;have C:a0C (a0e X w.heap.size 1) i W:=R.box P;obtain⟨b,hb⟩:∃b,w.heap.size=b:=⟨_,rfl⟩;have z:w.heap.size<=b:=by omega
 have o:i≠b:=by omega
 have h:b≠i:=by omega
 rw[hb]at M hz y C;have G:ExtX (tbm i) w W:=ExtX.of P;clear P;go_enter Tryz.func61,Tryz.ntmps61
 go_wp2_with fail
 refine(a1f (a0e X b 1) i 8 _ C (by omega)).mono ?_;rintro e w1 ⟨q,A,m,rfl,hm⟩;have N:=M.ext q (a2Q h);have v:=y.ext q;have t:=G.trans q;clear M y C G q;by_cases h6:m=6
 ·subst h6
  go_wp2_with fail
  refine(a1f (a0e X b 1) i 13 _ A (by omega)).mono ?_;rintro e L ⟨a,l,J,rfl,H⟩;have r:J<13:=by omega
  have E:=N.ext a (a2Q h);have g:=v.ext a;have j:=t.trans a;go_wp2_with fail
  refine(a1f (a0e X b 1) i 6 _ l (by omega)).mono ?_;rintro e S ⟨f,B,m3,rfl,Q⟩;have I:m3<6:=by omega
  have O:=E.ext f (a2Q h);have x:=g.ext f;have u:=j.trans f;go_wp2_with fail
  refine(a4X (a0e X b 1) S _ _ x (by omega) (by omega) (by omega) (by omega) (by omega) (Nat.le_trans (lgI (by omega) (by omega)) (by omega)) (Nat.le_trans (lgI (by omega) (by omega)) (by omega))).mono ?_;rintro e w4 ⟨c,u4,rfl,d⟩;obtain⟨s6,T,n6,U,V,Z,Y,rfl⟩:=d.shape;have F:=O.ext0 c;have n:=B.ext c;have k:=u.trans (ExtX.of c);go_wp2_with ((with_reducible show wpList _ _ _ (⟨_, .store _ _ _,_,_,_,_⟩::_) _ _);refine a0a a0k rfl rfl F rfl rfl (a1n _ _ _ _ _ _ _) ?_;intro w7 K p)
  have s:=QC.mono _ _ _ _ a0h (QC.mono _ _ _ _ (a0f p (by omega) (by omega)) d);exact bodyPost_ret (a0d rfl rfl a0k K rfl) rfl ⟨k.tbox p z,(n.store p (by omega) o).unbox D,_,_,rfl,s,b2r (by omega) (by omega) (by omega) (by omega)⟩
 ·by_cases s:m=7
  ·subst s
   go_wp2_with fail
   refine(a1f (a0e X b 1) i 2001 _ A (by omega)).mono ?_;rintro e L ⟨a,l,J,rfl,H⟩;have r:J<2001:=by omega
   have E:=N.ext a (a2Q h);have g:=v.ext a;have j:=t.trans a;go_wp2_with fail
   refine(a7x (a0e X b 1) i [1,1,7] _ _ _ L 1 7 l g rfl rfl (by simp) (by simp) (hid (by simp))).mono ?_;rintro e S ⟨f,B,m3,rfl,Q,I⟩;have O:=E.ext f (a2Q h);have x:=g.ext f;have u:=j.trans f;go_wp2_with fail
   refine(a4X (a0e X b 1) S _ _ x (by omega) (by omega) (by omega) (by omega) (by omega) (Nat.le_trans (lgI (by omega) (by omega)) (by omega)) (Nat.le_trans (lgI (by omega) (by omega)) (by omega))).mono ?_;rintro e w4 ⟨c,u4,rfl,d⟩;obtain⟨s6,T,n6,U,V,Z,Y,rfl⟩:=d.shape;have F:=O.ext0 c;have n:=B.ext c;have k:=u.trans (ExtX.of c);go_wp2_with ((with_reducible show wpList _ _ _ (⟨_, .store _ _ _,_,_,_,_⟩::_) _ _);refine a0a a0k rfl rfl F rfl rfl (a1n _ _ _ _ _ _ _) ?_;intro w7 K p)
   have s:=QC.mono _ _ _ _ a0h (QC.mono _ _ _ _ (a0f p (by omega) (by omega)) d);exact bodyPost_ret (a0d rfl rfl a0k K rfl) rfl ⟨k.tbox p z,(n.store p (by omega) o).unbox D,_,_,rfl,s,b2r (by omega) (by omega) (by omega) (by omega)⟩
  ·have t6:((m:Int)==6)=false:=a2v (by omega)
   have t7:((m:Int)==7)=false:=a2v (by omega);go_wp2_with fail
   refine(a1f (a0e X b 1) i 9 _ A (by omega)).mono ?_;rintro e L ⟨a,l,J,rfl,H⟩;have r:J<9:=by omega
   have E:=N.ext a (a2Q h);have g:=v.ext a;have j:=t.trans a;go_wp2_with fail
   refine(a3W (a0e X b 1) L _ g (by omega) (by omega)).mono ?_;rintro e w4 ⟨c,u4,rfl,d⟩;obtain⟨s6,T,n6,U,V,Z,Y,rfl⟩:=d.shape;have F:=E.ext0 c;have n:=l.ext c;have k:=j.trans (ExtX.of c);go_wp2_with ((with_reducible show wpList _ _ _ (⟨_, .store _ _ _,_,_,_,_⟩::_) _ _);refine a0a a0k rfl rfl F rfl rfl (a1n _ _ _ _ _ _ _) ?_;intro w7 K p)
   have s:=QC.mono _ _ _ _ a0h (QC.mono _ _ _ _ (a0f p (by omega) (by omega)) d);exact bodyPost_ret (a0d rfl rfl a0k K rfl) rfl ⟨k.tbox p z,(n.store p (by omega) o).unbox D,_,_,rfl,s,Nat.le_trans (a5l _ 1 (lgI (by omega) (by omega)) (by omega)) (by omega)⟩
def b2s(X:Nat->Bool)(tb:Nat)(R:Mem->Value->Rat->Prop)(k n:Nat)(w:World)(e:Ending)(w':World):Prop:=ExtX (tbm tb) w w'/\∃(ao:Option Addr) (l:List Rat) (cap:Nat),e= .returned (.slice ao n cap)/\l.length=n/\n<=cap/\BR k l/\a0C (un X ao) tb w'/\OL R 3 X w.heap.size 41 w' ao cap l
theorem a4L(X:Nat->Bool)(j n:Nat)(w:World)(K:a0C X j w)(U:HX X w)(hn:n<=1000):Calls Tryz.prog 44 #[.pointer (some ⟨j,0,none⟩), .int .i64 (n:Int)] w (b2s X j QC 2 n w):=by
 have u:=a3e K.1;go_enter Tryz.func44,Tryz.ntmps44
 go_wp2_with fail
 go_loopw [5,6] (fun s c wr=>∃(i:Nat) (oo:Option Addr) (y:Nat) (l:List Rat),c= .int .i64 i/\s= .slice oo i y/\l.length=i/\i<=n/\BR 2 l/\OL QC 3 X w.heap.size 41 wr oo y l/\a0C (un X oo) j wr/\ExtX (tbm j) w wr) (fun _ c _=>n - (intOf c).toNat)
 case atStart=>exact⟨0,none,0,[],rfl,rfl,rfl,Nat.zero_le _,fun x hx=>by simp at hx,OL.nil _ _ _ _ _ _,K.none,ExtX.refl _⟩
 case round=>
  obtain⟨i,oo,y,l,rfl,rfl,b,V,O,p,g,z⟩:=hrel;have f:HX X wr:=U.ext z;by_cases Y:i<n
  ·have r:HX (un X oo) wr:=p.unX f
   have t:=hid b;clear b;go_wp2_with fail
   refine(a9W (un X oo) j _ g r).mono ?_;rintro e w2 ⟨a,L,u6,q,rfl,v,J⟩;obtain⟨s6,Q,n6,R,S,Z,T,rfl⟩:=v.shape;have d:=p.ext QC.elem a (fun k _ W=>u k W) (fun _ _ h=>h);have E:HX X w2:=f.ext a;have m:=z.trans a;have F:=m.size;clear p g z a f r;go_wp2_with (at_builtin;refine a0H (l:=l) a0J rfl QC.elem (by omega) E i t.out rfl rfl d (.agg #[.bool s6, .slice Q n6 R, .slice S Z T]) q rfl v (by omega) (by omega) ?_;intro N A w7 D o I)
   have C:=m.own d (Nat.le_refl _) o;have M:=L.unstep (d.not_ob K.1) o I;have B:BR 2 (l++[q]):=fun x hx=>by
    rcases List.mem_append.1 hx with h|h
    ·exact O x h
    ·rw[List.mem_singleton.1 h];exact J
   have H:(l++[q]).length=i+1:=by rw[List.length_append,t.out];rfl
   go_roundw
   case rel=>exact⟨i+1,N,A,_,by go_num,by go_num,H,by omega,B,D,M,C⟩
   case measure=>simp[intOf];omega
  ·have G:i=n:=by omega
   subst G;have P:=p.lenCap;rw[b]at P;go_wp2_with fail
   go_ret
   exact⟨z,oo,l,y,rfl,b,P,O,g,p⟩
theorem a9e(n:Nat)(h:n<100):Dig [n]:=fun x hx=>by
 have:x=n:=by simpa using hx
 subst this;have:=a1b;omega
theorem a0b.lit1(X:Nat->Bool)(w:World)(n:Nat)(e:TypeId)(a:HX X w):Sl (a0b .u32) 1 (mk X (w.alloc (.cells #[.int .u32 (n:Int)] e))) (some ⟨w.heap.size,0,none⟩) [n]:=
 (OL.lit (a0b.elem .u32) a (Nat.le_refl _) [.int .u32 (n:Int)] [n] _ (by simp[a0g,Value.cells]) rfl (fun i hi _=>by
  have:i=0:=by simpa using hi
  subst this;rfl) (by simp)).sl (a0b.elem _)
theorem b4i{h:Mem}{s:Bool}{k c:Option Addr}{mc e:Nat}{m d:List Nat}(l:Sl (a0b .u32) 1 h k m)(hd:Sl (a0b .u32) 1 h c d)(i:m.length<=mc)(f:d.length<=e)(b:Dig m)(a:Dig d)(j:m.length<=3)(g:d.length<=3):∃q,QV h (.agg #[.bool s, .slice k m.length mc, .slice c d.length e]) q/\hq q<=3:=
 ⟨_,⟨s,k,mc,m,c,e,d,rfl,i,f,b,a,by omega,by omega,l,hd,rfl⟩,a8x s m d 3 b a j g (by omega)⟩
theorem b4j(X:Nat->Bool)(tb:Nat)(w:World)(ht:a0C X tb w)(hX:HX X w):Calls Tryz.prog 23 #[.pointer (some ⟨tb,0,none⟩)] w (b6v X tb QV 3 w):=by
 have htb:=ht.lt;have htX:=ht.1;obtain⟨W,hW,hE,b0,hz⟩:=a0Q w #[.bool false, .slice none 0 0, .slice none 0 0] 41;have hXW:HX (a0e X w.heap.size 1) W:=hX.boxes hz;have htW:a0C (a0e X w.heap.size 1) tb W:=ht.box hE;obtain⟨b,hb⟩:∃b,w.heap.size=b:=⟨_,rfl⟩;have hbw:w.heap.size<=b:=by omega
 have htb':tb≠b:=by omega
 have hbt:b≠tb:=by omega
 rw[hb]at b0 hz hXW htW;have hEb:ExtX (tbm tb) w W:=ExtX.of hE;clear hE;go_enter Tryz.func23,Tryz.ntmps23
 go_wp2_with fail
 refine(a9W (a0e X b 1) tb _ htW hXW).mono ?_;rintro e w1 ⟨hE1,ht1,u1,q,rfl,hu1,hq1⟩;obtain⟨s,ma,mc,m,da,dc,d,rfl,hmc,hdc,hcq,hms,hds⟩:=hu1;have hmd:Dig m:=hcq.1.2.1;have hdd:Dig d:=hcq.2.1;have hml:m.length<=2:=by have:=a0w q;rw[hcq.1.len];omega
 have hdl:d.length<=2:=by have:=b5t q;rw[hcq.2.len];omega
 have b1:=b0.ext hE1 (a2Q hbt);have hX1:=hXW.ext hE1;have hF1:=hEb.trans hE1;have hz1:=hE1.size;have bx:=Bx.new w1 #[.bool false, .slice none 0 0, .slice none 0 0] 41;obtain⟨bo,hbo⟩:∃bo,w1.heap.size=bo:=⟨_,rfl⟩;rw[hbo]at bx;have hbnew:∀j,j<w1.heap.size->ob (some ⟨bo,0,none⟩) j=false:=fun j hj=>a0c (by omega);have hbob:b<bo:=by have:=b1.lt;omega
 have htbo:tb<bo:=by have:=ht1.lt;omega
 clear b0 hXW htW hEb hcq hz;go_wp2_with ((with_reducible show wpList _ _ _ (⟨_, .store 41 _ _,_,_,_,_⟩::_) _ _);refine a0a a0k rfl rfl bx rfl rfl (a1n _ _ _ _ _ _ _) ?_;intro w2 r1 r2)
 have hE2:Ext w1 w2:=ExtX.box ((ExtX.refl w1).alloc _) r2 (by omega);have ht2:a0C (un (a0e X b 1) (some ⟨bo,0,none⟩)) tb w2:=ht1.old hE2 hbnew;have hms2:=hms.old (oo:=some ⟨bo,0,none⟩) (a0b.mono _) hE2 hbnew;have hds2:=hds.old (oo:=some ⟨bo,0,none⟩) (a0b.mono _) hE2 hbnew;have hX2:HX (un (a0e X b 1) (some ⟨bo,0,none⟩)) w2:=fun k hk=>by
  by_cases hx:a0e X b 1 k=true
  ·exact hX1.ext hE2 k hx
  ·have:bo=k:=by simpa[un,hx,ob]using hk
   have:=r1.lt;omega
 have b2:=b1.ext0 hE2;have hF2:=hF1.trans (ExtX.of hE2);clear bx hms hds ht1 hE1 hE2 hX1 hF1;refine(a1f (un (a0e X b 1) (some ⟨bo,0,none⟩)) tb 24 _ ht2 (by omega)).mono ?_;rintro e w3 ⟨hE3,ht3,k,rfl,hk⟩;have hsub:=a3e ht3.1;have hms3:=hms2.mono (a0b.mono _) (a0r hE3 hsub);have hds3:=hds2.mono (a0b.mono _) (a0r hE3 hsub);have hX3:=hX2.ext hE3;have b3:=b2.ext hE3 (a2Q hbt);have r3:=r1.ext hE3 (a2Q (by omega));have hF3:=hF2.trans hE3;have hz3:=r3.lt;clear hms2 hds2 hX2 b2 r1 r2 hF2 ht2 hE3 hbnew hz1;have hdone:Hid (∀(wz w7:World) (s:Bool) (ma da:Option Addr) (mc dc:Nat) (m d:List Nat),ExtX (tbm tb) w wz->a0C (un (a0e X b 1) (some ⟨bo,0,none⟩)) tb wz->Sl (a0b .u32) 1 (mk (un (a0e X b 1) (some ⟨bo,0,none⟩)) wz) ma m->Sl (a0b .u32) 1 (mk (un (a0e X b 1) (some ⟨bo,0,none⟩)) wz) da d->m.length<=mc->d.length<=dc->Dig m->Dig d->m.length<=3->d.length<=3->ExtX (ob (some ⟨b,0,none⟩)) wz w7->b6v X tb QV 3 w (.returned (.agg #[.bool s, .slice ma m.length mc, .slice da d.length dc])) w7):=hid fun wz w7 s ma da mc dc m d g1 g2 g3 g4 g5 g6 g7 g8 g9 g10 g11=>by
  have hle:Le (mk (un (a0e X b 1) (some ⟨bo,0,none⟩)) wz) (mk X w7):=by
   refine a0T g11 (fun j hj hk=>?_) (fun j _ hk=>a0o (a9C hk));have:b=j:=by simpa[ob]using hk
   subst this;exact a0o (a7p (Nat.le_refl _) (by omega))
  obtain⟨q,p1,p2⟩:=b4i (s:=s) (g3.mono (a0b.mono _) hle) (g4.mono (a0b.mono _) hle) g5 g6 g7 g8 g9 g10;have t1:a0C X tb w7:=by
   have hlt:=g2.lt;obtain⟨_,lo,l,cap,at_,h1,h2,h3,h4⟩:=g2;exact⟨htX,lo,l,cap,at_,by rw[g11.block tb hlt (a0c htb')];exact h1,h2,h3,h4.mono (a0v.mono _) hle⟩
  exact⟨g1.tbox g11 hbw,t1,_,q,rfl,p1,p2⟩
 have hcase:k<20\/k=20\/k=21\/k=22\/k=23:=by omega
 rcases hcase with h|rfl|rfl|rfl|rfl
 ·have k0:=r3.cell 0 rfl
  have k1:=r3.cell 1 rfl;have k2:=r3.cell 2 rfl;have t20:((k:Int)==20)=false:=a2v (by omega);have t21:((k:Int)==21)=false:=a2v (by omega);have t22:((k:Int)==22)=false:=a2v (by omega);have t23:((k:Int)==23)=false:=a2v (by omega);go_wp2_with ((with_reducible show wpList _ _ _ (⟨_, .store 41 _ _,_,_,_,_⟩::_) _ _);refine a0a a0k rfl rfl b3 rfl rfl (a1n _ _ _ _ _ _ _) ?_;intro w7 r1 r2)
  exact bodyPost_ret (a0d rfl rfl a0k r1 rfl) rfl (hdone.out w3 w7 _ _ _ _ _ _ _ hF3 ht3 hms3 hds3 hmc hdc hmd hdd (by omega) (by omega) r2)
 ·have hEa:Ext w3 (w3.alloc (.cells #[.int .u32 1] 110)):=(ExtX.refl _).alloc _
  have r4:=r3.ext0 hEa;have hdn:=a0b.lit1 (un (a0e X b 1) (some ⟨bo,0,none⟩)) w3 1 110 hX3;have k2:=r4.cell 2 rfl;have f2:=r4.frozen 2;obtain⟨g1,g2⟩:=a0G r4 (.slice (some ⟨w3.heap.size,0,none⟩) 1 1) (i:=2) (by simp);obtain⟨w5,hw5⟩:∃w5,(w3.alloc (.cells #[.int .u32 1] 110)).setCell ⟨bo,2,none⟩ (.slice (some ⟨w3.heap.size,0,none⟩) 1 1)=w5:=⟨_,rfl⟩;rw[hw5]at g1 g2;have k0:w5.cell? ⟨bo,0,none⟩=some (.bool s):=g1.cell 0 rfl;have k1:w5.cell? ⟨bo,1,none⟩=some (.slice ma m.length mc):=g1.cell 1 rfl;have k5:w5.cell? ⟨bo,2,none⟩=some (.slice (some ⟨w3.heap.size,0,none⟩) 1 1):=g1.cell 2 rfl;have hE5:ExtX (ob (some ⟨bo,0,none⟩)) w3 w5:=(ExtX.of hEa).trans g2;have hle:Le (mk (un (a0e X b 1) (some ⟨bo,0,none⟩)) w3) (mk (un (a0e X b 1) (some ⟨bo,0,none⟩)) w5):=a0r hE5 fun _ hk=>a0t hk;have hle2:Le (mk (un (a0e X b 1) (some ⟨bo,0,none⟩)) (w3.alloc (.cells #[.int .u32 1] 110))) (mk (un (a0e X b 1) (some ⟨bo,0,none⟩)) w5):=a0r g2 fun _ hk=>a0t hk;have b5:=(b3.ext0 hEa).ext g2 (a0c (by omega));have hfin:=hid (hdone.out w5 · s ma (some ⟨w3.heap.size,0,none⟩) mc 1 m [1] (hF3.tbox hE5 (by omega)) (ht3.extY hE5 (fun _ hk=>a0t hk) (a0c (by omega))) (hms3.mono (a0b.mono _) hle) (hdn.mono (a0b.mono _) hle2) hmc (by simp) hmd (a9e 1 (by omega)) (by omega) (by simp));go_wp2_with (first|((with_reducible show wpList _ _ _ (⟨_, .store 37 _ _,_,_,_,_⟩::_) _ _);refine b2c b7e rfl rfl rfl rfl k2 f2 ?_;rw[hw5];clear k2 f2)|((with_reducible show wpList _ _ _ (⟨_, .store 41 _ _,_,_,_,_⟩::_) _ _);refine a0a a0k rfl rfl b5 rfl rfl (a1n _ _ _ _ _ _ _) ?_;intro w7 r1 r2))
  exact bodyPost_ret (a0d rfl rfl a0k r1 rfl) rfl (hfin.out w7 r2)
 ·have k1:=r3.cell 1 rfl
  have h0:=hid (show Sl (a0b .u32) 1 (mk (un (un (a0e X b 1) (some ⟨bo,0,none⟩)) none) w3) ma m from by rw[a9b];exact hms3);go_wp2_with (first
   |(at_builtin;refine a2K (l:=([]:List Nat)) a0M rfl (a0b.elem .u32) (Nat.le_refl w3.heap.size) hX3 m rfl rfl (OL.nil _ _ _ _ _ _) h0.out (by simp;omega) (by simp;omega) ?_;intro oo4 co4 w4 hO4 hE4 hor4;have hE34:Ext w3 w4:=hE4.weaken (fun _ _ _=>rfl);have hX4:=hX3.ext hE34;have hb4:=hE34.size)
   |(at_builtin;refine a2J (l:=[]++m) a0M rfl (a0b.elem .u32) hb4 hX4 rfl rfl hO4 (.int .u32 0) 0 rfl rfl (by simp;omega) (by simp;omega) ?_;intro oo5 co5 w5 hO5 hE5 hor5;have hE35:Ext w3 w5:=hE34.own hO4 (Nat.le_refl _) hE5;have r5:=r3.ext0 hE35;have k2:=r5.cell 1 rfl;have f2:=r5.frozen 1;obtain⟨g1,g2⟩:=a0G r5 (.slice oo5 (m.length+1) co5) (i:=1) (by simp);obtain⟨w6,hw6⟩:∃w6,w5.setCell ⟨bo,1,none⟩ (.slice oo5 (m.length+1) co5)=w6:=⟨_,rfl⟩;rw[hw6]at g1 g2;have q0:w6.cell? ⟨bo,0,none⟩=some (.bool s):=g1.cell 0 rfl;have q1:w6.cell? ⟨bo,1,none⟩=some (.slice oo5 (m.length+1) co5):=g1.cell 1 rfl;have q2:w6.cell? ⟨bo,2,none⟩=some (.slice da d.length dc):=g1.cell 2 rfl;have b6:=(b3.ext0 hE35).ext g2 (a0c (by omega)))
   |((with_reducible show wpList _ _ _ (⟨_, .store 41 _ _,_,_,_,_⟩::_) _ _);refine a0a a0k rfl rfl b6 rfl rfl (a1n _ _ _ _ _ _ _) ?_;intro w7 r1 r2))
  have hE6:ExtX (ob (some ⟨bo,0,none⟩)) w3 w6:=(ExtX.of hE35).trans g2;have hle:Le (mk (un (a0e X b 1) (some ⟨bo,0,none⟩)) w3) (mk (un (a0e X b 1) (some ⟨bo,0,none⟩)) w6):=a0r hE6 fun _ hk=>a0t hk;have hle2:Le (mk (un (a0e X b 1) (some ⟨bo,0,none⟩)) w5) (mk (un (a0e X b 1) (some ⟨bo,0,none⟩)) w6):=a0r g2 fun _ hk=>a0t hk;have hc5:=hO5.lenCap;have hlen:([]++m++[0]).length=m.length+1:=by simp
  rw[hlen]at hc5;have hfin:=hdone.out w6 w7 s oo5 da co5 dc ([]++m++[0]) d (hF3.tbox hE6 (by omega)) (ht3.extY hE6 (fun _ hk=>a0t hk) (a0c (by omega))) ((hO5.sl (a0b.elem _)).mono (a0b.mono _) hle2) (hds3.mono (a0b.mono _) hle) (by rw[hlen];exact hc5) hdc (fun x hx=>by
   rcases List.mem_append.1 hx with h|h
   ·exact hmd x (by simpa using h)
   ·rw[List.mem_singleton.1 h];exact a1S) hdd (by simp;omega) (by omega) r2
  rw[hlen]at hfin;exact bodyPost_ret (a0d rfl rfl a0k r1 rfl) rfl hfin
 ·go_wp2_with ((with_reducible show wpList _ _ _ (⟨_, .store 41 _ _,_,_,_,_⟩::_) _ _);refine a0a a0k rfl rfl b3 rfl rfl (a1n _ _ _ _ _ _ _) ?_;intro w7 r1 r2)
  exact bodyPost_ret (a0d rfl rfl a0k r1 rfl) rfl (hdone.out w3 w7 true none none 0 0 [] [] hF3 ht3 (Sl.nil _ _ _ _) (Sl.nil _ _ _ _) (by simp) (by simp) (fun x hx=>by simp at hx) (fun x hx=>by simp at hx) (by simp) (by simp) r2)
 ·obtain⟨w4,hw4⟩:∃w4,w3.alloc (.cells #[.int .u32 2] 110)=w4:=⟨_,rfl⟩
  have hE4:Ext w3 w4:=by rw[<-hw4];exact(ExtX.refl _).alloc _
  have hz4:w4.heap.size=w3.heap.size+1:=by rw[<-hw4];simp
  have hX4:=hX3.ext hE4;have hm2:=a0b.lit1 (un (a0e X b 1) (some ⟨bo,0,none⟩)) w3 2 110 hX3;have hd4:=a0b.lit1 (un (a0e X b 1) (some ⟨bo,0,none⟩)) w4 4 110 hX4;rw[show((2:Nat):Int)=2 from rfl,hw4]at hm2;rw[show((4:Nat):Int)=4 from rfl]at hd4;obtain⟨w5,hw5⟩:∃w5,w4.alloc (.cells #[.int .u32 4] 110)=w5:=⟨_,rfl⟩;have hE5:Ext w4 w5:=by rw[<-hw5];exact(ExtX.refl _).alloc _
  rw[hw5,hz4]at hd4;have hm5:=hm2.mono (a0b.mono _) (a0l hE5);have hE35:Ext w3 w5:=hE4.trans hE5;have b5:=b3.ext0 hE35;have hfin:=hid (hdone.out w5 · false (some ⟨w3.heap.size,0,none⟩) (some ⟨w3.heap.size+1,0,none⟩) 1 1 [2] [4] (hF3.trans (ExtX.of hE35)) (ht3.ext hE35) hm5 hd4 (by simp) (by simp) (a9e 2 (by omega)) (a9e 4 (by omega)) (by simp) (by simp));clear hE4 hX4 hm2 hd4 hE5 hm5 hE35;go_wp2_with ((with_reducible show wpList _ _ _ (⟨_, .store 41 _ _,_,_,_,_⟩::_) _ _);refine a0a a0k rfl rfl b5 rfl rfl (a1n _ _ _ _ _ _ _) ?_;intro w7 r1 r2)
  exact bodyPost_ret (a0d rfl rfl a0k r1 rfl) rfl (hfin.out w7 r2)
theorem a6g(X:Nat->Bool)(j n:Nat)(w:World)(K:a0C X j w)(U:HX X w)(hn:n<=1000):Calls Tryz.prog 80 #[.pointer (some ⟨j,0,none⟩), .int .i64 (n:Int)] w (b2s X j QV 3 n w):=by
 have u:=a3e K.1;go_enter Tryz.func80,Tryz.ntmps80
 go_wp2_with fail
 go_loopw [5,6] (fun s c wr=>∃(i:Nat) (oo:Option Addr) (y:Nat) (l:List Rat),c= .int .i64 i/\s= .slice oo i y/\l.length=i/\i<=n/\BR 3 l/\OL QV 3 X w.heap.size 41 wr oo y l/\a0C (un X oo) j wr/\ExtX (tbm j) w wr) (fun _ c _=>n - (intOf c).toNat)
 case atStart=>exact⟨0,none,0,[],rfl,rfl,rfl,Nat.zero_le _,fun x hx=>by simp at hx,OL.nil _ _ _ _ _ _,K.none,ExtX.refl _⟩
 case round=>
  obtain⟨i,oo,y,l,rfl,rfl,b,V,O,p,g,z⟩:=hrel;have f:HX X wr:=U.ext z;by_cases Y:i<n
  ·have r:HX (un X oo) wr:=p.unX f
   have t:=hid b;clear b;go_wp2_with fail
   refine(b4j (un X oo) j _ g r).mono ?_;rintro e w2 ⟨a,L,u6,q,rfl,v,J⟩;obtain⟨s6,Q,n6,R,S,Z,T,rfl⟩:=v.shape;have d:=p.ext QV.elem a (fun k _ W=>u k W) (fun _ _ h=>h);have E:HX X w2:=f.ext a;have m:=z.trans a;have F:=m.size;clear p g z a f r;go_wp2_with (at_builtin;refine a0H (l:=l) a0J rfl QV.elem (by omega) E i t.out rfl rfl d (.agg #[.bool s6, .slice Q n6 R, .slice S Z T]) q rfl v (by omega) (by omega) ?_;intro N A w7 D o I)
   have C:=m.own d (Nat.le_refl _) o;have M:=L.unstep (d.not_ob K.1) o I;have B:BR 3 (l++[q]):=fun x hx=>by
    rcases List.mem_append.1 hx with h|h
    ·exact O x h
    ·rw[List.mem_singleton.1 h];exact J
   have H:(l++[q]).length=i+1:=by rw[List.length_append,t.out];rfl
   go_roundw
   case rel=>exact⟨i+1,N,A,_,by go_num,by go_num,H,by omega,B,D,M,C⟩
   case measure=>simp[intOf];omega
  ·have G:i=n:=by omega
   subst G;have P:=p.lenCap;rw[b]at P;go_wp2_with fail
   go_ret
   exact⟨z,oo,l,y,rfl,b,P,O,g,p⟩
end Go.Proofs.YtnnpfhoigmegcaaGreat
namespace Go.Rep
open Go.RowKit Go.Lim
theorem b0E{P:Program}{o:Array Oper}{Q:Exit->Act->World->Prop}{g:List Oper}{a:Act}{w:World}{α:Type}{R:Mem->Value->α->Prop}{sz:Nat}{X:Nat->Bool}{e:TypeId}{d:Option Tmp}{I:TypeId}{H:String}{y:Array Edge}{t j:Nat}{z:Value}{s x:Operand}{r:Option Addr}{A:Nat}(T:SliceT P t e sz j z)(v:z.cells.size=sz)(D:Elem R sz)(f:Nat)(h:f<=w.heap.size)(E:∀k,X k=true->k<w.heap.size)(q:List α)(n:Nat)(F:q.length=n)(G:a.eval s= .slice none 0 0)(hx:a.eval x= .slice r n A)(hxs:Sl R sz (mk X w) r q)(i:n*j<=140737488355328)(m:n<=9223372036854775807)(K:∀c b p,OL R sz X f e p c b q->n<=b->Ext w p->wpList P o Q g (a.put d (.slice c n b)) p):wpList P o Q (⟨d, .call {callee:= .builtin .append,args:=#[s,x],argTypes:=#[t,t]},I,H,y,none⟩::g) a w:=by
 subst F;have B:Sl R sz (mk (un X none) w) r q:=by
  have:un X none=X:=by funext k;simp[un,ob]
  rw[this];exact hxs
 refine a2K (l:=[]) T v D h E q G hx (OL.nil _ _ _ _ _ _) B (by simpa using i) (by simpa using m) fun c b p u C _=>?_;rw[List.nil_append]at u |-;exact K c b p u u.lenCap (C.weaken fun _ _ _=>rfl)
theorem Sl.rowsF{R:Mem->Value->Rat->Prop}{h:Mem}{ao:Option Addr}{m:List (List Rat)}(s:Sl (SlV R 3) 1 h ao m):∃f:Nat->Option Addr×Nat,∀i (hi:i<m.length),h (adr ao i)=some (.slice (f i).1 m[i].length (f i).2)/\m[i].length<=(f i).2/\Sl R 3 h (f i).1 m[i]:=by
 have b:∀i,∃p:Option Addr×Nat,∀(hi:i<m.length),h (adr ao i)=some (.slice p.1 m[i].length p.2)/\m[i].length<=p.2/\Sl R 3 h p.1 m[i]:=fun i=>by
  by_cases hi:i<m.length
  ·obtain⟨u,d,a,c,rfl,e,g⟩:=s.cell SlV.one i hi
   exact⟨(a,c),fun _=>⟨d,e,g⟩⟩
  ·exact⟨(none,0),fun h=>absurd h hi⟩
 exact⟨fun i=>(b i).choose,fun i hi=>(b i).choose_spec hi⟩
theorem OL.rowsF{X:Nat->Bool}{b:Nat}{e:TypeId}{w:World}{ao:Option Addr}{g:Nat}{m:List (List Rat)}(s:OL RC 1 X b e w ao g m):∃f:Nat->Option Addr×Nat,∀i (hi:i<m.length),w.cell? (adr ao i)=some (.slice (f i).1 m[i].length (f i).2)/\m[i].length<=(f i).2/\Sl QC 3 (mk (un X ao) w) (f i).1 m[i]:=by
 have d:∀i,∃p:Option Addr×Nat,∀(hi:i<m.length),w.cell? (adr ao i)=some (.slice p.1 m[i].length p.2)/\m[i].length<=p.2/\Sl QC 3 (mk (un X ao) w) p.1 m[i]:=fun i=>by
  by_cases hi:i<m.length
  ·obtain⟨u,j,_,k⟩:=s.cell SlV.one i hi
   obtain⟨a,c,rfl,l,n⟩:=k;exact⟨(a,c),fun _=>⟨j,l,n⟩⟩
  ·exact⟨(none,0),fun h=>absurd h hi⟩
 exact⟨fun i=>(d i).choose,fun i hi=>(d i).choose_spec hi⟩
theorem b4W{ao:Option Addr}{n k:Nat}(hd:Hd ao n)(c:0<n){b:Nat}(a:ob ao b=false):(adr ao k).block≠b:=by
 obtain⟨g,o,rfl⟩:=hd c;intro h;have:g=b:=h;subst this;simp[ob]at a
end Go.Rep
namespace Go.Proofs.YtnnpfhoigmegcaaGreat
open Go.RowKit Go.Rep Go.Lim
def pB(k:Nat):Nat:=2^(k+1) - 2
end Go.Proofs.YtnnpfhoigmegcaaGreat
namespace Go.Rep
open Go.RowKit Go.Lim
theorem BM.le{B C:Nat}{m:List (List Rat)}(h:BM B m)(a:B<=C):BM C m:=fun r b q hq=>Nat.le_trans (h r b q hq) a
theorem BM.set{B:Nat}{m:List (List Rat)}(h:BM B m){r:List Rat}(a:BR B r)(i:Nat):BM B (m.set i r):=fun x hx=>by
 rcases List.mem_or_eq_of_mem_set hx with hx|rfl
 ·exact h x hx
 ·exact a
end Go.Rep
namespace Go.Proofs.YtnnpfhoigmegcaaGreat
open Go.RowKit Go.Rep Go.Lim
def b2t(X:Nat->Bool)(tb:Nat)(n k:Nat)(w:World)(e:Ending)(w':World):Prop:=ExtX (tbm tb) w w'/\a0C X tb w'/\∃(vx vy:Value) (p:List (List Rat)) (y:List Rat) (d:Nat),e= .returned (.tuple #[vx,vy])/\MV (mk X w') vx p/\RV (mk X w') vy y/\1<=p.length/\p.length<=n/\1<=d/\d<=k/\(∀r∈p,r.length=d)/\y.length=p.length/\BM 2 p/\BR 4 y
def b7I(X:Nat->Bool)(oo:Option Addr)(tb d:Nat)(w:World)(v:Value)(w':World):Prop:=∃(po:Option Addr) (p:List Rat) (pc:Nat),v= .slice po d pc/\p.length=d/\BR 2 p/\a0C (un (un X oo) po) tb w'/\OL QC 3 (un X oo) w.heap.size 41 w' po pc p/\ExtX (tbm tb) w w'
theorem b8D{h:Mem}{ao:Option Addr}{l:List (List Rat)}(s:Sl RC 1 h ao l)(d:BM 68719476736 l):Sl RV 1 h ao l:=
 ⟨s.1,fun i hi=>let ⟨u,a,b,c⟩:=s.2 i hi;⟨u,a,b,RC.rv c (d _ (List.getElem_mem _))⟩⟩
def twN(y:List Rat)(p:List (List Rat))(j:Nat):List Rat:=(List.range y.length).map fun i=>if i<j then 2*(p.getD i []).getD 0 0 else y.getD i 0
theorem a9f(y:List Rat)(p:List (List Rat))(j:Nat):(twN y p j).length=y.length:=by simp[twN]
theorem b4k(y:List Rat)(p:List (List Rat)):y=twN y p 0:=by
 refine List.ext_getElem (by simp[twN]) fun i a b=>?_;simp[twN,List.getD_eq_getElem?_getD,a]
theorem b6w(y:List Rat)(p:List (List Rat))(j:Nat):(twN y p j).set j (2*(p.getD j []).getD 0 0)=twN y p (j+1):=by
 refine List.ext_getElem (by simp[twN]) fun i a b=>?_;rw[List.getElem_set];simp only[twN,List.getElem_map,List.getElem_range];split
 ·subst_vars;simp
 ·by_cases h:i<j
  ·simp[h,show i<j+1 by omega]
  ·simp[h,show¬i<j+1 by omega]
theorem b7J{x:Rat}{B:Nat}(hx:hq x<=B):hq (2*x)<=B+2:=by
 have a:=hq_mul 2 x;have b:hq (2:Rat)<=1:=a5l 2 1 (lgI (by omega) (by omega)) (by omega);omega
theorem b7K{y:List Rat}{p:List (List Rat)}(d:BR 2 y)(c:BM 2 p)(j:Nat):BR 4 (twN y p j):=by
 intro q a;unfold twN at a;obtain⟨i,hi,rfl⟩:=List.mem_map.1 a;have hi:=List.mem_range.1 hi;split
 ·refine b7J ?_
  by_cases h:i<p.length
  ·rw[show p.getD i []=p[i]by simp[List.getD_eq_getElem?_getD,h]]
   by_cases b:0<p[i].length
   ·rw[show p[i].getD 0 0=p[i][0]by simp[List.getD_eq_getElem?_getD,b]]
    exact c _ (List.getElem_mem _) _ (List.getElem_mem _)
   ·rw[show p[i].getD 0 0=0 by simp[List.getD_eq_getElem?_getD,List.getElem?_eq_none (show p[i].length<=0 by omega)],a1r];decide
  ·rw[show p.getD i []= []by simp[List.getD_eq_getElem?_getD,List.getElem?_eq_none (show p.length<=i by omega)],show([]:List Rat).getD 0 0=0 from rfl,a1r];decide
 ·rw[show y.getD i 0=y[i]by simp[List.getD_eq_getElem?_getD,hi]]
  exact Nat.le_trans (d _ (List.getElem_mem _)) (by decide)
theorem a9g(X:Nat->Bool)(u n k:Nat)(w:World)(ht:a0C X u w)(hX:HX X w)(p9:1<=n)(hn:n<=8)(p6:1<=k)(D:k<=8):Calls Tryz.prog 15 #[.pointer (some ⟨u,0,none⟩), .int .i64 (n:Int), .int .i64 (k:Int)] w (b2t X u n k w):=by
 have C:=a3e ht.1;have F:=ht.1;go_enter Tryz.func15,Tryz.ntmps15
 go_wp2_with fail
 refine(a1f X u k w ht (by omega)).mono ?_;rintro e w1 ⟨i5,k8,m,rfl,hm⟩;have m6:(1+(m:Int))=((m+1:Nat):Int):=by omega
 have j6:m+1<=k:=by omega
 obtain⟨d,hd⟩:∃d,m+1=d:=⟨_,rfl⟩;have m7:1<=d:=by omega
 rw[hd]at m6 j6;clear hd hm;go_wp2_with fail
 refine(a4I X u 2 w1 k8 (by decide) (by decide)).mono ?_;rintro e w2 ⟨f,t,l6,rfl⟩;go_wp2_with fail
 refine(a1f X u n w2 t (by omega)).mono ?_;rintro e w3 ⟨a3,a8,m2,rfl,n4⟩;have l8:(1+(m2:Int))=((m2+1:Nat):Int):=by omega
 have l9:m2+1<=n:=by omega
 obtain⟨N,hN⟩:∃N,m2+1=N:=⟨_,rfl⟩;have p1:1<=N:=by omega
 rw[hN]at l8 l9;have f8:=(i5.trans f).trans a3;have m3:=hX.ext f8;clear hN n4 i5 f a3 k8 t ht;go_wp2_with fail
 go_loopw [9,10] (fun s c wr=>∃(i j:Nat) (oo:Option Addr) (co:Nat) (l:List (List Rat)),c= .int .i64 i/\s= .slice oo j co/\l.length=j/\i+j=N/\(∀r∈l,r.length=d)/\BM 2 l/\OL RC 1 X w.heap.size 26 wr oo co l/\a0C (un X oo) u wr/\ExtX (tbm u) w wr) (fun _ c _=>(intOf c).toNat)
 case atStart=>exact⟨N,0,none,0,[],rfl,rfl,rfl,rfl,by simp,fun r L=>by simp at L,OL.nil _ _ _ _ _ _,by rw[show un X none=X by funext k;simp[un,ob]];exact a8,f8⟩
 case round=>
  clear f8 a8 m3;obtain⟨i,j,oo,co,l,rfl,rfl,a5,n3,e0,d2,hO,l1,hE⟩:=hrel;have m5:HX X wr:=hX.ext hE;have b7:HX (un X oo) wr:=hO.unX m5;have B:=hid a5;have a0:=hid e0;have I:=hid d2;by_cases c2:0<i
  ·obtain⟨i,rfl⟩:∃j,i=j+1:=⟨i - 1,by omega⟩
   obtain⟨wo,h6⟩:∃wo,wo=wr:=⟨_,rfl⟩;subst h6;clear a5 e0 d2;go_upto_region 7 with fail
   go_cut [11]from 28 to 30 (fun v wx=>b7I X oo u d wo v wx)
   case first=>
    go_wp2_with fail
    refine(a4L (un X oo) u d wo l1 b7 (by omega)).mono ?_;rintro e w2 ⟨f,H,p,pc,rfl,A,T,J,t,S⟩;go_wp2_with fail
    all_goals go_meet
    all_goals case rel=>exact⟨H,p,pc,rfl,A,J,t,S,f⟩
   case rest=>
   obtain⟨H,p,pc,rfl,A,J,t,S,f⟩:=hcut
   go_step
   go_step
   go_cut [11]from 31 to 45 (fun v wx=>b7I X oo u d wo v wx)
   case first=>
    by_cases p5:0<j
    ·go_wp2_with fail
     refine(a4I (un (un X oo) H) u 6 wc t (by decide) (by decide)).mono ?_;rintro e w4 ⟨f6,g9,b2,rfl⟩;have j0:=S.ext QC.elem f6 (fun k _ D=>a0o (C k D)) (fun _ _ h=>h);have b1:=f.trans f6;cases b2
     ·go_wp2_with fail
      all_goals go_meet
      all_goals case rel=>exact⟨H,p,pc,rfl,A,J,g9,j0,b1⟩
     ·go_wp2_with fail
      refine(a1f (un (un X oo) H) u j w4 g9 (by omega)).mono ?_;rintro e w5 ⟨i7,k9,m4,rfl,p7⟩;have V:=b1.trans i7;have e8:m4<l.length:=by rw[B.out];omega
      have f9:=hO.ext RC.elem V (fun k _ D=>C k D) (fun _ _ h=>h);have j1:=b7.ext V;obtain⟨u4,j4,_,n9⟩:=f9.cell SlV.one m4 e8;obtain⟨a4,c4,rfl,e4,k5⟩:=n9;have c0:=f9.hd;rw[B.out]at c0;have E:=a0.out l[m4] (List.getElem_mem _);have d9:=I.out l[m4] (List.getElem_mem _);obtain⟨r,L⟩:∃r,l[m4]=r:=⟨_,rfl⟩;rw[L]at j4 e4 k5 E d9;have f3:=hid E;rw[E]at j4 e4;have o9:m4<j:=by omega
      have l0:a0C (un X oo) u w5:=k9.unX (a0o F);have k4:=V.size;clear L E e8 j0 S f9 k9 g9 t f6 i7 b1 f;go_wp2_with (first|(with_reducible refine a0m a0q (by omega) (by assumption) ?_)|(at_builtin;refine b0E a0J rfl QC.elem w5.heap.size (Nat.le_refl _) j1 r d f3.out rfl rfl k5 (by omega) (by omega) ?_;intro o8 o7 w6 i9 p4 i8))
      have o0:=l0.old i8 (fun j hj=>i9.ob_lt hj);have i6:=V.trans (ExtX.of i8)
      all_goals go_meet
      all_goals case rel=>exact⟨o8,r,o7,rfl,f3.out,d9,o0,i9.base_le k4,i6⟩
    ·go_wp2_with fail
     all_goals go_meet
     all_goals case rel=>exact⟨H,p,pc,rfl,A,J,t,S,f⟩
   case rest=>
   clear A J t S f;obtain⟨H,p,pc,rfl,A,J,t,S,f⟩:=hcut;obtain⟨wq,o3⟩:∃wq,wq=wc:=⟨_,rfl⟩;subst o3;have g3:HX (un (un X oo) H) wq:=S.unX (b7.ext f);have n5:ob H u=false:=S.not_ob (a0o F);cases l6
   ·have R:=hO.ext RC.elem f (fun k _ D=>C k D) (fun _ _ h=>h)
    have h3:a0C (un X oo) u wq:=t.unX (a0o F);have Q:=hE.trans f;have g2:=hX.ext Q;have T:=S.lenCap;have g0:RC (mk (un X oo) wq) (.slice H d pc) p:=⟨H,pc,by rw[A],T,S.sl QC.elem⟩;have c3:=hid A;have g4:=Q.size;clear A T S t g3;go_wp2_with (at_builtin;refine a0H (l:=l) a0q rfl RC.elem g4 g2 j B.out rfl rfl R (.slice H d pc) p rfl g0 (by omega) (by omega) ?_;intro h9 f4 w7 b6 b3 g6)
    have d3:=Q.own R (Nat.le_refl _) b3;have h2:=h3.unstep (R.not_ob F) b3 g6;have g5:(l++[p]).length=j+1:=by rw[List.length_append,B.out];rfl
    have g8:∀r∈l++[p],r.length=d:=fun r L=>by
     rcases List.mem_append.1 L with h|h
     ·exact a0.out r h
     ·rw[List.mem_singleton.1 h];exact c3.out
    have f5:BM 2 (l++[p]):=fun r L=>by
     rcases List.mem_append.1 L with h|h
     ·exact I.out r h
     ·rw[List.mem_singleton.1 h];exact J
    go_roundw
    case rel=>exact⟨i,j+1,h9,f4,_,by go_num,by go_num,g5,by omega,g8,f5,b6,h2,d3⟩
    case measure=>simp[intOf]
   ·have h0:0<p.length:=by omega
    have m9:Hd H d:=by have:=S.hd;rw[A]at this;exact this
    obtain⟨g,o,hg⟩:∃g o,adr H (0*3)=⟨g,o,none⟩:=⟨_,_,rfl⟩;have i1:∀W,(Instr.indexAt 26 (.slice H d pc) (.int .i64 0)).run Tryz.prog W= .ok (.pointer (some ⟨g,o,none⟩)) W:=by rw[<-hg];exact a0j a0J H d pc .i64 0 m9 (by omega)
    have b9:=hid hg;have k0:=hid A;clear hg A;go_wp2_with fail
    refine(a3W (un (un X oo) H) wq 1 g3 (by decide) (by decide)).mono ?_;rintro e w6 ⟨t1,u6,rfl,a9⟩;obtain⟨s6,a6,n6,c6,d6,k6,e6,rfl⟩:=a9.shape;have d5:=S.ext0 QC.elem t1;obtain⟨_,v0,v1,v2,_,⟨q0,f0⟩,⟨q1,f1⟩,⟨q2,f2⟩,_⟩:=d5.cell3 0 h0 b9.out;have c9:=d5.set3 (P:=Tryz.prog) a4V QC.elem 0 h0 b9.out (v0:= .bool s6) (v1:= .slice a6 n6 c6) (v2:= .slice d6 k6 e6) (x:=((1:Int):Rat)) a9;go_upto_region 12 with fail
    obtain⟨r1,r2⟩:=c9;obtain⟨w7,l3⟩:∃w7,(((w6.setCell ⟨g,o,none⟩ (.bool s6)).setCell ⟨g,o+1,none⟩ (.slice a6 n6 c6)).setCell ⟨g,o+2,none⟩ (.slice d6 k6 e6))=w7:=⟨_,rfl⟩;rw[l3]at r1 r2 |-;have b3:=(f.then_ t1 (fun _ _ _=>rfl)).own d5 (Nat.le_refl _) r2;have R:=hO.ext RC.elem b3 (fun k _ D=>C k D) (fun _ _ h=>h);have h3:a0C (un X oo) u w7:=((t.ext t1).extY r2 (fun _ D=>a0t D) n5).unX (a0o F);have Q:=hE.trans b3;have g2:=hX.ext Q;have G:(p.set 0 ((1:Int):Rat)).length=d:=by rw[List.length_set];exact k0.out
    have e9:BR 2 (p.set 0 ((1:Int):Rat)):=fun q n8=>by
     rcases List.mem_or_eq_of_mem_set n8 with h|rfl
     ·exact J q h
     ·exact Nat.le_trans (a5l 1 1 (lgI (by omega) (by omega)) (by omega)) (by decide)
    have T:=r1.lenCap;rw[G]at T;obtain⟨r,L⟩:∃r,p.set 0 ((1:Int):Rat)=r:=⟨_,rfl⟩;rw[L]at r1 G e9;have g0:RC (mk (un X oo) w7) (.slice H d pc) r:=⟨H,pc,by rw[G],by rw[G];exact T,r1.sl QC.elem⟩;have c3:=hid G;have g4:=Q.size;clear L G T S t g3 d5 r1 r2 l3 q0 f0 q1 f1 q2 f2 i1 a9;go_wp2_with (at_builtin;refine a0H (l:=l) a0q rfl RC.elem g4 g2 j B.out rfl rfl R (.slice H d pc) r rfl g0 (by omega) (by omega) ?_;intro h9 f4 w8 m0 d3 g6)
    have f7:=Q.own R (Nat.le_refl _) d3;have h2:=h3.unstep (R.not_ob F) d3 g6;have g5:(l++[r]).length=j+1:=by rw[List.length_append,B.out];rfl
    have g8:∀x∈l++[r],x.length=d:=fun x L=>by
     rcases List.mem_append.1 L with h|h
     ·exact a0.out x h
     ·rw[List.mem_singleton.1 h];exact c3.out
    have f5:BM 2 (l++[r]):=fun x L=>by
     rcases List.mem_append.1 L with h|h
     ·exact I.out x h
     ·rw[List.mem_singleton.1 h];exact e9
    go_roundw
    case rel=>exact⟨i,j+1,h9,f4,_,by go_num,by go_num,g5,by omega,g8,f5,m0,h2,f7⟩
    case measure=>simp[intOf]
  ·have n2:i=0:=by omega
   subst n2;obtain rfl:j=N:=by omega
   clear n3;have p2:=hO.sl RC.elem;have c0:=hO.hd;rw[a5]at c0;obtain⟨wo,h6⟩:∃wo,wo=wr:=⟨_,rfl⟩;subst h6;have b8:=hid (fun(wz:World) (vy:Value) (y:List Rat) (d4:ExtX (tbm u) wo wz) (h4:a0C X u wz) (hy:RV (mk X wz) vy y) (e3:y.length=j) (e2:BR 4 y)=>(⟨hE.trans d4,h4, .slice oo j co,vy,l,y,d,rfl,⟨oo,co,by rw[a5],hO.lenCap,b8D ((hO.ext RC.elem d4 (fun k _ D=>C k D) (fun _ _ h=>h)).sl RC.elem) (fun r L q hq=>Nat.le_trans (d2 r L q hq) (by decide))⟩,hy,by omega,by omega,m7,j6,e0,by rw[e3,a5],d2,e2⟩:b2t X u n k w (.returned (.tuple #[.slice oo j co,vy])) wz));clear a5 e0 c2;go_wp2_with fail
   refine(a4L (un X oo) u j wo l1 b7 (by omega)).mono ?_;rintro e w2 ⟨f,M,y,yc,rfl,e3,o5,e2,t,hY⟩;go_wp2_with fail
   refine(a4I (un (un X oo) M) u 5 w2 t (by decide) (by decide)).mono ?_;rintro e w3 ⟨a3,a8,b,rfl⟩;have d8:=hY.ext QC.elem a3 (fun k _ D=>a0o (C k D)) (fun _ _ h=>h);have b0:=f.trans a3;have Y:=hid (fun(wz:World) (z:List Rat) (d4:ExtX (tbm u) wo wz) (h4:a0C (un (un X oo) M) u wz) (hz:OL QC 3 (un X oo) wo.heap.size 41 wz M yc z) (h8:z.length=j) (l5:BR 4 z)=>b8.out wz (.slice M j yc) z d4 ((h4.unX (a0o F)).unX F) ⟨M,yc,by rw[h8],by rw[h8];exact o5,((hz.sl QC.elem).mono QC.mono (a1N fun k _ D=>a0o D)).qv fun q hq=>Nat.le_trans (l5 q hq) (by decide)⟩ h8 l5);have a2:=hid e3;clear hY t f a3 e3;cases b
   ·have hf:=hid (Y.out w3 y b0 a8 d8 a2.out (fun q hq=>Nat.le_trans (e2 q hq) (by decide)))
    clear b8 Y;go_wp2_with fail
    go_ret2
    exact hf.out
   ·rw[b4k y l]at d8
    clear b8;have j9:ob oo u=false:=hO.not_ob F;obtain⟨fr,hf⟩:=hO.rowsF;have k3:=hid hf;clear hf;go_wp2_with fail
    go_loopw [62] (fun cc wx=>∃q:Nat,cc= .int .i64 q/\q<=j/\OL QC 3 (un X oo) wo.heap.size 41 wx M yc (twN y l q)/\a0C (un (un X oo) M) u wx/\ExtX (tbm u) wo wx) (fun cc _=>j - (intOf cc).toNat)
    case atStart=>exact⟨0,rfl,Nat.zero_le _,d8,a8,b0⟩
    case round=>
     clear d8 a8 b0;obtain⟨q,rfl,p0,hY,l2,b4⟩:=hrel;by_cases c2:q<j
     ·have c5:q<l.length:=by rw[B.out];exact c2
      have k2:q<(twN y l q).length:=by rw[a9f,a2.out];exact c2
      have h1:=(k3.out q c5).1;have E:=hid (a0.out _ (List.getElem_mem c5));have d9:=hid (I.out _ (List.getElem_mem c5));rw[E.out]at h1;have c8:=(k3.out q c5).2.2.mono QC.mono (a0T (Z:=un (un X oo) M) b4 (fun k _ D=>a0o (C k D)) (fun k D hz=>by simpa[un,hY.ob_lt D]using hz));have l4:Hid ((l.getD q []).getD 0 0=l[q][0]'(by rw[E.out];omega)):=hid (by
       have:0<l[q].length:=by rw[E.out];omega
       simp[List.getD_eq_getElem?_getD,c5,this])
      have U:=hid (b6w y l q);have d0:0<l[q].length:=by rw[E.out];omega
      rw[l4.out]at U;have h7:Hid (hq (l[q][0]'d0)<=2):=hid (d9.out _ (List.getElem_mem d0));obtain⟨⟨aa,ac⟩,j7⟩:∃z,fr q=z:=⟨_,rfl⟩;rw[j7]at h1 c8
      dsimp only at h1 c8
      obtain⟨g1,o1,s1,a1,n1,c1,d1,k1,e1,j8,p3,j3,g7⟩:=c8.rat QC.shaped 0 d0;obtain⟨x,hx⟩:∃x,l[q][0]'d0=x:=⟨_,rfl⟩;rw[hx]at U h7 g7;have m8:Hd aa d:=by have:=c8.hd;rw[E.out]at this;exact this
      have j5:=(b4.cellY h1 (a2Q (b4W c0 (by omega) j9)));have O:Ext wr wr.drew:=(ExtX.refl wr).drew;have hZ:HX (un (un X oo) M) wr:=hY.unX (b7.ext b4);have j2:HX (un (un X oo) M) wr.drew:=hZ.ext O;have o4:=mkx QV.mono (g7.qv (Nat.le_trans h7.out (by decide))) O;have i4:Hid (hq (((2:Int):Rat))<=1):=hid (a5l 2 1 (lgI (by omega) (by omega)) (by omega));have l7:Hid (((2:Int):Rat)=2):=hid rfl;have p8:Hid (hq (((2:Int):Rat)*x)<=68719476736):=hid (by
       have:=hq_mul (((2:Int):Rat)) x;have:=i4.out;have:=h7.out;omega)
      have hS:Hid (∀w',Ext wr.drew w'->w'.cell? (adr oo q)=some (.slice aa d ac)/\w'.cell? ⟨g1,o1,none⟩=some (.bool s1)/\w'.cell? ⟨g1,o1+1,none⟩=some (.slice a1 n1 c1)/\w'.cell? ⟨g1,o1+2,none⟩=some (.slice d1 k1 e1)):=hid fun w' h=>⟨(O.trans h).cell j5,j3.out noY w' (O.trans h) rfl⟩;have m1:=hY.ext0 QC.elem O;obtain⟨g,o,hg⟩:∃g o,adr M (q*3)=⟨g,o,none⟩:=⟨_,_,rfl⟩;have n0:Hd M j:=by have:=hY.hd;rw[a9f,a2.out]at this;exact this
      have i1:∀W,(Instr.indexAt 25 (.slice oo j co) (.int .i64 (q:Int))).run Tryz.prog W= .ok (.pointer (some (adr oo q))) W:=a0E a0q oo j co .i64 q c0 c2 rfl;have i2:∀W,(Instr.indexAt 26 (.slice aa d ac) (.int .i64 0)).run Tryz.prog W= .ok (.pointer (some ⟨g1,o1,none⟩)) W:=by rw[<-j8];exact a0j a0J aa d ac .i64 0 m8 (by omega)
      have i3:∀W,(Instr.indexAt 26 (.slice M j yc) (.int .i64 (q:Int))).run Tryz.prog W= .ok (.pointer (some ⟨g,o,none⟩)) W:=by rw[<-hg];exact a0j a0J M j yc .i64 q n0 (by omega)
      have b9:=hid hg;have o6:ob M u=false:=hY.not_ob (a0o F);clear hx j7 h1 c8 l4 j5 j3 g7 hg j8 hY hZ;go_wp2_with fail
      refine a0K 11 (fun w'=>w'.cell? (adr oo q)=some (.slice aa d ac)/\w'.cell? ⟨g1,o1,none⟩=some (.bool s1)/\w'.cell? ⟨g1,o1+1,none⟩=some (.slice a1 n1 c1)/\w'.cell? ⟨g1,o1+2,none⟩=some (.slice d1 k1 e1)) (by kernel_rfl) (by kernel_rfl) (hS.out _ (ExtX.refl _)) (fun b5 a=>?_);refine kt 0 a ?_;refine kt 1 a ?_;refine kt 3 a ?_;refine kt 4 a ?_;refine kt 5 a ?_;refine kt 6 a ?_;refine kt 7 a ?_;refine kt 8 a ?_;refine ks 2 (fun K hK=>?_);go_simp
      ((with_reducible refine(a3W (un (un X oo) M) wr.drew 2 j2 (by decide) (by decide)).mono ?_);rintro ee w6 ⟨t1,u6,rfl,a9⟩;obtain⟨s6,a6,n6,c6,d6,k6,e6,rfl⟩:=a9.shape)
      refine kcn hK (hS.out _ t1) (fun b5=>?_);clear hK K;refine ks 9 (fun K hK=>?_);go_simp
      ((with_reducible refine(b3A (un (un X oo) M) w6 _ _ ((2:Int):Rat) x (j2.ext t1) (a9.qv (Nat.le_trans i4.out (by decide))) (mkx QV.mono o4 t1)).mono ?_);rintro ee w7 ⟨t2,u7,rfl,h5⟩;obtain⟨s7,a7,n7,c7,d7,k7,e7,rfl⟩:=h5.shape)
      refine kcn hK (hS.out _ (t1.trans t2)) (fun b5=>?_);clear hK K;have i0:=t1.trans t2;have b6:=m1.ext0 QC.elem i0;obtain⟨_,v0,v1,v2,_,⟨q0,f0⟩,⟨q1,f1⟩,⟨q2,f2⟩,_⟩:=b6.cell3 q k2 b9.out;rw[l7.out]at h5;have c9:=b6.set3 (P:=Tryz.prog) a4V QC.elem q k2 b9.out (v0:= .bool s7) (v1:= .slice a7 n7 c7) (v2:= .slice d7 k7 e7) (x:=2*x) h5;refine kt 10 a ?_;refine kl 11 (fun K hK=>?_);go_simp
      refine hK.out _ _ ?_;clear hK K;obtain⟨r1,r2⟩:=c9;rw[U.out]at r1;have f7:=(b4.then_ (O.trans i0) (fun _ _ _=>rfl)).own b6 (Nat.le_refl _) r2;have o2:=(l2.ext (O.trans i0)).extY r2 (fun _ D=>a0t D) o6;clear i1 i2 i3 q0 q1 q2 f0 f1 f2;go_wp2_with fail
      go_roundw
      case rel=>exact⟨q+1,by go_num,by omega,r1,o2,f7⟩
      case measure=>simp[intOf];omega
     ·have q3:q=j:=by omega
      have hf:=hid (Y.out wr _ b4 l2 hY (by rw[a9f];exact a2.out) (b7K e2 I.out q));clear Y;go_wp2_with fail
      go_ret2
      exact hf.out
def a6h(X:Nat->Bool)(tb n:Nat)(w:World)(e:Ending)(w':World):Prop:=ExtX (tbm tb) w w'/\a0C X tb w'/\∃vx vy p y,e= .returned (.tuple #[vx,vy])/\MV (mk X w') vx p/\RV (mk X w') vy y/\BM 4 p/\BR 4 y/\p.length<=n/\y.length<=n+1/\((∀r∈p,r.length<=4)\/(∀r∈p,12<=r.length/\r.length<=13))
theorem a8j{X:Nat->Bool}{b a:Nat}{T:TypeId}{w:World}{oo:Option Addr}{l:List (List Rat)}(c:OL RV 1 X b T w oo a l):MV (mk X w) (.slice oo l.length a) l:=⟨oo,a,rfl,c.lenCap,c.sl RV.elem⟩
theorem b2u{B C:Nat}{l:List Rat}(h:BR B l)(a:B<=C):BR C l:=fun q hq=>Nat.le_trans (h q hq) a
theorem a9h(X:Nat->Bool)(tb n:Nat)(w:World)(u v:Value)(p:List (List Rat))(y:List Rat)(ht:a0C X tb w)(hX:HX X w)(hu:MV (mk X w) u p)(hv:RV (mk X w) v y)(hp1:1<=p.length)(hpn:p.length<=n)(hn:n<=8)(hyl:y.length=p.length)(hpB:BM 4 p)(hyB:BR 4 y)(hpr:∀r∈p,r.length<=4):Calls Tryz.prog 17 #[.pointer (some ⟨tb,0,none⟩),u,v] w (a6h X tb n w):=by
 have hsub:=a3e ht.1;have htX:=ht.1;obtain⟨po,pc,rfl,hpc,hps⟩:=id hu;obtain⟨yo,yc,rfl,hyc,hys⟩:=id hv;obtain⟨k,hk⟩:∃k,p.length=k:=⟨_,rfl⟩;have hk':=hid hk;rw[hyl]at hyc hv;rw[hk]at hp1 hpn hpc hyc hv;have hyk:=hid (hyl.trans hk);rw[hyl,hk];clear hu hys hk hyl;go_enter Tryz.func17,Tryz.ntmps17
 go_wp2_with (at_builtin;refine a8X a0q rfl RV.elem hX p rfl rfl hk'.out.symm hps (by omega) (by omega) ?_;intro oo co w1 hO1 hE1)
 have ht1:=ht.old hE1 (fun j hj=>hO1.ob_lt hj);have hX1:=hX.ext hE1;have hF1:ExtX (tbm tb) w w1:=ExtX.of hE1;have hv1:RV (mk (un X oo) w1) (.slice yo k yc) y:=a7R RV.mono hv hE1 (fun j hj=>hO1.ob_lt hj);clear hps hE1 hv;refine(a1f (un X oo) tb 6 w1 ht1 (by omega)).mono ?_;rintro e w3 ⟨hE3,ht3,m,rfl,hm⟩;have hO3:=hO1.ext RV.elem hE3 (fun k _ hk=>hsub k hk) (fun _ _ h=>h);have hF3:=hF1.trans hE3;have hX3:=hX.ext hF3;have hv3:RV (mk (un X oo) w3) (.slice yo k yc) y:=RV.mono _ _ _ _ (a0r hE3 fun k hk=>a0o (hsub k hk)) hv1;clear hO1 hF1 ht1 hE3 hv1;have hcase:m=0\/m=1\/m=2\/m=3\/m=4\/m=5:=by omega
 rcases hcase with rfl|rfl|rfl|rfl|rfl|rfl
 ·have hd1:Hid (((k:Int)+1)=((k+1:Nat):Int)):=hid (by omega)
  have hXu3:HX (un X oo) w3:=hO3.unX hX3;clear hv3;go_wp2_with fail
  rw[hd1.out];refine(a4L (un X oo) tb (k+1) w3 ht3 hXu3 (by omega)).mono ?_;rintro e w6 ⟨hE6,zo,z,zc,rfl,hzl,hzc,hzB,ht6,hZ⟩;have hO6:=hO3.ext RV.elem hE6 (fun k _ hk=>hsub k hk) (fun _ _ h=>h);have hm6:=a8j hO6;rw[hk'.out]at hm6;have hRC:RC (mk (un X oo) w6) (.slice zo (k+1) zc) z:=⟨zo,zc,by rw[hzl],by rw[hzl];exact hzc,hZ.sl QC.elem⟩;have hRV:=RV.mono _ _ _ _ (a1N (X:=X) fun k _ hk=>a0o hk) (RC.rv hRC (fun q hq=>Nat.le_trans (hzB q hq) (by decide)));have hout:a6h X tb n w (.returned (.tuple #[.slice oo k co, .slice zo (k+1) zc])) w6:=⟨hF3.trans hE6,(ht6.unX (a0o htX)).unX htX,_,_,p,z,rfl,hm6,hRV,hpB,b2u hzB (by decide),by rw[hk'.out];exact hpn,by omega, .inl hpr⟩;have hout':=hid hout;clear hout hm6 hRC hRV hO6 hZ;go_wp2_with fail
  go_ret2
  exact hout'.out
 ·have hout:a6h X tb n w (.returned (.tuple #[.slice none 0 0, .slice none 0 0])) w3:=⟨hF3,ht3.unX htX,_,_,[],[],rfl,SlV.zero _ _ _,SlV.zero _ _ _,fun r hr=>by simp at hr,fun r hr=>by simp at hr,by simp,by simp, .inl fun r hr=>by simp at hr⟩
  have hout':=hid hout;clear hout;go_wp2_with fail
  go_ret2
  exact hout'.out
 ·go_wp2_with fail
  refine(a1f (un X oo) tb k w3 ht3 (by omega)).mono ?_;rintro e w4 ⟨hE4,ht4,i,rfl,hi⟩;go_wp2_with fail
  refine(a1f (un X oo) tb 5 w4 ht4 (by omega)).mono ?_;rintro e w5 ⟨hE5,ht5,c,rfl,hc⟩;have hE45:=hE4.trans hE5;have hO5:=hO3.ext RV.elem hE45 (fun k _ hk=>hsub k hk) (fun _ _ h=>h);have hF5:=hF3.trans hE45;have hXu5:=hO5.unX (hX.ext hF5);go_wp2_with fail
  refine(a4L (un X oo) tb c w5 ht5 hXu5 (by omega)).mono ?_;rintro e w6 ⟨hE6,zo,z,zc,rfl,hzl,hzc,hzB,ht6,hZ⟩;have hO6:=hO5.ext RV.elem hE6 (fun k _ hk=>hsub k hk) (fun _ _ h=>h);have hF6:=hF5.trans hE6;have hRC:RC (mk (un X oo) w6) (.slice zo c zc) z:=⟨zo,zc,by rw[hzl],by rw[hzl];exact hzc,hZ.sl QC.elem⟩;have hRV:=RC.rv hRC (fun q hq=>Nat.le_trans (hzB q hq) (by decide));have ht6u:a0C (un X oo) tb w6:=ht6.unX (a0o htX);have hik:i<k:=by omega
  have hil:i<p.length:=by rw[hk'.out];exact hik
  have hhd:=hO6.hd;rw[hk'.out]at hhd;have hls:(p.set i z).length=k:=by rw[List.length_set];exact hk'.out
  have hBs:BM 4 (p.set i z):=hpB.set (b2u hzB (by decide)) i;have hrs:∀r∈p.set i z,r.length<=4:=fun r hr=>by
   rcases List.mem_or_eq_of_mem_set hr with hr|rfl
   ·exact hpr r hr
   ·omega
  have hv6:RV (mk (un X oo) w6) (.slice yo k yc) y:=RV.mono _ _ _ _ (a0r (hE45.trans hE6) fun k hk=>a0o (hsub k hk)) hv3;clear hO3 ht3 hF3 hE4 hE5 hE45 hO5 hF5 hXu5 ht5 hE6 ht6 hZ hX3 ht4 hRC hv3;go_wp2_with (first
   |(with_reducible refine a0m a0q (by omega) (by assumption) ?_)
   |((with_reducible show wpList _ _ _ (⟨_, .store _ _ _,_,_,_,_⟩::_) _ _);refine a1t a3G RV.elem i rfl (by simp) hO6 hil _ z rfl hRV ?_;intro w7 hO7 hE7))
  have hF7:=hF6.own hO6 (Nat.le_refl _) hE7;have ht7:=ht6u.unstep (hO6.not_ob htX) hE7 (.inl rfl);have hm7:=a8j hO7;rw[hls]at hm7;have hv7:RV (mk X w7) (.slice yo k yc) y:=RV.mono _ _ _ _ (a0T hE7 (fun _ _ hk=>a0t hk) (fun _ _ hk=>a0o hk)) hv6;have hyk2:=hyk.out;have hout':Hid (a6h X tb n w (.returned (.tuple #[.slice oo k co, .slice yo k yc])) w7):=hid ⟨hF7,ht7.unX htX,_,_,_,y,rfl,hm7,hv7,hBs,hyB,by rw[hls];exact hpn,by omega, .inl hrs⟩;clear hm7 hv7 hO7 hBs hrs hls hyk2;go_wp2_with fail
  go_ret2
  exact hout'.out
 ·have hhd:=hO3.hd
  rw[hk'.out]at hhd;have h0:0<p.length:=by rw[hk'.out];omega
  obtain⟨u,hc,_,hru⟩:=hO3.cell SlV.one 0 h0;obtain⟨a0,c0,rfl,hcl0,hs0⟩:=hru;have hdd4:=hpr p[0] (List.getElem_mem _);obtain⟨dd,hdd⟩:∃dd,p[0].length=dd:=⟨_,rfl⟩;rw[hdd]at hc hdd4;clear hdd;have hobt:ob oo tb=false:=hO3.not_ob htX;have htd:a0C (un X oo) tb w3.drew:=ht3.ext (ExtX.refl _).drew;have hS:Hid (∀w',ExtX (tbm tb) w3.drew w'->w'.cell? (adr oo 0)=some (.slice a0 dd c0)):=hid fun w' h=>h.cellY (show w3.drew.cell? _=_ from hc) (a2Q (b4W hhd (by omega) hobt));have k0:=hS.out _ (ExtX.refl _);have i1:∀m,m<k->∀W,(Instr.indexAt 25 (.slice oo k co) (.int .i64 (m:Int))).run Tryz.prog W= .ok (.pointer (some (adr oo m))) W:=fun m hm=>a0E a0q oo k co .i64 m hhd hm rfl;have i1':=hid i1;have i0:∀W,(Instr.indexAt 25 (.slice oo k co) (.int .i64 0)).run Tryz.prog W= .ok (.pointer (some (adr oo 0))) W:=i1 0 (by omega);have hkb:(k:Int)<=1099511627776:=by omega
  have hEd3:ExtX (tbm tb) w3 w3.drew:=ExtX.of ((ExtX.refl _).drew);have hOd:=hO3.ext0 RV.elem (ExtX.refl _).drew;have hFd:ExtX (tbm tb) w w3.drew:=hF3.drew;clear hs0 hcl0 i1 h0 hO3 hF3 ht3 hX3;go_wp2_with fail
  refine a0K 12 (fun w'=>w'.cell? (adr oo 0)=some (.slice a0 dd c0)) (by kernel_rfl) (by kernel_rfl) (hS.out _ (ExtX.refl _)) (fun hHeld hOnce=>?_);clear k0;refine kt 0 hOnce ?_;refine kt 1 hOnce ?_;refine kt 2 hOnce ?_;refine kt 3 hOnce ?_;refine kt 5 hOnce ?_;refine kt 6 hOnce ?_;refine kt 7 hOnce ?_;refine kt 8 hOnce ?_;refine kt 9 hOnce ?_;refine ks 4 (fun K hK=>?_);go_simp
  (go_at_call 21;(with_reducible refine(a1f (un X oo) tb k w3.drew htd hkb).mono ?_);rintro ee w4 ⟨t1,ht4,i,rfl,hi⟩)
  refine kcn hK (hS.out w4 t1) (fun hHeld=>?_);clear hK K;have hik:i<k:=by omega
  have hil:i<p.length:=by rw[hk'.out];exact hik
  have i4:=i1'.out i hik;have hO4:=hOd.ext RV.elem t1 (fun k _ hk=>hsub k hk) (fun _ _ h=>h);have hF4:=hFd.trans t1;have hXu4:HX (un X oo) w4:=hO4.unX (hX.ext hF4);have hd4:dd<=1000:=by omega
  refine ks 10 (fun K hK=>?_);go_simp
  (go_at_call 80;(with_reducible refine(a6g (un X oo) tb dd w4 ht4 hXu4 hd4).mono ?_);rintro ee w5 ⟨t2,zo,z,zc,rfl,hzl,hzc,hzB,ht5,hZ⟩)
  refine kcn hK (hS.out w5 (t1.trans t2)) (fun hHeld=>?_);clear hK K;have hO5:=hO4.ext RV.elem t2 (fun k _ hk=>hsub k hk) (fun _ _ h=>h);have hF5:=hF4.trans t2;have hRV:RV (mk (un X oo) w5) (.slice zo dd zc) z:=⟨zo,zc,by rw[hzl],by rw[hzl];exact hzc,hZ.sl QV.elem⟩;have ht5u:a0C (un X oo) tb w5:=ht5.unX (a0o htX);obtain⟨_,q0,f0,_⟩:=hO5.cell SlV.one i hil;refine kt 11 hOnce ?_;refine kl 12 (fun K hK=>?_);go_simp
  refine hK.out _ _ ?_;clear hK K;obtain⟨hO7,hE7⟩:=hO5.set1 a3G RV.elem SlV.one i hil (.slice zo dd zc) z hRV;have hF7:=hF5.own hO5 (Nat.le_refl _) hE7;have ht7:=ht5u.unstep (hO5.not_ob htX) hE7 (.inl rfl);have hls:(p.set i z).length=k:=by rw[List.length_set];exact hk'.out
  have hBs:BM 4 (p.set i z):=hpB.set (b2u hzB (by decide)) i;have hrs:∀r∈p.set i z,r.length<=4:=fun r hr=>by
   rcases List.mem_or_eq_of_mem_set hr with hr|rfl
   ·exact hpr r hr
   ·omega
  clear q0 f0 i0 i4;have hXu7:=hO7.unX (hX.ext hF7);have hm7:=a8j hO7;rw[hls]at hm7;obtain⟨w7,hw7⟩:∃w7,w5.setCell (adr oo i) (.slice zo dd zc)=w7:=⟨_,rfl⟩;rw[hw7]at hO7 hF7 ht7 hXu7 hm7 |-;clear hS hEd3 hOd hFd htd hO4 hF4 hXu4 ht4 hO5 hF5 hE7 ht5u ht5 hZ hRV t1 t2 hHeld hw7;go_wp2_with fail
  refine(a6g (un X oo) tb k w7 ht7 hXu7 (by omega)).mono ?_;rintro e w8 ⟨hE8,zo2,z2,zc2,rfl,hzl2,hzc2,hzB2,ht8,hZ2⟩;have hRV2:RV (mk (un X oo) w8) (.slice zo2 k zc2) z2:=⟨zo2,zc2,by rw[hzl2],by rw[hzl2];exact hzc2,hZ2.sl QV.elem⟩;have hm8:MV (mk X w8) (.slice oo k co) (p.set i z):=MV.mono _ _ _ _ (a0r hE8 hsub) hm7;have hout':Hid (a6h X tb n w (.returned (.tuple #[.slice oo k co, .slice zo2 k zc2])) w8):=hid ⟨hF7.trans hE8,(ht8.unX (a0o htX)).unX htX,_,_,_,z2,rfl,hm8,RV.mono _ _ _ _ (a1N fun k _ hk=>a0o hk) hRV2,hBs,b2u hzB2 (by decide),by rw[hls];exact hpn,by omega, .inl hrs⟩;clear hm7 hm8 hRV2 hO7 hBs hrs hls hZ2;go_wp2_with fail
  go_ret2
  exact hout'.out
 ·go_wp2_with fail
  go_loopw [58] (fun o wr=>∃(i:Nat) (m:List (List Rat)),o= .int .i64 i/\i<=k/\Hid (m.length=k)/\(∀j (h:j<m.length),j<i->12<=m[j].length/\m[j].length<=13)/\BM 4 m/\OL RV 1 X w.heap.size 26 wr oo co m/\a0C (un X oo) tb wr/\ExtX (tbm tb) w wr/\RV (mk (un X oo) wr) (.slice yo k yc) y) (fun o _=>k - (intOf o).toNat)
  case atStart=>exact⟨0,p,rfl,Nat.zero_le _,hk',fun j _ h=>by omega,hpB,hO3,ht3,hF3,hv3⟩
  case round=>
   clear hO3 ht3 hF3 hX3 hv3;obtain⟨i,m,rfl,hi,hml,hlo,hmB,hO,htr,hE,hvr⟩:=hrel;have hXr:=hX.ext hE;have hhd:=hO.hd;rw[hml.out]at hhd;by_cases hlt:i<k
   ·have hil:i<m.length:=by rw[hml.out];exact hlt
    go_wp2_with fail
    refine(a1f (un X oo) tb 2 wr htr (by omega)).mono ?_;rintro e w4 ⟨hE4,ht4,c,rfl,hc⟩;have hO4:=hO.ext RV.elem hE4 (fun k _ hk=>hsub k hk) (fun _ _ h=>h);have hF4:=hE.trans hE4;have hXu4:=hO4.unX (hX.ext hF4);have hd1:Hid ((12:Int)+(c:Int)=((12+c:Nat):Int)):=hid (by omega);go_wp2_with fail
    rw[hd1.out];refine(a4L (un X oo) tb (12+c) w4 ht4 hXu4 (by omega)).mono ?_;rintro e w6 ⟨hE6,zo,z,zc,rfl,hzl,hzc,hzB,ht6,hZ⟩;have hO6:=hO4.ext RV.elem hE6 (fun k _ hk=>hsub k hk) (fun _ _ h=>h);have hF6:=hF4.trans hE6;have hRC:RC (mk (un X oo) w6) (.slice zo (12+c) zc) z:=⟨zo,zc,by rw[hzl],by rw[hzl];exact hzc,hZ.sl QC.elem⟩;have hRV:=RC.rv hRC (fun q hq=>Nat.le_trans (hzB q hq) (by decide));have ht6u:a0C (un X oo) tb w6:=ht6.unX (a0o htX);have hls:Hid ((m.set i z).length=k):=hid (by rw[List.length_set];exact hml.out);have hBs:BM 4 (m.set i z):=hmB.set (b2u hzB (by decide)) i;have hlo2:∀j (h:j<(m.set i z).length),j<i+1->12<=(m.set i z)[j].length/\(m.set i z)[j].length<=13:=fun j h hj=>by
     by_cases e:i=j
     ·subst e
      rw[List.getElem_set_self];omega
     ·rw[List.getElem_set_ne e]
      exact hlo j (by simpa using h) (by omega)
    have hv6:RV (mk (un X oo) w6) (.slice yo k yc) y:=RV.mono _ _ _ _ (a0r (hE4.trans hE6) fun k hk=>a0o (hsub k hk)) hvr;clear hO htr hE hE4 hO4 hF4 hXu4 ht4 hE6 ht6 hZ hRC hvr hXr hlo hmB;go_wp2_with (first
     |(with_reducible refine a0m a0q (by omega) (by assumption) ?_)
     |((with_reducible show wpList _ _ _ (⟨_, .store _ _ _,_,_,_,_⟩::_) _ _);refine a1t a3G RV.elem i rfl (by simp) hO6 hil _ z rfl hRV ?_;intro w7 hO7 hE7))
    have hF7:=hF6.own hO6 (Nat.le_refl _) hE7;have ht7:=ht6u.unstep (hO6.not_ob htX) hE7 (.inl rfl);have hv7:RV (mk (un X oo) w7) (.slice yo k yc) y:=RV.mono _ _ _ _ (a0r hE7 fun _ hk=>a0t hk) hv6;go_roundw
    case rel=>exact⟨i+1,m.set i z,by go_num,by omega,hls,hlo2,hBs,hO7,ht7,hF7,hv7⟩
    case measure=>simp[intOf];omega
   ·have hie:i=k:=by omega
    have hm7:=a8j hO;rw[hml.out]at hm7;have hyk2:=hyk.out;have hml2:=hml.out;have hout':Hid (a6h X tb n w (.returned (.tuple #[.slice oo k co, .slice yo k yc])) wr):=hid ⟨hE,htr.unX htX,_,_,_,y,rfl,hm7,RV.mono _ _ _ _ (a1N fun k _ hk=>a0o hk) hvr,hmB,hyB,by omega,by omega, .inr fun r hr=>by
     obtain⟨j,hj,rfl⟩:=List.getElem_of_mem hr;exact hlo j hj (by omega)⟩
    clear hm7 hvr hO hyk2 hml2 hlo;go_wp2_with fail
    go_ret2
    exact hout'.out
 ·have hm7:=a8j hO3
  rw[hk'.out]at hm7;have hyk2:=hyk.out;have hout':Hid (a6h X tb n w (.returned (.tuple #[.slice oo k co, .slice yo k yc])) w3):=hid ⟨hF3,ht3.unX htX,_,_,_,y,rfl,hm7,RV.mono _ _ _ _ (a1N fun k _ hk=>a0o hk) hv3,hpB,hyB,by rw[hk'.out];exact hpn,by omega, .inl hpr⟩;clear hm7 hv3 hO3 hyk2;go_wp2_with fail
  go_ret2
  exact hout'.out
end Go.Proofs.YtnnpfhoigmegcaaGreat
namespace Go.Lin
open Go.Lim Go.Rep
noncomputable def b2P(x:Mat)(h:Int):Int:=if plE x≠0 then plE x else if h<1\/(x.length:Int)<h then 1 else 0
noncomputable def b6x(x:Mat)(h:Int):Int:=if b2P x h=0 then max 0 (min ((x.length:Int) - h+1) (h - (plN x:Int)))else 0
theorem a8k(x:Mat):plE x=0\/plE x=6:=by unfold plE;split<;>simp
theorem b4X(x:Mat):plN x<=x.length:=by
 unfold plN;split
 ·exact a6Y _ _
 ·exact Nat.zero_le _
end Go.Lin
namespace Go.Proofs.YtnnpfhoigmegcaaGreat
open Go.RowKit Go.Rep Go.Lim Go.Lin
def NE(w:World)(a b:Int)(e:Ending)(w':World):Prop:=Ext w w'/\e= .returned (.tuple #[.int .i64 a, .int .i64 b])
theorem b8E(X:Nat->Bool)(w:World)(u:Value)(x:Mat)(h:Int)(B:Nat)(G:HX X w)(D:MV (mk X w) u x)(J:x.length<=8)(C:BM B x)(s:1<=B)(v:B<=1000)(H: -9223372036854775808<=h)(I:h<=9223372036854775807):Calls Tryz.prog 58 #[u, .int .i64 h] w (NE w (b6x x h) (b2P x h)):=by
 have l:=b2j X w u x B G D (by omega) C s v;have z:=b4X x;have m:=a8k x;have i:Hid (b2P x h=if plE x≠0 then plE x else if h<1\/(x.length:Int)<h then 1 else 0):=hid rfl;have c:Hid (b6x x h=if b2P x h=0 then max 0 (min ((x.length:Int) - h+1) (h - (plN x:Int)))else 0):=hid rfl;obtain⟨ao,N,rfl,y,A⟩:=D;obtain⟨p,f⟩:∃p,plN x=p:=⟨_,rfl⟩;obtain⟨e,d⟩:∃e,plE x=e:=⟨_,rfl⟩;obtain⟨n,j⟩:∃n,x.length=n:=⟨_,rfl⟩;obtain⟨P,k⟩:∃t,b6x x h=t:=⟨_,rfl⟩;obtain⟨O,g⟩:∃t,b2P x h=t:=⟨_,rfl⟩;rw[f,j,k,g]at c;rw[d,j,g]at i;rw[f,j]at z;rw[f,d,j]at l;rw[d]at m;rw[j]at J;rw[j,k,g];clear f d j k g A y C;rcases m with rfl|rfl
 ·have a:=i.out
  rw[if_neg (by decide)]at a;by_cases q:h<1
  ·rw[if_pos (Or.inl q)]at a
   subst a;have b:=c.out;rw[if_neg (by decide)]at b;subst b;have E:decide (h<1)=true:=decide_eq_true q;clear c i;go_enter Tryz.func58,Tryz.ntmps58
   go_wp2_with (first|(go_at_call 50;refine l.mono ?_;rintro o w1 ⟨a,rfl⟩))
   go_ret2
   exact⟨a,rfl⟩
  ·have E:decide (h<1)=false:=decide_eq_false q
   by_cases r:(n:Int)<h
   ·rw[if_pos (Or.inr r)]at a
    subst a;have b:=c.out;rw[if_neg (by decide)]at b;subst b;have F:decide ((n:Int)<h)=true:=decide_eq_true r;clear c i;go_enter Tryz.func58,Tryz.ntmps58
    go_wp2_with (first|(go_at_call 50;refine l.mono ?_;rintro o w1 ⟨a,rfl⟩))
    go_ret2
    exact⟨a,rfl⟩
   ·have F:decide ((n:Int)<h)=false:=decide_eq_false r
    rw[if_neg (by omega)]at a;subst a;have b:=c.out;rw[if_pos rfl]at b;subst b;have K:IntKind.i64.wrap ((n:Int) - h)=(n:Int) - h:=IntWalk.i64_in _ (by omega);have L:IntKind.i64.wrap ((n:Int) - h+1)=(n:Int) - h+1:=IntWalk.i64_in _ (by omega);have M:IntKind.i64.wrap (h - (p:Int))=h - (p:Int):=IntWalk.i64_in _ (by omega);clear c i;go_enter Tryz.func58,Tryz.ntmps58
    go_wp2_with (first|(go_at_call 50;refine l.mono ?_;rintro o w1 ⟨a,rfl⟩))
    go_ret2
    exact⟨a,rfl⟩
 ·have a:=i.out
  rw[if_pos (by decide)]at a;subst a;have b:=c.out;rw[if_neg (by decide)]at b;subst b;clear c i;go_enter Tryz.func58,Tryz.ntmps58
  go_wp2_with (first|(go_at_call 50;refine l.mono ?_;rintro o w1 ⟨a,rfl⟩))
  go_ret2
  exact⟨a,rfl⟩
theorem b6y(X:Nat->Bool)(w:World)(u:Value)(x:Mat)(h:Int)(B:Nat)(H:HX X w)(E:MV (mk X w) u x)(D:x.length<=8)(C:BM B x)(s:1<=B)(v:B<=1000)(I: -9223372036854775808<=h)(J:h<=9223372036854775807):Calls Tryz.prog 59 #[u, .int .i64 h] w (NE w (b6x x h) (b2P x h)):=by
 have l:=a9V X w u x B H E D C s v;have z:=b4X x;have m:=a8k x;have i:Hid (b2P x h=if plE x≠0 then plE x else if h<1\/(x.length:Int)<h then 1 else 0):=hid rfl;have c:Hid (b6x x h=if b2P x h=0 then max 0 (min ((x.length:Int) - h+1) (h - (plN x:Int)))else 0):=hid rfl;obtain⟨ao,N,rfl,y,A⟩:=E;obtain⟨p,f⟩:∃p,plN x=p:=⟨_,rfl⟩;obtain⟨e,d⟩:∃e,plE x=e:=⟨_,rfl⟩;obtain⟨n,j⟩:∃n,x.length=n:=⟨_,rfl⟩;obtain⟨P,k⟩:∃t,b6x x h=t:=⟨_,rfl⟩;obtain⟨O,g⟩:∃t,b2P x h=t:=⟨_,rfl⟩;rw[f,j,k,g]at c;rw[d,j,g]at i;rw[f,j]at z;rw[f,d,j]at l;rw[d]at m;rw[j]at D;rw[j,k,g];clear f d j k g A y C;rcases m with rfl|rfl
 ·have a:=i.out
  rw[if_neg (by decide)]at a;by_cases q:h<1
  ·rw[if_pos (Or.inl q)]at a
   subst a;have b:=c.out;rw[if_neg (by decide)]at b;subst b;have F:decide (h<1)=true:=decide_eq_true q;clear c i;go_enter Tryz.func59,Tryz.ntmps59
   go_wp2_with (first|(go_at_call 57;refine l.mono ?_;rintro o w1 ⟨a,rfl⟩))
   go_ret2
   exact⟨a,rfl⟩
  ·have F:decide (h<1)=false:=decide_eq_false q
   by_cases r:(n:Int)<h
   ·rw[if_pos (Or.inr r)]at a
    subst a;have b:=c.out;rw[if_neg (by decide)]at b;subst b;have G:decide ((n:Int)<h)=true:=decide_eq_true r;clear c i;go_enter Tryz.func59,Tryz.ntmps59
    go_wp2_with (first|(go_at_call 57;refine l.mono ?_;rintro o w1 ⟨a,rfl⟩))
    go_ret2
    exact⟨a,rfl⟩
   ·have G:decide ((n:Int)<h)=false:=decide_eq_false r
    rw[if_neg (by omega)]at a;subst a;have b:=c.out;rw[if_pos rfl]at b;subst b;have K:IntKind.i64.wrap ((n:Int) - h)=(n:Int) - h:=IntWalk.i64_in _ (by omega);have L:IntKind.i64.wrap ((n:Int) - h+1)=(n:Int) - h+1:=IntWalk.i64_in _ (by omega);have M:IntKind.i64.wrap (h - (p:Int))=h - (p:Int):=IntWalk.i64_in _ (by omega);clear c i;go_enter Tryz.func59,Tryz.ntmps59
    go_wp2_with (first|(go_at_call 57;refine l.mono ?_;rintro o w1 ⟨a,rfl⟩))
    go_ret2
    exact⟨a,rfl⟩
 ·have a:=i.out
  rw[if_pos (by decide)]at a;subst a;have b:=c.out;rw[if_neg (by decide)]at b;subst b;clear c i;go_enter Tryz.func59,Tryz.ntmps59
  go_wp2_with (first|(go_at_call 57;refine l.mono ?_;rintro o w1 ⟨a,rfl⟩))
  go_ret2
  exact⟨a,rfl⟩
def b2v(X:Nat->Bool)(tb n:Nat)(w:World)(e:Ending)(w':World):Prop:=ExtX (tbm tb) w w'/\a0C X tb w'/\∃vx p,e= .returned vx/\MV (mk X w') vx p/\p.length<=n/\BM 8 p
theorem a5v(X:Nat->Bool)(k n:Nat)(w:World)(O:a0C X k w)(M:HX X w)(F:1<=n)(q:n<=8):Calls Tryz.prog 35 #[.pointer (some ⟨k,0,none⟩), .int .i64 (n:Int)] w (b2v X k n w):=by
 have j:=a3e O.1;have U:((3:Nat):Int)=3:=rfl;have m:=a9g X k n 3 w O M F q (by decide) (by decide);rw[U]at m;go_enter Tryz.func35,Tryz.ntmps35
 go_wp2_with fail
 refine m.mono ?_;rintro e w1 ⟨l,v,S,vy,p,y,d,rfl,N,P,G,u,V,W,Y,L,H,K⟩;have B:=M.ext l;have i:BM 4 p:=H.le (by decide);clear m;go_wp2_with fail
 refine(a4I X k 8 w1 v (by decide) (by decide)).mono ?_;rintro e T ⟨a,x,b,rfl⟩;have g:=l.trans a;have f:=MV.mono _ _ _ _ (a0r a j) N;have o:=RV.mono _ _ _ _ (a0r a j) P;have C:=B.ext a;clear N P v l a;cases b
 ·have c:=hid (show b2v X k n w (.returned S) T from⟨g,x,S,p,rfl,f,u,i.le (by decide)⟩)
  clear f o;go_wp2_with fail
  go_ret
  exact c.out
 ·go_wp2_with fail
  refine(a9h X k n T _ _ p y x C f o G u q L i K (fun r h=>by rw[Y r h];omega)).mono ?_;rintro e w3 ⟨A,I,z,a0,Z,y3,rfl,s,J,t,Q,E,R,D⟩;have c:=hid (show b2v X k n w (.returned z) w3 from⟨g.trans A,I,z,Z,rfl,s,E,t.le (by decide)⟩);clear s J f o D;go_wp2_with fail
  go_ret
  exact c.out
end Go.Proofs.YtnnpfhoigmegcaaGreat
namespace Go.Lin
open Go.Lim
def a3X(l:List Rat):List Rat:=(srt l).reverse
theorem a9X(l:List Rat):(a3X l).length=l.length:=by unfold a3X;rw[List.length_reverse,a4Z]
theorem a9Y{l:List Rat}{x:Rat}:x∈a3X l↔x∈l:=by unfold a3X;rw[List.mem_reverse];exact(a1Q l).mem_iff
theorem b4l{s l:List Rat}(c:s.Perm l)(d:s.Pairwise fun a b=>b<=a):s=a3X l:=by
 have h:=a7t (s:=s.reverse) (l:=l) ((List.reverse_perm s).trans c) (List.pairwise_reverse.2 d);unfold a3X;rw[<-h,List.reverse_reverse]
theorem b6z(l:List Rat):a1K (a3X l)=a1K l:=a3J ((List.reverse_perm _).trans (a1Q l))
theorem b2w(l:List Rat)(m:Nat):a1K ((a3X l).take m)=a7Y l m:=by
 unfold a7Y a3X;rw[List.take_reverse,a4Z];exact a3J (List.reverse_perm _)
end Go.Lin
namespace Go.Proofs.YtnnpfhoigmegcaaGreat
open Go.RowKit Go.Rep Go.Lim Go.Lin Go.Sort Go.Lib Go.Extern
def gtQ(x y:Rat):Bool:=ltQ y x
theorem b6A{x y:Rat}:gtQ x y=false↔x<=y:=a3L
theorem b6B:SWO gtQ:=
 ⟨fun x=>b6q.irrefl x,fun x y z a b=>a2s.2 (by have:=a2s.1 a;have:=a2s.1 b;grind),fun x y z a b=>a3L.2 (Rat.le_trans (a3L.1 a) (a3L.1 b))⟩
theorem b6C(d:Array Rat):(Go.Sort.insertionSort gtQ d 0 d.size).toList=a3X d.toList:=by
 obtain⟨⟨b,_,a⟩,h⟩:=Go.Sort.insertionSort_holds b6B d 0 d.size (Nat.zero_le _) (Nat.le_refl _);obtain⟨D,k⟩:∃D,Go.Sort.insertionSort gtQ d 0 d.size=D:=⟨_,rfl⟩;rw[k]at b a h |-;refine b4l ?_ (List.pairwise_iff_getElem.2 fun i j hi l f=>?_)
 ·rw[<-b]at a
  have e:D.size=d.size:=b;rw[show D.extract 0 D.size=D by simp,show d.extract 0 D.size=d by rw[e];simp]at a;exact a
 ·have c:i<D.size:=by simpa using hi
  have g:j<D.size:=by simpa using l
  have:=b6A.1 (h i j (Nat.zero_le _) f (by omega));simpa[getElem!_pos,c,g]using this
theorem a9Z{X:Nat->Bool}{B:Nat}{ao:Option Addr}{e n b:Nat}{d:Array Rat}{w:World}(h:Sorting X B ao e n b d w)(i j:Nat)(hi:i<n)(hj:j<n):Calls Tryz.prog 187 #[.int .i64 i, .int .i64 j, .pointer (some ⟨b,0,none⟩)] w (a8n w (gtQ d[i]! d[j]!)):=by
 have hl:d.toList.length=n:=by simpa using h.size
 have u:i<d.toList.length:=by omega
 have v:j<d.toList.length:=by omega
 obtain⟨q,z,s1,P,n1,R,T,k1,V,F,N,l,o⟩:=h.own.rat QC.shaped i u;obtain⟨s,A,s2,Q,n2,S,U,k2,Y,G,O,m,p⟩:=h.own.rat QC.shaped j v;have C:d.toList[i]=d[i]! :=by simp[getElem!_pos,show i<d.size by rw[h.size];exact hi]
 have D:d.toList[j]=d[j]! :=by simp[getElem!_pos,show j<d.size by rw[h.size];exact hj]
 have H:=h.br _ (List.getElem_mem u);have I:=h.br _ (List.getElem_mem v);rw[C]at o H;rw[D]at p I;have t:=h.own.hd;rw[hl]at t;have M:=h.own.unX h.hid;have hv:=h.var;obtain⟨x,hx⟩:∃x,d[i]! =x:=⟨_,rfl⟩;obtain⟨y,hy⟩:∃y,d[j]! =y:=⟨_,rfl⟩;rw[hx]at o H |-;rw[hy]at p I |-;have f:Ext w w.drew:=(ExtX.refl w).drew;have L:Hid (∀c,Ext w c->c.cell? ⟨b,0,none⟩=some (.slice ao n e)/\c.cell? ⟨q,z,none⟩=some (.bool s1)/\c.cell? ⟨q,z+1,none⟩=some (.slice P n1 R)/\c.cell? ⟨q,z+2,none⟩=some (.slice T k1 V)/\c.cell? ⟨s,A,none⟩=some (.bool s2)/\c.cell? ⟨s,A+1,none⟩=some (.slice Q n2 S)/\c.cell? ⟨s,A+2,none⟩=some (.slice U k2 Y)):=
  Go.Rep.hid fun c h=>⟨h.cell hv,(l.out _ _ h rfl).1,(l.out _ _ h rfl).2.1,(l.out _ _ h rfl).2.2,(m.out _ _ h rfl).1,(m.out _ _ h rfl).2.1,(m.out _ _ h rfl).2.2⟩
 have k:=Go.Rep.hid (b6p (un X ao) w.drew _ _ y x (HX.ext (w:=w) M f) ((mkx QC.mono p f).qv I) ((mkx QC.mono o f).qv H));have i1:∀W,(Instr.indexAt 26 (.slice ao n e) (.int .i64 (i:Int))).run Tryz.prog W= .ok (.pointer (some ⟨q,z,none⟩)) W:=by rw[<-F];exact a0j a0J ao n e .i64 i t hi
 have i2:∀W,(Instr.indexAt 26 (.slice ao n e) (.int .i64 (j:Int))).run Tryz.prog W= .ok (.pointer (some ⟨s,A,none⟩)) W:=by rw[<-G];exact a0j a0J ao n e .i64 j t hj
 unfold gtQ ltQ;obtain⟨r,hr⟩:∃r,decide (b1A y x<0)=r:=⟨_,rfl⟩;rw[hr]at k |-;clear o p l m F G N O h hx hy hr C D H I u v hl hv;go_enter Tryz.func187,Tryz.ntmps187
 go_upto_region 1 with fail
 refine a0K 9 (fun c=>c.cell? ⟨b,0,none⟩=some (.slice ao n e)/\c.cell? ⟨q,z,none⟩=some (.bool s1)/\c.cell? ⟨q,z+1,none⟩=some (.slice P n1 R)/\c.cell? ⟨q,z+2,none⟩=some (.slice T k1 V)/\c.cell? ⟨s,A,none⟩=some (.bool s2)/\c.cell? ⟨s,A+1,none⟩=some (.slice Q n2 S)/\c.cell? ⟨s,A+2,none⟩=some (.slice U k2 Y)) (by kernel_rfl) (by kernel_rfl) (L.out _ f) (fun g a=>?_);refine kt 0 a ?_;refine kt 1 a ?_;refine kt 2 a ?_;refine kt 3 a ?_;refine kt 4 a ?_;refine kt 5 a ?_;refine kt 6 a ?_;refine kt 7 a ?_;refine ks 8 (fun K E=>?_);go_simp
 ((with_reducible refine k.out.mono ?_);rintro ee wa ⟨Z,rfl⟩)
 refine kcn E (L.out _ (f.trans Z)) (fun g=>?_);clear E K;refine kl 9 (fun K E=>?_);go_simp
 refine E.out _ _ ?_;clear E K;have J:=f.trans Z;clear g L k;go_wp2_with fail
 go_ret
 exact⟨J,rfl⟩
theorem b2x(X:Nat->Bool)(base:Nat)(ao:Option Addr)(cap n b:Nat):SortBy gtQ 187 #[.pointer (some ⟨b,0,none⟩)] 316 #[.slice ao n cap,typeHandle Tryz.prog 41] (ob ao) n (Sorting X base ao cap n b) where
 enter:=Go.Proofs.enters_of Tryz.func187 (by kernel_rfl) rfl
 ext _ _ _ h hE:=h.ext hE
 low d w h k hk:=(h.own.block hk).2
 less d w h _ i j hi hj:=(a9Z h i j hi hj).mono fun _ _ ⟨hE,he⟩=>⟨he,hE⟩
 swap d w h hn i j hi hj _:=by
  have hl:d.toList.length=n:=by simpa using h.size
  obtain⟨w',h1,h3,h4⟩:=h.own.run_swap (P:=Tryz.prog) (t:=41) (ti:=a6p) false (by kernel_rfl) (by kernel_rfl) (fun _=>by kernel_rfl) QC.elem (fun _ _ _ h=>by obtain⟨_,_,_,_,_,_,_,rfl⟩:=h.shape;exact⟨_,rfl⟩) i j (by omega) (by omega) cap;rw[hl]at h1;refine⟨w',?_,⟨?_,by rw[size_swp];exact h.size,h4.cellY h.var h.off,h.off,fun k hk=>Nat.lt_of_lt_of_le (h.hid k hk) h4.size,?_⟩,h4⟩
  ·rw[run_callFunc_extern Tryz.func316 (by kernel_rfl) (by kernel_rfl) (by kernel_rfl) (e:=Extern.ReflectliteSwapper.swap false) (by kernel_rfl)]
   rw[show(#[Value.int .i64 (i:Int),Value.int .i64 (j:Int)]++#[Value.slice ao n cap,typeHandle Tryz.prog 41])=#[.int .i64 i, .int .i64 j, .slice ao n cap,typeHandle Tryz.prog 41]from rfl,h1];rfl
  ·rw[a6L d i j (by omega) (by omega)];exact h3
  ·rw[a6L d i j (by omega) (by omega)]
   intro x hx;rcases List.mem_or_eq_of_mem_set hx with hx|rfl
   ·rcases List.mem_or_eq_of_mem_set hx with hx|rfl
    ·exact h.br x hx
    ·exact h.br _ (List.getElem_mem _)
   ·exact h.br _ (List.getElem_mem _)
theorem b6D(X:Nat->Bool)(a:Nat)(ao:Option Addr)(c b:Nat)(l:List Rat)(w:World)(h:Sorting X a ao c l.length b l.toArray w)(B:l.length<=20):Calls Tryz.prog 186 #[.iface 26 (.slice ao l.length c), .func (.func 187) #[] #[.pointer (some ⟨b,0,none⟩)]] w fun e m=> e= .returned (.tuple #[])/\(Sorting X a ao c l.length b (a3X l).toArray m/\ExtX (ob ao) w m):=by
 obtain⟨n,t⟩:∃n,l.length=n:=⟨_,rfl⟩;rw[t]at h B |-;have u:l.toArray.size=n:=by simpa using t
 have s:∀m,Sorting X a ao c n b (Go.Sort.insertionSort gtQ l.toArray 0 n) m->Sorting X a ao c n b (a3X l).toArray m:=fun m C=>by
  have:=b6C l.toArray;rw[u]at this;rw[show(a3X l).toArray=Go.Sort.insertionSort gtQ l.toArray 0 n by rw[<-this]];exact C
 have p:∀(f:Nat) (r:Array Value),SortBy gtQ 187 #[.pointer (some ⟨b,0,none⟩)] f r (ob ao) n (Sorting X a ao c n b)->∀w1,Ext w w1->
   Calls Tryz.prog 267 #[.agg #[.func (.func 187) #[] #[.pointer (some ⟨b,0,none⟩)], .func (.func f) #[] r], .int .i64 n] w1 fun e m=>e= .returned (.tuple #[])/\(Sorting X a ao c n b (a3X l).toArray m/\ExtX (ob ao) w m):=fun f r S w1 q=>
  (b0B S l.toArray w1 (h.ext q) u B).mono fun _ _ ⟨y,D,_,x⟩=>⟨y,s _ D,(ExtX.of q).trans x⟩
 have g:n<2->∀f r,SortBy gtQ 187 #[.pointer (some ⟨b,0,none⟩)] f r (ob ao) n (Sorting X a ao c n b):=fun v f r=>
  ⟨Go.Proofs.enters_of Tryz.func187 (by kernel_rfl) rfl,fun _ _ _ h q=>h.ext q,fun d w h k F=>(h.own.block F).2,fun d w h _ i j hi A=>(a9Z h i j hi A).mono fun _ _ ⟨q,y⟩=>⟨y,q⟩,fun d w h _ i j hi A E=>by omega⟩
 rcases Nat.lt_or_ge n 2 with v|v
 ·rcases Nat.eq_zero_or_pos n with z|z
  ·have o:swapperK n a6p 25=1:=by rw[swK,if_pos z]
   refine a2r 26 41 b2g a6p (by kernel_rfl) (by kernel_rfl) (by kernel_rfl) (by kernel_rfl) 25 (fun _=>by kernel_rfl) ao n c (by omega) 308 (by rw[o];kernel_rfl) _ _ w _ ?_;rw[o];exact p _ _ (g v _ _)
  ·have o:swapperK n a6p 25=2:=by rw[swK,if_neg (by omega),if_pos (by omega)]
   refine a2r 26 41 b2g a6p (by kernel_rfl) (by kernel_rfl) (by kernel_rfl) (by kernel_rfl) 25 (fun _=>by kernel_rfl) ao n c (by omega) 309 (by rw[o];kernel_rfl) _ _ w _ ?_;rw[o];exact p _ _ (g v _ _)
 ·have o:swapperK n a6p 25=9:=by rw[swK,if_neg (by omega),if_neg (by omega)]
  refine a2r 26 41 b2g a6p (by kernel_rfl) (by kernel_rfl) (by kernel_rfl) (by kernel_rfl) 25 (fun _=>by kernel_rfl) ao n c (by omega) 316 (by rw[o];kernel_rfl) _ _ w _ ?_;rw[o];exact p _ _ (b2x X a ao c n b)
end Go.Proofs.YtnnpfhoigmegcaaGreat
namespace Go.Lin
open Go.Lim Go.Rep
theorem a5w{q:Rat}:q.num.sign<0↔q<0:=by
 constructor
 ·intro h
  have a:q.num<0:=by
   rcases Int.lt_trichotomy q.num 0 with a|a|a
   ·exact a
   ·rw[a]at h;exact absurd h (by decide)
   ·rw[Int.sign_eq_one_of_pos a]at h;exact absurd h (by decide)
  apply Classical.byContradiction;intro b;have:=Rat.num_nonneg.2 (show 0<=q by grind);omega
 ·intro h
  have a:q.num<0:=by
   apply Classical.byContradiction;intro b;have:=Rat.num_nonneg.1 (show 0<=q.num by omega);grind
  rw[Int.sign_eq_neg_one_of_neg a];decide
theorem b2y{q:Rat}:hq (a3o q)<=hq q:=by
 unfold a3o;split
 ·exact Nat.le_of_eq (a3j q)
 ·exact Nat.le_refl _
end Go.Lin
namespace Go.Proofs.YtnnpfhoigmegcaaGreat
open Go.RowKit Go.Rep Go.Lim Go.Lin
theorem b9j(X:Nat->Bool)(w:World)(u:Value)(x:Rat)(Y:HX X w)(z:QV (mk X w) u x):Calls Tryz.prog 185 #[u] w (a1F X w QC (a3o x)):=by
 have E:=hid z.hq;obtain⟨s1,N,n1,P,R,k1,T,rfl⟩:=z.shape;obtain⟨W,hW,C,p,A,hz⟩:=a1a w #[.bool s1, .slice N n1 P, .slice R k1 T] #[.bool false, .slice none 0 0, .slice none 0 0] 41 41;have l:HX (a0e X w.heap.size 2) W:=Y.boxes hz;have j:=QV.mono _ _ _ _ (a0i (nb:=2) C) z;obtain⟨b,Z⟩:∃b,w.heap.size=b:=⟨_,rfl⟩;have a0:w.heap.size<=b:=by omega
 rw[Z]at p A hz l j;have a4:=p.cell 0 rfl;have a5:=p.cell 1 rfl;have a6:=p.cell 2 rfl;have i:=a8H (a0e X b 2) W _ x l j;have f:=hid fun t u y (h:Ext W t) (V:QV (mk (a0e X b 2) t) u y)=>b8n (a0e X b 2) t u y (l.ext h) V;have r:=hid fun t (h:Ext W t)=>mkx QV.mono j h;have G:Hid (hq (-x)<=68719476736):=hid (by rw[a3j];exact E.out);have m:=hid fun(h:x<0)=>(by unfold a3o;rw[if_pos h]:a3o x= -x);have n:=hid fun(h:¬x<0)=>(by unfold a3o;rw[if_neg h]:a3o x=x);clear z j;by_cases d:x<0
 ·have hd:=a5w.2 d
  rw[m.out d];obtain⟨sg,a⟩:∃sg,x.num.sign=sg:=⟨_,rfl⟩;rw[a]at i hd;have D:decide (sg<0)=true:=decide_eq_true hd;clear a d m n;go_enter Tryz.func185,Tryz.ntmps185
  go_wp2_with (first|(go_at_call 125;refine i.mono ?_;rintro v w1 ⟨e,rfl⟩;have c:=p.ext0 e;have H:=c.cell 0 rfl;have I:=c.cell 1 rfl;have J:=c.cell 2 rfl)|(go_at_call 237;(with_reducible refine(f.out w1 _ x e (r.out w1 e)).mono ?_);rintro v M ⟨q,u2,rfl,g⟩;obtain⟨s2,O,n2,Q,S,k2,U,rfl⟩:=g.shape;have k:=A.ext0 (e.trans q))|((with_reducible show wpList _ _ _ (⟨_, .store 41 _ _,_,_,_,_⟩::_) _ _);refine a0a a0k rfl rfl k rfl rfl (a1n _ _ _ _ _ _ _) ?_;intro w7 K s))
  have B:=QC.mono _ _ _ _ a0h (QC.mono _ _ _ _ (a0f s (by omega) (by omega)) g);exact bodyPost_ret (a0d rfl rfl a0k K rfl) rfl ⟨ExtX.box (C.trans (e.trans q)) s (by omega),_,rfl,B⟩
 ·have hd:¬x.num.sign<0:=fun h=>d (a5w.1 h)
  rw[n.out d];obtain⟨sg,a⟩:∃sg,x.num.sign=sg:=⟨_,rfl⟩;rw[a]at i hd;have D:decide (sg<0)=false:=decide_eq_false hd;clear a d m n;have F:Hid (- -x=x):=hid (by grind);go_enter Tryz.func185,Tryz.ntmps185
  go_wp2_with (first|(go_at_call 125;refine i.mono ?_;rintro v w1 ⟨e,rfl⟩;have c:=p.ext0 e;have H:=c.cell 0 rfl;have I:=c.cell 1 rfl;have J:=c.cell 2 rfl)|(go_at_call 237;(with_reducible refine(f.out w1 _ x e (r.out w1 e)).mono ?_);rintro v M ⟨q,u2,rfl,g⟩;obtain⟨s2,O,n2,Q,S,k2,U,rfl⟩:=g.shape)|(go_at_call 237;(with_reducible refine(f.out M _ (-x) (e.trans q) (g.qv G.out)).mono ?_);rintro v w3 ⟨L,u3,rfl,o⟩;rw[F.out]at o;obtain⟨s3,a3,n3,c3,d3,k3,e3,rfl⟩:=o.shape;have k:=A.ext0 (e.trans (q.trans L)))|((with_reducible show wpList _ _ _ (⟨_, .store 41 _ _,_,_,_,_⟩::_) _ _);refine a0a a0k rfl rfl k rfl rfl (a1n _ _ _ _ _ _ _) ?_;intro w7 K s))
  have B:=QC.mono _ _ _ _ a0h (QC.mono _ _ _ _ (a0f s (by omega) (by omega)) o);exact bodyPost_ret (a0d rfl rfl a0k K rfl) rfl ⟨ExtX.box (C.trans (e.trans (q.trans L))) s (by omega),_,rfl,B⟩
theorem b8F(X:Nat->Bool)(w:World)(u:Value)(x:Rat)(O:HX X w)(t:QV (mk X w) u x):Calls Tryz.prog 46 #[u] w (a1F X w QC (a3o x)):=by
 have R:=hid t.hq;obtain⟨s1,G,Z,I,K,V,M,rfl⟩:=t.shape;obtain⟨W,hW,A,n,v,hz⟩:=a1a w #[.bool s1, .slice G Z I, .slice K V M] #[.bool false, .slice none 0 0, .slice none 0 0] 41 41;have g:HX (a0e X w.heap.size 2) W:=O.boxes hz;have e:=QV.mono _ _ _ _ (a0i (nb:=2) A) t;obtain⟨b,P⟩:∃b,w.heap.size=b:=⟨_,rfl⟩;have Q:w.heap.size<=b:=by omega
 rw[P]at n v hz g e;have S:=n.cell 0 rfl;have T:=n.cell 1 rfl;have U:=n.cell 2 rfl;have i:=a5V (a0e X b 2) W _ x g e;have o:=hid fun s (h:Ext W s)=>b0u (a0e X b 2) s _ x (g.ext h) (mkx QV.mono e h);have p:=hid fun s (h:Ext W s)=>a3l (a0e X b 2) s _ x (g.ext h) (mkx QV.mono e h);have l:=hid fun(h:x<0)=>(by unfold a3o;rw[if_pos h]:a3o x= -x);have m:=hid fun(h:¬x<0)=>(by unfold a3o;rw[if_neg h]:a3o x=x);clear t e;by_cases d:x<0
 ·have hd:=a5w.2 d
  rw[l.out d];obtain⟨sg,a⟩:∃sg,x.num.sign=sg:=⟨_,rfl⟩;rw[a]at i hd;have B:decide (sg<0)=true:=decide_eq_true hd;clear a d l m;go_enter Tryz.func46,Tryz.ntmps46
  go_wp2_with (first|(go_at_call 42;refine i.mono ?_;rintro y w1 ⟨j,rfl⟩;have c:=n.ext0 j;have C:=c.cell 0 rfl;have D:=c.cell 1 rfl;have E:=c.cell 2 rfl)|(go_at_call 56;(with_reducible refine(o.out w1 j).mono ?_);rintro y w2 ⟨r,u2,rfl,f⟩;obtain⟨s2,H,n2,J,L,Y,N,rfl⟩:=f.shape;have k:=v.ext0 (j.trans r))|((with_reducible show wpList _ _ _ (⟨_, .store 41 _ _,_,_,_,_⟩::_) _ _);refine a0a a0k rfl rfl k rfl rfl (a1n _ _ _ _ _ _ _) ?_;intro w7 F q))
  have z:=QC.mono _ _ _ _ a0h (QC.mono _ _ _ _ (a0f q (by omega) (by omega)) f);exact bodyPost_ret (a0d rfl rfl a0k F rfl) rfl ⟨ExtX.box (A.trans (j.trans r)) q (by omega),_,rfl,z⟩
 ·have hd:¬x.num.sign<0:=fun h=>d (a5w.1 h)
  rw[m.out d];obtain⟨sg,a⟩:∃sg,x.num.sign=sg:=⟨_,rfl⟩;rw[a]at i hd;have B:decide (sg<0)=false:=decide_eq_false hd;clear a d l m;go_enter Tryz.func46,Tryz.ntmps46
  go_wp2_with (first|(go_at_call 42;refine i.mono ?_;rintro y w1 ⟨j,rfl⟩;have c:=n.ext0 j;have C:=c.cell 0 rfl;have D:=c.cell 1 rfl;have E:=c.cell 2 rfl)|(go_at_call 118;(with_reducible refine(p.out w1 j).mono ?_);rintro y w2 ⟨r,u2,rfl,f⟩;obtain⟨s2,H,n2,J,L,Y,N,rfl⟩:=f.shape;have k:=v.ext0 (j.trans r))|((with_reducible show wpList _ _ _ (⟨_, .store 41 _ _,_,_,_,_⟩::_) _ _);refine a0a a0k rfl rfl k rfl rfl (a1n _ _ _ _ _ _ _) ?_;intro w7 F q))
  have z:=QC.mono _ _ _ _ a0h (QC.mono _ _ _ _ (a0f q (by omega) (by omega)) f);exact bodyPost_ret (a0d rfl rfl a0k F rfl) rfl ⟨ExtX.box (A.trans (j.trans r)) q (by omega),_,rfl,z⟩
end Go.Proofs.YtnnpfhoigmegcaaGreat
