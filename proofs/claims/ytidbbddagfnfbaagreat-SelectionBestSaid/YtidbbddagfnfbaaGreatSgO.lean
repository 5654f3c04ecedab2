/- Parts of a proof: each theorem states what it proves, and its conditions. -/
import Derived.Test.YtidbbddagfnfbaaGreatSgN
import Derived.BigQuiet
import Derived.Deep.RegionHeld3
namespace Go.Lin
open Go.Lim Go.Rep
theorem a2v {x:Mat} {y:List Rat}:a6c x y=true↔(1<=x.length/\x.length<=64/\y.length=x.length)/\a6z x 1 12=true:=by
 unfold a6c;rw[Bool.and_eq_true,decide_eq_true_eq]
theorem c0X {x:Mat} {y:List Rat}:a6c x y=true↔a7y x y=true:=by
 rw[a2v,a2R,a2f,a1G];constructor
 ·rintro ⟨⟨d,b,c⟩,a⟩
  refine⟨⟨by omega,fun i hi=>?_⟩,d,b,?_,c⟩
  ·have:=a i hi;omega
  ·have:=a 0 (by omega);omega
 ·rintro ⟨⟨f,a⟩,d,b,e,c⟩
  exact⟨⟨d,b,c⟩,fun i hi=>by have:=a i hi;omega⟩
structure SizeT where
 p:Nat
 q:Rat
 cnt:Nat
 t:List (List Int)
def c1P (f:List Int->Rat) (c p:Nat) (z:SizeT):Prop:=z.p=p/\a7B f (a0C c p 0) z.q z.cnt z.t/\hq z.q<=600000000
end Go.Lin
namespace Go.Rep
open Go.RowKit Go.Lim Go.Lin
def a4k (h:Mem) (u:Value) (z:SizeT):Prop:=
 ∃s a n c d k e s2 a2 n2 c2 d2 k2 e2 so sc,u= .agg #[.int .i64 (z.p:Int), .bool s, .slice a n c, .slice d k e, .bool s2, .slice a2 n2 c2, .slice d2 k2 e2, .slice so z.t.length sc, .int .i64 (z.cnt:Int), .bool true]/\QC h (.agg #[.bool s, .slice a n c, .slice d k e]) z.q/\QC h (.agg #[.bool s2, .slice a2 n2 c2, .slice d2 k2 e2]) z.q/\z.t.length<=sc/\Sl (SlV (a0p .i64) 1) 1 h so z.t
theorem a4k.mono:a3E a4k:=by
 rintro h x u z b ⟨s,a,n,c,d,k,e,t,f,m,w,l,o,g,p,i,rfl,v,q,r,j⟩;exact⟨s,a,n,c,d,k,e,t,f,m,w,l,o,g,p,i,rfl,QC.mono _ _ _ _ b v,QC.mono _ _ _ _ b q,r,j.mono (SlV.mono (a0p.mono _) _) b⟩
theorem a4k.elem:Elem a4k 10:=
 ⟨a4k.mono,by rintro h u x ⟨s,a,n,c,d,k,e,p,f,l,q,j,m,g,o,i,rfl,_⟩;rfl,by
  rintro h u x ⟨s,a,n,c,d,k,e,p,f,l,q,j,m,g,o,i,rfl,_⟩ v b;simp[a0i,Value.cells]at b;rcases b with rfl|rfl|rfl|rfl|rfl|rfl|rfl|rfl|rfl|rfl<;>rfl,by decide⟩
end Go.Rep
namespace Go.Proofs.YtidbbddagfnfbaaGreat
open Go.RowKit Go.Rep Go.Lim Go.Lin
theorem b1s:SliceT Tryz.prog 36 48 10 160 (.agg #[.int .i64 0, .bool false, .slice none 0 0, .slice none 0 0, .bool false, .slice none 0 0, .slice none 0 0, .slice none 0 0, .int .i64 0, .bool false]):=⟨Tryz.underlying36,by kernel_rfl⟩
theorem b1t:a1D Tryz.prog 48 10:=by
 obtain⟨c,b,_,a,_⟩:=info_parts b1s.info;exact⟨_,c,Tryz.underlying48,b,a⟩
def c0Y (X:Nat->Bool) (w:World) (f:List Int->Rat) (c:Nat) (e:Ending) (w':World):Prop:=Ext w w'/\∃ao cap L,e= .returned (.tuple #[.slice ao (c+1) cap, .int .i64 0])/\c+1<=cap/\L.length=c+1/\Sl a4k 10 (mk X w') ao L/\∀p (h:p<L.length),c1P f c p L[p]
set_option maxRecDepth 100000 in
set_option maxHeartbeats 1600000 in
theorem b1u (X:Nat->Bool) (w:World) (u v:Value) (x:Mat) (y:List Rat) (n c B:Nat) (bud:Int) (hX:HX X w) (hu:MV (mk X w) u x) (hv:RV (mk X w) v y) (hok:a6c x y=true) (hsh:Shp n c x) (hn:n<=8) (hc:c<=4) (hxB:BM B x) (hyB:BR B y) (hB1:1<=B) (hB:B<=510/\n*(2*B+1)<=6540) (hb1:1<=bud) (hb2:bud<=1048576):
  Calls Tryz.prog 21 #[u,v, .int .i64 bud] w (c0Y X w (a6b x y n) c):=by
 obtain⟨⟨h1,h64,hyx⟩,hsm⟩:=a2v.1 hok;have hls:=c0X.1 hok;have hy:y.length=n:=by rw[hyx,hsh.1]
 have hcc:a0x x=c:=by
  have h0:0<x.length:=by omega
  rw[<-(a2f.1 hsm 0 h0).1];exact hsh.2 _ (List.getElem_mem _)
 have hde:=a6M X w u v x y hu hv (by omega) (by omega);rw[hok]at hde;have hga:=b1Y X w u v x y n c B hX hu hv hls hsh.1 hcc hn hc hxB hyB hB1 hB;have hcb:=hid (fun(Y:Nat->Bool) (w0:World) bm bs B0 p kc N xo xl xc yo yl yc sm am nm cm dm km em done (s:List Int) W h1 h2 h3 h4 h5 h6 hsb hsl=>b4o Y w0 bm bs B0 p kc N xo xl xc yo yl yc sm am nm cm dm km em x y n c B done s W h1 h2 h3 h4 h5 h6 hsh hy hn hc hxB hyB hB1 hB hsb hsl);obtain⟨ua,uc,rfl,huc,hus⟩:=hu;obtain⟨va,vc,rfl,hvc,hvs⟩:=hv;have hhu:=hus.hd;obtain⟨a0,c0,hX0,hc0,hcl0,hq0⟩:=hus.row 0 (by omega);rw[hsh.2 (x[0]'(by omega)) (List.getElem_mem _)]at hc0 hcl0;obtain⟨f,hf⟩:∃f,a6b x y n=f:=⟨_,rfl⟩;rw[hf]at hcb |-;obtain⟨xn,hxn⟩:∃xn,x.length=xn:=⟨_,rfl⟩;obtain⟨yn,hyn⟩:∃yn,y.length=yn:=⟨_,rfl⟩;rw[hxn]at hde hga hhu h1 |-;rw[hyn]at hde hga |-;have hcl:Hid (∀p,p<=c->(a0C c p 0).length<=4096):=hid fun p hp=>by
  have h1:=a1H c p 0;have h2:=c0U (n:=c) (k:=p) (by omega) (by omega);rw[h1];exact Nat.le_trans (a9m c p) (Nat.le_trans (Nat.pow_le_pow_left hc p) (Nat.le_trans (Nat.pow_le_pow_right (by decide) (show p<=4 by omega)) (by decide)))
 have hhu':Hd ua xn:=hhu;clear hxn hyn hok hsm hls hy hcc hxB hyB hus hvs hq0 h64 hyx hsh;go_enter Tryz.func21,Tryz.ntmps21
 go_wp2_with fail
 refine hde.mono ?_;rintro e w1 ⟨rfl,rfl⟩;go_wp2_with fail
 refine hga.mono ?_;rintro e w2 ⟨hE2,um,rfl,hm⟩;have hm':=hid hm;obtain⟨mo,ml,mc,yo,yl,yc,sm,am,nm,cm,dm,km,em,rfl,_,_,_⟩:=hm;obtain⟨N,hN⟩:∃N,(gmM x y c n).n=N:=⟨_,rfl⟩;rw[hN]at hm';rw[hN];have bM:=Bx.new w2 #[.int .i64 0, .slice none 0 0, .slice none 0 0, .bool false, .slice none 0 0, .slice none 0 0] 117;clear hde hga;go_wp2_with ((with_reducible show wpList _ _ _ (⟨_, .store 117 _ _,_,_,_,_⟩::_) _ _);refine a0a b1o rfl rfl bM rfl rfl (c1J _ _ _ _ _ _ _ _ _ _ _ _ _ _) ?_;intro w3 m1 m2;have hE3:Ext w2 w3:=ExtX.box ((ExtX.refl w2).alloc _) m2 (Nat.le_refl _))
 have hm3:=a6N.mono _ _ _ _ (a0l hE3) hm'.out;have hE03:=hE2.trans hE3;obtain⟨bm,hbm⟩:∃bm,w2.heap.size=bm:=⟨_,rfl⟩;rw[hbm]at m1;rw[hbm];have hX3:=hX.ext hE03;clear m2 bM hbm hN hm';have hst:=hid (fun(wr:World) (oo:Option Addr) (h:Ext w3 wr) (hb:∀j,j<w3.heap.size->ob oo j=false)=>a5Q a6N.mono hm3 h hb);have hbml:bm<w3.heap.size:=m1.lt;have hbx3:=hid (fun wr (h:Ext w3 wr)=>m1.ext0 h);clear hm3 m1;go_wp2_with fail
 go_loopw [9,10] (fun o cx wr=>∃(p:Nat) (oo:Option Addr) (co:Nat) (L:List SizeT),cx= .int .i64 p/\o= .slice oo p co/\p<=c+1/\L.length=p/\OL a4k 10 X w3.heap.size 48 wr oo co L/\(∀j (h:j<L.length),c1P f c j L[j])/\Ext w3 wr) (fun _ cx _=>c+1 - (intOf cx).toNat)
 case atStart=>exact⟨0,none,0,[],rfl,rfl,Nat.zero_le _,rfl,OL.nil _ _ _ _ _ _,fun j h=>absurd h (by simp),ExtX.refl _⟩
 case round=>
  obtain⟨p,oo,co,L,rfl,rfl,hp,hL,hO,hLo,hE⟩:=hrel;have hXr:HX X wr:=hX3.ext hE;have k00:=hc0.out noY wr (hE03.trans hE) rfl;by_cases hlt:p<=c
  ·have hL':=hid hL
   have hLo':=hid hLo;have hXo:=hO.unX hXr;have hmr:=hst.out wr oo hE (fun j hj=>hO.ob_lt hj);have hbr:=hbx3.out wr hE;have bS:=Bx.new wr #[.int .i64 0, .bool false, .slice none 0 0, .slice none 0 0, .bool false, .slice none 0 0, .slice none 0 0, .slice none 0 0, .int .i64 0, .bool false] 48;clear hL hLo;go_wp2_with (first|(with_reducible refine a0q a0s (by omega) (by assumption) ?_)|((with_reducible show wpList _ _ _ (⟨_, .store 48 _ _,_,_,_,_⟩::_) _ _);refine a0a b1t rfl rfl bS rfl rfl (by intro v hv;simp at hv;rcases hv with rfl|rfl|rfl|rfl|rfl|rfl|rfl|rfl|rfl|rfl<;>rfl) ?_;intro w4 r1 r2;have hE4:Ext wr w4:=ExtX.box ((ExtX.refl wr).alloc _) r2 (Nat.le_refl _);have k04:=hE4.cell k00))
   have hlt4:wr.heap.size<w4.heap.size:=r1.lt;obtain⟨g,hg⟩:∃g,wr.heap.size=g:=⟨_,rfl⟩;rw[hg]at r1 hlt4;have hg':=hid hg;have hsub:=hid (a9V 79 c p #[.pointer (some ⟨bm,0,none⟩), .pointer (some ⟨g,0,none⟩)] (fun done W=>a5p (un X oo) wr g w4.heap.size p f done W) w4 (fun _ _=>rfl) (by omega) (by omega)
    (fun done W W' hi hE=>hi.own hE hE4.size hlt4)
    (fun done s W hi hss hsl hB9=>by
     obtain⟨rest,hrest⟩:=hss;have hmem:s∈a0C c p 0:=by rw[<-hrest];simp
     obtain⟨m1,m2,_⟩:=a1K c p 0 s hmem;have hdl:done.length<=4096:=by
      have h:=hcl.out p hlt;rw[<-hrest]at h;simp at h;omega
     exact hcb.out (un X oo) wr bm g w4.heap.size p p N mo ml mc yo yl yc sm am nm cm dm km em done s W hXo hbr hmr (Nat.le_of_eq hg'.out) hE4.size hlt4 (fun v hv=>by have:=m2 v hv;omega) (by omega) hdl hi hsl hB9)
    ⟨0,0,[],none,0,false,none,0,0,none,0,0,a7B.zero f 0,by rw[a0Z];decide,hE4,r1,QC.zero _,OL.nil _ _ _ _ _ _⟩)
   rw[hg];clear hmr hbr r1 r2 bS hcb hst hbx3 hcl hg;refine hsub.out.mono ?_;rintro e w5 ⟨rfl,q,cnt,t,so,sc,s1,a1,n1,c1,d1,k1,e1,hI,hqq,hE5,hb5,hr5,ho5⟩;clear hsub k00 k04 hE4;have k05:=hc0.out noY w5 ((hE03.trans hE).trans hE5) rfl;have hXm:HX (un (un (un X oo) so) (some ⟨g,0,none⟩)) w5:=a1e (a2X (HX.ext hXo hE5) fun k hk=>(ho5.block hk).2) hb5.lt;have hm1:∀k,un (un (un X oo) so) (some ⟨g,0,none⟩) k=true->un (hSb (un X oo) g w4.heap.size) so k=true:=fun k hk=>by
    rcases Bool.or_eq_true _ _|>.mp (show(un (un X oo) so k||ob (some ⟨g,0,none⟩) k)=true from hk)with h|h
    ·rcases Bool.or_eq_true _ _|>.mp (show(un X oo k||ob so k)=true from h)with h|h
     ·exact a0f (b9t h)
     ·exact a0r h
    ·exact a0f (a4y h)
   have hec:=hid (b7w (un (un (un X oo) so) (some ⟨g,0,none⟩)) w5 _ q hXm ((QC.mono _ _ _ _ (a1u fun k _ hk=>hm1 k hk) hr5).qv (Nat.le_trans hqq (by decide))));have z1:w5.cell? ⟨g,1,none⟩=some (.bool s1):=hb5.cell 1 rfl;have z2:w5.cell? ⟨g,1+1,none⟩=some (.slice a1 n1 c1):=hb5.cell 2 rfl;have z3:w5.cell? ⟨g,1+2,none⟩=some (.slice d1 k1 e1):=hb5.cell 3 rfl;clear hm1;go_wp2_with fail
   refine hec.out.mono ?_;rintro e w6 ⟨hE6,u6,rfl,hu6⟩;obtain⟨s6,a6,n6,c6,d6,k6,e6,rfl⟩:=hu6.shape;have b6:=hb5.ext0 hE6;clear hec z1 z2 z3 k05;obtain⟨tl,htl⟩:∃tl,t.length=tl:=⟨_,rfl⟩;have hlen:Hid ((L++[(⟨p,q,cnt,t⟩:SizeT)]).length=p+1):=hid (by rw[List.length_append,hL'.out];rfl);have hnew:Hid (∀j (h:j<(L++[(⟨p,q,cnt,t⟩:SizeT)]).length),c1P f c j (L++[(⟨p,q,cnt,t⟩:SizeT)])[j]):=hid fun j h=>by
    have hl:=hL'.out;by_cases hj:j<L.length
    ·rw[List.getElem_append_left hj];exact hLo'.out j hj
    ·have h2:=hlen.out
     have hjp:j=p:=by omega
     subst hjp;rw[List.getElem_append_right (by omega)];simp only[hl,Nat.sub_self,List.getElem_cons_zero];exact⟨rfl,hI,hqq⟩
   have hfin:=hid (fun(w7:World) (x2:ExtX (ob (some ⟨g,0,none⟩)) w6 w7)=>
    (⟨ExtX.box (hE5.trans hE6) x2 (Nat.le_of_eq hg'.out),s1,a1,n1,c1,d1,k1,e1,s6,a6,n6,c6,d6,k6,e6,so,sc,by rw[<-htl],QC.mono _ _ _ _ (a1u fun k _ hk=>a0f (b9t hk)) (QC.mono _ _ _ _ (a0w x2 fun _ hk=>a0f (a4y hk)) (mkx QC.mono hr5 hE6)),QC.mono _ _ _ _ (a1u fun k _ hk=>a0f (a0f hk)) (QC.mono _ _ _ _ (a0w x2 fun _ hk=>a0r hk) hu6),ho5.lenCap,((((ho5.sl (SlV.elem (a0p.elem _))).mono (SlV.mono (a0p.mono _) _) (a0l hE6)).mono (SlV.mono (a0p.mono _) _) (a0w x2 fun _ hk=>a4y hk)).mono (SlV.mono (a0p.mono _) _) (a1u fun k _ hk=>b9t hk))⟩:
     Ext wr w7/\a4k (mk (un X oo) w7) (.agg #[.int .i64 (p:Int), .bool s1, .slice a1 n1 c1, .slice d1 k1 e1, .bool s6, .slice a6 n6 c6, .slice d6 k6 e6, .slice so tl sc, .int .i64 (cnt:Int), .bool true]) ⟨p,q,cnt,t⟩))
   rw[htl]at b6;clear hr5 hu6 ho5 hb5 hI hqq htl hE6 hE5 hXm;go_wp2_with (first
    |((with_reducible show wpList _ _ _ (⟨_, .store 45 _ _,_,_,_,_⟩::_) _ _);refine a6Q a0t rfl rfl b6 (by show 4+3<=10;omega) rfl (a1Q _ _ _ _ _ _ _) ?_;intro w7 x1 x2;have x1':Bx w7 g #[.int .i64 (p:Int), .bool s1, .slice a1 n1 c1, .slice d1 k1 e1, .bool s6, .slice a6 n6 c6, .slice d6 k6 e6, .slice so tl sc, .int .i64 (cnt:Int), .bool true] 48:=x1;obtain⟨hE7,hS7⟩:=hfin.out w7 x2;have hO7:=hO.ext0 a4k.elem hE7;have hX7:=hXr.ext hE7;have hb7:=Nat.le_trans hE.size hE7.size)
    |((with_reducible show wpList _ _ _ (⟨_, .load 48 _,_,_,_,_⟩::_) _ _);refine a3i b1t rfl x1' rfl ?_)
    |(at_builtin;refine a0u (l:=L) b1s rfl a4k.elem hb7 hX7 p hL'.out rfl rfl hO7 (.agg #[.int .i64 (p:Int), .bool s1, .slice a1 n1 c1, .slice d1 k1 e1, .bool s6, .slice a6 n6 c6, .slice d6 k6 e6, .slice so tl sc, .int .i64 (cnt:Int), .bool true]) ⟨p,q,cnt,t⟩ rfl hS7 (by omega) (by omega) ?_;intro oo2 co2 w8 hO8 hE8 hor))
   have hE9:=(hE.trans hE7).own hO7 (Nat.le_refl _) hE8;go_roundw
   case rel=>exact⟨p+1,oo2,co2,_,by go_num,by go_num,by omega,hlen.out,hO8,hnew.out,hE9⟩
   case measure=>simp[intOf];omega
  ·have hpc:p=c+1:=by omega
   subst hpc;have hcap:=hO.lenCap;rw[hL]at hcap;have hout:=hid ((⟨hE03.trans hE,oo,co,L,rfl,hcap,hL,hO.sl a4k.elem,hLo⟩:c0Y X w1 f c (.returned (.tuple #[.slice oo (c+1) co, .int .i64 0])) wr));clear hcap hL hLo hO;go_wp2_with (with_reducible refine a0q a0s (by omega) (by assumption) ?_)
   go_ret2
   exact hout.out
theorem a8s {a b:List Int} (c:a.length=b.length) (h:∀i (hi:i<a.length) (d:i<b.length),a[i]=b[i]):a=b:=List.ext_getElem c h
theorem a7C (X:Nat->Bool) (ao t:Option Addr) (a b:List Int) (F B:Nat) (w:World) (n:Sl (a0p .i64) 1 (mk X w) ao a) (r:Sl (a0p .i64) 1 (mk X w) t b) (J:a.length<=1099511627776):
  Calls Tryz.prog 72 #[.slice ao a.length F, .slice t b.length B] w fun e I=>e= .returned (.bool (a==b))/\∃m,I=w.drewN m:=by
 have z:=n.hd;have A:=r.hd;by_cases d:a.length=b.length
 ·have O:b.length<=a.length:=by omega
  have P:a.length<=b.length:=by omega
  have C:((a.length:Int) !=b.length)=false:=a6q (by omega);have k:=hid d;clear d;go_enter Tryz.func72,Tryz.ntmps72
  go_wp2_with fail
  go_loopw [13] (fun c wr=>∃i:Nat,c= .int .i64 i/\i<=a.length/\Hid (∀p,p<i->∀(v:p<a.length) (hq:p<b.length),a[p]=b[p])/\∃m,wr=w.drewN m) (fun c _=>a.length - (intOf c).toNat)
  case atStart=>exact⟨0,rfl,Nat.zero_le _,fun p v=>by omega,0,rfl⟩
  case round=>
   obtain⟨i,rfl,hi,o,j⟩:=hrel;have g:Hid (∃m,wr=w.drewN m):=hid j;have G:Ext w wr:=by
    obtain⟨m,L⟩:=j;rw[L];exact(ExtX.refl w).drewN m
   clear j;by_cases E:i<a.length
   ·have s:i<b.length:=by omega
    have M:=(n.mono (a0p.mono _) (a0l G)).int i E;have K:=(r.mono (a0p.mono _) (a0l G)).int i s;have Q:∀W,(Instr.indexAt 22 (.slice ao a.length F) (.int .i64 (i:Int))).run Tryz.prog W= .ok (.pointer (some (adr ao i))) W:=a0z a2h ao a.length F .i64 i z (by omega) rfl;have R:∀W,(Instr.indexAt 22 (.slice t b.length B) (.int .i64 (i:Int))).run Tryz.prog W= .ok (.pointer (some (adr t i))) W:=a0z a2h t b.length B .i64 i A (by omega) rfl;obtain⟨x,hx⟩:∃x,a[i]=x:=⟨_,rfl⟩;obtain⟨y,D⟩:∃y,b[i]=y:=⟨_,rfl⟩;rw[hx]at M;rw[D]at K;have l:=hid hx;have u:=hid D;clear hx D;by_cases f:x=y
    ·have H:Hid (∀(v:i<a.length) (hq:i<b.length),a[i]=b[i]):=hid fun _ _=>by rw[l.out,u.out,f]
     have N:(x !=y)=false:=a6q (by omega);clear f;go_wp2_with fail
     go_quiet (fail)
     go_wp2_with fail
     go_roundw
     case rel=>exact⟨i+1,by go_num,by omega,a2K o.out H.out,b3Y g _⟩
     case measure=>simp[intOf];omega
    ·have q:Hid ((a==b)=false):=hid (by
      cases h:a==b
      ·rfl
      ·have:=eq_of_beq h;subst this;exact absurd (l.out.symm.trans u.out) f)
     have N:(x !=y)=true:=a6X (by omega);clear f;go_wp2_with fail
     go_quiet (fail)
     go_wp2_with fail
     go_ret
     exact⟨a0j q.out.symm,b3Y g _⟩
   ·have q:Hid ((a==b)=true):=hid (by rw[a8s k.out fun p v hq=>o.out p (by omega) v hq];simp)
    go_wp2_with fail
    go_ret
    exact⟨a0j q.out.symm,g.out⟩
 ·have C:((a.length:Int) !=b.length)=true:=a6X (by omega)
  have q:Hid ((a==b)=false):=hid (by
   cases h:a==b
   ·rfl
   ·have:=eq_of_beq h;subst this;exact absurd rfl d)
  clear d;go_enter Tryz.func72,Tryz.ntmps72
  go_wp2_with fail
  go_ret
  exact⟨a0j q.out.symm,0,rfl⟩
end Go.Proofs.YtidbbddagfnfbaaGreat
namespace Go.Lin
open Go.Lim Go.Rep
def b7G (a b:List Int):Prop:=∃j,j<a.length/\j<b.length/\(∀i,i<j->a.getD i 0=b.getD i 0)/\a.getD j 0<b.getD j 0
theorem b7G.cons {a b:List Int} (h:b7G a b) (x:Int):b7G (x::a) (x::b):=by
 obtain⟨j,h1,h2,h3,h4⟩:=h;refine⟨j+1,by simp;omega,by simp;omega,fun i hi=>?_,by simpa using h4⟩;cases i with
 |zero=>rfl
 |succ i=>simpa using h3 i (by omega)
theorem a6T:∀(n k:Nat) (lo:Int),(a0C n k lo).Pairwise b7G
 |n,0,lo=>by cases n<;>simp[a0C]
 |0,k+1,lo=>by simp[a0C]
 |n+1,k+1,lo=>by
  rw[a0C];refine List.pairwise_append.2 ⟨?_,a6T n (k+1) (lo+1),?_⟩
  ·exact List.pairwise_map.2 ((a6T n k (lo+1)).imp fun h=>h.cons lo)
  ·intro a ha b hb
   obtain⟨c,_,rfl⟩:=List.mem_map.1 ha;obtain⟨h1,h2,_⟩:=a1K _ _ _ b hb;cases b with
   |nil=>simp at h1
   |cons y b=>
    have:=h2 y (by simp);exact⟨0,by simp,by simp,fun i hi=>by omega,by simp;omega⟩
theorem b6K {n k:Nat} {lo:Int} (p:List Int->Bool) {t:List (List Int)} (b:t=(a0C n k lo).filter p) {i:Nat} (h:i+1<t.length):b7G (t[i]'(by omega)) t[i+1]:=by
 have a:t.Pairwise b7G:=by rw[b];exact(a6T n k lo).filter p
 exact List.pairwise_iff_getElem.1 a i (i+1) (by omega) h (by omega)
theorem b6L {x:Mat} {y:List Rat} (h:x.length<1\/64<x.length\/y.length≠x.length):a6c x y=false:=by
 cases a:a6c x y
 ·rfl
 ·have:=(a2v.1 a).1;omega
theorem b6M {x:Mat} {y:List Rat} (i:Nat) (hi:i<x.length) (h:x[i].length≠a0x x):a6c x y=false:=by
 cases a:a6c x y
 ·rfl
 ·exact absurd (a2f.1 (a2v.1 a).2 i hi).1 h
theorem b6N {x:Mat} {y:List Rat} (b:0<x.length) (h:a0x x<1\/12<a0x x):a6c x y=false:=by
 cases a:a6c x y
 ·rfl
 ·have:=a2f.1 (a2v.1 a).2 0 b
  omega
end Go.Lin
namespace Go.Proofs.YtidbbddagfnfbaaGreat
open Go.RowKit Go.Rep Go.Lim Go.Lin
def b4w (w:World) (x:Mat) (y:List Rat) (e:Ending) (w':World):Prop:=Ext w w'/\∃k:Nat,e= .returned (.tuple #[.int .i64 (k:Int), .bool (a6c x y)])/\(a6c x y=true->k=a0x x)
set_option maxRecDepth 100000 in
theorem a6U (X:Nat->Bool) (w:World) (u v:Value) (x:Mat) (y:List Rat) (hu:MV (mk X w) u x) (a:RV (mk X w) v y) (hl:x.length<=1099511627776) (_:y.length<=1099511627776):Calls Tryz.prog 37 #[u,v] w (b4w w x y):=by
 obtain⟨ao,ca,rfl,Y,p⟩:=hu;obtain⟨vo,va,rfl,V,a5⟩:=a;have B:=p.hd;obtain⟨m,F⟩:∃m,y.length=m:=⟨_,rfl⟩;have b:=hid (b6L (x:=x) (y:=y));by_cases j:x.length<1
 ·have T:(x.length:Int)<1:=by omega
  have a:=hid (b.out (.inl j));rw[F];clear j;go_enter Tryz.func37,Tryz.ntmps37
  go_wp2_with fail
  go_ret2
  exact⟨ExtX.refl _,0,by rw[a.out];rfl,fun h=>by rw[a.out]at h;simp at h⟩
 have T:¬(x.length:Int)<1:=by omega
 by_cases s:64<x.length
 ·have W:(64:Int)<(x.length:Int):=by omega
  have a:=hid (b.out (.inr (.inl s)));rw[F];clear j s;go_enter Tryz.func37,Tryz.ntmps37
  go_wp2_with fail
  go_ret2
  exact⟨ExtX.refl _,0,by rw[a.out];rfl,fun h=>by rw[a.out]at h;simp at h⟩
 have W:¬(64:Int)<(x.length:Int):=by omega
 by_cases g:y.length=x.length
 case neg=>
  have a:=hid (b.out (.inr (.inr g)));rw[F]at g |-;obtain⟨n,o⟩:∃n,x.length=n:=⟨_,rfl⟩;rw[o]at T W g hl B |-;have d3:((m:Int) !=(n:Int))=true:=a6X (by omega);clear j s g o F;go_enter Tryz.func37,Tryz.ntmps37
  go_wp2_with fail
  go_ret2
  exact⟨ExtX.refl _,0,by rw[a.out];rfl,fun h=>by rw[a.out]at h;simp at h⟩
 have L:0<x.length:=by omega
 obtain⟨n,o⟩:∃n,x.length=n:=⟨_,rfl⟩;have Q:=hid o;obtain⟨a2,c2,a3,K,H,R⟩:=p.row 0 L;have r:=K.out noY w (ExtX.refl _) rfl;have l:=a1J L;rw[<-l]at r;have A:=hid (fun i hi h=>b6M (x:=x) (y:=y) i hi h);have e:=hid (fun h=>b6N (x:=x) (y:=y) L h);have k:Hid ((∀q,q<n->∀hq:q<x.length,x[q].length=a0x x)->1<=a0x x->a0x x<=12->a6c x y=true):=hid fun h6 h4 h5=>a2v.2 ⟨⟨by omega,by omega,g⟩,a2f.2 fun i hi=>by
  have:=h6 i (by omega) hi;omega⟩
 obtain⟨c,hc⟩:∃c,a0x x=c:=⟨_,rfl⟩;have d:=hid hc;rw[hc]at r e k;have a0:n<=64:=by omega
 have a4:1<=n:=by omega
 rw[g,o]at V |-;rw[o]at T W B;have d3:((n:Int) !=(n:Int))=false:=a6q rfl;clear l K R H j s L o hc Y b g F hl;go_enter Tryz.func37,Tryz.ntmps37
 go_wp2_with (with_reducible refine a0q a0s (by omega) (by assumption) ?_)
 go_loop [30] (fun O=>∃i:Nat,O= .int .i64 i/\i<=n/\Hid (∀q,q<i->∀hq:q<x.length,x[q].length=a0x x)) (fun O=>n - (intOf O).toNat)
 case atStart=>exact⟨0,rfl,Nat.zero_le _,hid fun q hq=>by omega⟩
 case round=>
  obtain⟨i,rfl,hi,G⟩:=hrel;by_cases J:i<n
  ·have t:i<x.length:=by rw[Q.out];exact J
   obtain⟨a1,c1,a6,E,C,S⟩:=p.row i t;have Z:=E.out noY w (ExtX.refl _) rfl;have D:=hid (A.out i t);obtain⟨z,hz⟩:∃z,x[i].length=z:=⟨_,rfl⟩;have M:Hid (z=c->∀hq:i<x.length,x[i].length=a0x x):=hid fun h hq=>by rw[hz,d.out];exact h
   rw[hz,d.out]at D;rw[hz]at Z;clear hz E S C;by_cases f:z=c
   ·have U:((z:Int) !=(c:Int))=false:=a6q (by omega)
    have I:=hid (M.out f);clear f;go_wp2_with (with_reducible refine a0q a0s (by omega) (by assumption) ?_)
    go_round
    case rel=>exact⟨i+1,by go_num,by omega,hid (a2K G.out I.out)⟩
    case measure=>simp[intOf];omega
   ·have U:((z:Int) !=(c:Int))=true:=a6X (by omega)
    have a:=hid (D.out f);clear f;go_wp2_with (with_reducible refine a0q a0s (by omega) (by assumption) ?_)
    go_ret2
    exact⟨ExtX.refl _,0,by rw[a.out];rfl,fun h=>by rw[a.out]at h;simp at h⟩
  ·have P:i=n:=by omega
   subst P;have N:=hid (k.out fun q j s=>(G.out q j s).trans d.out);clear J r;by_cases j:1<=c
   ·have U:(1:Int)<=(c:Int):=by omega
    by_cases g:c<=12
    ·have e2:(c:Int)<=12:=by omega
     have a:=hid (N.out j g);go_wp2_with fail
     go_ret2
     exact⟨ExtX.refl _,c,by rw[a.out];rfl,fun _=>d.out.symm⟩
    ·have e2:¬(c:Int)<=12:=by omega
     have a:=hid (e.out (.inr (by omega)));go_wp2_with fail
     go_ret2
     exact⟨ExtX.refl _,c,by rw[a.out];rfl,fun _=>d.out.symm⟩
   ·have U:¬(1:Int)<=(c:Int):=by omega
    have a:=hid (e.out (.inl (by omega)));go_wp2_with fail
    go_ret2
    exact⟨ExtX.refl _,c,by rw[a.out];rfl,fun _=>d.out.symm⟩
theorem a9r (X:Nat->Bool) (ao:Option Addr) (l:List Int) (a:Nat) (n:Int) (w:World) (h:Sl (a0p .i64) 1 (mk X w) ao l) (j:l.length<=1099511627776) (g:b5q l n=true):
  Calls Tryz.prog 73 #[.slice ao l.length a, .int .i64 n] w fun e i=>w=i/\e= .returned (.bool true):=by
 have c:=hid (a9X X ao l a n w h j);by_cases k:l.length=0
 ·have d:((l.length:Int)==0)=true:=a7q (by omega)
  clear c;go_enter Tryz.func73,Tryz.ntmps73
  go_wp2_with fail
  go_ret
  exact⟨rfl,rfl⟩
 ·have d:((l.length:Int)==0)=false:=a2w (by omega)
  rw[g,decide_eq_true (show 0<l.length by omega)]at c;obtain⟨f,b⟩:∃f,l.length=f:=⟨_,rfl⟩;rw[b]at c d |-;clear b k;go_enter Tryz.func73,Tryz.ntmps73
  go_wp2_with fail
  refine c.out.mono ?_;rintro e m ⟨rfl,rfl⟩;go_wp2_with fail
  go_ret
  exact⟨rfl,rfl⟩
set_option maxHeartbeats 400000 in
theorem a9s (X:Nat->Bool) (ao A:Option Addr) (a b:List Int) (G E:Nat) (w:World) (n:Sl (a0p .i64) 1 (mk X w) ao a) (p:Sl (a0p .i64) 1 (mk X w) A b) (K:a.length<=1099511627776) (h:b7G a b):
  Calls Tryz.prog 75 #[.slice ao a.length G, .slice A b.length E] w fun e J=>e= .returned (.bool true)/\∃m,J=w.drewN m:=by
 have C:=n.hd;have D:=p.hd;obtain⟨j,P,I,q,d⟩:=h;have z:=hid q;have r:∀i (h:i<a.length),a.getD i 0=a[i]:=fun i h=>by simp[List.getD_eq_getElem?_getD,h]
 have v:∀i (h:i<b.length),b.getD i 0=b[i]:=fun i h=>by simp[List.getD_eq_getElem?_getD,h]
 have k:=hid r;have g:=hid v;have o:=hid d;clear q d r v;go_enter Tryz.func75,Tryz.ntmps75
 go_wp2_with fail
 go_loopw [8] (fun c wr=>∃i:Nat,c= .int .i64 i/\i<=j/\∃m,wr=w.drewN m) (fun c _=>a.length - (intOf c).toNat)
 case atStart=>exact⟨0,rfl,Nat.zero_le _,0,rfl⟩
 case round=>
  obtain⟨i,rfl,hi,l⟩:=hrel;have s:Hid (∃m,wr=w.drewN m):=hid l;have H:Ext w wr:=by
   obtain⟨m,M⟩:=l;rw[M];exact(ExtX.refl w).drewN m
  clear l;have d:i<a.length:=by omega
  have f:i<b.length:=by omega
  have N:=(n.mono (a0p.mono _) (a0l H)).int i d;have L:=(p.mono (a0p.mono _) (a0l H)).int i f;have Q:∀W,(Instr.indexAt 22 (.slice ao a.length G) (.int .i64 (i:Int))).run Tryz.prog W= .ok (.pointer (some (adr ao i))) W:=a0z a2h ao a.length G .i64 i C (by omega) rfl;have R:∀W,(Instr.indexAt 22 (.slice A b.length E) (.int .i64 (i:Int))).run Tryz.prog W= .ok (.pointer (some (adr A i))) W:=a0z a2h A b.length E .i64 i D (by omega) rfl;obtain⟨x,hx⟩:∃x,a[i]=x:=⟨_,rfl⟩;obtain⟨y,u⟩:∃y,b[i]=y:=⟨_,rfl⟩;rw[hx]at N;rw[u]at L;by_cases B:i<j
  ·have O:(x !=y)=false:=a6q (by
    have:=z.out i B;rw[k.out i d,g.out i f,hx,u]at this;exact this)
   clear hx u;go_wp2_with fail
   go_quiet (fail)
   go_wp2_with fail
   go_roundw
   case rel=>exact⟨i+1,by go_num,by omega,b3Y s _⟩
   case measure=>simp[intOf];omega
  ·have F:i=j:=by omega
   subst F;have t:x<y:=by
    have:=o.out;rw[k.out i d,g.out i f,hx,u]at this;exact this
   have O:(x !=y)=true:=a6X (by omega);have hd:decide (x<y)=true:=decide_eq_true t;clear hx u t;go_wp2_with fail
   go_quiet (fail)
   go_wp2_with fail
   go_quiet (fail)
   go_wp2_with fail
   go_ret
   exact⟨rfl,b3Y (hid (b3Y s _)) _⟩
set_option maxRecDepth 100000 in
theorem c0Z (X:Nat->Bool) (w:World) (u v:Value) (x y:Rat) (z:QC (mk X w) u x) (D:QC (mk X w) v y) (hx:hq x<=68719476736):Calls Tryz.prog 24 #[u,v] w (a8K w (decide (x=y))):=by
 replace hx:=hid hx
 obtain⟨N,V,H,Q,S,U,G,rfl⟩:=z.shape;obtain⟨Y,I,K,P,J,M,R,rfl⟩:=D.shape;obtain⟨W,Z,r,q,g,hz⟩:=a1v w #[.bool N, .slice V H Q, .slice S U G] #[.bool Y, .slice I K P, .slice J M R] 45 45;have A:=mkx QC.mono z r;have E:=mkx QC.mono D r;obtain⟨b,T⟩:∃b,w.heap.size=b:=⟨_,rfl⟩;rw[T]at q g hz;have p:=q.cell 0 rfl;have l:=q.cell 1 rfl;have i:=q.cell 2 rfl;have j:=g.cell 0 rfl;have d:=g.cell 1 rfl;have k:=g.cell 2 rfl;clear z D;obtain⟨n,_,B⟩:=A.num;obtain⟨f,_,t⟩:=E.num;have o:=hid (Nat.le_trans (a0D x) (Nat.le_trans hx.out (by decide:(68719476736:Nat)<=1099511627776)));have s:=hid (Nat.le_trans (b8e x) (Nat.le_trans hx.out (by decide:(68719476736:Nat)<=1099511627776)));by_cases c:x.num=y.num
 ·have C:Hid (decide (dn x=dn y)=decide (x=y)):=hid (by
   rw[Bool.eq_iff_iff,decide_eq_true_eq,decide_eq_true_eq];constructor
   ·intro h
    refine Rat.ext c ?_;have:=a3X x;have:=a3X y;unfold dn at h;have:=x.den_nz;have:=y.den_nz;split at h<;>split at h<;>omega
   ·rintro rfl;rfl)
  have hd:Hid (decide (x.num=y.num)=true):=hid (decide_eq_true c);clear c;go_enter Tryz.func24,Tryz.ntmps24
  go_wp2_with fail
  refine(b7m X W _ _ _ _ n f o.out).mono ?_;rintro e F ⟨a,rfl⟩;rw[hd.out];have L:=(q.ext0 a).cell 2 rfl;have O:=(g.ext0 a).cell 2 rfl;clear p l i j d k;go_wp2_with fail
  refine(b7k X F _ _ _ _ (mkx NC.mono B a) (mkx NC.mono t a) s.out).mono ?_;rintro e w6 ⟨rfl,m,rfl⟩;go_wp2_with fail
  go_ret
  exact⟨(r.trans a).drewN m,a0j C.out⟩
 ·have C:Hid (false=decide (x=y)):=hid (decide_eq_false (by rintro rfl;exact c rfl)).symm
  have hd:Hid (decide (x.num=y.num)=false):=hid (decide_eq_false c);clear c;go_enter Tryz.func24,Tryz.ntmps24
  go_wp2_with fail
  refine(b7m X W _ _ _ _ n f o.out).mono ?_;rintro e F ⟨a,rfl⟩;rw[hd.out];clear p l i j d k;go_wp2_with fail
  go_ret
  exact⟨r.trans a,a0j C.out⟩
end Go.Proofs.YtidbbddagfnfbaaGreat
namespace Go.Lin
open Go.Lim Go.Rep
theorem b2h {f:List Int->Rat} {C:List (List Int)} {q c:Rat} {n:Nat} {t a:List (List Int)} (b:C≠[]) (o:C.length<=64) (h:a7B f C q n t) (v:b2g f C c a):q=c/\n=a.length/\t=a/\0<a.length/\a.length<=64/\(∀s∈a,s∈C/\f s=c):=by
 rcases h with⟨h,_⟩|⟨_,⟨s,l,e⟩,p,j,i⟩
 ·exact absurd h b
 rcases v with⟨h,_⟩|⟨m,⟨w,g,r⟩,u,d⟩
 ·exact absurd h b
 have hq:q=c:=Rat.le_antisymm (by rw[r];exact p w g) (by rw[e];exact u s l);subst hq;rw[<-d]at j i;have k:a.length<=64:=by rw[d];exact Nat.le_trans (List.length_filter_le _ _) o
 refine⟨rfl,j,by rw[i,List.take_of_length_le k],List.length_pos_iff.2 m,k,fun x hx=>?_⟩;rw[d]at hx;have:=List.mem_filter.1 hx;exact⟨this.1,by simpa using this.2⟩
theorem b4x (q:Rat):(q - q).num.sign=0:=by
 have:q - q=0:=by grind
 rw[this];rfl
theorem b6O {c p:Nat} {s:List Int} (h:s∈a0C c p 0):b5q s (c:Int)=true:=by
 obtain⟨k,a,f⟩:=a1K c p 0 s h;refine b5u.2 fun i hi=>?_;have d:=a s[i] (List.getElem_mem _);have e:0<i->s[i - 1]'(by omega)<s[i]:=fun h=>List.pairwise_iff_getElem.1 f (i - 1) i (by omega) hi (by omega);have b:s.getD i 0=s[i]:=by simp[List.getD_eq_getElem?_getD,hi]
 have g:s.getD (i - 1) 0=s[i - 1]'(by omega):=by simp[List.getD_eq_getElem?_getD,show i - 1<s.length by omega]
 unfold a7S;rw[b];simp only[Bool.and_eq_true,Bool.or_eq_true,decide_eq_true_eq];refine⟨⟨d.1,by omega⟩,?_⟩;by_cases j:i=0
 ·exact .inl j
 ·exact .inr (by rw[g];exact e (by omega))
end Go.Lin
namespace Go.Rep
theorem a4k.agg:∀h u y,a4k h u y->∃b,u= .agg b:=by rintro h u x ⟨s,a,n,c,d,k,e,p,f,l,q,j,m,g,o,i,rfl,_⟩;exact⟨_,rfl⟩
end Go.Rep
namespace Go.Proofs.YtidbbddagfnfbaaGreat
open Go.RowKit Go.Rep Go.Lim Go.Lin
theorem c1Q (p:Int) (s:Bool) (a:Option Addr) (n c:Nat) (d:Option Addr) (k e:Nat) (r:Bool) (h:Option Addr) (m u:Nat) (l:Option Addr) (o i:Nat) (q:Option Addr) (t j:Nat) (f:Int) (b:Bool):∀v∈(#[Value.int .i64 p, .bool s, .slice a n c, .slice d k e, .bool r, .slice h m u, .slice l o i, .slice q t j, .int .i64 f, .bool b]:Array Value).toList,v.oneCell'=true:=by
 intro v g;simp at g;rcases g with rfl|rfl|rfl|rfl|rfl|rfl|rfl|rfl|rfl|rfl<;>rfl
set_option maxRecDepth 100000 in
set_option maxHeartbeats 6400000 in
theorem b4y (X:Nat->Bool) (w:World) (u v:Value) (x:Mat) (y:List Rat) (n c B:Nat) (bud:Int) (hX:HX X w) (hu:MV (mk X w) u x) (hv:RV (mk X w) v y) (hok:a6c x y=true) (hsh:Shp n c x) (hn:n<=8) (hc:c<=4) (hxB:BM B x) (hyB:BR B y) (hB1:1<=B) (hB:B<=510/\n*(2*B+1)<=6540) (hb1:1<=bud) (hb2:bud<=1048576):
  Calls Tryz.prog 18 #[u,v, .int .i64 bud] w (a8K w true):=by
 obtain⟨⟨h1,h64,hyx⟩,hsm⟩:=a2v.1 hok;have hy:y.length=n:=by rw[hyx,hsh.1]
 have hn1:1<=n:=by rw[<-hsh.1];exact h1
 have hcc:a0x x=c:=b4I hsh hn1;have hbest:=b1u X w u v x y n c B bud hX hu hv hok hsh hn hc hxB hyB hB1 hB hb1 hb2;have hshp:=hid (fun w' (h:Ext w w')=>a6U X w' u v x y (mkx MV.mono hu h) (mkx RV.mono hv h) (by omega) (by omega));have hlea:=hid (fun w' p (h:Ext w w') (hp:p<=c)=>b0w X w' u v x y n c p B (hX.ext h) (mkx MV.mono hu h) (mkx RV.mono hv h) hsh hy hn1 hn hc hp hxB hyB hB1 hB);have hmem:=hid (fun p s (hp:p<=c) (h1:s∈a0C c p 0)=>(⟨(a1K c p 0 s h1).1,(fun v hv=>by have:=(a1K c p 0 s h1).2.1 v hv;omega:∀v∈s,0<=v/\v<(c:Int))⟩:s.length=p/\∀v∈s,0<=v/\v<(c:Int)));have hrss:=hid (fun w' p so (S:List Int) sc (h:Ext w w') (hp:p<=c) (h5:S∈a0C c p 0) (h4:Sl (a0p .i64) 1 w'.cell? so S)=>b7F X w' u v x y n c B so S sc (hX.ext h) (mkx MV.mono hu h) (mkx RV.mono hv h) h4 hsh hy hn1 hn hxB hyB hB1 hB (hmem.out p S hp h5).2 (by rw[(hmem.out p S hp h5).1];omega));have hasc:=hid (fun p (S:List Int) (h5:S∈a0C c p 0)=>b6O h5);have hcne:Hid (∀p,p<=c->a0C c p 0≠[]/\(a0C c p 0).length<=64):=hid fun p hp=>by
  have h1:=a1H c p 0;have h2:=b7f c p hp;have h3:ch c p<=2^c:=b5t c p;have h4:2^c<=2^4:=Nat.pow_le_pow_right (by decide) hc;refine⟨fun h=>by rw[h]at h1;simp at h1;omega,by rw[h1];omega⟩
 unfold b4w at hshp;rw[hok,hcc]at hshp;obtain⟨f,hf⟩:∃f,a6b x y n=f:=⟨_,rfl⟩;rw[hf]at hbest hlea hrss;clear hok hsh hxB hyB hy hcc hf hsm hyx h64 h1 hu hv;go_enter Tryz.func18,Tryz.ntmps18
 go_wp2_with fail
 refine hbest.mono ?_;rintro e w1 ⟨hE1,ao,cap,L,rfl,hcap,hL,hSl,hokL⟩;have hs1:=hid (hshp.out w1 hE1);clear hbest hshp;go_wp2_with fail
 refine hs1.out.mono ?_;rintro e w2 ⟨hE2,kk,rfl,hkk⟩;obtain rfl:=hkk (by trivial);have hSd:=hSl.hd;obtain⟨K,hK⟩:∃K,kk+1=K:=⟨_,rfl⟩;rw[hL]at hSd;rw[hK]at hL hSd hcap |-;have hne:((K:Int) !=(kk:Int)+1)=false:=a6q (by omega);have hL':=hid hL;have hE02:=hE1.trans hE2;have hS2:=hSl.mono a4k.mono (a0l hE2);have hX2:=hX.ext hE02;clear hs1 hkk hL hSl;go_wp2_with fail
 clear hne;go_loopw [55] (fun o wr=>∃p:Nat,o= .int .i64 p/\p<=K/\Ext w2 wr) (fun o _=>K - (intOf o).toNat)
 case atStart=>exact⟨0,rfl,Nat.zero_le _,ExtX.refl _⟩
 case round=>
  obtain⟨p,rfl,hpK,hE⟩:=hrel;have hXr:=hX2.ext hE;have hSr:=hS2.mono a4k.mono (a0l hE);by_cases hlt:p<K
  ·have hpL:p<L.length:=by rw[hL'.out];exact hlt
   have hpc:p<=kk:=by omega
   obtain⟨hp1,hI,hqq⟩:=hokL p hpL;have hcn:=hcne.out p hpc;have bS:=Bx.new wr #[.int .i64 0, .bool false, .slice none 0 0, .slice none 0 0, .bool false, .slice none 0 0, .slice none 0 0, .slice none 0 0, .int .i64 0, .bool false] 48;go_wp2_with (first
    |(with_reducible refine a1M b1s (by omega) (by assumption) ?_)
    |((with_reducible show wpList _ _ _ (⟨_, .load 48 _,_,_,_,_⟩::_) _ _);refine a0G b1t p hSr hpL rfl rfl a4k.agg ?_;intro u5 hu5;obtain⟨s1,a1,n1,c1,d1,k1,e1,s2,a2,n2,c2,d2,k2,e2,so,sc,rfl,hq1,hq2,hsc,hst⟩:=hu5)
    |((with_reducible show wpList _ _ _ (⟨_, .store 48 _ _,_,_,_,_⟩::_) _ _);refine a0a b1t rfl rfl bS rfl rfl (c1Q _ _ _ _ _ _ _ _ _ _ _ _ _ _ _ _ _ _ _ _) ?_;intro w3 r1 r2))
   have hE3:Ext wr w3:=ExtX.box ((ExtX.refl wr).alloc _) r2 (Nat.le_refl _);have h03:=hE02.trans (hE.trans hE3);have hl:=hid (hlea.out w3 p h03 hpc);obtain⟨q,hqe⟩:∃q,L[p].q=q:=⟨_,rfl⟩;obtain⟨cnt,hce⟩:∃cnt,L[p].cnt=cnt:=⟨_,rfl⟩;obtain⟨t,hte⟩:∃t,L[p].t=t:=⟨_,rfl⟩;rw[hqe]at hI hqq hq1 hq2;rw[hte]at hI hsc hst;rw[hce]at hI;rw[hte,hce]at r1;clear hp1 hqe hce hte;refine hl.out.mono ?_;rintro e w4 ⟨hE4,s3,a3,n3,c3,d3,k3,e3,lo,lc,q',t',rfl,hq3,hq6,hlc,hsl,hA⟩;obtain⟨rfl,rfl,rfl,ht0,ht64,hts⟩:=b2h hcn.1 hcn.2 hI hA;have hlex:=hid (fun i (h:i+1<t.length)=>(by
    rcases hA with⟨h0,_⟩|⟨_,_,_,h0⟩
    ·exact absurd h0 hcn.1
    ·exact b6K _ h0 h:b7G (t[i]'(by omega)) t[i+1]))
   obtain⟨tl,htl⟩:∃tl,t.length=tl:=⟨_,rfl⟩;have htl':=hid htl;have hsd:=hst.hd;have hld:=hsl.hd;rw[htl]at ht0 ht64 hsd hld hsc hlc r1;rw[htl];have hts':=hid hts;have hst4:=hst.mono (SlV.mono (a0p.mono _) _) (a0l (hE3.trans hE4));have hq14:=mkx QC.mono hq1 (hE3.trans hE4);have hq24:=mkx QC.mono hq2 (hE3.trans hE4);have bN:=Bx.new w4 #[.bool false, .slice none 0 0, .slice none 0 0] 45;have b4:=r1.ext0 hE4;have h04:=h03.trans hE4;obtain⟨g,hg⟩:∃g,wr.heap.size=g:=⟨_,rfl⟩;rw[hg]at b4;rw[hg];have hw24:=(hE.trans hE3).trans hE4;clear hl hA hI htl hts hst hq1 hq2 r1 r2 bS hg hcn hE3 h03;go_wp2_with ((with_reducible show wpList _ _ _ (⟨_, .store 45 _ _,_,_,_,_⟩::_) _ _);refine a0a a0t rfl rfl bN rfl rfl (a1Q _ _ _ _ _ _ _) ?_;intro w5 x1 x2;have hE5:Ext w4 w5:=ExtX.box ((ExtX.refl w4).alloc _) x2 (Nat.le_refl _);have b5:=b4.ext0 hE5;have z0:w5.cell? ⟨g,0,none⟩=some (.int .i64 (p:Int)):=b5.cell 0 rfl;have z4:w5.cell? ⟨g,4,none⟩=some (.bool s2):=b5.cell 4 rfl;have z5:w5.cell? ⟨g,4+1,none⟩=some (.slice a2 n2 c2):=b5.cell 5 rfl;have z6:w5.cell? ⟨g,4+2,none⟩=some (.slice d2 k2 e2):=b5.cell 6 rfl;have y0:=x1.cell 0 rfl;have y1:=x1.cell 1 rfl;have y2:=x1.cell 2 rfl;have hpp:((p:Int) !=(p:Int))=false:=a6q rfl)
   obtain⟨g3,hg3⟩:∃g3,w4.heap.size=g3:=⟨_,rfl⟩;rw[hg3]at x1;rw[hg3];have h05:=h04.trans hE5;have hw25:=hw24.trans hE5;have hX5:=hX.ext h05;have hz:=hid (fun w' (h:Ext w5 w')=>(⟨(b5.ext0 h).cell 0 rfl,(b5.ext0 h).cell 1 rfl,(b5.ext0 h).cell 2 rfl,(b5.ext0 h).cell 3 rfl,(b5.ext0 h).cell 4 rfl,(b5.ext0 h).cell 5 rfl,(b5.ext0 h).cell 6 rfl,(b5.ext0 h).cell 7 rfl,(b5.ext0 h).cell 8 rfl,(b5.ext0 h).cell 9 rfl,(x1.ext0 h).cell 0 rfl,(x1.ext0 h).cell 1 rfl,(x1.ext0 h).cell 2 rfl⟩:w'.cell? ⟨g,0,none⟩=some (.int .i64 (p:Int))/\w'.cell? ⟨g,1,none⟩=some (.bool s1)/\w'.cell? ⟨g,1+1,none⟩=some (.slice a1 n1 c1)/\w'.cell? ⟨g,1+2,none⟩=some (.slice d1 k1 e1)/\w'.cell? ⟨g,4,none⟩=some (.bool s2)/\w'.cell? ⟨g,4+1,none⟩=some (.slice a2 n2 c2)/\w'.cell? ⟨g,4+2,none⟩=some (.slice d2 k2 e2)/\w'.cell? ⟨g,7,none⟩=some (.slice so tl sc)/\w'.cell? ⟨g,8,none⟩=some (.int .i64 (tl:Int))/\w'.cell? ⟨g,9,none⟩=some (.bool true)/\w'.cell? ⟨g3,0,none⟩=some (.bool s3)/\w'.cell? ⟨g3,1,none⟩=some (.slice a3 n3 c3)/\w'.cell? ⟨g3,2,none⟩=some (.slice d3 k3 e3)));have hq15:=mkx QC.mono hq14 hE5;have hq25:=mkx QC.mono hq24 hE5;have hq35:=mkx QC.mono hq3 hE5;have hst5:=hst4.mono (SlV.mono (a0p.mono _) _) (a0l hE5);have hsl5:=hsl.mono (SlV.mono (a0p.mono _) _) (a0l hE5);have hcm:=hid (fun w' u v (h:Ext w5 w') (h1:QC (mk X w') u q) (h2:QC (mk X w') v q)=>a8N X w' u v q q (hX5.ext h) (h1.qv (Nat.le_trans hqq (by decide))) (h2.qv (Nat.le_trans hqq (by decide))) (Nat.le_trans (a8H q q) (by omega)));have hsg:(q - q).num.sign=0:=b4x q;rw[hsg]at hcm;have hsm:=hid (fun w' u v (h1:QC (mk X w') u q) (h2:QC (mk X w') v q)=>c0Z X w' u v q q h1 h2 (Nat.le_trans hqq (by decide)));simp only[decide_true]at hsm;clear bN b4 b5 x1 x2 hg3 hq14 hq24 hq3 hst4 hsl hsg h04;refine(hcm.out w5 _ _ (ExtX.refl _) hq25 hq35).mono ?_;rintro e w6 ⟨hE6,rfl⟩;obtain⟨-,i1,i2,i3,-,-,-,i7,-,i9,j0,j1,j2⟩:=hz.out w6 hE6;clear z0 z4 z5 z6 y0 y1 y2;go_wp2_with fail
   refine(hcm.out w6 _ _ hE6 (mkx QC.mono hq35 hE6) (mkx QC.mono hq15 hE6)).mono ?_;rintro e w7 ⟨hE7,rfl⟩;have hE57:=hE6.trans hE7;clear i1 i2 i3 i7 i9 j0 j1 j2;obtain⟨-,-,-,-,-,-,-,i7,-,i9,-,-,-⟩:=hz.out w7 hE57;go_wp2_with fail
   have hst7:=hst5.mono (SlV.mono (a0p.mono _) _) (a0l hE57);have hsl7:=hsl5.mono (SlV.mono (a0p.mono _) _) (a0l hE57);have hq37:=mkx QC.mono hq35 hE57;have hq17:=mkx QC.mono hq15 hE57;have hq27:=mkx QC.mono hq25 hE57;have hw27:=hw25.trans hE57;have hz7:=hid (fun w' (h:Ext w7 w')=>hz.out w' (hE57.trans h));have h07:=h05.trans hE57;have hX7:=hX.ext h07;clear i7 i9 hcm hst5 hsl5 hq35 hq15 hz hX5 hq25;obtain⟨wo,hwo⟩:∃wo,wo=w7:=⟨_,rfl⟩;subst hwo;go_loopw [117] (fun o wr=>∃i:Nat,o= .int .i64 i/\i<=tl/\Ext wo wr) (fun o _=>tl - (intOf o).toNat)
   case atStart=>exact⟨0,rfl,Nat.zero_le _,ExtX.refl _⟩
   case round=>
    obtain⟨i,rfl,hi,hEi⟩:=hrel;have h0r:=h07.trans hEi;have hXi:=hX.ext h0r;by_cases hit:i<tl
    ·have hiL:i<t.length:=by rw[htl'.out];exact hit
     obtain⟨ca,cc,f3,hcl,hcs⟩:=(hst7.mono (SlV.mono (a0p.mono _) _) (a0l hEi)).slice i hiL;obtain⟨la,lc2,f4,hll,hls⟩:=(hsl7.mono (SlV.mono (a0p.mono _) _) (a0l hEi)).slice i hiL;obtain⟨hSm,hSq⟩:=hts'.out t[i] (List.getElem_mem _);have hSl:=(hmem.out p _ hpc hSm).1;have hSa:=hasc.out p _ hSm;have hdr:Ext wr wr.drew:=(ExtX.refl wr).drew;have h0d:=h0r.trans hdr;have hcs4:Sl (a0p .i64) 1 wr.drew.cell? ca t[i]:=by rw[<-a1U];exact(⟨hcs.1,fun i hi=>let ⟨u,h1,h2,h3⟩:=hcs.2 i hi;⟨u,h1,fun j hj=>by rw[a1U];exact a0S (h2 j hj),h3⟩⟩:Sl (a0p .i64) 1 (mk noY wr) ca t[i])
     have hR:=hrss.out wr.drew p ca t[i] cc h0d hpc hSm hcs4;rw[hSq]at hR;have hSub:=a9r X ca t[i] cc (kk:Int) wr.drew (hcs.mono (a0p.mono _) (a0l hdr)) (by omega) hSa;have hSam:=hid (fun w' (h:Ext wr.drew w')=>a7C X ca la t[i] t[i] cc lc2 w' (hcs.mono (a0p.mono _) (a0l (hdr.trans h))) (hls.mono (a0p.mono _) (a0l (hdr.trans h))) (by omega));have hSame:(t[i]==t[i])=true:=by simp
     rw[hSame]at hSam;have hj2:i - 1<t.length:=by omega
     obtain⟨pa,pc,f5,hpl,hps⟩:=(hst7.mono (SlV.mono (a0p.mono _) _) (a0l hEi)).slice (i - 1) hj2;have hbef:=hid (fun(hi0:0<i) w' (h:Ext wr.drew w')=>(by
      have hj:i - 1+1<t.length:=by omega
      have hlx:=hlex.out (i - 1) hj;have he:t[i - 1+1]=t[i]:=by congr 1;omega
      rw[he]at hlx;have hpm:=(hmem.out p _ hpc (hts'.out t[i - 1] (List.getElem_mem _)).1).1;exact a9s X pa ca t[i - 1] t[i] pc cc w' (hps.mono (a0p.mono _) (a0l (hdr.trans h))) (hcs.mono (a0p.mono _) (a0l (hdr.trans h))) (by omega) hlx:Calls Tryz.prog 75 #[.slice pa t[i - 1].length pc, .slice ca t[i].length cc] w' fun e w2=>e= .returned (.bool true)/\∃m,w2=w'.drewN m))
     obtain⟨pl,hple⟩:∃pl,t[i - 1].length=pl:=⟨_,rfl⟩;rw[hple]at f5 hbef;rw[hSl]at f3 f4 hR hSub hSam hbef;have hsa2:=hid (fun w' u v (h1:QC (mk X w') u q) (h2:QC (mk X w') v q)=>hsm.out w' u v h1 h2);clear hcs hls hcs4 hSq hSame hSa hcl hll hSm hSl;have hS:Hid (∀w',Ext wr.drew w'->w'.cell? ⟨g,1,none⟩=some (.bool s1)/\w'.cell? ⟨g,1+1,none⟩=some (.slice a1 n1 c1)/\w'.cell? ⟨g,1+2,none⟩=some (.slice d1 k1 e1)/\w'.cell? ⟨g,9,none⟩=some (.bool true)/\w'.cell? ⟨g,7,none⟩=some (.slice so tl sc)/\w'.cell? (adr lo i)=some (.slice la p lc2)/\w'.cell? (adr so (i - 1))=some (.slice pa pl pc)):=hid fun w' h=>by
      obtain⟨-,x1,x2,x3,-,-,-,x7,-,x9,-,-,-⟩:=hz7.out w' (hEi.trans (hdr.trans h));exact⟨x1,x2,x3,x9,x7,(hdr.trans h).cell f4,(hdr.trans h).cell f5⟩
     have hq1d:=mkx QC.mono hq17 (hEi.trans hdr);have hcl1:((p:Int) !=(p:Int))=false:=a6q rfl;have hge:decide ((tl:Int)<=(i:Int))=false:=decide_eq_false (by omega);have hge2:decide (tl<=i)=false:=decide_eq_false (by omega);have j5:∀W,(Instr.indexAt 46 (.slice lo tl lc) (.int .i64 (i:Int))).run Tryz.prog W= .ok (.pointer (some (adr lo i))) W:=a0z a5m lo tl lc .i64 i hld hit rfl;have ewr:IntKind.i64.wrap ((i:Int) - 1)=(i:Int) - 1:=IntWalk.i64_in _ (by omega);obtain⟨bb,hbb⟩:∃bb,decide ((0:Int)<(i:Int))=bb:=⟨_,rfl⟩;have hbb2:decide (0<i)=bb:=by rw[<-hbb];exact decide_eq_decide.2 (by omega)
     clear hple hps f4 f5 hpl;go_upto_region 18 with(with_reducible refine a0q a5m (by omega) (by assumption) ?_)
     refine a0O 53 (fun w'=>w'.cell? ⟨g,1,none⟩=some (.bool s1)/\w'.cell? ⟨g,1+1,none⟩=some (.slice a1 n1 c1)/\w'.cell? ⟨g,1+2,none⟩=some (.slice d1 k1 e1)/\w'.cell? ⟨g,9,none⟩=some (.bool true)/\w'.cell? ⟨g,7,none⟩=some (.slice so tl sc)/\w'.cell? (adr lo i)=some (.slice la p lc2)/\w'.cell? (adr so (i - 1))=some (.slice pa pl pc)) (by kernel_rfl) (by kernel_rfl) (hS.out _ (ExtX.refl _)) (fun hHeld hOnce=>?_);obtain⟨wd,hwd⟩:∃wd,wr.drew=wd:=⟨_,rfl⟩;rw[hwd]at hS hdr hSub hR hSam hbef hq1d hHeld |-;refine kt 0 hOnce ?_;refine kt 1 hOnce ?_;refine kt 2 hOnce ?_;refine kt 3 hOnce ?_;refine kt 4 hOnce ?_;refine kt 5 hOnce ?_;refine kt 6 hOnce ?_;refine a0k (i:=7) (o:=⟨_,_,_,_,_,_⟩) (by kernel_rfl) rfl (fun K hK=>?_);go_simp
     ((with_reducible refine hSub.mono ?_);rintro ee wa ⟨rfl,rfl⟩)
     refine hK.out _ _ hHeld (fun hHeld=>?_);clear hK K
     (try simp only[Act.put,List.setIfInBounds_toArray,List.set_cons_zero,List.set_cons_succ])
     refine kt 8 hOnce ?_;refine kt 9 hOnce ?_;refine kt 10 hOnce ?_;refine kt 11 hOnce ?_;refine kt 12 hOnce ?_;refine kt 13 hOnce ?_;refine kt 15 hOnce ?_;refine kt 16 hOnce ?_;refine a0k (i:=14) (o:=⟨_,_,_,_,_,_⟩) (by kernel_rfl) rfl (fun K hK=>?_);go_simp
     ((with_reducible refine hR.mono ?_);rintro ee w8 ⟨ga,u8,rfl,hu8⟩;obtain⟨s6,a6,n6,c6,d6,k6,e6,rfl⟩:=hu8.shape)
     refine hK.out _ _ (hS.out _ ga) (fun hHeld=>?_);clear hK K
     (try simp only[Act.put,List.setIfInBounds_toArray,List.set_cons_zero,List.set_cons_succ])
     refine a0k (i:=17) (o:=⟨_,_,_,_,_,_⟩) (by kernel_rfl) rfl (fun K hK=>?_);go_simp
     ((with_reducible refine(hsa2.out w8 _ _ hu8 (mkx QC.mono hq1d ga)).mono ?_);rintro ee w9 ⟨gb,rfl⟩)
     refine hK.out _ _ (hS.out _ (ga.trans gb)) (fun hHeld=>?_);clear hK K
     (try simp only[Act.put,List.setIfInBounds_toArray,List.set_cons_zero,List.set_cons_succ])
     refine kt 18 hOnce ?_;refine kt 19 hOnce ?_;refine kt 20 hOnce ?_;refine kt 21 hOnce ?_;refine kt 22 hOnce ?_;refine kt 23 hOnce ?_;refine kt 24 hOnce ?_;refine kt 25 hOnce ?_;refine kt 26 hOnce ?_;refine kt 27 hOnce ?_;refine kt 28 hOnce ?_;refine kt 29 hOnce ?_;refine kt 30 hOnce ?_;refine kt 31 hOnce ?_;refine kt 32 hOnce ?_;refine kt 33 hOnce ?_;refine a0k (i:=34) (o:=⟨_,_,_,_,_,_⟩) (by kernel_rfl) rfl (fun K hK=>?_);go_simp
     ((with_reducible refine(hSam.out w9 (ga.trans gb)).mono ?_);rintro ee w10 ⟨rfl,m,rfl⟩)
     refine hK.out _ _ (hS.out _ ((ga.trans gb).drewN m)) (fun hHeld=>?_);clear hK K
     (try simp only[Act.put,List.setIfInBounds_toArray,List.set_cons_zero,List.set_cons_succ])
     have gc:Ext wd (w9.drewN m):=(ga.trans gb).drewN m;obtain⟨w10,hw10⟩:∃w10,w9.drewN m=w10:=⟨_,rfl⟩;rw[hw10]at gc hHeld |-;clear hw10;refine kt 35 hOnce ?_;refine kt 36 hOnce ?_;refine kt 37 hOnce ?_;refine kt 38 hOnce ?_;refine kt 39 hOnce ?_;refine kt 40 hOnce ?_;refine kt 41 hOnce ?_;refine kt 42 hOnce ?_;cases bb
     ·skip
      refine ku 43 hOnce ?_;refine ku 44 hOnce ?_;refine ku 45 hOnce ?_;refine ku 46 hOnce ?_;refine ku 47 hOnce ?_;refine ku 48 hOnce ?_;refine ku 49 hOnce ?_;refine ku 50 hOnce ?_;refine ku 51 hOnce ?_;refine kt 52 hOnce ?_;refine a0v (i:=53) (o:=⟨_,_,_,_,_,_⟩) (by kernel_rfl) rfl (by decide) (by kernel_rfl) (fun K hK=>?_);go_simp
      refine hK.out _ _ ?_;clear hK K;have hEn:=hEi.trans (hdr.trans gc);clear hHeld hS hbb hbb2 hSam hbef hR hSub;go_wp2_with fail
      go_roundw
      case rel=>exact⟨i+1,by go_num,by omega,hEn⟩
      case measure=>simp[intOf];omega
     ·have hi0:0<i:=by have:=of_decide_eq_true hbb;omega
      have j4:∀W,(Instr.indexAt 46 (.slice so tl sc) (.int .i64 ((i:Int) - 1))).run Tryz.prog W= .ok (.pointer (some (adr so (i - 1)))) W:=by
       rw[show((i:Int) - 1)=((i - 1:Nat):Int)by omega];exact a0z a5m so tl sc .i64 (i - 1) hsd (by omega) rfl
      refine kt 43 hOnce ?_;refine kt 44 hOnce ?_;refine kt 45 hOnce ?_;refine kt 46 hOnce ?_;refine kt 47 hOnce ?_;refine kt 48 hOnce ?_;refine kt 49 hOnce ?_;refine a0k (i:=50) (o:=⟨_,_,_,_,_,_⟩) (by kernel_rfl) rfl (fun K hK=>?_);go_simp
      ((with_reducible refine(hbef.out hi0 w10 gc).mono ?_);rintro ee w11 ⟨rfl,m2,rfl⟩)
      refine hK.out _ _ (hS.out _ (gc.drewN m2)) (fun hHeld=>?_);clear hK K
      (try simp only[Act.put,List.setIfInBounds_toArray,List.set_cons_zero,List.set_cons_succ])
      have gd:Ext wd (w10.drewN m2):=gc.drewN m2;obtain⟨w11,hw11⟩:∃w11,w10.drewN m2=w11:=⟨_,rfl⟩;rw[hw11]at gd hHeld |-;clear hw11;refine kt 51 hOnce ?_;refine kt 52 hOnce ?_;refine a0v (i:=53) (o:=⟨_,_,_,_,_,_⟩) (by kernel_rfl) rfl (by decide) (by kernel_rfl) (fun K hK=>?_);go_simp
      refine hK.out _ _ ?_;clear hK K;have hEn:=hEi.trans (hdr.trans gd);clear hHeld hS hbb hbb2 hSam hbef hR hSub;go_wp2_with fail
      go_roundw
      case rel=>exact⟨i+1,by go_num,by omega,hEn⟩
      case measure=>simp[intOf];omega
    ·have hie:i=tl:=by omega
     subst hie;obtain⟨-,x1,x2,x3,x4,x5,x6,x7,x8,x9,y0,y1,y2⟩:=hz7.out wr hEi;have hs1:=hid (hsm.out wr _ _ (mkx QC.mono hq17 hEi) (mkx QC.mono hq37 hEi));have hii:((i:Int) !=(i:Int))=false:=a6q rfl;have hmin:min (i:Int) 64=(i:Int):=Int.min_eq_left (by omega);have hmin2:min i 64=i:=Nat.min_eq_left (by omega);go_wp2_with fail
     refine hs1.out.mono ?_;rintro e w8 ⟨hE8,rfl⟩;have hEi8:=hEi.trans hE8;clear x1 x2 x3 x4 x5 x6 x7 x8 x9 y0 y1 y2 hs1;obtain⟨-,-,-,-,x4,x5,x6,-,-,-,y0,y1,y2⟩:=hz7.out w8 hEi8;have hs2:=hid (hsm.out w8 _ _ (mkx QC.mono hq27 hEi8) (mkx QC.mono hq37 hEi8));go_wp2_with fail
     refine hs2.out.mono ?_;rintro e w9 ⟨hE9,rfl⟩;have hEi9:=hEi8.trans hE9;clear x4 x5 x6 y0 y1 y2 hs2;obtain⟨-,-,-,-,-,-,-,x7,x8,-,-,-,-⟩:=hz7.out w9 hEi9;have hwn:=hw27.trans hEi9;go_wp2_with fail
     go_roundw
     case rel=>exact⟨p+1,by go_num,by omega,hwn⟩
     case measure=>simp[intOf];omega
  ·have hpe:p=K:=by omega
   subst hpe;have h0e:=hE02.trans hE;go_wp2_with fail
   go_ret
   exact⟨h0e,rfl⟩
def c2C (w:World) (c:Int) (e:Ending) (w':World):Prop:=Ext w w'/\e= .returned (.tuple #[.slice none 0 0, .int .i64 c])
set_option maxRecDepth 100000 in
theorem b6P (X:Nat->Bool) (w:World) (u v:Value) (x:Mat) (y:List Rat) (b:Int) (o:MV (mk X w) u x) (q:RV (mk X w) v y) (m:x.length<=1099511627776) (k:y.length<=1099511627776) (l:a6c x y=false\/(a6c x y=true/\(b<1\/1048576<b))):
  Calls Tryz.prog 21 #[u,v, .int .i64 b] w (c2C w (if a6c x y=true then 13 else 6)):=by
 have a:=a6M X w u v x y o q m k;obtain⟨z,t,rfl,i,j⟩:=o;obtain⟨C,A,rfl,f,g⟩:=q;obtain⟨n,d⟩:∃n,x.length=n:=⟨_,rfl⟩;obtain⟨s,c⟩:∃s,y.length=s:=⟨_,rfl⟩;rw[d,c]at a |-;rcases l with h|⟨h,p⟩
 ·rw[h]at a |-
  rw[if_neg (by decide)];clear d c j g i f h;go_enter Tryz.func21,Tryz.ntmps21
  go_wp2_with fail
  refine a.mono ?_;rintro e r ⟨rfl,rfl⟩;go_wp2_with fail
  go_ret2
  exact⟨ExtX.refl _,rfl⟩
 ·rw[h]at a |-
  rw[if_pos rfl];clear d c j g i f h;by_cases D:b<1
  ·clear p
   go_enter Tryz.func21,Tryz.ntmps21
   go_wp2_with fail
   refine a.mono ?_;rintro e r ⟨rfl,rfl⟩;go_wp2_with fail
   go_ret2
   exact⟨ExtX.refl _,rfl⟩
  ·have B:(1048576:Int)<b:=by omega
   clear p;go_enter Tryz.func21,Tryz.ntmps21
   go_wp2_with fail
   refine a.mono ?_;rintro e r ⟨rfl,rfl⟩;go_wp2_with fail
   go_ret2
   exact⟨ExtX.refl _,rfl⟩
set_option maxRecDepth 100000 in
theorem a9t (X:Nat->Bool) (w:World) (u v:Value) (x:Mat) (y:List Rat) (b:Int) (n:MV (mk X w) u x) (p:RV (mk X w) v y) (g:x.length<=1099511627776) (f:y.length<=1099511627776) (j:a6c x y=false\/(a6c x y=true/\(b<1\/1048576<b))):
  Calls Tryz.prog 18 #[u,v, .int .i64 b] w (a8K w true):=by
 have a:=b6P X w u v x y b n p g f j;have c:=hid (fun s (h:Ext w s)=>a6U X s u v x y (mkx MV.mono n h) (mkx RV.mono p h) g f);unfold b4w at c;clear n p g f;rcases j with h|⟨h,t⟩
 ·rw[h]at a c
  rw[if_neg (by decide)]at a;clear h;go_enter Tryz.func18,Tryz.ntmps18
  go_wp2_with fail
  refine a.mono ?_;rintro e q ⟨d,rfl⟩;have l:=hid (c.out q d);clear a c;go_wp2_with fail
  refine l.out.mono ?_;rintro e z ⟨i,k,rfl,r⟩;have m:=d.trans i;clear l r;go_wp2_with fail
  go_ret
  exact⟨m,rfl⟩
 ·rw[h]at a c
  rw[if_pos rfl]at a;clear h;have o:b<1\/(¬b<1/\(1048576:Int)<b):=by omega
  clear t;rcases o with A|⟨A,B⟩
  all_goals
   go_enter Tryz.func18,Tryz.ntmps18
   go_wp2_with fail
   refine a.mono ?_;rintro e q ⟨d,rfl⟩;have l:=hid (c.out q d);clear a c;go_wp2_with fail
   refine l.out.mono ?_;rintro e z ⟨i,k,rfl,r⟩;have m:=d.trans i;clear l r;go_wp2_with fail
   go_ret
   exact⟨m,rfl⟩
theorem a7D (X:Nat->Bool) (w:World) (u v:Value) (x:Mat) (y:List Rat) (a:Int) (n:HX X w) (e:MV (mk X w) u x) (f:RV (mk X w) v y) (d:x.length<=1099511627776) (c:y.length<=1099511627776)
  (hd:a6c x y=true->x.length<=8/\a0x x<=4/\∃B,BM B x/\BR B y/\1<=B/\(B<=510/\x.length*(2*B+1)<=6540)):
  Calls Tryz.prog 18 #[u,v, .int .i64 a] w (a8K w true):=by
 cases b:a6c x y
 ·exact a9t X w u v x y a e f d c (.inl b)
 ·by_cases l:a<1\/1048576<a
  ·exact a9t X w u v x y a e f d c (.inr ⟨b,l⟩)
  ·obtain⟨o,q,B,s,m,j,k⟩:=hd b
   have h:=a2f.1 (a2v.1 b).2;have g:Shp x.length (a0x x) x:=⟨rfl,fun r p=>by
    obtain⟨i,hi,rfl⟩:=List.getElem_of_mem p;exact(h i hi).1⟩
   exact b4y X w u v x y x.length (a0x x) B a n e f b g o q s m j k (by omega) (by omega)
def b9D (X:Nat->Bool) (tb:Nat) (R:Mem->Value->Rat->Prop) (k:Nat) (w:World) (e:Ending) (w':World):Prop:=ExtX (tbm tb) w w'/\a0K X tb w'/\∃u q,e= .returned u/\R (mk X w') u q/\hq q<=k
theorem a0K.box {X:Nat->Bool} {a nb:Nat} {w W:World} (h:a0K X a w) (d:Ext w W):a0K (a0e X w.heap.size nb) a W:=by
 have b:=h.lt;obtain⟨g,lo,l,c,at_,j,e,f,i⟩:=h;exact⟨a7s g,lo,l,c,at_,by rw[d.block a b rfl];exact j,e,f,i.mono (a0p.mono _) (a0o d)⟩
theorem a0K.unbox {X:Nat->Bool} {a b nb:Nat} {w:World} (h:a0K (a0e X b nb) a w) (f:X a=true):a0K X a w:=by
 obtain⟨_,lo,l,c,at_,i,d,e,g⟩:=h;exact⟨f,lo,l,c,at_,i,d,e,g.mono (a0p.mono _) a0n⟩
theorem a0K.store {X:Nat->Bool} {a b nb:Nat} {w c:World} (h:a0K (a0e X b nb) a w) (d:ExtX (ob (some ⟨b,0,Option.none⟩)) w c) (g:0<nb) (f:a≠b):a0K (a0e X b nb) a c:=
 h.extY d (fun k e=>by
  have:k=b:=by
   have:=e;simp[ob]at this;omega
  subst this;simp[a0e];omega) (a0b f)
theorem _root_.Go.Rep.ExtX.tbox {a b:Nat} {w c d:World} (h:ExtX (tbm a) w c) (e:ExtX (ob (some ⟨b,0,none⟩)) c d) (f:w.heap.size<=b):ExtX (tbm a) w d:=h.then_ e (fun i hi _=>a0b (by omega))
theorem c1a {n:Nat} (h:n<4294967296):lg n<=1:=by
 by_cases a:n=0
 ·subst a;simp[a6n]
 ·rw[a3e (by omega) h];exact Nat.le_refl _
theorem lgI {a:Int} (c: -100000<=a) (b:a<=100000):lg a.natAbs<=1:=c1a (by omega)
theorem b4z {a k:Int} (e: -100000<=a) (b:a<=100000) (d: -100000<=k) (c:k<=100000):hq ((a:Rat)/(k:Rat))<=2:=by
 have:=hq_div (a:Rat) (k:Rat);have:=a7o a 1 (lgI e b) (by omega);have:=a7o k 1 (lgI d c) (by omega);omega
set_option maxRecDepth 100000 in
theorem b1v (X:Nat->Bool) (i:Nat) (w:World) (R:a0K X i w) (hX:HX X w):Calls Tryz.prog 33 #[.pointer (some ⟨i,0,none⟩)] w (b9D X i QC 2 w):=by
 have a0:=R.lt;have y:=R.1;obtain⟨W,hW,O,S,hz⟩:=a1g w #[.bool false, .slice none 0 0, .slice none 0 0] 45;have B:HX (a0e X w.heap.size 1) W:=hX.boxes hz;have t:a0K (a0e X w.heap.size 1) i W:=R.box O;obtain⟨b,hb⟩:∃b,w.heap.size=b:=⟨_,rfl⟩;have x:w.heap.size<=b:=by omega
 have k:i≠b:=by omega
 have h:b≠i:=by omega
 rw[hb]at S hz B t;have J:ExtX (tbm i) w W:=ExtX.of O;clear O;go_enter Tryz.func33,Tryz.ntmps33
 go_wp2_with fail
 refine(a1C (a0e X b 1) i 8 _ t (by omega)).mono ?_;rintro e w1 ⟨q,D,m,rfl,hm⟩;have N:=S.ext q (a3k h);have u:=B.ext q;have v:=J.trans q;clear S B t J q;by_cases h6:m=6
 ·subst h6
  go_wp2_with fail
  refine(a1C (a0e X b 1) i 13 _ D (by omega)).mono ?_;rintro e L ⟨c,p,K,rfl,F⟩;have r:K<13:=by omega
  have H:=N.ext c (a3k h);have g:=u.ext c;have j:=v.trans c;go_wp2_with fail
  refine(a1C (a0e X b 1) i 6 _ p (by omega)).mono ?_;rintro e P ⟨f,C,V,rfl,Q⟩;have E:V<6:=by omega
  have M:=H.ext f (a3k h);have z:=g.ext f;have s:=j.trans f;go_wp2_with fail
  refine(a7v (a0e X b 1) P _ _ z (by omega) (by omega) (by omega) (by omega) (by omega) (Nat.le_trans (lgI (by omega) (by omega)) (by omega)) (Nat.le_trans (lgI (by omega) (by omega)) (by omega))).mono ?_;rintro e T ⟨a,U,rfl,d⟩;obtain⟨Z,a6,n6,c6,d6,Y,e6,rfl⟩:=d.shape;have G:=M.ext0 a;have o:=C.ext a;have l:=s.trans (ExtX.of a);go_wp2_with ((with_reducible show wpList _ _ _ (⟨_, .store _ _ _,_,_,_,_⟩::_) _ _);refine a0a a0t rfl rfl G rfl rfl (a1Q _ _ _ _ _ _ _) ?_;intro w7 I n)
  have A:=QC.mono _ _ _ _ a0n (QC.mono _ _ _ _ (a0h n (by omega) (by omega)) d);exact bodyPost_ret (a0d rfl rfl a0t I rfl) rfl ⟨l.tbox n x,(o.store n (by omega) k).unbox y,_,_,rfl,A,b4z (by omega) (by omega) (by omega) (by omega)⟩
 ·by_cases A:m=7
  ·subst A
   go_wp2_with fail
   refine(a1C (a0e X b 1) i 2001 _ D (by omega)).mono ?_;rintro e L ⟨c,p,K,rfl,F⟩;have r:K<2001:=by omega
   have H:=N.ext c (a3k h);have g:=u.ext c;have j:=v.trans c;go_wp2_with fail
   refine(b1b (a0e X b 1) i [1,1,7] _ _ _ L 1 7 p g rfl rfl (by simp) (by simp) (hid (by simp))).mono ?_;rintro e P ⟨f,C,V,rfl,Q,E⟩;have M:=H.ext f (a3k h);have z:=g.ext f;have s:=j.trans f;go_wp2_with fail
   refine(a7v (a0e X b 1) P _ _ z (by omega) (by omega) (by omega) (by omega) (by omega) (Nat.le_trans (lgI (by omega) (by omega)) (by omega)) (Nat.le_trans (lgI (by omega) (by omega)) (by omega))).mono ?_;rintro e T ⟨a,U,rfl,d⟩;obtain⟨Z,a6,n6,c6,d6,Y,e6,rfl⟩:=d.shape;have G:=M.ext0 a;have o:=C.ext a;have l:=s.trans (ExtX.of a);go_wp2_with ((with_reducible show wpList _ _ _ (⟨_, .store _ _ _,_,_,_,_⟩::_) _ _);refine a0a a0t rfl rfl G rfl rfl (a1Q _ _ _ _ _ _ _) ?_;intro w7 I n)
   have A:=QC.mono _ _ _ _ a0n (QC.mono _ _ _ _ (a0h n (by omega) (by omega)) d);exact bodyPost_ret (a0d rfl rfl a0t I rfl) rfl ⟨l.tbox n x,(o.store n (by omega) k).unbox y,_,_,rfl,A,b4z (by omega) (by omega) (by omega) (by omega)⟩
  ·have t6:((m:Int)==6)=false:=a2w (by omega)
   have t7:((m:Int)==7)=false:=a2w (by omega);go_wp2_with fail
   refine(a1C (a0e X b 1) i 9 _ D (by omega)).mono ?_;rintro e L ⟨c,p,K,rfl,F⟩;have r:K<9:=by omega
   have H:=N.ext c (a3k h);have g:=u.ext c;have j:=v.trans c;go_wp2_with fail
   refine(a4V (a0e X b 1) L _ g (by omega) (by omega)).mono ?_;rintro e T ⟨a,U,rfl,d⟩;obtain⟨Z,a6,n6,c6,d6,Y,e6,rfl⟩:=d.shape;have G:=H.ext0 a;have o:=p.ext a;have l:=j.trans (ExtX.of a);go_wp2_with ((with_reducible show wpList _ _ _ (⟨_, .store _ _ _,_,_,_,_⟩::_) _ _);refine a0a a0t rfl rfl G rfl rfl (a1Q _ _ _ _ _ _ _) ?_;intro w7 I n)
   have A:=QC.mono _ _ _ _ a0n (QC.mono _ _ _ _ (a0h n (by omega) (by omega)) d);exact bodyPost_ret (a0d rfl rfl a0t I rfl) rfl ⟨l.tbox n x,(o.store n (by omega) k).unbox y,_,_,rfl,A,Nat.le_trans (a7o _ 1 (lgI (by omega) (by omega)) (by omega)) (by omega)⟩
def b4A (X:Nat->Bool) (tb:Nat) (R:Mem->Value->Rat->Prop) (k n:Nat) (w:World) (e:Ending) (w':World):Prop:=ExtX (tbm tb) w w'/\∃(ao:Option Addr) (l:List Rat) (cap:Nat),e= .returned (.slice ao n cap)/\l.length=n/\n<=cap/\BR k l/\a0K (un X ao) tb w'/\OL R 3 X w.heap.size 45 w' ao cap l
theorem a5r (X:Nat->Bool) (j n:Nat) (w:World) (I:a0K X j w) (W:HX X w) (hn:n<=1000):
  Calls Tryz.prog 57 #[.pointer (some ⟨j,0,none⟩), .int .i64 (n:Int)] w (b4A X j QC 2 n w):=by
 have t:=a3B I.1;go_enter Tryz.func57,Tryz.ntmps57
 go_wp2_with fail
 go_loopw [5,6] (fun s c wr=>∃(i:Nat) (oo:Option Addr) (z:Nat) (l:List Rat),c= .int .i64 i/\s= .slice oo i z/\l.length=i/\i<=n/\BR 2 l/\OL QC 3 X w.heap.size 45 wr oo z l/\a0K (un X oo) j wr/\ExtX (tbm j) w wr) (fun _ c _=>n - (intOf c).toNat)
 case atStart=>exact⟨0,none,0,[],rfl,rfl,rfl,Nat.zero_le _,fun x hx=>by simp at hx,OL.nil _ _ _ _ _ _,I.none,ExtX.refl _⟩
 case round=>
  obtain⟨i,oo,z,l,rfl,rfl,a,T,O,o,d,y⟩:=hrel;have g:HX X wr:=W.ext y;by_cases a0:i<n
  ·have m:HX (un X oo) wr:=o.unX g
   have u:=hid a;clear a;go_wp2_with fail
   refine(b1v (un X oo) j _ d m).mono ?_;rintro e w2 ⟨b,L,u6,q,rfl,r,N⟩;obtain⟨R,U,V,S,Y,Q,Z,rfl⟩:=r.shape;have f:=o.ext QC.elem b (fun k _ hk=>t k hk) (fun _ _ h=>h);have B:HX X w2:=g.ext b;have v:=y.trans b;have D:=v.size;clear o d y b g m;go_wp2_with (at_builtin;refine a0u (l:=l) a0B rfl QC.elem (by omega) B i u.out rfl rfl f (.agg #[.bool R, .slice U V S, .slice Y Q Z]) q rfl r (by omega) (by omega) ?_;intro E J w7 C p H)
   have K:=v.own f (Nat.le_refl _) p;have M:=L.unstep (f.not_ob I.1) p H;have G:BR 2 (l++[q]):=fun x hx=>by
    rcases List.mem_append.1 hx with h|h
    ·exact O x h
    ·rw[List.mem_singleton.1 h];exact N
   have A:(l++[q]).length=i+1:=by rw[List.length_append,u.out];rfl
   go_roundw
   case rel=>exact⟨i+1,E,J,_,by go_num,by go_num,A,by omega,G,C,M,K⟩
   case measure=>simp[intOf];omega
  ·have F:i=n:=by omega
   subst F;have P:=o.lenCap;rw[a]at P;go_wp2_with fail
   go_ret
   exact⟨y,oo,l,z,rfl,a,P,O,d,o⟩
theorem b0x (n:Nat) (h:n<100):Dig [n]:=fun x hx=>by
 have:x=n:=by simpa using hx
 subst this;have:=a1n;omega
theorem a0c.lit1 (X:Nat->Bool) (w:World) (n:Nat) (e:TypeId) (a:HX X w):Sl (a0c .u32) 1 (mk X (w.alloc (.cells #[.int .u32 (n:Int)] e))) (some ⟨w.heap.size,0,none⟩) [n]:=
 (OL.lit (a0c.elem .u32) a (Nat.le_refl _) [.int .u32 (n:Int)] [n] _ (by simp[a0i,Value.cells]) rfl (fun i hi _=>by
  have:i=0:=by simpa using hi
  subst this;rfl) (by simp)).sl (a0c.elem _)
theorem b6Q {h:Mem} {s:Bool} {f i:Option Addr} {mc k:Nat} {m d:List Nat} (l:Sl (a0c .u32) 1 h f m) (hd:Sl (a0c .u32) 1 h i d) (j:m.length<=mc) (c:d.length<=k) (a:Dig m) (b:Dig d) (g:m.length<=3) (e:d.length<=3):
  ∃q,QV h (.agg #[.bool s, .slice f m.length mc, .slice i d.length k]) q/\hq q<=3:=
 ⟨_,⟨s,f,mc,m,i,k,d,rfl,j,c,a,b,by omega,by omega,l,hd,rfl⟩,a9H s m d 3 a b g e (by omega)⟩
set_option maxRecDepth 100000 in
set_option maxHeartbeats 1600000 in
theorem b6R (X:Nat->Bool) (tb:Nat) (w:World) (ht:a0K X tb w) (hX:HX X w):Calls Tryz.prog 42 #[.pointer (some ⟨tb,0,none⟩)] w (b9D X tb QV 3 w):=by
 have htb:=ht.lt;have htX:=ht.1;obtain⟨W,hW,hE,b0,hz⟩:=a1g w #[.bool false, .slice none 0 0, .slice none 0 0] 45;have hXW:HX (a0e X w.heap.size 1) W:=hX.boxes hz;have htW:a0K (a0e X w.heap.size 1) tb W:=ht.box hE;obtain⟨b,hb⟩:∃b,w.heap.size=b:=⟨_,rfl⟩;have hbw:w.heap.size<=b:=by omega
 have htb':tb≠b:=by omega
 have hbt:b≠tb:=by omega
 rw[hb]at b0 hz hXW htW;have hEb:ExtX (tbm tb) w W:=ExtX.of hE;clear hE;go_enter Tryz.func42,Tryz.ntmps42
 go_wp2_with fail
 refine(b1v (a0e X b 1) tb _ htW hXW).mono ?_;rintro e w1 ⟨hE1,ht1,u1,q,rfl,hu1,hq1⟩;obtain⟨s,ma,mc,m,da,dc,d,rfl,hmc,hdc,hcq,hms,hds⟩:=hu1;have hmd:Dig m:=hcq.1.2.1;have hdd:Dig d:=hcq.2.1;have hml:m.length<=2:=by have:=a0D q;rw[hcq.1.len];omega
 have hdl:d.length<=2:=by have:=b8e q;rw[hcq.2.len];omega
 have b1:=b0.ext hE1 (a3k hbt);have hX1:=hXW.ext hE1;have hF1:=hEb.trans hE1;have hz1:=hE1.size;have bx:=Bx.new w1 #[.bool false, .slice none 0 0, .slice none 0 0] 45;obtain⟨bo,hbo⟩:∃bo,w1.heap.size=bo:=⟨_,rfl⟩;rw[hbo]at bx;have hbnew:∀j,j<w1.heap.size->ob (some ⟨bo,0,none⟩) j=false:=fun j hj=>a0b (by omega);have hbob:b<bo:=by have:=b1.lt;omega
 have htbo:tb<bo:=by have:=ht1.lt;omega
 clear b0 hXW htW hEb hcq hz;go_wp2_with ((with_reducible show wpList _ _ _ (⟨_, .store 45 _ _,_,_,_,_⟩::_) _ _);refine a0a a0t rfl rfl bx rfl rfl (a1Q _ _ _ _ _ _ _) ?_;intro w2 r1 r2)
 have hE2:Ext w1 w2:=ExtX.box ((ExtX.refl w1).alloc _) r2 (by omega);have ht2:a0K (un (a0e X b 1) (some ⟨bo,0,none⟩)) tb w2:=ht1.old hE2 hbnew;have hms2:=hms.old (oo:=some ⟨bo,0,none⟩) (a0c.mono _) hE2 hbnew;have hds2:=hds.old (oo:=some ⟨bo,0,none⟩) (a0c.mono _) hE2 hbnew;have hX2:HX (un (a0e X b 1) (some ⟨bo,0,none⟩)) w2:=fun k hk=>by
  by_cases hx:a0e X b 1 k=true
  ·exact hX1.ext hE2 k hx
  ·have:bo=k:=by simpa[un,hx,ob]using hk
   have:=r1.lt;omega
 have b2:=b1.ext0 hE2;have hF2:=hF1.trans (ExtX.of hE2);clear bx hms hds ht1 hE1 hE2 hX1 hF1;refine(a1C (un (a0e X b 1) (some ⟨bo,0,none⟩)) tb 24 _ ht2 (by omega)).mono ?_;rintro e w3 ⟨hE3,ht3,k,rfl,hk⟩;have hsub:=a3B ht3.1;have hms3:=hms2.mono (a0c.mono _) (a0w hE3 hsub);have hds3:=hds2.mono (a0c.mono _) (a0w hE3 hsub);have hX3:=hX2.ext hE3;have b3:=b2.ext hE3 (a3k hbt);have r3:=r1.ext hE3 (a3k (by omega));have hF3:=hF2.trans hE3;have hz3:=r3.lt;clear hms2 hds2 hX2 b2 r1 r2 hF2 ht2 hE3 hbnew hz1;have hdone:Hid (∀(wz w7:World) (s:Bool) (ma da:Option Addr) (mc dc:Nat) (m d:List Nat),ExtX (tbm tb) w wz->a0K (un (a0e X b 1) (some ⟨bo,0,none⟩)) tb wz->Sl (a0c .u32) 1 (mk (un (a0e X b 1) (some ⟨bo,0,none⟩)) wz) ma m->Sl (a0c .u32) 1 (mk (un (a0e X b 1) (some ⟨bo,0,none⟩)) wz) da d->m.length<=mc->d.length<=dc->Dig m->Dig d->m.length<=3->d.length<=3->ExtX (ob (some ⟨b,0,none⟩)) wz w7->b9D X tb QV 3 w (.returned (.agg #[.bool s, .slice ma m.length mc, .slice da d.length dc])) w7):=hid fun wz w7 s ma da mc dc m d g1 g2 g3 g4 g5 g6 g7 g8 g9 g10 g11=>by
  have hle:Le (mk (un (a0e X b 1) (some ⟨bo,0,none⟩)) wz) (mk X w7):=by
   refine a0T g11 (fun j hj hk=>?_) (fun j _ hk=>a0f (a7s hk));have:b=j:=by simpa[ob]using hk
   subst this;exact a0f (a2L (Nat.le_refl _) (by omega))
  obtain⟨q,p1,p2⟩:=b6Q (s:=s) (g3.mono (a0c.mono _) hle) (g4.mono (a0c.mono _) hle) g5 g6 g7 g8 g9 g10;have t1:a0K X tb w7:=by
   have hlt:=g2.lt;obtain⟨_,lo,l,cap,at_,h1,h2,h3,h4⟩:=g2;exact⟨htX,lo,l,cap,at_,by rw[g11.block tb hlt (a0b htb')];exact h1,h2,h3,h4.mono (a0p.mono _) hle⟩
  exact⟨g1.tbox g11 hbw,t1,_,q,rfl,p1,p2⟩
 have hcase:k<20\/k=20\/k=21\/k=22\/k=23:=by omega
 rcases hcase with h|rfl|rfl|rfl|rfl
 ·have k0:=r3.cell 0 rfl
  have k1:=r3.cell 1 rfl;have k2:=r3.cell 2 rfl;have t20:((k:Int)==20)=false:=a2w (by omega);have t21:((k:Int)==21)=false:=a2w (by omega);have t22:((k:Int)==22)=false:=a2w (by omega);have t23:((k:Int)==23)=false:=a2w (by omega);go_wp2_with ((with_reducible show wpList _ _ _ (⟨_, .store 45 _ _,_,_,_,_⟩::_) _ _);refine a0a a0t rfl rfl b3 rfl rfl (a1Q _ _ _ _ _ _ _) ?_;intro w7 r1 r2)
  exact bodyPost_ret (a0d rfl rfl a0t r1 rfl) rfl (hdone.out w3 w7 _ _ _ _ _ _ _ hF3 ht3 hms3 hds3 hmc hdc hmd hdd (by omega) (by omega) r2)
 ·have hEa:Ext w3 (w3.alloc (.cells #[.int .u32 1] 147)):=(ExtX.refl _).alloc _
  have r4:=r3.ext0 hEa;have hdn:=a0c.lit1 (un (a0e X b 1) (some ⟨bo,0,none⟩)) w3 1 147 hX3;have k2:=r4.cell 2 rfl;have f2:=r4.frozen 2;obtain⟨g1,g2⟩:=a0J r4 (.slice (some ⟨w3.heap.size,0,none⟩) 1 1) (i:=2) (by simp);obtain⟨w5,hw5⟩:∃w5,(w3.alloc (.cells #[.int .u32 1] 147)).setCell ⟨bo,2,none⟩ (.slice (some ⟨w3.heap.size,0,none⟩) 1 1)=w5:=⟨_,rfl⟩;rw[hw5]at g1 g2;have k0:w5.cell? ⟨bo,0,none⟩=some (.bool s):=g1.cell 0 rfl;have k1:w5.cell? ⟨bo,1,none⟩=some (.slice ma m.length mc):=g1.cell 1 rfl;have k5:w5.cell? ⟨bo,2,none⟩=some (.slice (some ⟨w3.heap.size,0,none⟩) 1 1):=g1.cell 2 rfl;have hE5:ExtX (ob (some ⟨bo,0,none⟩)) w3 w5:=(ExtX.of hEa).trans g2;have hle:Le (mk (un (a0e X b 1) (some ⟨bo,0,none⟩)) w3) (mk (un (a0e X b 1) (some ⟨bo,0,none⟩)) w5):=a0w hE5 fun _ hk=>a0r hk;have hle2:Le (mk (un (a0e X b 1) (some ⟨bo,0,none⟩)) (w3.alloc (.cells #[.int .u32 1] 147))) (mk (un (a0e X b 1) (some ⟨bo,0,none⟩)) w5):=a0w g2 fun _ hk=>a0r hk;have b5:=(b3.ext0 hEa).ext g2 (a0b (by omega));have hfin:=hid (hdone.out w5 · s ma (some ⟨w3.heap.size,0,none⟩) mc 1 m [1] (hF3.tbox hE5 (by omega)) (ht3.extY hE5 (fun _ hk=>a0r hk) (a0b (by omega))) (hms3.mono (a0c.mono _) hle) (hdn.mono (a0c.mono _) hle2) hmc (by simp) hmd (b0x 1 (by omega)) (by omega) (by simp));go_wp2_with (first|((with_reducible show wpList _ _ _ (⟨_, .store 41 _ _,_,_,_,_⟩::_) _ _);refine a8i b9X rfl rfl rfl rfl k2 f2 ?_;rw[hw5];clear k2 f2)|((with_reducible show wpList _ _ _ (⟨_, .store 45 _ _,_,_,_,_⟩::_) _ _);refine a0a a0t rfl rfl b5 rfl rfl (a1Q _ _ _ _ _ _ _) ?_;intro w7 r1 r2))
  exact bodyPost_ret (a0d rfl rfl a0t r1 rfl) rfl (hfin.out w7 r2)
 ·have k1:=r3.cell 1 rfl
  have h0:=hid (show Sl (a0c .u32) 1 (mk (un (un (a0e X b 1) (some ⟨bo,0,none⟩)) none) w3) ma m from by rw[a6E];exact hms3);go_wp2_with (first
   |(at_builtin;refine a3g (l:=([]:List Nat)) a0R rfl (a0c.elem .u32) (Nat.le_refl w3.heap.size) hX3 m rfl rfl (OL.nil _ _ _ _ _ _) h0.out (by simp;omega) (by simp;omega) ?_;intro oo4 co4 w4 hO4 hE4 hor4;have hE34:Ext w3 w4:=hE4.weaken (fun _ _ _=>rfl);have hX4:=hX3.ext hE34;have hb4:=hE34.size)
   |(at_builtin;refine a3f (l:=[]++m) a0R rfl (a0c.elem .u32) hb4 hX4 rfl rfl hO4 (.int .u32 0) 0 rfl rfl (by simp;omega) (by simp;omega) ?_;intro oo5 co5 w5 hO5 hE5 hor5;have hE35:Ext w3 w5:=hE34.own hO4 (Nat.le_refl _) hE5;have r5:=r3.ext0 hE35;have k2:=r5.cell 1 rfl;have f2:=r5.frozen 1;obtain⟨g1,g2⟩:=a0J r5 (.slice oo5 (m.length+1) co5) (i:=1) (by simp);obtain⟨w6,hw6⟩:∃w6,w5.setCell ⟨bo,1,none⟩ (.slice oo5 (m.length+1) co5)=w6:=⟨_,rfl⟩;rw[hw6]at g1 g2;have q0:w6.cell? ⟨bo,0,none⟩=some (.bool s):=g1.cell 0 rfl;have q1:w6.cell? ⟨bo,1,none⟩=some (.slice oo5 (m.length+1) co5):=g1.cell 1 rfl;have q2:w6.cell? ⟨bo,2,none⟩=some (.slice da d.length dc):=g1.cell 2 rfl;have b6:=(b3.ext0 hE35).ext g2 (a0b (by omega)))
   |((with_reducible show wpList _ _ _ (⟨_, .store 45 _ _,_,_,_,_⟩::_) _ _);refine a0a a0t rfl rfl b6 rfl rfl (a1Q _ _ _ _ _ _ _) ?_;intro w7 r1 r2))
  have hE6:ExtX (ob (some ⟨bo,0,none⟩)) w3 w6:=(ExtX.of hE35).trans g2;have hle:Le (mk (un (a0e X b 1) (some ⟨bo,0,none⟩)) w3) (mk (un (a0e X b 1) (some ⟨bo,0,none⟩)) w6):=a0w hE6 fun _ hk=>a0r hk;have hle2:Le (mk (un (a0e X b 1) (some ⟨bo,0,none⟩)) w5) (mk (un (a0e X b 1) (some ⟨bo,0,none⟩)) w6):=a0w g2 fun _ hk=>a0r hk;have hc5:=hO5.lenCap;have hlen:([]++m++[0]).length=m.length+1:=by simp
  rw[hlen]at hc5;have hfin:=hdone.out w6 w7 s oo5 da co5 dc ([]++m++[0]) d (hF3.tbox hE6 (by omega)) (ht3.extY hE6 (fun _ hk=>a0r hk) (a0b (by omega))) ((hO5.sl (a0c.elem _)).mono (a0c.mono _) hle2) (hds3.mono (a0c.mono _) hle) (by rw[hlen];exact hc5) hdc (fun x hx=>by
   rcases List.mem_append.1 hx with h|h
   ·exact hmd x (by simpa using h)
   ·rw[List.mem_singleton.1 h];exact a2o) hdd (by simp;omega) (by omega) r2
  rw[hlen]at hfin;exact bodyPost_ret (a0d rfl rfl a0t r1 rfl) rfl hfin
 ·go_wp2_with ((with_reducible show wpList _ _ _ (⟨_, .store 45 _ _,_,_,_,_⟩::_) _ _);refine a0a a0t rfl rfl b3 rfl rfl (a1Q _ _ _ _ _ _ _) ?_;intro w7 r1 r2)
  exact bodyPost_ret (a0d rfl rfl a0t r1 rfl) rfl (hdone.out w3 w7 true none none 0 0 [] [] hF3 ht3 (Sl.nil _ _ _ _) (Sl.nil _ _ _ _) (by simp) (by simp) (fun x hx=>by simp at hx) (fun x hx=>by simp at hx) (by simp) (by simp) r2)
 ·obtain⟨w4,hw4⟩:∃w4,w3.alloc (.cells #[.int .u32 2] 147)=w4:=⟨_,rfl⟩
  have hE4:Ext w3 w4:=by rw[<-hw4];exact(ExtX.refl _).alloc _
  have hz4:w4.heap.size=w3.heap.size+1:=by rw[<-hw4];simp
  have hX4:=hX3.ext hE4;have hm2:=a0c.lit1 (un (a0e X b 1) (some ⟨bo,0,none⟩)) w3 2 147 hX3;have hd4:=a0c.lit1 (un (a0e X b 1) (some ⟨bo,0,none⟩)) w4 4 147 hX4;rw[show((2:Nat):Int)=2 from rfl,hw4]at hm2;rw[show((4:Nat):Int)=4 from rfl]at hd4;obtain⟨w5,hw5⟩:∃w5,w4.alloc (.cells #[.int .u32 4] 147)=w5:=⟨_,rfl⟩;have hE5:Ext w4 w5:=by rw[<-hw5];exact(ExtX.refl _).alloc _
  rw[hw5,hz4]at hd4;have hm5:=hm2.mono (a0c.mono _) (a0l hE5);have hE35:Ext w3 w5:=hE4.trans hE5;have b5:=b3.ext0 hE35;have hfin:=hid (hdone.out w5 · false (some ⟨w3.heap.size,0,none⟩) (some ⟨w3.heap.size+1,0,none⟩) 1 1 [2] [4] (hF3.trans (ExtX.of hE35)) (ht3.ext hE35) hm5 hd4 (by simp) (by simp) (b0x 2 (by omega)) (b0x 4 (by omega)) (by simp) (by simp));clear hE4 hX4 hm2 hd4 hE5 hm5 hE35;go_wp2_with ((with_reducible show wpList _ _ _ (⟨_, .store 45 _ _,_,_,_,_⟩::_) _ _);refine a0a a0t rfl rfl b5 rfl rfl (a1Q _ _ _ _ _ _ _) ?_;intro w7 r1 r2)
  exact bodyPost_ret (a0d rfl rfl a0t r1 rfl) rfl (hfin.out w7 r2)
theorem a6V (X:Nat->Bool) (j n:Nat) (w:World) (I:a0K X j w) (W:HX X w) (hn:n<=1000):
  Calls Tryz.prog 109 #[.pointer (some ⟨j,0,none⟩), .int .i64 (n:Int)] w (b4A X j QV 3 n w):=by
 have t:=a3B I.1;go_enter Tryz.func109,Tryz.ntmps109
 go_wp2_with fail
 go_loopw [5,6] (fun s c wr=>∃(i:Nat) (oo:Option Addr) (z:Nat) (l:List Rat),c= .int .i64 i/\s= .slice oo i z/\l.length=i/\i<=n/\BR 3 l/\OL QV 3 X w.heap.size 45 wr oo z l/\a0K (un X oo) j wr/\ExtX (tbm j) w wr) (fun _ c _=>n - (intOf c).toNat)
 case atStart=>exact⟨0,none,0,[],rfl,rfl,rfl,Nat.zero_le _,fun x hx=>by simp at hx,OL.nil _ _ _ _ _ _,I.none,ExtX.refl _⟩
 case round=>
  obtain⟨i,oo,z,l,rfl,rfl,a,T,O,o,d,y⟩:=hrel;have g:HX X wr:=W.ext y;by_cases a0:i<n
  ·have m:HX (un X oo) wr:=o.unX g
   have u:=hid a;clear a;go_wp2_with fail
   refine(b6R (un X oo) j _ d m).mono ?_;rintro e w2 ⟨b,L,u6,q,rfl,r,N⟩;obtain⟨R,U,V,S,Y,Q,Z,rfl⟩:=r.shape;have f:=o.ext QV.elem b (fun k _ hk=>t k hk) (fun _ _ h=>h);have B:HX X w2:=g.ext b;have v:=y.trans b;have D:=v.size;clear o d y b g m;go_wp2_with (at_builtin;refine a0u (l:=l) a0B rfl QV.elem (by omega) B i u.out rfl rfl f (.agg #[.bool R, .slice U V S, .slice Y Q Z]) q rfl r (by omega) (by omega) ?_;intro E J w7 C p H)
   have K:=v.own f (Nat.le_refl _) p;have M:=L.unstep (f.not_ob I.1) p H;have G:BR 3 (l++[q]):=fun x hx=>by
    rcases List.mem_append.1 hx with h|h
    ·exact O x h
    ·rw[List.mem_singleton.1 h];exact N
   have A:(l++[q]).length=i+1:=by rw[List.length_append,u.out];rfl
   go_roundw
   case rel=>exact⟨i+1,E,J,_,by go_num,by go_num,A,by omega,G,C,M,K⟩
   case measure=>simp[intOf];omega
  ·have F:i=n:=by omega
   subst F;have P:=o.lenCap;rw[a]at P;go_wp2_with fail
   go_ret
   exact⟨y,oo,l,z,rfl,a,P,O,d,o⟩
end Go.Proofs.YtidbbddagfnfbaaGreat
namespace Go.Rep
open Go.RowKit Go.Lim
theorem b2i {P:Program} {o:Array Oper} {Q:Exit->Act->World->Prop} {f:List Oper} {a:Act} {w:World} {α:Type} {R:Mem->Value->α->Prop} {sz:Nat} {X:Nat->Bool} {e:TypeId} {d:Option Tmp} {F:TypeId} {ps:String} {A:Array Edge}
  {t i:Nat} {z:Value} {s x:Operand} {q:Option Addr} {y:Nat} (T:SliceT P t e sz i z) (u:z.cells.size=sz) (E:Elem R sz) (base:Nat) (h:base<=w.heap.size) (D:∀k,X k=true->k<w.heap.size)
  (p:List α) (n:Nat) (v:p.length=n) (C:a.eval s= .slice none 0 0) (hx:a.eval x= .slice q n y) (hxs:Sl R sz (mk X w) q p) (g:n*i<=140737488355328) (m:n<=9223372036854775807)
  (K:∀c b j,OL R sz X base e j c b p->n<=b->Ext w j->wpList P o Q f (a.put d (.slice c n b)) j):
  wpList P o Q (⟨d, .call {callee:= .builtin .append,args:=#[s,x],argTypes:=#[t,t]},F,ps,A,none⟩::f) a w:=by
 subst v;have G:Sl R sz (mk (un X none) w) q p:=by
  have:un X none=X:=by funext k;simp[un,ob]
  rw[this];exact hxs
 refine a3g (l:=[]) T u E h D p C hx (OL.nil _ _ _ _ _ _) G (by simpa using g) (by simpa using m) fun c b j r B _=>?_;rw[List.nil_append]at r |-;exact K c b j r r.lenCap (B.weaken fun _ _ _=>rfl)
theorem Sl.rowsF {R:Mem->Value->Rat->Prop} {h:Mem} {ao:Option Addr} {m:List (List Rat)} (s:Sl (SlV R 3) 1 h ao m):∃f:Nat->Option Addr×Nat,∀i (hi:i<m.length),h (adr ao i)=some (.slice (f i).1 m[i].length (f i).2)/\m[i].length<=(f i).2/\Sl R 3 h (f i).1 m[i]:=by
 have b:∀i,∃p:Option Addr×Nat,∀(hi:i<m.length),h (adr ao i)=some (.slice p.1 m[i].length p.2)/\m[i].length<=p.2/\Sl R 3 h p.1 m[i]:=fun i=>by
  by_cases hi:i<m.length
  ·obtain⟨u,g,a,c,rfl,d,e⟩:=s.cell SlV.one i hi
   exact⟨(a,c),fun _=>⟨g,d,e⟩⟩
  ·exact⟨(none,0),fun h=>absurd h hi⟩
 exact⟨fun i=>(b i).choose,fun i hi=>(b i).choose_spec hi⟩
theorem OL.rowsF {X:Nat->Bool} {base:Nat} {e:TypeId} {w:World} {ao:Option Addr} {d:Nat} {m:List (List Rat)} (s:OL RC 1 X base e w ao d m):∃f:Nat->Option Addr×Nat,∀i (hi:i<m.length),w.cell? (adr ao i)=some (.slice (f i).1 m[i].length (f i).2)/\m[i].length<=(f i).2/\Sl QC 3 (mk (un X ao) w) (f i).1 m[i]:=by
 have b:∀i,∃p:Option Addr×Nat,∀(hi:i<m.length),w.cell? (adr ao i)=some (.slice p.1 m[i].length p.2)/\m[i].length<=p.2/\Sl QC 3 (mk (un X ao) w) p.1 m[i]:=fun i=>by
  by_cases hi:i<m.length
  ·obtain⟨u,l,_,j⟩:=s.cell SlV.one i hi
   obtain⟨a,c,rfl,k,g⟩:=j;exact⟨(a,c),fun _=>⟨l,k,g⟩⟩
  ·exact⟨(none,0),fun h=>absurd h hi⟩
 exact⟨fun i=>(b i).choose,fun i hi=>(b i).choose_spec hi⟩
theorem b7H {ao:Option Addr} {n k:Nat} (hd:Hd ao n) (a:0<n) {b:Nat} (c:ob ao b=false):(adr ao k).block≠b:=by
 obtain⟨g,o,rfl⟩:=hd a;intro h;have:g=b:=h;subst this;simp[ob]at c
end Go.Rep
namespace Go.Proofs.YtidbbddagfnfbaaGreat
open Go.RowKit Go.Rep Go.Lim
def pB (k:Nat):Nat:=2^(k+1) - 2
end Go.Proofs.YtidbbddagfnfbaaGreat
namespace Go.Rep
open Go.RowKit Go.Lim
theorem BM.le {B C:Nat} {m:List (List Rat)} (h:BM B m) (a:B<=C):BM C m:=fun r b q hq=>Nat.le_trans (h r b q hq) a
theorem BM.set {B:Nat} {m:List (List Rat)} (h:BM B m) {r:List Rat} (a:BR B r) (i:Nat):BM B (m.set i r):=fun x hx=>by
 rcases List.mem_or_eq_of_mem_set hx with hx|rfl
 ·exact h x hx
 ·exact a
end Go.Rep
namespace Go.Proofs.YtidbbddagfnfbaaGreat
open Go.RowKit Go.Rep Go.Lim
def b4B (X:Nat->Bool) (tb:Nat) (n k:Nat) (w:World) (e:Ending) (w':World):Prop:=ExtX (tbm tb) w w'/\a0K X tb w'/\∃(vx vy:Value) (p:List (List Rat)) (y:List Rat) (d:Nat),e= .returned (.tuple #[vx,vy])/\MV (mk X w') vx p/\RV (mk X w') vy y/\1<=p.length/\p.length<=n/\1<=d/\d<=k/\(∀r∈p,r.length=d)/\y.length=p.length/\BM 2 p/\BR 4 y
def c1b (X:Nat->Bool) (oo:Option Addr) (tb d:Nat) (w:World) (v:Value) (w':World):Prop:=∃(po:Option Addr) (p:List Rat) (pc:Nat),v= .slice po d pc/\p.length=d/\BR 2 p/\a0K (un (un X oo) po) tb w'/\OL QC 3 (un X oo) w.heap.size 45 w' po pc p/\ExtX (tbm tb) w w'
theorem c1R {h:Mem} {ao:Option Addr} {l:List (List Rat)} (s:Sl RC 1 h ao l) (c:BM 68719476736 l):Sl RV 1 h ao l:=
 ⟨s.1,fun i hi=>let ⟨u,d,a,b⟩:=s.2 i hi;⟨u,d,a,RC.rv b (c _ (List.getElem_mem _))⟩⟩
def twN (y:List Rat) (p:List (List Rat)) (j:Nat):List Rat:=(List.range y.length).map fun i=>if i<j then 2*(p.getD i []).getD 0 0 else y.getD i 0
theorem b0y (y:List Rat) (p:List (List Rat)) (j:Nat):(twN y p j).length=y.length:=by simp[twN]
theorem b6S (y:List Rat) (p:List (List Rat)):y=twN y p 0:=by
 refine List.ext_getElem (by simp[twN]) fun i a b=>?_;simp[twN,List.getD_eq_getElem?_getD,a]
theorem b9E (y:List Rat) (p:List (List Rat)) (j:Nat):(twN y p j).set j (2*(p.getD j []).getD 0 0)=twN y p (j+1):=by
 refine List.ext_getElem (by simp[twN]) fun i b a=>?_;rw[List.getElem_set];simp only[twN,List.getElem_map,List.getElem_range];split
 ·subst_vars;simp
 ·by_cases h:i<j
  ·simp[h,show i<j+1 by omega]
  ·simp[h,show¬i<j+1 by omega]
theorem c1c {x:Rat} {B:Nat} (hx:hq x<=B):hq (2*x)<=B+2:=by
 have a:=hq_mul 2 x;have b:hq (2:Rat)<=1:=a7o 2 1 (lgI (by omega) (by omega)) (by omega);omega
theorem c1d {y:List Rat} {p:List (List Rat)} (b:BR 2 y) (c:BM 2 p) (j:Nat):BR 4 (twN y p j):=by
 intro q a;unfold twN at a;obtain⟨i,hi,rfl⟩:=List.mem_map.1 a;have hi:=List.mem_range.1 hi;split
 ·refine c1c ?_
  by_cases h:i<p.length
  ·rw[show p.getD i []=p[i]by simp[List.getD_eq_getElem?_getD,h]]
   by_cases d:0<p[i].length
   ·rw[show p[i].getD 0 0=p[i][0]by simp[List.getD_eq_getElem?_getD,d]]
    exact c _ (List.getElem_mem _) _ (List.getElem_mem _)
   ·rw[show p[i].getD 0 0=0 by simp[List.getD_eq_getElem?_getD,List.getElem?_eq_none (show p[i].length<=0 by omega)],a0Z];decide
  ·rw[show p.getD i []= []by simp[List.getD_eq_getElem?_getD,List.getElem?_eq_none (show p.length<=i by omega)],show([]:List Rat).getD 0 0=0 from rfl,a0Z];decide
 ·rw[show y.getD i 0=y[i]by simp[List.getD_eq_getElem?_getD,hi]]
  exact Nat.le_trans (b _ (List.getElem_mem _)) (by decide)
set_option maxRecDepth 100000 in
set_option maxHeartbeats 3200000 in
theorem b0z (X:Nat->Bool) (u n k:Nat) (w:World) (ht:a0K X u w) (hX:HX X w) (p7:1<=n) (hn:n<=8) (p8:1<=k) (D:k<=8):
  Calls Tryz.prog 20 #[.pointer (some ⟨u,0,none⟩), .int .i64 (n:Int), .int .i64 (k:Int)] w (b4B X u n k w):=by
 have C:=a3B ht.1;have E:=ht.1;go_enter Tryz.func20,Tryz.ntmps20
 go_wp2_with fail
 refine(a1C X u k w ht (by omega)).mono ?_;rintro e w1 ⟨k9,k8,m,rfl,hm⟩;have m0:(1+(m:Int))=((m+1:Nat):Int):=by omega
 have i5:m+1<=k:=by omega
 obtain⟨d,hd⟩:∃d,m+1=d:=⟨_,rfl⟩;have m7:1<=d:=by omega
 rw[hd]at m0 i5;clear hd hm;go_wp2_with fail
 refine(a5g X u 2 w1 k8 (by decide) (by decide)).mono ?_;rintro e w2 ⟨f,t,j7,rfl⟩;go_wp2_with fail
 refine(a1C X u n w2 t (by omega)).mono ?_;rintro e w3 ⟨b0,a5,m2,rfl,o8⟩;have n4:(1+(m2:Int))=((m2+1:Nat):Int):=by omega
 have n9:m2+1<=n:=by omega
 obtain⟨N,hN⟩:∃N,m2+1=N:=⟨_,rfl⟩;have q3:1<=N:=by omega
 rw[hN]at n4 n9;have f5:=(k9.trans f).trans b0;have n2:=hX.ext f5;clear hN o8 k9 f b0 k8 t ht;go_wp2_with fail
 go_loopw [9,10] (fun s c wr=>∃(i j:Nat) (oo:Option Addr) (co:Nat) (l:List (List Rat)),c= .int .i64 i/\s= .slice oo j co/\l.length=j/\i+j=N/\(∀r∈l,r.length=d)/\BM 2 l/\OL RC 1 X w.heap.size 24 wr oo co l/\a0K (un X oo) u wr/\ExtX (tbm u) w wr) (fun _ c _=>(intOf c).toNat)
 case atStart=>exact⟨N,0,none,0,[],rfl,rfl,rfl,rfl,by simp,fun r M=>by simp at M,OL.nil _ _ _ _ _ _,by rw[show un X none=X by funext k;simp[un,ob]];exact a5,f5⟩
 case round=>
  clear f5 a5 n2;obtain⟨i,j,oo,co,l,rfl,rfl,a9,m9,e4,d8,hO,l5,hE⟩:=hrel;have o6:HX X wr:=hX.ext hE;have b6:HX (un X oo) wr:=hO.unX o6;have B:=hid a9;have a3:=hid e4;have L:=hid d8;by_cases b9:0<i
  ·obtain⟨i,rfl⟩:∃j,i=j+1:=⟨i - 1,by omega⟩
   obtain⟨V,g2⟩:∃V,V=wr:=⟨_,rfl⟩;subst g2;clear a9 e4 d8;go_upto_region 7 with fail
   go_cut [11]from 28 to 30 (fun v wx=>c1b X oo u d V v wx)
   case first=>
    go_wp2_with fail
    refine(a5r (un X oo) u d V l5 b6 (by omega)).mono ?_;rintro e w2 ⟨f,H,p,pc,rfl,A,U,J,t,O⟩;go_wp2_with fail
    all_goals go_meet
    all_goals case rel=>exact⟨H,p,pc,rfl,A,J,t,O,f⟩
   case rest=>
   obtain⟨H,p,pc,rfl,A,J,t,O,f⟩:=hcut
   go_step
   go_step
   go_cut [11]from 31 to 45 (fun v wx=>c1b X oo u d V v wx)
   case first=>
    by_cases q4:0<j
    ·go_wp2_with fail
     refine(a5g (un (un X oo) H) u 6 wc t (by decide) (by decide)).mono ?_;rintro e w4 ⟨f6,h2,b2,rfl⟩;have j1:=O.ext QC.elem f6 (fun k _ D=>a0f (C k D)) (fun _ _ h=>h);have b5:=f.trans f6;cases b2
     ·go_wp2_with fail
      all_goals go_meet
      all_goals case rel=>exact⟨H,p,pc,rfl,A,J,h2,j1,b5⟩
     ·go_wp2_with fail
      refine(a1C (un (un X oo) H) u j w4 h2 (by omega)).mono ?_;rintro e w5 ⟨j6,l1,m4,rfl,p3⟩;have a2:=b5.trans j6;have e8:m4<l.length:=by rw[B.out];omega
      have g5:=hO.ext RC.elem a2 (fun k _ D=>C k D) (fun _ _ h=>h);have j2:=b6.ext a2;obtain⟨u4,j3,_,o0⟩:=g5.cell SlV.one m4 e8;obtain⟨a4,c4,rfl,f3,k2⟩:=o0;have d0:=g5.hd;rw[B.out]at d0;have F:=a3.out l[m4] (List.getElem_mem _);have d5:=L.out l[m4] (List.getElem_mem _);obtain⟨r,M⟩:∃r,l[m4]=r:=⟨_,rfl⟩;rw[M]at j3 f3 k2 F d5;have e9:=hid F;rw[F]at j3 f3;have p0:m4<j:=by omega
      have l7:a0K (un X oo) u w5:=l1.unX (a0f E);have i7:=a2.size;clear M F e8 j1 O g5 l1 h2 t f6 j6 b5 f;go_wp2_with (first|(with_reducible refine a0q a0s (by omega) (by assumption) ?_)|(at_builtin;refine b2i a0B rfl QC.elem w5.heap.size (Nat.le_refl _) j2 r d e9.out rfl rfl k2 (by omega) (by omega) ?_;intro o7 o4 w6 l0 p4 l4))
      have n5:=l7.old l4 (fun j hj=>l0.ob_lt hj);have j0:=a2.trans (ExtX.of l4)
      all_goals go_meet
      all_goals case rel=>exact⟨o7,r,o4,rfl,e9.out,d5,n5,l0.base_le i7,j0⟩
    ·go_wp2_with fail
     all_goals go_meet
     all_goals case rel=>exact⟨H,p,pc,rfl,A,J,t,O,f⟩
   case rest=>
   clear A J t O f;obtain⟨H,p,pc,rfl,A,J,t,O,f⟩:=hcut;obtain⟨wq,m5⟩:∃wq,wq=wc:=⟨_,rfl⟩;subst m5;have h7:HX (un (un X oo) H) wq:=O.unX (b6.ext f);have l8:ob H u=false:=O.not_ob (a0f E);cases j7
   ·have S:=hO.ext RC.elem f (fun k _ D=>C k D) (fun _ _ h=>h)
    have g6:a0K (un X oo) u wq:=t.unX (a0f E);have Q:=hE.trans f;have h3:=hX.ext Q;have U:=O.lenCap;have i0:RC (mk (un X oo) wq) (.slice H d pc) p:=⟨H,pc,by rw[A],U,O.sl QC.elem⟩;have b1:=hid A;have g4:=Q.size;clear A U O t h7;go_wp2_with (at_builtin;refine a0u (l:=l) a0s rfl RC.elem g4 h3 j B.out rfl rfl S (.slice H d pc) p rfl i0 (by omega) (by omega) ?_;intro h4 h9 w7 b3 c0 h8)
    have e3:=Q.own S (Nat.le_refl _) c0;have f7:=g6.unstep (S.not_ob E) c0 h8;have g3:(l++[p]).length=j+1:=by rw[List.length_append,B.out];rfl
    have h5:∀r∈l++[p],r.length=d:=fun r M=>by
     rcases List.mem_append.1 M with h|h
     ·exact a3.out r h
     ·rw[List.mem_singleton.1 h];exact b1.out
    have f8:BM 2 (l++[p]):=fun r M=>by
     rcases List.mem_append.1 M with h|h
     ·exact L.out r h
     ·rw[List.mem_singleton.1 h];exact J
    go_roundw
    case rel=>exact⟨i,j+1,h4,h9,_,by go_num,by go_num,g3,by omega,h5,f8,b3,f7,e3⟩
    case measure=>simp[intOf]
   ·have h0:0<p.length:=by omega
    have m1:Hd H d:=by have:=O.hd;rw[A]at this;exact this
    obtain⟨g,o,hg⟩:∃g o,adr H (0*3)=⟨g,o,none⟩:=⟨_,_,rfl⟩;have i1:∀W,(Instr.indexAt 24 (.slice H d pc) (.int .i64 0)).run Tryz.prog W= .ok (.pointer (some ⟨g,o,none⟩)) W:=by rw[<-hg];exact a0m a0B H d pc .i64 0 m1 (by omega)
    have c9:=hid hg;have l6:=hid A;clear hg A;go_wp2_with fail
    refine(a4V (un (un X oo) H) wq 1 h7 (by decide) (by decide)).mono ?_;rintro e w6 ⟨t1,u6,rfl,a8⟩;obtain⟨s6,a6,n6,c6,d6,k6,e6,rfl⟩:=a8.shape;have d9:=O.ext0 QC.elem t1;obtain⟨_,v0,v1,v2,_,⟨q0,f0⟩,⟨q1,f1⟩,⟨q2,f2⟩,_⟩:=d9.cell3 0 h0 c9.out;have b7:=d9.set3 (P:=Tryz.prog) a7a QC.elem 0 h0 c9.out (v0:= .bool s6) (v1:= .slice a6 n6 c6) (v2:= .slice d6 k6 e6) (x:=((1:Int):Rat)) a8;go_upto_region 12 with fail
    obtain⟨r1,r2⟩:=b7;obtain⟨w7,k5⟩:∃w7,(((w6.setCell ⟨g,o,none⟩ (.bool s6)).setCell ⟨g,o+1,none⟩ (.slice a6 n6 c6)).setCell ⟨g,o+2,none⟩ (.slice d6 k6 e6))=w7:=⟨_,rfl⟩;rw[k5]at r1 r2 |-;have c0:=(f.then_ t1 (fun _ _ _=>rfl)).own d9 (Nat.le_refl _) r2;have S:=hO.ext RC.elem c0 (fun k _ D=>C k D) (fun _ _ h=>h);have g6:a0K (un X oo) u w7:=((t.ext t1).extY r2 (fun _ D=>a0r D) l8).unX (a0f E);have Q:=hE.trans c0;have h3:=hX.ext Q;have G:(p.set 0 ((1:Int):Rat)).length=d:=by rw[List.length_set];exact l6.out
    have f4:BR 2 (p.set 0 ((1:Int):Rat)):=fun q o3=>by
     rcases List.mem_or_eq_of_mem_set o3 with h|rfl
     ·exact J q h
     ·exact Nat.le_trans (a7o 1 1 (lgI (by omega) (by omega)) (by omega)) (by decide)
    have U:=r1.lenCap;rw[G]at U;obtain⟨r,M⟩:∃r,p.set 0 ((1:Int):Rat)=r:=⟨_,rfl⟩;rw[M]at r1 G f4;have i0:RC (mk (un X oo) w7) (.slice H d pc) r:=⟨H,pc,by rw[G],by rw[G];exact U,r1.sl QC.elem⟩;have b1:=hid G;have g4:=Q.size;clear M G U O t h7 d9 r1 r2 k5 q0 f0 q1 f1 q2 f2 i1 a8;go_wp2_with (at_builtin;refine a0u (l:=l) a0s rfl RC.elem g4 h3 j B.out rfl rfl S (.slice H d pc) r rfl i0 (by omega) (by omega) ?_;intro h4 h9 w8 m6 e3 h8)
    have g8:=Q.own S (Nat.le_refl _) e3;have f7:=g6.unstep (S.not_ob E) e3 h8;have g3:(l++[r]).length=j+1:=by rw[List.length_append,B.out];rfl
    have h5:∀x∈l++[r],x.length=d:=fun x M=>by
     rcases List.mem_append.1 M with h|h
     ·exact a3.out x h
     ·rw[List.mem_singleton.1 h];exact b1.out
    have f8:BM 2 (l++[r]):=fun x M=>by
     rcases List.mem_append.1 M with h|h
     ·exact L.out x h
     ·rw[List.mem_singleton.1 h];exact f4
    go_roundw
    case rel=>exact⟨i,j+1,h4,h9,_,by go_num,by go_num,g3,by omega,h5,f8,m6,f7,g8⟩
    case measure=>simp[intOf]
  ·have n0:i=0:=by omega
   subst n0;obtain rfl:j=N:=by omega
   clear m9;have p9:=hO.sl RC.elem;have d0:=hO.hd;rw[a9]at d0;obtain⟨V,g2⟩:∃V,V=wr:=⟨_,rfl⟩;subst g2;have c3:=hid (fun(wz:World) (vy:Value) (y:List Rat) (e2:ExtX (tbm u) V wz) (g0:a0K X u wz) (hy:RV (mk X wz) vy y) (d4:y.length=j) (d3:BR 4 y)=>(⟨hE.trans e2,g0, .slice oo j co,vy,l,y,d,rfl,⟨oo,co,by rw[a9],hO.lenCap,c1R ((hO.ext RC.elem e2 (fun k _ D=>C k D) (fun _ _ h=>h)).sl RC.elem) (fun r M q hq=>Nat.le_trans (d8 r M q hq) (by decide))⟩,hy,by omega,by omega,m7,i5,e4,by rw[d4,a9],d8,d3⟩:b4B X u n k w (.returned (.tuple #[.slice oo j co,vy])) wz));clear a9 e4 b9;go_wp2_with fail
   refine(a5r (un X oo) u j V l5 b6 (by omega)).mono ?_;rintro e w2 ⟨f,I,y,yc,rfl,d4,o5,d3,t,hY⟩;go_wp2_with fail
   refine(a5g (un (un X oo) I) u 5 w2 t (by decide) (by decide)).mono ?_;rintro e w3 ⟨b0,a5,b,rfl⟩;have d2:=hY.ext QC.elem b0 (fun k _ D=>a0f (C k D)) (fun _ _ h=>h);have c5:=f.trans b0;have Y:=hid (fun(wz:World) (z:List Rat) (e2:ExtX (tbm u) V wz) (g0:a0K (un (un X oo) I) u wz) (hz:OL QC 3 (un X oo) V.heap.size 45 wz I yc z) (i4:z.length=j) (l2:BR 4 z)=>c3.out wz (.slice I j yc) z e2 ((g0.unX (a0f E)).unX E) ⟨I,yc,by rw[i4],by rw[i4];exact o5,((hz.sl QC.elem).mono QC.mono (a1u fun k _ D=>a0f D)).qv fun q hq=>Nat.le_trans (l2 q hq) (by decide)⟩ i4 l2);have a0:=hid d4;clear hY t f b0 d4;cases b
   ·have hf:=hid (Y.out w3 y c5 a5 d2 a0.out (fun q hq=>Nat.le_trans (d3 q hq) (by decide)))
    clear c3 Y;go_wp2_with fail
    go_ret2
    exact hf.out
   ·rw[b6S y l]at d2
    clear c3;have l3:ob oo u=false:=hO.not_ob E;obtain⟨fr,hf⟩:=hO.rowsF;have j5:=hid hf;clear hf;go_wp2_with fail
    go_loopw [62] (fun cc wx=>∃q:Nat,cc= .int .i64 q/\q<=j/\OL QC 3 (un X oo) V.heap.size 45 wx I yc (twN y l q)/\a0K (un (un X oo) I) u wx/\ExtX (tbm u) V wx) (fun cc _=>j - (intOf cc).toNat)
    case atStart=>exact⟨0,rfl,Nat.zero_le _,d2,a5,c5⟩
    case round=>
     clear d2 a5 c5;obtain⟨q,rfl,p1,hY,k3,c2⟩:=hrel;by_cases b9:q<j
     ·have c8:q<l.length:=by rw[B.out];exact b9
      have j8:q<(twN y l q).length:=by rw[b0y,a0.out];exact b9
      have h1:=(j5.out q c8).1;have F:=hid (a3.out _ (List.getElem_mem c8));have d5:=hid (L.out _ (List.getElem_mem c8));rw[F.out]at h1;have b8:=(j5.out q c8).2.2.mono QC.mono (a0T (Z:=un (un X oo) I) c2 (fun k _ D=>a0f (C k D)) (fun k D hz=>by simpa[un,hY.ob_lt D]using hz));have i9:Hid ((l.getD q []).getD 0 0=l[q][0]'(by rw[F.out];omega)):=hid (by
       have:0<l[q].length:=by rw[F.out];omega
       simp[List.getD_eq_getElem?_getD,c8,this])
      have T:=hid (b9E y l q);have e0:0<l[q].length:=by rw[F.out];omega
      rw[i9.out]at T;have g7:Hid (hq (l[q][0]'e0)<=2):=hid (d5.out _ (List.getElem_mem e0));obtain⟨⟨aa,ac⟩,j4⟩:∃z,fr q=z:=⟨_,rfl⟩;rw[j4]at h1 b8
      dsimp only at h1 b8
      obtain⟨g1,o1,s1,a1,n1,c1,d1,k1,e1,k0,p5,k4,h6⟩:=b8.rat QC.shaped 0 e0;obtain⟨x,hx⟩:∃x,l[q][0]'e0=x:=⟨_,rfl⟩;rw[hx]at T g7 h6;have o9:Hd aa d:=by have:=b8.hd;rw[F.out]at this;exact this
      have i6:=(c2.cellY h1 (a3k (b7H d0 (by omega) l3)));have R:Ext wr wr.drew:=(ExtX.refl wr).drew;have hZ:HX (un (un X oo) I) wr:=hY.unX (b6.ext c2);have i8:HX (un (un X oo) I) wr.drew:=hZ.ext R;have m8:=mkx QV.mono (h6.qv (Nat.le_trans g7.out (by decide))) R;have j9:Hid (hq (((2:Int):Rat))<=1):=hid (a7o 2 1 (lgI (by omega) (by omega)) (by omega));have m3:Hid (((2:Int):Rat)=2):=hid rfl;have p6:Hid (hq (((2:Int):Rat)*x)<=68719476736):=hid (by
       have:=hq_mul (((2:Int):Rat)) x;have:=j9.out;have:=g7.out;omega)
      have hS:Hid (∀w',Ext wr.drew w'->w'.cell? (adr oo q)=some (.slice aa d ac)/\w'.cell? ⟨g1,o1,none⟩=some (.bool s1)/\w'.cell? ⟨g1,o1+1,none⟩=some (.slice a1 n1 c1)/\w'.cell? ⟨g1,o1+2,none⟩=some (.slice d1 k1 e1)):=hid fun w' h=>⟨(R.trans h).cell i6,k4.out noY w' (R.trans h) rfl⟩;have l9:=hY.ext0 QC.elem R;obtain⟨g,o,hg⟩:∃g o,adr I (q*3)=⟨g,o,none⟩:=⟨_,_,rfl⟩;have n8:Hd I j:=by have:=hY.hd;rw[b0y,a0.out]at this;exact this
      have i1:∀W,(Instr.indexAt 23 (.slice oo j co) (.int .i64 (q:Int))).run Tryz.prog W= .ok (.pointer (some (adr oo q))) W:=a0z a0s oo j co .i64 q d0 b9 rfl;have i2:∀W,(Instr.indexAt 24 (.slice aa d ac) (.int .i64 0)).run Tryz.prog W= .ok (.pointer (some ⟨g1,o1,none⟩)) W:=by rw[<-k0];exact a0m a0B aa d ac .i64 0 o9 (by omega)
      have i3:∀W,(Instr.indexAt 24 (.slice I j yc) (.int .i64 (q:Int))).run Tryz.prog W= .ok (.pointer (some ⟨g,o,none⟩)) W:=by rw[<-hg];exact a0m a0B I j yc .i64 q n8 (by omega)
      have c9:=hid hg;have n3:ob I u=false:=hY.not_ob (a0f E);clear hx j4 h1 b8 i9 i6 k4 h6 hg k0 hY hZ;go_wp2_with fail
      refine a0O 11 (fun w'=>w'.cell? (adr oo q)=some (.slice aa d ac)/\w'.cell? ⟨g1,o1,none⟩=some (.bool s1)/\w'.cell? ⟨g1,o1+1,none⟩=some (.slice a1 n1 c1)/\w'.cell? ⟨g1,o1+2,none⟩=some (.slice d1 k1 e1)) (by kernel_rfl) (by kernel_rfl) (hS.out _ (ExtX.refl _)) (fun b4 a=>?_);refine kt 0 a ?_;refine kt 1 a ?_;refine kt 3 a ?_;refine kt 4 a ?_;refine kt 5 a ?_;refine kt 6 a ?_;refine kt 7 a ?_;refine kt 8 a ?_;refine a0k (i:=2) (o:=⟨_,_,_,_,_,_⟩) (by kernel_rfl) rfl (fun K hK=>?_);go_simp
      ((with_reducible refine(a4V (un (un X oo) I) wr.drew 2 i8 (by decide) (by decide)).mono ?_);rintro ee w6 ⟨t1,u6,rfl,a8⟩;obtain⟨s6,a6,n6,c6,d6,k6,e6,rfl⟩:=a8.shape)
      refine hK.out _ _ (hS.out _ t1) (fun b4=>?_);clear hK K
      (try simp only[Act.put,List.setIfInBounds_toArray,List.set_cons_zero,List.set_cons_succ])
      refine a0k (i:=9) (o:=⟨_,_,_,_,_,_⟩) (by kernel_rfl) rfl (fun K hK=>?_);go_simp
      ((with_reducible refine(b3a (un (un X oo) I) w6 _ _ ((2:Int):Rat) x (i8.ext t1) (a8.qv (Nat.le_trans j9.out (by decide))) (mkx QV.mono m8 t1)).mono ?_);rintro ee w7 ⟨t2,u7,rfl,g9⟩;obtain⟨s7,a7,n7,c7,d7,k7,e7,rfl⟩:=g9.shape)
      refine hK.out _ _ (hS.out _ (t1.trans t2)) (fun b4=>?_);clear hK K
      (try simp only[Act.put,List.setIfInBounds_toArray,List.set_cons_zero,List.set_cons_succ])
      have f9:=t1.trans t2;have b3:=l9.ext0 QC.elem f9;obtain⟨_,v0,v1,v2,_,⟨q0,f0⟩,⟨q1,f1⟩,⟨q2,f2⟩,_⟩:=b3.cell3 q j8 c9.out;rw[m3.out]at g9;have b7:=b3.set3 (P:=Tryz.prog) a7a QC.elem q j8 c9.out (v0:= .bool s7) (v1:= .slice a7 n7 c7) (v2:= .slice d7 k7 e7) (x:=2*x) g9;refine kt 10 a ?_;refine a0v (i:=11) (o:=⟨_,_,_,_,_,_⟩) (by kernel_rfl) rfl (by decide) (by kernel_rfl) (fun K hK=>?_);go_simp
      refine hK.out _ _ ?_;clear hK K;obtain⟨r1,r2⟩:=b7;rw[T.out]at r1;have g8:=(c2.then_ (R.trans f9) (fun _ _ _=>rfl)).own b3 (Nat.le_refl _) r2;have o2:=(k3.ext (R.trans f9)).extY r2 (fun _ D=>a0r D) n3;clear i1 i2 i3 q0 q1 q2 f0 f1 f2;go_wp2_with fail
      go_roundw
      case rel=>exact⟨q+1,by go_num,by omega,r1,o2,g8⟩
      case measure=>simp[intOf];omega
     ·have p2:q=j:=by omega
      have hf:=hid (Y.out wr _ c2 k3 hY (by rw[b0y];exact a0.out) (c1d d3 L.out q));clear Y;go_wp2_with fail
      go_ret2
      exact hf.out
end Go.Proofs.YtidbbddagfnfbaaGreat
