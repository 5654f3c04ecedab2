/- Parts of a proof: each theorem states what it proves, and its conditions. -/
import Derived.Test.YtgbbpgflopajaaaGreatSpQ
import Derived.WalkKit
import Derived.ProofKit
import Derived.OpenShut
import Derived.ShutString
import Derived.ChangeOld
import Derived.Below
import Derived.Deep.Slices
import Derived.Deep.Fields
import Derived.ChangeSame
import Derived.Test.YtgbbpgflopajaaaGreatRows
import Derived.JoinedOf
set_option maxRecDepth 100000
set_option maxHeartbeats 3200000
namespace Go.Lin
open Go.Lim Go.Rep
theorem b9q{x y:Rat}(h:x<=y):(x - y).num.sign<=0:=by
 have b:x - y<=0:=by grind
 rcases Int.lt_trichotomy (x - y).num 0 with a|a|a
 ·rw[Int.sign_eq_neg_one_of_neg a];decide
 ·rw[a];decide
 ·have c:0<=x - y:=Rat.num_nonneg.1 (by omega)
  rw[Rat.le_antisymm b c]at a;exact absurd a (by decide)
theorem b4B{a b:Rat}(c:0<=a)(d:0<=b):0<=a/b:=by
 rw[Rat.div_def];refine Rat.mul_nonneg c ?_;rcases Rat.le_iff_lt_or_eq.1 d with h|h
 ·exact Rat.le_of_lt (Rat.inv_pos.2 h)
 ·rw[<-h,Rat.inv_zero];exact Rat.le_refl
theorem b7y(k:Nat):(0:Rat)<=((k:Int):Rat):=Rat.intCast_nonneg.2 (Int.natCast_nonneg k)
noncomputable def b6H(x:Mat)(y:List Rat)(n c:Nat):Rat:=1 - a6j x y n (upL c)/(((n - c:Nat):Int):Rat)/(b4i y n/(((n - 1:Nat):Int):Rat))
theorem c0R(x:Mat)(y:List Rat)(n c:Nat):b6H x y n c<=1:=by
 have a:=b4B (b4B (b4t x y n (upL c)) (b7y (n - c))) (b4B (show 0<=b4i y n from b5E n _) (b7y (n - 1)));unfold b6H;grind
theorem b7z{k:Nat}(h:k<=8):hq (((k:Int)):Rat)<=1:=by
 have:k=0\/k=1\/k=2\/k=3\/k=4\/k=5\/k=6\/k=7\/k=8:=by omega
 rcases this with rfl|rfl|rfl|rfl|rfl|rfl|rfl|rfl|rfl<;>decide+kernel
theorem c0S{x:Mat}{y:List Rat}{n c:Nat}(l:n<=8)(m:hq (a6j x y n (upL c))<=600000000)(hd:hq (b4i y n)<=153700000):hq (b6H x y n c)<=1000000000/\hq (b6H x y n c - 1)<=1100000000:=by
 have b:=hq_div (a6j x y n (upL c)) (((n - c:Nat):Int):Rat);have d:=hq_div (b4i y n) (((n - 1:Nat):Int):Rat);have e:=hq_div (a6j x y n (upL c)/(((n - c:Nat):Int):Rat)) (b4i y n/(((n - 1:Nat):Int):Rat));have f:=b7z (k:=n - c) (by omega);have g:=b7z (k:=n - 1) (by omega);have h:=a6a 1 (a6j x y n (upL c)/(((n - c:Nat):Int):Rat)/(b4i y n/(((n - 1:Nat):Int):Rat)));have i:=a6a (b6H x y n c) 1;have j:hq (1:Rat)<=1:=by decide+kernel
 have a:hq (b6H x y n c)<=1000000000:=by unfold b6H;omega
 exact⟨a,by omega⟩
theorem b6I{x:Mat}{y:List Rat}{n c i:Nat}(d:Shp n c x)(e:y.length=n)(a:c<=4)(b:(a0J x c).2.length=c)(hi:i<n)(f:fn (a3n x n c) i≠1):fn y i - a1Z (x.getD i []) (a0S (a3A x i) (a3A y i) (n - 1) c)=a2I (a2q x y (a0S x y n c)) (a3n x n c) i:=by
 obtain⟨m,rfl⟩:∃m,n=m+1:=⟨n - 1,by omega⟩;have h:=b4m d e a b (i:=i) (by omega);unfold a2I;rw[<-h,Nat.add_sub_cancel,Rat.mul_div_cancel (by grind)]
end Go.Lin
namespace Go.Proofs.YtgbbpgflopajaaaGreat
open Go.RowKit Go.Rep Go.Lim Go.Lin
theorem b6J{h:Mem}{u:Value}{F:Go.Lin.Fit}(H:b1W h u F):∃(r:Int) (v:Option Addr) (w t:Nat) (i:Option Addr) (f g:Nat) (q:Option Addr) (p o:Nat) (s:Bool) (a:Option Addr) (n c:Nat) (d:Option Addr) (k e:Nat) (lo:Option Addr) (m l:Nat),u= .agg #[.int .i64 r, .slice v w t, .slice i f g, .slice q p o, .bool s, .slice a n c, .slice d k e, .slice lo m l]/\F.coef.length=f/\RC h (.slice i f g) F.coef:=by
 obtain⟨v,t,i,f,g,q,p,o,s,a,n,c,d,k,e,lo,m,l,rfl,_,_,j,_⟩:=H;refine⟨_,_,_,_,_,_,_,_,_,_,_,_,_,_,_,_,_,_,_,_,rfl,?_,j⟩;obtain⟨_,_,b,_⟩:=j;simp only[Value.slice.injEq]at b;exact b.2.1.symm
theorem c0T{a:Nat}{w b c:World}(h:w.heap.size=a)(e:Ext w b)(d:ExtX (tbm a) b c):Ext w c:=e.then_ d fun i hi _=>a6l (by omega)
theorem b4C(lo:Option Addr)(l:List Int)(cl:Nat)(w:World)(hl:Sl (a0u .i64) 1 w.cell? lo l)(hcl:l.length<=cl)(hlb:l.length<=9223372036854775807):Calls Tryz.prog 7 #[.slice lo l.length cl] w (b2N w true):=by
 go_enter Tryz.func7,Tryz.ntmps7
 go_wp2_with fail
 refine(b6l lo l cl w hl hcl hlb).mono ?_;rintro e w1 ⟨rfl,hE1,ht1,hsz1⟩;obtain⟨tb,htb⟩:∃tb,w.heap.size=tb:=⟨_,rfl⟩;have hX1:HX (tbm tb) w1:=fun k hk=>by
  have:k=tb:=by simpa[tbm]using hk
  omega
 have hfin:=hid (fun w2 (h:ExtX (tbm tb) w1 w2)=>c0T htb hE1 h);rw[htb]at ht1 |-;obtain⟨X,hX⟩:∃X,tbm tb=X:=⟨_,rfl⟩;rw[hX]at ht1 hX1;clear hE1 hsz1 htb hl;go_wp2_with fail
 refine(b0u X tb 6 2 w1 ht1 hX1 (by decide) (by decide) (by decide) (by decide)).mono ?_;rintro e w2 ⟨hE2,ht2,vx,vy,x,y,c,rfl,hx,hy,hn1,hn6,hc1,hc2,hrow,hyl,hxB,hyB⟩;rw[hX]at hE2 hfin;have hX2:=hX1.ext hE2;have hsh:Shp x.length c x:=⟨rfl,hrow⟩;have hcol:colsL x=c:=by rw[a2d (by omega)];exact hrow _ (List.getElem_mem _)
 have hls:a6x x y=true:=a2f.2 ⟨b1a hsh (by omega) hc1 (by omega),hn1,by omega,by omega,hyl⟩;have hxB4:BM 4 x:=fun r hr q hq=>Nat.le_trans (hxB r hr q hq) (by decide);have hnB:4<=510/\x.length*(2*4+1)<=6540:=⟨by decide,by omega⟩;have hev:=hid fun w' so sc (h:Ext w2 w') (hs:Sl (a0u .i64) 1 w'.cell? so (upL c))=>b9h X w' vx vy x y x.length c 4 so sc (hX2.ext h) (mkx MV.mono hx h) (mkx RV.mono hy h) hs (b4r.2 hls) hsh (by omega) hc1 (by omega) hxB4 hyB (by decide) hnB;have hrb:=b0r hsh hyl (by omega) hxB4 hyB (by decide) hnB (S:=upL c) (fun v hv=>a8u hv) (by rw[a2r];omega);have hdb:=(b4j hyl (by omega) hyB (by decide)).2.2.2.2 x.length (Nat.le_refl _);have hadj:=hid (c0S (x:=x) (y:=y) (n:=x.length) (c:=c) (by omega) hrb hdb);have hadj2:=hid (b9q (c0R x y x.length c));have hpb:=hid (b7t (r:=a2q x y (a0S x y x.length c)) (l:=a3n x x.length c) (n:=x.length) (by rw[a2P hyl]) (by rw[a4s]) (by omega) (a7b hsh hxB4 hyB (a5S (a5v hxB4 (by decide)) hyB (by omega) (by omega) hnB) (by decide) (by omega) hnB) (b7h hsh hxB4 (by omega) (by omega) (by decide) hnB));have hpi:=hid fun(hp:(a0J x c).2.length=c) i (hi:i<x.length) (hlv:fn (a3n x x.length c) i≠1)=>b6I hsh hyl (by omega) hp hi hlv;have hdel:=hid fun i (hi:i<x.length) (h2:2<=x.length)=>(by
  have hs':Shp (x.length - 1+1) c x:=by rw[show x.length - 1+1=x.length by omega];exact hsh
  have hd:=b1y hs' (i:=i) (by omega);have hyd:(a3A y i).length=x.length - 1:=by rw[a8v (by omega)];omega
  have hxd:(a3A x i).length=x.length - 1:=hd.1;refine⟨hd,a2f.2 ⟨b1a hd (by omega) hc1 (by omega),by omega,by omega,by rw[a8i hd (by omega)];omega,by omega⟩,a8i hd (by omega),fun r hr=>?_,fun q hq=>?_⟩
  ·unfold a3A at hr
   rcases List.mem_append.1 hr with h|h
   ·exact hxB4 r (List.mem_of_mem_take h)
   ·exact hxB4 r (List.mem_of_mem_drop h)
  ·unfold a3A at hq
   rcases List.mem_append.1 hq with h|h
   ·exact hyB q (List.mem_of_mem_take h)
   ·exact hyB q (List.mem_of_mem_drop h):Shp (x.length - 1) c (a3A x i)/\a6x (a3A x i) (a3A y i)=true/\colsL (a3A x i)=c/\BM 4 (a3A x i)/\BR 4 (a3A y i))
 obtain⟨ua,uc,rfl,huc,hus⟩:=hx;obtain⟨va,vc,rfl,hvc,hvs⟩:=hy;obtain⟨a0,c0,hX0,hc0,hcl0,hq0⟩:=hus.row 0 (by omega);have hhu:=hus.hd;have hhv:=hvs.hd;rw[hrow (x[0]'(by omega)) (List.getElem_mem _)]at hc0;have hk0:=hid (fun w' (h:Ext w2 w')=>hc0.out noY w' h rfl);have hrow':=hid hrow;have hxB':=hid hxB;have hyl':=hid hyl;rw[hyl]at hev hvc hhv |-;obtain⟨n,hn⟩:∃n,x.length=n:=⟨_,rfl⟩;have hn':=hid hn;rw[hn]at hev hadj hadj2 hpb hpi hdel huc hhu hvc hhv hn1 hn6 |-;have hk02:=hk0.out w2 (ExtX.refl _);have hEv0:=hid hE2;clear hX hq0 hrow hyl hls hcol hsh hxB hyB hxB4 hnB hrb hdb ht1 ht2 hX1 hcl0 hn hX0 hc0 hE2;go_wp2_with (with_reducible refine a0s a0p (by omega) (by assumption) ?_)
 clear hk02;go_loopw [6,28] (fun o k wr=>∃(i:Nat) (oo:Option Addr) (co:Nat) (l:List Int),k= .int .i64 i/\o= .slice oo l.length co/\i<=c/\Hid (l=upL i)/\l.length=i/\OL (a0u .i64) 1 X w2.heap.size 3 wr oo co l/\Ext w2 wr) (fun _ k _=>c - (intOf k).toNat)
 case atStart=>exact⟨0,none,0,[],rfl,rfl,Nat.zero_le _,hid rfl,rfl,OL.nil _ _ _ _ _ _,ExtX.refl _⟩
 case round=>
  obtain⟨i,oo,co,l,rfl,rfl,hi,hl2,hlen,hO,hE⟩:=hrel;have hXr:HX X wr:=hX2.ext hE;have hbase:=hE.size;by_cases hlt:i<c
  ·have hl3:Hid (l++[(i:Int)]=upL (i+1)):=hid (by rw[hl2.out,b1w])
   have hlen':=hid hlen;have hll:l.length<=1000000:=by omega
   clear hlen;go_wp2_with (at_builtin;refine a2S a2J rfl (a0u.elem .i64) hbase hXr rfl rfl hO (.int .i64 i) (i:Int) rfl rfl (by omega) (by omega) ?_;intro oo2 co2 w3 hO3 hE4 hor)
   have hE5:=hE.own hO (Nat.le_refl _) hE4;have hl4:(l++[(i:Int)]).length=i+1:=by simp[hlen'.out]
   go_roundw
   case rel=>exact⟨i+1,oo2,co2,l++[(i:Int)],by go_num,by rw[List.length_append];rfl,by omega,hl3,hl4,hO3,hE5⟩
   case measure=>simp[intOf];omega
  ·obtain rfl:c=i:=by omega
   have hsl:=(hO.sl (a0u.elem .i64)).mono (a0u.mono _) (b4I X wr);rw[hl2.out]at hsl;rw[hlen];have hcall:=hev.out wr oo co hE hsl;clear hsl hl2 hlen hO;go_wp2_with fail
   refine hcall.mono ?_;rintro e w4 ⟨hE4,hor⟩;clear hcall;have hE24:=hE.trans hE4;have hX4:=hX2.ext hE24;have bx:=Bx.new w4 crZ 78;rcases hor with⟨vs,hvs1,hvs2,rfl⟩|⟨hcn,hrk,hD0,hlv,ho,hk,hcc,s1,a1,n1,c1,d1,k1,e1,s2,a2,n2,c2,d2,k2,e2,s3,a3,n3,c3,d3,k3,e3,s4,a4,n4,c4,d4,k4,e4,rfl,hqA,hqP⟩
   ·go_wp2_with (first|((with_reducible show wpList _ _ _ (⟨_, .store 78 _ _,_,_,_,_⟩::_) _ _);refine a0a a2G rfl rfl bx rfl hvs1 hvs2 ?_;intro w5 x1 y1;have hE5:Ext w4 w5:=ExtX.box ((ExtX.refl w4).alloc _) y1 (Nat.le_refl _))|(go_at_call 47;refine(a7j w5).mono ?_;rintro ee w6 ⟨hE6,rfl⟩))
    go_ret
    exact⟨hfin.out w6 (hEv0.out.then_ (hE24.trans (hE5.trans hE6)) (fun _ _ _=>rfl)),rfl⟩
   ·go_upto_region 12 with(first|((with_reducible show wpList _ _ _ (⟨_, .store 78 _ _,_,_,_,_⟩::_) _ _);refine a0a a2G rfl rfl bx rfl rfl a5E ?_;intro w5 x1 y1;have hE5:Ext w4 w5:=ExtX.box ((ExtX.refl w4).alloc _) y1 (Nat.le_refl _)))
    obtain⟨g8,hg8⟩:∃g,w4.heap.size=g:=⟨_,rfl⟩;rw[hg8]at x1;rw[hg8];have hE25:=hE24.trans hE5;have hX5:=hX2.ext hE25;have qA5:=mkx QC.mono hqA hE5;have qP5:=mkx QC.mono hqP hE5;clear bx y1 hg8 hev hqA hqP hX4 hE5 hE4 hE hE24;rw[show(1:Rat) - a6j x y n (upL c)/(((n - c:Nat):Int):Rat)/(b4i y n/(((n - 1:Nat):Int):Rat))=b6H x y n c from rfl]at qA5;have hpi':=hid fun j (hj:j<n)=>hpi.out hrk j hj (hlv j hj);obtain⟨E,hE⟩:∃E,a2q x y (a0S x y n c)=E:=⟨_,rfl⟩;obtain⟨L,hL⟩:∃L,a3n x n c=L:=⟨_,rfl⟩;obtain⟨A,hA⟩:∃A,b6H x y n c=A:=⟨_,rfl⟩;rw[hE,hL]at hpb qP5 hpi';rw[hA]at hadj hadj2 qA5;have hyl:=hyl'.out;rw[hn'.out]at hyl;have hyl2:=hid hyl;obtain⟨w6,hw6,hE6,b6,hz6⟩:=a0R w5 #[.bool false, .slice none 0 0, .slice none 0 0] 38;obtain⟨g10,hg10⟩:∃g,w5.heap.size=g:=⟨_,rfl⟩;have hgl:w2.heap.size<=g10:=by rw[<-hg10];exact hE25.size
    have hgl5:w5.heap.size<=g10:=by omega
    rw[hg10]at b6;have hX6:=a7i hX5 hE6 b6.lt;obtain⟨Xg,hXg⟩:∃Xg,un X (some ⟨g10,0,none⟩)=Xg:=⟨_,rfl⟩;rw[hXg]at hX6;have hup:Hid (∀wr,Ext w2 wr->Le (mk X w2) (mk Xg wr)):=hid fun wr h=>by rw[<-hXg];exact a0I h hgl
    have hup5:Hid (∀wr,Ext w5 wr->Le (mk X w5) (mk Xg wr)):=hid fun wr h=>by rw[<-hXg];exact a0I h hgl5
    have hgp:Hid (∀k,ob (some ⟨g10,0,none⟩) k=true->Xg k=true):=hid fun k hk=>by rw[<-hXg];exact a0r hk
    have hE26:=hE25.trans hE6;have x16:=x1.ext0 hE6;have h0:QC (mk Xg w6) (.agg #[.bool false, .slice none 0 0, .slice none 0 0]) (sm 0 fun i=>a2I E L i*a2I E L i):=QC.zero _;clear hpi hE hL hA hlv hD0 hrk hk0 hz6 hXg hyl;go_wp2_with fail
    clear hg10 hw6;go_loopw [52] (fun k wr=>∃(i:Nat) (s:Bool) (a:Option Addr) (n' c':Nat) (d:Option Addr) (kk e:Nat),k= .int .i64 i/\i<=n/\Bx wr g10 #[.bool s, .slice a n' c', .slice d kk e] 38/\QC (mk Xg wr) (.agg #[.bool s, .slice a n' c', .slice d kk e]) (sm i fun i=>a2I E L i*a2I E L i)/\HX Xg wr/\Ext w5 wr) (fun k _=>n - (intOf k).toNat)
    case atStart=>exact⟨0,_,_,_,_,_,_,_,rfl,Nat.zero_le _,b6,h0,hX6,hE6⟩
    case round=>
     obtain⟨j,s,a,n',c',d,kk,e,rfl,hj,bg,hqp,hXr,hEr⟩:=hrel;have hE2r:=hE25.trans hEr;by_cases hlt:j<n
     ·obtain⟨hd1,hd2,hd3,hd4,hd5⟩:=hdel.out j hlt (by omega)
      have hjx:j<x.length:=by rw[hn'.out];exact hlt
      have hjy:j<y.length:=by rw[hyl2.out];exact hlt
      have hur:=hid (hus.mono RV.mono (hup.out wr hE2r));have hvr:=hid (hvs.mono QV.mono (hup.out wr hE2r));have htx:Hid ((x.take j).length=j):=hid (by rw[List.length_take];omega);have hdx:Hid ((x.drop (j+1)).length=n - (j+1)):=hid (by rw[List.length_drop,hn'.out]);have hty:Hid ((y.take j).length=j):=hid (by rw[List.length_take];omega);have hdy:Hid ((y.drop (j+1)).length=n - (j+1)):=hid (by rw[List.length_drop,hyl2.out]);have sx1:=hid (hur.out.take j);have sy1:=hid (hvr.out.take j);have sx2:Hid (Sl RV 1 (mk Xg wr) (a1J ua (j+1) uc 1) (x.drop (j+1))):=hid (by
       have:=hur.out.sub (j+1) x.length uc (by omega) (by rw[hn'.out];exact huc) (Nat.le_refl _);rwa[List.take_length]at this)
      have sy2:Hid (Sl QV 3 (mk Xg wr) (a1J va (j+1) vc 3) (y.drop (j+1))):=hid (by
       have:=hvr.out.sub (j+1) y.length vc (by omega) (by rw[hyl2.out];exact hvc) (Nat.le_refl _);rwa[List.take_length]at this)
      have ew:IntKind.i64.wrap ((j:Int)+1)=(j:Int)+1:=IntWalk.i64_in _ (by omega);have f1:∀W,(Instr.sliceAt 53 (.slice ua n uc) none (some (.int .i64 (j:Int))) none).run Tryz.prog W= .ok (.slice ua j uc) W:=a4m a0p n uc .i64 j (by omega);have f2:∀W,(Instr.sliceAt 53 (.slice ua n uc) (some (.int .i64 ((j:Int)+1))) none none).run Tryz.prog W= .ok (.slice (a1J ua (j+1) uc 1) (n - (j+1)) (uc - (j+1))) W:=a2V a0p n uc .i64 (j+1) (by omega) huc;have f3:∀W,(Instr.sliceAt 25 (.slice va n vc) none (some (.int .i64 (j:Int))) none).run Tryz.prog W= .ok (.slice va j vc) W:=a4m a0w n vc .i64 j (by omega);have f4:∀W,(Instr.sliceAt 25 (.slice va n vc) (some (.int .i64 ((j:Int)+1))) none none).run Tryz.prog W= .ok (.slice (a1J va (j+1) vc 3) (n - (j+1)) (vc - (j+1))) W:=a2V a0w n vc .i64 (j+1) (by omega) hvc;have hsum:Hid (j+(n - (j+1))=n - 1):=hid (by omega);obtain⟨ax,hax⟩:∃ax,a1J ua (j+1) uc 1=ax:=⟨_,rfl⟩;obtain⟨ay,hay⟩:∃ay,a1J va (j+1) vc 3=ay:=⟨_,rfl⟩;rw[hax]at sx2 f2;rw[hay]at sy2 f4;have hdn:Hid (n - (j+1)<=8/\j<=8):=hid (by omega);obtain⟨nj,hnj⟩:∃nj,n - (j+1)=nj:=⟨_,rfl⟩;have hxd:Hid (x.take j++x.drop (j+1)=a3A x j):=hid rfl;have hyd:Hid (y.take j++y.drop (j+1)=a3A y j):=hid rfl;obtain⟨x1l,hx1l⟩:∃t,x.take j=t:=⟨_,rfl⟩;obtain⟨x2l,hx2l⟩:∃t,x.drop (j+1)=t:=⟨_,rfl⟩;obtain⟨y1l,hy1l⟩:∃t,y.take j=t:=⟨_,rfl⟩;obtain⟨y2l,hy2l⟩:∃t,y.drop (j+1)=t:=⟨_,rfl⟩;rw[hnj]at hdx hdy hsum hdn f2 f4;rw[hx1l]at htx sx1 hxd;rw[hx2l]at hdx sx2 hxd;rw[hy1l]at hty sy1 hyd;rw[hy2l]at hdy sy2 hyd;have hle8:nj<=8/\j<=8:=hdn.out;clear hax hay hnj hx1l hx2l hy1l hy2l;have hD:Ext wr wr.drew:=(ExtX.refl wr).drew;go_upto_region 16 with fail
      refine a0z 19 (fun _=>True) (by kernel_rfl) (by kernel_rfl) trivial (fun hHeld hOnce=>?_);obtain⟨W3,hW3⟩:∃W3,wr.drew=W3:=⟨_,rfl⟩;rw[hW3]at hD |-;clear hW3;have hX3:HX Xg W3:=hXr.ext hD;have sx1d:=hid (sx1.out.mono RV.mono (a0m hD));have sx2d:=hid (sx2.out.mono RV.mono (a0m hD));have sy1d:=hid (sy1.out.mono QV.mono (a0m hD));have sy2d:=hid (sy2.out.mono QV.mono (a0m hD));refine kt 0 hOnce ?_;refine kt 1 hOnce ?_;refine kt 2 hOnce ?_;refine kt 4 hOnce ?_;refine kt 5 hOnce ?_;refine kt 6 hOnce ?_;refine kt 7 hOnce ?_;refine kt 9 hOnce ?_;refine kt 10 hOnce ?_;refine kt 11 hOnce ?_;refine kt 13 hOnce ?_;refine kt 14 hOnce ?_;refine kt 15 hOnce ?_;refine kt 16 hOnce ?_;refine ks 3 (fun K hK=>?_)
      (refine a2A (l:=([]:Mat)) (R:=RV) (X:=Xg) (base:=W3.heap.size) rfl rfl a0p rfl RV.elem (Nat.le_refl _) hX3 x1l 0 j rfl htx.out rfl rfl (OL.nil _ _ _ _ _ _) (sx1d.out.old RV.mono (ExtX.refl W3) (fun _ _=>rfl)) (by omega) (by omega) ?_;intro uo uq wa hOa hEa hora;rw[Nat.zero_add];rw[List.nil_append]at hOa)
      refine kcn hK trivial (fun hHeld=>?_);clear hK K;have hEa':Ext W3 wa:=(ExtX.refl W3).own (OL.nil RV 1 Xg W3.heap.size 25 W3) (Nat.le_refl _) hEa;refine ks 8 (fun K hK=>?_)
      (refine a2A (l:=x1l) (R:=RV) (X:=Xg) (base:=W3.heap.size) rfl rfl a0p rfl RV.elem hEa'.size (hX3.ext hEa') x2l j nj htx.out hdx.out rfl rfl hOa (sx2d.out.old RV.mono hEa' (fun _ hk=>hOa.ob_lt hk)) (by omega) (by omega) ?_;intro uo2 uq2 wb hOb hEb horb;rw[hsum.out];rw[hxd.out]at hOb)
      refine kcn hK trivial (fun hHeld=>?_);clear hK K;have hEb':Ext W3 wb:=hEa'.own hOa (Nat.le_refl _) hEb;have hXb:=hX3.ext hEb';refine ks 12 (fun K hK=>?_)
      (refine a2A (l:=([]:List Rat)) (R:=QV) (X:=Xg) (base:=wb.heap.size) rfl rfl a0w rfl QV.elem (Nat.le_refl _) hXb y1l 0 j rfl hty.out rfl rfl (OL.nil _ _ _ _ _ _) (sy1d.out.old QV.mono hEb' (fun _ _=>rfl)) (by omega) (by omega) ?_;intro vo vq wc hOc hEc horc;rw[Nat.zero_add];rw[List.nil_append]at hOc)
      refine kcn hK trivial (fun hHeld=>?_);clear hK K;have hEc':Ext wb wc:=(ExtX.refl wb).own (OL.nil QV 3 Xg wb.heap.size 38 wb) (Nat.le_refl _) hEc;refine ks 17 (fun K hK=>?_)
      (refine a2A (l:=y1l) (R:=QV) (X:=Xg) (base:=wb.heap.size) rfl rfl a0w rfl QV.elem hEc'.size (hXb.ext hEc') y2l j nj hty.out hdy.out rfl rfl hOc (sy2d.out.old QV.mono (hEb'.trans hEc') (fun k hk=>hOc.ob_lt (Nat.lt_of_lt_of_le hk hEb'.size))) (by omega) (by omega) ?_;intro vo2 vq2 wd hOd hEd horc2;rw[hsum.out];rw[hyd.out]at hOd)
      refine kcn hK trivial (fun hHeld=>?_);clear hK K;have hEd':Ext wb wd:=hEc'.own hOc (Nat.le_refl _) hEd;refine kt 18 hOnce ?_;refine kl 19 (fun K hK=>?_);go_simp
      refine hK.out _ _ ?_;clear hK K;have hErd:Ext wr wd:=hD.trans (hEb'.trans hEd');have hmu:MV (mk Xg wd) (.slice uo2 (n - 1) uq2) (a3A x j):=⟨uo2,uq2,by rw[hd1.1],hOb.lenCap,(hOb.sl RV.elem).mono RV.mono (a0m hEd')⟩;have hmv:RV (mk Xg wd) (.slice vo2 (n - 1) vq2) (a3A y j):=by
       have hlc:=hOd.lenCap;have hyn:(a3A y j).length=n - 1:=by rw[a8v hjy,hyl2.out]
       exact⟨vo2,vq2,by rw[hyn],hlc,hOd.sl QV.elem⟩
      clear hOa hOb hOc hOd hEa hEb hEc hEd hora horb horc horc2 hEa' hEb' hEc' hEd' f1 f2 f3 f4 ew sx1 sx2 sy1 sy2 sx1d sx2d sy1d sy2d htx hdx hty hdy hsum hdn hxd hyd hX3 hXb hHeld hle8;have hnB':Hid (4<=510/\(n - 1)*(2*4+1)<=6540):=hid ⟨by decide,by omega⟩;have hXd:=hXr.ext hErd;have hfit:=b9p Xg wd _ _ (a3A x j) (a3A y j) (n - 1) c 4 hXd hmu hmv hd2 hd1.1 hd3 (by omega) (by omega) hd4 hd5 (by decide) hnB'.out;have hcb:=hid (a5S (n:=n - 1) (c:=c) (a5v hd4 (by decide)) hd5 (by omega) (by omega) hnB'.out);have hcl:=hid (a2Z (a3A x j) (a3A y j) (n - 1) c);have hzv:=hid (hpi'.out j hlt);obtain⟨b,hb⟩:∃b,a0S (a3A x j) (a3A y j) (n - 1) c=b:=⟨_,rfl⟩;rw[hb]at hcb hcl hzv;obtain⟨F,hF⟩:∃F,b0o (a3A x j) (a3A y j) (n - 1) c=F:=⟨_,rfl⟩;rw[hF]at hfit;have hFc:Hid (F.coef=b):=hid (by rw[<-hF];exact hb);clear hF hb hmu hmv hd1 hd2 hd3 hd4 hd5 hnB';go_upto_region 20 with(first
       |(go_at_call 48;refine hfit.mono ?_;rintro ee w8 ⟨t8,fv,rfl,hfv⟩;obtain⟨fr,fu,fl,fuc,fc,fcl,fcc,fe,fel,fec,fs,fa,fn',fc',fd,fk,fe',fo,fol,foc,rfl,hfcc,hfcs⟩:=b6J hfv;rw[hFc.out]at hfcc hfcs;clear hfv;have bxF:=Bx.new w8 #[.int .i64 0, .slice none 0 0, .slice none 0 0, .slice none 0 0, .bool false, .slice none 0 0, .slice none 0 0, .slice none 0 0] 83)
       |((with_reducible show wpList _ _ _ (⟨_, .store 83 _ _,_,_,_,_⟩::_) _ _);refine a0a a4n rfl rfl bxF rfl rfl (b6r _ _ _ _ _ _ _ _ _ _ _ _ _ _ _ _ _ _ _ _) ?_;intro w9 xF yF;have hE89:Ext w8 w9:=ExtX.box ((ExtX.refl w8).alloc _) yF (Nat.le_refl _)))
      obtain⟨gf,hgf⟩:∃g,w8.heap.size=g:=⟨_,rfl⟩;rw[hgf]at xF;rw[hgf];obtain rfl:c=fcl:=by rw[<-hfcc];exact hcl.out.symm
      have hEr9:=hErd.trans (t8.trans hE89);have hX9:=hXr.ext hEr9;have hc9:=hid ((mkx RC.mono hfcs hE89).rv (fun q hq=>Nat.le_trans (hcb.out q hq) (by decide)));have hvr9:=hvr.out.mono QV.mono (a0m hEr9);have hur9:=hur.out.mono RV.mono (a0m hEr9);obtain⟨gy,oy,sy,ay,ny,cy,dy,ky,ey,hgy,hXy,hcy,hqy⟩:=hvr9.rat QV.shaped j hjy;obtain⟨ar,cr,hXr2,hcr,hclr,hqr⟩:=hur9.row j hjx;have hrl:x[j].length=c:=hrow'.out _ (List.getElem_mem _);have hrB:=hid (hxB'.out _ (List.getElem_mem hjx));have hgx:x.getD j []=x[j]:=by simp[List.getD_eq_getElem?_getD,hjx]
      have hfy:fn y j=y[j]:=by simp[fn,List.getD_eq_getElem?_getD,hjy]
      rw[hgx,hfy]at hzv;rw[hrl]at hcr hclr;obtain⟨r,hr⟩:∃r,x[j]=r:=⟨_,rfl⟩;obtain⟨yj,hyj⟩:∃q,y[j]=q:=⟨_,rfl⟩;rw[hr]at hrl hqr hrB hzv;rw[hyj]at hqy hzv;have hbl:Hid (b.length=r.length):=hid (by rw[hcl.out,hrl]);have hdb:=hid (a9S (l:=r) (m:=b) hrB.out hcb.out (by decide) (by decide) (by rw[hrl];have:=Nat.mul_le_mul hc2 (Nat.le_refl (2+8500000+1));omega));have hdd:Hid (hq (a1Z r b)<=68719476736):=hid (hdb.out.1 r.length (Nat.le_refl _));have hrl6:r.length<=1000000:=by omega
      have hqx:RV (mk Xg w9) (.slice ar c cr) r:=⟨ar,cr,by rw[hrl],by rw[hrl];exact hclr,hqr⟩;have ia:∀W,(Instr.indexAt 25 (.slice va n vc) (.int .i64 (j:Int))).run Tryz.prog W= .ok (.pointer (some ⟨gy,oy,none⟩)) W:=by rw[<-hgy];exact a0h a0w va n vc .i64 j hhv hlt
      have ib:∀W,(Instr.indexAt 53 (.slice ua n uc) (.int .i64 (j:Int))).run Tryz.prog W= .ok (.pointer (some (adr ua j))) W:=a0x a0p ua n uc .i64 j hhu hlt rfl;have hpb1:=hid (hpb.out.1 j hlt);have hpb2:=hid (hpb.out.2 j hj);have hst:Hid ((sm j fun i=>a2I E L i*a2I E L i)+a2I E L j*a2I E L j=sm (j+1) fun i=>a2I E L i*a2I E L i):=hid rfl;obtain⟨D1,hD1⟩:∃D1,(sm j fun i=>a2I E L i*a2I E L i)=D1:=⟨_,rfl⟩;obtain⟨D2,hD2⟩:∃D2,(sm (j+1) fun i=>a2I E L i*a2I E L i)=D2:=⟨_,rfl⟩;obtain⟨pz,hpz⟩:∃pz,a2I E L j=pz:=⟨_,rfl⟩;rw[hD1]at hqp hst hpb2;rw[hD2,hpz]at hst;rw[hpz]at hpb1 hzv;have hD2':=hid hD2;have bg9:=bg.ext0 hEr9;have hqp9:=mkx QC.mono hqp hEr9;have hEd:Ext w9 w9.drew:=(ExtX.refl w9).drew;have hwS:w9.drew.cell? ⟨gy,oy,none⟩=some (.bool sy)/\w9.drew.cell? ⟨gy,oy+1,none⟩=some (.slice ay ny cy)/\w9.drew.cell? ⟨gy,oy+2,none⟩=some (.slice dy ky ey)/\w9.drew.cell? (adr ua j)=some (.slice ar c cr)/\w9.drew.cell? ⟨gf,2,none⟩=some (.slice fc c fcc):=⟨(hcy.out _ _ hEd rfl).1,(hcy.out _ _ hEd rfl).2.1,(hcy.out _ _ hEd rfl).2.2,hcr.out noY _ hEd rfl,hEd.cell (xF.cell 2 rfl)⟩;clear hD1 hD2 hpz hr hyj hgf yF hur hvr hvr9 hur9 hcy hcr hXy hXr2 hgy hclr hqr hgx hfy hfcc hfcs hX9 bg hqp hfit hrB hcb hcl hFc;go_cut [16]from 81 to 92 (fun bv wx=>∃(g:Nat) (s:Bool) (a:Option Addr) (n' c':Nat) (d:Option Addr) (kk e:Nat),bv= .pointer (some ⟨g,0,none⟩)/\Bx wx g #[.bool s, .slice a n' c', .slice d kk e] 38/\QC (mk Xg wx) (.agg #[.bool s, .slice a n' c', .slice d kk e]) pz/\Ext w9 wx)
      case first=>
       refine a0z 13 (fun w'=>w'.cell? ⟨gy,oy,none⟩=some (.bool sy)/\w'.cell? ⟨gy,oy+1,none⟩=some (.slice ay ny cy)/\w'.cell? ⟨gy,oy+2,none⟩=some (.slice dy ky ey)/\w'.cell? (adr ua j)=some (.slice ar c cr)/\w'.cell? ⟨gf,2,none⟩=some (.slice fc c fcc)) (by kernel_rfl) (by kernel_rfl) hwS (fun hHeld hOnce=>?_);clear hwS;obtain⟨W3,hW3⟩:∃W3,w9.drew=W3:=⟨_,rfl⟩;rw[hW3]at hHeld hEd |-;clear hW3;have hX3:HX Xg W3:=(hXr.ext hEr9).ext hEd;have qx3:=mkx RV.mono hqx hEd;have qc3:=mkx RV.mono hc9.out hEd;have qy3:=mkx QV.mono hqy hEd;refine kt 0 hOnce ?_;refine kt 1 hOnce ?_;refine kt 2 hOnce ?_;refine kt 3 hOnce ?_;refine kt 4 hOnce ?_;refine kt 5 hOnce ?_;refine kt 6 hOnce ?_;refine kt 7 hOnce ?_;refine kt 8 hOnce ?_;refine kt 9 hOnce ?_;refine a0N (i:=10) (j:=12) (oi:=⟨_,_,_,_,_,_⟩) (oj:=⟨_,_,_,_,_,_⟩) (by kernel_rfl) rfl rfl (fun K hK=>?_) (fun K hK=>?_)
       case' refine_1=>
        go_simp
        (go_at_call 50;(with_reducible refine(a7K Xg W3 _ _ r b hX3 (qx3) (qc3) (by omega) hbl.out hdb.out.1 hdb.out.2).mono ?_);rintro ee w24 ⟨t24,u24,rfl,hu24⟩;obtain⟨s24,a24,n24,c24,d24,k24,e24,rfl⟩:=hu24.shape)
        refine kcn hK ⟨t24.cell hHeld.1,t24.cell hHeld.2.1,t24.cell hHeld.2.2.1,t24.cell hHeld.2.2.2.1,t24.cell hHeld.2.2.2.2⟩ (fun hHeld=>?_);clear hK K;have hX24:=HX.ext (w:=W3) hX3 t24;refine a0N (i:=11) (j:=12) (oi:=⟨_,_,_,_,_,_⟩) (oj:=⟨_,_,_,_,_,_⟩) (by kernel_rfl) rfl rfl (fun K hK=>?_) (fun K hK=>?_)
        case' refine_1=>
         go_simp
         (go_at_call 49;(with_reducible refine(b2S Xg w24 _ _ _ _ hX24 (mkx QV.mono qy3 t24) (hu24.qv hdd.out)).mono ?_);rintro ee w25 ⟨t25,u25,rfl,hu25⟩;rw[hzv.out]at hu25;obtain⟨s25,a25,n25,c25,d25,k25,e25,rfl⟩:=hu25.shape)
         refine kcn hK ⟨t25.cell hHeld.1,t25.cell hHeld.2.1,t25.cell hHeld.2.2.1,t25.cell hHeld.2.2.2.1,t25.cell hHeld.2.2.2.2⟩ (fun hHeld=>?_);clear hK K;have bx:=Bx.new w25 #[.bool false, .slice none 0 0, .slice none 0 0] 38;have hal:Ext w25 _:=(ExtX.refl w25).alloc (.cells #[.bool false, .slice none 0 0, .slice none 0 0] 38);refine ks 12 (fun K hK=>?_);go_simp
         skip
         refine kcn hK ⟨hal.cell hHeld.1,hal.cell hHeld.2.1,hal.cell hHeld.2.2.1,hal.cell hHeld.2.2.2.1,hal.cell hHeld.2.2.2.2⟩ (fun hHeld=>?_);clear hK K;refine kl 13 (fun K hK=>?_)
         (refine a0q rfl rfl a0o rfl rfl bx rfl rfl (a1z _ _ _ _ _ _ _) ?_;intro wE xE yE)
         refine hK.out _ _ ?_;clear hK K
         (try simp only[Act.put])
         have hEE:Ext W3 wE:=(t24.trans t25).trans (ExtX.box hal yE (Nat.le_refl _));have qE:=mkx QC.mono hu25 (ExtX.box hal yE (Nat.le_refl _));go_wp2_with fail
         go_meet
         case rel=>exact⟨_,_,_,_,_,_,_,_,rfl,xE,qE,hEd.trans hEE⟩
        case' refine_2=>
         have bx:=Bx.new w24 #[.bool false, .slice none 0 0, .slice none 0 0] 38;obtain⟨W2,hW2,hal2,-,-⟩:=a0R w24 #[.bool false, .slice none 0 0, .slice none 0 0] 38;go_simp
         skip
         refine kcn hK ⟨hal2.cell hHeld.1,hal2.cell hHeld.2.1,hal2.cell hHeld.2.2.1,hal2.cell hHeld.2.2.2.1,hal2.cell hHeld.2.2.2.2⟩ (fun hHeld=>?_);clear hK K;rw[hW2]at bx;have hXu:=a7i hX24 hal2 bx.lt;have qy2:=QV.mono _ _ _ _ (a0I (X:=Xg) hal2 (Nat.le_refl _)) (mkx QV.mono qy3 t24);have qd2:=QV.mono _ _ _ _ (a0I (X:=Xg) hal2 (Nat.le_refl _)) (hu24.qv hdd.out);refine ks 11 (fun K hK=>?_);go_simp
         (go_at_call 49;(with_reducible refine(b2S _ W2 _ _ _ _ hXu (qy2) (qd2)).mono ?_);rintro ee w25 ⟨t25,u25,rfl,hu25⟩;rw[hzv.out]at hu25;obtain⟨s25,a25,n25,c25,d25,k25,e25,rfl⟩:=hu25.shape)
         refine kcn hK ⟨t25.cell hHeld.1,t25.cell hHeld.2.1,t25.cell hHeld.2.2.1,t25.cell hHeld.2.2.2.1,t25.cell hHeld.2.2.2.2⟩ (fun hHeld=>?_);clear hK K;have bx':=bx.ext0 t25;refine kl 13 (fun K hK=>?_)
         (refine a0q rfl rfl a0o rfl rfl bx' rfl rfl (a1z _ _ _ _ _ _ _) ?_;intro wE xE yE)
         refine hK.out _ _ ?_;clear hK K
         (try simp only[Act.put])
         have hEE:Ext W3 wE:=t24.trans (ExtX.box (hal2.trans t25) yE (Nat.le_refl _));have qE:=QC.mono _ _ _ _ (a2c yE (fun k hk=>a0r hk) (fun k hk=>a0i hk)) hu25;go_wp2_with fail
         go_meet
         case rel=>exact⟨_,_,_,_,_,_,_,_,rfl,xE,qE,hEd.trans hEE⟩
       case' refine_2=>
        have bx:=Bx.new W3 #[.bool false, .slice none 0 0, .slice none 0 0] 38;obtain⟨W2,hW2,hal2,-,-⟩:=a0R W3 #[.bool false, .slice none 0 0, .slice none 0 0] 38;go_simp
        skip
        refine kcn hK ⟨hal2.cell hHeld.1,hal2.cell hHeld.2.1,hal2.cell hHeld.2.2.1,hal2.cell hHeld.2.2.2.1,hal2.cell hHeld.2.2.2.2⟩ (fun hHeld=>?_);clear hK K;rw[hW2]at bx;have hXu:=a7i hX3 hal2 bx.lt;have qx2:=RV.mono _ _ _ _ (a0I (X:=Xg) hal2 (Nat.le_refl _)) qx3;have qc2:=RV.mono _ _ _ _ (a0I (X:=Xg) hal2 (Nat.le_refl _)) qc3;have qy2:=QV.mono _ _ _ _ (a0I (X:=Xg) hal2 (Nat.le_refl _)) qy3;refine ks 10 (fun K hK=>?_);go_simp
        (go_at_call 50;(with_reducible refine(a7K _ W2 _ _ r b hXu (qx2) (qc2) (by omega) hbl.out hdb.out.1 hdb.out.2).mono ?_);rintro ee w24 ⟨t24,u24,rfl,hu24⟩;obtain⟨s24,a24,n24,c24,d24,k24,e24,rfl⟩:=hu24.shape)
        refine kcn hK ⟨t24.cell hHeld.1,t24.cell hHeld.2.1,t24.cell hHeld.2.2.1,t24.cell hHeld.2.2.2.1,t24.cell hHeld.2.2.2.2⟩ (fun hHeld=>?_);clear hK K;refine ks 11 (fun K hK=>?_);go_simp
        (go_at_call 49;(with_reducible refine(b2S _ w24 _ _ _ _ (HX.ext (w:=W2) hXu t24) (mkx QV.mono qy2 t24) (hu24.qv hdd.out)).mono ?_);rintro ee w25 ⟨t25,u25,rfl,hu25⟩;rw[hzv.out]at hu25;obtain⟨s25,a25,n25,c25,d25,k25,e25,rfl⟩:=hu25.shape)
        refine kcn hK ⟨t25.cell hHeld.1,t25.cell hHeld.2.1,t25.cell hHeld.2.2.1,t25.cell hHeld.2.2.2.1,t25.cell hHeld.2.2.2.2⟩ (fun hHeld=>?_);clear hK K;have bx':=(bx.ext0 t24).ext0 t25;refine kl 13 (fun K hK=>?_)
        (refine a0q rfl rfl a0o rfl rfl bx' rfl rfl (a1z _ _ _ _ _ _ _) ?_;intro wE xE yE)
        refine hK.out _ _ ?_;clear hK K
        (try simp only[Act.put])
        have hEE:Ext W3 wE:=ExtX.box (hal2.trans (t24.trans t25)) yE (Nat.le_refl _);have qE:=QC.mono _ _ _ _ (a2c yE (fun k hk=>a0r hk) (fun k hk=>a0i hk)) hu25;go_wp2_with fail
        go_meet
        case rel=>exact⟨_,_,_,_,_,_,_,_,rfl,xE,qE,hEd.trans hEE⟩
      case rest=>
       obtain⟨gz,sz,az,nz,cz,dz,kz,ez,rfl,bz,qz,hEc⟩:=hcut;clear hwS hEd ia ib;have hErc:=hEr9.trans hEc;have hXc:=hXr.ext hErc;have bgc:=bg9.ext0 hEc;have qsc:=(mkx QC.mono hqp9 hEc).qv (Nat.le_trans hpb2.out (by decide));have qzc:=qz.qv (Nat.le_trans hpb1.out.1 (by decide));have hbk:Hid (hq (pz*pz)<=68719476736):=hid (Nat.le_trans hpb1.out.2 (by decide));have hEd:Ext wc wc.drew:=(ExtX.refl wc).drew;have hwS:wc.drew.cell? ⟨g10,0,none⟩=some (.bool s)/\wc.drew.cell? ⟨g10,1,none⟩=some (.slice a n' c')/\wc.drew.cell? ⟨g10,2,none⟩=some (.slice d kk e)/\wc.drew.cell? ⟨gz,0,none⟩=some (.bool sz)/\wc.drew.cell? ⟨gz,1,none⟩=some (.slice az nz cz)/\wc.drew.cell? ⟨gz,2,none⟩=some (.slice dz kz ez):=⟨hEd.cell (bgc.cell 0 rfl),hEd.cell (bgc.cell 1 rfl),hEd.cell (bgc.cell 2 rfl),hEd.cell (bz.cell 0 rfl),hEd.cell (bz.cell 1 rfl),hEd.cell (bz.cell 2 rfl)⟩;go_upto_region 21 with fail
       (try simp only[Act.put])
       refine a0z 5 (fun w'=>w'.cell? ⟨g10,0,none⟩=some (.bool s)/\w'.cell? ⟨g10,1,none⟩=some (.slice a n' c')/\w'.cell? ⟨g10,2,none⟩=some (.slice d kk e)/\w'.cell? ⟨gz,0,none⟩=some (.bool sz)/\w'.cell? ⟨gz,1,none⟩=some (.slice az nz cz)/\w'.cell? ⟨gz,2,none⟩=some (.slice dz kz ez)) (by kernel_rfl) (by kernel_rfl) hwS (fun hHeld hOnce=>?_);clear hwS;obtain⟨W4,hW4⟩:∃W4,wc.drew=W4:=⟨_,rfl⟩;rw[hW4]at hHeld hEd |-;clear hW4;have hX4:=hXc.ext hEd;have qz4:=mkx QV.mono qzc hEd;have qs4:=mkx QV.mono qsc hEd;have bg4:=bgc.ext0 hEd;refine kt 0 hOnce ?_;refine kt 1 hOnce ?_;refine kt 2 hOnce ?_;refine ks 3 (fun K hK=>?_);go_simp
       (go_at_call 52;(with_reducible refine(b1I Xg W4 _ _ _ _ hX4 qz4 qz4).mono ?_);rintro ee w31 ⟨t31,u31,rfl,hu31⟩;obtain⟨s31,a31,n31,c31,d31,k31,e31,rfl⟩:=hu31.shape)
       refine kcn hK ⟨t31.cell hHeld.1,t31.cell hHeld.2.1,t31.cell hHeld.2.2.1,t31.cell hHeld.2.2.2.1,t31.cell hHeld.2.2.2.2.1,t31.cell hHeld.2.2.2.2.2⟩ (fun hHeld=>?_);clear hK K;refine ks 4 (fun K hK=>?_);go_simp
       (go_at_call 51;(with_reducible refine(b2R Xg w31 _ _ _ _ (hX4.ext t31) (mkx QV.mono qs4 t31) (hu31.qv hbk.out)).mono ?_);rintro ee w32 ⟨t32,u32,rfl,hu32⟩;obtain⟨s32,a32,n32,c32,d32,k32,e32,rfl⟩:=hu32.shape;rw[hst.out]at hu32)
       refine kcn hK ⟨t32.cell hHeld.1,t32.cell hHeld.2.1,t32.cell hHeld.2.2.1,t32.cell hHeld.2.2.2.1,t32.cell hHeld.2.2.2.2.1,t32.cell hHeld.2.2.2.2.2⟩ (fun hHeld=>?_);clear hK K;have bg5:=(bg4.ext0 t31).ext0 t32;refine kl 5 (fun K hK=>?_)
       (refine a0q rfl rfl a0o rfl rfl bg5 rfl rfl (a1z _ _ _ _ _ _ _) ?_;intro wG xG yG)
       refine hK.out _ _ ?_;clear hK K
       (try simp only[Act.put])
       have hqG:=QC.mono _ _ _ _ (a0v yG hgp.out) hu32;have hXG:=((hX4.ext t31).ext t32).ext yG;have hEG:Ext w5 wG:=ExtX.box (hEr.trans (hErc.trans (hEd.trans (t31.trans t32)))) yG hgl5;rw[<-hD2'.out]at hqG;clear bg5 bg4 hHeld hu31 hu32 qz4 qs4;go_wp2_with fail
       go_roundw
       case rel=>exact⟨j+1,_,_,_,_,_,_,_,by go_num,by omega,xG,hqG,hXG,hEG⟩
       case measure=>simp[intOf];omega
     ·obtain rfl:n=j:=by omega
      have qPg:=QC.mono _ _ _ _ (hup5.out wr hEr) qP5;have qAg:=(QC.mono _ _ _ _ (hup5.out wr hEr) qA5).qv (Nat.le_trans hadj.out.1 (by decide));have hpq:QC (mk Xg wr) (.agg #[.bool s, .slice a n' c', .slice d kk e]) (prS E L n):=hqp;have hPb:hq (prS E L n)<=68719476736:=Nat.le_trans (hpb.out.2 n (Nat.le_refl _)) (by decide);have hsame:=hid fun w' (h:Ext wr w')=>c0Q Xg w' _ _ (prS E L n) (prS E L n) (mkx QC.mono qPg h) (mkx QC.mono hpq h) hPb;simp only[decide_true]at hsame;have hone:=hid fun w' (h:Ext wr w')=>a4H Xg w' 1 (hXr.ext h) (by decide) (by decide);have h1b:hq (((1:Int)):Rat)<=68719476736:=by decide+kernel
      have hcmp:=hid fun w' (h:Ext wr w') u (hu:QC (mk Xg w') u (((1:Int)):Rat))=>b2T Xg w' _ u A _ (hXr.ext h) (mkx QV.mono qAg h) (hu.qv h1b) (Nat.le_trans hadj.out.2 (by decide));obtain⟨sg,hsg⟩:∃sg,(A - (((1:Int)):Rat)).num.sign=sg:=⟨_,rfl⟩;have hsg0:sg<=0:=by rw[<-hsg];exact hadj2.out
      have hsgd:decide (sg<=(0:Int))=true:=decide_eq_true hsg0;rw[hsg]at hcmp;have hS:Hid (∀w',Ext wr w'->w'.cell? ⟨g8,10,none⟩=some (.bool s4)/\w'.cell? ⟨g8,11,none⟩=some (.slice a4 n4 c4)/\w'.cell? ⟨g8,12,none⟩=some (.slice d4 k4 e4)/\w'.cell? ⟨g8,4,none⟩=some (.bool s2)/\w'.cell? ⟨g8,5,none⟩=some (.slice a2 n2 c2)/\w'.cell? ⟨g8,6,none⟩=some (.slice d2 k2 e2)/\w'.cell? ⟨g10,0,none⟩=some (.bool s)/\w'.cell? ⟨g10,1,none⟩=some (.slice a n' c')/\w'.cell? ⟨g10,2,none⟩=some (.slice d kk e)):=hid fun w' h=>by
       have z1:=x1.ext0 (hEr.trans h);have z2:=bg.ext0 h;exact⟨z1.cell 10 rfl,z1.cell 11 rfl,z1.cell 12 rfl,z1.cell 4 rfl,z1.cell 5 rfl,z1.cell 6 rfl,z2.cell 0 rfl,z2.cell 1 rfl,z2.cell 2 rfl⟩
      have hEd:Ext wr wr.drew:=(ExtX.refl wr).drew;clear hsg hadj2 hqp hpq qPg qAg hPb h1b bg x1 x16 qP5 qA5 h0 b6 hX6;go_upto_region 23 with fail
      (try simp only[Act.put])
      refine a0z 14 (fun w'=>w'.cell? ⟨g8,10,none⟩=some (.bool s4)/\w'.cell? ⟨g8,11,none⟩=some (.slice a4 n4 c4)/\w'.cell? ⟨g8,12,none⟩=some (.slice d4 k4 e4)/\w'.cell? ⟨g8,4,none⟩=some (.bool s2)/\w'.cell? ⟨g8,5,none⟩=some (.slice a2 n2 c2)/\w'.cell? ⟨g8,6,none⟩=some (.slice d2 k2 e2)/\w'.cell? ⟨g10,0,none⟩=some (.bool s)/\w'.cell? ⟨g10,1,none⟩=some (.slice a n' c')/\w'.cell? ⟨g10,2,none⟩=some (.slice d kk e)) (by kernel_rfl) (by kernel_rfl) (hS.out _ hEd) (fun hHeld hOnce=>?_);refine kt 0 hOnce ?_;refine kt 1 hOnce ?_;refine kt 2 hOnce ?_;refine ks 3 (fun K hK=>?_);go_simp
      ((with_reducible refine(hsame.out _ hEd).mono ?_);rintro ee wa ⟨ga,rfl⟩)
      refine kcn hK (hS.out _ (hEd.trans ga)) (fun hHeld=>?_);clear hK K;refine kt 4 hOnce ?_;refine kt 5 hOnce ?_;refine kt 6 hOnce ?_;refine ks 7 (fun K hK=>?_);go_simp
      ((with_reducible refine(hone.out wa (hEd.trans ga)).mono ?_);rintro ee wb ⟨gb,ub,rfl,hub⟩;obtain⟨s6,a6,n6,c6,d6,k6,e6,rfl⟩:=hub.shape)
      refine kcn hK (hS.out _ (hEd.trans (ga.trans gb))) (fun hHeld=>?_);clear hK K;refine ks 8 (fun K hK=>?_);go_simp
      ((with_reducible refine(hcmp.out wb (hEd.trans (ga.trans gb)) _ hub).mono ?_);rintro ee wc ⟨gc,rfl⟩)
      refine kcn hK (hS.out _ (hEd.trans (ga.trans (gb.trans gc)))) (fun hHeld=>?_);clear hK K;refine kt 9 hOnce ?_;refine kt 10 hOnce ?_;refine kt 11 hOnce ?_;refine ks 12 (fun K hK=>?_);go_simp
      ((with_reducible refine(a7j wc).mono ?_);rintro ee wd ⟨gd,rfl⟩)
      refine kcn hK (hS.out _ (hEd.trans (ga.trans (gb.trans (gc.trans gd))))) (fun hHeld=>?_);clear hK K;refine kt 13 hOnce ?_;refine kl 14 (fun K hK=>?_);go_simp
      refine hK.out _ _ ?_;clear hK K;have hE9:=hfin.out wd (hEv0.out.then_ (hE25.trans (hEr.trans (hEd.trans (ga.trans (gb.trans (gc.trans gd)))))) (fun _ _ _=>rfl));clear hHeld hS hsame hone hcmp;go_wp2_with fail
      go_ret
      exact⟨hE9,rfl⟩
open Go.ChangeShapes Go.WideShapes Go.ChangeAt Go.Deep
section
variable {H:Type} {enc:TypeId×Value->H} {w:World} {base:Nat} {spare:Nat->Bool} {held:Bool}
theorem a1H{x:Addr}{v:Value}(h:w.cell? (x.add 0)=some v):(∀j,x.add j=adr (some x) j)/\∃b c,x=⟨b,c,none⟩:=by
 have e:=World.cell?_spot h;obtain⟨b,c,d⟩:=x;have a:d=none:=by simpa[Addr.add]using e
 subst a;exact⟨fun j=>by rw[Addr.add_lit];simp[adr],b,c,rfl⟩
end
end Go.Proofs.YtgbbpgflopajaaaGreat
namespace Go.Proofs.YtgbbpgflopajaaaGreat
open Go.ChangeShapes Go.WideShapes Go.ChangeAt Go.RowKit Go.Rep Go.Deep
theorem b9r{n:Int}(h:(Lit.int .i64 n).wf=true): -9223372036854775808<=n/\n<=9223372036854775807:=by
 unfold Lit.wf at h;simpa[IntKind.min,IntKind.max,IntKind.signed,IntKind.bits]using h
section
variable {H:Type} {enc:TypeId×Value->H} {P:Program} {w:World} {base:Nat} {spare:Nat->Bool} {held:Bool}
theorem b9s{g:Nat}{v:Value}{x:DataW H×List MemPlace}(h:DataW.trod enc Tryz.prog w base spare held g 22 [v]=some x):∃(a:Option Addr) (l:List Int) (f:Nat),v= .slice a l.length f/\l.length<=f/\l.length<=9223372036854775807/\Sl (a0u .i64) 1 (mk noY w) a l/\∀x∈l,-9223372036854775808<=x/\x<=9223372036854775807:=by
 rw[a2m];rcases open_ints Tryz.underlying22 Tryz.underlying3 (by kernel_rfl) h with⟨e,_⟩|⟨x,len,c,n,e,_,D,z,hz,_,d,p⟩
 ·refine⟨none,[],0,by simpa using e,by simp,by simp,Sl.nil _ _ _ _,by simp⟩
 ·have B:len<=n.length:=by
   rw[hz];split<;>omega
  have m:(n.take len).length=len:=by simp;omega
  have t:c<=9223372036854775807:=by simpa[maxLen]using z
  refine⟨some x,n.take len,c,by rw[m];simpa using e,by omega,by omega,⟨fun C=>?_,fun i hi=>?_⟩,fun y A=>b9r (p y (List.mem_of_mem_take A))⟩
  ·obtain⟨_,b,q,hx⟩:=a1H (d 0 (by omega))
   exact⟨b,q,by rw[hx]⟩
  ·have k:i<n.length:=by omega
   refine⟨.int .i64 (n.take len)[i],rfl,fun j s=>?_,rfl⟩;have o:j=0:=by simp[Value.cells]at s;exact s
   subst o;have r:=d i k;have u:=(a1H (d 0 (by omega))).1 i;rw[u]at r;simp only[Nat.mul_one,Nat.add_zero,List.getElem_take];rw[r];simp[List.getD_eq_getElem?_getD,k,Value.cells]
end
end Go.Proofs.YtgbbpgflopajaaaGreat
namespace Go.Proofs.YtgbbpgflopajaaaGreat.seat
open Go.RowKit
theorem and_t{a b:Bool}(c:a=true)(d:b=true):(a&&b)=true:=by rw[c,d];rfl
theorem laid:laidOutB Tryz.pinned.checked.prog=true:=by kernel_rfl
theorem maps:mapsRowed Tryz.pinned.checked.prog=true:=by kernel_rfl
theorem stops:(Program.stops Tryz.pinned.checked.prog==[])=true:=by kernel_rfl
theorem knobs:(Program.stopKnobs Tryz.pinned.checked.prog==[])=true:=by kernel_rfl
theorem heard:Program.stopsHeard Tryz.pinned.checked.prog=true:=by kernel_rfl
theorem enter:Program.mayEnter Tryz.pinned.checked.prog=true:=by kernel_rfl
theorem lifts:(Rows.influenceBoundedRow.lifted==Program.liftsFinal Tryz.pinned.checked.prog)=true:=by kernel_rfl
theorem make:(Program.make Tryz.pinned.checked.prog==some Rows.influenceBoundedRow.make)=true:=by kernel_rfl
theorem plain:(Rows.influenceBoundedRow.plainKeys==Program.plainKeys Tryz.pinned.checked.prog)=true:=by kernel_rfl
end Go.Proofs.YtgbbpgflopajaaaGreat.seat
