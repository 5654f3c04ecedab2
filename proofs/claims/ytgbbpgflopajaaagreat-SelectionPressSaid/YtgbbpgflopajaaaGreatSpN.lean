/- Parts of a proof: each theorem states what it proves, and its conditions. -/
import Derived.Test.YtgbbpgflopajaaaGreatSpM
import Derived.IntWalk
import Derived.BigRegion
import Derived.Deep.AppendLies
set_option maxRecDepth 100000
set_option maxHeartbeats 1600000
namespace Go.Proofs.YtgbbpgflopajaaaGreat
open Go.RowKit Go.Rep Go.Lim Go.Lin
theorem b6r(r:Int)(a:Option Addr)(m g:Nat)(b:Option Addr)(n h:Nat)(c:Option Addr)(o i:Nat)(s:Bool)(d:Option Addr)(p j:Nat)(e:Option Addr)(q k:Nat)(f:Option Addr)(t l:Nat):∀v∈(#[Value.int .i64 r, .slice a m g, .slice b n h, .slice c o i, .bool s, .slice d p j, .slice e q k, .slice f t l]:Array Value).toList,v.oneCell'=true:=by
 simp[Value.oneCell']
theorem b9b{x:Mat}{y:List Rat}{n c:Nat}(hs:Shp n c x)(e:y.length=n)(b:1<=n)(g:n<=8)(S:List Int)(d:1<=S.length)(f:S.length<=4):a6x (a1f x S) y=true:=
 have a:=a3w hs S
 a2f.2 ⟨b1a a (by omega) d (by omega),by rw[a.1];exact b,by rw[a.1];omega,by rw[a8i a b];omega,by rw[a.1];exact e⟩
theorem b4g(X:Nat->Bool)(w:World)(u v:Value)(x:Mat)(y:List Rat)(n c B:Nat)(so:Option Addr)(S:List Int)(sc:Nat)(hX:HX X w)(hu:MV (mk X w) u x)(hv:RV (mk X w) v y)(hs:Sl (a0u .i64) 1 w.cell? so S)(hsh:Shp n c x)(hy:y.length=n)(hn1:1<=n)(hn:n<=8)(hxB:BM B x)(hyB:BR B y)(hB1:1<=B)(hB:B<=510/\n*(2*B+1)<=6540)(hsb:∀v∈S,0<=v/\v<(c:Int))(hs1:1<=S.length)(hs4:S.length<=4):Calls Tryz.prog 120 #[u,v, .slice so S.length sc] w (fun e w'=>Ext w w'/\∃z,e= .returned z/\b1W (mk X w') z (b0o (a1f x S) y n S.length)):=by
 obtain⟨W,hW,hE,b0,hz⟩:=a0R w #[.int .i64 0, .slice none 0 0, .slice none 0 0, .slice none 0 0, .bool false, .slice none 0 0, .slice none 0 0, .slice none 0 0] 83;have hXW:HX (a0e X w.heap.size 1) W:=hX.boxes hz;have hu1:=MV.mono _ _ _ _ (a0l (nb:=1) hE) hu;have hv1:=RV.mono _ _ _ _ (a0l (nb:=1) hE) hv;rw[<-a2m]at hs;have hs1':=hs.mono (a0u.mono _) (a0m hE);obtain⟨b,hb⟩:∃b,w.heap.size=b:=⟨_,rfl⟩;have hbw:w.heap.size<=b:=by omega
 rw[hb]at b0 hz hXW hu1 hv1;have hps:=a3w hsh S;have hpB:=b0p hsh hxB hsb;have hpt:=a8V (a0e X b 1) W u x so S sc hXW hu1 hs1' (fun r hr v hv=>by rw[hsh.2 r hr];exact hsb v hv) (by omega) (by rw[hsh.1];omega);have hfit:=hid (fun w' z (h:Ext W w') (hz:MV (mk (a0e X b 1) w') z (a1f x S))=>b8Y (a0e X b 1) w' z v (a1f x S) y n S.length B (hXW.ext h) hz (mkx RV.mono hv1 h) (b9b hsh hy hn1 hn S hs1 hs4) hps.1 (a8i hps hn1) hn hs4 hpB hyB hB1 hB);obtain⟨F,hF⟩:∃F,b0o (a1f x S) y n S.length=F:=⟨_,rfl⟩;rw[hF]at hfit |-;have hpl:x.length=(a1f x S).length:=(a3t x S).symm;obtain⟨M,hM⟩:∃M,a1f x S=M:=⟨_,rfl⟩;rw[hM]at hpt hfit hpl;rw[hpl]at hpt;obtain⟨k,hk⟩:∃k,S.length=k:=⟨_,rfl⟩;rw[hk]at hs1 hpt |-;have hpos:((k:Int)==0)=false:=a2H (by omega);clear hps hpB hxB hyB hF hM hk hu hv hs hy hsb hsh hpl hs1' hu1 hv1 hs4;go_enter Tryz.func120,Tryz.ntmps120
 go_wp2_with (first
    |(go_at_call 204;(with_reducible refine hpt.mono ?_);rintro ee w1 ⟨t1,po,pc,rfl,hO⟩;have hf:=hfit.out w1 _ t1 ⟨po,pc,rfl,hO.lenCap,hO.sl RV.elem⟩;have b1:=b0.ext0 t1)
    |(go_at_call 105;(with_reducible refine hf.mono ?_);rintro ee w2 ⟨t2,fv,rfl,hfv⟩;have hfv':=hfv;obtain⟨uo,uc',co',cl',cc,ro,rl,rc,s3,a3,n3,c3,d3,k3,e3,fo,ll,lc,rfl,hfv2⟩:=hfv;clear hfv2;have b2:=b1.ext0 t2;have bN:=Bx.new w2 #[.int .i64 0, .slice none 0 0, .slice none 0 0, .slice none 0 0, .bool false, .slice none 0 0, .slice none 0 0, .slice none 0 0] 83)
    |((with_reducible show wpList _ _ _ (⟨_, .load 83 _,_,_,_,_⟩::_) _ _);refine a2T a4n rfl x1 rfl ?_)
    |((with_reducible show wpList _ _ _ (⟨_, .store 83 _ _,_,_,_,_⟩::_) _ _);(first|(refine a0a a4n rfl rfl bN rfl rfl (b6r _ _ _ _ _ _ _ _ _ _ _ _ _ _ _ _ _ _ _ _) ?_;intro w7 x1 y1;have hE7:Ext w2 w7:=ExtX.box ((ExtX.refl w2).alloc _) y1 (Nat.le_refl _);have b07:=b2.ext0 hE7)|(refine a0a a4n rfl rfl b07 rfl rfl (b6r _ _ _ _ _ _ _ _ _ _ _ _ _ _ _ _ _ _ _ _) ?_;intro w8 x2 y2))))
 have h8:=b1W.mono _ _ _ _ a0k (b1W.mono _ _ _ _ (a0g y2 (by omega) (by omega)) (mkx b1W.mono hfv' hE7));exact bodyPost_ret (a0d rfl rfl a4n x2 rfl) rfl ⟨ExtX.box (hE.trans (t1.trans (t2.trans hE7))) y2 hbw,_,rfl,h8⟩
end Go.Proofs.YtgbbpgflopajaaaGreat
namespace Go.Lim
def upL(n:Nat):List Int:=(List.range n).map fun(i:Nat)=>(i:Int)
theorem a2r(n:Nat):(upL n).length=n:=by simp[upL]
theorem b9c{n j:Nat}(h:j<(upL n).length):(upL n)[j]=(j:Int):=by simp[upL]
theorem b1w(n:Nat):upL (n+1)=upL n++[(n:Int)]:=by simp[upL,List.range_succ]
theorem a8u{n:Nat}{v:Int}(h:v∈upL n):0<=v/\v<(n:Int):=by
 simp only[upL,List.mem_map,List.mem_range]at h;obtain⟨i,hi,rfl⟩:=h;omega
end Go.Lim
namespace Go.Lin
open Go.Lim Go.Rep
theorem b4h{x:Mat}{n c:Nat}(hs:Shp n c x):a1f x (upL c)=x:=by
 refine List.ext_getElem (a3t x _) fun i d e=>?_;rw[a8U x _ i d e];have a:=hs.2 x[i] (List.getElem_mem _);refine List.ext_getElem (by rw[a4i,a2r,a]) fun j f g=>?_;have b:j<(upL c).length:=by rw[a2r];omega
 exact a8T f b g (b9c b)
end Go.Lin
namespace Go.Proofs.YtgbbpgflopajaaaGreat
open Go.RowKit Go.Rep Go.Lim
theorem b6s(X:Nat->Bool)(n:Nat)(w:World)(I:n<=1000000)(D:∀k,X k=true->k<w.heap.size):Calls Tryz.prog 119 #[.int .i64 (n:Int)] w (fun e C=>Ext w C/\∃B c,e= .returned (.slice B n c)/\n<=c/\OL (a0u .i64) 1 X w.heap.size 3 C B c (upL n)):=by
 go_enter Tryz.func119,Tryz.ntmps119
 go_wp2_with fail
 go_loopw [3,6] (fun o c wr=>∃(i:Nat) (q:Option Addr) (j:Nat) (l:List Int),c= .int .i64 i/\o= .slice q l.length j/\i<=n/\Hid (l=upL i)/\l.length=i/\OL (a0u .i64) 1 X w.heap.size 3 wr q j l/\Ext w wr) (fun _ c _=>n - (intOf c).toNat)
 case atStart=>exact⟨0,none,0,[],rfl,rfl,Nat.zero_le _,hid rfl,rfl,OL.nil _ _ _ _ _ _,ExtX.refl _⟩
 case round=>
  obtain⟨i,q,j,l,rfl,rfl,hi,g,a,p,m⟩:=hrel;have v:∀k,X k=true->k<wr.heap.size:=fun k E=>Nat.lt_of_lt_of_le (D k E) m.size;have b:=m.size;by_cases G:i<n
  ·have y:Hid (l++[(i:Int)]=upL (i+1)):=hid (by rw[g.out,b1w])
   have d:=hid a;have F:l.length<=1000000:=by omega
   clear a;go_wp2_with (at_builtin;refine a2S a2J rfl (a0u.elem .i64) b v rfl rfl p (.int .i64 i) (i:Int) rfl rfl (by omega) (by omega) ?_;intro A r J u s H)
   have t:=m.own p (Nat.le_refl _) s;have z:(l++[(i:Int)]).length=i+1:=by simp[d.out]
   go_roundw
   case rel=>exact⟨i+1,A,r,l++[(i:Int)],by go_num,by rw[List.length_append];rfl,by omega,y,z,u,t⟩
   case measure=>simp[intOf];omega
  ·have x:i=n:=by omega
   subst x;have f:=p.lenCap;have h:=g.out;go_wp2_with fail
   go_ret
   rw[<-h];rw[a]at f |-;exact⟨m,q,j,rfl,f,p⟩
open Go.Lin
theorem b6t(X:Nat->Bool)(w:World)(u:Value)(l:List Rat)(hX:HX X w)(hu:RV (mk X w) u l)(hn:l.length<=1000000)(r:∀k,k<=l.length->hq (sm k (fn l))<=68719476736):Calls Tryz.prog 179 #[u] w (a1Y X w QC (sm l.length (fn l))):=by
 obtain⟨ao,ca,rfl,Z,J⟩:=hu;have a0:=J.hd;obtain⟨W,hW,hE,A,o,hz⟩:=a1x w #[.bool false, .slice none 0 0, .slice none 0 0] #[.bool false, .slice none 0 0, .slice none 0 0] 38 38;have E:HX (a0e X w.heap.size 2) W:=hX.boxes hz;have h0:QC (mk (a0e X w.heap.size 2) W) (.agg #[.bool false, .slice none 0 0, .slice none 0 0]) (sm 0 (fn l)):=QC.zero _;obtain⟨n,t⟩:∃n,l.length=n:=⟨_,rfl⟩;rw[t]at hn r Z a0 |-;have f:=hid t;have G:=hid r;clear t r;go_enter Tryz.func179,Tryz.ntmps179
 go_wp2_with fail
 obtain⟨b,hb⟩:∃b,w.heap.size=b:=⟨_,rfl⟩;have a2:Hid (∀wr,Ext w wr->Le (mk X w) (mk (a0e X b 2) wr)):=hid fun wr h=>by rw[<-hb];exact a0l h
 have b5:w.heap.size<=b:=by omega
 rw[hb]at A o E h0 |-;clear hW;go_loopw [8] (fun k wr=>∃(i:Nat) (s:Bool) (a:Option Addr) (O B:Nat) (d:Option Addr) (N e:Nat),k= .int .i64 i/\i<=n/\Bx wr b #[.bool false, .slice none 0 0, .slice none 0 0] 38/\Bx wr (b+1) #[.bool s, .slice a O B, .slice d N e] 38/\QC (mk (a0e X b 2) wr) (.agg #[.bool s, .slice a O B, .slice d N e]) (sm i (fn l))/\HX (a0e X b 2) wr/\Ext w wr) (fun k _=>n - (intOf k).toNat)
 case atStart=>exact⟨0,_,_,_,_,_,_,_,rfl,Nat.zero_le _,A,o,h0,E,hE⟩
 case round=>
  obtain⟨i,s,a,O,B,d,N,e,rfl,hi,A,o,hq,Y,q⟩:=hrel;by_cases a3:i<n
  ·have I:i<l.length:=by rw[f.out];exact a3
   have a6:=J.mono QV.mono (a2.out wr q);have gl:Hid (fn l i=l[i]):=hid (by simp[fn,List.getD_eq_getElem?_getD,I]);have m:Hid (sm i (fn l)+l[i]=sm (i+1) (fn l)):=hid (by rw[<-gl.out];rfl);have H:=hid (G.out i hi);obtain⟨x,hx⟩:∃x,l[i]=x:=⟨_,rfl⟩;rw[hx]at m;have a8:=hid hx;have bx:=Bx.new wr #[.bool false, .slice none 0 0, .slice none 0 0] 38;obtain⟨D,hD⟩:∃D,sm i (fn l)=D:=⟨_,rfl⟩;obtain⟨D2,p⟩:∃D2,sm (i+1) (fn l)=D2:=⟨_,rfl⟩;rw[hD]at hq m H;rw[p]at m;have C:=hid p;clear hx hD p;go_wp2_with (first|(with_reducible refine a1I a0w (by omega) (by assumption) ?_)|((with_reducible show wpList _ _ _ (⟨_, .load 38 _,_,_,_,_⟩::_) _ _);refine a0C a0o i a6 I rfl (by simp) QV.agg ?_;intro u5 v;rw[a8.out]at v;obtain⟨s5,a5,n5,c5,d5,k5,e5,rfl⟩:=v.shape)|((with_reducible show wpList _ _ _ (⟨_, .store _ _ _,_,_,_,_⟩::_) _ _);refine a0a a0o rfl rfl bx rfl rfl (a1z _ _ _ _ _ _ _) ?_;intro g z P;have c:Ext wr g:=ExtX.box ((ExtX.refl wr).alloc _) P (Nat.le_refl _);have j:=o.ext0 c;have K:g.cell? ⟨b+1,0,none⟩=some (.bool s):=j.cell 0 rfl;have L:g.cell? ⟨b+1,1,none⟩=some (.slice a O B):=j.cell 1 rfl;have M:g.cell? ⟨b+1,2,none⟩=some (.slice d N e):=j.cell 2 rfl;have b2:g.cell? ⟨wr.heap.size,0,none⟩=some (.bool s5):=z.cell 0 rfl;have b3:g.cell? ⟨wr.heap.size,1,none⟩=some (.slice a5 n5 c5):=z.cell 1 rfl;have b4:g.cell? ⟨wr.heap.size,2,none⟩=some (.slice d5 k5 e5):=z.cell 2 rfl;have F:=Y.ext c;have a9:QV (mk (a0e X b 2) g) (.agg #[.bool s5, .slice a5 n5 c5, .slice d5 k5 e5]) x:=mkx QV.mono v c;have a4:QV (mk (a0e X b 2) g) (.agg #[.bool s, .slice a O B, .slice d N e]) D:=(mkx QC.mono hq c).qv H.out;clear bx z)|(go_at_call 77;(with_reducible refine(b1G (a0e X b 2) g _ _ _ _ F a4 a9).mono ?_);rintro ee w7 ⟨Q,u7,rfl,y⟩;obtain⟨s7,a7,n7,c7,d7,k7,e7,rfl⟩:=y.shape;rw[m.out]at y;have T:=j.ext0 Q;clear K L M b2 b3 b4)|((with_reducible show wpList _ _ _ (⟨_, .store _ _ _,_,_,_,_⟩::_) _ _);refine a0a a0o rfl rfl T rfl rfl (a1z _ _ _ _ _ _ _) ?_;intro w8 z1 R))
   have h8:=QC.mono _ _ _ _ (a0g (lo:=b) (nb:=2) R (by omega) (by omega)) y;have S:=((A.ext0 c).ext0 Q).ext R (a0b (by omega));have U:Ext w _:=ExtX.box (q.trans (c.trans Q)) R (by omega);have V:=(F.ext Q).ext R;rw[<-C.out]at h8;go_roundw
   case rel=>exact⟨i+1,_,_,_,_,_,_,_,by go_num,by omega,S,z1,h8,V,U⟩
   case measure=>simp[intOf];omega
  ·have a1:i=n:=by omega
   subst a1;rw[<-f.out]at hq;have K:=o.cell 0 rfl;have L:=o.cell 1 rfl;have M:=o.cell 2 rfl;go_wp2_with ((with_reducible show wpList _ _ _ (⟨_, .store _ _ _,_,_,_,_⟩::_) _ _);refine a0a a0o rfl rfl A rfl rfl (a1z _ _ _ _ _ _ _) ?_;intro w7 z P)
   have h7:=QC.mono _ _ _ _ a0k (QC.mono _ _ _ _ (a0g P (by omega) (by omega)) hq);rw[f.out]at h7;exact bodyPost_ret (a0d rfl rfl a0o z rfl) rfl ⟨ExtX.box q P (by omega),_,rfl,h7⟩
theorem a6s(X:Nat->Bool)(w:World)(u v:Value)(x y:Rat)(hX:HX X w)(l:QV (mk X w) u x)(m:QV (mk X w) v y):Calls Tryz.prog 123 #[u,v] w (a1Y X w QC (x/y)):=by
 have a3:=hid l.hq;have a4:=hid m.hq;obtain⟨s1,H,n1,L,O,V,R,rfl⟩:=l.shape;obtain⟨s2,I,n2,M,P,Y,S,rfl⟩:=m.shape;obtain⟨W,hW,o,j,k,K,hz⟩:=a2C w #[.bool s1, .slice H n1 L, .slice O V R] #[.bool s2, .slice I n2 M, .slice P Y S] #[.bool false, .slice none 0 0, .slice none 0 0] 38 38 38;have a:HX (a0e X w.heap.size 3) W:=hX.boxes hz;have c:=QV.mono _ _ _ _ (a0l (nb:=3) o) l;have d:=QV.mono _ _ _ _ (a0l (nb:=3) o) m;obtain⟨b,hb⟩:∃b,w.heap.size=b:=⟨_,rfl⟩;have a0:w.heap.size<=b:=by omega
 rw[hb]at j k K hz a c d;have p:Ext W W.drew:=(ExtX.refl W).drew;have r:HX (a0e X b 3) W.drew:=a;have s:QV (mk (a0e X b 3) W.drew) (.agg #[.bool s1, .slice H n1 L, .slice O V R]) x:=c;have t:QV (mk (a0e X b 3) W.drew) (.agg #[.bool s2, .slice I n2 M, .slice P Y S]) y:=d;have z:=j.cell 0 rfl;have A:=j.cell 1 rfl;have B:=j.cell 2 rfl;have C:=k.cell 0 rfl;have D:=k.cell 1 rfl;have E:=k.cell 2 rfl;clear l m;obtain⟨T,g⟩:∃T:Int,e5 (decide (y=0))=T:=⟨_,rfl⟩;obtain⟨q,hq⟩:∃q:Rat,x/y=q:=⟨_,rfl⟩;have hd:=c0Y (a0e X b 3) W _ _ x y a c d;rw[g,hq]at hd;rw[hq];clear p r s t g hq;go_enter Tryz.func123,Tryz.ntmps123
 go_wp2_with fail
 refine hd.mono ?_;rintro e F ⟨f,u5,rfl,h⟩;have i:=hid h;obtain⟨s5,J,n5,N,Q,Z,U,rfl⟩:=h.shape;have b5:=K.ext0 f;have n:Ext F (F.alloc (.cells #[.bool s5, .slice J n5 N, .slice Q Z U] 38)):=(ExtX.refl _).alloc _;have G:=Bx.new F #[.bool s5, .slice J n5 N, .slice Q Z U] 38;have p0:=G.cell 0 rfl;have p1:=G.cell 1 rfl;have p2:=G.cell 2 rfl;have b6:=b5.ext0 n;clear z A B C D E hd;go_wp2_with ((with_reducible show wpList _ _ _ (⟨_, .store 38 _ _,_,_,_,_⟩::_) _ _);refine a0a a0o rfl rfl b6 rfl rfl (a1z _ _ _ _ _ _ _) ?_;intro w7 r1 r2)
 have h7:=QC.mono _ _ _ _ a0k (QC.mono _ _ _ _ (a0g r2 (by omega) (by omega)) (mkx QC.mono i.out n));exact bodyPost_ret (a0d rfl rfl a0o r1 rfl) rfl ⟨ExtX.box (o.trans (f.trans n)) r2 (by omega),_,rfl,h7⟩
end Go.Proofs.YtgbbpgflopajaaaGreat
namespace Go.Lin
open Go.Lim Go.Rep
def a1X(y:List Rat)(n:Nat):Rat:=sm n (fn y)/(((n:Int):Rat))
def b4i(y:List Rat)(n:Nat):Rat:=sm n fun i=>(fn y i - a1X y n)*(fn y i - a1X y n)
theorem b4j{y:List Rat}{n B:Nat}(r:y.length=n)(q:n<=64)(h:BR B y)(j:B<=16384):(∀k,k<=n->hq (sm k (fn y))<=1100000)/\hq (((n:Int):Rat))<=1/\hq (a1X y n)<=1100001/\(∀i,i<n->hq (fn y i - a1X y n)<=1200000/\hq ((fn y i - a1X y n)*(fn y i - a1X y n))<=2400000)/\∀k,k<=n->hq (sm k fun i=>(fn y i - a1X y n)*(fn y i - a1X y n))<=153700000:=by
 have b:∀i,i<n->hq (fn y i)<=B:=fun i hi=>by
  have:fn y i=y[i]'(by omega):=by simp[fn,List.getD_eq_getElem?_getD,show i<y.length by omega]
  rw[this];exact h _ (List.getElem_mem _)
 have c:∀k,k<=n->hq (sm k (fn y))<=1100000:=fun k l=>by
  have:=a8n (n:=k) (B:=B) (f:=fn y) fun i hi=>b i (by omega);have a:k*(B+1)<=64*16385:=Nat.mul_le_mul (by omega) (by omega);omega
 have a:hq (((n:Int):Rat))<=1:=a4E _ 1 (by
  rw[Int.natAbs_natCast];by_cases e:n=0
  ·subst e;simp[a5H]
  ·rw[a1U (by omega) (by omega)];exact Nat.le_refl _) (Nat.le_refl _)
 have g:hq (a1X y n)<=1100001:=by
  have:=hq_div (sm n (fn y)) (((n:Int):Rat));have:=c n (Nat.le_refl _);unfold a1X;omega
 have d:∀i,i<n->hq (fn y i - a1X y n)<=1200000/\hq ((fn y i - a1X y n)*(fn y i - a1X y n))<=2400000:=fun i hi=>by
  have m:=a6a (fn y i) (a1X y n);have o:=b i hi;have p:=hq_mul (fn y i - a1X y n) (fn y i - a1X y n);omega
 refine⟨c,a,g,d,fun k l=>?_⟩;have:=a8n (n:=k) (B:=2400000) (f:=fun i=>(fn y i - a1X y n)*(fn y i - a1X y n)) fun i hi=>(d i (by omega)).2;have a:k*(2400000+1)<=64*2400001:=Nat.mul_le_mul (by omega) (by omega);omega
end Go.Lin
namespace Go.Proofs.YtgbbpgflopajaaaGreat
open Go.RowKit Go.Rep Go.Lim Go.Lin
theorem b6u(X:Nat->Bool)(w:World)(u:Value)(l:List Rat)(n B:Nat)(hX:HX X w)(hu:RV (mk X w) u l)(p:l.length=n)(hn:n<=64)(hB:BR B l)(j6:B<=16384):Calls Tryz.prog 116 #[u] w (a1Y X w QC (b4i l n)):=by
 obtain⟨b6,g2,g5,g8,h0⟩:=b4j p hn hB j6;obtain⟨W,hW,hE,b0,hz⟩:=a0R w #[.bool false, .slice none 0 0, .slice none 0 0] 38;have a7:HX (a0e X w.heap.size 1) W:=hX.boxes hz;have b7:Hid (∀w',Ext W w'->Le (mk X w) (mk (a0e X w.heap.size 1) w')):=hid fun w' h=>a0l (hE.trans h);have q:=RV.mono _ _ _ _ (b7.out W (ExtX.refl _)) hu;have g:=b6t (a0e X w.heap.size 1) W u l a7 q (by omega) fun k hk=>Nat.le_trans (b6 k (by omega)) (by decide);have O:=hid (b6 n (Nat.le_refl _));rw[p]at g;obtain⟨ao,ca,rfl,j8,i0⟩:=hu;have j9:=i0.hd;have h4:=hid p;rw[p]at j8 j9 |-;have g3:=hid g2;have g7:=hid g5;have g9:=hid g8;have h2:=hid h0;rw[p]at g;obtain⟨S,hS⟩:∃S,sm n (fn l)=S:=⟨_,rfl⟩;rw[hS]at g O;have f9:Hid (a1X l n=S/(((n:Int):Rat))):=hid (by rw[<-hS];rfl);clear hS p b6 g2 g5 g8 h0 q;obtain⟨b,hb⟩:∃b,w.heap.size=b:=⟨_,rfl⟩;have b5:w.heap.size<=b:=by omega
 rw[hb]at b0 hz a7 b7 g;go_enter Tryz.func116,Tryz.ntmps116
 go_wp2_with (first|(go_at_call 179;(with_reducible refine g.mono ?_);rintro ee w1 ⟨t1,u1,rfl,q⟩;obtain⟨s1,a1,n1,c1,d1,k1,e1,rfl⟩:=q.shape;have a4:=a7.ext t1)|(go_at_call 74;(with_reducible refine(a6H (a0e X b 1) w1 (n:Int) a4 (by omega) (by omega)).mono ?_);rintro ee w2 ⟨t2,u2,rfl,b9⟩;obtain⟨s2,a2,n2,c2,d2,k2,e2,rfl⟩:=b9.shape;have a6:=a4.ext t2;have q1:=(mkx QC.mono q t2).qv (Nat.le_trans O.out (by decide));have q2:=b9.qv (Nat.le_trans g3.out (by decide)))|(go_at_call 123;(with_reducible refine(a6s (a0e X b 1) w2 _ _ _ _ a6 q1 q2).mono ?_);rintro ee w3 ⟨t3,u3,rfl,c0⟩;rw[<-f9.out]at c0;obtain⟨s3,a3,n3,c3,d3,k3,e3,rfl⟩:=c0.shape;have f3:=a6.ext t3;have bx:=Bx.new w3 #[.bool false, .slice none 0 0, .slice none 0 0] 38;have e4:=t1.trans (t2.trans t3))|((with_reducible show wpList _ _ _ (⟨_, .store _ _ _,_,_,_,_⟩::_) _ _);refine a0a a0o rfl rfl bx rfl rfl (a1z _ _ _ _ _ _ _) ?_;intro A C R))
 trace_state
 obtain⟨K,b2⟩:∃K,w3.heap.size=K:=⟨_,rfl⟩;obtain⟨r,v⟩:∃r,A.heap.size=r:=⟨_,rfl⟩;have V:Ext w3 A:=ExtX.box ((ExtX.refl w3).alloc _) R (Nat.le_refl _);have a0:Ext W A:=e4.trans V;have m4:K<r:=by
  have h1:=R.size;obtain⟨W',g1,_,_,g4⟩:=a0R w3 #[.bool false, .slice none 0 0, .slice none 0 0] 38;rw[g1]at h1;omega
 have m5:b<K:=by have:=e4.size;omega
 have d4:=b0.ext0 a0;have N:=f3.ext V;have k6:=mkx QC.mono c0 V;have k4:=i0.mono QV.mono (b7.out A a0);obtain⟨w6,g6,Y,bs,i4⟩:=a0R A #[.bool false, .slice none 0 0, .slice none 0 0] 38;have f4:=N.boxes i4;have j5:QC (mk (a0e (a0e X b 1) r 1) w6) (.agg #[.bool false, .slice none 0 0, .slice none 0 0]) (sm 0 fun i=>(fn l i - a1X l n)*(fn l i - a1X l n)):=QC.zero _;have P:Hid (∀wr,Ext A wr->Le (mk (a0e X b 1) A) (mk (a0e (a0e X b 1) r 1) wr)):=hid fun wr h=>by rw[<-v];exact a0l h
 have e9:Ext w A:=hE.trans a0;rw[b2]at C;rw[v]at bs f4;have i7:=d4.ext0 Y;have i9:=C.ext0 Y;have f7:A.heap.size<=r:=by omega
 rw[g6,v,b2];have l5:=hid v;clear hW g6 bx R b2 v a4 a6 q1 q2 q b9 g t1 t2 t3 i4 C d4 N f3;go_loopw [16] (fun k wr=>∃(i:Nat) (s:Bool) (a:Option Addr) (n' c':Nat) (d:Option Addr) (kk e:Nat),k= .int .i64 i/\i<=n/\Bx wr b #[.bool false, .slice none 0 0, .slice none 0 0] 38/\Bx wr K #[.bool s3, .slice a3 n3 c3, .slice d3 k3 e3] 38/\Bx wr r #[.bool s, .slice a n' c', .slice d kk e] 38/\QC (mk (a0e (a0e X b 1) r 1) wr) (.agg #[.bool s, .slice a n' c', .slice d kk e]) (sm i fun i=>(fn l i - a1X l n)*(fn l i - a1X l n))/\HX (a0e (a0e X b 1) r 1) wr/\Ext A wr) (fun k _=>n - (intOf k).toNat)
 case atStart=>exact⟨0,_,_,_,_,_,_,_,rfl,Nat.zero_le _,i7,i9,bs,j5,f4,Y⟩
 case round=>
  obtain⟨i,s,a,n',c',d,kk,e,rfl,hi,b0,bm,b1,hq,a9,G⟩:=hrel;by_cases h5:i<n
  ·have h3:i<l.length:=by rw[h4.out];exact h5
   have i1:=k4.mono QV.mono (P.out wr G);have gl:Hid (fn l i=l[i]):=hid (by simp[fn,List.getD_eq_getElem?_getD,h3]);have z:Hid (sm i (fun i=>(fn l i - a1X l n)*(fn l i - a1X l n))+(l[i] - a1X l n)*(l[i] - a1X l n)=sm (i+1) (fun i=>(fn l i - a1X l n)*(fn l i - a1X l n))):=hid (by rw[<-gl.out];rfl);have f8:=hid (h2.out i hi);have y:=hid (g9.out i h5);rw[gl.out]at y;obtain⟨x,hx⟩:∃x,l[i]=x:=⟨_,rfl⟩;rw[hx]at z y;have l0:=hid hx;have b8:=(QC.mono _ _ _ _ (P.out wr G) k6).qv (Nat.le_trans g7.out (by decide));have bx:=Bx.new wr #[.bool false, .slice none 0 0, .slice none 0 0] 38;obtain⟨D,hD⟩:∃D,sm i (fun i=>(fn l i - a1X l n)*(fn l i - a1X l n))=D:=⟨_,rfl⟩;obtain⟨D2,U⟩:∃D2,sm (i+1) (fun i=>(fn l i - a1X l n)*(fn l i - a1X l n))=D2:=⟨_,rfl⟩;rw[hD]at hq z f8;rw[U]at z;have d9:=hid U;obtain⟨Z,hZ⟩:∃Z,a0e (a0e X b 1) r 1=Z:=⟨_,rfl⟩;have f6:=hid hZ;rw[hZ]at hq a9 i1 b8;obtain⟨m,hm⟩:∃m,a1X l n=m:=⟨_,rfl⟩;rw[hm]at z b8 y;clear hx hD U hZ hm;go_wp2_with (first|(with_reducible refine a1I a0w (by omega) (by assumption) ?_)|((with_reducible show wpList _ _ _ (⟨_, .load 38 _,_,_,_,_⟩::_) _ _);refine a0C a0o i i1 h3 rfl (by simp) QV.agg ?_;intro u5 c4;rw[l0.out]at c4;obtain⟨s5,a5,n5,c5,d5,k5,e5,rfl⟩:=c4.shape)|((with_reducible show wpList _ _ _ (⟨_, .store _ _ _,_,_,_,_⟩::_) _ _);refine a0a a0o rfl rfl bx rfl rfl (a1z _ _ _ _ _ _ _) ?_;intro E C R;have t:Ext wr E:=ExtX.box ((ExtX.refl wr).alloc _) R (Nat.le_refl _);have T:=bm.ext0 t;have H:E.cell? ⟨K,0,none⟩=some (.bool s3):=T.cell 0 rfl;have I:E.cell? ⟨K,1,none⟩=some (.slice a3 n3 c3):=T.cell 1 rfl;have J:E.cell? ⟨K,2,none⟩=some (.slice d3 k3 e3):=T.cell 2 rfl;have c6:E.cell? ⟨wr.heap.size,0,none⟩=some (.bool s5):=C.cell 0 rfl;have c7:E.cell? ⟨wr.heap.size,1,none⟩=some (.slice a5 n5 c5):=C.cell 1 rfl;have c9:E.cell? ⟨wr.heap.size,2,none⟩=some (.slice d5 k5 e5):=C.cell 2 rfl;have j7:=a9.ext t;have l1:QV (mk Z E) (.agg #[.bool s5, .slice a5 n5 c5, .slice d5 k5 e5]) x:=mkx QV.mono c4 t;have k7:=mkx QV.mono b8 t;clear bx C)|(go_at_call 76;(with_reducible refine(b8d Z E _ _ _ _ j7 l1 k7).mono ?_);rintro ee w8 ⟨t8,u8,rfl,i2⟩;obtain⟨s8,a8,n8,c8,d8,k8,e8,rfl⟩:=i2.shape;have d7:=Bx.new w8 #[.bool false, .slice none 0 0, .slice none 0 0] 38;clear H I J c6 c7 c9)|((with_reducible show wpList _ _ _ (⟨_, .store _ _ _,_,_,_,_⟩::_) _ _);refine a0a a0o rfl rfl d7 rfl rfl (a1z _ _ _ _ _ _ _) ?_;intro w9 z1 z2))
   have e7:Ext w8 w9:=ExtX.box ((ExtX.refl w8).alloc _) z2 (Nat.le_refl _);have f:Ext wr w9.drew:=(t.trans (t8.trans e7)).drew;have e6:Ext w8 w9.drew:=e7.drew;have i8:=b0.ext0 f;have F:=b1.ext0 f;have j0:=bm.ext0 f;have r9:=z1.ext0 (ExtX.refl w9).drew;obtain⟨bw,b5⟩:∃bw,w8.heap.size=bw:=⟨_,rfl⟩;rw[b5]at r9;have H:=F.cell 0 rfl;have I:=F.cell 1 rfl;have J:=F.cell 2 rfl;have c6:=r9.cell 0 rfl;have c7:=r9.cell 1 rfl;have c9:=r9.cell 2 rfl;have f5:=a9.ext f;have i3:=(mkx QC.mono i2 e6).qv (Nat.le_trans y.out.1 (by decide));have k9:=(mkx QC.mono hq f).qv (Nat.le_trans f8.out (by decide));clear d7 z1;rw[b5];go_wp2_with fail
   go_region_with (first|(go_at_call 124;(with_reducible refine(b4F Z w9.drew _ _ _ _ f5 i3 i3).mono ?_);rintro ee l4 ⟨y1,m8,rfl,Q⟩;obtain⟨m7,l7,m6,l8,l9,l6,m3,rfl⟩:=Q.shape;have L:=f5.ext y1;have h9:=mkx QV.mono k9 y1;have h6:=Q.qv (Nat.le_trans y.out.2 (by decide));have j:=F.ext0 y1;have m0:=j.cell 0 rfl;have m1:=j.cell 1 rfl;have m2:=j.cell 2 rfl)|(go_at_call 77;(with_reducible refine(b1G Z l4 _ _ _ _ L h9 h6).mono ?_);rintro ee n0 ⟨y2,m9,rfl,o⟩;obtain⟨l3,i6,l2,j1,j2,i5,j3,rfl⟩:=o.shape;rw[z.out]at o;have c:=j.ext0 y2;have g0:=c.cell 0 rfl;have g1:=c.cell 1 rfl;have j4:=c.cell 2 rfl;have f0:=c.frozen 0;have f1:=c.frozen 1;have f2:=c.frozen 2))
   all_goals
    obtain⟨z1,z2⟩:=c.set3 (.bool l3) (.slice i6 l2 j1) (.slice j2 i5 j3);rw[<-f6.out]at o;have h8:=QC.mono _ _ _ _ (a0g (lo:=r) (nb:=1) z2 (by omega) (by omega)) o;have d0:=((i8.ext0 y1).ext0 y2).ext z2 (a0b (by omega));have d6:=((j0.ext0 y1).ext0 y2).ext z2 (a0b (by omega));have e0:Ext A _:=ExtX.box (G.trans (f.trans (y1.trans y2))) z2 f7;have M:=(L.ext y2).ext z2;rw[<-d9.out]at h8;rw[<-f6.out]at M;clear H I J c6 c7 c9 m0 m1 m2 g0 g1 j4 f0 f1 f2;go_wp2_with fail
    go_roundw
    case rel=>exact⟨i+1,_,_,_,_,_,_,_,by go_num,by omega,d0,d6,z1,h8,M,e0⟩
    case measure=>simp[intOf];omega
  ·have k0:i=n:=by omega
   subst k0;have H:=b1.cell 0 rfl;have I:=b1.cell 1 rfl;have J:=b1.cell 2 rfl;go_wp2_with ((with_reducible show wpList _ _ _ (⟨_, .store _ _ _,_,_,_,_⟩::_) _ _);refine a0a a0o rfl rfl b0 rfl rfl (a1z _ _ _ _ _ _ _) ?_;intro E C R)
   have h7:=QC.mono _ _ _ _ a0k (QC.mono _ _ _ _ (a0g R (by omega) (by omega)) (QC.mono _ _ _ _ a0k hq));exact bodyPost_ret (a0d rfl rfl a0o C rfl) rfl ⟨ExtX.box (e9.trans G) R (by omega),_,rfl,h7⟩
end Go.Proofs.YtgbbpgflopajaaaGreat
namespace Go.Lin
open Go.Lim
def skp(i r:Nat):Nat:=if r<i then r else r+1
theorem b4k:∀(n i:Nat) (F:Nat->Rat),i<=n->sm (n+1) F=sm n (fun r=>F (skp i r))+F i
 |0,i,F,h=>by
  obtain rfl:i=0:=by omega
  rfl
 |n+1,i,F,h=>by
  by_cases e:i=n+1
  ·subst e
   show sm (n+1) F+F (n+1)=_
   congr 1
   exact a0f fun r hr=>by rw[skp,if_pos hr]
  ·have h1:=b4k n i F (by omega)
   show sm (n+1) F+F (n+1)=sm n (fun r=>F (skp i r))+F (skp i n)+F i
   rw[h1,show skp i n=n+1 by rw[skp,if_neg (by omega)]];grind
theorem b6v{n c i:Nat}{f v:F2}{y b b':Nat->Rat}(u:Inv c (gr (n+1) f) v)(h:NS (n+1) c f y b)(t:NS n c (fun r=>f (skp i r)) (fun r=>y (skp i r)) b')(hi:i<=n):(y i - app c f b' i)*(1 - hat c f v i i)=y i - app c f b i:=by
 have l:∀a,a<c->sm c (fun j=>gr (n+1) f a j*(b j - b' j))=f i a*(y i - app c f b' i):=fun a d=>by
  have o:=h a d;have p:=t a d;have q:sm c (fun j=>gr (n+1) f a j*b' j)=sm c (fun j=>gr n (fun r=>f (skp i r)) a j*b' j)+f i a*app c f b' i:=by
   unfold app;rw[<-a1l,<-a5j];refine a0f fun j _=>?_;have:gr (n+1) f a j=gr n (fun r=>f (skp i r)) a j+f i a*f i j:=b4k n i (fun r=>f r a*f r j) hi;rw[this];grind
  have s:gy (n+1) f y a=gy n (fun r=>f (skp i r)) (fun r=>y (skp i r)) a+f i a*y i:=b4k n i (fun r=>f r a*y r) hi;rw[a0f (g:=fun j=>gr (n+1) f a j*b j - gr (n+1) f a j*b' j) fun j _=>by grind,a6I,o,q,p,s];grind
 have m:∀a,a<c->b a - b' a=sm c (fun k=>v a k*(f i k*(y i - app c f b' i))):=fun a d=>by
  rw[a0f (g:=fun k=>sm c fun j=>v a k*(gr (n+1) f k j*(b j - b' j))) fun k w=>by rw[a1l,l k w],a2w];rw[a0f (g:=fun j=>(b j - b' j)*if a=j then 1 else 0) fun j e=>by
   rw[<-u.2 a d j e,<-a1l];exact a0f fun k _=>by grind]
  rw[a1E a d fun j _ e=>by simp[Ne.symm e]];simp
 have x:app c f b i - app c f b' i=hat c f v i i*(y i - app c f b' i):=by
  rw[<-b3q];unfold app hat;have:∀(A B:Rat),A*B=B*A:=fun A B=>by grind
  rw[this (sm c _),<-a1l];refine a0f fun a d=>?_
  show f i a*(b a - b' a)=(y i - app c f b' i)*(f i a*sm c fun k=>v a k*f i k)
  rw[m a d,a0f (g:=fun k=>(y i - app c f b' i)*(v a k*f i k)) fun k _=>by grind,a1l];grind
 grind
theorem b4l{x:Mat}{n c:Nat}(hs:Shp n c x)(hp:(a0J x c).2.length=c):(a0J x c).2=List.range c:=by
 obtain⟨_,hg,_⟩:=a1d hs;have hge:∀i (hi:i<(a0J x c).2.length),i<=(a0J x c).2[i]:=by
  intro i
  induction i with
  |zero=>intro _;exact Nat.zero_le _
  |succ i ih=>
   intro hi;have h1:=ih (by omega);have h2:=List.pairwise_iff_getElem.1 hg.pw i (i+1) (by omega) hi (by omega);omega
 have hle:∀k i (hi:i<(a0J x c).2.length),i+k+1=c->(a0J x c).2[i]<=i:=by
  intro k
  induction k with
  |zero=>intro i hi e;have:=hg.lt i hi;omega
  |succ k ih=>
   intro i hi e;have h1:=ih (i+1) (by omega) (by omega);have h2:=List.pairwise_iff_getElem.1 hg.pw i (i+1) hi (by omega) (by omega);omega
 refine List.ext_getElem (by simp[hp]) fun i h1 h2=>?_;have a:=hge i h1;have b:=hle (c - 1 - i) i h1 (by omega);simp;omega
theorem b7n{x:Mat}{n c:Nat}(hs:Shp n c x)(hp:(a0J x c).2.length=c):pkL x (a0J x c).2=x:=by
 rw[b4l hs hp];unfold pkL;refine List.ext_getElem (by simp) fun i d e=>?_;have b:=hs.2 x[i] (List.getElem_mem _);refine List.ext_getElem (by simp[b]) fun j f a=>?_;simp[List.getD_eq_getElem?_getD,a]
def a3A{α:Type}(l:List α)(i:Nat):List α:=l.take i++l.drop (i+1)
theorem a8v{α:Type}{l:List α}{i:Nat}(h:i<l.length):(a3A l i).length=l.length - 1:=by simp[a3A];omega
theorem b1x{α:Type}{l:List α}{i:Nat}(d:α)(hi:i<l.length)(r:Nat):(a3A l i).getD r d=l.getD (skp i r) d:=by
 unfold a3A skp;have a:(l.take i).length=i:=by rw[List.length_take];omega
 rw[List.getD_eq_getElem?_getD,List.getD_eq_getElem?_getD];by_cases h:r<i
 ·rw[List.getElem?_append_left (by omega),if_pos h,List.getElem?_take_of_lt h]
 ·rw[List.getElem?_append_right (by omega),if_neg h,a,List.getElem?_drop,show i+1+(r - i)=r+1 by omega]
theorem b1y{x:Mat}{n c i:Nat}(hs:Shp (n+1) c x)(hi:i<=n):Shp n c (a3A x i):=⟨by rw[a8v (by rw[hs.1];omega),hs.1];rfl,fun r a=>by
 unfold a3A at a;rcases List.mem_append.1 a with h|h
 ·exact hs.2 r (List.mem_of_mem_take h)
 ·exact hs.2 r (List.mem_of_mem_drop h)⟩
theorem b4m{x:Mat}{y:List Rat}{n c i:Nat}(hs:Shp (n+1) c x)(d:y.length=n+1)(k:c<=4)(hp:(a0J x c).2.length=c)(hi:i<=n):(fn y i - a1Z (x.getD i []) (a0S (a3A x i) (a3A y i) n c))*(1 - fn (a3n x (n+1) c) i)=fn (a2q x y (a0S x y (n+1) c)) i:=by
 obtain⟨_,b⟩:=a8l hs (by rw[hp];exact k);rw[hp,b7n hs hp]at b;obtain⟨_,_,h,_⟩:=a4R (y:=y) hs;obtain⟨_,_,f,_⟩:=a4R (y:=a3A y i) (b1y hs hi);have g:NS n c (fun r=>ent x (skp i r)) (fun r=>fn y (skp i r)) (fn (a0S (a3A x i) (a3A y i) n c)):=f.congr (fun r _ j _=>by
  unfold ent;rw[b1x [] (by rw[hs.1];omega)]) (fun r _=>by
  unfold fn;exact b1x 0 (by rw[d];omega) r) (fun _ _=>rfl)
 have e:=b6v b h g hi;rw[b1l hs (by omega),b1j hs d (by omega)];have a:a1Z (x.getD i []) (a0S (a3A x i) (a3A y i) n c)=app c (ent x) (fn (a0S (a3A x i) (a3A y i) n c)) i:=by
  rw[a6W (hs.row (by omega))];rfl
 rw[a];exact e
theorem b7o{a b c:Rat}(h:a<b)(k:b<=c):a<c:=Rat.not_le.1 fun d=>absurd (Rat.le_trans k d) (Rat.not_le.2 h)
def a8w(f:List Int->Rat)(l:List (List Int))(q:Rat)(n:Nat)(t:List (List Int)):Prop:=
 (l= []/\n=0/\t= [])\/(0<n/\(∃s∈l,q=f s)/\(∀s∈l,q<=f s)/\n=(l.filter fun s=>decide (f s=q)).length/\t=(l.filter fun s=>decide (f s=q)).take 64)
theorem a8w.zero(f:List Int->Rat)(q:Rat):a8w f [] q 0 []:= .inl ⟨rfl,rfl,rfl⟩
theorem a8w.new{f:List Int->Rat}{l:List (List Int)}{q:Rat}{n:Nat}{t:List (List Int)}(h:a8w f l q n t)(s:List Int)(hs:n=0\/f s<q):a8w f (l++[s]) (f s) 1 [s]:=by
 refine .inr ⟨Nat.one_pos,⟨s,by simp,rfl⟩,?_⟩;rcases h with⟨rfl,_,_⟩|⟨g,_,c,_,_⟩
 ·refine⟨fun x hx=>?_,by simp,by simp⟩
  have:x=s:=by simpa using hx
  subst this;exact Rat.le_refl
 ·have a:f s<q:=hs.resolve_left (by omega)
  have b:l.filter (fun x=>decide (f x=f s))= []:=List.filter_eq_nil_iff.2 fun x hx e=>by
   have d:=c x hx;have:f x=f s:=by simpa using e
   rw[this]at d;exact absurd (b7o a d) Rat.lt_irrefl
  refine⟨fun x hx=>?_,by simp[List.filter_append,b],by simp[List.filter_append,b]⟩;rcases List.mem_append.1 hx with hx|hx
  ·exact Rat.le_of_lt (b7o a (c x hx))
  ·have:x=s:=by simpa using hx
   subst this;exact Rat.le_refl
theorem a8w.tie{f:List Int->Rat}{l:List (List Int)}{q:Rat}{n:Nat}{t:List (List Int)}(h:a8w f l q n t)(s:List Int)(i:0<n)(hs:f s=q):a8w f (l++[s]) q (n+1) (if t.length<64 then t++[s]else t):=by
 rcases h with⟨_,j,_⟩|⟨_,⟨r,g,hq⟩,b,c,a⟩
 ·omega
 refine .inr ⟨by omega,⟨r,List.mem_append_left _ g,hq⟩,fun x hx=>?_,by rw[List.filter_append];simp[hs,c],?_⟩
 ·rcases List.mem_append.1 hx with hx|hx
  ·exact b x hx
  ·have:x=s:=by simpa using hx
   subst this;rw[hs];exact Rat.le_refl
 ·rw[List.filter_append]
  obtain⟨F,hF⟩:∃F,l.filter (fun x=>decide (f x=q))=F:=⟨_,rfl⟩;have e: [s].filter (fun x=>decide (f x=q))= [s]:=by simp[hs]
  rw[hF]at a |-;rw[e];subst a;by_cases d:F.length<64
  ·rw[List.take_of_length_le (by omega),if_pos d,List.take_of_length_le (by simp;omega)]
  ·rw[if_neg (by rw[List.length_take];omega),List.take_append_of_le_length (by omega)]
theorem a8w.more{f:List Int->Rat}{l:List (List Int)}{q:Rat}{n:Nat}{t:List (List Int)}(h:a8w f l q n t)(s:List Int)(a:0<n)(hs:q<f s):a8w f (l++[s]) q n t:=by
 rcases h with⟨_,i,_⟩|⟨_,⟨r,g,hq⟩,b,c,d⟩
 ·omega
 have e: [s].filter (fun x=>decide (f x=q))= []:=by
  have:¬f s=q:=fun e=>by rw[e]at hs;exact absurd hs Rat.lt_irrefl
  simp[this]
 refine .inr ⟨a,⟨r,List.mem_append_left _ g,hq⟩,fun x hx=>?_,by rw[List.filter_append,e,List.append_nil];exact c,by rw[List.filter_append,e,List.append_nil];exact d⟩;rcases List.mem_append.1 hx with hx|hx
 ·exact b x hx
 ·have:x=s:=by simpa using hx
  subst this;exact Rat.le_of_lt hs
theorem a8w.len{f:List Int->Rat}{l:List (List Int)}{q:Rat}{n:Nat}{t:List (List Int)}(h:a8w f l q n t):t.length<=n/\t.length<=64/\n<=l.length:=by
 rcases h with⟨rfl,rfl,rfl⟩|⟨_,_,_,b,a⟩
 ·simp
 ·have c:=List.length_filter_le (fun s=>decide (f s=q)) l
  subst a;rw[List.length_take];omega
end Go.Lin
namespace Go.Proofs.YtgbbpgflopajaaaGreat
open Go.RowKit Go.Rep Go.Lim
theorem a4V(X:Nat->Bool)(ao:Option Addr)(l:List Int)(a:Nat)(w:World)(hs:Sl (a0u .i64) 1 (mk X w) ao l)(n:l.length<=1099511627776)(m:∀k,X k=true->k<w.heap.size):Calls Tryz.prog 122 #[.slice ao l.length a] w (fun e h=>Ext w h/\∃f c,e= .returned (.slice f l.length c)/\l.length<=c/\OL (a0u .i64) 1 X w.heap.size 3 h f c l):=by
 go_enter Tryz.func122,Tryz.ntmps122
 go_wp2_with (at_builtin;refine b8S a2J rfl (a0u.elem .i64) m l rfl rfl rfl hs (by omega) (by omega) ?_;intro i j o g b)
 have d:=g.lenCap;go_ret
 exact⟨b,i,j,rfl,d,g⟩
def b7p(r:List Nat)(k i j M:Nat):Prop:=r.length=k+1/\∀p (_:p<r.length),r[p]=min (if j<p then ch (i+1) p else ch i p) M
theorem b7p.start(k M:Nat)(hM:1<=M):b7p ((List.replicate (k+1) 0).set 0 1) k 0 k M:=by
 obtain⟨h1,h2⟩:=a3q.start k;refine⟨h1,fun p hp=>?_⟩;have:=h2 p hp;rw[this];have hle:(if k<p then ch (0+1) p else ch 0 p)<=1:=by
  rw[if_neg (by omega)];cases p with
  |zero=>simp[ch]
  |succ p=>simp[ch]
 omega
theorem b7p.step{r:List Nat}{k i j M:Nat}(h:b7p r k i j M)(n:0<j)(o:j<=k){x y:Nat}(hx:r[j]'(by rw[h.1];omega)=x)(m:r[j - 1]'(by rw[h.1];omega)=y):b7p (r.set j (min (x+y) M)) k i (j - 1) M:=by
 obtain⟨l,b⟩:=h;refine⟨by simpa using l,fun p hp=>?_⟩;have e:=b j (by omega);have f:=b (j - 1) (by omega);rw[if_neg (by omega),hx]at e;rw[if_neg (by omega),m]at f;rw[List.getElem_set];by_cases a:j=p
 ·subst a
  rw[if_pos rfl,if_pos (by omega)];have g:ch (i+1) j=ch i (j - 1)+ch i j:=by
   obtain⟨d,rfl⟩:∃d,j=d+1:=⟨j - 1,by omega⟩;rfl
  rw[g];omega
 ·rw[if_neg a,b p (by simpa using hp)]
  by_cases c:j<p
  ·rw[if_pos c,if_pos (by omega)]
  ·rw[if_neg c,if_neg (by omega)]
theorem b7p.next{r:List Nat}{k i M:Nat}(h:b7p r k i 0 M):b7p r k (i+1) k M:=by
 obtain⟨a,b⟩:=h;refine⟨a,fun p hp=>?_⟩;rw[b p hp,if_neg (show¬k<p by omega)];by_cases c:0<p
 ·rw[if_pos c]
 ·obtain rfl:p=0:=by omega
  rw[if_neg (by omega),a3Y,a3Y]
end Go.Proofs.YtgbbpgflopajaaaGreat
namespace Go.Lim
def b0q(s:List Int):Nat->List Int
 |0=>[]
 |n+1=>b0q s n++(if(n:Int)∈s then[]else[(n:Int)])
end Go.Lim
namespace Go.Proofs.YtgbbpgflopajaaaGreat
open Go.RowKit Go.Rep Go.Lim
theorem b7q:SliceT Tryz.prog 73 22 1 24 (.slice none 0 0):=⟨Tryz.underlying73,by kernel_rfl⟩
theorem b2r(w:World):∀k,noY k=true->k<w.heap.size:=fun k a=>by simp[noY]at a
end Go.Proofs.YtgbbpgflopajaaaGreat
namespace Go.Lim
def b9d(N H:Nat):List c0U:=(a1P N H 0).map fun s=>(s,b0q s N)
def b9e(n h:Int):Int:=if n<1\/64<n\/h<0\/n<h then 1 else if 4096<ch n.toNat h.toNat then 2 else 0
def b6w(n h:Int):List c0U:=if b9e n h=0 then b9d n.toNat h.toNat else[]
end Go.Lim
namespace Go.Proofs.YtgbbpgflopajaaaGreat
open Go.RowKit Go.Rep Go.Lim
def b4n(X:Nat->Bool)(w:World)(n h:Int)(e:Ending)(w':World):Prop:=Ext w w'/\∃(ao:Option Addr) (c:Nat),e= .returned (.tuple #[.slice ao (b6w n h).length c, .int .i64 (b9e n h)])/\(b6w n h).length<=c/\Sl a6D 2 (mk X w') ao (b6w n h)
theorem b4n.nil{X:Nat->Bool}{w a:World}{n h v:Int}{e:Ending}(b:Ext w a)(hs:b9e n h=v/\b6w n h= [])(c:e= .returned (.tuple #[.slice none 0 0, .int .i64 v])):b4n X w n h e a:=by
 refine⟨b,none,0,?_,?_,?_⟩
 ·rw[hs.1,hs.2];exact c
 ·rw[hs.2];exact Nat.le_refl _
 ·rw[hs.2];exact Sl.nil _ _ _ _
def c1T(X:Nat->Bool)(bl bn B:Nat):Nat->Bool:=fun k=>X k||(k==bl)||(k==bn)||a4y B k
def c1x(X:Nat->Bool)(w0:World)(bl bn B N:Nat)(done:List (List Int))(W:World):Prop:=
 W.heap[bn]? =some (.cells #[.int .i64 (N:Int)] 3 (0,0))/\Ext w0 W/\∃(oo:Option Addr) (co:Nat),W.heap[bl]? =some (.cells #[.slice oo done.length co] 67 (0,0))/\done.length<=co/\
  OL a6D 2 (c1T X bl bn B) w0.heap.size 127 W oo co (done.map fun s=>(s,b0q s N))
theorem c1x.own{X:Nat->Bool}{e W W':World}{bl b B N:Nat}{done:List (List Int)}(h:c1x X e bl b B N done W)(d:ExtX (a4y B) W W')(m:bl<B)(n:b<B)(t:e.heap.size<=B):c1x X e bl b B N done W':=by
 obtain⟨f,q,p,l,g,r,s⟩:=h;have c:∀{j:Nat} {v:Obj},W.heap[j]? =some v->j<W.heap.size:=fun h=>(Array.getElem?_eq_some_iff.1 h).1;have a:∀j,j<B->a4y B j=false:=fun j u=>by simp[a4y];omega
 refine⟨by rw[d.block b (c f) (a b n)];exact f,q.then_ d (fun i hi _=>a i (by omega)),p,l,by rw[d.block bl (c g) (a bl m)];exact g,r,s.ext a6D.elem d (fun k _ o=>by simp[c1T,o]) (fun _ _ h=>h)⟩
end Go.Proofs.YtgbbpgflopajaaaGreat
namespace Go.Lin
section
variable {c:Nat} {p B:F2} {x w:Vec}
end
def ps(a:Vec):Vec:=fun i=>if 0<a i then a i else 0
end Go.Lin
namespace Go.Lin
open Go.Lim
def c2k(c:Nat)(s:Mat):Mat:=ofF c c fun j i=>ent s (i+1) j - ent s 0 j
section
variable {c k:Nat} {s:Mat} {x:List Rat} (hc3:c<=3) (hs:Shp (c+1) c s) (hx:x.length=c) (hd:b9u (c2k c s) c≠0)
include hc3 hs hx hd
omit hs in
end
end Go.Lin
namespace Go.Lim
end Go.Lim
namespace Go.Lin
open Go.Lim Go.Rep
noncomputable def inS(p:Mat)(x:List Rat)(I:List Int):Bool:=decide (0<c2h (a3d p I) x)
noncomputable def c2l(p:Mat)(x:List Rat)(L:List (List Int)):Nat:=L.countP (inS p x)
section
variable {p:Mat} {x:List Rat} (hp:c1P p=true) (hx:x.length=colsL p)
include hp hx
end
end Go.Lin
namespace Go.Lin
open Go.Lim Go.Rep
end Go.Lin
namespace Go.Proofs.YtgbbpgflopajaaaGreat
open Go.RowKit Go.Rep Go.Lim Go.Lin
end Go.Proofs.YtgbbpgflopajaaaGreat
namespace Go.Lim
theorem b1z:∀(n k:Nat),ch n k<=n^k
 |n,0=>by rw[a3Y];exact Nat.le_refl _
 |0,k+1=>Nat.zero_le _
 |n+1,k+1=>by
  have h1:=b1z n k;have h2:=b1z n (k+1);have h3:n^k<=(n+1)^k:=Nat.pow_le_pow_left (by omega) k;have h4:n*n^k<=n*(n+1)^k:=Nat.mul_le_mul_left _ h3;rw[ch];rw[Nat.pow_succ,Nat.mul_comm]at h2;rw[Nat.pow_succ,Nat.mul_comm,Nat.succ_mul];omega
theorem c0E{n k:Nat}(b:n<=64)(a:k<=4):ch n k<=16777216:=
 Nat.le_trans (b1z n k) (Nat.le_trans (Nat.pow_le_pow_left b k) (Nat.le_trans (Nat.pow_le_pow_right (by decide) a) (by decide)))
end Go.Lim
namespace Go.Rep
open Go.RowKit Go.Lim Go.Lin
theorem b6x{w c:World}{g b:Nat}{l:List Int}(h:Sl (a0u .i64) 1 w.cell? (some ⟨g,0,none⟩) l)(k:ExtX (ob (some ⟨b,0,none⟩)) w c)(a:g≠b):Sl (a0u .i64) 1 c.cell? (some ⟨g,0,none⟩) l:=
 ⟨h.1,fun i hi=>let ⟨u,d,e,f⟩:=h.2 i hi;⟨u,d,fun j m=>k.cellY (e j m) (a0b a),f⟩⟩
theorem b7r{w a:World}{ao:Option Addr}{l:List Int}(h:Sl (a0u .i64) 1 w.cell? ao l)(b:Ext w a):Sl (a0u .i64) 1 a.cell? ao l:=by
 rw[<-a2m]at h |-;exact h.mono (a0u.mono _) (a0m b)
end Go.Rep
namespace Go.Lin
open Go.Lim Go.Rep
end Go.Lin
namespace Go.Proofs.YtgbbpgflopajaaaGreat
open Go.RowKit Go.Rep Go.Lim Go.Lin
theorem b4o{b a k:Nat}(c:ob (some ⟨b,0,none⟩) k=true)(h:b<a):a4y a k=false:=by
 have:b=k:=by simpa[ob]using c
 subst this;simp[a4y];omega
structure SInv (w0:World) (bt bp bx bn:Nat) (P1 P2:Value) (p:Mat) (x:List Rat) (done:List (List Int)) (W:World):Prop where
 ext:Ext w0 W
 tot:Bx W bt #[.int .i64 (done.length:Int)] 3
 pts:Bx W bp #[P1] 53
 pt:Bx W bx #[P2] 25
 cnt:Bx W bn #[.int .i64 (c2l p x done:Int)] 3
theorem SInv.own{k W W':World}{f e g d a:Nat}{l m:Value}{p:Mat}{x:List Rat}{done:List (List Int)}(h:SInv k f e g d l m p x done W)(b:ExtX (a4y a) W W')(s:k.heap.size<=a)(n:f<a)(o:e<a)(q:g<a)(r:d<a):SInv k f e g d l m p x done W':=by
 have c:∀j,j<a->a4y a j=false:=fun j t=>by simp[a4y];omega
 exact⟨h.ext.then_ b fun i hi _=>c i (by omega),h.tot.ext b (c _ n),h.pts.ext b (c _ o),h.pt.ext b (c _ q),h.cnt.ext b (c _ r)⟩
end Go.Proofs.YtgbbpgflopajaaaGreat
namespace Go.Rep
open Go.RowKit Go.Lim
section
variable {P:Program} {ops:Array Oper} {Q:Exit->Act->World->Prop} {a:Act} {w:World}
theorem a2R{o:Oper}{K:Act->World->Prop}{E:Prop}{t:TypeId}{x y:Operand}{n b i:Nat}{c d:Array Value}{T:TypeId}(z:o.guard=none)(h:o.op= .store t x y)(s:a1F P t n)(hx:a.eval x= .pointer (some ⟨b,i,none⟩))(D:a.eval y= .agg d)(l:Bx w b c T)(u:i+n<=c.size)(e:d.size=n)(f:∀v∈d.toList,v.oneCell'=true)(r:∀j,Bx j b (c.toList.take i++d.toList++c.toList.drop (i+n)).toArray T->ExtX (ob (some ⟨b,0,none⟩)) w j->K (a.put o.dst undef) j):if Region.wanted o (yielded ops a.tmps)=true then Oper.wp P o a w K Q else E:=by
 have C:Region.wanted o (yielded ops a.tmps)=true:=by simp[Region.wanted,z]
 rw[if_pos C];obtain⟨F,H,G,p,q⟩:=s;have g:=run_storeCells_at P b i T d.toList 0 c w l (by simp[e];omega) f;have B:(storeVar t ⟨b,i,none⟩ (.agg d)).run P w= .ok () (w.setRow b (c.toList.take (i+0)++d.toList++c.toList.drop (i+0+d.toList.length)).toArray):=by
  simp[storeVar,sizeOf,typeInfo,p,q,Value.cells,e];simp only[Nat.add_zero,Array.length_toList,e,List.append_assoc]at g |-;exact g
 unfold Oper.wp execOp;rw[h];simp[hx,D,Instr.storeAt,Instr.sureAddr,B,Result.andThen];refine r _ ?_ ?_
 ·unfold Bx
  have:=setRow_heap w b c (c.toList.take (i+0)++d.toList++c.toList.drop (i+0+d.toList.length)).toArray T (0,0) l;simp only[Nat.add_zero,Array.length_toList,e,List.append_assoc]at this |-;exact this
 ·exact⟨rfl,rfl,rfl,by simp,fun k _ A=>setRow_other w b k _ (fun m=>by subst m;simp[ob]at A)⟩
end
end Go.Rep
namespace Go.Lin
open Go.Lim Go.Rep
theorem b0r{x:Mat}{y:List Rat}{n c B:Nat}{S:List Int}(e:Shp n c x)(o:y.length=n)(k:n<=8)(i:BM B x)(g:BR B y)(b:1<=B)(j:B<=510/\n*(2*B+1)<=6540)(h:∀v∈S,0<=v/\v<(c:Int))(f:S.length<=4):hq (a6j x y n S)<=600000000:=by
 have a:=a3w e S;have d:=b0p e i h;have l:=a5S (a5v d b) g k f j;have m:=a7b a d g l b f j;exact c0v m (by rw[a2P (by rw[o,a.1]),a.1];exact k)
end Go.Lin
namespace Go.Proofs.YtgbbpgflopajaaaGreat
open Go.RowKit Go.Rep Go.Lim Go.Lin
theorem b2l(x y:Rat):(b5b x y= -1/\x<y)\/(b5b x y=0/\x=y)\/(b5b x y=1/\y<x):=by
 unfold b5b;by_cases h:x<y
 ·exact .inl ⟨by rw[if_pos h],h⟩
 ·by_cases a:y<x
  ·exact .inr (.inr ⟨by rw[if_neg h,if_pos a],a⟩)
  ·exact .inr (.inl ⟨by rw[if_neg h,if_neg a],Rat.le_antisymm (Rat.not_lt.1 a) (Rat.not_lt.1 h)⟩)
theorem b6y:(Tryz.prog.info? 73).map (fun i=>(i.zero,i.size,i.bytes))=some (some (.slice none 0 0),1,24):=by kernel_rfl
theorem a8x:TyI Tryz.prog 73 1:=let ⟨i,h,_,a,_⟩:=info_parts b6y;⟨i,h,a⟩
def hSb(X:Nat->Bool)(bs B0:Nat):Nat->Bool:=fun k=>X k||(k==bs)||a4y B0 k
abbrev a5C(p:Nat)(s:Bool)(a:Option Addr)(n c:Nat)(d:Option Addr)(k e:Nat)(so:Option Addr)(tl sc cnt:Nat):Array Value:=#[.int .i64 (p:Int), .bool s, .slice a n c, .slice d k e, .bool false, .slice none 0 0, .slice none 0 0, .slice so tl sc, .int .i64 (cnt:Int), .bool true]
structure SelB (X:Nat->Bool) (w0:World) (bs B0 p:Nat) (f:List Int->Rat) (done:List (List Int)) (q:Rat) (cnt:Nat) (t:List (List Int)) (so:Option Addr) (sc:Nat) (s:Bool) (a:Option Addr) (n c:Nat) (d:Option Addr) (k e:Nat) (W:World):Prop where
 inv:a8w f done q cnt t
 hqq:hq q<=600000000
 ext:Ext w0 W
 box:Bx W bs (a5C p s a n c d k e so t.length sc cnt) 152
 rss:QC (mk (un (hSb X bs B0) so) W) (.agg #[.bool s, .slice a n c, .slice d k e]) q
 sub:OL (SlV (a0u .i64) 1) 1 (hSb X bs B0) w0.heap.size 22 W so sc t
def a5D(X:Nat->Bool)(w0:World)(bs B0 p:Nat)(f:List Int->Rat)(done:List (List Int))(W:World):Prop:=
 ∃q cnt t so sc s a n c d k e,SelB X w0 bs B0 p f done q cnt t so sc s a n c d k e W
theorem b0s{X:Nat->Bool}{b a k:Nat}(h:a4y a k=true):hSb X b a k=true:=by simp[hSb,h]
theorem a4J{X:Nat->Bool}{a b k:Nat}(h:ob (some ⟨a,0,none⟩) k=true):hSb X a b k=true:=by
 have:a=k:=by simpa[ob]using h
 simp[hSb,this]
theorem b9f{X:Nat->Bool}{b a k:Nat}(h:X k=true):hSb X b a k=true:=by simp[hSb,h]
theorem c0F{X:Nat->Bool}{a:World}{c b k:Nat}(d:a.heap.size<=c)(e:a.heap.size<=b)(f:k<a.heap.size)(h:hSb X c b k=true):X k=true:=by
 simp only[hSb,a4y,Bool.or_eq_true,beq_iff_eq,Bool.and_eq_true,decide_eq_true_eq]at h;rcases h with(h|h)|h
 ·exact h
 ·omega
 ·omega
theorem a5D.own{X:Nat->Bool}{r W W':World}{l b p:Nat}{f:List Int->Rat}{done:List (List Int)}(h:a5D X r l b p f done W)(g:ExtX (a4y b) W W')(E:r.heap.size<=b)(v:l<b):a5D X r l b p f done W':=by
 obtain⟨q,m,t,D,C,s,a,n,c,d,k,e,w,x,y,z,A,B⟩:=h;have u:∀j,j<b->a4y b j=false:=fun j F=>by simp[a4y];omega
 exact⟨q,m,t,D,C,s,a,n,c,d,k,e,w,x,y.then_ g fun i hi _=>u i (by omega),z.ext g (u _ v),QC.mono _ _ _ _ (a0v g fun k o=>a0i (b0s o)) A,B.ext (SlV.elem (a0u.elem _)) g (fun k _ o=>b0s o) (fun _ _ h=>h)⟩
theorem b4p{X:Nat->Bool}{r W j u:World}{g b p:Nat}{f:List Int->Rat}{done:List (List Int)}{q:Rat}{i:Nat}{t:List (List Int)}{o:Option Addr}{x:Nat}{s:Bool}{a:Option Addr}{n c:Nat}{d:Option Addr}{k e:Nat}(A:a8w f done q i t)(w:hq q<=600000000)(z:Ext r j)(B:b1s b W j)(m:ExtX (ob (some ⟨g,0,none⟩)) j u)(C:Bx u g (a5C p s a n c d k e o t.length x i) 152)(E:QC (mk (un (hSb X g b) o) j) (.agg #[.bool s, .slice a n c, .slice d k e]) q)(D:OL (SlV (a0u .i64) 1) 1 (hSb X g b) r.heap.size 22 j o x t)(F:r.heap.size<=g)(y:g<b)(v:b+6<=j.heap.size):a5D X r g b p f done u/\b1s b W u:=
 ⟨⟨q,i,t,o,x,s,a,n,c,d,k,e,A,w,ExtX.box z m F,C,QC.mono _ _ _ _ (a0v m fun _ l=>a0i (a4J l)) E,D.ext (SlV.elem (a0u.elem _)) m (fun _ _ l=>a4J l) (fun _ _ h=>h)⟩,B.trans (a3k m (fun _ l=>b4o l y) v)⟩
theorem a9u{Y:Nat->Bool}{W f g:World}{b:Option Addr}{a:Nat}{s:List Int}{T:TypeId}(c:HX Y W)(l:W.heap.size<=f.heap.size)(d:s.length<=a)(e:OL (a0u .i64) 1 noY f.heap.size T g b a s):SlV (a0u .i64) 1 (mk Y g) (.slice b s.length a) s:=
 ⟨b,a,rfl,d,e.rehide (a0u.elem _) b3Y fun k i=>by
  have j:=(e.block i).1;cases h:Y k
  ·rfl
  ·have:=c k h;omega⟩
theorem b9g{X:Nat->Bool}{v W n w wL wE:World}{a c p:Nat}{f:List Int->Rat}{done:List (List Int)}{r:Rat}{U:Option Addr}{K:Bool}{x:Option Addr}{J y:Nat}{z:Option Addr}{I A:Nat}{j:Option Addr}{g:Nat}{s:List Int}{T:TypeId}(P:a8w f (done++[s]) r 1 [s])(H:hq r<=600000000)(q:Ext v n)(B:b1s c W n)(u:HX (hSb X a c) n)(b:Ext n w)(R:QC (mk (un (hSb X a c) U) n) (.agg #[.bool K, .slice x J y, .slice z I A]) r)(G:s.length<=g)(O:OL (a0u .i64) 1 noY n.heap.size T w j g s)(o:ExtX (ob (some ⟨a,0,none⟩)) w wL)(L:ExtX (ob (some ⟨a,0,none⟩)) (wL.alloc (.cells #[.slice j s.length g] 22)) wE)(Q:Bx wE a (a5C p K x J y z I A (some ⟨wL.heap.size,0,none⟩) 1 1 1) 152)(S:v.heap.size<=a)(M:a<c)(t:c+6<=n.heap.size):a5D X v a c p f (done++[s]) wE/\b1s c W wE:=by
 have N:ExtX (ob (some ⟨a,0,none⟩)) w (wL.alloc (.cells #[.slice j s.length g] 22)):=o.trans (ExtX.of ((ExtX.refl wL).alloc _));have m:=N.trans L;have E:=a9u u (Nat.le_refl _) G O;have F:SlV (a0u .i64) 1 (mk (hSb X a c) wL) (.slice j s.length g) s:=SlV.mono (a0u.mono _) _ _ _ _ _ (a0v o fun _ d=>a4J d) E;have D:HX (hSb X a c) wL:=(u.ext b).ext o;have C:OL (SlV (a0u .i64) 1) 1 (hSb X a c) v.heap.size 22 (wL.alloc (.cells #[.slice j s.length g] 22)) (some ⟨wL.heap.size,0,none⟩) 1 [s]:=
  OL.lit (l:=[s]) (SlV.elem (a0u.elem _)) D (Nat.le_trans (q.trans b).size o.size) [.slice j s.length g] #[.slice j s.length g] rfl rfl (fun i hi _=>by
   have:i=0:=by simpa using hi
   subst this;exact F) (by simp)
 refine⟨⟨r,1,[s],some ⟨wL.heap.size,0,none⟩,1,K,x,J,y,z,I,A,P,H,ExtX.box (q.trans b) m S,Q,QC.mono _ _ _ _ (a1i m (fun _ _ d=>a0i (a4J d)) fun k d hz=>?_) (mkx QC.mono R b),C.ext (SlV.elem (a0u.elem _)) L (fun _ _ d=>a4J d) (fun _ _ h=>h)⟩,(B.trans (a3k b (fun k d=>by simp[noY]at d) t)).trans (a3k m (fun _ d=>b4o d M) (Nat.le_trans t b.size))⟩;rcases Bool.or_eq_true _ _|>.mp (show(hSb X a c k||ob (some ⟨wL.heap.size,0,none⟩) k)=true from hz)with h|h
 ·exact a0i h
 ·have e:wL.heap.size=k:=by simpa[ob]using h
  have:=o.size;omega
theorem b4q(X:Nat->Bool)(w0:World)(bm l A p kc:Nat)(N:Int)(xo:Option Addr)(xl xc:Nat)(yo:Option Addr)(yl yc:Nat)(sm:Bool)(am:Option Addr)(nm cm:Nat)(dm:Option Addr)(km em:Nat)(x:Mat)(y:List Rat)(n c B:Nat)(done:List (List Int))(s:List Int)(W:World)(hX:HX X w0)(h5:Bx w0 bm #[.int .i64 N, .slice xo xl xc, .slice yo yl yc, .bool sm, .slice am nm cm, .slice dm km em] 144)(hm:a5G (mk X w0) (.agg #[.int .i64 N, .slice xo xl xc, .slice yo yl yc, .bool sm, .slice am nm cm, .slice dm km em]) (gmM x y c n))(l1:w0.heap.size<=l)(l2:w0.heap.size<=A)(g1:l<A)(f5:Shp n c x)(hy:y.length=n)(hn:n<=8)(hc:c<=4)(f9:BM B x)(g0:BR B y)(g8:1<=B)(hB:B<=510/\n*(2*B+1)<=6540)(i0:∀v∈s,0<=v/\v<(c:Int))(d9:s.length<=4)(i5:done.length<=4096)(hi:a5D X w0 l A p (a6j x y n) done W)(f6:Sl (a0u .i64) 1 W.cell? (some ⟨A+3,0,none⟩) s)(g7:A+6<=W.heap.size):Calls Tryz.prog 208 #[.slice (some ⟨A+3,0,none⟩) s.length kc, .pointer (some ⟨bm,0,none⟩), .pointer (some ⟨l,0,none⟩)] W (fun e W'=>e= .returned (.tuple #[])/\a5D X w0 l A p (a6j x y n) (done++[s]) W'/\b1s A W W'):=by
 obtain⟨q,m,t,O,sc,s1,a1,n1,c1,d1,k1,e1,H,c7,hE,c4,f4,c8⟩:=hi;obtain⟨i8,i2,g2⟩:=H.len;have e3:HX (hSb X l A) W:=fun k L=>by
  simp only[hSb,a4y,Bool.or_eq_true,beq_iff_eq,Bool.and_eq_true,decide_eq_true_eq]at L;have:=hE.size;rcases L with(h|h)|h
  ·have:=hX k h;omega
  ·omega
  ·omega
 have e4:HX (un (hSb X l A) O) W:=c8.unX e3;have h7:Le (mk X w0) (mk (un (hSb X l A) O) W):=b5S hE fun k L hz=>by
  rcases Bool.or_eq_true _ _|>.mp (show(hSb X l A k||ob O k)=true from hz)with h|h
  ·exact c0F l1 l2 L h
  ·rw[c8.ob_lt L]at h;cases h
 have h8:=a5G.mono _ _ _ _ h7 hm;have h4:=h5.ext0 hE;have V:=hid (b1v (un (hSb X l A) O) W _ x y n c B (some ⟨A+3,0,none⟩) s kc e4 h8 f6 f5 hy hn hc f9 g0 g8 hB i0 d9);have f0:=b0r f5 hy hn f9 g0 g8 hB i0 d9;have j0:Hid ((done++[s]).length=done.length+1):=hid (by simp);obtain⟨r,hr⟩:∃r,a6j x y n s=r:=⟨_,rfl⟩;rw[hr]at V f0;have b3:=hid hr;obtain⟨f,hf⟩:∃f,a6j x y n=f:=⟨_,rfl⟩;rw[hf]at H b3 |-;have d8:=hid f6;clear h8 hm f9 g0 f5 hy hr hf h7 f6;go_enter Tryz.func208,Tryz.ntmps208
 go_wp2_with ((with_reducible show wpList _ _ _ (⟨_, .load 144 _,_,_,_,_⟩::_) _ _);refine a2T b1r rfl h4 rfl ?_)
 refine V.out.mono ?_;rintro e w5 ⟨c3,u5,rfl,c9⟩;obtain⟨s6,a6,n6,c6,d6,k6,e6,rfl⟩:=c9.shape;have bN:=Bx.new w5 #[.bool false, .slice none 0 0, .slice none 0 0] 38;clear V h4 h5;have e7:=c4.ext0 c3;obtain⟨Q,Z⟩:∃Q,t.length=Q:=⟨_,rfl⟩;rw[Z]at c4 e7 i8 i2;go_wp2_with ((with_reducible show wpList _ _ _ (⟨_, .store 38 _ _,_,_,_,_⟩::_) _ _);refine a0a a0o rfl rfl bN rfl rfl (a1z _ _ _ _ _ _ _) ?_;intro w7 r1 r2;have a8:Ext w5 w7:=ExtX.box ((ExtX.refl w5).alloc _) r2 (Nat.le_refl _);have b7:=e7.ext0 a8;have q0:=r1.cell 0 rfl;have q1:=r1.cell 1 rfl;have q2:=r1.cell 2 rfl;have z1:w7.cell? ⟨l,1,none⟩=some (.bool s1):=b7.cell 1 rfl;have z2:w7.cell? ⟨l,1+1,none⟩=some (.slice a1 n1 c1):=b7.cell 2 rfl;have z3:w7.cell? ⟨l,1+2,none⟩=some (.slice d1 k1 e1):=b7.cell 3 rfl)
 have a3:=c3.trans a8;have h9:=hid (b5c (un (hSb X l A) O) w7 _ _ r q (e4.ext a3) ((mkx QC.mono c9 a8).qv (Nat.le_trans f0 (by decide))) ((mkx QC.mono f4 a3).qv (Nat.le_trans c7 (by decide))));refine h9.out.mono ?_;rintro e R ⟨a9,rfl⟩;have E:=a3.trans a9;have b8:=b7.ext0 a9;obtain⟨g4,f1⟩:∃g4,w5.heap.size=g4:=⟨_,rfl⟩;rw[f1]at r1;rw[f1];have r8:=r1.ext0 a9;have d3:ob (some ⟨l,0,none⟩) g4=false:=a0b (by have:=c4.lt;have:=c3.size;omega);have z8:R.cell? ⟨l,8,none⟩=some (.int .i64 (m:Int)):=b8.cell 8 rfl;have i1:=mkx QC.mono c9 (a8.trans a9);have a4:=mkx QC.mono f4 E;have a5:=c8.ext0 (SlV.elem (a0u.elem _)) E;have b1:=a3k E (fun k L=>by simp[noY]at L) g7;have a2:=hE.trans E;have P:A+6<=R.heap.size:=Nat.le_trans g7 E.size;have d0:=e3.ext E;have b4:=hid (by rw[a2m];exact(b7r d8.out (E.trans ((ExtX.refl R).drew))):Sl (a0u .i64) 1 (mk noY R.drew) (some ⟨A+3,0,none⟩) s);obtain⟨cc,e8⟩:∃cc,b5b r q=cc:=⟨_,rfl⟩;have c5:=b2l r q;rw[e8];rw[e8]at c5;clear e8 h9 b7 e7 c4 f4 c8 c9 r1 r2 q0 q1 q2 z1 z2 z3 bN hE a3 a9 a8 c3 E f1 e4 e3 d8;by_cases hA:m=0\/r<q
 ·have d4:=hid (H.new s (by rw[b3.out];exact hA))
  rw[b3.out]at d4;have w:ob (some ⟨l,0,none⟩) g4=false:=d3;have i6:m=0\/(((m:Int)==0)=false/\cc= -1):=by
   rcases hA with h|h
   ·exact .inl h
   ·by_cases h0:m=0
    ·exact .inl h0
    ·refine .inr ⟨a2H (by omega),?_⟩
     rcases c5 with⟨h1,_⟩|⟨_,h1⟩|⟨_,h1⟩
     ·exact h1
     ·rw[h1]at h;exact absurd h Rat.lt_irrefl
     ·exact absurd h (Rat.not_lt.2 (Rat.le_of_lt h1))
  clear hA c5 H;have y0:=r8.cell 0 rfl;have y1:=r8.cell 1 rfl;have y2:=r8.cell 2 rfl;have e2:R.drew.cell? ⟨g4,0,none⟩=some (.bool s6)/\R.drew.cell? ⟨g4,1,none⟩=some (.slice a6 n6 c6)/\R.drew.cell? ⟨g4,2,none⟩=some (.slice d6 k6 e6):=⟨y0,y1,y2⟩;rcases i6 with rfl|⟨hz,rfl⟩
  all_goals
   go_upto_region 3 with fail
   refine a0z 9 (fun w'=>w'.cell? ⟨g4,0,none⟩=some (.bool s6)/\w'.cell? ⟨g4,1,none⟩=some (.slice a6 n6 c6)/\w'.cell? ⟨g4,2,none⟩=some (.slice d6 k6 e6)) (by kernel_rfl) (by kernel_rfl) e2 (fun a b=>?_);refine kt 0 b ?_;refine kt 1 b ?_;refine kt 4 b ?_;refine ks 2 (fun K d=>?_);go_simp
   go_at_call 122;refine(a4V noY (some ⟨A+3,0,none⟩) s kc R.drew b4.out (by omega) (b2r _)).mono ?_;rintro ee G ⟨b0,bo,bc,rfl,b2,hC⟩
   refine kcn d ⟨b0.cell a.1,b0.cell a.2.1,b0.cell a.2.2⟩ (fun a=>?_);clear d K;have b9:=(b8.ext0 ((ExtX.refl R).drew)).ext0 b0;have F:=hid (fun wL wE P1 P2 hb=>b9g (p:=p) (wL:=wL) (wE:=wE) d4.out f0 a2.drew (b1.trans (a3k ((ExtX.refl (Y:=noY) R).drew) (fun k L=>by simp[noY]at L) P)) (d0.ext ((ExtX.refl (Y:=noY) R).drew)) b0 (mkx QC.mono i1 ((ExtX.refl R).drew)) b2 hC P1 P2 hb l1 g1 P);refine a0N (i:=3) (j:=5) (oi:=⟨_,_,_,_,_,_⟩) (oj:=⟨_,_,_,_,_,_⟩) (by kernel_rfl) rfl rfl (fun K d=>?_) (fun K d=>?_)
   ·skip
    go_simp
    skip
    refine kcn d ⟨((ExtX.refl (Y:=noY) G).alloc _).cell a.1,((ExtX.refl (Y:=noY) G).alloc _).cell a.2.1,((ExtX.refl (Y:=noY) G).alloc _).cell a.2.2⟩ (fun a=>?_);clear d K;have bA:=b9.ext0 ((ExtX.refl (Y:=noY) G).alloc (.cells #[.slice bo s.length bc] 22));refine ks 5 (fun K d=>?_);refine a2R rfl rfl a0o rfl rfl bA (by show 1+3<=10;omega) rfl (a1z _ _ _ _ _ _ _) ?_;intro v1 x1 x2;refine d.out _ _ ⟨x2.cellY a.1 w,x2.cellY a.2.1 w,x2.cellY a.2.2 w⟩ (fun a=>?_);clear d K
    (try simp only[Act.put])
    have I:Bx v1 l (a5C p s6 a6 n6 c6 d6 k6 e6 O Q sc _) 152:=x1;refine kt 6 b ?_;refine ks 7 (fun K d=>?_);refine a1p (i:=8) rfl rfl a9B rfl rfl rfl rfl I (by show 8<10;omega) ?_;intro v2 x3 x4;refine d.out _ _ ⟨x4.cellY a.1 w,x4.cellY a.2.1 w,x4.cellY a.2.2 w⟩ (fun a=>?_);clear d K
    (try simp only[Act.put])
    have S:Bx v2 l (a5C p s6 a6 n6 c6 d6 k6 e6 O Q sc 1) 152:=x3;refine kt 8 b ?_;refine kl 9 (fun K d=>?_);refine a1p (i:=7) rfl rfl a8x rfl rfl rfl rfl S (by show 7<10;omega) ?_;intro v3 x5 x6;refine d.out _ _ ?_;clear d K
    (try simp only[Act.put])
    have U:Bx v3 l (a5C p s6 a6 n6 c6 d6 k6 e6 (some ⟨G.heap.size,0,none⟩) 1 1 1) 152:=x5;have o:=hid (F.out G v3 (ExtX.refl _) (x2.trans (x4.trans x6)) U);clear F x1 I x3 S x5 U;go_wp2_with fail
    go_end0
    exact⟨rfl,o.out⟩
   ·skip
    refine a2R rfl rfl a0o rfl rfl b9 (by show 1+3<=10;omega) rfl (a1z _ _ _ _ _ _ _) ?_;intro v1 x1 x2;refine d.out _ _ ⟨x2.cellY a.1 w,x2.cellY a.2.1 w,x2.cellY a.2.2 w⟩ (fun a=>?_);clear d K
    (try simp only[Act.put])
    have I:Bx v1 l (a5C p s6 a6 n6 c6 d6 k6 e6 O Q sc _) 152:=x1;refine kt 6 b ?_;refine a0N (i:=3) (j:=7) (oi:=⟨_,_,_,_,_,_⟩) (oj:=⟨_,_,_,_,_,_⟩) (by kernel_rfl) rfl rfl (fun K d=>?_) (fun K d=>?_)
    ·skip
     go_simp
     skip
     refine kcn d ⟨((ExtX.refl (Y:=noY) v1).alloc _).cell a.1,((ExtX.refl (Y:=noY) v1).alloc _).cell a.2.1,((ExtX.refl (Y:=noY) v1).alloc _).cell a.2.2⟩ (fun a=>?_);clear d K;have bA:=I.ext0 ((ExtX.refl (Y:=noY) v1).alloc (.cells #[.slice bo s.length bc] 22));refine ks 7 (fun K d=>?_);refine a1p (i:=8) rfl rfl a9B rfl rfl rfl rfl bA (by show 8<10;omega) ?_;intro v2 x3 x4;refine d.out _ _ ⟨x4.cellY a.1 w,x4.cellY a.2.1 w,x4.cellY a.2.2 w⟩ (fun a=>?_);clear d K
     (try simp only[Act.put])
     have S:Bx v2 l (a5C p s6 a6 n6 c6 d6 k6 e6 O Q sc 1) 152:=x3;refine kt 8 b ?_;refine kl 9 (fun K d=>?_);refine a1p (i:=7) rfl rfl a8x rfl rfl rfl rfl S (by show 7<10;omega) ?_;intro v3 x5 x6;refine d.out _ _ ?_;clear d K
     (try simp only[Act.put])
     have U:Bx v3 l (a5C p s6 a6 n6 c6 d6 k6 e6 (some ⟨v1.heap.size,0,none⟩) 1 1 1) 152:=x5;have o:=hid (F.out v1 v3 x2 (x4.trans x6) U);clear F x1 I x3 S x5 U;go_wp2_with fail
     go_end0
     exact⟨rfl,o.out⟩
    ·skip
     refine a1p (i:=8) rfl rfl a9B rfl rfl rfl rfl I (by show 8<10;omega) ?_;intro v2 x3 x4;refine d.out _ _ ⟨x4.cellY a.1 w,x4.cellY a.2.1 w,x4.cellY a.2.2 w⟩ (fun a=>?_);clear d K
     (try simp only[Act.put])
     have S:Bx v2 l (a5C p s6 a6 n6 c6 d6 k6 e6 O Q sc 1) 152:=x3;refine ks 3 (fun K d=>?_);go_simp
     skip
     refine kcn d ⟨((ExtX.refl (Y:=noY) v2).alloc _).cell a.1,((ExtX.refl (Y:=noY) v2).alloc _).cell a.2.1,((ExtX.refl (Y:=noY) v2).alloc _).cell a.2.2⟩ (fun a=>?_);clear d K;have bA:=S.ext0 ((ExtX.refl (Y:=noY) v2).alloc (.cells #[.slice bo s.length bc] 22));refine kt 8 b ?_;refine kl 9 (fun K d=>?_);refine a1p (i:=7) rfl rfl a8x rfl rfl rfl rfl bA (by show 7<10;omega) ?_;intro v3 x5 x6;refine d.out _ _ ?_;clear d K
     (try simp only[Act.put])
     have U:Bx v3 l (a5C p s6 a6 n6 c6 d6 k6 e6 (some ⟨v2.heap.size,0,none⟩) 1 1 1) 152:=x5;have o:=hid (F.out v2 v3 (x2.trans x4) x6 U);clear F x1 I x3 S x5 U;go_wp2_with fail
     go_end0
     exact⟨rfl,o.out⟩
 ·have h0:0<m:=by
   by_cases h:m=0
   ·exact absurd (.inl h) hA
   ·omega
  have hz:((m:Int)==0)=false:=a2H (by omega);have f2:¬r<q:=fun h=>hA (.inr h);rcases c5 with⟨_,h⟩|⟨rfl,h⟩|⟨rfl,h⟩
  ·exact absurd h f2
  ·have e0:=H.tie s h0 (by rw[b3.out];exact h)
   obtain⟨y1,y2⟩:=a0P b8 (.int .i64 ((m:Int)+1)) (i:=8) (by show 8<10;omega);have e9:((m:Int)+1)=((m+1:Nat):Int):=by omega
   have a7:Bx (R.setCell ⟨l,8,none⟩ (.int .i64 ((m:Int)+1))) l (a5C p s1 a1 n1 c1 d1 k1 e1 O Q sc (m+1)) 152:=by
    have:Bx (R.setCell ⟨l,8,none⟩ (.int .i64 ((m:Int)+1))) l #[.int .i64 (p:Int), .bool s1, .slice a1 n1 c1, .slice d1 k1 e1, .bool false, .slice none 0 0, .slice none 0 0, .slice O Q sc, .int .i64 ((m:Int)+1), .bool true] 152:=y1;rw[e9]at this |-;exact this
   have f8:=b8.frozen 8;obtain⟨G,f7⟩:∃G,R.setCell ⟨l,8,none⟩ (.int .i64 ((m:Int)+1))=G:=⟨_,rfl⟩;rw[f7]at a7 y2;have z7:G.cell? ⟨l,7,none⟩=some (.slice O Q sc):=a7.cell 7 rfl;have g5:Ext w0 G:=ExtX.box a2 y2 l1;have d7:QC (mk (un (hSb X l A) O) G) (.agg #[.bool s1, .slice a1 n1 c1, .slice d1 k1 e1]) q:=QC.mono _ _ _ _ (a0v y2 fun _ L=>a0i (a4J L)) a4;have M:=a5.ext (SlV.elem (a0u.elem _)) y2 (fun _ _ L=>a4J L) (fun _ _ h=>h);have g9:=b1.trans (a3k y2 (fun _ L=>b4o L g1) P);have b5:A+6<=G.heap.size:=Nat.le_trans P y2.size;have d2:HX (hSb X l A) G:=d0.ext y2;have i9:m<=4096:=Nat.le_trans g2 i5;have C:=hid (And.intro e0 e9);clear hA H f2 h d3 y1 e9 e0 i1 r8;by_cases g6:Q<64
   ·rw[Z,if_pos g6]at C
    have i7:=hid (by rw[a2m];exact b7r (by rw[<-a2m];exact b6x (by rw[<-a2m];exact b4.out) y2 (by omega)) ((ExtX.refl (Y:=noY) G).drew):Sl (a0u .i64) 1 (mk noY G.drew) (some ⟨A+3,0,none⟩) s);have h6:(t++[s]).length=Q+1:=by rw[List.length_append,Z];rfl
    have d5:ob O l=false:=M.not_ob (by simp[hSb]);have o:=hid (fun(u c0 c2:World) a0 b6 (z:Ext G u) (D:ExtX (ob O) u c0) (f3:a0=O\/∃g,a0=some ⟨g,0,none⟩/\u.heap.size<=g) (hO:OL (SlV (a0u .i64) 1) 1 (hSb X l A) w0.heap.size 22 c0 a0 b6 (t++[s])) (hD:ExtX (ob (some ⟨l,0,none⟩)) c0 c2) (hb:Bx c2 l (a5C p s1 a1 n1 c1 d1 k1 e1 a0 (Q+1) b6 (m+1)) 152)=>
     b4p (X:=X) (p:=p) C.out.1 c7 ((g5.trans z).own (M.ext0 (SlV.elem (a0u.elem _)) z) (Nat.le_refl _) D) ((g9.trans (a3k z (fun k L=>by simp[noY]at L) b5)).trans (a3k D (fun k L=>by
      cases hh:a4y A k
      ·rfl
      ·rw[M.not_ob (b0s hh)]at L;cases L) (Nat.le_trans b5 z.size))) hD (by rw[h6];exact hb) (QC.mono _ _ _ _ (a3o D f3) (mkx QC.mono d7 z)) hO l1 g1 (Nat.le_trans (Nat.le_trans b5 z.size) D.size))
    have i3:=hid (fun u (h:Ext G u)=>M.ext0 (SlV.elem (a0u.elem _)) h);have e2:G.drew.cell? ⟨l,7,none⟩=some (.slice O Q sc):=z7;have i4:=hid (fun(u:World) (T:TypeId) bo bc (b2:s.length<=bc) (h:OL (a0u .i64) 1 noY G.drew.heap.size T u bo bc s)=>a9u (M.unX d2) (Nat.le_refl _) b2 h);have h3:=hid (fun u (h:Ext G u)=>a7.ext0 h);have hdr:Ext G G.drew:=(ExtX.refl G).drew;clear C b4 y2 d7 M g9 a4 a5 b1 a7;go_upto_region 7 with((with_reducible show wpList _ _ _ (⟨_, .store 3 _ _,_,_,_,_⟩::_) _ _);refine b0l a9B rfl rfl rfl rfl z8 f8 ?_;rw[f7])
    refine a0z 7 (fun w'=>w'.cell? ⟨l,7,none⟩=some (.slice O Q sc)) (by kernel_rfl) (by kernel_rfl) e2 (fun a b=>?_);refine kt 0 b ?_;refine kt 1 b ?_;refine kt 2 b ?_;refine ks 3 (fun K d=>?_);go_simp
    go_at_call 122;refine(a4V noY (some ⟨A+3,0,none⟩) s kc G.drew i7.out (by omega) (b2r _)).mono ?_;rintro ee u ⟨z,bo,bc,rfl,b2,hC⟩
    refine kcn d (z.cell a) (fun a=>?_);clear d K;have J:=hdr.trans z;refine ks 4 (fun K d=>?_);go_simp
    skip
    refine kcn d (((ExtX.refl (Y:=noY) u).alloc _).cell a) (fun a=>?_);clear d K;refine ks 5 (fun K d=>?_);refine a1D rfl rfl b7q rfl (SlV.elem (a0u.elem _)) (Nat.le_trans g5.size J.size) (d2.ext J) Q Z rfl rfl (i3.out u J) (.slice bo s.length bc) s rfl (i4.out u _ bo bc b2 hC) (by omega) (by omega) ?_;intro a0 b6 c0 h2 D f3;refine kcn d (D.cellY ((h3.out u J).cell 7 rfl) d5) (fun a=>?_);clear d K;refine kt 6 b ?_;have g3:=(h3.out u J).ext D d5;refine kl 7 (fun K d=>?_);refine a1p (i:=7) rfl rfl a8x rfl rfl rfl rfl g3 (by show 7<10;omega) ?_;intro c2 x1 x2;refine d.out _ _ ?_;clear d K
    (try simp only[Act.put])
    have I:Bx c2 l (a5C p s1 a1 n1 c1 d1 k1 e1 a0 (Q+1) b6 (m+1)) 152:=x1;have F:=hid (o.out u c0 c2 a0 b6 J D f3 h2 x2 I);clear o x1 I g3;go_wp2_with fail
    go_end0
    exact⟨rfl,F.out⟩
   ·rw[Z,if_neg g6]at C
    have o:=hid (b4p (X:=X) (p:=p) C.out.1 c7 a2 b1 y2 (by rw[Z];exact a7) a4 a5 l1 g1 P);clear C a7 y2;go_wp2_with ((with_reducible show wpList _ _ _ (⟨_, .store 3 _ _,_,_,_,_⟩::_) _ _);refine b0l a9B rfl rfl rfl rfl z8 f8 ?_;rw[f7])
    go_end0
    exact⟨rfl,o.out⟩
  ·have o:=hid ((⟨⟨q,m,t,O,sc,s1,a1,n1,c1,d1,k1,e1,H.more s h0 (by rw[b3.out];exact h),c7,a2,by rw[Z];exact b8,a4,a5⟩,b1⟩:a5D X w0 l A p f (done++[s]) R/\b1s A W R))
   clear hA f2 h;go_wp2_with fail
   go_end0
   exact⟨rfl,o.out⟩
end Go.Proofs.YtgbbpgflopajaaaGreat
namespace Go.Lin
open Go.Lim Go.Rep
theorem a7h{x:Mat}{y:List Rat}:b7f x y=true↔(1<=x.length/\x.length<=64/\y.length=x.length)/\a6M x 1 12=true:=by
 unfold b7f;rw[Bool.and_eq_true,decide_eq_true_eq]
theorem b4r{x:Mat}{y:List Rat}:b7f x y=true↔a6x x y=true:=by
 rw[a7h,a2f,a4r,a1L];constructor
 ·rintro ⟨⟨b,c,d⟩,a⟩
  refine⟨⟨by omega,fun i hi=>?_⟩,b,c,?_,d⟩
  ·have:=a i hi;omega
  ·have:=a 0 (by omega);omega
 ·rintro ⟨⟨e,a⟩,b,c,f,d⟩
  exact⟨⟨b,c,d⟩,fun i hi=>by have:=a i hi;omega⟩
structure SizeT where
 p:Nat
 q:Rat
 cnt:Nat
 t:List (List Int)
def c1y(f:List Int->Rat)(c p:Nat)(z:SizeT):Prop:=z.p=p/\a8w f (a1P c p 0) z.q z.cnt z.t/\hq z.q<=600000000
end Go.Lin
namespace Go.Rep
open Go.RowKit Go.Lim Go.Lin
def a6t(h:Mem)(u:Value)(z:SizeT):Prop:=
 ∃s a n c d k e s2 a2 n2 c2 d2 k2 e2 so sc,u= .agg #[.int .i64 (z.p:Int), .bool s, .slice a n c, .slice d k e, .bool s2, .slice a2 n2 c2, .slice d2 k2 e2, .slice so z.t.length sc, .int .i64 (z.cnt:Int), .bool true]/\QC h (.agg #[.bool s, .slice a n c, .slice d k e]) z.q/\QC h (.agg #[.bool s2, .slice a2 n2 c2, .slice d2 k2 e2]) z.q/\z.t.length<=sc/\Sl (SlV (a0u .i64) 1) 1 h so z.t
theorem a6t.mono:a3R a6t:=by
 rintro h x u z b ⟨s,a,n,c,d,k,e,t,f,r,g,i,q,j,w,v,rfl,l,m,o,p⟩;exact⟨s,a,n,c,d,k,e,t,f,r,g,i,q,j,w,v,rfl,QC.mono _ _ _ _ b l,QC.mono _ _ _ _ b m,o,p.mono (SlV.mono (a0u.mono _) _) b⟩
theorem a6t.elem:Elem a6t 10:=
 ⟨a6t.mono,by rintro h u x ⟨s,a,n,c,d,k,e,o,f,m,g,i,l,j,q,p,rfl,_⟩;rfl,by
  rintro h u x ⟨s,a,n,c,d,k,e,o,f,m,g,i,l,j,q,p,rfl,_⟩ v b;simp[a0j,Value.cells]at b;rcases b with rfl|rfl|rfl|rfl|rfl|rfl|rfl|rfl|rfl|rfl<;>rfl,by decide⟩
end Go.Rep
namespace Go.Proofs.YtgbbpgflopajaaaGreat
open Go.RowKit Go.Rep Go.Lim Go.Lin
theorem b4s:SliceT Tryz.prog 148 152 10 160 (.agg #[.int .i64 0, .bool false, .slice none 0 0, .slice none 0 0, .bool false, .slice none 0 0, .slice none 0 0, .slice none 0 0, .int .i64 0, .bool false]):=⟨Tryz.underlying148,by kernel_rfl⟩
theorem b7s:a1F Tryz.prog 152 10:=by
 obtain⟨c,a,_,b,_⟩:=info_parts b4s.info;exact⟨_,c,Tryz.underlying152,a,b⟩
def c0G(X:Nat->Bool)(w:World)(f:List Int->Rat)(c:Nat)(e:Ending)(w':World):Prop:=Ext w w'/\∃ao cap L,e= .returned (.tuple #[.slice ao (c+1) cap, .int .i64 0])/\c+1<=cap/\L.length=c+1/\Sl a6t 10 (mk X w') ao L/\∀p (h:p<L.length),c1y f c p L[p]
theorem b6z(X:Nat->Bool)(w:World)(u v:Value)(x:Mat)(y:List Rat)(n c B:Nat)(bud:Int)(hX:HX X w)(hu:MV (mk X w) u x)(hv:RV (mk X w) v y)(hok:b7f x y=true)(hsh:Shp n c x)(hn:n<=8)(hc:c<=4)(hxB:BM B x)(hyB:BR B y)(hB1:1<=B)(hB:B<=510/\n*(2*B+1)<=6540)(hb1:1<=bud)(hb2:bud<=1048576):Calls Tryz.prog 125 #[u,v, .int .i64 bud] w (c0G X w (a6j x y n) c):=by
 obtain⟨⟨h1,h64,hyx⟩,hsm⟩:=a7h.1 hok;have hls:=b4r.1 hok;have hy:y.length=n:=by rw[hyx,hsh.1]
 have hcc:colsL x=c:=by
  have h0:0<x.length:=by omega
  rw[<-(a4r.1 hsm 0 h0).1];exact hsh.2 _ (List.getElem_mem _)
 have hde:=a6Z X w u v x y hu hv (by omega) (by omega);rw[hok]at hde;have hga:=a7I X w u v x y n c B hX hu hv hls hsh.1 hcc hn hc hxB hyB hB1 hB;have hcb:=hid (fun(Y:Nat->Bool) (w0:World) bm bs B0 p kc N xo xl xc yo yl yc sm am nm cm dm km em done (s:List Int) W h1 h2 h3 h4 h5 h6 hsb hsl=>b4q Y w0 bm bs B0 p kc N xo xl xc yo yl yc sm am nm cm dm km em x y n c B done s W h1 h2 h3 h4 h5 h6 hsh hy hn hc hxB hyB hB1 hB hsb hsl);obtain⟨ua,uc,rfl,huc,hus⟩:=hu;obtain⟨va,vc,rfl,hvc,hvs⟩:=hv;have hhu:=hus.hd;obtain⟨a0,c0,hX0,hc0,hcl0,hq0⟩:=hus.row 0 (by omega);rw[hsh.2 (x[0]'(by omega)) (List.getElem_mem _)]at hc0 hcl0;obtain⟨f,hf⟩:∃f,a6j x y n=f:=⟨_,rfl⟩;rw[hf]at hcb |-;obtain⟨xn,hxn⟩:∃xn,x.length=xn:=⟨_,rfl⟩;obtain⟨yn,hyn⟩:∃yn,y.length=yn:=⟨_,rfl⟩;rw[hxn]at hde hga hhu h1 |-;rw[hyn]at hde hga |-;have hcl:Hid (∀p,p<=c->(a1P c p 0).length<=4096):=hid fun p hp=>by
  have h1:=a3j c p 0;have h2:=c0E (n:=c) (k:=p) (by omega) (by omega);rw[h1];exact Nat.le_trans (b1z c p) (Nat.le_trans (Nat.pow_le_pow_left hc p) (Nat.le_trans (Nat.pow_le_pow_right (by decide) (show p<=4 by omega)) (by decide)))
 have hhu':Hd ua xn:=hhu;clear hxn hyn hok hsm hls hy hcc hxB hyB hus hvs hq0 h64 hyx hsh;go_enter Tryz.func125,Tryz.ntmps125
 go_wp2_with fail
 refine hde.mono ?_;rintro e w1 ⟨rfl,rfl⟩;go_wp2_with fail
 refine hga.mono ?_;rintro e w2 ⟨hE2,um,rfl,hm⟩;have hm':=hid hm;obtain⟨mo,ml,mc,yo,yl,yc,sm,am,nm,cm,dm,km,em,rfl,_,_,_⟩:=hm;obtain⟨N,hN⟩:∃N,(gmM x y c n).n=N:=⟨_,rfl⟩;rw[hN]at hm';rw[hN];have bM:=Bx.new w2 #[.int .i64 0, .slice none 0 0, .slice none 0 0, .bool false, .slice none 0 0, .slice none 0 0] 144;clear hde hga;go_wp2_with ((with_reducible show wpList _ _ _ (⟨_, .store 144 _ _,_,_,_,_⟩::_) _ _);refine a0a b1r rfl rfl bM rfl rfl (c1s _ _ _ _ _ _ _ _ _ _ _ _ _ _) ?_;intro w3 m1 m2;have hE3:Ext w2 w3:=ExtX.box ((ExtX.refl w2).alloc _) m2 (Nat.le_refl _))
 have hm3:=a5G.mono _ _ _ _ (a0m hE3) hm'.out;have hE03:=hE2.trans hE3;obtain⟨bm,hbm⟩:∃bm,w2.heap.size=bm:=⟨_,rfl⟩;rw[hbm]at m1;rw[hbm];have hX3:=hX.ext hE03;clear m2 bM hbm hN hm';have hst:=hid (fun(wr:World) (oo:Option Addr) (h:Ext w3 wr) (hb:∀j,j<w3.heap.size->ob oo j=false)=>a4F a5G.mono hm3 h hb);have hbml:bm<w3.heap.size:=m1.lt;have hbx3:=hid (fun wr (h:Ext w3 wr)=>m1.ext0 h);clear hm3 m1;go_wp2_with fail
 go_loopw [9,10] (fun o cx wr=>∃(p:Nat) (oo:Option Addr) (co:Nat) (L:List SizeT),cx= .int .i64 p/\o= .slice oo p co/\p<=c+1/\L.length=p/\OL a6t 10 X w3.heap.size 152 wr oo co L/\(∀j (h:j<L.length),c1y f c j L[j])/\Ext w3 wr) (fun _ cx _=>c+1 - (intOf cx).toNat)
 case atStart=>exact⟨0,none,0,[],rfl,rfl,Nat.zero_le _,rfl,OL.nil _ _ _ _ _ _,fun j h=>absurd h (by simp),ExtX.refl _⟩
 case round=>
  obtain⟨p,oo,co,L,rfl,rfl,hp,hL,hO,hLo,hE⟩:=hrel;have hXr:HX X wr:=hX3.ext hE;have k00:=hc0.out noY wr (hE03.trans hE) rfl;by_cases hlt:p<=c
  ·have hL':=hid hL
   have hLo':=hid hLo;have hXo:=hO.unX hXr;have hmr:=hst.out wr oo hE (fun j hj=>hO.ob_lt hj);have hbr:=hbx3.out wr hE;have bS:=Bx.new wr #[.int .i64 0, .bool false, .slice none 0 0, .slice none 0 0, .bool false, .slice none 0 0, .slice none 0 0, .slice none 0 0, .int .i64 0, .bool false] 152;clear hL hLo;go_wp2_with (first|(with_reducible refine a0s a0p (by omega) (by assumption) ?_)|((with_reducible show wpList _ _ _ (⟨_, .store 152 _ _,_,_,_,_⟩::_) _ _);refine a0a b7s rfl rfl bS rfl rfl (by intro v hv;simp at hv;rcases hv with rfl|rfl|rfl|rfl|rfl|rfl|rfl|rfl|rfl|rfl<;>rfl) ?_;intro w4 r1 r2;have hE4:Ext wr w4:=ExtX.box ((ExtX.refl wr).alloc _) r2 (Nat.le_refl _);have k04:=hE4.cell k00))
   have hlt4:wr.heap.size<w4.heap.size:=r1.lt;obtain⟨g,hg⟩:∃g,wr.heap.size=g:=⟨_,rfl⟩;rw[hg]at r1 hlt4;have hg':=hid hg;have hsub:=hid (b0m 208 c p #[.pointer (some ⟨bm,0,none⟩), .pointer (some ⟨g,0,none⟩)] (fun done W=>a5D (un X oo) wr g w4.heap.size p f done W) w4 (fun _ _=>rfl) (by omega) (by omega)
    (fun done W W' hi hE=>hi.own hE hE4.size hlt4)
    (fun done s W hi hss hsl hB9=>by
     obtain⟨rest,hrest⟩:=hss;have hmem:s∈a1P c p 0:=by rw[<-hrest];simp
     obtain⟨m1,m2,_⟩:=a6Y c p 0 s hmem;have hdl:done.length<=4096:=by
      have h:=hcl.out p hlt;rw[<-hrest]at h;simp at h;omega
     exact hcb.out (un X oo) wr bm g w4.heap.size p p N mo ml mc yo yl yc sm am nm cm dm km em done s W hXo hbr hmr (Nat.le_of_eq hg'.out) hE4.size hlt4 (fun v hv=>by have:=m2 v hv;omega) (by omega) hdl hi hsl hB9)
    ⟨0,0,[],none,0,false,none,0,0,none,0,0,a8w.zero f 0,by rw[a0X];decide,hE4,r1,QC.zero _,OL.nil _ _ _ _ _ _⟩)
   rw[hg];clear hmr hbr r1 r2 bS hcb hst hbx3 hcl hg;refine hsub.out.mono ?_;rintro e w5 ⟨rfl,q,cnt,t,so,sc,s1,a1,n1,c1,d1,k1,e1,hI,hqq,hE5,hb5,hr5,ho5⟩;clear hsub k00 k04 hE4;have k05:=hc0.out noY w5 ((hE03.trans hE).trans hE5) rfl;have hXm:HX (un (un (un X oo) so) (some ⟨g,0,none⟩)) w5:=a1e (a3g (HX.ext hXo hE5) fun k hk=>(ho5.block hk).2) hb5.lt;have hm1:∀k,un (un (un X oo) so) (some ⟨g,0,none⟩) k=true->un (hSb (un X oo) g w4.heap.size) so k=true:=fun k hk=>by
    rcases Bool.or_eq_true _ _|>.mp (show(un (un X oo) so k||ob (some ⟨g,0,none⟩) k)=true from hk)with h|h
    ·rcases Bool.or_eq_true _ _|>.mp (show(un X oo k||ob so k)=true from h)with h|h
     ·exact a0i (b9f h)
     ·exact a0r h
    ·exact a0i (a4J h)
   have hec:=hid (b7k (un (un (un X oo) so) (some ⟨g,0,none⟩)) w5 _ q hXm ((QC.mono _ _ _ _ (a1v fun k _ hk=>hm1 k hk) hr5).qv (Nat.le_trans hqq (by decide))));have z1:w5.cell? ⟨g,1,none⟩=some (.bool s1):=hb5.cell 1 rfl;have z2:w5.cell? ⟨g,1+1,none⟩=some (.slice a1 n1 c1):=hb5.cell 2 rfl;have z3:w5.cell? ⟨g,1+2,none⟩=some (.slice d1 k1 e1):=hb5.cell 3 rfl;clear hm1;go_wp2_with fail
   refine hec.out.mono ?_;rintro e w6 ⟨hE6,u6,rfl,hu6⟩;obtain⟨s6,a6,n6,c6,d6,k6,e6,rfl⟩:=hu6.shape;have b6:=hb5.ext0 hE6;clear hec z1 z2 z3 k05;obtain⟨tl,htl⟩:∃tl,t.length=tl:=⟨_,rfl⟩;have hlen:Hid ((L++[(⟨p,q,cnt,t⟩:SizeT)]).length=p+1):=hid (by rw[List.length_append,hL'.out];rfl);have hnew:Hid (∀j (h:j<(L++[(⟨p,q,cnt,t⟩:SizeT)]).length),c1y f c j (L++[(⟨p,q,cnt,t⟩:SizeT)])[j]):=hid fun j h=>by
    have hl:=hL'.out;by_cases hj:j<L.length
    ·rw[List.getElem_append_left hj];exact hLo'.out j hj
    ·have h2:=hlen.out
     have hjp:j=p:=by omega
     subst hjp;rw[List.getElem_append_right (by omega)];simp only[hl,Nat.sub_self,List.getElem_cons_zero];exact⟨rfl,hI,hqq⟩
   have hfin:=hid (fun(w7:World) (x2:ExtX (ob (some ⟨g,0,none⟩)) w6 w7)=>
    (⟨ExtX.box (hE5.trans hE6) x2 (Nat.le_of_eq hg'.out),s1,a1,n1,c1,d1,k1,e1,s6,a6,n6,c6,d6,k6,e6,so,sc,by rw[<-htl],QC.mono _ _ _ _ (a1v fun k _ hk=>a0i (b9f hk)) (QC.mono _ _ _ _ (a0v x2 fun _ hk=>a0i (a4J hk)) (mkx QC.mono hr5 hE6)),QC.mono _ _ _ _ (a1v fun k _ hk=>a0i (a0i hk)) (QC.mono _ _ _ _ (a0v x2 fun _ hk=>a0r hk) hu6),ho5.lenCap,((((ho5.sl (SlV.elem (a0u.elem _))).mono (SlV.mono (a0u.mono _) _) (a0m hE6)).mono (SlV.mono (a0u.mono _) _) (a0v x2 fun _ hk=>a4J hk)).mono (SlV.mono (a0u.mono _) _) (a1v fun k _ hk=>b9f hk))⟩:
     Ext wr w7/\a6t (mk (un X oo) w7) (.agg #[.int .i64 (p:Int), .bool s1, .slice a1 n1 c1, .slice d1 k1 e1, .bool s6, .slice a6 n6 c6, .slice d6 k6 e6, .slice so tl sc, .int .i64 (cnt:Int), .bool true]) ⟨p,q,cnt,t⟩))
   rw[htl]at b6;clear hr5 hu6 ho5 hb5 hI hqq htl hE6 hE5 hXm;go_wp2_with (first
    |((with_reducible show wpList _ _ _ (⟨_, .store 38 _ _,_,_,_,_⟩::_) _ _);refine a3O a0o rfl rfl b6 (by show 4+3<=10;omega) rfl (a1z _ _ _ _ _ _ _) ?_;intro w7 x1 x2;have x1':Bx w7 g #[.int .i64 (p:Int), .bool s1, .slice a1 n1 c1, .slice d1 k1 e1, .bool s6, .slice a6 n6 c6, .slice d6 k6 e6, .slice so tl sc, .int .i64 (cnt:Int), .bool true] 152:=x1;obtain⟨hE7,hS7⟩:=hfin.out w7 x2;have hO7:=hO.ext0 a6t.elem hE7;have hX7:=hXr.ext hE7;have hb7:=Nat.le_trans hE.size hE7.size)
    |((with_reducible show wpList _ _ _ (⟨_, .load 152 _,_,_,_,_⟩::_) _ _);refine a2T b7s rfl x1' rfl ?_)
    |(at_builtin;refine a0t (l:=L) b4s rfl a6t.elem hb7 hX7 p hL'.out rfl rfl hO7 (.agg #[.int .i64 (p:Int), .bool s1, .slice a1 n1 c1, .slice d1 k1 e1, .bool s6, .slice a6 n6 c6, .slice d6 k6 e6, .slice so tl sc, .int .i64 (cnt:Int), .bool true]) ⟨p,q,cnt,t⟩ rfl hS7 (by omega) (by omega) ?_;intro oo2 co2 w8 hO8 hE8 hor))
   have hE9:=(hE.trans hE7).own hO7 (Nat.le_refl _) hE8;go_roundw
   case rel=>exact⟨p+1,oo2,co2,_,by go_num,by go_num,by omega,hlen.out,hO8,hnew.out,hE9⟩
   case measure=>simp[intOf];omega
  ·have hpc:p=c+1:=by omega
   subst hpc;have hcap:=hO.lenCap;rw[hL]at hcap;have hout:=hid ((⟨hE03.trans hE,oo,co,L,rfl,hcap,hL,hO.sl a6t.elem,hLo⟩:c0G X w1 f c (.returned (.tuple #[.slice oo (c+1) co, .int .i64 0])) wr));clear hcap hL hLo hO;go_wp2_with (with_reducible refine a0s a0p (by omega) (by assumption) ?_)
   go_ret2
   exact hout.out
end Go.Proofs.YtgbbpgflopajaaaGreat
namespace Go.Lin
open Go.Lim Go.Rep
noncomputable def a2I(r l:List Rat)(i:Nat):Rat:=fn r i/(1 - fn l i)
noncomputable def prS(r l:List Rat)(n:Nat):Rat:=sm n fun i=>a2I r l i*a2I r l i
theorem b7t{r l:List Rat}{n:Nat}(w:r.length=n)(u:l.length=n)(v:n<=8)(d:BR 34100000 r)(e:BR 140000000 l):(∀i,i<n->hq (a2I r l i)<=175000000/\hq (a2I r l i*a2I r l i)<=350000000)/\∀k,k<=n->hq (sm k fun i=>a2I r l i*a2I r l i)<=2900000000:=by
 have a:∀i,i<n->hq (a2I r l i)<=175000000/\hq (a2I r l i*a2I r l i)<=350000000:=fun i hi=>by
  have b:fn r i=r[i]'(by omega):=by simp[fn,List.getD_eq_getElem?_getD,show i<r.length by omega]
  have c:fn l i=l[i]'(by omega):=by simp[fn,List.getD_eq_getElem?_getD,show i<l.length by omega]
  have g:=d (r[i]'(by omega)) (List.getElem_mem _);have h:=e (l[i]'(by omega)) (List.getElem_mem _);have j:=a6a 1 (l[i]'(by omega));have m:hq (1:Rat)<=1:=by decide+kernel
  have o:=hq_div (r[i]'(by omega)) (1 - l[i]'(by omega));have p:=hq_mul (a2I r l i) (a2I r l i);have q:hq (a2I r l i)<=175000000:=by unfold a2I;rw[b,c];omega
  omega
 refine⟨a,fun k t=>?_⟩;have:=a8n (n:=k) (B:=350000000) (f:=fun i=>a2I r l i*a2I r l i) fun i hi=>(a i (by omega)).2;have s:k*(350000000+1)<=8*350000001:=Nat.mul_le_mul (by omega) (by omega);omega
end Go.Lin
namespace Go.Proofs.YtgbbpgflopajaaaGreat
open Go.RowKit Go.Rep Go.Lim Go.Lin
theorem b1W.parts{h:Mem}{r:Int}{y:Option Addr}{x w:Nat}{q:Option Addr}{p o:Nat}{m:Option Addr}{l j:Nat}{s:Bool}{a:Option Addr}{n c:Nat}{d:Option Addr}{k e:Nat}{lo:Option Addr}{i g:Nat}{f:Go.Lin.Fit}(H:b1W h (.agg #[.int .i64 r, .slice y x w, .slice q p o, .slice m l j, .bool s, .slice a n c, .slice d k e, .slice lo i g]) f):RC h (.slice m l j) f.res/\QC h (.agg #[.bool s, .slice a n c, .slice d k e]) f.rss/\RC h (.slice lo i g) f.lev:=by
 obtain⟨_,_,_,_,_,_,_,_,_,_,_,_,_,_,_,_,_,_,b,_,_,_,t,u,v⟩:=H;simp only[Value.agg.injEq,Array.mk.injEq,List.cons.injEq,Value.bool.injEq,Value.slice.injEq,Value.int.injEq,and_true,true_and]at b;obtain⟨-,⟨-,-,-⟩,⟨-,-,-⟩,⟨rfl,rfl,rfl⟩,rfl,⟨rfl,rfl,rfl⟩,⟨rfl,rfl,rfl⟩,rfl,rfl,rfl⟩:=b;exact⟨t,u,v⟩
theorem a7i{X:Nat->Bool}{w b:World}{g:Nat}(h:HX X w)(d:Ext w b)(e:g<b.heap.size):HX (un X (some ⟨g,0,none⟩)) b:=fun k c=>by
 simp only[un,Bool.or_eq_true]at c;rcases c with a|a
 ·exact(h.ext d) k a
 ·have:g=k:=by simpa[ob]using a
  rw[<-this];exact e
abbrev crZ:Array Value:=#[.slice none 0 0, .bool false, .slice none 0 0, .slice none 0 0, .bool false, .slice none 0 0, .slice none 0 0, .bool false, .slice none 0 0, .slice none 0 0, .bool false, .slice none 0 0, .slice none 0 0]
theorem a2G:a1F Tryz.prog 78 13:=by
 have h:(Tryz.prog.info? 78).map (fun i=>(i.zero,i.size,i.bytes))=some (some (.agg crZ),13,248):=by kernel_rfl
 obtain⟨c,a,_,b,_⟩:=info_parts h;exact⟨_,c,Tryz.underlying78,a,b⟩
theorem a5E{o:Option Addr}{n c:Nat}{C:Bool}{a:Option Addr}{y f:Nat}{j:Option Addr}{t p:Nat}{D:Bool}{b:Option Addr}{z g:Nat}{k:Option Addr}{u q:Nat}{E:Bool}{d:Option Addr}{A h:Nat}{l:Option Addr}{w r:Nat}{F:Bool}{e:Option Addr}{B i:Nat}{m:Option Addr}{x s:Nat}:∀v∈(#[Value.slice o n c, .bool C, .slice a y f, .slice j t p, .bool D, .slice b z g, .slice k u q, .bool E, .slice d A h, .slice l w r, .bool F, .slice e B i, .slice m x s]:Array Value).toList,v.oneCell'=true:=by
 simp[Value.oneCell']
def c0H(X:Nat->Bool)(w:World)(x:Mat)(y:List Rat)(n c:Nat)(e:Ending)(w':World):Prop:=
 Ext w w'/\((∃vs:Array Value,vs.size=13/\(∀v∈vs.toList,v.oneCell'=true)/\e= .returned (.tuple #[.agg vs, .int .i64 7]))\/
  (c<n/\(a0J x c).2.length=c/\b4i y n≠0/\(∀i,i<n->fn (a3n x n c) i≠1)/\
   ∃o k cc s1 a1 n1 c1 d1 k1 e1 s2 a2 n2 c2 d2 k2 e2 s3 a3 n3 c3 d3 k3 e3 s4 a4 n4 c4 d4 k4 e4,e= .returned (.tuple #[.agg #[.slice o k cc, .bool s1, .slice a1 n1 c1, .slice d1 k1 e1, .bool s2, .slice a2 n2 c2, .slice d2 k2 e2, .bool s3, .slice a3 n3 c3, .slice d3 k3 e3, .bool s4, .slice a4 n4 c4, .slice d4 k4 e4], .int .i64 0])/\
    QC (mk X w') (.agg #[.bool s2, .slice a2 n2 c2, .slice d2 k2 e2]) (1 - a6j x y n (upL c)/(((n - c:Nat):Int):Rat)/(b4i y n/(((n - 1:Nat):Int):Rat)))/\
    QC (mk X w') (.agg #[.bool s4, .slice a4 n4 c4, .slice d4 k4 e4]) (prS (a2q x y (a0S x y n c)) (a3n x n c) n)))
end Go.Proofs.YtgbbpgflopajaaaGreat
