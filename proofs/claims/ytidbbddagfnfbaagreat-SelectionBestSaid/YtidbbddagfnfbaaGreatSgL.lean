/- Parts of a proof: each theorem states what it proves, and its conditions. -/
import Derived.Test.YtidbbddagfnfbaaGreatSgK
namespace Go.Lin
def a6d (m:Mom):Bool:=decide (0<=m.n/\m.n<=1099511627776)&&(a0H m.xx&&decide (m.xx.length=a0x m.xx/\m.xx.length=m.xy.length/\m.xy.length<=12))
def a9h (l:Mat) (k:Nat):Bool:=l.any fun r=>decide (r.length≠k)
theorem b1V {l:Mat} (h:a0H l=true):a9h l l.length=false↔l.length=a0x l:=by
 obtain⟨hs,_,_,_,hz⟩:=a0U h;unfold a9h;rw[List.any_eq_false];constructor
 ·intro a
  by_cases b:l.length=0
  ·rw[b,hz b]
  ·have:=a l[0] (List.getElem_mem (by omega))
   rw[hs.2 _ (List.getElem_mem _)]at this;have c:a0x l=l.length:=by simpa using this
   exact c.symm
 ·intro a r d
  rw[hs.2 r d];simp[a.symm]
def IxF (l:Mat) (k:Nat) (r:Int):Prop:=decide ((0:Int)<=r)=a9h l k
end Go.Lin
namespace Go.Proofs.YtidbbddagfnfbaaGreat
open Go.RowKit Go.Rep Go.Lim Go.Lin
theorem b6r (w:World) (a:Option Addr) (n c k b:Nat) (i:Option Addr) (g:Nat) (j:w.cell? ⟨b,1,none⟩=some (.slice i k g)):
  Calls Tryz.prog 271 #[.slice a n c, .pointer (some ⟨b,0,none⟩)] w (fun e w'=>w'=w/\e= .returned (.bool (decide (n≠k)))):=by
 by_cases h:n=k
 ·have hd:((n:Int) !=(k:Int))=false:=a6q (by omega)
  have d:=hid (decide_eq_false (fun f=>f h):decide (n≠k)=false);rw[d.out];clear h;go_enter Tryz.func271,Tryz.ntmps271
  go_wp2_with fail
  go_ret
  exact⟨rfl,rfl⟩
 ·have hd:((n:Int) !=(k:Int))=true:=a6X (by omega)
  have d:=hid (decide_eq_true h:decide (n≠k)=true);rw[d.out];clear h;go_enter Tryz.func271,Tryz.ntmps271
  go_wp2_with fail
  go_ret
  exact⟨rfl,rfl⟩
set_option maxRecDepth 100000 in
theorem b1W {R:Mem->Value->Rat->Prop} (X:Nat->Bool) (w:World) (a:Option Addr) (l:List (List Rat)) (n c k b:Nat) (C:Option Addr) (B:Nat) (hs:Sl (SlV R 3) 1 (mk X w) a l) (z:l.length=n) (K:n<=1000000) (G:w.cell? ⟨b,1,none⟩=some (.slice C k B)):
  Calls Tryz.prog 302 #[.slice a n c, .func (.func 271) #[] #[.pointer (some ⟨b,0,none⟩)]] w (fun e w'=>w'=w/\∃r:Int,e= .returned (.int .i64 r)/\IxF l k r):=by
 have L:Hd a n:=by have:=hs.hd;rw[z]at this;exact this
 have o:=hid z;clear z;go_enter Tryz.func302,Tryz.ntmps302
 go_wp2_with fail
 go_loopw [8] (fun q wr=>∃(i:Nat),q= .int .i64 i/\i<=n/\Hid (∀q (hq:q<l.length),q<i->l[q].length=k)/\wr=w) (fun q _=>n - (intOf q).toNat)
 case atStart=>exact⟨0,rfl,Nat.zero_le _,hid (fun q hq h=>by omega),rfl⟩
 case round=>
  obtain⟨i,rfl,hi,s,rfl⟩:=hrel;by_cases A:i<n
  ·have v:i<l.length:=by rw[o.out];exact A
   obtain⟨J,F,D,j,g,t⟩:=hs.row i v;have f:=j.out noY wr (ExtX.refl _) rfl;have d:=b6r wr J l[i].length F k b C B G;by_cases m:l[i].length=k
   ·have hd:Hid (decide (l[i].length≠k)=false):=hid (decide_eq_false (fun h=>h m))
    rw[hd.out]at d;have p:Hid (∀q (hq:q<l.length),q<i+1->l[q].length=k):=hid fun q hq E=>by
     by_cases e:q=i
     ·subst e;exact m
     ·exact s.out q hq (by omega)
    obtain⟨y,u⟩:∃y,l[i].length=y:=⟨_,rfl⟩;rw[u]at f d;clear m j t g u;go_wp2_with (with_reducible refine a0q a0s (by omega) (by assumption) ?_)
    refine d.mono ?_;rintro e H ⟨rfl,rfl⟩;clear f;go_wp2_with fail
    go_roundw
    case rel=>exact⟨i+1,by go_num,by omega,p,trivial⟩
    case measure=>simp[intOf];omega
   ·have hd:Hid (decide (l[i].length≠k)=true):=hid (decide_eq_true m)
    rw[hd.out]at d;have x:IxF l k (i:Int):=by
     unfold IxF a9h;rw[decide_eq_true (by omega)];symm;rw[List.any_eq_true];exact⟨l[i],List.getElem_mem _,by simpa using m⟩
    obtain⟨y,u⟩:∃y,l[i].length=y:=⟨_,rfl⟩;rw[u]at f d;clear m j t g u;go_wp2_with (with_reducible refine a0q a0s (by omega) (by assumption) ?_)
    refine d.mono ?_;rintro e H ⟨rfl,rfl⟩;clear f;go_wp2_with fail
    go_ret
    exact⟨rfl,_,rfl,x⟩
  ·have x:IxF l k (-1):=by
    unfold IxF a9h;rw[decide_eq_false (by omega)];symm;rw[List.any_eq_false];intro r I;obtain⟨q,hq,rfl⟩:=List.getElem_of_mem I;simp[s.out q hq (by rw[o.out]at hq;omega)]
   go_wp2_with fail
   go_ret
   exact⟨rfl,_,rfl,x⟩
set_option maxRecDepth 100000 in
theorem a8q {R:Mem->Value->Rat->Prop} (X:Nat->Bool) (w:World) (a:Option Addr) (l:List (List Rat)) (n c k b:Nat) (g:Option Addr) (h:Nat) (hs:Sl (SlV R 3) 1 (mk X w) a l) (o:l.length=n) (i:n<=1000000) (j:w.cell? ⟨b,1,none⟩=some (.slice g k h)):
  Calls Tryz.prog 270 #[.slice a n c, .func (.func 271) #[] #[.pointer (some ⟨b,0,none⟩)]] w (fun e w'=>w'=w/\e= .returned (.bool (a9h l k))):=by
 have f:=b1W X w a l n c k b g h hs o i j;unfold IxF at f;obtain⟨q,hq⟩:∃q,a9h l k=q:=⟨_,rfl⟩;rw[hq]at f |-;clear hq;go_enter Tryz.func270,Tryz.ntmps270
 go_wp2_with fail
 refine f.mono ?_;rintro e p ⟨rfl,r,rfl,d⟩;have m:=hid d.symm;clear f d;go_wp2_with fail
 go_ret
 exact⟨rfl,a0j m.out.symm⟩
set_option maxRecDepth 100000 in
set_option maxHeartbeats 1600000 in
theorem b0k (X:Nat->Bool) (w:World) (u:Value) (m:Mom) (hX:HX X w) (hu:b3H (mk X w) u m) (hl:m.xx.length<=1000000):
  Calls Tryz.prog 226 #[u] w (a8K w (a6d m)):=by
 obtain⟨xo,xl,xc,yo,yl,yc,s,a,n,c,d,k,e,rfl,hx,hy,hq⟩:=hu;obtain⟨W,hW,G,A,hz⟩:=a1g w #[.int .i64 m.n, .slice xo xl xc, .slice yo yl yc, .bool s, .slice a n c, .slice d k e] 173;have a3:HX X W:=hX.ext G;have I:=mkx MV.mono hx G;have g:Hid (∀b,b=(decide (0<=m.n/\m.n<=1099511627776)&&(a0H m.xx&&decide (m.xx.length=a0x m.xx/\m.xx.length=m.xy.length/\m.xy.length<=12)))->b=a6d m):=hid fun b h=>h;obtain⟨b2,a8,he,a1,hxs⟩:=I;simp only[Value.slice.injEq]at he;obtain⟨rfl,rfl,rfl⟩:=he;obtain⟨a9,a7,he,a2,a4⟩:=hy;simp only[Value.slice.injEq]at he;obtain⟨rfl,rfl,rfl⟩:=he;have I:MV (mk X W) (.slice xo m.xx.length xc) m.xx:=⟨xo,xc,rfl,a1,hxs⟩;obtain⟨b,hb⟩:∃b,w.heap.size=b:=⟨_,rfl⟩;rw[hb]at A hz;obtain⟨N,hN⟩:∃N,m.n=N:=⟨_,rfl⟩;obtain⟨M,hM⟩:∃M,a6d m=M:=⟨_,rfl⟩;rw[hN]at A g hW |-;rw[hM]at g |-;obtain⟨x,a0⟩:∃x,m.xx=x:=⟨_,rfl⟩;rw[a0]at A g hW I hxs hl |-;obtain⟨L,hL⟩:∃L,m.xy.length=L:=⟨_,rfl⟩;rw[hL]at A g hW |-;obtain⟨q,S⟩:∃q,x.length=q:=⟨_,rfl⟩;have a6:=hid S;have y:=hid fun w' (h:Ext W w')=>a8q (R:=QV) X w' xo x q xc q b xo xc (hxs.mono RV.mono (a0l h)) S (by omega) ((A.ext0 h).cell 1 (by rw[S];rfl));have Q:=a5V X W (.slice xo x.length xc) x q (a0x x) a3 I;have r:=a5U X W (.slice xo x.length xc) x I (by omega);have J:=hid fun(h:a0H x=true)=>b1V h;rw[S]at A g hW Q r hl J |-;obtain⟨B,hB⟩:∃B,a9h x q=B:=⟨_,rfl⟩;rw[hB]at y J;obtain⟨C,hC⟩:∃C,a0x x=C:=⟨_,rfl⟩;rw[hC]at Q g J;clear hx hN hM a0 hL S hB hC hxs I a4 a2 a1 hq;have k0:=A.cell 0 rfl;have k1:=A.cell 1 rfl;have k2:=A.cell 2 rfl;cases z:a0H x
 ·have K:=r z
  clear Q r y J;by_cases O:0<=N
  ·by_cases P:N<=1099511627776
   ·have v:=hid (g.out false (by rw[z,Bool.false_and,Bool.and_false]))
    clear g z;go_enter Tryz.func226,Tryz.ntmps226
    go_wp2_with fail
    refine K.mono ?_;rintro e o ⟨rfl,rfl⟩;have i:Ext w o:=G;go_wp2_with fail
    go_ret
    exact⟨i,a0j v.out⟩
   ·have v:=hid (g.out false (by rw[z,Bool.false_and,Bool.and_false]))
    clear g z;go_enter Tryz.func226,Tryz.ntmps226
    go_wp2_with fail
    refine K.mono ?_;rintro e o ⟨rfl,rfl⟩;have i:Ext w o:=G;go_wp2_with fail
    go_ret
    exact⟨i,a0j v.out⟩
  ·have v:=hid (g.out false (by rw[z,Bool.false_and,Bool.and_false]))
   clear g z;go_enter Tryz.func226,Tryz.ntmps226
   go_wp2_with fail
   refine K.mono ?_;rintro e o ⟨rfl,rfl⟩;have i:Ext w o:=G;go_wp2_with fail
   go_ret
   exact⟨i,a0j v.out⟩
 ·have p:=Q z rfl rfl
  have E:=J.out z;clear Q J;by_cases j:q=L
  ·cases B
   ·have F:=E.1 rfl
    clear E;by_cases O:0<=N
    ·by_cases P:N<=1099511627776
     ·by_cases Z:L<=12
      ·have v:=hid (g.out true (by rw[z,decide_eq_true ⟨O,P⟩,decide_eq_true ⟨F,j,Z⟩];rfl))
       have D:((q:Int)==(L:Int))=true:=a7q (by omega);have a5:(L:Int)<=12:=by omega
       clear g z r j F;go_enter Tryz.func226,Tryz.ntmps226
       go_wp2_with fail
       refine p.mono ?_;rintro e o ⟨f,Y,rfl,_⟩;have i:Ext w o:=G.trans f;have l:=A.ext0 f;have U:=l.cell 0 rfl;have T:=l.cell 1 rfl;have V:=l.cell 2 rfl;have t:=y.out o f;go_wp2_with fail
       refine t.mono ?_;rintro e w2 ⟨rfl,rfl⟩;go_wp2_with fail
       go_ret
       exact⟨i,a0j v.out⟩
      ·have v:=hid (g.out false (by rw[show decide (q=C/\q=L/\L<=12)=false from decide_eq_false (fun h=>Z h.2.2),Bool.and_false,Bool.and_false]))
       have D:((q:Int)==(L:Int))=true:=a7q (by omega);have a5:¬(L:Int)<=12:=by omega
       clear g z r j F;go_enter Tryz.func226,Tryz.ntmps226
       go_wp2_with fail
       refine p.mono ?_;rintro e o ⟨f,Y,rfl,_⟩;have i:Ext w o:=G.trans f;have l:=A.ext0 f;have U:=l.cell 0 rfl;have T:=l.cell 1 rfl;have V:=l.cell 2 rfl;have t:=y.out o f;go_wp2_with fail
       refine t.mono ?_;rintro e w2 ⟨rfl,rfl⟩;go_wp2_with fail
       go_ret
       exact⟨i,a0j (by rw[decide_eq_false (by omega)];exact v.out)⟩
     ·have v:=hid (g.out false (by rw[decide_eq_false (fun h=>P h.2),Bool.false_and]))
      have D:((q:Int)==(L:Int))=true:=a7q (by omega);clear g z r j F;go_enter Tryz.func226,Tryz.ntmps226
      go_wp2_with fail
      refine p.mono ?_;rintro e o ⟨f,Y,rfl,_⟩;have i:Ext w o:=G.trans f;have l:=A.ext0 f;have U:=l.cell 0 rfl;have T:=l.cell 1 rfl;have V:=l.cell 2 rfl;have t:=y.out o f;go_wp2_with fail
      refine t.mono ?_;rintro e w2 ⟨rfl,rfl⟩;go_wp2_with fail
      go_ret
      exact⟨i,a0j v.out⟩
    ·have v:=hid (g.out false (by rw[decide_eq_false (fun h=>O h.1),Bool.false_and]))
     have D:((q:Int)==(L:Int))=true:=a7q (by omega);clear g z r j F;go_enter Tryz.func226,Tryz.ntmps226
     go_wp2_with fail
     refine p.mono ?_;rintro e o ⟨f,Y,rfl,_⟩;have i:Ext w o:=G.trans f;have l:=A.ext0 f;have U:=l.cell 0 rfl;have T:=l.cell 1 rfl;have V:=l.cell 2 rfl;have t:=y.out o f;go_wp2_with fail
     refine t.mono ?_;rintro e w2 ⟨rfl,rfl⟩;go_wp2_with fail
     go_ret
     exact⟨i,a0j v.out⟩
   ·have H:¬q=C:=fun h=>by have:=E.2 h;cases this
    clear E;by_cases O:0<=N
    ·by_cases P:N<=1099511627776
     ·have v:=hid (g.out false (by rw[show decide (q=C/\q=L/\L<=12)=false from decide_eq_false (fun h=>H h.1),Bool.and_false,Bool.and_false]))
      have D:((q:Int)==(L:Int))=true:=a7q (by omega);clear g z r j H;go_enter Tryz.func226,Tryz.ntmps226
      go_wp2_with fail
      refine p.mono ?_;rintro e o ⟨f,Y,rfl,_⟩;have i:Ext w o:=G.trans f;have l:=A.ext0 f;have U:=l.cell 0 rfl;have T:=l.cell 1 rfl;have V:=l.cell 2 rfl;have t:=y.out o f;go_wp2_with fail
      refine t.mono ?_;rintro e w2 ⟨rfl,rfl⟩;go_wp2_with fail
      go_ret
      exact⟨i,a0j v.out⟩
     ·have v:=hid (g.out false (by rw[show decide (q=C/\q=L/\L<=12)=false from decide_eq_false (fun h=>H h.1),Bool.and_false,Bool.and_false]))
      have D:((q:Int)==(L:Int))=true:=a7q (by omega);clear g z r j H;go_enter Tryz.func226,Tryz.ntmps226
      go_wp2_with fail
      refine p.mono ?_;rintro e o ⟨f,Y,rfl,_⟩;have i:Ext w o:=G.trans f;have l:=A.ext0 f;have U:=l.cell 0 rfl;have T:=l.cell 1 rfl;have V:=l.cell 2 rfl;have t:=y.out o f;go_wp2_with fail
      refine t.mono ?_;rintro e w2 ⟨rfl,rfl⟩;go_wp2_with fail
      go_ret
      exact⟨i,a0j v.out⟩
    ·have v:=hid (g.out false (by rw[show decide (q=C/\q=L/\L<=12)=false from decide_eq_false (fun h=>H h.1),Bool.and_false,Bool.and_false]))
     have D:((q:Int)==(L:Int))=true:=a7q (by omega);clear g z r j H;go_enter Tryz.func226,Tryz.ntmps226
     go_wp2_with fail
     refine p.mono ?_;rintro e o ⟨f,Y,rfl,_⟩;have i:Ext w o:=G.trans f;have l:=A.ext0 f;have U:=l.cell 0 rfl;have T:=l.cell 1 rfl;have V:=l.cell 2 rfl;have t:=y.out o f;go_wp2_with fail
     refine t.mono ?_;rintro e w2 ⟨rfl,rfl⟩;go_wp2_with fail
     go_ret
     exact⟨i,a0j v.out⟩
  ·clear y E
   by_cases O:0<=N
   ·by_cases P:N<=1099511627776
    ·have v:=hid (g.out false (by rw[show decide (q=C/\q=L/\L<=12)=false from decide_eq_false (fun h=>j h.2.1),Bool.and_false,Bool.and_false]))
     have D:((q:Int)==(L:Int))=false:=a2w (by omega);clear g z r j;go_enter Tryz.func226,Tryz.ntmps226
     go_wp2_with fail
     refine p.mono ?_;rintro e o ⟨f,Y,rfl,_⟩;have i:Ext w o:=G.trans f;have l:=A.ext0 f;have U:=l.cell 0 rfl;have T:=l.cell 1 rfl;have V:=l.cell 2 rfl;go_wp2_with fail
     go_ret
     exact⟨i,a0j v.out⟩
    ·have v:=hid (g.out false (by rw[show decide (q=C/\q=L/\L<=12)=false from decide_eq_false (fun h=>j h.2.1),Bool.and_false,Bool.and_false]))
     have D:((q:Int)==(L:Int))=false:=a2w (by omega);clear g z r j;go_enter Tryz.func226,Tryz.ntmps226
     go_wp2_with fail
     refine p.mono ?_;rintro e o ⟨f,Y,rfl,_⟩;have i:Ext w o:=G.trans f;have l:=A.ext0 f;have U:=l.cell 0 rfl;have T:=l.cell 1 rfl;have V:=l.cell 2 rfl;go_wp2_with fail
     go_ret
     exact⟨i,a0j v.out⟩
   ·have v:=hid (g.out false (by rw[show decide (q=C/\q=L/\L<=12)=false from decide_eq_false (fun h=>j h.2.1),Bool.and_false,Bool.and_false]))
    have D:((q:Int)==(L:Int))=false:=a2w (by omega);clear g z r j;go_enter Tryz.func226,Tryz.ntmps226
    go_wp2_with fail
    refine p.mono ?_;rintro e o ⟨f,Y,rfl,_⟩;have i:Ext w o:=G.trans f;have l:=A.ext0 f;have U:=l.cell 0 rfl;have T:=l.cell 1 rfl;have V:=l.cell 2 rfl;go_wp2_with fail
    go_ret
    exact⟨i,a0j v.out⟩
set_option maxRecDepth 100000 in
set_option maxHeartbeats 1600000 in
theorem b6s (X:Nat->Bool) (w:World) (u v:Value) (l m:List Rat) (hX:HX X w) (hu:RV (mk X w) u l) (hv:RV (mk X w) v m) (hn:l.length<=1000000) (q:m.length=l.length) (C:∀k,k<=l.length->hq (a3Z l m k)<=68719476736) (B:∀k,k<l.length->hq (l.getD k 0*m.getD k 0)<=68719476736):
  Calls Tryz.prog 202 #[u,v] w (a1Z X w QC (a2l l m)):=by
 obtain⟨ao,ca,rfl,e3,L⟩:=hu;obtain⟨bo,cb,rfl,c2,a1⟩:=hv;have e1:=L.hd;have a3:=a1.hd;obtain⟨W,hW,hE,Q,H,hz⟩:=a1v w #[.bool false, .slice none 0 0, .slice none 0 0] #[.bool false, .slice none 0 0, .slice none 0 0] 45 45;have P:HX (a0e X w.heap.size 2) W:=hX.boxes hz;have h0:QC (mk (a0e X w.heap.size 2) W) (.agg #[.bool false, .slice none 0 0, .slice none 0 0]) (a3Z l m 0):=QC.zero _;obtain⟨n,j⟩:∃n,l.length=n:=⟨_,rfl⟩;rw[j]at hn q C B e3 e1 |-;rw[q]at c2 a3 |-;have a9:=hid j;have R:=hid q;have S:=hid C;have a8:=hid B;have a4:Hid (a3Z l m n=a2l l m):=hid (by unfold a2l;rw[j]);clear j q C B;go_enter Tryz.func202,Tryz.ntmps202
 go_wp2_with fail
 obtain⟨b,hb⟩:∃b,w.heap.size=b:=⟨_,rfl⟩;have T:Hid (∀wr,Ext w wr->Le (mk X w) (mk (a0e X b 2) wr)):=hid fun wr h=>by rw[<-hb];exact a0o h
 have G:w.heap.size<=b:=by omega
 rw[hb]at Q H P h0 |-;clear hW;go_loopw [10] (fun k wr=>∃(i:Nat) (s:Bool) (a:Option Addr) (n' c':Nat) (d:Option Addr) (kk e:Nat),k= .int .i64 i/\i<=n/\Bx wr b #[.bool false, .slice none 0 0, .slice none 0 0] 45/\Bx wr (b+1) #[.bool s, .slice a n' c', .slice d kk e] 45/\QC (mk (a0e X b 2) wr) (.agg #[.bool s, .slice a n' c', .slice d kk e]) (a3Z l m i)/\HX (a0e X b 2) wr/\Ext w wr) (fun k _=>n - (intOf k).toNat)
 case atStart=>exact⟨0,_,_,_,_,_,_,_,rfl,Nat.zero_le _,Q,H,h0,P,hE⟩
 case round=>
  obtain⟨i,s,a,n',c',d,kk,e,rfl,hi,Q,H,hq,d8,p⟩:=hrel;by_cases I:i<n
  ·have a0:i<l.length:=by rw[a9.out];exact I
   have J:i<m.length:=by rw[R.out];exact I
   have c3:=L.mono QV.mono (T.out wr p);have N:=a1.mono QV.mono (T.out wr p);obtain⟨g2,o2,s2,p2,n2,q2,d2,k2,e2,b4,f5,b5,O⟩:=N.rat QV.shaped i J;have gl:Hid (l.getD i 0=l[i]):=hid (by simp[List.getD_eq_getElem?_getD,a0]);have gm:Hid (m.getD i 0=m[i]):=hid (by simp[List.getD_eq_getElem?_getD,J]);have o:Hid (a3Z l m i+l[i]*m[i]=a3Z l m (i+1)):=hid (by rw[<-gl.out,<-gm.out];rfl);have b6:=hid (S.out i hi);have z:=hid (a8.out i I);rw[gl.out,gm.out]at z;obtain⟨x,hx⟩:∃x,l[i]=x:=⟨_,rfl⟩;obtain⟨y,hy⟩:∃y,m[i]=y:=⟨_,rfl⟩;rw[hx,hy]at o z;rw[hy]at O;have e0:=hid hx;have i2:∀W,(Instr.indexAt 24 (.slice bo n cb) (.int .i64 (i:Int))).run Tryz.prog W= .ok (.pointer (some ⟨g2,o2,none⟩)) W:=by rw[<-b4];exact a0m a0B bo n cb .i64 i a3 (by omega)
   have bx:=Bx.new wr #[.bool false, .slice none 0 0, .slice none 0 0] 45;obtain⟨D,hD⟩:∃D,a3Z l m i=D:=⟨_,rfl⟩;obtain⟨D2,A⟩:∃D2,a3Z l m (i+1)=D2:=⟨_,rfl⟩;rw[hD]at hq o b6;rw[A]at o;have b2:=hid A;clear hx hy b4 hD A;go_wp2_with (first|(with_reducible refine a1M a0B (by omega) (by assumption) ?_)|((with_reducible show wpList _ _ _ (⟨_, .load 45 _,_,_,_,_⟩::_) _ _);refine a0G a0t i c3 a0 rfl (by simp) QV.agg ?_;intro u5 F;rw[e0.out]at F;obtain⟨s5,a5,n5,c5,d5,k5,e5,rfl⟩:=F.shape)|((with_reducible show wpList _ _ _ (⟨_, .store _ _ _,_,_,_,_⟩::_) _ _);refine a0a a0t rfl rfl bx rfl rfl (a1Q _ _ _ _ _ _ _) ?_;intro g r1 r2))
   have d4:Ext wr g:=ExtX.box ((ExtX.refl wr).alloc _) r2 (Nat.le_refl _);have a2:Ext g g.drew:=(ExtX.refl g).drew;have c:=d4.trans a2;have b9:=Q.ext0 c;have r:=H.ext0 c;have r5:=r1.ext0 a2;obtain⟨bw,G⟩:∃bw,wr.heap.size=bw:=⟨_,rfl⟩;rw[G]at r5;have Y:=r.cell 0 rfl;have b3:=r.cell 1 rfl;have M:=r.cell 2 rfl;have d3:=r5.cell 0 rfl;have c9:=r5.cell 1 rfl;have f3:=r5.cell 2 rfl;obtain⟨b8,c0,d0⟩:=b5.out noY g.drew c rfl;have Z:=d8.ext c;have c1:QV (mk (a0e X b 2) g.drew) (.agg #[.bool s5, .slice a5 n5 c5, .slice d5 k5 e5]) x:=mkx QV.mono F c;have e8:QV (mk (a0e X b 2) g.drew) (.agg #[.bool s2, .slice p2 n2 q2, .slice d2 k2 e2]) y:=mkx QV.mono O c;have c8:QV (mk (a0e X b 2) g.drew) (.agg #[.bool s, .slice a n' c', .slice d kk e]) D:=(mkx QC.mono hq c).qv b6.out;clear bx r1 b5;rw[G];go_wp2_with fail
   go_region_with (first|(go_at_call 133;(with_reducible refine(b8D (a0e X b 2) g.drew _ _ _ _ Z c1 e8).mono ?_);rintro ee w6 ⟨U,u6,rfl,K⟩;obtain⟨s6,a6,n6,c6,d6,k6,e6,rfl⟩:=K.shape;have V:=Z.ext U;have d9:=mkx QV.mono c8 U;have e9:=K.qv z.out;have t:=r.ext0 U;have m0:=t.cell 0 rfl;have m1:=t.cell 1 rfl;have m2:=t.cell 2 rfl)|(go_at_call 101;(with_reducible refine(b7p (a0e X b 2) w6 _ _ _ _ V d9 e9).mono ?_);rintro ee w7 ⟨t7,u7,rfl,E⟩;obtain⟨s7,a7,n7,c7,d7,k7,e7,rfl⟩:=E.shape;rw[o.out]at E;have f:=t.ext0 t7;have g0:=f.cell 0 rfl;have g1:=f.cell 1 rfl;have b7:=f.cell 2 rfl;have f0:=f.frozen 0;have f1:=f.frozen 1;have f2:=f.frozen 2))
   all_goals
    obtain⟨z1,z2⟩:=f.set3 (.bool s7) (.slice a7 n7 c7) (.slice d7 k7 e7);have h8:=QC.mono _ _ _ _ (a0h (lo:=b) (nb:=2) z2 (by omega) (by omega)) E;have e4:=((b9.ext0 U).ext0 t7).ext z2 (a0b (by omega));have f4:Ext w _:=ExtX.box (p.trans (c.trans (U.trans t7))) z2 (by omega);have c4:=(V.ext t7).ext z2;rw[<-b2.out]at h8;clear Y b3 M d3 c9 f3 b8 c0 d0 m0 m1 m2 g0 g1 b7 f0 f1 f2 i2;go_wp2_with fail
    go_roundw
    case rel=>exact⟨i+1,_,_,_,_,_,_,_,by go_num,by omega,e4,z1,h8,c4,f4⟩
    case measure=>simp[intOf];omega
  ·have d1:i=n:=by omega
   subst d1;rw[a4.out]at hq;have Y:=H.cell 0 rfl;have b3:=H.cell 1 rfl;have M:=H.cell 2 rfl;go_wp2_with ((with_reducible show wpList _ _ _ (⟨_, .store _ _ _,_,_,_,_⟩::_) _ _);refine a0a a0t rfl rfl Q rfl rfl (a1Q _ _ _ _ _ _ _) ?_;intro w7 r1 r2)
   have h7:=QC.mono _ _ _ _ a0n (QC.mono _ _ _ _ (a0h r2 (by omega) (by omega)) hq);exact bodyPost_ret (a0d rfl rfl a0t r1 rfl) rfl ⟨ExtX.box p r2 (by omega),_,rfl,h7⟩
end Go.Proofs.YtidbbddagfnfbaaGreat
namespace Go.Rep
open Go.RowKit Go.Lim
section
variable {P:Program} {ops:Array Oper} {Q:Exit->Act->World->Prop} {rest:List Oper} {a:Act} {w:World}
variable {α:Type} {R:Mem->Value->α->Prop} {sz:Nat} {X:Nat->Bool} {base:Nat} {e:TypeId} {ao:Option Addr} {cap:Nat} {l:List α}
variable {d:Option Tmp} {ty:TypeId} {ps:String} {af:Array Edge}
theorem OL.run_copy {t S:Nat} {z:Value} (T:SliceT P t e sz S z) (L:Elem R sz) (h:OL R sz X base e w ao cap l) (sa:Option Addr) (ca:Nat) (a:List Value) (b:List α) (hat:At w sa a) (o:a.length=b.length)
  (hxs:∀i (hi:i<a.length) (a4:i<b.length),R (mk (un X ao) w) a[i] b[i]) (s:b.length<=l.length) (h0:0<b.length) (ty:TypeId):
  ∃w',(Builtin.copy_ #[t,t] ty #[.slice ao l.length cap, .slice sa b.length ca]).run P w= .ok (goInt b.length) w'/\OL R sz X base e w' ao cap (b++l.drop b.length)/\ExtX (ob ao) w w':=by
 obtain⟨i,hi,hz,a0,a6⟩:=info_parts T.info;have x:∀u∈a,u.cells.size=sz:=by
  intro v q;obtain⟨i,hi,rfl⟩:=List.getElem_of_mem q;exact L.size _ _ _ (hxs i hi (by omega))
 have p:∀u∈a,∀c∈a0i u,c.oneCell'=true:=by
  intro v q;obtain⟨i,hi,rfl⟩:=List.getElem_of_mem q;exact L.one _ _ _ (hxs i hi (by omega))
 have B:∀v∈a.flatMap a0i,v.oneCell'=true:=by
  intro c M;obtain⟨v,q,W⟩:=List.mem_flatMap.1 M;exact p v q c W
 obtain⟨Q,so,rfl⟩:=hat.1 (by omega);have y:∀j u,(a.flatMap a0i)[j]? =some u->w.cell? ((⟨Q,so,none⟩:Addr).add j)=some u:=by
  intro j u Z;rw[<-a7M rfl];exact hat.2 j u Z
 have f:(a.flatMap a0i).length=b.length*sz:=by rw[a0Q a x,o]
 have A:=h.form;obtain⟨hx,r,h1,h2,U,h3,h5⟩:=h;rcases A with⟨rfl,rfl,rfl⟩|⟨g,d,rfl,h6,V,h8,h9,F⟩
 ·simp at s;subst s;simp at h0
 have J:0+(a.flatMap a0i).length<=d.size:=by
  rw[Nat.zero_add,f,F];exact Nat.mul_le_mul_right _ (by omega)
 have Y:=run_loadCells_list (P:=P) w ⟨Q,so,none⟩ (a.flatMap a0i) y;have N:=run_storeCells_at P g 0 e (a.flatMap a0i) 0 d w V (by simpa using J) B;have hE:ExtX (ob (some ⟨g,0,none⟩)) w (w.setRow g (d.toList.take (0+0)++a.flatMap a0i++d.toList.drop (0+0+(a.flatMap a0i).length)).toArray):=
  ⟨rfl,rfl,rfl,by simp,fun k _ s=>setRow_other w g k _ (fun ek=>by subst ek;simp[ob]at s)⟩
 have G:Nat.min b.length l.length=b.length:=Nat.min_eq_left s;have H:∀u∈a++r.drop b.length,u.cells.size=sz:=by
  intro u m;rcases List.mem_append.1 m with m|m
  ·exact x u m
  ·exact h2 u (List.mem_of_mem_drop m)
 have n:(a++r.drop b.length).length=(b++l.drop b.length).length:=by simp[o,h1]
 refine⟨_,?_,⟨hx,a++r.drop b.length,n,H,?_,⟨?_, .inr ⟨g,cap,_,by simp,h6,setRow_heap w g d _ e _ V,by simp;omega,h9,?_,?_⟩⟩,?_⟩,hE⟩
 ·have D:(loadCells ⟨Q,so,none⟩ (b.length*i.size)).run P w= .ok (a.flatMap a0i).toArray w:=by rw[a0,<-f];exact Y
  simp[Builtin.copy_,run_underlying T.und,Builtin.lenOf,Builtin.firstCells,sizeOf,typeInfo,hi,G,D,N]
 ·intro u m c M
  rcases List.mem_append.1 m with m|m
  ·exact p u m c M
  ·exact U u (List.mem_of_mem_drop m) c M
 ·rw[a0Q _ H,n]
 ·simp only[List.size_toArray,List.length_append,List.length_take,List.length_drop,Array.length_toList,F,Nat.add_zero,Nat.zero_add,f]
  have:=Nat.mul_le_mul_right sz (show b.length<=cap by omega);omega
 ·rcases h3.2 with⟨q,_⟩|⟨g',c',C,q,_,E,_,_,_,a3⟩
  ·simp at q
  simp at q;obtain⟨rfl,rfl⟩:=q;rw[V]at E;obtain rfl:d=C:=by simpa using E
  have O:r.flatMap a0i=(r.take b.length).flatMap a0i++(r.drop b.length).flatMap a0i:=by
   rw[<-List.flatMap_append,List.take_append_drop]
  have a1:((r.take b.length).flatMap a0i).length=b.length*sz:=by
   rw[a0Q _ (fun u m=>h2 u (List.mem_of_mem_take m))];simp[h1,Nat.min_eq_left s]
  have hdr:(r.drop b.length).flatMap a0i=(d.toList.take (l.length*sz)).drop (b.length*sz):=by
   rw[a3,O,<-a1,List.drop_left]
  rw[List.flatMap_append,hdr];simp only[Nat.zero_add,List.take_zero,List.nil_append,f,List.length_append,List.length_drop,Nat.add_sub_cancel' s];rw[List.take_append,List.take_of_length_le (by rw[f];exact Nat.mul_le_mul_right _ s),f,List.drop_take]
 ·intro j Z a5
  have I:Le (mk (un X (some ⟨g,0,none⟩)) w) (mk (un X (some ⟨g,0,none⟩)) _):=a2j hE (.inl rfl);by_cases K:j<a.length
  ·simpa[List.getElem_append_left K,List.getElem_append_left (show j<b.length by omega)]using L.mono _ _ _ _ I (hxs j K (by omega))
  ·have a2:b.length+(j - b.length)<r.length:=by simp at Z;omega
   have:=L.mono _ _ _ _ I (h5 (b.length+(j - b.length)) a2 (by omega));have e1:b.length+(j - b.length)=j:=by omega
   simpa[List.getElem_append_right (show a.length<=j by omega),List.getElem_append_right (show b.length<=j by omega),o,e1]using this
theorem b4c {t g:Nat} {z:Value} {s x:Operand} {i:Option Addr} {p n k:Nat} (T:SliceT P t e sz g z) (o:Elem R sz) (b:List α) (hs:a.eval s= .slice ao n cap) (q:l.length=n) (hx:a.eval x= .slice i k p) (m:b.length=k) (h:OL R sz X base e w ao cap l)
  (hxs:Sl R sz (mk (un X ao) w) i b) (v:k<=n) (u:0<k)
  (K:∀w',OL R sz X base e w' ao cap (b++l.drop k)->ExtX (ob ao) w w'->wpList P ops Q rest (a.put d (.int .i64 (k:Int))) w'):
  wpList P ops Q (⟨d, .call {callee:= .builtin .copy,args:=#[s,x],argTypes:=#[t,t]},ty,ps,af,none⟩::rest) a w:=by
 refine wpList_plain rfl fun B c=>?_;subst q;subst m;obtain⟨y,A,f,j⟩:=hxs.at_ o;obtain⟨w',r,f,j⟩:=h.run_copy (P:=P) T o i p y b f A j v u ty;unfold Oper.wp execOp;simp only[resolve,invoke,builtin,Sem.run_bind,Sem.run_pure,Result.andThen_ok,List.map_toArray,List.map_cons,List.map_nil,hs,hx,r];exact c _ _ (K w' f j)
end
end Go.Rep
namespace Go.Lin
def c0P (r c:Nat):Mat:=List.replicate r (List.replicate c 0)
theorem b6t (r c:Nat):(c0P r c).length=r:=List.length_replicate
theorem b6u {r c i:Nat} (h:i<(c0P r c).length):(c0P r c)[i]=List.replicate c 0:=List.getElem_replicate h
end Go.Lin
namespace Go.Proofs.YtidbbddagfnfbaaGreat
open Go.RowKit Go.Rep Go.Lim Go.Lin
def b1n (X:Nat->Bool) (w:World) (S:Mat×List Nat) (c:Nat) (e:Ending) (w':World):Prop:=Ext w w'/\((c∈S.2/\e= .returned (.tuple #[.slice none 0 0, .int .i64 11]))\/(c∉S.2/\∃u,e= .returned (.tuple #[u, .int .i64 0])/\RC (mk X w') u (b7v S.1 S.2 c)))
set_option maxRecDepth 100000 in
set_option maxHeartbeats 1600000 in
theorem b6v (X:Nat->Bool) (w:World) (u v:Value) (m:List (List Rat)) (b:List Rat) (n c:Nat) (hX:HX X w) (hu:MV (mk X w) u m) (hv:RV (mk X w) v b) (hf:a0H m=true) (a8:m.length=n) (b2:a0x m=c) (g3:b.length=n) (hT:b5i (a2W m b n) (c+1)):Calls Tryz.prog 227 #[u,v] w (b1n X w (a1d (a2W m b n) (c+1)) c):=by
 obtain⟨b5,t2,m0,b3,_⟩:=a0U hf;rw[a8,b2]at b5;rw[a8]at t2 b3;rw[b2]at m0 b3;have d3:=a4m X w u m hu (by omega);rw[hf]at d3;have T:=a3z X w u m hu;rw[b2]at T;have d5:=hid b5;have a9:=hid a8;have l9:=hid b2;have i7:=hid g3;have t:=hid (a2m (b:=b) b5);have j9:Hid (∀i (h:i<(a2W m b n).length) (hi:i<m.length) (H:i<b.length),(a2W m b n)[i]=m[i]++[b[i]]):=hid fun i h hi H=>b3o h hi H;have a3:0<n->a0x (a2W m b n)=c+1:=fun h=>b4I (a2m (b:=b) b5) h;obtain⟨W,hW⟩:∃W,a2W m b n=W:=⟨_,rfl⟩;rw[hW]at t hT j9 a3 |-;have t4:=hid (b3q t.out (a0x W) a3 hT);have t0:=hid (b3p t.out (a0x W) a3);have j5:Hid (Shp n (a0x W) W):=hid ⟨t.out.1,fun r hr=>by
  have:=List.length_pos_of_mem hr;rw[a3 (by rw[<-t.out.1];exact this)];exact t.out.2 r hr⟩
 have k7:Hid (a0x W<=900):=hid (by
  by_cases h0:0<n
  ·rw[a3 h0];omega
  ·have:W= []:=List.eq_nil_of_length_eq_zero (by rw[t.out.1];omega)
   subst this;exact Nat.zero_le _)
 obtain⟨ua,o2,rfl,e0,m4⟩:=hu;have hu:MV (mk X w) (.slice ua m.length o2) m:=⟨ua,o2,rfl,e0,m4⟩;obtain⟨va,n3,rfl,n8,O⟩:=hv;have o5:=O.hd;rw[a8]at d3 T hu |-;rw[g3]at n8 o5 |-;have u8:wrap64 ((c:Int)+1)=((c+1:Nat):Int):=by rw[IntWalk.wrap64_in _ (by omega)];omega
 have t8:((n:Int) !=(n:Int))=false:=a6q rfl;clear hf a8 b2 b5 e0 m4 hW hT a3 g3;go_enter Tryz.func227,Tryz.ntmps227
 go_wp2_with fail
 refine d3.mono ?_;rintro e w1 ⟨rfl,rfl⟩;go_wp2_with fail
 refine T.mono ?_;rintro e w2 ⟨rfl,rfl⟩;go_wp2_with fail
 refine(a8f X w2 n (c+1) hX (by omega) (by omega)).mono ?_;rintro e w3 ⟨c9,ao,cap,hs,rfl,C⟩;rw[List.length_replicate];have e9:Hid (hs.length=n):=hid (by rw[C.len];simp);have i8:Hd ao n:=by have:=C.outer.hd;rw[e9.out]at this;exact this
 have q6:=hX.ext c9;have j8:=C.hz q6;have j3:=C.old MV.mono hu c9 (Nat.le_refl _) (fun _ _ h=>h);have f6:=O.mono QV.mono (fun a v h=>((a0T (X:=X) (Z:=mz X ao hs) c9 (fun k _ d=>by simp[noY]at d) fun k d hz=>by
  rcases a1V.1 hz with a|a
  ·exact a
  ·have:=(C.mb_block (a2t.2 a)).1;omega) a v h))
 obtain⟨V,hV⟩:∃V,c0P n (c+1)=V:=⟨_,rfl⟩;have h5:Hid (V.length=n):=hid (by rw[<-hV];exact b6t _ _);have s8:Hid (∀i (h:i<V.length),V[i]=List.replicate (c+1) 0):=hid fun i h=>by subst hV;exact b6u h
 have c3:Hid (W.length=V.length):=hid (by rw[h5.out];exact t.out.1)
 change MO X w2.heap.size _ _ w3 ao cap hs (c0P n (c+1))at C
 rw[hV,<-a5c W V]at C;have k1:=a5B (mz X ao hs) w3 _ m n c j8 j3 d5.out l9.out (by omega) (by omega);clear d3 T hu j3 hV;go_wp2_with fail
 refine k1.mono ?_;rintro e w4 ⟨f5,bo,t6,u7,rfl,n7⟩;have d8:=n7.mc;rw[a9.out]at d8 |-;have e3:=C.ext0 f5;have m1:=c9.trans f5;obtain⟨ba,u5,l3,t7,F⟩:=d8;simp only[Value.slice.injEq]at l3;obtain⟨rfl,r7,rfl⟩:=l3;clear r7;have q5:=F.hd;rw[a9.out]at q5;obtain⟨Z,h8⟩:∃Z,mz X ao hs=Z:=⟨_,rfl⟩;have i4:=hid h8;rw[h8]at F j8 f6;have r2:=f6.mono QV.mono (a0l f5);clear f6;clear k1 C n7 h8;go_wp2_with fail
 go_loopw [33] (fun k wr=>∃(i:Nat),k= .int .i64 i/\i<=n/\MO X w2.heap.size 24 45 wr ao cap hs (mix W V i)/\Sl RC 1 (mk Z wr) bo m/\Sl QV 3 (mk Z wr) va b/\Ext w2 wr) (fun k _=>n - (intOf k).toNat)
 case atStart=>exact⟨0,rfl,Nat.zero_le _,e3,F,r2,m1⟩
 case round=>
  obtain⟨i,rfl,hi,D,F,O,hE⟩:=hrel;by_cases c7:i<n
  ·have l4:i<m.length:=by rw[a9.out];exact c7
   obtain⟨a1,c1,u4,m7,f4,d1⟩:=F.row i l4;have h6:=m7.out noY wr (ExtX.refl _) rfl;have N:Hid (m[i].length=c):=hid (d5.out.2 _ (List.getElem_mem _));have j0:i<V.length:=by rw[h5.out];exact c7
   have h9:i<W.length:=by rw[c3.out];exact j0
   have o3:i<b.length:=by rw[i7.out];exact c7
   have l5:=hid (j9.out i h9 l4 o3);have r4:=hid (s8.out i j0);obtain⟨x,hx⟩:∃x,m[i]=x:=⟨_,rfl⟩;rw[hx]at h6 f4 d1 N l5;rw[N.out]at h6 f4;have u2:Hd a1 c:=by have:=d1.hd;rw[N.out]at this;exact this
   have B:i<hs.length:=by rw[e9.out];exact c7
   have n5:i<(mix W V i).length:=by rw[a2r c3.out];exact h9
   have i5:Hid ((mix W V i)[i]=List.replicate (c+1) 0):=hid (by rw[a2d c3.out,if_neg (by omega)];exact r4.out);have h4:Hid ((mix W V i).set i (x++[b[i]])=mix W V (i+1)):=hid (by rw[<-l5.out];exact a6C c3.out h9);obtain⟨a,E,cr,f⟩:∃a E cr,hs[i]=(a,E,cr):=⟨_,_,_,rfl⟩;have I:E=c+1:=by
    have:=D.rlen i B n5;rw[f,i5.out,List.length_replicate]at this;exact this
   have hR:=D.row i B n5;rw[i5.out]at hR;simp only[f]at hR;have c2:=fun k (d:ob a k=true)=>D.mz_sub B k (by rw[f];exact d);have r6:=fun k (d:ob a k=true)=>D.sep i B k (by rw[f];exact d);have c8:Hid (un (cut (mz X ao hs) a) a=Z):=hid (by rw[a5T c2];exact i4.out);have n0:Hd a E:=by have:=hR.hd;rw[List.length_replicate,<-I]at this;exact this
   have y:=hid I;have y1:wr.cell? (adr ao i)=some (.slice a E cr):=by
    have:=(D.hdr i B).1;rw[f]at this;exact this
   have f3:Hid (ob a (adr ao i).block=false):=hid (by
    cases H:ob a (adr ao i).block
    ·rfl
    ·have h1:=(r6 _ H).2
     obtain⟨b0,o0,rfl⟩:=i8 (by omega);simp[ob,adr]at h1)
   have K:=hid f;have s5:Hid ((List.replicate (c+1) (0:Rat)).length=E):=hid (by rw[I];exact List.length_replicate);have k9:Sl QC 3 (mk (un (cut (mz X ao hs) a) a) wr) a1 x:=by rw[c8.out];exact d1
   clear m7 hx f I;obtain⟨wo,f9⟩:∃wo,wo=wr:=⟨_,rfl⟩;subst f9;go_wp2_with (first|(with_reducible refine a0q a0s (by omega) (by assumption) ?_)|(refine b4c a0B QC.elem x rfl s5.out rfl N.out hR k9 (by rw[y.out];omega) (by have:=b3 (by omega);omega) ?_;intro J A s;have y5:=s.cellY y1 f3.out))
   have l2:x++List.drop c (List.replicate (c+1) (0:Rat))=x++[0]:=by rw[List.drop_replicate,show c+1 - c=1 by omega];rfl
   rw[l2]at A;have a7:∀k,ob a k=true->Z k=true:=fun k d=>by rw[<-i4.out];exact c2 k d
   have f7:Hid ((x++[(0:Rat)]).length=E):=hid (by rw[List.length_append,N.out,y.out];rfl);have P:=D.upd B (l:=x++[(0:Rat)]) (show ExtX (ob hs[i].1) wo J by rw[K.out];exact s) (fun s2=>by rw[i5.out,List.length_replicate,f7.out,y.out]) (by rw[K.out];exact A);have l0:=F.mono RC.mono (a0w s a7);have Q:=D.ext_from hE (Nat.le_refl _) (ExtX.row B (show ExtX (ob hs[i].1) wo J by rw[K.out];exact s));have G:Hid ((x++[(0:Rat)]).set c b[i]=x++[b[i]]):=hid (by rw[List.set_append_right _ _ (by rw[N.out];exact Nat.le_refl _),N.out,Nat.sub_self];rfl);have h7:c<(x++[(0:Rat)]).length:=by rw[f7.out,y.out];omega
   have q8:HX Z J:=by
    have h1:=P.hz (hX.ext Q);rw[i4.out]at h1;exact h1
   have z:Ext J J.drew:=(ExtX.refl J).drew;obtain⟨g4,o4,s4,a4,n4,c4,d4,k4,e4,i9,r1,j4,j1⟩:=O.rat QV.shaped i o3;have e7:Hid (ob a g4=false):=hid (by
    cases H:ob a g4
    ·rfl
    ·have:=a7 g4 H;rw[r1]at this;simp at this)
   have s0:=O.mono QV.mono (a0w s a7);have k0:QV (mk Z J.drew) (.agg #[.bool s4, .slice a4 n4 c4, .slice d4 k4 e4]) b[i]:=mkx QV.mono (QV.mono _ _ _ _ (a0w s a7) j1) z;obtain⟨v,hv⟩:∃v,b[i]=v:=⟨_,rfl⟩;rw[hv]at G k0 h4;obtain⟨L,hL⟩:∃L,x++[(0:Rat)]=L:=⟨_,rfl⟩;rw[hL]at A P f7 G h7;obtain⟨L2,p0⟩:∃L2,x++[v]=L2:=⟨_,rfl⟩;rw[p0]at G h4;have m8:Hid (L2.length=L.length):=hid (by rw[<-G.out,List.length_set]);obtain⟨g,o,hg⟩:∃g o,adr a (c*3)=⟨g,o,none⟩:=⟨_,_,rfl⟩;have i2:∀W,(Instr.indexAt 24 (.slice a E cr) (.int .i64 (c:Int))).run Tryz.prog W= .ok (.pointer (some ⟨g,o,none⟩)) W:=by
    rw[<-hg];exact a0m a0B a E cr .i64 c n0 (by rw[y.out];omega)
   have i3:∀W,(Instr.indexAt 24 (.slice va n n3) (.int .i64 (i:Int))).run Tryz.prog W= .ok (.pointer (some ⟨g4,o4,none⟩)) W:=by
    rw[<-i9];exact a0m a0B va n n3 .i64 i o5 (by omega)
   have i1:∀W,(Instr.indexAt 23 (.slice ao n cap) (.int .i64 (i:Int))).run Tryz.prog W= .ok (.pointer (some (adr ao i))) W:=a0z a0s ao n cap .i64 i i8 (by omega) rfl;have o7:=hid hg;have hS:Hid (∀Y W',ExtX Y J.drew W'->Y (adr ao i).block=false->Y g4=false->W'.cell? (adr ao i)=some (.slice a E cr)/\W'.cell? ⟨g4,o4,none⟩=some (.bool s4)/\W'.cell? ⟨g4,o4+1,none⟩=some (.slice a4 n4 c4)/\W'.cell? ⟨g4,o4+2,none⟩=some (.slice d4 k4 e4)):=hid fun Y W' h t3 g7=>by
    have p:=j4.out (ob a) J.drew (s.trans (ExtX.of z)) e7.out;exact⟨h.cellY (z.cell y5) t3,h.cellY p.1 g7,h.cellY p.2.1 g7,h.cellY p.2.2 g7⟩
   obtain⟨p4,r8,s3,q7⟩:=hS.out noY J.drew (ExtX.refl _) rfl rfl;have k8:=A.ext0 QC.elem z;have p6:QV (mk Z J.drew) (.agg #[.bool false, .slice none 0 0, .slice none 0 0]) 0:=(QC.zero _).qv (by rw[a0Z];decide);have qf:=b7p Z J.drew _ _ _ 0 (q8.ext z) k0 p6;rw[Rat.add_zero]at qf;have o8:Hid (un (cut (mz X ao hs) a) a=Z):=c8;clear l2 hL p0 hg i9 j4 j1 hv y1 y5 hR k9 d1 h6 D F O;go_region_held3 (fun w'=>w'.cell? (adr ao i)=some (.slice a E cr)/\w'.cell? ⟨g4,o4,none⟩=some (.bool s4)/\w'.cell? ⟨g4,o4+1,none⟩=some (.slice a4 n4 c4)/\w'.cell? ⟨g4,o4+2,none⟩=some (.slice d4 k4 e4))
    (first|exact hS.out noY _ t1 rfl rfl|exact hS.out (ob a) _ ((ExtX.of t1).trans e2.2) f3.out e7.out|go_keep)
    ((go_at_call 101;(with_reducible refine qf.mono ?_);rintro ee w6 ⟨t1,u6,rfl,a5⟩;obtain⟨s6,a6,n6,c6,d6,k6,e6,rfl⟩:=a5.shape;have n1:=k8.ext0 QC.elem t1;obtain⟨_,v0,v1,v2,_,⟨g0,f0⟩,⟨g1,f1⟩,⟨g2,f2⟩,_⟩:=n1.cell3 c h7 o7.out;have e2:=n1.set3 a7a QC.elem c h7 o7.out (v0:= .bool s6) (v1:= .slice a6 n6 c6) (v2:= .slice d6 k6 e6) (x:=v) (by rw[o8.out];exact a5)))
   obtain⟨q1,q2⟩:=e2;rw[G.out]at q1;obtain⟨w8,l1⟩:∃w8,((w6.setCell ⟨g,o,none⟩ (.bool s6)).setCell ⟨g,o+1,none⟩ (.slice a6 n6 c6)).setCell ⟨g,o+2,none⟩ (.slice d6 k6 e6)=w8:=⟨_,rfl⟩;rw[l1]at q1 q2 |-;have o6:ExtX (ob hs[i].1) w6 w8:=by rw[K.out];exact q2
   have o1:=P.ext0 (z.trans t1);have U:=o1.upd B (l:=L2) o6 (fun s2=>by rw[List.getElem_set_self];exact m8.out) (by rw[K.out];exact q1);rw[List.set_set,h4.out]at U;have p3:=(l0.mono RC.mono (a0l (z.trans t1))).mono RC.mono (a0w q2 a7);have q0:=(s0.mono QV.mono (a0l (z.trans t1))).mono QV.mono (a0w q2 a7);have b7:=o1.ext_from (Q.trans (z.trans t1)) (Nat.le_refl _) (ExtX.row B o6);clear p4 r8 s3 q7 g0 g1 g2 f0 f1 f2 i1 i2 i3 l1;go_wp2_with fail
   go_roundw
   case rel=>exact⟨i+1,by go_num,by omega,U,p3,q0,b7⟩
   case measure=>simp[intOf];omega
  ·have q4:i=n:=by omega
   subst q4;rw[a5d (by rw[t.out.1];exact Nat.le_refl _) (by rw[h5.out];exact Nat.le_refl _)]at D;have b4:=hX.ext hE;have s9:=D.hz b4;obtain⟨wo,f9⟩:∃wo,wo=wr:=⟨_,rfl⟩;subst f9;go_wp2_with ((with_reducible show wpList _ _ _ (⟨_, .makeSlice _ _ _,_,_,_,_⟩::_) _ _);refine a2y (R:=QC) a0B QC.elem (0:Rat) (fun _=>QC.zero _) (mz X ao hs) s9 wo.heap.size (Nat.le_refl _) c rfl rfl rfl (by omega) (by omega) ?_;intro oo J A s)
   have u1:=hE.size;have b1:=fun k (d:ob oo k=true)=>A.block d;have k2:∀k,ob oo k=true->X k=false:=fun k d=>by
    cases hx:X k
    ·rfl
    ·have:=(b1 k d).1;have:=b4 k hx;omega
   have P:MO (un X oo) w2.heap.size 24 45 J ao cap hs W:=D.ext s (fun k _ d=>by simp[noY]at d) (fun k d hx=>by
    cases H:ob oo k
    ·simpa[un,H]using hx
    ·have:=(b1 k H).1;omega)
   have m9:HX (un X oo) J:=fun k d=>by
    by_cases hx:X k=true
    ·exact b4.ext s k hx
    ·exact(b1 k (by simpa[un,hx]using d)).2
   have Q:=hE.trans s;have c0:=a9U (un X oo) w2.heap.size J ao cap i (a0x W) hs W m9 P j5.out rfl (by omega) k7.out t4.out;rw[t0.out]at c0;have a2:=a1p t.out;obtain⟨⟨R,p⟩,g8⟩:∃S,a1d W (c+1)=S:=⟨_,rfl⟩;rw[g8]at c0 a2;have e8:=hid g8
   dsimp only at a2
   have g5:=hid a2.1;have p5:=hid a2.2.1;have d7:=hid b1;have n2:=hid k2;have t9:=hid b4;obtain⟨pl,d0⟩:∃pl,p.length=pl:=⟨_,rfl⟩;have b6:=hid d0;have u9:pl<=i:=by have:=a2.2.1.le;omega
   clear a2 D e3 F O g8 b1 k2 b4 m9;refine c0.mono ?_;rintro ee w7 ⟨l8,po,pc,a0,rfl,m2,U,c5⟩
   dsimp only at U c5 |-
   rw[d0];have m5:=P.ext_from Q (Nat.le_refl _) l8;have g6:=hid (U.len.trans g5.out.1);have v4:Hd po pl:=by have:=c5.hd;rw[d0]at this;exact this
   have l6:=hid (fun k (d:ob po k=true)=>c5.block d);have u3:Hd oo c:=by have:=A.hd;rw[List.length_replicate]at this;exact this
   obtain⟨M,b9⟩:∃M,mz (un (un X oo) po) ao a0=M:=⟨_,rfl⟩;have j6:=hid b9;have p2:OL QC 3 (cut M oo) wo.heap.size 45 w7 oo c (sN R p c 0):=A.ext QC.elem l8 (fun k _ d=>a1V.2 (.inr (a2t.1 d))) (fun k d hz=>by
    obtain⟨h1,h2⟩:=b0U hz;rw[<-b9]at h1;rcases a1V.1 h1 with h|h
    ·by_cases hx:X k=true
     ·exact a1V.2 (.inl hx)
     ·have:ob po k=true:=by simpa[un,hx,h2]using h
      have:=(l6.out k this).1;omega
    ·have h3:mb ao a0 k=true:=a2t.2 h
     rw[m2]at h3;exact a1V.2 (.inr (a2t.1 h3)))
   have r0:Hid (∀k,ob oo k=true->M k=true):=hid fun k d=>by rw[<-b9];exact a1V.2 (.inl (a0f (a0r d)))
   clear c0 P A m2 b9 d0;go_wp2_with fail
   go_loopw [62] (fun k wr=>∃(j:Nat),k= .int .i64 j/\j<=pl/\MO (un (un X oo) po) w2.heap.size 24 45 wr ao cap a0 R/\OL QC 3 (cut M oo) wo.heap.size 45 wr oo c (sN R p c j)/\OL (a0c .i64) 1 (mz (un X oo) ao hs) J.heap.size 3 wr po pc p/\Hid (∀k (d:k<p.length),k<j->p[k]≠c)/\Ext w2 wr) (fun k _=>pl - (intOf k).toNat)
   case atStart=>exact⟨0,rfl,Nat.zero_le _,U,p2,c5,hid (fun k _ h=>by omega),m5⟩
   case round=>
    obtain⟨j,rfl,hj,D,hO,hP,o9,hE⟩:=hrel;by_cases r9:j<pl
    ·have f8:j<p.length:=by rw[b6.out];exact r9
     have j2:=(hP.sl (a0c.elem _)).nat j f8;have d9:Hid (p[j]<c+1):=hid (p5.out.lt j f8);have l7:Hid (p.getD j 0=p[j]):=hid (by simp[List.getD_eq_getElem?_getD,f8]);have e1:Hid (p[j]∈p):=hid (List.getElem_mem _);obtain⟨q,hq⟩:∃q,p[j]=q:=⟨_,rfl⟩;rw[hq]at j2 d9 l7 e1;have s1:=hid hq;clear hq;by_cases d2:q=c
     ·have H:((q:Int)==(c:Int))=true:=a7q (by omega)
      have g9:Hid (c∈p):=hid (d2▸e1.out);clear d2;go_wp2_with (with_reducible refine a0q a2h (by omega) (by assumption) ?_)
      go_ret2
      unfold b1n;rw[e8.out];exact⟨hE, .inl ⟨g9.out,rfl⟩⟩
     ·have H:((q:Int)==(c:Int))=false:=a2w (by omega)
      have j7:q<c:=by have:=d9.out;omega
      have m3:Hid (∀k (d:k<p.length),k<j+1->p[k]≠c):=hid fun k d v3=>by
       by_cases h:k=j
       ·subst h;rw[s1.out];exact d2
       ·exact o9.out k d (by omega)
      have b8:j<a0.length:=by rw[g6.out];omega
      have i0:j<R.length:=by rw[g5.out.1];omega
      have i6:=hid (g5.out.2 R[j] (List.getElem_mem _));obtain⟨a,E,cr,f⟩:∃a E cr,a0[j]=(a,E,cr):=⟨_,_,_,rfl⟩;have I:E=c+1:=by
       have:=D.rlen j b8 i0;rw[f,i6.out]at this;exact this
      have hR:=D.row j b8 i0;simp only[f]at hR;have c2:=fun k (d:ob a k=true)=>D.mz_sub b8 k (by rw[f];exact d);have c8:Hid (un (cut (mz (un (un X oo) po) ao a0) a) a=M):=hid (by rw[a5T c2];exact j6.out);have n0:Hd a E:=by have:=hR.hd;rw[i6.out,<-I]at this;exact this
      have y1:wr.cell? (adr ao j)=some (.slice a E cr):=by
       have:=(D.hdr j b8).1;rw[f]at this;exact this
      have m6:c<R[j].length:=by rw[i6.out];omega
      have q9:Hid (R[j][c]=ent R j c):=hid (by unfold ent;rw[a2G i0];simp[List.getD_eq_getElem?_getD,m6]);have n9:Hid (un (cut M oo) oo=M):=hid (a5T r0.out);have r3:q<(sN R p c j).length:=by rw[b0Y];exact j7
      have p8:Hid ((sN R p c j).set q (ent R j c)=sN R p c (j+1)):=hid (by rw[<-l7.out];rfl);have y:=hid I;have t5:c<E:=by omega
      clear f I d2;go_wp2_with (first|(with_reducible refine a0q a2h (by omega) (by assumption) ?_)|(with_reducible refine a0q a0s (by omega) (by assumption) ?_)|(with_reducible refine a1M a0B (by omega) (by assumption) ?_)|((with_reducible show wpList _ _ _ (⟨_, .load 45 _,_,_,_,_⟩::_) _ _);refine a5e a0t c hR m6 rfl (by simp) QC.agg ?_;intro u6 a5;rw[q9.out,c8.out]at a5;obtain⟨s6,a6,n6,c6,d6,k6,e6,rfl⟩:=a5.shape)|((with_reducible show wpList _ _ _ (⟨_, .store 45 _ _,_,_,_,_⟩::_) _ _);refine a2F a7a QC.elem q rfl (by simp) hO r3 _ (ent R j c) rfl (by rw[n9.out];exact a5) ?_;intro w8 k5 b7))
      rw[p8.out]at k5;have s7:=D.ext (X':=un (un X oo) po) b7 (fun k _ d=>a0f (a0r d)) (fun _ _ h=>h);have p7:=hP.frame (a0c.pure _) b7 (fun k d=>by
       cases H:ob oo k
       ·rfl
       ·have:=(l6.out k d).1;have:=(d7.out k H).2;omega) hP.1
      have r5:=hE.then_ b7 fun k d _=>by
       cases H:ob oo k
       ·rfl
       ·have:=(d7.out k H).1;omega
      clear y1 j2;go_roundw
      case rel=>exact⟨j+1,by go_num,by omega,s7,k5,p7,m3,r5⟩
      case measure=>simp[intOf];omega
    ·have q3:j=pl:=by omega
     subst q3;have p9:c∉p:=fun hm=>by
      obtain⟨k,d,p1⟩:=List.getElem_of_mem hm;exact o9.out k d (by rw[<-b6.out];exact d) p1
     have hs:=(hO.sl QC.elem).mono QC.mono (a1u (X:=X) fun k _ d=>a5a (by rw[<-j6.out];exact a1V.2 (.inl (a0f (a0f d)))) (by
      cases H:ob oo k
      ·rfl
      ·have:=n2.out k H;rw[d]at this;simp at this))
     have k3:=hO.lenCap;go_wp2_with fail
     go_ret2
     rw[<-b6.out]at hs k3;unfold b1n;rw[e8.out];exact⟨hE, .inr ⟨p9, .slice oo c c,rfl,oo,c,by show Value.slice oo c c=Value.slice oo (sN R p c p.length).length c;rw[b0Y],k3,hs⟩⟩
end Go.Proofs.YtidbbddagfnfbaaGreat
namespace Go.Lin
noncomputable def fmS (m:Mom):Mat×List Nat:=a1d (a2W m.xx m.xy m.xx.length) (m.xx.length+1)
noncomputable def fmC (m:Mom):List Rat:=b7v (fmS m).1 (fmS m).2 m.xx.length
theorem b9k (m:Mom):(fmC m).length=m.xx.length:=b0a _ _ _
theorem b1X {m:Mom} (h:a6d m=true):(0<=m.n/\m.n<=1099511627776)/\a0H m.xx=true/\m.xx.length=a0x m.xx/\m.xx.length=m.xy.length/\m.xy.length<=12:=by
 unfold a6d at h;rw[Bool.and_eq_true,Bool.and_eq_true,decide_eq_true_eq,decide_eq_true_eq]at h;exact⟨h.1,h.2.1,h.2.2.1,h.2.2.2.1,h.2.2.2.2⟩
end Go.Lin
namespace Go.Proofs.YtidbbddagfnfbaaGreat
open Go.RowKit Go.Rep Go.Lim Go.Lin
theorem a5D {P:Program} {w:World} {fn:Func} {a:Array Value} {f c j g:Tmp} {t:TypeId} {n b:Nat} {e:Array Value} {T:TypeId} (h:fn.results=#[.tmp f, .cell c t, .tmp j, .tmp g]) (i:a.getD c undef= .pointer (some ⟨b,0,none⟩)) (k:a1D P t n) (l:Bx w b e T) (d:e.size=n):
  (results fn a).run P w= .ok (.tuple #[a.getD f undef, .agg e,a.getD j undef,a.getD g undef]) w:=by
 have m:=a2b (P:=P) k l d;rw[Array.getD_eq_getD_getElem?]at i;simp[results,h,i,asAddr,m]
def b4d (X:Nat->Bool) (w:World) (m:Mom) (e:Ending) (w':World):Prop:=Ext w w'/\∃z u k c,e= .returned (.tuple #[z,u, .int .i64 k, .int .i64 c])/\
 ((a6d m=false/\c=4/\k=0/\RC (mk X w') z []/\QC (mk X w') u 0)\/(a6d m=true/\m.xx.length∈(fmS m).2/\c=11/\k=0/\RC (mk X w') z []/\QC (mk X w') u 0)\/(a6d m=true/\m.xx.length∉(fmS m).2/\c=0/\k=(a8V m.xx m.xx.length:Int)/\RC (mk X w') z (fmC m)/\QC (mk X w') u (m.yy - a2l (fmC m) m.xy)))
set_option maxRecDepth 100000 in
set_option maxHeartbeats 3200000 in
theorem b4e (X:Nat->Bool) (w:World) (u:Value) (m:Mom) (hX:HX X w) (hu:b3H (mk X w) u m) (hl:m.xx.length<=4) (hB:BMo 6541 m):
  Calls Tryz.prog 159 #[u] w (b4d X w m):=by
 have J:=hid fun w' (h:Ext w w')=>b0k X w' u m (hX.ext h) (mkx b3H.mono hu h) (by omega);obtain⟨xo,xl,xc,yo,yl,yc,s,a,n,c,d,k,e,rfl,hx,hy,b8⟩:=hu;obtain⟨W,hW,K,y,b1,hz⟩:=a1v w #[.int .i64 m.n, .slice xo xl xc, .slice yo yl yc, .bool s, .slice a n c, .slice d k e] #[.bool false, .slice none 0 0, .slice none 0 0] 173 45;have M:HX (a0e X w.heap.size 2) W:=hX.boxes hz;have Q:Hid (∀w',Ext W w'->Le (mk X w) (mk (a0e X w.heap.size 2) w')):=hid fun w' h=>a0o (K.trans h);obtain⟨b,hb⟩:∃b,w.heap.size=b:=⟨_,rfl⟩;have e8:w.heap.size<=b:=by omega
 rw[hb]at y b1 hz M Q;obtain⟨N,hN⟩:∃N,m.n=N:=⟨_,rfl⟩;rw[hN]at y hW J |-;have k0:=y.cell 0 rfl;have k1:=y.cell 1 rfl;have k2:=y.cell 2 rfl;have k3:=y.cell 3 rfl;have k4:=y.cell 4 rfl;have k5:=y.cell 5 rfl;have h0:QC (mk X W) (.agg #[.bool false, .slice none 0 0, .slice none 0 0]) 0:=QC.zero _;cases t:a6d m
 ·have A:=J.out W K
  rw[t]at A;have c0:=hid t;clear J t hN;go_enter Tryz.func159,Tryz.ntmps159
  go_wp2_with fail
  refine A.mono ?_;rintro ee w1 ⟨p,rfl⟩;have c3:=b1.ext0 p;clear A k0 k1 k2 k3 k4 k5;go_wp2_with ((with_reducible show wpList _ _ _ (⟨_, .store 45 _ _,_,_,_,_⟩::_) _ _);refine a0a a0t rfl rfl c3 rfl rfl (a1Q _ _ _ _ _ _ _) ?_;intro w7 r1 r2)
  have a0:Ext w w7:=ExtX.box (K.trans p) r2 (by omega);exact bodyPost_ret (a5D rfl rfl a0t r1 rfl) rfl ⟨a0,_,_,_,_,rfl, .inl ⟨c0.out,rfl,rfl,SlV.zero _ _ _,QC.zero _⟩⟩
 ·obtain⟨_,hf,H,b2,_⟩:=b1X t
  obtain⟨B1,B2,B3⟩:=hB;obtain⟨E,_,_,_,_⟩:=a0U hf;rw[<-H]at E;have U:=a8S B1 (by decide);have b5:=(a4n (a2m (b:=m.xy) E) (b1f E U B2) hl (by decide)).1;have c4:=(a4n E U hl (by decide)).1.e;have R:BR 8500000 (fmC m):=fun q hq=>Nat.le_trans (b3S E U B2 hl q hq) (by decide);have O:=b9k m;have P:=a2g (l:=fmC m) (m:=m.xy) R (fun q hq=>Nat.le_trans (B2 q hq) (by decide)) (by decide) (by omega) (by decide);have c8:Hid (hq (a2l (fmC m) m.xy)<=68719476736):=hid (P.1 _ (Nat.le_refl _));have i:=hid fun w' (h:Ext W w') (u v:Value) (V:MV (mk (a0e X b 2) w') u m.xx) (h2:RV (mk (a0e X b 2) w') v m.xy)=>b6v (a0e X b 2) w' u v m.xx m.xy m.xx.length m.xx.length (M.ext h) V h2 hf rfl H.symm b2.symm b5;have L:=hid fun w' (h:Ext W w') (u:Value) (V:MV (mk (a0e X b 2) w') u m.xx)=>b8R (a0e X b 2) w' u m.xx (M.ext h) V hf (by rw[<-H];exact c4);have T:=hid fun w' (u v:Value) (e4:HX (a0e X b 2) w') (V:RV (mk (a0e X b 2) w') u (fmC m)) (h2:RV (mk (a0e X b 2) w') v m.xy)=>b6s (a0e X b 2) w' u v (fmC m) m.xy e4 V h2 (by omega) (by omega) P.1 P.2;have c5:=hid fun w' (h:Ext W w')=>MV.mono _ _ _ _ (Q.out w' h) hx;have c2:=hid fun w' (h:Ext W w')=>RV.mono _ _ _ _ (Q.out w' h) hy;have e7:=hid fun w' (h:Ext W w')=>QV.mono _ _ _ _ (Q.out w' h) b8;have B:Hid (m.xx.length∈(fmS m).2->∀(w':World) z u,Ext w w'->RC (mk X w') z []->QC (mk X w') u 0->b4d X w m (.returned (.tuple #[z,u, .int .i64 0, .int .i64 11])) w'):=hid fun V w' z u K hz hu=>⟨K,z,u,_,_,rfl, .inr (.inl ⟨t,V,rfl,rfl,hz,hu⟩)⟩;have g:Hid (m.xx.length∉(fmS m).2->∀(w':World) z u,Ext w w'->RC (mk X w') z (fmC m)->QC (mk X w') u (m.yy - a2l (fmC m) m.xy)->b4d X w m (.returned (.tuple #[z,u, .int .i64 (a8V m.xx m.xx.length:Int), .int .i64 0])) w'):=hid fun V w' z u K hz hu=>⟨K,z,u,_,_,rfl, .inr (.inr ⟨t,V,rfl,rfl,hz,hu⟩)⟩;have A:=J.out W K;rw[t]at A;rw[<-H]at L;unfold b1n at i;obtain⟨D,hD⟩:∃D,a2l (fmC m) m.xy=D:=⟨_,rfl⟩;rw[hD]at c8 T g;obtain⟨F,hF⟩:∃F,b4d X w m=F:=⟨_,rfl⟩;rw[hF]at B g |-;obtain⟨rk,Z⟩:∃rk,a8V m.xx m.xx.length=rk:=⟨_,rfl⟩;rw[Z]at L g;have a7:a1d (a2W m.xx m.xy m.xx.length) (m.xx.length+1)=fmS m:=rfl;rw[a7]at i;have c7:b7v (fmS m).1 (fmS m).2 m.xx.length=fmC m:=rfl;rw[c7]at i;obtain⟨C,hC⟩:∃C,fmC m=C:=⟨_,rfl⟩;rw[hC]at i T g O R;obtain⟨S,b3⟩:∃S,fmS m=S:=⟨_,rfl⟩;rw[b3]at i B g;obtain⟨q,b7⟩:∃q,m.xx.length=q:=⟨_,rfl⟩;rw[b7]at i B g O;have d2:Hid (BR 68719476736 C):=hid fun x hx=>Nat.le_trans (R x hx) (by decide);have d8:=hid O;clear J t hN hf H b2 E U b5 c4 R P hx hy b8 hD hF Z a7 c7 hC b3 b7 B1 B2 B3 hl O;go_enter Tryz.func159,Tryz.ntmps159
  go_wp2_with fail
  refine A.mono ?_;rintro ee w1 ⟨p,rfl⟩;have a9:=y.ext0 p;have c3:=b1.ext0 p;have j1:=a9.cell 1 rfl;have j2:=a9.cell 2 rfl;have a3:=i.out w1 p _ _ (c5.out w1 p) (c2.out w1 p);clear A k0 k1 k2 k3 k4 k5 i;go_wp2_with fail
  refine a3.mono ?_;rintro ee w2 ⟨d0,e3⟩;have o:=p.trans d0;rcases e3 with⟨r,rfl⟩|⟨r,cv,rfl,b4⟩
  ·have d7:=b1.ext0 o
   have I:=hid (B.out r);clear a3 r j1 j2 B g;go_wp2_with ((with_reducible show wpList _ _ _ (⟨_, .store 45 _ _,_,_,_,_⟩::_) _ _);refine a0a a0t rfl rfl d7 rfl rfl (a1Q _ _ _ _ _ _ _) ?_;intro w7 r1 r2)
   have a0:Ext w w7:=ExtX.box (K.trans o) r2 (by omega);exact bodyPost_ret (a5D rfl rfl a0t r1 rfl) rfl (I.out w7 _ _ a0 (SlV.zero _ _ _) (QC.zero _))
  ·have I:=hid (g.out r)
   have e0:=y.ext0 o;have i1:=e0.cell 1 rfl;have b6:=L.out w2 o _ (c5.out w2 o);have G:=hid b4;obtain⟨co,cc,rfl,_,_⟩:=b4;rw[d8.out]at G |-;clear a3 r j1 j2 B g L;go_wp2_with fail
   refine b6.mono ?_;rintro ee w3 ⟨a1,rfl⟩;have a8:=o.trans a1;have a2:Ext w3 w3.drew:=(ExtX.refl _).drew;have f:=a8.trans a2;have hS:Hid (∀w',Ext w3.drew w'->w'.cell? ⟨b,3,none⟩=some (.bool s)/\w'.cell? ⟨b,3+1,none⟩=some (.slice a n c)/\w'.cell? ⟨b,3+2,none⟩=some (.slice d k e)/\w'.cell? ⟨b,2,none⟩=some (.slice yo yl yc)):=hid fun w' h=>by
    have b9:=y.ext0 (f.trans h);exact⟨b9.cell 3 rfl,b9.cell 4 rfl,b9.cell 5 rfl,b9.cell 2 rfl⟩
   obtain⟨g0,g1,g2,g3⟩:=hS.out _ (ExtX.refl _);have c1:HX (a0e X b 2) w3.drew:=M.ext f;have c9:=T.out w3.drew _ _ c1 ((mkx RC.mono G.out (a1.trans a2)).rv d2.out) (c2.out _ f);have e1:=e7.out w3.drew f;clear b6 i1 T;go_wp2_with fail
   go_region_held3 (fun w'=>w'.cell? ⟨b,3,none⟩=some (.bool s)/\w'.cell? ⟨b,3+1,none⟩=some (.slice a n c)/\w'.cell? ⟨b,3+2,none⟩=some (.slice d k e)/\w'.cell? ⟨b,2,none⟩=some (.slice yo yl yc))
    (first|exact hS.out _ t1|exact hS.out _ Y|exact⟨((y.ext0 (f.trans Y)).ext (j.set3 _ _ _).2 (a0b (by omega))).cell 3 rfl,((y.ext0 (f.trans Y)).ext (j.set3 _ _ _).2 (a0b (by omega))).cell 4 rfl,((y.ext0 (f.trans Y)).ext (j.set3 _ _ _).2 (a0b (by omega))).cell 5 rfl,((y.ext0 (f.trans Y)).ext (j.set3 _ _ _).2 (a0b (by omega))).cell 2 rfl⟩|go_keep)
    (first|(go_at_call 202;(with_reducible refine c9.mono ?_);rintro ee w5 ⟨t1,u5,rfl,d3⟩;have d5:=HX.ext c1 t1;have d9:=mkx QV.mono e1 t1;have a4:=d3.qv c8.out)|(go_at_call 100;(with_reducible refine(c2e (a0e X b 2) w5 _ _ _ _ d5 d9 a4).mono ?_);rintro ee w6 ⟨e2,u6,rfl,a5⟩;have Y:=t1.trans e2;obtain⟨s6,a6,n6,c6,d6,k6,e6,rfl⟩:=a5.shape;have j:=b1.ext0 (f.trans Y);have f0:=j.cell 0 rfl;have f1:=j.cell 1 rfl;have f2:=j.cell 2 rfl;have f3:=j.frozen 0;have f4:=j.frozen 1;have f5:=j.frozen 2))
   all_goals
    obtain⟨r1,r2⟩:=j.set3 (.bool s6) (.slice a6 n6 c6) (.slice d6 k6 e6);have h7:=QC.mono _ _ _ _ a0n (QC.mono _ _ _ _ (a0h r2 (by omega) (by omega)) a5);have d1:=RC.mono _ _ _ _ a0n (RC.mono _ _ _ _ (a0h r2 (by omega) (by omega)) (mkx RC.mono G.out (a1.trans (a2.trans Y))));have d4:Ext w _:=ExtX.box (K.trans (f.trans Y)) r2 (by omega);clear g0 g1 g2 g3 f0 f1 f2 f3 f4 f5 hS;go_wp2_with fail
    exact bodyPost_ret (a5D rfl rfl a0t r1 rfl) rfl (I.out _ _ _ d4 d1 h7)
theorem b1o:a1D Tryz.prog 117 6:=by
 have h:(Tryz.prog.info? 117).map (fun i=>(i.zero,i.size,i.bytes))=some (some (.agg #[.int .i64 0, .slice none 0 0, .slice none 0 0, .bool false, .slice none 0 0, .slice none 0 0]),6,112):=by kernel_rfl
 obtain⟨c,b,_,a,_⟩:=info_parts h;exact⟨_,c,Tryz.underlying117,b,a⟩
set_option maxRecDepth 100000 in
theorem b1Y (X:Nat->Bool) (w:World) (u t:Value) (x:Mat) (y:List Rat) (n c B:Nat) (hX:HX X w) (Q:MV (mk X w) u x) (U:RV (mk X w) t y) (o:a7y x y=true) (p:x.length=n) (l:a0x x=c) (hn:n<=8) (hc:c<=4) (m:BM B x) (j:BR B y) (v:1<=B) (hB:B<=510/\n*(2*B+1)<=6540):
  Calls Tryz.prog 77 #[u,t] w (fun e w'=>Ext w w'/\∃G,e= .returned G/\a6N (mk X w') G (gmM x y c n)):=by
 obtain⟨W,hW,L,Z,hz⟩:=a1g w #[.int .i64 0, .slice none 0 0, .slice none 0 0, .bool false, .slice none 0 0, .slice none 0 0] 117;have q:HX (a0e X w.heap.size 1) W:=hX.boxes hz;have f:Hid (∀w',Ext W w'->Le (mk X w) (mk (a0e X w.heap.size 1) w')):=hid fun w' h=>a0o (L.trans h);obtain⟨b,hb⟩:∃b,w.heap.size=b:=⟨_,rfl⟩;have a0:w.heap.size<=b:=by omega
 rw[hb]at Z hz q f;have F:=b1U (a0e X b 1) W u t x y n c B q (MV.mono _ _ _ _ (f.out W (ExtX.refl _)) Q) (RV.mono _ _ _ _ (f.out W (ExtX.refl _)) U) o p l hn hc m j v hB;obtain⟨M,hM⟩:∃M,gmM x y c n=M:=⟨_,rfl⟩;rw[hM]at F |-;obtain⟨ua,uc,rfl,a2,A⟩:=Q;obtain⟨ta,tc,rfl,a1,D⟩:=U;clear hM f o p l m j A D;go_enter Tryz.func77,Tryz.ntmps77
 go_wp2_with fail
 refine F.mono ?_;rintro e r ⟨i,G,rfl,C⟩;obtain⟨R,V,H,J,K,T,s,a,Y,O,d,k,I,rfl,h1,h2,h3⟩:=id C;obtain⟨N,P⟩:∃N,M.n=N:=⟨_,rfl⟩;rw[P]at C;have b1:=Z.ext0 i;clear F;have g:Ext r (r.alloc (.cells #[.int .i64 N, .slice R V H, .slice J K T, .bool s, .slice a Y O, .slice d k I] 173)):=(ExtX.refl r).alloc _;have bM:=Bx.new r #[.int .i64 N, .slice R V H, .slice J K T, .bool s, .slice a Y O, .slice d k I] 173;have E:=b1.ext0 g;have z:=a6N.mono _ _ _ _ (a0l g) C;rw[P];go_wp2_with (first|((with_reducible show wpList _ _ _ (⟨_, .load 173 _,_,_,_,_⟩::_) _ _);refine a3i a3H rfl bM rfl ?_)|((with_reducible show wpList _ _ _ (⟨_, .store 117 _ _,_,_,_,_⟩::_) _ _);refine a0a b1o rfl rfl E rfl rfl (c1J _ _ _ _ _ _ _ _ _ _ _ _ _ _) ?_;intro w7 r1 S))
 have h7:=a6N.mono _ _ _ _ a0n (a6N.mono _ _ _ _ (a0h S (by omega) (by omega)) z);exact bodyPost_ret (a0d rfl rfl b1o r1 rfl) rfl ⟨ExtX.box (L.trans (i.trans g)) S (by omega),_,rfl,h7⟩
set_option maxRecDepth 100000 in
theorem b4f (X:Nat->Bool) (w:World) (u:Value) (m:Mom) (C:Option Addr) (D:Nat) (O:HX X w) (I:b3H (mk X w) u m):
  Calls Tryz.prog 80 #[u, .slice C 0 D] w (a1Z X w QC m.yy):=by
 obtain⟨J,Q,E,G,H,K,s,a,z,r,d,k,o,rfl,S,P,B⟩:=I;obtain⟨N,v⟩:∃N,m.n=N:=⟨_,rfl⟩;rw[v];obtain⟨W,U,t,j,q,hz⟩:=a1v w #[.int .i64 N, .slice J Q E, .slice G H K, .bool s, .slice a z r, .slice d k o] #[.bool false, .slice none 0 0, .slice none 0 0] 117 45;have i:HX (a0e X w.heap.size 2) W:=O.boxes hz;have c:Hid (∀w',Ext W w'->Le (mk X w) (mk (a0e X w.heap.size 2) w')):=hid fun w' h=>a0o (t.trans h);obtain⟨b,M⟩:∃b,w.heap.size=b:=⟨_,rfl⟩;have F:w.heap.size<=b:=by omega
 rw[M]at j q hz i c;have hq:=QV.mono _ _ _ _ (c.out W (ExtX.refl _)) B;have p:=b7w (a0e X b 2) W _ m.yy i hq;obtain⟨y,A⟩:∃y,m.yy=y:=⟨_,rfl⟩;rw[A]at p |-;have Y:W.cell? ⟨b,3,none⟩=some (.bool s):=j.cell 3 rfl;have T:W.cell? ⟨b,3+1,none⟩=some (.slice a z r):=j.cell 4 rfl;have k5:W.cell? ⟨b,3+2,none⟩=some (.slice d k o):=j.cell 5 rfl;clear A S P B hq v c;go_enter Tryz.func80,Tryz.ntmps80
 go_wp2_with fail
 refine p.mono ?_;rintro e w1 ⟨f,u1,rfl,g⟩;obtain⟨Z,a6,n6,c6,d6,V,e6,rfl⟩:=g.shape;have l:=q.ext0 f;go_wp2_with ((with_reducible show wpList _ _ _ (⟨_, .store 45 _ _,_,_,_,_⟩::_) _ _);refine a0a a0t rfl rfl l rfl rfl (a1Q _ _ _ _ _ _ _) ?_;intro w7 R x)
 have L:=QC.mono _ _ _ _ a0n (QC.mono _ _ _ _ (a0h x (by omega) (by omega)) g);exact bodyPost_ret (a0d rfl rfl a0t R rfl) rfl ⟨ExtX.box (t.trans f) x (by omega),_,rfl,L⟩
end Go.Proofs.YtidbbddagfnfbaaGreat
namespace Go
section
variable {P:Program} {ops:Array Oper} {Q:Exit->Act->World->Prop} {md:Region.Mode} {S:World->Prop} {n:Nat}
def c1l (l:Array Bool):Nat:=l.toList.count false
def c2y {T:Type} [DecidableEq T] (md:Region.Mode) (ops:Array Oper) (all:List T) (L:T->Array Bool) (next:T->Nat->Option T) (fin:T->Bool):Bool:=
 all.all fun s=>fin s||(!(Region.ready md ops (L s)).isEmpty&&(Region.ready md ops (L s)).all fun i=>match next s i with
  |some t=>decide (t∈all)&&decide (L t=(L s).setIfInBounds i true)&&decide (c1l (L t)+1=c1l (L s))
  |none=>false)
theorem a3o {i:Nat} {o:Oper} {K:Act->World->Prop} {a:Act} {w:World} (d:ops[i]? =some o)
  (h:∀b:Act->World->Prop,Shut (∀a w,K a w->b a w)->if Region.wanted o (yielded ops a.tmps)=true then Oper.wp P o a w b Q else b (a.put o.dst undef) w):wpOp P ops Q i K a w:=wpOp_step d fun b c=>h b c
theorem b1Z {T:Type} [DecidableEq T] {I:T->Act->World->Prop} (all:List T) (L:T->Array Bool) (next:T->Nat->Option T) (fin:T->Bool) (hc:c2y md ops all L next fin=true)
  (hstep:∀s i t a w,s∈all->next s i=some t->I s a w->wpOp P ops Q i (fun a' w'=>S w'/\I t a' w') a w)
  (hexit:∀s a w,s∈all->fin s=true->I s a w->a1y P md ops Q S n (c1l (L s)) (L s) a w):
  ∀(fuel:Nat) (s:T) (a:Act) (w:World),s∈all->c1l (L s)=fuel->I s a w->a1y P md ops Q S n fuel (L s) a w:=by
 intro fuel
 induction fuel with
 |zero=>
  intro s a w hs hf hI;have h:=List.all_eq_true.1 hc s hs;cases hfin:fin s
  ·rw[hfin,Bool.false_or]at h
   obtain⟨h1,h2⟩:=(Bool.and_eq_true _ _).mp h;cases hr:Region.ready md ops (L s)with
   |nil=>rw[hr]at h1;cases h1
   |cons i r=>
    have h3:=List.all_eq_true.1 h2 i (by rw[hr];exact List.mem_cons_self);cases hn:next s i with
    |none=>rw[hn]at h3;cases h3
    |some t=>
     rw[hn]at h3;obtain⟨_,h5⟩:=(Bool.and_eq_true _ _).mp h3;have:=of_decide_eq_true h5;omega
  ·have:=hexit s a w hs hfin hI
   rwa[hf]at this
 |succ fuel ih=>
  intro s a w hs hf hI;have h:=List.all_eq_true.1 hc s hs;cases hfin:fin s
  ·rw[hfin,Bool.false_or]at h
   obtain⟨h1,h2⟩:=(Bool.and_eq_true _ _).mp h;refine⟨fun h0=>(by rw[h0]at h1;cases h1),fun i hi=>?_⟩;have h3:=List.all_eq_true.1 h2 i hi;cases hn:next s i with
   |none=>rw[hn]at h3;cases h3
   |some t=>
    rw[hn]at h3;obtain⟨h4,h5⟩:=(Bool.and_eq_true _ _).mp h3;obtain⟨h6,h7⟩:=(Bool.and_eq_true _ _).mp h4;have e1:=of_decide_eq_true h5;have e2:=of_decide_eq_true h6;have e3:=of_decide_eq_true h7;refine wpOp_mono (fun a' w' h=>⟨fun _=>h.1,?_⟩) (hstep s i t a w hs hn hI);rw[<-e3];exact ih t a' w' e2 (by omega) h.2
  ·have:=hexit s a w hs hfin hI
   rwa[hf]at this
end
end Go
namespace Go.Proofs.YtidbbddagfnfbaaGreat
open Go.RowKit Go.Rep Go.Lim Go.Lin
set_option maxRecDepth 100000 in
set_option maxHeartbeats 1600000 in
theorem a5l (X:Nat->Bool) (w:World) (u v:Value) (l m:List Rat) (hX:HX X w) (hu:RV (mk X w) u l) (hv:RV (mk X w) v m) (hn:l.length<=1000000) (p:m.length=l.length) (F:∀k,k<=l.length->hq (a3Z l m k)<=68719476736) (E:∀k,k<l.length->hq (l.getD k 0*m.getD k 0)<=68719476736):
  Calls Tryz.prog 91 #[u,v] w (a1Z X w QC (a2l l m)):=by
 obtain⟨ao,ca,rfl,e8,N⟩:=hu;obtain⟨bo,cb,rfl,c8,a5⟩:=hv;have a9:=N.hd;have b2:=a5.hd;obtain⟨W,hW,hE,I,q,hz⟩:=a1v w #[.bool false, .slice none 0 0, .slice none 0 0] #[.bool false, .slice none 0 0, .slice none 0 0] 45 45;have C:HX (a0e X w.heap.size 2) W:=hX.boxes hz;have h0:QC (mk (a0e X w.heap.size 2) W) (.agg #[.bool false, .slice none 0 0, .slice none 0 0]) (a3Z l m 0):=QC.zero _;obtain⟨n,g⟩:∃n,l.length=n:=⟨_,rfl⟩;rw[g]at hn p F E e8 a9 |-;rw[p]at c8 b2 |-;have b5:=hid g;have R:=hid p;have S:=hid F;have b4:=hid E;have b3:Hid (a3Z l m n=a2l l m):=hid (by unfold a2l;rw[g]);clear g p F E;go_enter Tryz.func91,Tryz.ntmps91
 go_wp2_with ((with_reducible show wpList _ _ _ (⟨_, .store _ _ _,_,_,_,_⟩::_) _ _);refine a0a a0t rfl rfl q rfl rfl (a1Q _ _ _ _ _ _ _) ?_;intro W2 q J)
 obtain⟨b,hb⟩:∃b,w.heap.size=b:=⟨_,rfl⟩;have U:Hid (∀wr,Ext w wr->Le (mk X w) (mk (a0e X b 2) wr)):=hid fun wr h=>by rw[<-hb];exact a0o h
 have f7:w.heap.size<=b:=by omega
 have c4:Ext w W2:=ExtX.box hE J (by omega);have a1:=I.ext J (a0b (by omega));have z:=C.ext J;have a8:QC (mk (a0e X w.heap.size 2) W2) (.agg #[.bool false, .slice none 0 0, .slice none 0 0]) (a3Z l m 0):=QC.zero _;rw[hb]at a1 q z a8;rw[hb]at I C h0 |-;clear hW I C h0 hE;go_loopw [6] (fun k wr=>∃(i:Nat) (s:Bool) (a:Option Addr) (n' c':Nat) (d:Option Addr) (kk e:Nat),k= .int .i64 i/\i<=n/\Bx wr b #[.bool false, .slice none 0 0, .slice none 0 0] 45/\Bx wr (b+1) #[.bool s, .slice a n' c', .slice d kk e] 45/\QC (mk (a0e X b 2) wr) (.agg #[.bool s, .slice a n' c', .slice d kk e]) (a3Z l m i)/\HX (a0e X b 2) wr/\Ext w wr) (fun k _=>n - (intOf k).toNat)
 case atStart=>exact⟨0,_,_,_,_,_,_,_,rfl,Nat.zero_le _,a1,q,a8,z,c4⟩
 case round=>
  obtain⟨i,s,a,n',c',d,kk,e,rfl,hi,I,q,hq,e3,o⟩:=hrel;by_cases H:i<n
  ·have a3:i<l.length:=by rw[b5.out];exact H
   have K:i<m.length:=by rw[R.out];exact H
   have c9:=N.mono QV.mono (U.out wr o);have P:=a5.mono QV.mono (U.out wr o);obtain⟨g1,o1,s1,p1,n1,q1,d1,k1,e1,L,f9,T,a4⟩:=c9.rat QV.shaped i a3;obtain⟨g2,o2,s2,p2,n2,q2,d2,k2,e2,b8,f8,b9,Q⟩:=P.rat QV.shaped i K;have gl:Hid (l.getD i 0=l[i]):=hid (by simp[List.getD_eq_getElem?_getD,a3]);have gm:Hid (m.getD i 0=m[i]):=hid (by simp[List.getD_eq_getElem?_getD,K]);have j:Hid (a3Z l m i+l[i]*m[i]=a3Z l m (i+1)):=hid (by rw[<-gl.out,<-gm.out];rfl);have Y:=hid (S.out i hi);have A:=hid (b4.out i H);rw[gl.out,gm.out]at A;obtain⟨x,hx⟩:∃x,l[i]=x:=⟨_,rfl⟩;obtain⟨y,hy⟩:∃y,m[i]=y:=⟨_,rfl⟩;rw[hx,hy]at j A;rw[hx]at a4;rw[hy]at Q;have i1:∀W,(Instr.indexAt 24 (.slice ao n ca) (.int .i64 (i:Int))).run Tryz.prog W= .ok (.pointer (some ⟨g1,o1,none⟩)) W:=by rw[<-L];exact a0m a0B ao n ca .i64 i a9 (by omega)
   have i2:∀W,(Instr.indexAt 24 (.slice bo n cb) (.int .i64 (i:Int))).run Tryz.prog W= .ok (.pointer (some ⟨g2,o2,none⟩)) W:=by rw[<-b8];exact a0m a0B bo n cb .i64 i b2 (by omega)
   obtain⟨D,hD⟩:∃D,a3Z l m i=D:=⟨_,rfl⟩;obtain⟨D2,B⟩:∃D2,a3Z l m (i+1)=D2:=⟨_,rfl⟩;rw[hD]at hq j Y;rw[B]at j;have b6:=hid B;clear hx hy L b8 hD B;have c:Ext wr wr.drew:=(ExtX.refl wr).drew;have c2:=I.ext0 c;have r:=q.ext0 c;have a0:=r.cell 0 rfl;have b7:=r.cell 1 rfl;have O:=r.cell 2 rfl;obtain⟨d9,d4,f5⟩:=T.out noY wr.drew c rfl;obtain⟨c1,c3,d5⟩:=b9.out noY wr.drew c rfl;have a2:=e3.ext c;have c5:QV (mk (a0e X b 2) wr.drew) (.agg #[.bool s1, .slice p1 n1 q1, .slice d1 k1 e1]) x:=mkx QV.mono a4 c;have f3:QV (mk (a0e X b 2) wr.drew) (.agg #[.bool s2, .slice p2 n2 q2, .slice d2 k2 e2]) y:=mkx QV.mono Q c;have d3:QV (mk (a0e X b 2) wr.drew) (.agg #[.bool s, .slice a n' c', .slice d kk e]) D:=(mkx QC.mono hq c).qv Y.out;clear T b9;go_wp2_with fail
   go_region_with (first|(go_at_call 52;(with_reducible refine(b3a (a0e X b 2) wr.drew _ _ _ _ a2 c5 f3).mono ?_);rintro ee w6 ⟨V,u6,rfl,M⟩;obtain⟨s6,a6,n6,c6,d6,k6,e6,rfl⟩:=M.shape;have Z:=a2.ext V;have e4:=mkx QV.mono d3 V;have f4:=M.qv A.out;have t:=r.ext0 V;have m0:=t.cell 0 rfl;have m1:=t.cell 1 rfl;have m2:=t.cell 2 rfl)|(go_at_call 51;(with_reducible refine(b2Z (a0e X b 2) w6 _ _ _ _ Z e4 f4).mono ?_);rintro ee w7 ⟨t7,u7,rfl,G⟩;obtain⟨s7,a7,n7,c7,d7,k7,e7,rfl⟩:=G.shape;rw[j.out]at G;have f:=t.ext0 t7;have g0:=f.cell 0 rfl;have e0:=f.cell 1 rfl;have c0:=f.cell 2 rfl;have f0:=f.frozen 0;have f1:=f.frozen 1;have f2:=f.frozen 2))
   all_goals
    obtain⟨z1,z2⟩:=f.set3 (.bool s7) (.slice a7 n7 c7) (.slice d7 k7 e7);have h8:=QC.mono _ _ _ _ (a0h (lo:=b) (nb:=2) z2 (by omega) (by omega)) G;have e9:=((c2.ext0 V).ext0 t7).ext z2 (a0b (by omega));have f6:Ext w _:=ExtX.box (o.trans (c.trans (V.trans t7))) z2 (by omega);have d0:=(Z.ext t7).ext z2;rw[<-b6.out]at h8;clear a0 b7 O d9 d4 f5 c1 c3 d5 m0 m1 m2 g0 e0 c0 f0 f1 f2 i1 i2;go_wp2_with fail
    go_roundw
    case rel=>exact⟨i+1,_,_,_,_,_,_,_,by go_num,by omega,e9,z1,h8,d0,f6⟩
    case measure=>simp[intOf];omega
  ·have d8:i=n:=by omega
   subst d8;rw[b3.out]at hq;have a0:=q.cell 0 rfl;have b7:=q.cell 1 rfl;have O:=q.cell 2 rfl;go_wp2_with ((with_reducible show wpList _ _ _ (⟨_, .store _ _ _,_,_,_,_⟩::_) _ _);refine a0a a0t rfl rfl I rfl rfl (a1Q _ _ _ _ _ _ _) ?_;intro w7 r1 J)
   have h7:=QC.mono _ _ _ _ a0n (QC.mono _ _ _ _ (a0h J (by omega) (by omega)) hq);exact bodyPost_ret (a0d rfl rfl a0t r1 rfl) rfl ⟨ExtX.box o J (by omega),_,rfl,h7⟩
set_option maxRecDepth 100000 in
set_option maxHeartbeats 1600000 in
theorem b6w (X:Nat->Bool) (w:World) (u v t:Value) (x:Mat) (y b:List Rat) (n c B:Nat) (hX:HX X w) (hu:MV (mk X w) u x) (hv:RV (mk X w) v y) (ht:RV (mk X w) t b) (d:Shp n c x) (hy:y.length=n) (hb:b.length=c) (hn:n<=96) (hc:c<=96) (O:BM B x) (hbB:BR B b) (d8:1<=B) (f1:200*B<=68000000000):
  Calls Tryz.prog 92 #[u,v,t] w (a1Z X w RC (a3G x y b)):=by
 obtain⟨L,hL⟩:∃L,a3G x y b=L:=⟨_,rfl⟩;have I:Hid (L.length=n):=hid (by rw[<-hL,a5i (by rw[hy,d.1]),d.1]);have f3:Hid (∀i (h1:i<x.length) (h2:i<y.length) (h:i<L.length),L[i]=y[i] - a2l x[i] b):=hid fun i h1 h2 h=>by subst hL;exact a6K h h1 h2
 have g0:L.length<=n:=by rw[I.out];exact Nat.le_refl _
 have f9:n<=L.length:=by rw[I.out];exact Nat.le_refl _
 obtain⟨C,uc,rfl,e9,a9⟩:=hu;obtain⟨va,vc,rfl,d9,b3⟩:=hv;have a3:=a9.hd;have b5:=b3.hd;have c8:=hid d.1;have d7:=hid hy;have f6:=hid hb;have c9:=hid d.2;have R:=hid O;have a8:=hid hbB;rw[d.1]at a3 e9 |-;rw[hy]at b5 d9 |-;rw[hL];clear hL d hy hb O hbB;go_enter Tryz.func92,Tryz.ntmps92
 go_wp2_with fail
 go_loopw [7,8] (fun o k wr=>∃(i:Nat) (oo:Option Addr) (co:Nat),k= .int .i64 i/\o= .slice oo i co/\i<=n/\OL QC 3 X w.heap.size 45 wr oo co (L.take i)/\Ext w wr) (fun _ k _=>n - (intOf k).toNat)
 case atStart=>exact⟨0,none,0,rfl,rfl,Nat.zero_le _,OL.nil _ _ _ _ _ _,ExtX.refl _⟩
 case round=>
  obtain⟨i,oo,co,rfl,rfl,hi,r,G⟩:=hrel;have b2:HX X wr:=hX.ext G;have a5:HX (un X oo) wr:=r.unX b2;have f2:=G.size;by_cases c0:i<n
  ·have a0:i<x.length:=by rw[c8.out];exact c0
   have b4:i<y.length:=by rw[d7.out];exact c0
   have a7:i<L.length:=by omega
   have a:Ext wr wr.drew:=(ExtX.refl wr).drew;have d1:Sl RV 1 (mk (un X oo) wr) C x:=a9.old RV.mono G (fun j U=>r.ob_lt U);have e0:Sl QV 3 (mk (un X oo) wr) va y:=b3.old QV.mono G (fun j U=>r.ob_lt U);have f5:RV (mk (un X oo) wr) t b:=a5Q RV.mono ht G (fun j U=>r.ob_lt U);have b8:=hid (a0L L i a7);have d0:=hid (a0W (l:=L) (i:=i) (by omega));obtain⟨a1,c1,f0,p,s,b1⟩:=d1.row i a0;obtain⟨A,E,s2,a2,n2,c2,d2,k2,e2,b9,e1,c3,P⟩:=e0.rat QV.shaped i b4;have b6:=(a1j f0).2;have Q:=(a1j e1).2;have g:=c9.out x[i] (List.getElem_mem _);have q:=a2g (R.out x[i] (List.getElem_mem _)) a8.out d8 (by rw[g];exact hc) f1;have b7:Hid (hq (a2l x[i] b)<=68719476736):=hid (q.1 _ (Nat.le_refl _));have f:=a5l (un X oo) wr.drew (.slice a1 x[i].length c1) t x[i] b (a5.ext a) (mkx RV.mono ⟨a1,c1,rfl,s,b1⟩ a) (mkx RV.mono f5 a) (by rw[g];omega) (by rw[g,f6.out]) q.1 q.2;have e:=f3.out i a0 b4 a7;have V:=mkx QV.mono P a;obtain⟨D,hD⟩:∃D,a2l x[i] b=D:=⟨_,rfl⟩;obtain⟨yi,Z⟩:∃yi,y[i]=yi:=⟨_,rfl⟩;obtain⟨z,hz⟩:∃z,L[i]=z:=⟨_,rfl⟩;rw[hD]at b7 f e;rw[Z]at V e;rw[hz]at e b8;rw[g]at p f;have N:=hid e;have e3:HX (un X oo) wr.drew:=a5;have i2:∀W,(Instr.indexAt 24 (.slice va n vc) (.int .i64 (i:Int))).run Tryz.prog W= .ok (.pointer (some ⟨A,E,none⟩)) W:=by rw[<-b9];exact a0m a0B va n vc .i64 i b5 (by omega)
   have i1:∀W,(Instr.indexAt 23 (.slice C n uc) (.int .i64 (i:Int))).run Tryz.prog W= .ok (.pointer (some (adr C i))) W:=a0z a0s C n uc .i64 i a3 (by omega) rfl;have J:Hid (∀Y W',ExtX Y wr.drew W'->Y A=false->Y (adr C i).block=false->W'.cell? ⟨A,E,none⟩=some (.bool s2)/\W'.cell? ⟨A,E+1,none⟩=some (.slice a2 n2 c2)/\W'.cell? ⟨A,E+2,none⟩=some (.slice d2 k2 e2)/\W'.cell? (adr C i)=some (.slice a1 c c1)):=hid fun Y W' h hg c4=>by
    have p2:=c3.out Y W' ((ExtX.of a).trans h) hg;exact⟨p2.1,p2.2.1,p2.2.2,p.out Y W' ((ExtX.of a).trans h) c4⟩
   obtain⟨d4,f4,c7,e8⟩:=J.out noY wr.drew (ExtX.refl _) rfl rfl;have b0:=p.out noY wr (ExtX.refl _) rfl;clear p c3 b9 b1 P g s q e hD Z hz;go_wp2_with fail
   go_region_held3 (fun w'=>w'.cell? ⟨A,E,none⟩=some (.bool s2)/\w'.cell? ⟨A,E+1,none⟩=some (.slice a2 n2 c2)/\w'.cell? ⟨A,E+2,none⟩=some (.slice d2 k2 e2)/\w'.cell? (adr C i)=some (.slice a1 c c1))
    (first|exact J.out noY _ m rfl rfl|exact J.out noY _ (m.trans H) rfl rfl|exact J.out noY _ (ExtX.alloc (m.trans H) _) rfl rfl|exact J.out (ob oo) _ ((ExtX.of (m.trans H)).trans M) Q b6|go_keep)
    (first|(go_at_call 91;(with_reducible refine f.mono ?_);rintro ee w6 ⟨m,u6,rfl,c5⟩;have S:=c5.qv b7.out;have T:=mkx QV.mono V m;have d3:=e3.ext m)|(go_at_call 50;(with_reducible refine(c0n (un X oo) w6 _ _ _ _ d3 T S).mono ?_);rintro ee w8 ⟨H,u7,rfl,F⟩;obtain⟨s6,a6,n6,c6,d6,k6,e6,rfl⟩:=F.shape;rw[<-N.out]at F;have a4:=r.ext0 QC.elem (a.trans (m.trans H));have g1:=(a.trans (m.trans H)).size;have d5:=b2.ext (a.trans (m.trans H)))|(refine a1R (l:=L.take i) rfl (by rfl) a0B rfl QC.elem (by omega) d5 i d0.out rfl rfl a4 (.agg #[.bool s6, .slice a6 n6 c6, .slice d6 k6 e6]) z rfl F (by omega) (by omega) ?_;intro e4 f7 w7 K M g3))
   have f8:=(G.trans (a.trans (m.trans H))).own a4 (Nat.le_refl _) M;rw[b8.out]at K;clear d4 f4 c7 e8 b0 i1 i2;go_wp2_with fail
   go_roundw
   case rel=>exact⟨i+1,e4,f7,by go_num,by go_num,by omega,K,f8⟩
   case measure=>simp[intOf];omega
  ·have e7:i=n:=by omega
   subst e7;rw[List.take_of_length_le (by omega)]at r;have hc:=r.lenCap;have hs:=r.sl QC.elem;go_wp2_with fail
   go_ret
   exact⟨G,_,rfl,oo,co,by rw[I.out];rfl,hc,hs⟩
end Go.Proofs.YtidbbddagfnfbaaGreat
namespace Go.Rep
open Go.RowKit Go.Lim Go.Lin
theorem c0Q {X:Nat->Bool} {oo a:Option Addr} {w:World} (b:a=oo\/∃g,a=some ⟨g,0,none⟩/\w.heap.size<=g):∀k,k<w.heap.size->un X a k=true->un X oo k=true:=fun k d h=>by
 rcases b with rfl|⟨g,rfl,c⟩
 ·exact h
 ·by_cases hx:X k=true
  ·exact a0f hx
  ·exfalso
   have:g=k:=by simpa[un,hx,ob]using h
   omega
def b4L (hs:List Hdr) (i:Nat):Option Addr:=(hs.getD i (none,0,0)).1
theorem a6g {hs:List Hdr} {i:Nat} (h:i<hs.length):b4L hs i=hs[i].1:=by simp[b4L,List.getD_eq_getElem?_getD,h]
structure CS (R:Mem->Value->Rat->Prop) (X:Nat->Bool) (base:Nat) (e1 e2:TypeId) (w:World) (oo:Option Addr) (co:Nat) (hs:List Hdr) (M:Mat) (i:Nat) (L:List Rat):Prop where
 outer:OL HdR 1 X base e1 w oo co hs
 len:hs.length=M.length
 done:∀k (_:k<i) (h1:k<hs.length) (h2:k<M.length),hs[k].2.1=M[k].length/\hs[k].2.1<=hs[k].2.2/\Sl R 3 (mk (un (un X oo) (b4L hs i)) w) hs[k].1 M[k]
 row:∀h1:i<hs.length,hs[i].2.1=L.length/\OL R 3 (un X oo) base e2 w (b4L hs i) hs[i].2.2 L
 rest:∀k,i<k->(h:k<hs.length)->hs[k]=(none,0,0)
section
variable {R:Mem->Value->Rat->Prop} {X:Nat->Bool} {base:Nat} {e1 e2:TypeId} {w w':World} {oo:Option Addr} {co:Nat} {hs:List Hdr} {M:Mat} {i:Nat} {L:List Rat}
theorem CS.start {n:Nat} (a:OL HdR 1 X base e1 w oo co (List.replicate n (none,0,0))) (d:M.length=n) (e2:TypeId):CS R X base e1 e2 w oo co (List.replicate n (none,0,0)) M 0 []:=by
 refine⟨a,by rw[List.length_replicate,d],fun k e=>by omega,fun c=>?_,fun k _ h=>by simp⟩;have b:b4L (List.replicate n (none,0,0)) 0=none:=by rw[a6g c];simp
 rw[b];refine⟨by simp,?_⟩;have:((List.replicate n ((none,0,0):Hdr))[0]).2.2=0:=by simp
 rw[this];exact OL.nil _ _ _ _ _ _
theorem CS.ext0 (f:Elem R 3) (h:CS R X base e1 e2 w oo co hs M i L) (d:Ext w w'):CS R X base e1 e2 w' oo co hs M i L:=
 ⟨h.outer.ext0 HdR.elem d,h.len,fun k j e g=>let ⟨a,b,c⟩:=h.done k j e g;⟨a,b,c.mono f.mono (a0l d)⟩,fun e=>let ⟨a,b⟩:=h.row e;⟨a,b.ext0 f d⟩,h.rest⟩
theorem CS.next (o:Elem R 3) (h:CS R X base e1 e2 w oo co hs M i L) (hi:i<M.length) (n:L=M[i]):CS R X base e1 e2 w oo co hs M (i+1) []:=by
 have m:i<hs.length:=by rw[h.len];exact hi
 obtain⟨p,j⟩:=h.row m;have d:∀f:i+1<hs.length,hs[i+1]=(none,0,0):=fun f=>h.rest (i+1) (by omega) f;have q:b4L hs (i+1)=none:=by
  by_cases f:i+1<hs.length
  ·rw[a6g f,d f]
  ·simp[b4L,List.getD_eq_getElem?_getD,f]
 have g:un (un X oo) none=un X oo:=by funext k;simp[un,ob]
 refine⟨h.outer,h.len,fun k l f r=>?_,fun f=>?_,fun k l f=>h.rest k (by omega) f⟩
 ·rw[q,g]
  by_cases e:k=i
  ·subst e
   have e2:=a6g f;rw[e2]at j;refine⟨by rw[p,n],by rw[p];exact j.lenCap,?_⟩;rw[<-n];exact j.sl o
  ·obtain⟨a,b,c⟩:=h.done k (by omega) f r
   exact⟨a,b,c.mono o.mono (a1u fun k _ l=>a0f l)⟩
 ·rw[q]
  refine⟨by rw[d f];rfl,?_⟩;have:hs[i+1].2.2=0:=by rw[d f]
  rw[this];exact OL.nil _ _ _ _ _ _
theorem CS.mc (m:Elem R 3) (h:CS R X base e1 e2 w oo co hs M M.length []):SlV (SlV R 3) 1 (_root_.Go.Rep.mk X w) (.slice oo M.length co) M:=by
 have g:=h.len;refine⟨oo,co,rfl,by rw[<-g];exact h.outer.lenCap,fun l=>?_,fun k e=>?_⟩
 ·have:=h.outer.hd;rw[g]at this;exact this l
 ·have d:k<hs.length:=by omega
  obtain⟨u,p,q,rfl⟩:=h.outer.cell HdR.one k d;obtain⟨a,b,c⟩:=h.done k e d e;refine⟨.slice hs[k].1 hs[k].2.1 hs[k].2.2,rfl,fun j o=>?_,?_⟩
  ·have f:j=0:=by simp[Value.cells]at o;omega
   subst f;unfold _root_.Go.Rep.mk;have i:X (adr oo (k*1+0)).block=false:=by
    obtain⟨b,n,rfl⟩:=h.outer.hd (by omega);exact h.outer.1 _ (by simp[ob,adr])
   rw[i];simpa[Value.cells]using p
  ·rw[a]
   exact⟨_,_,rfl,by rw[<-a];exact b,c.mono m.mono (a1u fun k _ e=>a0f (a0f e))⟩
theorem CS.push (s:Elem R 3) (h:CS R X base e1 e2 w oo co hs M i L) (hi:i<hs.length) {v:Rat} {d:Option Addr} {e n:Nat} {t p:World} (A:n=L.length+1) (x:OL R 3 (un X oo) base e2 t d e (L++[v])) (u:ExtX (ob (b4L hs i)) w t) (r:d=b4L hs i\/∃g,d=some ⟨g,0,none⟩/\w.heap.size<=g)
  (f:ExtX (ob oo) t p) (o:OL HdR 1 X base e1 p oo co (hs.set i (d,n,e))):CS R X base e1 e2 p oo co (hs.set i (d,n,e)) M i (L++[v]):=by
 subst A;have y:b4L (hs.set i (d,L.length+1,e)) i=d:=by rw[a6g (by rw[List.length_set];exact hi)];simp
 refine⟨o,by rw[List.length_set];exact h.len,fun k j l B=>?_,fun l=>?_,fun k j l=>?_⟩
 ·have m:k<hs.length:=by simpa using l
  obtain⟨a,b,c⟩:=h.done k j m B;rw[y,List.getElem_set_ne (by omega)];refine⟨a,b,?_⟩;have z:=c.mono s.mono (a0T (Z:=un (un X oo) d) u (fun q _ hq=>a0r hq) (fun q hq hz=>c0Q (X:=un X oo) r q hq hz));exact z.mono s.mono (a0T f (fun q _ hq=>a0f (a0r hq)) (fun _ _ h=>h))
 ·rw[y]
  refine⟨by simp,?_⟩;have:(hs.set i (d,L.length+1,e))[i].2.2=e:=by simp
  rw[this];exact x.ext s f (fun k _ j=>a0r j) (fun _ _ h=>h)
 ·rw[List.getElem_set_ne (by omega)]
  exact h.rest k j (by simpa using l)
end
end Go.Rep
namespace Go.Lin
theorem a6P {p:List Nat} {c:Nat} (b:p.Pairwise (· < ·)) (a:∀j∈p,j<c):(List.range c).filter (fun j=>decide (j∈p))=p:=by
 refine b0B _ _ ?_ b fun x=>?_
 ·exact(List.pairwise_lt_range (n:=c)).filter _
 ·simp only[List.mem_filter,List.mem_range,decide_eq_true_eq]
  exact⟨fun h=>h.2,fun h=>⟨a x h,h⟩⟩
def pkR (r:List Rat) (us:List Bool) (j:Nat):List Rat:=((List.range j).filter fun i=>us.getD i false).map fun i=>r.getD i 0
theorem b9l {r:List Rat} {a:List Bool} {j:Nat} (h:a.getD j false=true):pkR r a (j+1)=pkR r a j++[r.getD j 0]:=by
 unfold pkR;rw[List.range_succ,List.filter_append,show List.filter (fun i=>a.getD i false) [j]= [j]from by simp only[List.filter,h],List.map_append];rfl
theorem c0R {r:List Rat} {a:List Bool} {j:Nat} (h:a.getD j false=false):pkR r a (j+1)=pkR r a j:=by
 unfold pkR;rw[List.range_succ,List.filter_append,show List.filter (fun i=>a.getD i false) [j]= []from by simp only[List.filter,h],List.append_nil]
theorem b9m {r:List Rat} {p:List Nat} {c:Nat} (b:p.Pairwise (· < ·)) (d:∀j∈p,j<c):pkR r (Go.Rep.usedL p c) c=p.map fun j=>r.getD j 0:=by
 have e:(List.range c).filter (fun i=>(Go.Rep.usedL p c).getD i false)=p:=by
  rw[<-a6P b d];refine List.filter_congr fun j a=>?_;have a:=List.mem_range.1 a;simp[Go.Rep.usedL,List.getD_eq_getElem?_getD,a]
 unfold pkR;rw[e]
end Go.Lin
namespace Go.Proofs.YtidbbddagfnfbaaGreat
open Go.RowKit Go.Rep Go.Lim Go.Lin
end Go.Proofs.YtidbbddagfnfbaaGreat
namespace Go.Lin
open Go.Lim
def a3p (L:List Rat) (i:Nat):List Rat:=L.take i++List.replicate (L.length - i) 0
theorem a7z (L:List Rat):a3p L 0=List.replicate L.length 0:=by simp[a3p]
theorem a9i {L:List Rat} {i:Nat} (h:i<=L.length):(a3p L i).length=L.length:=by simp[a3p];omega
theorem a7A (L:List Rat):a3p L L.length=L:=by simp[a3p]
theorem a9j {L:List Rat} {i:Nat} (h:i<L.length):(a3p L i).set i L[i]=a3p L (i+1):=by
 unfold a3p;rw[List.set_append_right _ _ (by simp;omega),show L.length - i=(L.length - (i+1))+1 by omega,List.replicate_succ,show i - (L.take i).length=0 by simp;omega,List.set_cons_zero,<-List.take_append_getElem h,List.append_assoc];rfl
theorem b6x {u:Mat} {n m i:Nat} (hi:i<u.length) (h:i<(a8u u n m).length):(a8u u n m)[i]=a2l u[i] (a3j (a2J (a2a u n m) m) u[i]):=a9e hi h
end Go.Lin
namespace Go.Proofs.YtidbbddagfnfbaaGreat
open Go.RowKit Go.Rep Go.Lim Go.Lin
end Go.Proofs.YtidbbddagfnfbaaGreat
namespace Go.Lin
open Go.Lim Go.Rep
noncomputable def b9n (x:Mat) (y:List Rat) (n c:Nat):Fit:=⟨(a1d x c).2.length,usedL (a1d x c).2 c,a1L x y n c,a3G x y (a1L x y n c),a2l (a3G x y (a1L x y n c)) (a3G x y (a1L x y n c)),a8u (pkL x (a1d x c).2) n (a1d x c).2.length⟩
theorem b6y {x:Mat} {y:List Rat} {n c:Nat} (hs:Shp n c x) (g:n<=8) (a:1<=c) (h:c<=4):
  a6d (gmM x y c n)=true/\(gmM x y c n).xx.length=c/\c∉(fmS (gmM x y c n)).2/\fmC (gmM x y c n)=a1L x y n c/\a8V (gmM x y c n).xx c=(a1d x c).2.length:=by
 have b:(gmM x y c n).xx.length=c:=(a2P x n c).1;have d:fmS (gmM x y c n)=lsS x y n c:=by unfold fmS lsS;rw[b];rfl
 have e:fmC (gmM x y c n)=a1L x y n c:=by unfold fmC a1L;rw[d,b]
 have f:a0x (gmM x y c n).xx=c:=b4I (a2P x n c) a;refine⟨?_,b,by rw[d];exact(a6J hs).1,e,by rw[a8W];exact congrArg List.length (c0C hs)⟩;unfold a6d;rw[b,f,show a0H (gmM x y c n).xx=true from b9H (a2P x n c) (by omega) a (by omega),show(gmM x y c n).xy.length=c from b0c x y n c];simp only[Bool.true_and,Bool.and_eq_true,decide_eq_true_eq];exact⟨⟨by show(0:Int)<=(n:Int);omega,by show(n:Int)<=1099511627776;omega⟩,trivial,trivial,by omega⟩
end Go.Lin
namespace Go.Proofs.YtidbbddagfnfbaaGreat
open Go.RowKit Go.Rep Go.Lim Go.Lin
theorem a6Q {P:Program} {ops:Array Oper} {Q:Exit->Act->World->Prop} {rest:List Oper} {a:Act} {w:World} {d:Option Tmp} {ty:TypeId} {ps:String} {af:Array Edge} {t:TypeId} {x y:Operand} {n b o:Nat} {c e:Array Value} {T:TypeId} (p:a1D P t n) (hx:a.eval x= .pointer (some ⟨b,o,none⟩)) (s:a.eval y= .agg e) (j:Bx w b c T) (l:o+n<=c.size) (f:e.size=n) (h:∀v∈e.toList,v.oneCell'=true)
  (K:∀w',Bx w' b (c.toList.take o++e.toList++c.toList.drop (o+n)).toArray T->ExtX (ob (some ⟨b,0,none⟩)) w w'->wpList P ops Q rest (a.put d undef) w'):
  wpList P ops Q (⟨d, .store t x y,ty,ps,af,none⟩::rest) a w:=by
 refine wpList_plain rfl fun C i=>?_;obtain⟨A,B,D,r,u⟩:=p;have g:=run_storeCells_at P b o T e.toList 0 c w j (by simp[f];omega) h;have q:(storeVar t ⟨b,o,none⟩ (.agg e)).run P w= .ok () (w.setRow b (c.toList.take (o+0)++e.toList++c.toList.drop (o+0+e.toList.length)).toArray):=by
  simp[storeVar,sizeOf,typeInfo,r,u,Value.cells,f];simp only[Nat.add_zero,Array.length_toList,f,List.append_assoc]at g |-;exact g
 unfold Oper.wp;simp[execOp,hx,s,Instr.storeAt,Instr.sureAddr,q,Result.andThen];refine i _ _ (K _ ?_ ?_)
 ·unfold Bx
  have:=setRow_heap w b c (c.toList.take (o+0)++e.toList++c.toList.drop (o+0+e.toList.length)).toArray T (0,0) j;simp only[Nat.add_zero,Array.length_toList,f,List.append_assoc]at this |-;exact this
 ·exact⟨rfl,rfl,rfl,by simp,fun k _ z=>setRow_other w b k _ (fun m=>by subst m;simp[ob]at z)⟩
def b4g (X:Nat->Bool) (w:World) (f:Fit) (e:Ending) (w':World):Prop:=Ext w w'/\∃u,e= .returned (.tuple #[u, .int .i64 0])/\c1I (mk X w') u f
end Go.Proofs.YtidbbddagfnfbaaGreat
namespace Go.Lin
open Go.Lim Go.Rep
theorem b7B {x:Mat} {y:List Rat} {n c B:Nat} (g:BM B x) (b:BR B y) (f:n<=8) (a:1<=B) (e:B<=510/\n*(2*B+1)<=6540):BMo 6541 (gmM x y c n):=by
 have d:=a8S g a;refine⟨a8h (b3Q d f e),b3R d b f e,Nat.le_trans (b3O (B:=2*B) fun r _=>Nat.le_trans (hq_mul _ _) (by have:=b9f b a r;omega)) (a5k f e)⟩
theorem b0l {x:Mat} {n c B:Nat} (hs:Shp n c x) (d:BM B x) {s:List Int} (e:∀v∈s,0<=v/\v<(c:Int)):BM B (a1c x s):=fun r f q hq=>by
 obtain⟨a,b,rfl⟩:=List.mem_map.1 f;obtain⟨i,hi,rfl⟩:=List.mem_map.1 hq;have h:=hs.2 a b;have j:=e i hi;have g:i.toNat<a.length:=by omega
 simp only[List.getD_eq_getElem?_getD,List.getElem?_eq_getElem g,Option.getD_some];exact d a b _ (List.getElem_mem _)
theorem b6z {x:Mat} {y:List Rat} {n c:Nat} (hs:Shp n c x) {s:List Int} (a:∀v∈s,0<=v/\v<(c:Int)):(gmM (a1c x s) y s.length n).xx=a1c (a2V (gmM x y c n).xx s) s/\(gmM (a1c x s) y s.length n).xy=a2O (gmM x y c n).xy s/\(gmM (a1c x s) y s.length n).yy=(gmM x y c n).yy/\(gmM (a1c x s) y s.length n).n=(gmM x y c n).n:=
 ⟨(b8X hs a).symm,(b8Y hs a).symm,rfl,rfl⟩
theorem c0S {x:Mat} {y:List Rat} {n c:Nat} (hs:Shp n c x) (a:y.length=n) (s:List Int) (b:fmC (gmM (a1c x s) y s.length n)=a1L (a1c x s) y n s.length):
  (gmM (a1c x s) y s.length n).yy - a2l (fmC (gmM (a1c x s) y s.length n)) (gmM (a1c x s) y s.length n).xy=a6b x y n s:=by
 rw[b,a8o hs a,a4f (l:=y) a];rfl
end Go.Lin
namespace Go.Rep
open Go.RowKit
def zz (b:Bool) (g:Nat) (Z:Nat->Bool):Nat->Bool:=if b=true then un Z (some ⟨g,0,none⟩)else Z
theorem b9o {Z:Nat->Bool} {b:Bool} {g:Nat} {w w':World} (a:Ext w w') (c:b=true->w.heap.size<=g):Le (mk Z w) (mk (zz b g Z) w'):=by
 cases b
 ·exact a0l a
 ·exact a2n a (c rfl)
theorem b4h {Z:Nat->Bool} {g:Nat} {w w':World} (a:Ext w w'):Le (mk (zz false g Z) w) (mk (zz true w.heap.size Z) w'):=a2n a (Nat.le_refl _)
theorem b9p {Z:Nat->Bool} {b:Bool} {g:Nat} {w:World} (h:HX Z w) (a:b=true->g<w.heap.size):HX (zz b g Z) w:=by
 cases b
 ·exact h
 ·exact a1e h (a rfl)
end Go.Rep
namespace Go.Proofs.YtidbbddagfnfbaaGreat
open Go.RowKit Go.Rep Go.Lim Go.Lin
abbrev TR:=Bool×Bool×Bool×Bool×Bool
def c2h:List TR:=[true,false].flatMap fun e=>[(false,false,false,false,e),(true,false,false,false,e),(false,true,false,false,e),(true,true,false,false,e),(false,true,true,false,e),(true,true,true,false,e),(true,true,true,true,e)]
def lR (s:TR):Array Bool:=#[true,true,true,true,true,true,true,s.1,true,true,true,s.2.1,true,s.2.2.1,s.2.2.2.1,s.2.2.2.2,false]
def c0T (s:TR) (i:Nat):Option TR:=
 if i=7/\s.1=false then some (true,s.2)else if i=11/\s.2.1=false then some (s.1,true,s.2.2)else if i=13/\s.2.1=true/\s.2.2.1=false then some (s.1,s.2.1,true,s.2.2.2)
 else if i=14/\s.2.2.2.1=false/\s.1=true/\s.2.2.1=true then some (s.1,s.2.1,s.2.2.1,true,s.2.2.2.2)else if i=15/\s.2.2.2.2=false then some (s.1,s.2.1,s.2.2.1,s.2.2.2.1,true)else none
def c2z (s:TR):Bool:=s.2.2.2.1&&s.2.2.2.2
def a9k (a:Act) (v7 v11 v13 v14 v15:Value):Act:=((((a.put (some 23) v7).put (some 27) v11).put (some 29) v13).put (some 30) v14).put (some 5) v15
theorem a9l:∀s∈c2h,s.2.2.2.1=true->s.1=true/\s.2.2.1=true:=by decide
theorem b2a {P:Program} {ops:Array Oper} {Q:Exit->Act->World->Prop} {md:Region.Mode} {S:World->Prop} {n f:Nat} {l:Array Bool} {a:Act} {w:World} (h:∀b,b=a->a1y P md ops Q S n f l b w):a1y P md ops Q S n f l a w:=h a rfl
abbrev c2i:Array Value:=#[.int .i64 0, .slice none 0 0, .slice none 0 0, .bool false, .slice none 0 0, .slice none 0 0]
set_option maxRecDepth 100000 in
set_option maxHeartbeats 1600000 in
theorem b4i (X:Nat->Bool) (w:World) (u:Value) (m C:Mom) (ro:Option Addr) (S:List Int) (rc:Nat) (q:Rat) (hX:HX X w) (hu:b3H (mk X w) u m) (hs:Sl (a0p .i64) 1 w.cell? ro S) (f8:1<=S.length) (d2:S.length<=4)
  (d1:∀v∈S,0<=v/\v<(m.xy.length:Int)) (a3:∀v∈S,0<=v/\v<(m.xx.length:Int)) (f6:∀r∈m.xx,r.length=m.xx.length)
  (e1:C.xx=a1c (a2V m.xx S) S) (e2:C.xy=a2O m.xy S) (e3:C.yy=m.yy) (e4:C.n=m.n) (hB:BMo 6541 C) (f4:a6d C=true) (d8:C.xx.length∉(fmS C).2) (hq:C.yy - a2l (fmC C) C.xy=q):
  Calls Tryz.prog 80 #[u, .slice ro S.length rc] w (a1Z X w QC q):=by
 obtain⟨xo,xl,xc,yo,yl,yc,s,ya,n0,c0,d,k,e0,rfl,h1,h2,h3⟩:=hu;obtain⟨N,hN⟩:∃N,m.n=N:=⟨_,rfl⟩;rw[hN]at e4 |-;obtain⟨W,hW,hE,b0,b1,hz⟩:=a1v w #[.int .i64 N, .slice xo xl xc, .slice yo yl yc, .bool s, .slice ya n0 c0, .slice d k e0] #[.bool false, .slice none 0 0, .slice none 0 0] 117 45;have a1:HX (a0e X w.heap.size 2) W:=hX.boxes hz;have a4:Hid (∀w',Ext W w'->Le (mk X w) (mk (a0e X w.heap.size 2) w')):=hid fun w' h=>a0o (hE.trans h);obtain⟨b,hb⟩:∃b,w.heap.size=b:=⟨_,rfl⟩;have i6:w.heap.size<=b:=by omega
 rw[hb]at b0 b1 hz a1 a4;obtain⟨B,a7⟩:∃B,a0e X b 2=B:=⟨_,rfl⟩;have g8:=hid (fun k (h:X k=true)=>(by rw[<-a7];exact a7s h:B k=true));have g4:Hid (∀k,ob (some ⟨b+1,0,none⟩) k=true->B k=true):=hid fun k hk=>by
  have:b+1=k:=by simpa[ob]using hk
  rw[<-a7,<-this];exact a2L (by omega) (by omega)
 rw[a7]at a1 a4;have F:Ext W W.drew:=(ExtX.refl W).drew;obtain⟨y,b9⟩:∃y,W.drew=y:=⟨_,rfl⟩;rw[b9]at F;have a5:HX B y:=a1.ext F;have a2:=a4.out y F;have b4:Hid (∀(b:Bool) (g:Nat) w',Ext y w'->(b=true->y.heap.size<=g/\g<w'.heap.size)->Calls Tryz.prog 120 #[.slice yo yl yc, .slice ro S.length rc] w' (fun e P=>Ext w' P/\∃ao cap,e= .returned (.slice ao S.length cap)/\RV (mk (zz b g B) P) (.slice ao S.length cap) C.xy)):=hid fun b g w' h R=>by
  refine(a7w (zz b g B) w' _ m.xy ro S rc (b9p (a5.ext h) fun hb=>(R hb).2) (RV.mono _ _ _ _ (b9o h fun hb=>(R hb).1) (RV.mono _ _ _ _ a2 h2)) ((by rw[a1U];exact hs:Sl (a0p .i64) 1 (mk noY w) ro S).mono (a0p.mono _) (a0l (hE.trans (F.trans h)))) d1 (by omega)).mono ?_;rintro e P ⟨g1,ao,cap,g2,g3⟩;have hc:=g3.lenCap;have hl:=a4c m.xy S;exact⟨g1,ao,cap,g2,ao,cap,by rw[e2,hl],by rw[e2];exact hc,by rw[e2];exact g3.sl QV.elem⟩
 have c1:Hid (∀(b:Bool) (g:Nat) w',Ext y w'->(b=true->y.heap.size<=g/\g<w'.heap.size)->Calls Tryz.prog 119 #[.slice xo xl xc, .slice ro S.length rc] w' (fun e P=>Ext w' P/\∃v,e= .returned v/\MV (mk (zz b g B) P) v (a2V m.xx S))):=hid fun b g w' h R=>by
  refine(b3h (zz b g B) w' _ m.xx ro S rc (b9p (a5.ext h) fun hb=>(R hb).2) (MV.mono _ _ _ _ (b9o h fun hb=>(R hb).1) (MV.mono _ _ _ _ a2 h1)) (by rw[<-a1U]at hs |-;exact hs.mono (a0p.mono _) (a0l (hE.trans (F.trans h)))) a3 (by omega)).mono ?_;rintro e P ⟨g1,ao,cap,g2,g3⟩;exact⟨g1,_,g2,ao,cap,rfl,g3.lenCap,g3.sl RV.elem⟩
 have b3:Hid (∀(b:Bool) (g:Nat) w' v,Ext y w'->(b=true->y.heap.size<=g/\g<w'.heap.size)->MV (mk (zz b g B) w') v (a2V m.xx S)->Calls Tryz.prog 158 #[v, .slice ro S.length rc] w' (fun e P=>Ext w' P/\∃ao cap,e= .returned (.slice ao S.length cap)/\MV (mk (zz b g B) P) (.slice ao S.length cap) C.xx)):=hid fun b g w' v h R hv=>by
  refine(b3w (zz b g B) w' v (a2V m.xx S) ro S rc (b9p (a5.ext h) fun hb=>(R hb).2) hv ((by rw[a1U];exact hs:Sl (a0p .i64) 1 (mk noY w) ro S).mono (a0p.mono _) (a0l (hE.trans (F.trans h)))) (fun r hr x hx=>by rw[f6 r (b3g a3 r hr)];exact a3 x hx) (by omega) (by rw[a4Z];omega)).mono ?_;rintro e P ⟨g1,ao,cap,g2,g3⟩;have hc:=g3.lenCap;have hl:=a4d (a2V m.xx S) S;have h5:=a4Z m.xx S;rw[h5]at g2 hl;exact⟨g1,ao,cap,g2,ao,cap,by rw[e1,hl],by rw[e1];exact hc,by rw[e1];exact g3.sl RV.elem⟩
 have b5:=hid (fun(b:Bool) (g:Nat) w' (h:Ext y w') (R:b=true->y.heap.size<=g)=>QV.mono _ _ _ _ (b9o h R) (QV.mono _ _ _ _ a2 h3));rw[<-e3]at b5;have i0:=hid (show C.xx.length<=4 by rw[e1,a4d,a4Z];exact d2);have e9:=hid (fun(Y:Nat->Bool) w' (v:Value) (hY:HX Y w') (h:b3H (mk Y w') v C)=>b4e Y w' v C hY h i0.out hB);have c2:((S.length:Int)==0)=false:=a2w (by omega);have h6:=hid d8;have d7:=hid f4;have g9:=hid hq;unfold b4d at e9;obtain⟨kk,e8⟩:∃kk,S.length=kk:=⟨_,rfl⟩;rw[e8]at b4 c1 b3 c2 |-;have d3:=b0.cell 0 rfl;have f5:=b0.cell 1 rfl;have c4:=b0.cell 2 rfl;have d4:W.cell? ⟨b,3,none⟩=some (.bool s):=b0.cell 3 rfl;have c7:W.cell? ⟨b,3+1,none⟩=some (.slice ya n0 c0):=b0.cell 4 rfl;have f1:W.cell? ⟨b,3+2,none⟩=some (.slice d k e0):=b0.cell 5 rfl;have g6:=hid (fun w' (h:Ext y w')=>b1.ext0 (F.trans h));have h0:=hid (hE.trans F);have U:=F;have d9:y.cell? ⟨b,0,none⟩=some (.int .i64 N):=U.cell d3;have d5:y.cell? ⟨b,1,none⟩=some (.slice xo xl xc):=U.cell f5;have f3:y.cell? ⟨b,2,none⟩=some (.slice yo yl yc):=U.cell c4;have f0:y.cell? ⟨b,3,none⟩=some (.bool s):=U.cell d4;have c9:y.cell? ⟨b,3+1,none⟩=some (.slice ya n0 c0):=U.cell c7;have c3:y.cell? ⟨b,3+2,none⟩=some (.slice d k e0):=U.cell f1;have p:=hid (fun w' (h:Ext y w')=>(⟨h.cell d9,h.cell d5,h.cell f3,h.cell f0,h.cell c9,h.cell c3⟩:w'.cell? ⟨b,0,none⟩=some (.int .i64 N)/\w'.cell? ⟨b,1,none⟩=some (.slice xo xl xc)/\w'.cell? ⟨b,2,none⟩=some (.slice yo yl yc)/\w'.cell? ⟨b,3,none⟩=some (.bool s)/\w'.cell? ⟨b,3+1,none⟩=some (.slice ya n0 c0)/\w'.cell? ⟨b,3+2,none⟩=some (.slice d k e0)));clear hs d1 a3 f6 e1 e2 e3 hB f4 d8 hq h1 h2 h3 a2 a4 b0 b1 e8 U hE a1 hX f8 d2;go_enter Tryz.func80,Tryz.ntmps80
 go_upto_region 3 with fail
 refine a0O 16 (fun w'=>w'.cell? ⟨b,0,none⟩=some (.int .i64 N)/\w'.cell? ⟨b,1,none⟩=some (.slice xo xl xc)/\w'.cell? ⟨b,2,none⟩=some (.slice yo yl yc)/\w'.cell? ⟨b,3,none⟩=some (.bool s)/\w'.cell? ⟨b,3+1,none⟩=some (.slice ya n0 c0)/\w'.cell? ⟨b,3+2,none⟩=some (.slice d k e0)) (by kernel_rfl) (by kernel_rfl) (by rw[b9];exact p.out y (ExtX.refl _)) (fun a9 f=>?_);rw[b9]at a9 |-;clear d3 f5 c4 d4 c7 f1 d9 d5 f3 f0 c9 c3;refine kt 0 f ?_;refine kt 1 f ?_;refine kt 2 f ?_;refine kt 3 f ?_;refine kt 4 f ?_;refine kt 5 f ?_;refine kt 6 f ?_;refine kt 8 f ?_;refine kt 9 f ?_;refine kt 10 f ?_;refine kt 12 f ?_;refine b2a fun a0 b8=>?_;refine b1Z (I:=fun s1 a w'=>∃v7 E D M L O Q J H g,a=a9k a0 v7 E D M L/\Ext y w'/\(s1.1=true->v7= .slice O kk Q/\RV (mk (zz s1.2.2.2.2 g B) w') v7 C.xy)/\(s1.2.1=true->MV (mk (zz s1.2.2.2.2 g B) w') E (a2V m.xx S))/\(s1.2.2.1=true->D= .slice J kk H/\MV (mk (zz s1.2.2.2.2 g B) w') D C.xx)/\(s1.2.2.2.1=true->M= .agg #[.int .i64 N,D,v7, .bool s, .slice ya n0 c0, .slice d k e0])/\(s1.2.2.2.2=true->L= .pointer (some ⟨g,0,none⟩)/\Bx w' g c2i 173/\y.heap.size<=g))
  c2h lR c0T c2z (by kernel_rfl) ?st ?ex 6 (false,false,false,false,false) a0 y (by decide) (by decide) ?hi
 case hi=>
  subst b8;exact⟨undef,undef,undef,undef,undef,none,0,none,0,0,by simp only[a9k,Act.put,List.setIfInBounds_toArray,List.set_cons_zero,List.set_cons_succ],ExtX.refl _,fun h=>(by cases h),fun h=>(by cases h),fun h=>(by cases h),fun h=>(by cases h),fun h=>(by cases h)⟩
 case st=>
  rintro ⟨b7,b6,i2,g0,V⟩ i t a w' hs ht ⟨v7,E,D,M,L,O,Q,J,H,g,rfl,j,f7,G,A,T,l⟩;have h4:=a9l _ hs
  dsimp only at f7 G A T l h4
  have R:V=true->y.heap.size<=g/\g<w'.heap.size:=fun h=>⟨(l h).2.2,(l h).2.1.lt⟩;subst b8;unfold c0T at ht
  dsimp only at ht
  split at ht
  ·rename_i hc
   obtain⟨rfl,rfl⟩:=hc;cases ht
   simp only[a9k,Act.put,List.setIfInBounds_toArray,List.set_cons_zero,List.set_cons_succ];refine a3o (o:=⟨_,_,_,_,_,_⟩) rfl (fun K hK=>?_);go_simp
   go_at_call 120
   (with_reducible refine(b4.out V g w' j R).mono ?_)
   rintro ee P ⟨c,g5,f9,rfl,hY⟩;refine hK.out _ _ ⟨p.out P (j.trans c),_,E,D,M,L,g5,f9,J,H,g,rfl,j.trans c,fun _=>⟨rfl,hY⟩,fun h=>MV.mono _ _ _ _ (a0l c) (G h),fun h=>⟨(A h).1,MV.mono _ _ _ _ (a0l c) (A h).2⟩,fun h=>absurd (h4 h).1 (by decide),fun h=>⟨(l h).1,(l h).2.1.ext0 c,(l h).2.2⟩⟩
  ·split at ht
   ·rename_i hc
    obtain⟨rfl,rfl⟩:=hc;cases ht
    simp only[a9k,Act.put,List.setIfInBounds_toArray,List.set_cons_zero,List.set_cons_succ];refine a3o (o:=⟨_,_,_,_,_,_⟩) rfl (fun K hK=>?_);go_simp
    go_at_call 119
    (with_reducible refine(c1.out V g w' j R).mono ?_)
    rintro ee P ⟨c,v2,rfl,hM⟩;refine hK.out _ _ ⟨p.out P (j.trans c),v7,v2,D,M,L,O,Q,J,H,g,rfl,j.trans c,fun h=>⟨(f7 h).1,RV.mono _ _ _ _ (a0l c) (f7 h).2⟩,fun _=>hM,fun h=>⟨(A h).1,MV.mono _ _ _ _ (a0l c) (A h).2⟩,T,fun h=>⟨(l h).1,(l h).2.1.ext0 c,(l h).2.2⟩⟩
   ·split at ht
    ·rename_i hc
     obtain⟨rfl,rfl,rfl⟩:=hc;cases ht
     simp only[a9k,Act.put,List.setIfInBounds_toArray,List.set_cons_zero,List.set_cons_succ];refine a3o (o:=⟨_,_,_,_,_,_⟩) rfl (fun K hK=>?_);go_simp
     go_at_call 158
     (with_reducible refine(b3.out V g w' E j R (G rfl)).mono ?_)
     rintro ee P ⟨c,i1,h9,rfl,hM⟩;refine hK.out _ _ ⟨p.out P (j.trans c),v7,E,_,M,L,O,Q,i1,h9,g,rfl,j.trans c,fun h=>⟨(f7 h).1,RV.mono _ _ _ _ (a0l c) (f7 h).2⟩,fun _=>MV.mono _ _ _ _ (a0l c) (G rfl),fun _=>⟨rfl,hM⟩,fun h=>absurd (h4 h).2 (by decide),fun h=>⟨(l h).1,(l h).2.1.ext0 c,(l h).2.2⟩⟩
    ·split at ht
     ·rename_i hc
      obtain⟨rfl,rfl,rfl,rfl⟩:=hc;cases ht
      obtain⟨rfl,hY⟩:=f7 rfl;obtain⟨rfl,hM⟩:=A rfl;simp only[a9k,Act.put,List.setIfInBounds_toArray,List.set_cons_zero,List.set_cons_succ];refine a3o (o:=⟨_,_,_,_,_,_⟩) rfl (fun K hK=>?_);go_simp
      refine hK.out _ _ ⟨p.out w' j,_,E,_,_,L,O,Q,J,H,g,rfl,j,fun _=>⟨rfl,hY⟩,G,fun _=>⟨rfl,hM⟩,fun _=>rfl,l⟩
     ·split at ht
      ·rename_i hc
       obtain⟨rfl,rfl⟩:=hc;cases ht
       simp only[a9k,Act.put,List.setIfInBounds_toArray,List.set_cons_zero,List.set_cons_succ];refine a3o (o:=⟨_,_,_,_,_,_⟩) rfl (fun K hK=>?_);go_simp
       have c:Ext w' (w'.alloc (.cells c2i 173)):=(ExtX.refl _).alloc _;refine hK.out _ _ ⟨p.out _ (j.trans c),v7,E,D,M, .pointer (some ⟨w'.heap.size,0,none⟩),O,Q,J,H,w'.heap.size,rfl,j.trans c,fun h=>⟨(f7 h).1,RV.mono _ _ _ _ (b4h c) (f7 h).2⟩,fun h=>MV.mono _ _ _ _ (b4h c) (G h),fun h=>⟨(A h).1,MV.mono _ _ _ _ (b4h c) (A h).2⟩,T,fun _=>⟨rfl,Bx.new w' _ _,j.size⟩⟩
      ·cases ht
 case ex=>
  rintro ⟨b7,b6,i2,g0,V⟩ a w' hs hf ⟨v7,E,D,M,L,O,Q,J,H,g,rfl,j,f7,G,A,T,l⟩;obtain⟨rfl,rfl⟩:=(Bool.and_eq_true _ _).mp hf;obtain⟨h7,d0⟩:=a9l _ hs rfl
  dsimp only at f7 G A T l h7 d0
  subst h7 d0 b8;obtain⟨rfl,hY⟩:=f7 rfl;obtain⟨rfl,hM⟩:=A rfl;obtain rfl:=T rfl;obtain⟨rfl,bg,R⟩:=l rfl;clear f7 G A T l hf;have c8:b6=true:=by
   revert hs;revert b6;decide
  subst c8;clear hs b4 c1 b3
  show a1y _ _ _ _ _ _ 1 #[true,true,true,true,true,true,true,true,true,true,true,true,true,true,true,true,false] _ _
  simp only[a9k,Act.put,List.setIfInBounds_toArray,List.set_cons_zero,List.set_cons_succ];refine a0v (i:=16) (o:=⟨_,_,_,_,_,_⟩) (by kernel_rfl) rfl (by decide) (by kernel_rfl) (fun K hK=>?_)
  (refine a0A rfl rfl a3H rfl rfl bg rfl rfl (c1J _ _ _ _ _ _ _ _ _ _ _ _ _ _) ?_;intro w9 y1 y2)
  refine hK.out _ _ ?_;clear hK K
  (try simp only[Act.put])
  have b2:Ext y w9:=ExtX.box j y2 R;have Z:Le (mk (un B (some ⟨g,0,none⟩)) w') (mk (un B (some ⟨g,0,none⟩)) w9):=a0w y2 (fun k hk=>a0r hk);have i3:b3H (mk (un B (some ⟨g,0,none⟩)) w9) (.agg #[.int .i64 N, .slice J kk H, .slice O kk Q, .bool s, .slice ya n0 c0, .slice d k e0]) C:=by
   rw[<-e4];exact⟨_,_,_,_,_,_,_,_,_,_,_,_,_,rfl,MV.mono _ _ _ _ Z hM,RV.mono _ _ _ _ Z hY,QV.mono _ _ _ _ Z (b5.out true g w' j fun _=>R)⟩
  have i4:HX (un B (some ⟨g,0,none⟩)) w9:=a1e (a5.ext b2) y1.lt;have hf:=hid (e9.out _ w9 _ i4 i3);clear hM hY b5 Z y2 bg;go_wp2_with ((with_reducible show wpList _ _ _ (⟨_, .load 173 _,_,_,_,_⟩::_) _ _);refine a3i a3H rfl y1 rfl ?_)
  refine hf.out.mono ?_;rintro e w5 ⟨e7,z,u5,k5,c5,rfl,f2⟩;have hr:QC (mk (un B (some ⟨g,0,none⟩)) w5) u5 q:=by
   rcases f2 with⟨h,_⟩|⟨_,h,_⟩|⟨_,_,_,_,_,h⟩
   ·rw[d7.out]at h;cases h
   ·exact absurd h h6.out
   ·rw[<-g9.out];exact h
  obtain⟨s6,a6,n6,c6,d6,k6,e6,rfl⟩:=hr.shape;have bN:=Bx.new w5 #[.bool false, .slice none 0 0, .slice none 0 0] 45;have V:=g6.out w5 (b2.trans e7);clear f2 hf y1;go_wp2_with ((with_reducible show wpList _ _ _ (⟨_, .store 45 _ _,_,_,_,_⟩::_) _ _);first|(refine a0a a0t rfl rfl bN rfl rfl (a1Q _ _ _ _ _ _ _) ?_;intro w7 r1 r2;have a8:Ext w5 w7:=ExtX.box ((ExtX.refl w5).alloc _) r2 (Nat.le_refl _);have g7:=V.ext0 a8;have q0:=r1.cell 0 rfl;have q1:=r1.cell 1 rfl;have q2:=r1.cell 2 rfl)|(refine a0a a0t rfl rfl g7 rfl rfl (a1Q _ _ _ _ _ _ _) ?_;intro w8 r3 r4))
  have i5:=mkx QC.mono hr a8;have h8:=QC.mono _ _ _ _ (a4i r4 (fun k hk=>a0f (g4.out k hk)) (fun k hk=>a0f (g8.out k hk))) i5;exact bodyPost_ret (a0d rfl rfl a0t r3 rfl) rfl ⟨ExtX.box (h0.out.trans (b2.trans (e7.trans a8))) r4 (by omega),_,rfl,h8⟩
theorem b6A (X:Nat->Bool) (w:World) (u:Value) (x:Mat) (y:List Rat) (n c B:Nat) (j:Option Addr) (S:List Int) (m:Nat) (z:HX X w) (G:a6N (mk X w) u (gmM x y c n)) (hs:Sl (a0p .i64) 1 w.cell? j S) (a:Shp n c x) (s:y.length=n) (l:n<=8) (_:c<=4) (h:BM B x) (g:BR B y) (f:1<=B) (t:B<=510/\n*(2*B+1)<=6540) (b:∀v∈S,0<=v/\v<(c:Int)) (i:S.length<=4):
  Calls Tryz.prog 80 #[u, .slice j S.length m] w (a1Z X w QC (a6b x y n S)):=by
 have d:=b7B (n:=n) (c:=c) h g l f t;have A:=G.mv ⟨fun r p q hq=>Nat.le_trans (d.1 r p q hq) (by decide),fun q hq=>Nat.le_trans (d.2.1 q hq) (by decide),Nat.le_trans d.2.2 (by decide)⟩;by_cases J:S.length=0
 ·obtain rfl:S= []:=List.eq_nil_of_length_eq_zero J
  have e:a6b x y n []=(gmM x y c n).yy:=by
   have e:a2l (a1L (a1c x []) y n ([]:List Int).length) (gyL (a1c x []) y n ([]:List Int).length)=0:=by
    rw[a4f (a4e (a1c x []) y n ([]:List Int).length)];rfl
   rw[a8o a s,e,a4f s]
   show _ - 0=sm n _
   grind
  rw[e];exact b4f X w u _ j m z A
 ·have k:=a4g a S
  obtain⟨L,F,H,C,M⟩:=b6y (y:=y) k l (by omega) i;obtain⟨D,E,I,K⟩:=b6z (y:=y) a b;have o:=a2P x n c;refine b4i X w u (gmM x y c n) (gmM (a1c x S) y S.length n) j S m _ z A hs (by omega) i ?_ ?_ ?_ D E I K (b7B (b0l a h b) g l f t) L (by rw[F];exact H) (c0S a s S C)
  ·rw[show(gmM x y c n).xy.length=c from b0c x y n c];exact b
  ·rw[show(gmM x y c n).xx.length=c from o.1];exact b
  ·intro r p
   rw[show(gmM x y c n).xx.length=c from o.1];exact o.2 r p
end Go.Proofs.YtidbbddagfnfbaaGreat
