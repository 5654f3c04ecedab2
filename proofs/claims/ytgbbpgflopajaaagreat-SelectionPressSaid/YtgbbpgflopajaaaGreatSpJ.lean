/- Parts of a proof: each theorem states what it proves, and its conditions. -/
import Derived.Test.YtgbbpgflopajaaaGreatSpI
import Derived.Deep.DrawnRows
import Derived.Deep.LoopGhost
import Derived.BigQuiet
set_option maxRecDepth 100000
set_option maxHeartbeats 1600000
namespace Go.Lin
open Go.Lim Go.Rep
theorem b3O{p:List Nat}{c:Nat}(g:∀i (hi:i<p.length),p[i]<c)(l:∀i k (n:i<k) (f:k<p.length),p[i]<p[k]):p.length<=c:=by
 have e:p.Pairwise (· < ·):=List.pairwise_iff_getElem.2 fun i j hi b a=>l i j a b;have d:p.Nodup:=e.imp fun h=>Nat.ne_of_lt h;have m:p.length<=(List.range c).length:=d.length_le_of_subset fun j b=>by
  obtain⟨k,f,rfl⟩:=List.getElem_of_mem b;exact List.mem_range.2 (g k f)
 rwa[List.length_range]at m
theorem a7G{n c B:Nat}{m:Mat}(a:Shp n c m)(h:HB B m)(u:c<=4)(q:B<=6541):b2p m c/\a7o m c:=by
 have b:∀j,j<=c->(eN m j).2.1.length<=4:=fun j d=>Nat.le_trans (b3O (a6o a j).ech.lt (a6o a j).ech.inc) (by omega);have f:∀j,j<=c->(rN m j).2.1.length<=4:=fun j d=>Nat.le_trans (b3O (a6p a j).ref.lt (a6p a j).ref.inc) (by omega);have l:∀k,k<=4->5^k<=625:=fun k e=>Nat.le_trans (a6Q 5 (by omega) e) (by decide);have s:∀k,k<=4->7^k<=2401:=fun k e=>Nat.le_trans (a6Q 7 (by omega) e) (by decide);have r:∀k,k<=4->6^k<=1296:=fun k e=>Nat.le_trans (a6Q 6 (by omega) e) (by decide);refine⟨⟨1500625*B,by omega,fun j d=>(h.eN a j).mono (Nat.mul_le_mul_right _ (Nat.le_trans (l _ (b j d)) (by decide))),fun t i=>(((h.eN a c).dN (a6o a c).shp (a6o a c).ech t i)).mono ?_⟩,⟨1296*B,by omega,fun j d=>?_⟩⟩
 ·rw[<-Nat.mul_assoc]
  refine Nat.mul_le_mul_right _ ?_;exact Nat.mul_le_mul (s t (Nat.le_trans i (b c (Nat.le_refl _)))) (l _ (b c (Nat.le_refl _)))
 ·obtain⟨o,p⟩:=h.rN a j
  have g:=Nat.mul_le_mul_right B (r _ (f j d));exact⟨o.mono g,Nat.le_trans p g⟩
theorem a3y{n c B:Nat}{m:Mat}(e:Shp n c m)(h:HB B m)(d:n<=4)(a:B<=6541):b2p m c/\a7o m c:=by
 have b:=c0m d;have f:6^n<=1296:=Nat.le_trans (Nat.pow_le_pow_right (by omega) d) (by decide);have g:=Nat.mul_le_mul b a;have i:=Nat.mul_le_mul f a;exact⟨b8u e h (by omega),b5T e h (by omega)⟩
theorem b3P{n c B:Nat}{m:Mat}(a:Shp n c m)(h:HB B m)(b:n<=4):HB (1296*B) (a0J m c).1:=by
 rw[(b0M a).1];refine(h.rN a c).1.mono (Nat.mul_le_mul_right _ ?_);exact Nat.le_trans (a6Q 6 (by omega) (Nat.le_trans (b3K a c) b)) (by decide)
theorem a8n{n B:Nat}{f:Nat->Rat}(h:∀i,i<n->hq (f i)<=B):hq (sm n f)<=1+n*(B+1):=by
 induction n with
 |zero=>unfold sm;rw[a0X];omega
 |succ n ih=>
  unfold sm;have h1:=ih fun i hi=>h i (by omega);have h2:=a8F (sm n f) (f n);have h3:=h n (by omega);have e:(n+1)*(B+1)=n*(B+1)+(B+1):=Nat.succ_mul _ _;omega
theorem b5W{l:List Rat}{B:Nat}(h:BR B l)(a:1<=B)(i:Nat):hq (fn l i)<=B:=a9d h a i
theorem a9l{l m:List Rat}{c B C:Nat}(f:l.length=c)(a:BR B l)(b:BR C m)(d:1<=B)(e:1<=C):hq (a1Z l m)<=1+c*(B+C+1):=by
 rw[a6W f];refine a8n fun i hi=>Nat.le_trans (hq_mul _ _) ?_;have:=a9d a d i;have:=a9d b e i;omega
theorem c0s{x:Mat}{n B:Nat}(h:HB B x)(i j:Nat):hq (gr n (ent x) i j)<=1+n*(2*B+1):=a8n fun r _=>Nat.le_trans (hq_mul _ _) (by have:=h r i;have:=h r j;omega)
theorem c1t{x:Mat}{y:List Rat}{n B:Nat}(h:HB B x)(a:BR B y)(i:Nat):hq (gy n (ent x) (fn y) i)<=1+n*(2*B+1):=a8n fun r _=>Nat.le_trans (hq_mul _ _) (by have:=h r i;have:=b5W a h.pos r;omega)
theorem a4t{n B:Nat}(_:n<=8)(a:B<=510/\n*(2*B+1)<=6540):1+n*(2*B+1)<=6541:=by
 have:=a.2;omega
theorem b8N{n j B:Nat}(h:B<=510/\n*(2*B+1)<=6540)(a:j<=n):B<=510/\j*(2*B+1)<=6540:=⟨h.1,Nat.le_trans (Nat.mul_le_mul_right _ a) h.2⟩
theorem b1n{x:Mat}{n c B:Nat}(h:HB B x)(d:n<=8)(a:B<=510/\n*(2*B+1)<=6540):HB 6541 (gmL x n c):=fun i j=>by
 by_cases hi:i<c
 ·by_cases b:j<c
  ·rw[a6V x n c i hi j b];exact Nat.le_trans (c0s h i j) (a4t d a)
  ·rw[a1S (a2Y x n c) (.inr (by omega)),a0X];decide
 ·rw[a1S (a2Y x n c) (.inl (by omega)),a0X];decide
theorem b1o{x:Mat}{y:List Rat}{n c B:Nat}(h:HB B x)(d:BR B y)(b:n<=8)(a:B<=510/\n*(2*B+1)<=6540):BR 6541 (gyL x y n c):=fun q hq=>by
 obtain⟨i,_,rfl⟩:=List.mem_map.1 hq;exact Nat.le_trans (c1t h d i) (a4t b a)
theorem b3Q{m:Mat}{b:List Rat}{n c B:Nat}(a:Shp n c m)(g:HB B m)(f:BR B b)(h:n<=4):BR (1296*B) (b7e (a0J (a3f m b n) (c+1)).1 (a0J (a3f m b n) (c+1)).2 c):=c1r fun x hx=>by
 obtain⟨_,e,_⟩:=a1d (a2p (b:=b) a);have d:=b3P (a2p a) (b1d a g f) h;rw[a9W]at hx;rw[b0X e x hx];unfold b3d;split
 ·exact d _ _
 ·rw[a0X];exact d.pos
theorem a5S{x:Mat}{y:List Rat}{n c B:Nat}(h:HB B x)(e:BR B y)(b:n<=8)(d:c<=4)(a:B<=510/\n*(2*B+1)<=6540):BR 8500000 (a0S x y n c):=fun q hq=>
 Nat.le_trans (b3Q (a2Y x n c) (b1n h b a) (b1o h e b a) d q hq) (by decide)
theorem c0t{l:List Rat}{B i:Nat}(h:BR B l)(hi:i<l.length):hq l[i]<=B:=h _ (List.getElem_mem hi)
theorem c0u{x:Mat}{y b:List Rat}{n c B C:Nat}(j:Shp n c x)(h:BM B x)(k:BR B y)(g:BR C b)(d:1<=B)(e:1<=C):BR (B+c*(B+C+1)+2) (a2q x y b):=fun q hq=>by
 obtain⟨i,hi,rfl⟩:=List.getElem_of_mem hq;have a:i<x.length:=by unfold a2q at hi;rw[List.length_zipWith]at hi;omega
 have f:i<y.length:=by unfold a2q at hi;rw[List.length_zipWith]at hi;omega
 rw[a5y hi a f];have l:=a6a y[i] (a1Z x[i] b);have m:=c0t k f;have o:=a9l (j.2 _ (List.getElem_mem a)) (h _ (List.getElem_mem a)) g d e;omega
theorem a7b{x:Mat}{y b:List Rat}{n c B:Nat}(g:Shp n c x)(h:BM B x)(i:BR B y)(e:BR 8500000 b)(a:1<=B)(f:c<=4)(d:B<=510/\n*(2*B+1)<=6540):BR 34100000 (a2q x y b):=fun q hq=>by
 have j:=c0u g h i e a (by decide) q hq;have:=Nat.mul_le_mul f (show B+8500000+1<=8500511 by have:=d.1;omega);have:=d.1;omega
theorem c0v{l:List Rat}(h:BR 34100000 l)(a:l.length<=8):hq (a1Z l l)<=600000000:=by
 have b:=a9l rfl h h (by decide) (by decide);have:=Nat.mul_le_mul a (Nat.le_refl (34100000+34100000+1));omega
theorem b7g{x:Mat}{p:List Nat}{B:Nat}(h:BM B x)(a:1<=B):BM B (pkL x p):=fun r b q hq=>by
 obtain⟨s,c,rfl⟩:=List.mem_map.1 b;obtain⟨j,_,rfl⟩:=List.mem_map.1 hq;exact a9d (h s c) a j
theorem a8o{u:Mat}{n m B:Nat}(h:HB B u)(c:n<=8)(a:B<=510/\n*(2*B+1)<=6540):HB 6541 (a1K u n m):=fun i j=>by
 by_cases hi:i<m
 ·by_cases b:j<m
  ·rw[a9g u n m i hi j b];exact Nat.le_trans (c0s h i j) (a4t c a)
  ·rw[a1S (a0F u n m) (.inr (by omega)),a0X];decide
 ·rw[a1S (a0F u n m) (.inl (by omega)),a0X];decide
theorem a6w{m:Mat}{n B:Nat}(b:Shp n n m)(h:HB B m):HB B (a1k m n):=fun i j=>by
 have a:=h.pos;by_cases hi:i<n
 ·by_cases c:j<2*n
  ·rw[a3v b i hi j c]
   split
   ·exact h i j
   ·split
    ·have:hq (1:Rat)<=1:=by decide+kernel
     omega
    ·rw[a0X];exact a
  ·rw[a1S (a1m b) (.inr (by omega)),a0X];exact a
 ·rw[a1S (a1m b) (.inl (by omega)),a0X];exact a
theorem b8O{m:Mat}{n B:Nat}(a:Shp n n m)(h:HB B m)(c:n<=4):HB (1296*B) (a2y m n):=fun i j=>by
 have b:=b3P (a1m a) (a6w a h) c;by_cases hi:i<n
 ·rw[b1g a i hi j];exact b _ _
 ·rw[a1S (a1W a) (.inl (by omega)),a0X];exact b.pos
theorem b0e{u:Mat}{n m B:Nat}(h:HB B u)(c:n<=8)(b:m<=4)(a:B<=510/\n*(2*B+1)<=6540):BM 8500000 (a2y (a1K u n m) m):=fun r d q hq=>
 Nat.le_trans (a5w (b8O (a0F u n m) (a8o h c a) b) r d q hq) (by decide)
theorem b3R{m:Mat}{v:List Rat}{n c B C:Nat}(e:Shp n c m)(h:BM B m)(f:BR C v)(b:1<=B)(d:1<=C):BR (1+c*(B+C+1)) (a2s m v):=fun q hq=>by
 obtain⟨r,a,rfl⟩:=List.mem_map.1 hq;exact a9l (e.2 r a) (h r a) f b d
theorem b0f{u:Mat}{n m B:Nat}(d:BM B u)(e:n<=8)(c:m<=4)(a:1<=B)(b:B<=510/\n*(2*B+1)<=6540){r:List Rat}(f:r∈u):BR 34100000 (a2s (a2y (a1K u n m) m) r):=fun q hq=>by
 have g:=b3R (a1W (a0F u n m)) (b0e (a5v d a) e c b) (d r f) (by decide) a q hq;have:=Nat.mul_le_mul c (show 8500000+B+1<=8500511 by have:=b.1;omega);omega
theorem b7h{u:Mat}{n m B:Nat}(g:Shp n m u)(e:BM B u)(f:n<=8)(d:m<=4)(a:1<=B)(c:B<=510/\n*(2*B+1)<=6540):BR 140000000 (a3n u n m):=fun q hq=>by
 obtain⟨r,b,rfl⟩:=List.mem_map.1 hq;have h:=a9l (g.2 r b) (e r b) (b0f e f d a c b) a (by decide);have:=Nat.mul_le_mul d (show B+34100000+1<=34100511 by have:=c.1;omega);omega
theorem b1p{m:Mat}{i j:Nat}(hi:i<m.length)(a:j<m[i].length):m[i][j]=ent m i j:=by
 unfold ent;rw[show m.getD i []=m[i]by simp[List.getD_eq_getElem?_getD,hi],List.getD_eq_getElem?_getD,List.getElem?_eq_getElem a];rfl
theorem a9m{m:Mat}{n c:Nat}(h:Shp n c m)(b:n=0->c=0):colsL m=c:=by
 by_cases d:0<n
 ·have a:0<m.length:=by rw[h.1];exact d
  rw[a2d a];exact h.2 _ (List.getElem_mem _)
 ·have:m= []:=List.eq_nil_of_length_eq_zero (by rw[h.1];omega)
  subst this;rw[b (by omega)];rfl
end Go.Lin
namespace Go.Proofs.YtgbbpgflopajaaaGreat
open Go.RowKit Go.Rep Go.Lim Go.Lin
theorem a4u{R:Mem->Value->Rat->Prop}(X:Nat->Bool)(w:World)(u:Value)(m:List (List Rat))(l:SlV (SlV R 3) 1 (mk X w) u m):Calls Tryz.prog 211 #[u] w (fun e o=>o=w/\e= .returned (.int .i64 (colsL m:Int))):=by
 obtain⟨ao,r,rfl,i,a⟩:=l;have j:=a.hd;by_cases h:0<m.length
 ·obtain⟨p,q,g,c,d,k⟩:=a.row 0 h
  have n:=c.out noY w (ExtX.refl _) rfl;have b:=hid (a2d h);have f:((m.length:Int)==0)=false:=a2H (by omega);go_enter Tryz.func211,Tryz.ntmps211
  go_wp2_with (with_reducible refine a0s a0p (by omega) (by assumption) ?_)
  go_ret
  exact⟨rfl,a0O (by rw[b.out])⟩
 ·have b:Hid (colsL m=0):=hid (by
   have:m= []:=List.eq_nil_of_length_eq_zero (by omega);subst this;rfl)
  have f:((m.length:Int)==0)=true:=a7k (by omega);go_enter Tryz.func211,Tryz.ntmps211
  go_wp2_with (with_reducible refine a0s a0p (by omega) (by assumption) ?_)
  go_ret
  exact⟨rfl,a0O (by rw[b.out];rfl)⟩
theorem a4o{R:Mem->Value->Rat->Prop}(V:a3R R)(X:Nat->Bool)(w:World)(u:Value)(m:List (List Rat))(hu:SlV (SlV R 3) 1 (mk X w) u m)(hl:m.length<=1099511627776):Calls Tryz.prog 209 #[u] w (b2N w (a0y m)):=by
 obtain⟨ao,F,rfl,K,B⟩:=hu;have k:=B.hd;by_cases J:96<m.length
 ·have f:Hid (false=a0y m):=hid (by
   symm;cases hf:a0y m
   ·rfl
   ·have:=(a1L.1 hf).1;omega)
  have Q:(96:Int)<(m.length:Int):=by omega
  go_enter Tryz.func209,Tryz.ntmps209
  go_wp2_with fail
  go_ret
  exact⟨ExtX.refl _,a0n f.out⟩
 ·have Q:¬(96:Int)<(m.length:Int):=by omega
  obtain⟨n,M⟩:∃n,m.length=n:=⟨_,rfl⟩;have o:=hid M;have a0:n<=96:=by omega
  rw[M]at k Q |-;clear M hl J K;go_enter Tryz.func209,Tryz.ntmps209
  go_wp2_with fail
  go_loopw [3] (fun c wr=>∃(i:Nat),c= .int .i64 i/\i<=n/\Hid (∀q,q<i->∀hq:q<m.length,1<=m[q].length/\m[q].length<=96/\m[q].length=colsL m)/\Ext w wr) (fun c _=>n - (intOf c).toNat)
  case atStart=>exact⟨0,rfl,Nat.zero_le _,hid (fun q hq=>by omega),ExtX.refl _⟩
  case round=>
   obtain⟨i,rfl,hi,A,r⟩:=hrel;by_cases L:i<n
   ·have l:i<m.length:=by rw[o.out];exact L
    have I:0<m.length:=by omega
    have C:=B.mono (SlV.mono V 3) (a0m r);obtain⟨a1,c1,Y,s,v,N⟩:=C.row i l;obtain⟨a2,c2,Z,t,z,O⟩:=C.row 0 I;have e:=s.out noY wr (ExtX.refl _) rfl;have b:=t.out noY wr (ExtX.refl _) rfl;have H:∀W,(Instr.indexAt 53 (.slice ao n F) (.int .i64 (i:Int))).run Tryz.prog W= .ok (.pointer (some (adr ao i))) W:=a0x a0p ao n F .i64 i k (by omega) rfl;have G:∀W,(Instr.indexAt 53 (.slice ao n F) (.int .i64 0)).run Tryz.prog W= .ok (.pointer (some (adr ao 0))) W:=a0x a0p ao n F .i64 0 k (by omega) rfl;have j:=a2d I;have a:=hid (a5m i l);rw[<-j]at b;obtain⟨x,hx⟩:∃x,m[i].length=x:=⟨_,rfl⟩;obtain⟨y,P⟩:∃y,colsL m=y:=⟨_,rfl⟩;rw[hx]at e a;rw[P]at b a;have d:Hid (1<=x/\x<=96/\x=y->∀hq:i<m.length,1<=m[i].length/\m[i].length<=96/\m[i].length=colsL m):=hid fun h hq=>by rw[hx,P];exact h
    clear hx P j s t N O v z I l;by_cases g:x=0
    ·have S:decide ((x:Int)<1)=true:=decide_eq_true (by omega)
     have f:=hid (a.out (by omega));clear g a d;go_wp2_with fail
     go_region
     all_goals
      clear e b H G;go_wp2_with fail
      go_ret
      exact⟨r.trans (ExtX.refl wr).drew,a0n f.out⟩
    ·have S:decide ((x:Int)<1)=false:=decide_eq_false (by omega)
     by_cases E:96<x
     ·have T:decide ((96:Int)<(x:Int))=true:=decide_eq_true (by omega)
      have f:=hid (a.out (by omega));clear g a d;go_wp2_with fail
      go_region
      all_goals
       clear e b H G;go_wp2_with fail
       go_ret
       exact⟨r.trans (ExtX.refl wr).drew,a0n f.out⟩
     ·have T:decide ((96:Int)<(x:Int))=false:=decide_eq_false (by omega)
      by_cases p:x=y
      ·have U:((x:Int) !=(y:Int))=false:=a8D (by omega)
       have D:=hid (d.out ⟨by omega,by omega,p⟩);clear g p a d E;go_wp2_with fail
       go_region
       all_goals
        clear e b H G;go_wp2_with fail
        go_roundw
        case rel=>exact⟨i+1,by go_num,by omega,hid (a3p A.out D.out),r.trans (ExtX.refl wr).drew⟩
        case measure=>simp[intOf];omega
      ·have U:((x:Int) !=(y:Int))=true:=a8A (by omega)
       have f:=hid (a.out (by omega));clear g p a d E;go_wp2_with fail
       go_region
       all_goals
        clear e b H G;go_wp2_with fail
        go_ret
        exact⟨r.trans (ExtX.refl wr).drew,a0n f.out⟩
   ·have f:Hid (true=a0y m):=hid (by
     symm;exact a1L.2 ⟨by rw[o.out];omega,fun q hq=>A.out q (by rw[o.out]at hq;omega) hq⟩)
    go_wp2_with fail
    go_ret
    exact⟨r,a0n f.out⟩
attribute [local go_sem↓] Go.wp_at_zero Go.wp_at_succ
def b7i(X:Nat->Bool)(w:World)(S:Sr)(e:Ending)(w':World):Prop:=Ext w w'/\∃oo co po pc uf,e= .returned (.tuple #[.slice oo S.1.length co, .slice po S.2.1.length pc,uf])/\S.1.length<=co/\S.2.1.length<=pc/\Sl RC 1 (mk X w') oo S.1/\Sl (a0c .i64) 1 (mk X w') po S.2.1/\QC (mk X w') uf S.2.2
theorem a4U(X:Nat->Bool)(w:World)(u:Value)(m:List (List Rat))(n c:Nat)(hX:HX X w)(hu:MV (mk X w) u m)(i5:Shp n c m)(hc:colsL m=c)(hn:n<=900)(E4:c<=900)(hT:a7o m c):Calls Tryz.prog 213 #[u] w (b7i X w (rN m c)):=by
 obtain⟨W,hW,g8,b0,hz⟩:=a0R w #[.bool false, .slice none 0 0, .slice none 0 0] 38;have h6:HX (a0e X w.heap.size 1) W:=hX.boxes hz;have z7:MV (mk (a0e X w.heap.size 1) W) u m:=MV.mono _ _ _ _ (a0l g8) hu;have s6:=b8f (a0e X w.heap.size 1) W u m h6 z7 (by rw[i5.1];omega) (fun r hr=>by rw[i5.2 r hr];omega);have l6:=hid i5.1;have i6:=hid i5;have C3:Hid (n=0->c=0):=hid fun h=>by
  have:m= []:=List.eq_nil_of_length_eq_zero (by rw[l6.out];exact h);rw[<-hc,this];rfl
 obtain⟨B,u1,u4⟩:=hT;have u5:=hid u4;have C:=hid u1;have f8:Hid (∀w',Le (mk (a0e X w.heap.size 1) w') (mk X w')):=hid fun w'=>a0k;have g7:Hid (a0e X w.heap.size 1 w.heap.size=true):=hid (a4N (Nat.le_refl _) (by omega));obtain⟨D,n4⟩:∃D,a0e X w.heap.size 1=D:=⟨_,rfl⟩;obtain⟨b,hb⟩:∃b,w.heap.size=b:=⟨_,rfl⟩;rw[n4]at h6 s6 f8 g7;rw[hb]at b0 g7;have B7:W.heap.size=b+1:=by rw[<-hb];exact hz
 have o2:Hid (w.heap.size=b):=hid hb;clear hu z7 n4 hz hb i5 u4 u1;go_enter Tryz.func213,Tryz.ntmps213
 go_wp2_with fail
 refine s6.mono ?_;rintro e w1 ⟨a6,A,L,rfl,b6⟩;have n6:HX (un D A) w1:=b6.unX (h6.ext a6);clear hW;rw[l6.out];go_wp2_with fail
 refine(a4H (un D A) w1 1 n6 (by decide) (by decide)).mono ?_;rintro e w2 ⟨b5,u2,rfl,t5⟩;obtain⟨s2,a2,n2,c2,d2,k2,e2,rfl⟩:=t5.shape;have bf:=Bx.new w2 #[.bool false, .slice none 0 0, .slice none 0 0] 38;go_wp2_with ((with_reducible show wpList _ _ _ (⟨_, .store _ _ _,_,_,_,_⟩::_) _ _);refine a0a a0o rfl rfl bf rfl rfl (a1z _ _ _ _ _ _ _) ?_;intro w3 r1 r2)
 have f9:Ext w2 w3:=ExtX.box ((ExtX.refl w2).alloc _) r2 (Nat.le_refl _);have b7:=b6.ext0 RC.elem b5;have y3:∀k,ob A k=true->k<w2.heap.size:=fun k Z=>(b7.block Z).2;obtain⟨H,q8⟩:∃H,w2.heap.size=H:=⟨_,rfl⟩;obtain⟨base,b9⟩:∃base,W.heap.size=base:=⟨_,rfl⟩;have D1:=a6.size;have D2:=b5.size;have A8:RS D w b H base 25 38 3 w3 A L none 0 m [] 1:=by
  subst q8 b9;refine⟨b7.ext RC.elem f9 (fun k _ h=>by simp[noY]at h) (fun k Z hz=>?_),OL.nil _ _ _ _ _ _,⟨s2,a2,n2,c2,d2,k2,e2,r1,QC.mono _ _ _ _ (a1i f9 (fun k _ h=>by simp[noY]at h) fun k Z hz=>?_) t5⟩,h6.ext (a6.trans (b5.trans f9)),b0.ext0 (a6.trans (b5.trans f9)),g7.out,?_,g8.trans (a6.trans (b5.trans f9)),?_,?_⟩
  ·by_cases h:D k=true
   ·exact h
   ·have h':D k=false:=by simpa using h
    have:w2.heap.size=k:=by simpa[un,b0b,ob,h']using hz
    omega
  ·by_cases h:un D A k=true
   ·exact h
   ·have h':un D A k=false:=by simpa using h
    obtain⟨h1,h2⟩:=a1a h';have e1:ob (none:Option Addr) k=false:=rfl;have e2:ob (some ⟨w2.heap.size,0,none⟩) k=(w2.heap.size==k):=rfl;have:w2.heap.size=k:=by simpa[un,a7a,b0b,h1,h2,e1,e2]using hz
    omega
  ·omega
  ·have:=g8.size;omega
  ·have:=g8.size;omega
 have o3:n<=L:=by have:=b6.lenCap;rw[l6.out]at this;exact this
 have f0:Hd A n:=by have:=b6.hd;rw[l6.out]at this;exact this
 rw[q8,o2.out];clear b6 b7 y3 t5 bf r1 r2 a6 b5 f9 D1 D2 s6 b0 h6 n6 g8 q8 b9 B7;go_loopg [5,7] c (fun g p k wr=>∃(j:Nat) (G:Option Addr) (pc z:Nat) (M:Mat) (P:List Nat) (f:Rat),k= .int .i64 j/\p= .slice G z pc/\j+g=c/\Hid (P.length=z)/\Hid (rN m j=(M,P,f))/\RS D w b H base 25 38 3 wr A L G pc M P f)
 case atStart=>exact⟨0,none,0,0,m,[],1,rfl,rfl,by omega,hid rfl,hid rfl,A8⟩
 case round=>
  obtain⟨j,G,pc,z,M,P,f,rfl,rfl,hj,f4,i7,N⟩:=hrel;have l7:=a6p i6.out j;rw[i7.out]at l7;have hM:=hid l7.shp;have g3:Hid (M.length=n):=hid hM.out.1;have C8:z<=n:=by have h1:P.length<=n:=l7.ref.le;rw[f4.out]at h1;exact h1
  have j7:=hid (u5.out j (by omega));rw[i7.out]at j7;have h9:colsL M=c:=a9m hM.out C3.out;have l1:=a4u (R:=QC) (un (b0b D H) G) wr (.slice A n L) M ⟨A,L,by rw[g3.out],by rw[g3.out];exact o3,N.rows.sl RC.elem⟩;rw[h9]at l1;clear l7 h9;by_cases r5:j<c
  ·go_wp2_with fail
   refine l1.mono ?_;rintro e w2 ⟨rfl,rfl⟩;clear l1;go_wp2_with fail
   go_loopw [9] (fun a wx=>∃(t:Nat),a= .int .i64 t/\z<=t/\t<=n/\Hid (∀i,z<=i->i<t->ent M i j=0)/\RS D w b H base 25 38 3 wx A L G pc M P f) (fun a _=>n - (intOf a).toNat)
   case atStart=>exact⟨z,rfl,Nat.le_refl _,C8,hid (fun i h1 h2=>by omega),N⟩
   case round=>
    clear N;obtain⟨t,rfl,E5,E6,m4,N⟩:=hrel;by_cases m0:t<n
    ·have i8:t<M.length:=by rw[g3.out];exact m0
     obtain⟨a1,c1,t7,A5,o4,r7⟩:=N.row t i8;have s0:Hid (M[t].length=c):=hid (hM.out.2 _ (List.getElem_mem _));have x6:j<M[t].length:=by rw[s0.out];exact r5
     have d3:=hid (b1p i8 x6);rw[s0.out]at t7 o4;have x5:Hd a1 c:=by have:=r7.hd;rw[s0.out]at this;exact this
     have a4:=hid (j7.out.1 t j);have q5:=N.hz;obtain⟨g9,o9,s5,a5,n5,c5,d5,k5,e5,x2,h7,v9,i9⟩:=r7.rat QC.shaped j x6;rw[d3.out]at i9;obtain⟨x,hx⟩:∃x,ent M t j=x:=⟨_,rfl⟩;rw[hx]at d3 a4 i9;have m3:=hid hx;obtain⟨A2,A3,A4⟩:=v9.out noY wr (ExtX.refl _) rfl;have i1:∀W,(Instr.indexAt 53 (.slice A n L) (.int .i64 (t:Int))).run Tryz.prog W= .ok (.pointer (some (adr A t))) W:=a0x a0p A n L .i64 t f0 (by omega) rfl;have i2:∀W,(Instr.indexAt 25 (.slice a1 c c1) (.int .i64 (j:Int))).run Tryz.prog W= .ok (.pointer (some ⟨g9,o9,none⟩)) W:=by rw[<-x2];exact a0h a0w a1 c c1 .i64 j x5 (by omega)
     clear hx A5 v9 x2 h7;by_cases h0:x=0
     ·have z3:(x.num.sign==(0:Int))=true:=by rw[h0];rfl
      have A1:Hid (∀i,z<=i->i<t+1->ent M i j=0):=hid fun i h1 h2=>by
       by_cases e:i=t
       ·subst e;rw[m3.out];exact h0
       ·exact m4.out i h1 (by omega)
      clear h0;go_wp2_with fail
      refine(a7z (a7a D H G A) wr _ x q5 (i9.qv (by have:=a4.out;have:=C.out;omega))).mono ?_;rintro e w5 ⟨j8,rfl⟩;have b1:=N.ext0 j8;clear t7 A2 A3 A4 i1 i2;go_wp2_with fail
      go_roundw
      case rel=>exact⟨t+1,by go_num,by omega,by omega,A1,b1⟩
      case measure=>simp[intOf];omega
     ·have z3:(x.num.sign==(0:Int))=false:=a2H (by intro h;exact h0 (Rat.num_eq_zero.1 (Int.sign_eq_zero_iff_zero.1 h)))
      have t6:=hid h0;have x8:((t:Int)==(n:Int))=false:=a2H (by omega);clear h0;go_wp2_with fail
      refine(a7z (a7a D H G A) wr _ x q5 (i9.qv (by have:=a4.out;have:=C.out;omega))).mono ?_;rintro e w5 ⟨j8,rfl⟩;have b1:=N.ext0 j8;clear t7 A2 A3 A4 i1 i2 N j8 q5 r7 i9 x5
      go_upto_if 46 with(fail)
      have d4:z<M.length:=by rw[g3.out];omega
      have a0:z<n:=by omega
      have z6:=hid (b3M i8 d4);have b3:Hid (rN m (j+1)=(out (pv (a1j M t z) z j) z j n,P++[j],(if t - z=0 then f else - f)*ent (a1j M t z) z j)):=hid (by
       have e1:z+(t - z)=t:=by omega
       have:=c0r i6.out i7.out f4.out (a:=t - z) (by rw[e1];exact m4.out) (by omega) (by rw[e1,m3.out];exact t6.out);rw[e1]at this;exact this)
      have c4:=hid (hM.out.swap m0 a0);have f5:=hid (j7.out.1.swap hM.out m0 a0);have l8:Hid (ent (a1j M t z) z j≠0):=hid (by rw[a3H hM.out m0 a0,if_pos rfl,m3.out];exact t6.out);have q7:=hid j7.out.2;clear z3 x8 a4 t6 d3 o4;go_cut []from 14 to 122 (fun wx=>∃f1,Hid (f1=if t - z=0 then f else - f)/\RS D w b H base 25 38 3 wx A L G pc (a1j M t z) P f1)
      case first=>
       by_cases t0:t=z
       ·have x9:((t:Int) !=(z:Int))=false:=a8D (by omega)
        have B3:RS D w b H base 25 38 3 w5 A L G pc (a1j M t z) P f:=by rw[t0,a5M M z d4];exact b1
        have q9:Hid (f=if t - z=0 then f else - f):=hid (if_pos (by omega)).symm;clear t0 b1;go_wp2_with fail
        go_meet
        case rel=>exact⟨f,q9,B3⟩
       ·have x9:((t:Int) !=(z:Int))=true:=a8A (by omega)
        have q9:Hid (- f=if t - z=0 then f else - f):=hid (if_neg (by omega)).symm;obtain⟨ap,cp,y1,e6,F,I⟩:=b1.row z d4;obtain⟨ax,cx,y2,p5,w0,y7⟩:=b1.row t i8;obtain⟨b6,a6⟩:=b1.rows.set1 a5i RC.elem SlV.one t i8 (.slice ap M[z].length cp) M[z] ⟨ap,cp,rfl,F,I⟩;obtain⟨u3,k3,f3,D3⟩:=b6.cell SlV.one z (by simpa using d4);obtain⟨b7,b5⟩:=b6.set1 a5i RC.elem SlV.one z (by simpa using d4) (.slice ax M[t].length cx) M[t] ⟨ax,cx,rfl,w0,y7.mono QC.mono (a0v a6 fun k Z=>a0r Z)⟩;have u6:=(a6.trans b5).drew;have b7:=b7.ext0 RC.elem (ExtX.refl (Y:=noY) _).drew;rw[z6.out]at b7;have k6:=b1.setRows u6 b7;have i1:∀W,(Instr.indexAt 53 (.slice A n L) (.int .i64 (t:Int))).run Tryz.prog W= .ok (.pointer (some (adr A t))) W:=a0x a0p A n L .i64 t f0 (by omega) rfl;have i2:∀W,(Instr.indexAt 53 (.slice A n L) (.int .i64 (z:Int))).run Tryz.prog W= .ok (.pointer (some (adr A z))) W:=a0x a0p A n L .i64 z f0 (by omega) rfl;clear t0 D3 b6 b7 a6 b5 b1 I y7;go_wp2_with fail
        go_region
        obtain⟨w6,m2⟩:∃w6,((w5.setCell (adr A t) (.slice ap M[z].length cp)).setCell (adr A z) (.slice ax M[t].length cx)).drew=w6:=⟨_,rfl⟩;rw[m2]at k6 |-;obtain⟨sf,af,nf,cf,df,kf,ef,bF,g5⟩:=k6.fac;have z0:=bF.cell 0 rfl;have z1:=bF.cell 1 rfl;have z2:=bF.cell 2 rfl;have B6:=k6.hz;clear y1 y2 e6 p5 k3 f3 i1 i2 m2 u6;go_wp2_with fail
        refine(b8e (a7a D H G A) w6 _ f B6 (g5.qv (by have:=q7.out;have:=C.out;omega))).mono ?_;rintro e w7 ⟨j9,u7,rfl,j0⟩;obtain⟨s7,a7,n7,c7,d7,k7,e7,rfl⟩:=j0.shape;have b4:=bF.ext0 j9;have A9:=k6.ext0 j9;clear z0 z1 z2 bF;go_wp2_with ((with_reducible show wpList _ _ _ (⟨_, .store _ _ _,_,_,_,_⟩::_) _ _);refine a0a a0o rfl rfl b4 rfl rfl (a1z _ _ _ _ _ _ _) ?_;intro w8 r1 r2)
        have q4:=A9.setFac r2 r1 (QC.mono _ _ _ _ (a0v r2 fun k Z=>a0i (a0i (a0r Z))) j0)
        go_meet
        case rel=>exact⟨- f,q9,q4⟩
      case rest=>
       obtain⟨f1,w4,g4⟩:=hcut;rw[<-w4.out]at b3;have o5:Hid (hq f1<=B):=hid (by rw[w4.out];split;exact q7.out;rw[a5Z];exact q7.out);obtain⟨w6,m2⟩:∃w6,w6=wc:=⟨_,rfl⟩;subst m2;obtain⟨M1,m8⟩:∃M1,a1j M t z=M1:=⟨_,rfl⟩;rw[m8]at b3 c4 f5 l8 g4;have v3:Hid (M1.length=n):=hid c4.out.1;have b2:z<M1.length:=by rw[v3.out];exact a0
       have S:Hid (M1[z].length=c):=hid (c4.out.2 _ (List.getElem_mem _));have l5:j<M1[z].length:=by rw[S.out];exact r5
       have d3:=hid (b1p b2 l5);have a4:=hid (f5.out z j);have C7:Hid (M1.getD z []=M1[z]):=hid (a3x b2);obtain⟨y,hy⟩:∃y,ent M1 z j=y:=⟨_,rfl⟩;have o7:Hid (pv M1 z j=M1.set z (M1[z].map (· *(((1:Int):Rat)/y)))):=hid (by unfold pv;rw[C7.out,hy];rfl);rw[hy]at d3 a4 l8 b3;have f6:=hid (c4.out.pv a0 j);have m5:=hid (f5.out.pv c4.out a0 j);have i4:Hid (BR B M1[z]):=hid (a5w f5.out _ (List.getElem_mem _));have i1:∀W,(Instr.indexAt 53 (.slice A n L) (.int .i64 (z:Int))).run Tryz.prog W= .ok (.pointer (some (adr A z))) W:=a0x a0p A n L .i64 z f0 (by omega) rfl;have J:Ext w6 w6.drew:=(ExtX.refl w6).drew;clear b1 m8 hy m3 z6;go_upto_region 15 with(fail)
       go_cut []from 14 to 122 (fun wx=>RS D w b H base 25 38 3 wx A L G pc M1 P (f1*y))
       case first=>
        obtain⟨ap,cp,y1,e6,F,I⟩:=g4.row z b2;obtain⟨g,o,s5,a5,n5,c5,d5,k5,e5,hg,v8,d1,c0⟩:=I.rat QC.shaped j l5;obtain⟨sf,af,nf,cf,df,kf,ef,bF,g5⟩:=g4.fac;rw[d3.out]at c0;rw[S.out]at y1 F;have r0:Hd ap c:=by have:=I.hd;rw[S.out]at this;exact this
        have i2:∀W,(Instr.indexAt 25 (.slice ap c cp) (.int .i64 (j:Int))).run Tryz.prog W= .ok (.pointer (some ⟨g,o,none⟩)) W:=by rw[<-hg];exact a0h a0w ap c cp .i64 j r0 (by omega)
        have j6:=bF.ext0 J;have z0:=j6.cell 0 rfl;have z1:=j6.cell 1 rfl;have z2:=j6.cell 2 rfl;obtain⟨k0,k1,k2⟩:=d1.out noY w6.drew J rfl;have j5:w6.drew.cell? (adr A z)=some (.slice ap c cp):=y1;have d0:=g4.ext0 J;have b8:=d0.hz;have y6:QV (mk (a7a D H G A) w6.drew) (.agg #[.bool sf, .slice af nf cf, .slice df kf ef]) f1:=g5.qv (by have:=o5.out;have:=C.out;omega);have d6:QV (mk (a7a D H G A) w6.drew) (.agg #[.bool s5, .slice a5 n5 c5, .slice d5 k5 e5]) y:=c0.qv (by have:=a4.out;have:=C.out;omega);clear I hg d1 g4 y1 e6 bF;go_wp2_with fail
        go_region_with ((go_at_call 52;(with_reducible refine(b1I (a7a D H G A) w6.drew _ _ f1 y b8 y6 d6).mono ?_);rintro ee w7 ⟨t1,u7,rfl,j0⟩;obtain⟨s7,a7,n7,c7,d7,k7,e7,rfl⟩:=j0.shape;have b4:=j6.ext0 t1;have g0:=b4.cell 0 rfl;have g1:=b4.cell 1 rfl;have g2:=b4.cell 2 rfl;have h0:=b4.frozen 0;have h1:=b4.frozen 1;have h2:=b4.frozen 2))
        all_goals
         obtain⟨q1,q2⟩:=b4.set3 (.bool s7) (.slice a7 n7 c7) (.slice d7 k7 e7);have q4:=(d0.ext0 t1).setFac q2 q1 (QC.mono _ _ _ _ (a0v q2 fun k Z=>a0i (a0i (a0r Z))) j0);clear z0 z1 z2 k0 k1 k2 j5 g0 g1 g2 h0 h1 h2 i2;go_wp2_with fail
         go_meet
         case rel=>exact q4
       case rest=>
        have x1:Hid (hq (f1*y)<=2*B):=hid (by have:=hq_mul f1 y;have:=o5.out;have:=a4.out;omega);obtain⟨f2,x0⟩:∃f2,f1*y=f2:=⟨_,rfl⟩;rw[x0]at x1 hcut b3;clear g4 J x0;obtain⟨w7,D4⟩:∃w7,w7=wc:=⟨_,rfl⟩;subst D4;have k4:=hcut;have J:Ext w7 w7.drew:=(ExtX.refl w7).drew;clear hcut;go_upto_region 16 with(fail)
        go_cut []from 14 to 122 (fun wx=>RS D w b H base 25 38 3 wx A L G pc (pv M1 z j) P f2)
        case first=>
         obtain⟨ap,cp,y1,e6,F,I⟩:=k4.row z b2;obtain⟨g,o,s5,a5,n5,c5,d5,k5,e5,hg,v8,d1,c0⟩:=I.rat QC.shaped j l5;rw[d3.out]at c0;have r0:Hd ap c:=by have:=I.hd;rw[S.out]at this;exact this
         have i2:∀W,(Instr.indexAt 25 (.slice ap c cp) (.int .i64 (j:Int))).run Tryz.prog W= .ok (.pointer (some ⟨g,o,none⟩)) W:=by rw[<-hg];exact a0h a0w ap c cp .i64 j r0 (by omega)
         have s1:RV (mk (a7a D H G A) w7.drew) (.slice ap c cp) M1[z]:=by
          rw[<-S.out];exact⟨ap,cp,rfl,F,I.qv fun q hq=>Nat.le_trans (i4.out q hq) (by have:=C.out;omega)⟩
         rw[S.out]at y1 F;have hS:Hid (∀W',Ext w7.drew W'->W'.cell? (adr A z)=some (.slice ap c cp)/\W'.cell? ⟨g,o,none⟩=some (.bool s5)/\W'.cell? ⟨g,o+1,none⟩=some (.slice a5 n5 c5)/\W'.cell? ⟨g,o+2,none⟩=some (.slice d5 k5 e5)):=hid fun W' h=>by
          obtain⟨k0,k1,k2⟩:=d1.out noY W' (J.trans h) rfl;exact⟨(J.trans h).cell y1,k0,k1,k2⟩
         obtain⟨j5,k0,k1,k2⟩:=hS.out w7.drew (ExtX.refl _);have d0:=k4.ext0 J;have b8:=d0.hz;have d6:QV (mk (a7a D H G A) w7.drew) (.agg #[.bool s5, .slice a5 n5 c5, .slice d5 k5 e5]) y:=c0.qv (by have:=a4.out;have:=C.out;omega);have A6:Hid (hq (((1:Int):Rat))<=68719476736):=hid (by decide+kernel);have C9:Hid (hq (((1:Int):Rat)/y)<=68719476736):=hid (by have h3:=hq_div ((1:Int):Rat) y;have h4:hq (((1:Int):Rat))=1:=(by decide+kernel);have:=a4.out;have:=C.out;have:=a7w y;omega);have y9:Hid (M1[z].length<=1000000):=hid (by rw[S.out];omega);clear I hg d1 k4 y1 e6;go_wp2_with fail
         refine a0z 17 (fun w'=>w'.cell? (adr A z)=some (.slice ap c cp)/\w'.cell? ⟨g,o,none⟩=some (.bool s5)/\w'.cell? ⟨g,o+1,none⟩=some (.slice a5 n5 c5)/\w'.cell? ⟨g,o+2,none⟩=some (.slice d5 k5 e5)) (by kernel_rfl) (by kernel_rfl) (hS.out _ (ExtX.refl _)) (fun E s=>?_);clear j5 k0 k1 k2;refine kt 0 s ?_;refine kt 1 s ?_;refine kt 2 s ?_;refine kt 3 s ?_;refine kt 4 s ?_;refine kt 5 s ?_;refine kt 7 s ?_;refine kt 8 s ?_;refine kt 9 s ?_;refine kt 10 s ?_;refine kt 11 s ?_;refine kt 12 s ?_;refine kt 13 s ?_;refine ks 6 (fun K U=>?_);go_simp
         (go_at_call 53;(with_reducible refine(a4H (a7a D H G A) w7.drew 1 b8 (by decide) (by decide)).mono ?_);rintro ee w8 ⟨t1,u8,rfl,z8⟩)
         refine kcn U (hS.out w8 t1) (fun E=>?_);clear U K;obtain⟨s8,a8,n8,c8,d8,k8,e8,rfl⟩:=z8.shape;have B4:=b8.ext t1;have D6:=mkx QV.mono d6 t1;have z9:=z8.qv A6.out;refine ks 14 (fun K U=>?_);go_simp
         (go_at_call 227;(with_reducible refine(c1i (a7a D H G A) w8 _ _ _ y B4 z9 D6 l8.out).mono ?_);rintro ee w9 ⟨t2,u9,rfl,j1⟩)
         refine kcn U (hS.out w9 (t1.trans t2)) (fun E=>?_);clear U K;obtain⟨s9,a9,n9,c9,d9,k9,e9,rfl⟩:=j1.shape;have c3:=t1.trans t2;have h7:=b8.ext c3;have r9:=mkx RV.mono s1 c3;have j2:=j1.qv C9.out;refine ks 15 (fun K U=>?_);go_simp
         (go_at_call 272;(with_reducible refine(b7a (a7a D H G A) w9 _ _ _ _ h7 r9 j2 y9.out).mono ?_);rintro ee j4 ⟨t3,E1,rfl,e3⟩)
         refine kcn U (hS.out j4 (c3.trans t3)) (fun E=>?_);clear U K;obtain⟨p3,p4,rfl,h8,p1⟩:=e3;have E0:=c3.trans t3;have h5:=d0.ext0 E0;obtain⟨_,_,p0,fz,_,_⟩:=h5.row z b2;refine kt 16 s ?_;refine kl 17 (fun K U=>?_);go_simp
         refine U.out _ _ ?_;clear U K;obtain⟨n1,m6⟩:=h5.rows.set1 a5i RC.elem SlV.one z b2 (.slice p3 M1[z].length p4) (M1[z].map (· *(((1:Int):Rat)/y))) ⟨p3,p4,by rw[List.length_map],h8,p1⟩;have V:=h5.setRows m6 n1;have c6:=V;rw[<-o7.out]at c6;clear p0 fz i2 n1 m6 V E s;go_wp2_with fail
         go_meet
         case rel=>exact c6
        case rest=>
         have q3:=hcut;clear hcut k4 J i1;obtain⟨w8,D5⟩:∃w8,w8=wc:=⟨_,rfl⟩;subst D5;obtain⟨O,m9⟩:∃O,pv M1 z j=O:=⟨_,rfl⟩;rw[m9]at q3 b3 f6 m5;have n0:Hid (O.length=n):=hid f6.out.1;have v6:RS D w b H base 25 38 3 w8 A L G pc (out O z j 0) P f2:=by rw[b5U];exact q3
         have o1:=hid (a5w m5.out);have l0:Hid (∀wx,OL RC 1 (un (b0b D H) G) base 25 wx A L (out O z j n)->base<=wx.heap.size):=hid fun wx h=>by
          obtain⟨b0,o0,l0⟩:=f0 (by omega);have:=h.block (k:=b0) (by rw[l0];simp[ob]);omega
         have i1:∀W,(Instr.indexAt 53 (.slice A n L) (.int .i64 (z:Int))).run Tryz.prog W= .ok (.pointer (some (adr A z))) W:=a0x a0p A n L .i64 z f0 (by omega) rfl;clear m9 q3 l5 S d3 a4 o7 i4 l8;go_wp2_with fail
         go_loopw [10] (fun a wx=>∃(i:Nat),a= .int .i64 i/\i<=n/\RS D w b H base 25 38 3 wx A L G pc (out O z j i) P f2) (fun a _=>n - (intOf a).toNat)
         case atStart=>exact⟨0,rfl,Nat.zero_le _,v6⟩
         case round=>
          clear v6;obtain⟨i,rfl,hi,N⟩:=hrel;by_cases C2:i<n
          ·by_cases l4:i=z
           ·have y0:((i:Int) !=(z:Int))=false:=a8D (by omega)
            have B2:RS D w b H base 25 38 3 wr A L G pc (out O z j (i+1)) P f2:=by subst l4;rw[<-b5V];exact N
            clear l4 N;go_wp2_with fail
            go_roundw
            case rel=>exact⟨i+1,by go_num,by omega,B2⟩
            case measure=>simp[intOf];omega
           ·have y0:((i:Int) !=(z:Int))=true:=a8A (by omega)
            have l2:i<O.length:=by rw[n0.out];exact C2
            have l9:z<O.length:=by rw[n0.out];exact a0
            have l3:i<(out O z j i).length:=by rw[a4T];exact l2
            have r6:z<(out O z j i).length:=by rw[a4T];exact l9
            have x3:(out O z j i)[i]=O[i]:=by rw[a5R l3 l2,if_neg (by omega)]
            have x4:(out O z j i)[z]=O[z]:=by rw[a5R r6 l9,if_neg (by omega)]
            have T:=hid (b8L (m:=O) (t:=z) (col:=j) l2 l4);rw[a3x l9]at T;obtain⟨ai,ci,y1,e6,f7,g6⟩:=N.row i l3;obtain⟨ap,cp,y2,p5,F,I⟩:=N.row z r6;rw[x3]at y1 f7 g6;rw[x4]at y2 F I;have a3:Hid (O[i].length=c):=hid (f6.out.2 _ (List.getElem_mem _));have e0:Hid (O[z].length=c):=hid (f6.out.2 _ (List.getElem_mem _));have p6:=hid (o1.out O[i] (List.getElem_mem _));have p7:=hid (o1.out O[z] (List.getElem_mem _));have r4:j<O[i].length:=by rw[a3.out];exact r5
            obtain⟨g,o,s5,a5,n5,c5,d5,k5,e5,hg,v8,d1,c0⟩:=g6.rat QC.shaped j r4;have A0:O[i].getD j 0=O[i][j]:=by rw[List.getD_eq_getElem?_getD,List.getElem?_eq_getElem r4];rfl
            rw[A0]at T;have m1:=hid (p6.out O[i][j] (List.getElem_mem _));obtain⟨v,hv⟩:∃v,O[i][j]=v:=⟨_,rfl⟩;rw[hv]at T c0 m1;clear hv A0 x3 x4;obtain⟨row,o8⟩:∃row,O[i]=row:=⟨_,rfl⟩;rw[o8]at T g6 y1 f7 a3 p6;obtain⟨e4,y5⟩:∃e4,O[z]=e4:=⟨_,rfl⟩;rw[y5]at T I y2 F e0 p7;have B8:Hd ai c:=by have:=g6.hd;rw[a3.out]at this;exact this
            have J:Ext wr wr.drew:=(ExtX.refl wr).drew;have i2:∀W,(Instr.indexAt 25 (.slice ai c ci) (.int .i64 (j:Int))).run Tryz.prog W= .ok (.pointer (some ⟨g,o,none⟩)) W:=by rw[<-hg];exact a0h a0w ai c ci .i64 j B8 (by omega)
            have i3:∀W,(Instr.indexAt 53 (.slice A n L) (.int .i64 (i:Int))).run Tryz.prog W= .ok (.pointer (some (adr A i))) W:=a0x a0p A n L .i64 i f0 (by omega) rfl;have D0:RV (mk (a7a D H G A) wr.drew) (.slice ai c ci) row:=by
             rw[<-a3.out];exact⟨ai,ci,rfl,f7,g6.qv fun q hq=>Nat.le_trans (p6.out q hq) (by have:=C.out;omega)⟩
            have s1:RV (mk (a7a D H G A) wr.drew) (.slice ap c cp) e4:=by
             rw[<-e0.out];exact⟨ap,cp,rfl,F,I.qv fun q hq=>Nat.le_trans (p7.out q hq) (by have:=C.out;omega)⟩
            rw[a3.out]at y1;rw[e0.out]at y2;have hS:Hid (∀W',Ext wr.drew W'->W'.cell? (adr A i)=some (.slice ai c ci)/\W'.cell? (adr A z)=some (.slice ap c cp)/\W'.cell? ⟨g,o,none⟩=some (.bool s5)/\W'.cell? ⟨g,o+1,none⟩=some (.slice a5 n5 c5)/\W'.cell? ⟨g,o+2,none⟩=some (.slice d5 k5 e5)):=hid fun W' h=>by
             obtain⟨k0,k1,k2⟩:=d1.out noY W' (J.trans h) rfl;exact⟨(J.trans h).cell y1,(J.trans h).cell y2,k0,k1,k2⟩
            obtain⟨j5,E3,k0,k1,k2⟩:=hS.out wr.drew (ExtX.refl _);have d0:=N.ext0 J;have b8:=d0.hz;have d6:QV (mk (a7a D H G A) wr.drew) (.agg #[.bool s5, .slice a5 n5 c5, .slice d5 k5 e5]) v:=c0.qv (by have:=m1.out;have:=C.out;omega);have C4:Hid (hq (-v)<=68719476736):=hid (by rw[a5Z];have:=m1.out;have:=C.out;omega);have i0:Hid (BR 68719476736 (e4.map (· * -v))):=hid fun q hq=>by
             obtain⟨x,hx,rfl⟩:=List.mem_map.1 hq;have h1:=p7.out x hx;have h2:=hq_mul x (-v);rw[a5Z]at h2;have:=m1.out;have:=C.out;omega
            have C0:Hid (e4.length<=1000000):=hid (by rw[e0.out];omega);have C1:Hid (row.length<=1000000):=hid (by rw[a3.out];omega);have x7:Hid ((e4.map (· * -v)).length=row.length):=hid (by rw[List.length_map,e0.out,a3.out]);have o6:=hid l3;obtain⟨PR,q0⟩:∃PR,e4.map (· * -v)=PR:=⟨_,rfl⟩;have v5:=hid q0;rw[q0]at T i0 x7;obtain⟨NR,p9⟩:∃NR,List.zipWith (· + ·) row PR=NR:=⟨_,rfl⟩;have v4:=hid p9;rw[p9]at T;clear g6 I hg d1 N y1 e6 y2 p5 o8 y5 l4 l2 l9 r6 c0 l3 r4 f7 F q0 p9;go_wp2_with fail
            refine a0z 21 (fun w'=>w'.cell? (adr A i)=some (.slice ai c ci)/\w'.cell? (adr A z)=some (.slice ap c cp)/\w'.cell? ⟨g,o,none⟩=some (.bool s5)/\w'.cell? ⟨g,o+1,none⟩=some (.slice a5 n5 c5)/\w'.cell? ⟨g,o+2,none⟩=some (.slice d5 k5 e5)) (by kernel_rfl) (by kernel_rfl) (hS.out _ (ExtX.refl _)) (fun E s=>?_);clear j5 E3 k0 k1 k2;refine kt 0 s ?_;refine kt 1 s ?_;refine kt 2 s ?_;refine kt 3 s ?_;refine kt 4 s ?_;refine kt 5 s ?_;refine kt 6 s ?_;refine kt 7 s ?_;refine kt 8 s ?_;refine kt 9 s ?_;refine kt 10 s ?_;refine kt 11 s ?_;refine kt 12 s ?_;refine kt 13 s ?_;refine kt 14 s ?_;refine kt 15 s ?_;refine kt 16 s ?_;refine ks 17 (fun K U=>?_);go_simp
            (go_at_call 136;(with_reducible refine(b8e (a7a D H G A) wr.drew _ v b8 d6).mono ?_);rintro ee w9 ⟨t1,u9,rfl,j1⟩)
            refine kcn U (hS.out w9 t1) (fun E=>?_);clear U K;obtain⟨s9,a9,n9,c9,d9,k9,e9,rfl⟩:=j1.shape;have h7:=b8.ext t1;have r9:=mkx RV.mono s1 t1;have j2:=j1.qv C4.out;refine ks 18 (fun K U=>?_);go_simp
            (go_at_call 272;(with_reducible refine(b7a (a7a D H G A) w9 _ _ e4 (-v) h7 r9 j2 C0.out).mono ?_);rintro ee j4 ⟨t2,E1,rfl,e3⟩)
            refine kcn U (hS.out j4 (t1.trans t2)) (fun E=>?_);clear U K;rw[v5.out]at e3;have t4:=e3.rv i0.out;obtain⟨p3,p4,rfl,h8,p1⟩:=e3;have c3:=t1.trans t2;have v7:=b8.ext c3;have y8:=mkx RV.mono D0 c3;refine ks 19 (fun K U=>?_);go_simp
            (go_at_call 273;(with_reducible refine(c1j (a7a D H G A) j4 _ _ row _ v7 y8 t4 C1.out x7.out).mono ?_);rintro ee E2 ⟨t3,E7,rfl,p2⟩)
            refine kcn U (hS.out E2 (c3.trans t3)) (fun E=>?_);clear U K;rw[v4.out]at p2;obtain⟨t8,t9,rfl,q6,z4⟩:=p2;have V:=d0.ext0 (c3.trans t3);obtain⟨_,_,p0,fz,_,_⟩:=V.row i o6.out;refine kt 20 s ?_;refine kl 21 (fun K U=>?_);go_simp
            refine U.out _ _ ?_;clear U K;obtain⟨n3,m7⟩:=V.rows.set1 a5i RC.elem SlV.one i o6.out (.slice t8 NR.length t9) NR ⟨t8,t9,rfl,q6,z4⟩;have c6:=V.setRows m7 n3;rw[T.out]at c6;clear p0 fz i2 i3 n3 m7 V E s;go_wp2_with fail
            go_roundw
            case rel=>exact⟨i+1,by go_num,by omega,c6⟩
            case measure=>simp[intOf];omega
          ·have r3:i=n:=by omega
           subst r3;have b9:=l0.out wr N.rows;have B5:∀k,un (b0b D H) A k=true->k<wr.heap.size:=fun k Z=>N.hz k (by
            by_cases h:b0b D H k=true
            ·exact a0i (a0i h)
            ·exact a0r (by simpa[un,h]using Z))
           have hP:=N.piv;have y4:Hid ((P++[j]).length=z+1):=hid (by rw[List.length_append,f4.out];rfl);clear i1 l0;go_wp2_with (at_builtin;refine a0t (l:=P) a2J rfl (a0c.elem .i64) b9 B5 z f4.out rfl rfl hP (.int .i64 (j:Int)) j rfl rfl (by omega) (by omega) ?_;intro D8 D7 j4 A7 j9 C5)
           have B0:=N.push j9 A7 C5;go_roundg (c - (j+1))
           case measure=>omega
           case rel=>exact⟨j+1,D8,D7,z+1,_,_,_,by go_num,rfl,by omega,y4,b3,B0⟩
    ·have r3:t=n:=by omega
     subst r3;have x8:((t:Int)==(t:Int))=true:=a7k rfl;have z5:=hid (b8M i6.out i7.out f4.out m4.out);clear m4;go_wp2_with fail
     go_roundg (c - (j+1))
     case measure=>omega
     case rel=>exact⟨j+1,G,pc,z,M,P,f,by go_num,rfl,by omega,f4,z5,N⟩
  ·have B9:j=c:=by omega
   subst B9;go_wp2_with fail
   refine l1.mono ?_;rintro e w2 ⟨rfl,rfl⟩;obtain⟨sf,af,nf,cf,df,kf,ef,bF,g5⟩:=N.fac;have Q:=N.res;have z0:=bF.cell 0 rfl;have z1:=bF.cell 1 rfl;have z2:=bF.cell 2 rfl;have g0:=Q.cell 0 rfl;have g1:=Q.cell 1 rfl;have g2:=Q.cell 2 rfl;have h0:=Q.frozen 0;have h1:=Q.frozen 1;have h2:=Q.frozen 2;obtain⟨q1,q2⟩:=Q.set3 (.bool sf) (.slice af nf cf) (.slice df kf ef);have D9:=q1.ext0 (ExtX.refl (Y:=noY) _).drew;have j3:=q2.drew;have r8:QC (mk X _) (.agg #[.bool sf, .slice af nf cf, .slice df kf ef]) f:=QC.mono _ _ _ _ (f8.out _) (QC.mono _ _ _ _ (a0v j3 fun k Z=>b3N g7.out Z) (QC.mono _ _ _ _ (a1v fun k _ Z=>a0i (a0i (a0i Z))) g5));have p8:Ext w _:=ExtX.box N.ext j3 (by rw[o2.out];exact Nat.le_refl _);have s4:Sl RC 1 (mk X _) A M:=(((N.rows.sl RC.elem).mono RC.mono (a1v fun k _ Z=>a0i (a0i Z))).mono RC.mono (a0v j3 fun k Z=>b3N g7.out Z)).mono RC.mono (f8.out _);have s3:Sl (a0c .i64) 1 (mk X _) G P:=(((N.piv.sl (a0c.elem _)).mono (a0c.mono _) (a1v fun k _ Z=>a0i (a0i Z))).mono (a0c.mono _) (a0v j3 fun k Z=>b3N g7.out Z)).mono (a0c.mono _) (f8.out _);have C6:P.length<=pc:=N.piv.lenCap;clear Q bF N g5 q1 q2 j3;go_wp2_with fail
   go_region
   go_wp2_with fail
   refine bodyPost_ret (b0d (P:=Tryz.prog) (c:=4) (d:=2) (e:=3) rfl rfl a0o D9 rfl) rfl ?_;have B1:∀w9,Ext w w9->Sl RC 1 (mk X w9) A M->Sl (a0c .i64) 1 (mk X w9) G P->QC (mk X w9) (.agg #[.bool sf, .slice af nf cf, .slice df kf ef]) f->b7i X w (rN m j) (.returned (.tuple #[.slice A n L, .slice G z pc, .agg #[.bool sf, .slice af nf cf, .slice df kf ef]])) w9:=fun w9 p8 s4 s3 r8=>by
    rw[i7.out];exact⟨p8,A,L,G,pc,_,by rw[g3.out,f4.out],by rw[g3.out];exact o3,C6,s4,s3,r8⟩
   exact B1 _ p8 s4 s3 r8
end Go.Proofs.YtgbbpgflopajaaaGreat
namespace Go.Lin
open Go.Lim
noncomputable def a9x(m:Mat)(n:Nat):Rat:=if(rN m n).2.1.length<n then 0 else(rN m n).2.2
theorem b5X{n:Nat}{m:Mat}(e:n<=4)(g:Shp n n m):a9x m n=det n (ent m):=by
 have h:=a6p g n;obtain⟨d,b,i⟩:=h.re;have c:=b.det_same e;have a:=h.ref.det e;unfold a9x;by_cases f:(rN m n).2.1.length=n
 ·rw[if_pos f]at a
  rw[if_neg (by omega)];rw[a]at c;grind
 ·have:=h.ref.le
  rw[if_neg f]at a;rw[if_pos (by omega)];rw[a]at c;have:=b.ne;grind
theorem b3S{n:Nat}{m:Mat}(a:n<=4)(b:Shp n n m):a9x m n=b9u m n:=by rw[b5X a b,a8h a b]
end Go.Lin
namespace Go.Proofs.YtgbbpgflopajaaaGreat
open Go.RowKit Go.Rep Go.Lim Go.Lin
def c0w(X:Nat->Bool)(w:World)(S:Mat×List Nat)(e:Ending)(w':World):Prop:=Ext w w'/\∃oo co po pc,e= .returned (.tuple #[.slice oo S.1.length co, .slice po S.2.length pc, .int .i64 0])/\S.1.length<=co/\S.2.length<=pc/\Sl RC 1 (mk X w') oo S.1/\Sl (a0c .i64) 1 (mk X w') po S.2
theorem b5Y(X:Nat->Bool)(w:World)(u:Value)(m:List (List Rat))(n c:Nat)(F:HX X w)(A:MV (mk X w) u m)(q:a0y m=true)(i:m.length=n)(b:colsL m=c)(E:a7o m c):Calls Tryz.prog 210 #[u] w (c0w X w ((rN m c).1,(rN m c).2.1)):=by
 obtain⟨k,l,g,_,_⟩:=a0D q;rw[i,b]at k;rw[i]at l;rw[b]at g;have d:=a4o QV.mono X w u m A (by omega);rw[q]at d;have j:=hid (fun B (h:Ext w B)=>a4U X B u m n c (F.ext h) (mkx MV.mono A h) k b (by omega) (by omega) E);obtain⟨S,z⟩:∃S,rN m c=S:=⟨_,rfl⟩;rw[z]at j |-;clear q z;go_enter Tryz.func210,Tryz.ntmps210
 go_wp2_with fail
 refine d.mono ?_;rintro e K ⟨f,rfl⟩;have y:=j.out K f;clear d;go_wp2_with fail
 refine y.mono ?_;rintro e x ⟨o,G,D,I,H,V,rfl,p,r,s,t,v⟩;obtain⟨U,M,R,N,O,Q,P,rfl⟩:=v.shape;have C:=Bx.new x #[.bool false, .slice none 0 0, .slice none 0 0] 38;clear y;go_wp2_with ((with_reducible show wpList _ _ _ (⟨_, .store _ _ _,_,_,_,_⟩::_) _ _);refine a0a a0o rfl rfl C rfl rfl (a1z _ _ _ _ _ _ _) ?_;intro L T J)
 have a:Ext x L:=ExtX.box ((ExtX.refl x).alloc _) J (Nat.le_refl _);go_ret3
 exact⟨f.trans (o.trans a),G,D,I,H,rfl,p,r,s.mono RC.mono (a0m a),t.mono (a0c.mono _) (a0m a)⟩
theorem b8P(X:Nat->Bool)(w:World)(u:Value)(m:List (List Rat))(n:Nat)(hX:HX X w)(Y:MV (mk X w) u m)(G:a0y m=true)(r:m.length=n)(p:colsL m=n)(hT:a7o m n):Calls Tryz.prog 212 #[u] w (fun e k=>Ext w k/\∃u,e= .returned (.tuple #[u, .int .i64 0])/\QC (mk X k) u (a9x m n)):=by
 obtain⟨i,E,V,_,_⟩:=a0D G;rw[r,p]at i;rw[r]at E;obtain⟨W,hW,o,b0,hz⟩:=a0R w #[.bool false, .slice none 0 0, .slice none 0 0] 38;have F:HX (a0e X w.heap.size 1) W:=hX.boxes hz;have j:MV (mk (a0e X w.heap.size 1) W) u m:=MV.mono _ _ _ _ (a0l o) Y;have g:=a4o QV.mono _ W u m j (by omega);rw[G]at g;have b:=hid (fun k (h:Ext W k)=>a4u _ k u m (mkx MV.mono j h));rw[p]at b;have s:=hid (fun k (h:Ext W k)=>a4U _ k u m n n (F.ext h) (mkx MV.mono j h) i p (by omega) (by omega) hT);have hdr:Hid (a9x m n=if(rN m n).2.1.length<n then 0 else(rN m n).2.2):=hid rfl;have c:=hid ((a6p i n).ref.le);obtain⟨S,U⟩:∃S,rN m n=S:=⟨_,rfl⟩;rw[U]at s hdr c;obtain⟨M,P,f⟩:=S
 dsimp only at hdr c
 obtain⟨ua,a3,rfl,Z,J⟩:=Y;rw[r]at g b s |-;have a1:((n:Int) !=(n:Int))=false:=a8D rfl;clear G U i j J;go_enter Tryz.func212,Tryz.ntmps212
 go_wp2_with fail
 refine g.mono ?_;rintro e w1 ⟨a,rfl⟩;have R:=b.out w1 a;clear g;go_wp2_with fail
 refine R.mono ?_;rintro e w2 ⟨rfl,rfl⟩;have T:=s.out w2 a;clear R;go_wp2_with fail
 refine T.mono ?_;rintro e v ⟨l,oo,co,po,pc,uf,rfl,a0,y,H,I,t⟩
 dsimp only at y t |-
 obtain⟨s2,a2,n2,c2,d2,k2,e2,rfl⟩:=t.shape;have Q:=Bx.new v #[.bool false, .slice none 0 0, .slice none 0 0] 38;have O:=b0.ext0 (a.trans l);obtain⟨K,z⟩:∃K,P.length=K:=⟨_,rfl⟩;rw[z]at hdr c |-;clear T H I y z;by_cases x:K<n
 ·have q:Hid (a9x m n=0):=hid (by rw[hdr.out,if_pos x])
  go_wp2_with ((with_reducible show wpList _ _ _ (⟨_, .store _ _ _,_,_,_,_⟩::_) _ _);first|(refine a0a a0o rfl rfl Q rfl rfl (a1z _ _ _ _ _ _ _) ?_;intro N B A;have D:=O.ext0 (ExtX.box ((ExtX.refl v).alloc _) A (Nat.le_refl _)))|(refine a0a a0o rfl rfl D rfl rfl (a1z _ _ _ _ _ _ _) ?_;intro w5 L C))
  have d:Ext v N:=ExtX.box ((ExtX.refl v).alloc _) A (Nat.le_refl _);exact bodyPost_ret (a0M rfl rfl a0o L rfl) rfl ⟨ExtX.box (o.trans (a.trans (l.trans d))) C (by omega),_,rfl,by rw[q.out];exact QC.zero _⟩
 ·have q:Hid (a9x m n=f):=hid (by rw[hdr.out,if_neg x])
  go_wp2_with ((with_reducible show wpList _ _ _ (⟨_, .store _ _ _,_,_,_,_⟩::_) _ _);first|(refine a0a a0o rfl rfl Q rfl rfl (a1z _ _ _ _ _ _ _) ?_;intro N B A;have D:=O.ext0 (ExtX.box ((ExtX.refl v).alloc _) A (Nat.le_refl _));have k0:=B.cell 0 rfl;have k1:=B.cell 1 rfl;have k2:=B.cell 2 rfl)|(refine a0a a0o rfl rfl D rfl rfl (a1z _ _ _ _ _ _ _) ?_;intro w5 L C))
  have d:Ext v N:=ExtX.box ((ExtX.refl v).alloc _) A (Nat.le_refl _);have h7:=QC.mono _ _ _ _ a0k (QC.mono _ _ _ _ (a0g C (Nat.le_refl _) (by omega)) (mkx QC.mono t d));exact bodyPost_ret (a0M rfl rfl a0o L rfl) rfl ⟨ExtX.box (o.trans (a.trans (l.trans d))) C (by omega),_,rfl,by rw[q.out];exact h7⟩
theorem c0x{w wr:World}(h:Hid (∃m,wr=w.drewN m))(n:Nat):∃m,wr.drewN n=w.drewN m:=by
 obtain⟨m,rfl⟩:=h;exact⟨_,World.drewN_drewN _ _ _⟩
end Go.Proofs.YtgbbpgflopajaaaGreat
namespace Go.Rep
open Go.RowKit Go.Lim
theorem a7c{P:Program}{t e sz b:Nat}{z:Value}{ao:Option Addr}(T:SliceT P t e sz b z)(len a i:Nat)(g j:IntKind)(h:i<=a)(w:World):(Instr.sliceAt t (.slice ao len a) none (some (.int g (i:Int))) (some (.int j (i:Int)))).run P w= .ok (.slice ao i i) w:=by
 obtain⟨k,hi,hz,f,d⟩:=info_parts T.info;have c:(i:Int)<=a:=by omega
 cases ao<;>simp[Instr.sliceAt,Instr.slice,run_underlying T.und,Instr.sliceBounds,run_sliceBound,c,sizeOf,typeInfo,hi,Addr.add_zero']
end Go.Rep
namespace Go.Proofs.YtgbbpgflopajaaaGreat
open Go.RowKit Go.Rep Go.Lim Go.Lin
theorem a9n:SliceT Tryz.prog 81 4 1 1 (.bool false):=⟨Tryz.underlying81,by kernel_rfl⟩
def b9w(l:List Nat)(v:Nat)(r:Int):Prop:=decide ((0:Int)<=r)=decide (v∈l)
theorem b1X(X:Nat->Bool)(w:World)(ao:Option Addr)(l:List Nat)(j v:Nat)(u:Sl (a0c .i64) 1 (mk X w) ao l)(z:l.length<=1099511627776):Calls Tryz.prog 305 #[.slice ao l.length j, .int .i64 (v:Int)] w (fun e A=>A=w/\∃r:Int,e= .returned (.int .i64 r)/\b9w l v r):=by
 have t:=u.hd;obtain⟨n,o⟩:∃n,l.length=n:=⟨_,rfl⟩;have a:=hid o;rw[o]at z t |-;clear o;go_enter Tryz.func305,Tryz.ntmps305
 go_wp2_with fail
 go_loop [8] (fun c=>∃i:Nat,c= .int .i64 i/\i<=n/\Hid (∀q,q<i->∀hq:q<l.length,l[q]≠v)) (fun c=>n - (intOf c).toNat)
 case atStart=>exact⟨0,rfl,Nat.zero_le _,hid fun q hq=>by omega⟩
 case round=>
  obtain⟨i,rfl,hi,b⟩:=hrel;by_cases m:i<n
  ·have k:i<l.length:=by rw[a.out];exact m
   have s:=u.nat i k;have B:∀W,(Instr.indexAt 22 (.slice ao n j) (.int .i64 (i:Int))).run Tryz.prog W= .ok (.pointer (some (adr ao i))) W:=a0x a2J ao n j .i64 i t (by omega) rfl;obtain⟨y,f⟩:∃y,l[i]=y:=⟨_,rfl⟩;rw[f]at s;by_cases g:y=v
   ·have x:((v:Int)==(y:Int))=true:=a7k (by omega)
    have p:b9w l v (i:Int):=(by
     unfold b9w;rw[decide_eq_true (by omega),decide_eq_true (by rw[<-g,<-f];exact List.getElem_mem _)])
    clear g f;go_wp2_with fail
    go_ret
    exact⟨rfl,_,rfl,p⟩
   ·have x:((v:Int)==(y:Int))=false:=a2H (by omega)
    have d:Hid (∀q,q<i+1->∀hq:q<l.length,l[q]≠v):=hid fun q hq h=>by
     by_cases e:q=i
     ·subst e;rw[f];exact g
     ·exact b.out q (by omega) h
    clear g f;go_wp2_with fail
    go_round
    case rel=>exact⟨i+1,by go_num,by omega,d⟩
    case measure=>simp[intOf];omega
  ·have p:b9w l v (-1):=(by
    unfold b9w;rw[decide_eq_false (by omega),decide_eq_false fun h=>by
     obtain⟨q,hq,e⟩:=List.getElem_of_mem h;exact b.out q (by have:=a.out;omega) hq e])
   go_wp2_with fail
   go_ret
   exact⟨rfl,_,rfl,p⟩
theorem a8p(X:Nat->Bool)(w:World)(ao:Option Addr)(l:List Nat)(d v:Nat)(i:Sl (a0c .i64) 1 (mk X w) ao l)(g:l.length<=1099511627776):Calls Tryz.prog 260 #[.slice ao l.length d, .int .i64 (v:Int)] w (fun e j=>j=w/\e= .returned (.bool (decide (v∈l)))):=by
 have c:=b1X X w ao l d v i g;obtain⟨b,f⟩:∃b,decide (v∈l)=b:=⟨_,rfl⟩;unfold b9w at c;rw[f]at c |-;clear f;go_enter Tryz.func260,Tryz.ntmps260
 go_wp2_with fail
 refine c.mono ?_;rintro e k ⟨rfl,r,rfl,a⟩;have h:=hid a.symm;clear c a;go_wp2_with fail
 go_ret
 exact⟨rfl,a0n h.out.symm⟩
theorem b1Y{X:Nat->Bool}{c a:Option Addr}{w:World}(b:a=c\/∃g,a=some ⟨g,0,none⟩/\w.heap.size<=g):∀k,k<w.heap.size->un X a k=true->un X c k=true:=fun k e h=>by
 rcases b with rfl|⟨g,rfl,d⟩
 ·exact h
 ·by_cases hx:X k=true
  ·exact a0i hx
  ·exfalso
   have:g=k:=by simpa[un,hx,ob]using h
   omega
def b5Z(X:Nat->Bool)(w:World)(p:List Nat)(c:Nat)(e:Ending)(w':World):Prop:=Ext w w'/\∃uo uc v,e= .returned (.tuple #[.slice uo c uc,v, .int .i64 0])/\c<=uc/\Sl BlR 1 (mk X w') uo (usedL p c)
theorem b3T(X:Nat->Bool)(w:World)(u:Value)(x:Mat)(n c:Nat)(hX:HX X w)(hu:MV (mk X w) u x)(hf:a0y x=true)(hnx:x.length=n)(hcx:colsL x=c)(hn1:1<=n)(hT:b2p x c)(hbm:BM 68719476736 (a0J x c).1):Calls Tryz.prog 196 #[u] w (b5Z X w (a0J x c).2 c):=by
 obtain⟨hsh,h96,hc96,hpos,_⟩:=a0D hf;rw[hnx,hcx]at hsh;rw[hnx]at h96;rw[hcx]at hc96 hpos;have hc1:=hpos (by omega);have hre:=b1V X w u x hX hu hf (by rw[hcx];exact hT);rw[hcx]at hre;obtain⟨hs2,hg,_⟩:=a1d hsh;have hpl:=hg.le;obtain⟨R,hR⟩:∃R,(a0J x c).1=R:=⟨_,rfl⟩;obtain⟨p,hp⟩:∃p,(a0J x c).2=p:=⟨_,rfl⟩;rw[hR]at hs2 hbm;rw[hp]at hpl;rw[hR,hp]at hre;have hfR:a0y R=true:=b1a hs2 h96 hc1 hc96;have hcR:colsL R=c:=a8i hs2 hn1;have htr:=hid fun w' v (h:MC (mk X w') v R) (hX:HX X w')=>a2E X w' v R n c hX (h.mv hbm) hfR hs2.1 hcR;have hts:=hid (a1y R n c);obtain⟨T,hT2⟩:∃T,trL R n c=T:=⟨_,rfl⟩;rw[hT2]at htr hts;rw[hp];obtain⟨pl,hpl2⟩:∃pl,p.length=pl:=⟨_,rfl⟩;have hpl':=hid hpl2;rw[hpl2]at hpl;clear hR hp hfR hcR hT2 hs2 hg hbm hT hsh hu hnx hcx hpl2;go_enter Tryz.func196,Tryz.ntmps196
 go_wp2_with fail
 refine hre.mono ?_;rintro e w1 ⟨hE1,r,v,rfl,hr,po,pc,rfl,hpc,hps⟩;have hX1:=hX.ext hE1;have ht1:=htr.out w1 r hr hX1;rw[hpl'.out]at hpc;obtain⟨ro,rc,rfl,_,_⟩:=hr;clear hre htr;rw[hpl'.out];go_wp2_with fail
 refine ht1.mono ?_;rintro e w2 ⟨hE2,tv,rfl,tvo,tc,rfl,htc,hts2⟩;have hX2:=hX1.ext hE2;have hps2:=hps.mono (a0c.mono _) (a0m hE2);have hE12:=hE1.trans hE2;have htl:=hid hts.out.1;rw[hts.out.1]at htc;have hht:=hts2.hd;rw[htl.out]at hht |-;clear ht1;go_wp2_with fail
 go_loopw [2,3,27] (fun o b k wr=>∃(j:Nat) (oo:Option Addr) (co:Nat) (bo:Option Addr) (cb:Nat) (hs:List Hdr),k= .int .i64 j/\o= .slice oo j co/\b= .slice bo j cb/\j<=c/\OL BlR 1 X w2.heap.size 4 wr oo co (usedL p j)/\hs.length=j/\OL HdR 1 (un X oo) w2.heap.size 25 wr bo cb hs/\Ext w2 wr) (fun _ _ k _=>c - (intOf k).toNat)
 case atStart=>exact⟨0,none,0,none,0,[],rfl,rfl,rfl,Nat.zero_le _,OL.nil _ _ _ _ _ _,rfl,OL.nil _ _ _ _ _ _,ExtX.refl _⟩
 case round=>
  obtain⟨j,oo,co,bo,cb,hs,rfl,rfl,rfl,hj,hO,hhs,hB,hE⟩:=hrel;have hXr:HX X wr:=hX2.ext hE;have hbase:=hE.size;by_cases hlt:j<c
  ·have hjT:j<T.length:=by rw[htl.out];exact hlt
   obtain⟨a1,c1,hX1',hc1',hcl1,hq1⟩:=hts2.row j hjT;have hrl:=hts.out.2 T[j] (List.getElem_mem _);rw[hrl]at hc1' hcl1;have k00:=hc1'.out noY wr hE rfl;have hco:=a8p X wr po p pc j (hps2.mono (a0c.mono _) (a0m hE)) (by rw[hpl'.out];omega);rw[hpl'.out]at hco;have hus:=hid (a7F p j);have hul:=hid (a2e p j);obtain⟨bb,hbb⟩:∃bb,decide (j∈p)=bb:=⟨_,rfl⟩;rw[hbb]at hco hus;have hht':=hht;clear hc1' hq1 hrl hbb;have hhs':=hid hhs;have f1:∀W,(Instr.sliceAt 25 (.slice a1 n c1) none (some (.int .i64 (pl:Int))) (some (.int .i64 (pl:Int)))).run Tryz.prog W= .ok (.slice a1 pl pl) W:=a7c a0w n c1 pl .i64 .i64 (by omega);clear hhs;go_wp2_with (with_reducible refine a0s a0p (by omega) (by assumption) ?_)
   refine hco.mono ?_;rintro e w5 ⟨rfl,rfl⟩;clear hco k00;go_wp2_with (first
    |(at_builtin;refine a0t (l:=usedL p j) a9n rfl BlR.elem hbase hXr j hul.out rfl rfl hO (.bool bb) bb rfl rfl (by omega) (by omega) ?_;intro oo2 co2 w7 hO7 hE7 hor;have hB7:=hB.ext HdR.elem (Z:=un X oo2) hE7 (fun k _ hk=>a0r hk) (b1Y hor);have hE27:=hE.own hO (Nat.le_refl _) hE7;have hb7:=hE27.size;have hX7:=hO7.unX (hX2.ext hE27))
    |(at_builtin;refine a0t (l:=hs) a0p rfl HdR.elem hb7 hX7 j hhs'.out rfl rfl hB7 (.slice a1 pl pl) (a1,pl,pl) rfl rfl (by omega) (by omega) ?_;intro bo2 cb2 w8 hB8 hE8 hor2))
   have hO8:=hO7.frame (fun _ _ _ _ h=>h) hE8 (fun k hk=>by
    cases hbk:ob bo k
    ·rfl
    ·have:=(a1a (hB7.1 k hbk)).2;rw[hk]at this;cases this) hO7.1
   have hE28:=hE27.own hB7 (Nat.le_refl _) hE8;rw[<-hus.out]at hO8;have hl8:(hs++[(a1,pl,pl)]).length=j+1:=by rw[List.length_append,hhs'.out];rfl
   go_roundw
   case rel=>exact⟨j+1,oo2,co2,bo2,cb2,_,by go_num,by go_num,by go_num,by omega,hO8,hl8,hB8,hE28⟩
   case measure=>simp[intOf];omega
  ·have hjc:j=c:=by omega
   subst hjc;have hc:=hO.lenCap;rw[a2e]at hc;have hs:=hO.sl BlR.elem;go_wp2_with fail
   go_ret3
   exact⟨hE12.trans hE,_,_,_,rfl,hc,hs⟩
theorem b0g{p:List Nat}{i j:Nat}(h:i<p.length):decide (j∈p.take (i+1))=(decide (j∈p.take i)||decide (p[i]=j)):=by
 have e:j∈p.take (i+1)↔(j∈p.take i\/p[i]=j):=by
  rw[<-List.take_append_getElem h,List.mem_append,List.mem_singleton];exact or_congr Iff.rfl eq_comm
 rw[<-Bool.decide_or];exact decide_eq_decide.2 e
theorem b1Z(X:Nat->Bool)(w:World)(u:Value)(x:Mat)(n c:Nat)(hX:HX X w)(hu:MV (mk X w) u x)(hf:a0y x=true)(hnx:x.length=n)(hcx:colsL x=c)(hn1:1<=n)(hT:a7o x c):Calls Tryz.prog 128 #[u] w (b5Z X w (a0J x c).2 c):=by
 obtain⟨hsh,h96,hc96,hpos,_⟩:=a0D hf;rw[hnx,hcx]at hsh;rw[hnx]at h96;rw[hcx]at hc96 hpos;have hc1:=hpos (by omega);have hre:=b5Y X w u x n c hX hu hf hnx hcx hT;have hco:=hid fun w' (h:Ext w w')=>a4u X w' u x (mkx MV.mono hu h);rw[hcx]at hco;have hok:=a6p hsh c;have hs2:=hok.shp;have hpl:=hok.ref.le;rw[(b0M hsh).2];obtain⟨R,hR⟩:∃R,(rN x c).1=R:=⟨_,rfl⟩;obtain⟨p,hp⟩:∃p,(rN x c).2.1=p:=⟨_,rfl⟩;rw[hR]at hs2;rw[hp]at hpl;rw[hR,hp]at hre;rw[hp];obtain⟨pl,hpl2⟩:∃pl,p.length=pl:=⟨_,rfl⟩;have hpl':=hid hpl2;rw[hpl2]at hpl;have hRs:=hid hs2;obtain⟨ua,uca,rfl,huca,hua⟩:=hu;clear hR hp hs2 hT hsh hnx hcx hpl2 hok hf huca hua;go_enter Tryz.func128,Tryz.ntmps128
 go_wp2_with fail
 refine hre.mono ?_;rintro e w1 ⟨hE1,ro,rc,po,pc,rfl,hrc,hpc,hrs,hps⟩;have hX1:=hX.ext hE1
 dsimp only at hrc hpc hrs hps |-
 rw[hpl'.out]at hpc |-;have hRl:=hid hRs.out.1;have hhr:=hrs.hd;have hhp:=hps.hd;rw[hRl.out]at hrc hhr |-;rw[hpl'.out]at hhp;clear hre;go_wp2_with fail
 go_loopw [8,9,10] (fun o b k wr=>∃(j:Nat) (oo:Option Addr) (co:Nat) (bo:Option Addr) (cb:Nat) (hs:List Hdr),k= .int .i64 j/\o= .slice oo j co/\b= .slice bo j cb/\j<=c/\OL BlR 1 X w1.heap.size 4 wr oo co (usedL p j)/\hs.length=j/\OL HdR 1 (un X oo) w1.heap.size 25 wr bo cb hs/\Ext w1 wr) (fun _ _ k _=>c - (intOf k).toNat)
 case atStart=>exact⟨0,none,0,none,0,[],rfl,rfl,rfl,Nat.zero_le _,OL.nil _ _ _ _ _ _,rfl,OL.nil _ _ _ _ _ _,ExtX.refl _⟩
 case round=>
  obtain⟨j,oo,co,bo,cb,hs,rfl,rfl,rfl,hj,hO,hhs,hB,hE⟩:=hrel;have hXr:HX X wr:=hX1.ext hE;have hbase:=hE.size;have hcr:=hco.out wr (hE1.trans hE);by_cases hlt:j<c
  ·have hus:=hid (a7F p j)
   have hul:=hid (a2e p j);have hhs':=hid hhs;clear hhs;have hXu:HX (un X oo) wr:=hO.unX hXr;have hXb:HX (un (un X oo) bo) wr:=hB.unX hXu;go_wp2_with fail
   refine hcr.mono ?_;rintro e w5 ⟨rfl,rfl⟩;clear hcr;obtain⟨wo,hwo⟩:∃wo,wo=w5:=⟨_,rfl⟩;subst hwo;go_wp2_with fail
   go_loopw [11,12,13] (fun o l k wr=>∃(i:Nat) (bb:Bool) (lo:Option Addr) (lc:Nat) (L:List Rat),k= .int .i64 i/\o= .bool bb/\l= .slice lo i lc/\i<=pl/\Hid (bb=decide (j∈p.take i))/\L.length=i/\OL QC 3 (un (un X oo) bo) wo.heap.size 38 wr lo lc L/\Ext wo wr) (fun _ _ k _=>pl - (intOf k).toNat)
   case atStart=>exact⟨0,false,none,0,[],rfl,rfl,rfl,Nat.zero_le _,hid (by simp),rfl,OL.nil _ _ _ _ _ _,ExtX.refl _⟩
   case round=>
    obtain⟨i,bb,lo,lc,L,rfl,rfl,rfl,hi,hbb,hLl,hL,hEi⟩:=hrel;have hXi:HX (un (un X oo) bo) wr:=hXb.ext hEi;have hbi:=hEi.size;by_cases hli:i<pl
    ·have hip:i<p.length:=by rw[hpl'.out];exact hli
     have hiR:i<R.length:=by rw[hRl.out];omega
     have hLl':=hid hLl;have hrl:=hRs.out.2 R[i] (List.getElem_mem _);have hjr:j<R[i].length:=by rw[hrl];exact hlt
     have k00:=(hps.mono (a0c.mono _) (a0m (hE.trans hEi))).nat i hip;have hEl:Ext w1 wr:=hE.trans hEi;have hrs1:Sl RC 1 (mk (un (un (un X oo) bo) lo) wr) ro R:=hrs.mono RC.mono (a1i hEl (fun k _ hk=>by simp[noY]at hk) fun k hk hz=>by
      by_cases hx:X k=true
      ·exact hx
      ·exfalso
       have e1:ob oo k=false:=hO.ob_lt hk;have e2:ob bo k=false:=hB.ob_lt hk;have e3:ob lo k=false:=hL.ob_lt (Nat.lt_of_lt_of_le hk hE.size);simp[un,hx,e1,e2,e3]at hz)
     obtain⟨a1,c1,hX1',hc1',hcl1,hq1⟩:=hrs1.row i hiR;have k10:=hc1'.out noY wr (ExtX.refl _) rfl;rw[hrl]at k10;have hh1:Hd a1 c:=by have:=hq1.hd;rw[hrl]at this;exact this
     have hbn:=hid (b0g (j:=j) hip);obtain⟨y,hy⟩:∃y,p[i]=y:=⟨_,rfl⟩;rw[hy]at k00 hbn;have ip:∀W,(Instr.indexAt 22 (.slice po pl pc) (.int .i64 (i:Int))).run Tryz.prog W= .ok (.pointer (some (adr po i))) W:=a0x a2J po pl pc .i64 i hhp (by omega) rfl;have ir:∀W,(Instr.indexAt 53 (.slice ro n rc) (.int .i64 (i:Int))).run Tryz.prog W= .ok (.pointer (some (adr ro i))) W:=a0x a0p ro n rc .i64 i hhr (by omega) rfl;have hdl:∀b2,Hid (b2=decide (j∈p.take (i+1)))->∀{lo2:Option Addr} {lc2:Nat} {w9:World},OL QC 3 (un (un X oo) bo) wo.heap.size 38 w9 lo2 lc2 (L++[R[i][j]])->Ext wo w9->∃(i':Nat) (bb:Bool) (lo:Option Addr) (lc:Nat) (L:List Rat),Value.int IntKind.i64 ((i+1:Nat):Int)= .int .i64 i'/\Value.bool b2= .bool bb/\Value.slice lo2 (i+1) lc2= .slice lo i' lc/\i'<=pl/\Hid (bb=decide (j∈p.take i'))/\L.length=i'/\OL QC 3 (un (un X oo) bo) wo.heap.size 38 w9 lo lc L/\Ext wo w9:=fun b2 hb2 lo2 lc2 w9 h1 h2=>⟨i+1,b2,lo2,lc2,_,rfl,rfl,rfl,by omega,hb2,by rw[List.length_append,hLl'.out];rfl,h1,h2⟩;clear hc1' hrl hy hLl;cases bb
     ·by_cases hyj:y=j
      ·have hd:((y:Int)==(j:Int))=true:=a7k (by omega)
       have hb2:Hid (true=decide (j∈p.take (i+1))):=hid (by rw[hbn.out,decide_eq_true hyj,Bool.or_true]);clear hyj;go_wp2_with (first|(with_reducible refine a1I a0w (by omega) (by assumption) ?_)|((with_reducible show wpList _ _ _ (⟨_, .load 38 _,_,_,_,_⟩::_) _ _);refine a0C a0o j hq1 hjr rfl (by simp) QC.agg ?_;intro u5 hu5;obtain⟨s5,a5,n5,c5,d5,m5,e5,rfl⟩:=hu5.shape)|(at_builtin;refine a0t (l:=L) a0w rfl QC.elem hbi hXi i hLl'.out rfl rfl hL (.agg #[.bool s5, .slice a5 n5 c5, .slice d5 m5 e5]) R[i][j] rfl hu5 (by omega) (by omega) ?_;intro lo2 lc2 w7 hL7 hE7 hor))
       go_roundw
       case rel=>exact hdl true hb2 hL7 (hEi.own hL (Nat.le_refl _) hE7)
       case measure=>simp[intOf];omega
      ·have hd:((y:Int)==(j:Int))=false:=a2H (by omega)
       have hb2:Hid (false=decide (j∈p.take (i+1))):=hid (by rw[hbn.out,decide_eq_false hyj,<-hbb.out];rfl);clear hyj;go_wp2_with (first|(with_reducible refine a1I a0w (by omega) (by assumption) ?_)|((with_reducible show wpList _ _ _ (⟨_, .load 38 _,_,_,_,_⟩::_) _ _);refine a0C a0o j hq1 hjr rfl (by simp) QC.agg ?_;intro u5 hu5;obtain⟨s5,a5,n5,c5,d5,m5,e5,rfl⟩:=hu5.shape)|(at_builtin;refine a0t (l:=L) a0w rfl QC.elem hbi hXi i hLl'.out rfl rfl hL (.agg #[.bool s5, .slice a5 n5 c5, .slice d5 m5 e5]) R[i][j] rfl hu5 (by omega) (by omega) ?_;intro lo2 lc2 w7 hL7 hE7 hor))
       go_roundw
       case rel=>exact hdl false hb2 hL7 (hEi.own hL (Nat.le_refl _) hE7)
       case measure=>simp[intOf];omega
     ·have hb2:Hid (true=decide (j∈p.take (i+1))):=hid (by rw[hbn.out,<-hbb.out];rfl)
      go_wp2_with (first|(with_reducible refine a1I a0w (by omega) (by assumption) ?_)|((with_reducible show wpList _ _ _ (⟨_, .load 38 _,_,_,_,_⟩::_) _ _);refine a0C a0o j hq1 hjr rfl (by simp) QC.agg ?_;intro u5 hu5;obtain⟨s5,a5,n5,c5,d5,m5,e5,rfl⟩:=hu5.shape)|(at_builtin;refine a0t (l:=L) a0w rfl QC.elem hbi hXi i hLl'.out rfl rfl hL (.agg #[.bool s5, .slice a5 n5 c5, .slice d5 m5 e5]) R[i][j] rfl hu5 (by omega) (by omega) ?_;intro lo2 lc2 w7 hL7 hE7 hor))
      go_roundw
      case rel=>exact hdl true hb2 hL7 (hEi.own hL (Nat.le_refl _) hE7)
      case measure=>simp[intOf];omega
    ·have hip:i=pl:=by omega
     subst hip;have hbb2:=hid hbb.out;rw[List.take_of_length_le (by rw[hpl'.out];exact Nat.le_refl _)]at hbb2;have hO2:=hO.ext0 BlR.elem hEi;have hB2:=hB.ext0 HdR.elem hEi;have hE2:=hE.trans hEi;have hX2:=hX1.ext hE2;have hb2:=hE2.size;clear hL hbb;go_wp2_with (first
      |(at_builtin;refine a0t (l:=usedL p j) a9n rfl BlR.elem hb2 hX2 j hul.out rfl rfl hO2 (.bool bb) bb rfl rfl (by omega) (by omega) ?_;intro oo2 co2 w7 hO7 hE7 hor;have hB7:=hB2.ext HdR.elem (Z:=un X oo2) hE7 (fun k _ hk=>a0r hk) (b1Y hor);have hE27:=hE2.own hO2 (Nat.le_refl _) hE7;have hb7:=hE27.size;have hX7:=hO7.unX (hX1.ext hE27))
      |(at_builtin;refine a0t (l:=hs) a0p rfl HdR.elem hb7 hX7 j hhs'.out rfl rfl hB7 (.slice lo i lc) (lo,i,lc) rfl rfl (by omega) (by omega) ?_;intro bo2 cb2 w8 hB8 hE8 hor2))
     have hO8:=hO7.frame (fun _ _ _ _ h=>h) hE8 (fun k hk=>by
      cases hbk:ob bo k
      ·rfl
      ·have:=(a1a (hB7.1 k hbk)).2;rw[hk]at this;cases this) hO7.1
     have hE28:=hE27.own hB7 (Nat.le_refl _) hE8;rw[hbb2.out,<-hus.out]at hO8;have hl8:(hs++[(lo,i,lc)]).length=j+1:=by rw[List.length_append,hhs'.out];rfl
     go_roundw
     case rel=>exact⟨j+1,oo2,co2,bo2,cb2,_,by go_num,by go_num,by go_num,by omega,hO8,hl8,hB8,hE28⟩
     case measure=>simp[intOf];omega
  ·have hjc:j=c:=by omega
   subst hjc;have hc:=hO.lenCap;rw[a2e]at hc;have hs:=hO.sl BlR.elem;go_wp2_with fail
   refine hcr.mono ?_;rintro e w5 ⟨rfl,rfl⟩;go_wp2_with fail
   go_ret3
   exact⟨hE1.trans hE,_,_,_,rfl,hc,hs⟩
end Go.Proofs.YtgbbpgflopajaaaGreat
