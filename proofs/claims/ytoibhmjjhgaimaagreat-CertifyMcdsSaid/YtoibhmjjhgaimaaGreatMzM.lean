/- reference 23: Proves; reference 42: Mcd. Conditions: at most 6 rows, numbers of few digits. Simplices: a point's weights and directions that part it from the corners; Helly's theorem for open half-spaces. Conditions: none. Simplices: the weights that the program computes say whether the depth is above 0. Conditions: at most three columns. Simplices: how many contain a point. Conditions: none. Rows that a call makes one behind the other, by append. Conditions: none. simplicial: contains. Conditions: at most 64 rows of at most 3 numbers of few digits. simplicial: Depth. Conditions: numbers of few digits. reference 25: From. Conditions: at most 1000 rows and columns. reference 25: Depth. Conditions: numbers of few digits. reference 26: Contains, Depth. Conditions: numbers of few digits. reference 23: Least. Conditions: at most 6 rows, a half of them or less than all, numbers of few digits. law42.split. What comes back is some short list of leaves. Conditions: small numbers. law42.leaves. What comes back is some short list of leaves. Conditions: small numbers. law42.awake: it returns true. Conditions: none. The tape of choices: rational numbers, rows of them. What is drawn is some number of few digits. Conditions: none beyond small ranges. The tape of choices: rows of rational numbers. Conditions: none beyond small ranges. The tape of choices: numbers that may not be valid, rows of them. What is drawn is some number of few digits. Conditions: none beyond small ranges. -/
import Derived.Test.YtoibhmjjhgaimaaGreatMzL
import Derived.Lib.SliceRun
import Derived.StillTailTactics
namespace Go.Lin
open Go.Lim Go.Rep
theorem b3B {m:Mat} {n:Nat} (hT:a8c m n) (hn:n<=3):hq (a9g m n)<=30000000000:=by
 obtain⟨B,hB7,hBj⟩:=hT;have hBn:=hBj n (Nat.le_refl _);have h1:=b4O (f:=fun i=>ent (eN m n).1 i i) (fun i=>hBn i i) n;have h2:n*B<=3*B:=Nat.mul_le_mul_right _ hn;unfold a9g;split
 ·rw[a3P];omega
 ·omega
theorem b1M {p:Mat} {rows:List Int} {B:Nat} (hpB:BM B p) (hB1:1<=B) (hB:B<=510) (hp6:p.length<=6\/p.length=65):hq (scV p rows)<=30000000000:=by
 unfold scV;split
 ·rename_i h0
  have hpts:a3B p=true:=by
   cases h:a3B p
   ·unfold scE at h0;rw[h]at h0;cases h0
   ·rfl
  have hasc:a2N rows (p.length:Int)=true:=by
   unfold scE at h0;rw[hpts,if_pos rfl]at h0;cases h:a2N rows (p.length:Int)
   ·rw[h]at h0;cases h0
   ·rfl
  obtain⟨g1,g2,g3,g4,g5⟩:=a1J.1 hpts;have hlen:=a5q hasc;have hrl:(rows.map Int.toNat).length<=6:=by rw[List.length_map];omega
  have hH:=b2Q hpB hB1;have hcB:=a6Z (p:=p) (rows:=rows.map Int.toNat) (d:=a0L p) hH (by omega);have hZ3:B+(2+(rows.map Int.toNat).length*(B+1))+1<=3579:=by
   have:=Nat.mul_le_mul hrl (show B+1<=511 by omega);omega
  have hHB:HB 60000 (a5l p (rows.map Int.toNat) (a0L p) (rows.map Int.toNat).length):=fun i j=>Nat.le_trans (a7a (fun r=>a3z (r:=r) hpB hcB) (by omega) i j) (by
   have:=Nat.mul_le_mul hrl (show 2*(B+(2+(rows.map Int.toNat).length*(B+1))+1)+1<=7159 by omega);omega)
  exact b3B (a4z (a3a _ _ _ _) g4 hHB).1 g4
 ·rw[a2k];decide
end Go.Lin
namespace Go.Proofs.YtoibhmjjhgaimaaGreat
open Go.RowKit Go.Rep Go.Lim Go.Lin
theorem b3C {x y:Rat}:(x - y).num.sign<0↔x<y:=by
 rcases b0d (x - y)with⟨h1,h⟩|⟨h1,h⟩|⟨h1,h⟩
 ·rw[h];constructor
  ·intro h2;omega
  ·intro h2;exfalso;grind
 ·rw[h];constructor
  ·intro h2;omega
  ·intro h2;exfalso;grind
 ·rw[h];constructor
  ·intro _;grind
  ·intro _;decide
set_option maxRecDepth 100000 in
set_option maxHeartbeats 1600000 in
theorem a8J (X:Nat->Bool) (w:World) (u dv:Value) (lo:Option Addr) (L:List a2X) (cl:Nat) (h:Int) (p:Mat) (det:Rat) (B:Nat) (hX:HX X w) (hu:MV (mk X w) u p) (hd:QV (mk X w) dv det) (hdq:hq det<=30000000000) (hs:Sl a0G 2 (mk X w) lo L) (hcl:L.length<=cl) (hL:L.length<=1099511627776) (hLl:Hid (∀x∈L,x.1.length<=1099511627776/\x.2.length<=1099511627776)) (hp6:p.length<=6\/p.length=65) (hpB:BM B p) (hB1:1<=B) (hB:B<=510):
  Calls Tryz.prog 68 #[u, .int .i64 h,dv, .slice lo L.length cl] w (b2F w (a7f p h det L)):=by
 obtain⟨s0,a0,n0,c0,d0,k0,e0,rfl⟩:=hd.shape;obtain⟨W,hW,hE,b0,hz⟩:=a1m w #[.bool s0, .slice a0 n0 c0, .slice d0 k0 e0] 32;obtain⟨b,hb⟩:∃b,w.heap.size=b:=⟨_,rfl⟩;rw[hb]at b0 hz;have hpt:=a4V QV.mono X W u p (mkx MV.mono hu hE) (by omega);unfold b3q at hpt;have hhl:=hs.hd;cases hpts:a3B p
 ·have he:Hid (a7f p h det L=false):=hid (by unfold a7f;rw[hpts];rfl)
  rw[hpts]at hpt;clear hpts;go_enter Tryz.func68,Tryz.ntmps68
  go_wp2_with fail
  refine hpt.mono ?_;rintro e w1 ⟨hE1,aa,bb,rfl,_⟩;clear hpt;go_wp2_with fail
  go_ret
  exact⟨hE.trans hE1,a0j he.out.symm⟩
 rw[hpts]at hpt;have hcov:=hid (fun w' (h':Ext w w')=>b0h X lo L cl (p.length:Int) h w' (hs.mono a0G.mono (a0h h')) hcl hL hLl (hX.ext h'));have hno:=hid (fun k hk h2=>b1G (p:=p) (h:=h) (det:=det) (L:=L) k hk h2);have hsc:=hid (fun w' a c (I:List Int) (h':Ext w w') (hI:Sl (a0i .i64) 1 (mk X w') a I) (hIl:I.length<=1099511627776)=>a7R X w' u a I c p B (hX.ext h') (mkx MV.mono hu h') hI hIl hp6 hpB hB1 hB);have hscq:=hid (fun I=>b1M (rows:=I) hpB hB1 hB hp6);cases hcv:a1l (p.length:Int) h L
 ·have he:Hid (a7f p h det L=false):=hid (by unfold a7f;rw[hcv];simp)
  have hc:=hid (fun w' (h':Ext w w')=>hcov.out w' h');rw[hcv]at hc;obtain⟨ua,uc,rfl,huc,hua⟩:=id hu;obtain⟨n,hn⟩:∃n,p.length=n:=⟨_,rfl⟩;obtain⟨d,hdc⟩:∃d,a0L p=d:=⟨_,rfl⟩;rw[hn,hdc]at hpt;rw[hn]at hc |-;clear hpts hcv hcov hno hsc hn hdc;go_enter Tryz.func68,Tryz.ntmps68
  go_wp2_with fail
  refine hpt.mono ?_;rintro e w1 ⟨hE1,aa,bb,rfl,hab⟩;obtain⟨rfl,rfl⟩:=hab trivial;have hc1:=hc.out w1 (hE.trans hE1);clear hpt hc;go_wp2_with fail
  refine hc1.mono ?_;rintro e w2 ⟨hE2,rfl⟩;clear hc1;go_wp2_with fail
  go_ret
  exact⟨hE.trans (hE1.trans hE2),a0j he.out.symm⟩
 have hyes:=hid (fun h3=>a9A (det:=det) hpts hcv h3);have hc:=hid (fun w' (h':Ext w w')=>hcov.out w' h');rw[hcv]at hc;obtain⟨ua,uc,rfl,huc,hua⟩:=id hu;obtain⟨n,hn⟩:∃n,p.length=n:=⟨_,rfl⟩;obtain⟨d,hdc⟩:∃d,a0L p=d:=⟨_,rfl⟩;rw[hn,hdc]at hpt;rw[hn]at hc hsc |-;clear hpts hcv hcov hn hdc;go_enter Tryz.func68,Tryz.ntmps68
 go_wp2_with fail
 refine hpt.mono ?_;rintro e w1 ⟨hE1,aa,bb,rfl,hab⟩;obtain⟨rfl,rfl⟩:=hab trivial;have hc1:=hc.out w1 (hE.trans hE1);clear hpt hc hab;go_wp2_with fail
 refine hc1.mono ?_;rintro e w2 ⟨hE21,rfl⟩;clear hc1;have hE2:=hE1.trans hE21;have hE02:=hE.trans hE2;go_wp2_with fail
 go_loopw [33] (fun q wr=>∃k:Nat,q= .int .i64 k/\k<=L.length/\Hid (∀j (hj:j<L.length),j<k->scE p L[j].1=0/\det<=scV p L[j].1)/\Ext w2 wr) (fun q _=>L.length - (intOf q).toNat)
 case atStart=>exact⟨0,rfl,Nat.zero_le _,hid (fun j hj h=>by omega),ExtX.refl _⟩
 case round=>
  obtain⟨k,rfl,hk,hok,hEr⟩:=hrel;have hEw:=hE02.trans hEr;by_cases hlt:k<L.length
  ·have hs1:=hs.mono a0G.mono (a0h hEw)
   have hlen:=(hLl.out L[k] (List.getElem_mem hlt)).1;have hno1:=hid (hno.out k hlt);have hok1:=hid (fun(h1:scE p L[k].1=0) (h2:det<=scV p L[k].1)=>(fun j hj hjk=>(by
    by_cases e:j=k
    ·subst e;exact⟨h1,h2⟩
    ·exact hok.out j hj (by omega)):∀j (hj:j<L.length),j<k+1->scE p L[j].1=0/\det<=scV p L[j].1))
   obtain⟨I,O,hx⟩:∃I O,L[k]=(I,O):=⟨_,_,rfl⟩;rw[hx]at hlen hno1 hok1
   dsimp only at hlen hno1 hok1
   have hx':=hid hx;have hscI:=hid (hscq.out I);clear hx;go_wp2_with (first|(with_reducible refine a1E a1t (by omega) (by assumption) ?_)|((with_reducible show wpList _ _ _ (⟨_, .load 103 _,_,_,_,_⟩::_) _ _);refine a0M a3D k hs1 hlt rfl (by omega) a0G.agg ?_;rintro u hu;rw[hx'.out]at hu;obtain⟨a1,c1,a2,c2,rfl,hc1,hc2,hs2,hs3⟩:=hu))
   have hEn:Ext wr (wr.alloc (.cells #[.slice a1 I.length c1, .slice a2 O.length c2] 103)):=(ExtX.refl wr).alloc _;have k1:(wr.alloc (.cells #[.slice a1 I.length c1, .slice a2 O.length c2] 103)).cell? ⟨wr.heap.size,0,none⟩=some (.slice a1 I.length c1):=a1u 0 rfl;obtain⟨g,hg⟩:∃g,wr.heap.size=g:=⟨_,rfl⟩;rw[hg]at k1 |-;generalize wr.alloc (.cells #[.slice a1 I.length c1, .slice a2 O.length c2] 103)=W3 at hEn k1 |-;have hE3:=hEw.trans hEn;have hsI:=hsc.out W3 a1 c1 I hE3 (hs2.mono (a0i.mono _) (a0h hEn)) hlen;unfold a2L at hsI;obtain⟨E,hEe⟩:∃E,scE p I=E:=⟨_,rfl⟩;obtain⟨V,hVe⟩:∃V,scV p I=V:=⟨_,rfl⟩;rw[hEe,hVe]at hsI hno1 hok1;rw[hVe]at hscI;clear hEe hVe hs2 hs3 hs1 hg;go_wp2_with fail
   refine hsI.mono ?_;rintro e w5 ⟨hE5,us,rfl,ro1,rl1,rc1,co1,cl1,cc1,mo1,ml1,mc1,s1,a3,n1,c3,d1,k3,f1,rfl,hq⟩;clear hsI;have bS:=Bx.new w5 #[.slice ro1 rl1 rc1, .slice co1 cl1 cc1, .slice mo1 ml1 mc1, .bool s1, .slice a3 n1 c3, .slice d1 k3 f1] 105;have hEa:Ext w5 (w5.alloc (.cells #[.slice ro1 rl1 rc1, .slice co1 cl1 cc1, .slice mo1 ml1 mc1, .bool s1, .slice a3 n1 c3, .slice d1 k3 f1] 105)):=(ExtX.refl w5).alloc _;obtain⟨wS,hwS⟩:∃wS,w5.alloc (.cells #[.slice ro1 rl1 rc1, .slice co1 cl1 cc1, .slice mo1 ml1 mc1, .bool s1, .slice a3 n1 c3, .slice d1 k3 f1] 105)=wS:=⟨_,rfl⟩;obtain⟨gS,hgS⟩:∃gS,w5.heap.size=gS:=⟨_,rfl⟩;rw[hwS]at bS hEa;rw[hgS]at bS;have hE0S:=hE3.trans (hE5.trans hEa);have bd:=b0.ext0 (hE2.trans (hEr.trans (hEn.trans (hE5.trans hEa))));have q3:wS.cell? ⟨gS,3,none⟩=some (.bool s1):=bS.cell 3 rfl;have q4:wS.cell? ⟨gS,3+1,none⟩=some (.slice a3 n1 c3):=bS.cell 4 rfl;have q5:wS.cell? ⟨gS,3+2,none⟩=some (.slice d1 k3 f1):=bS.cell 5 rfl;have r3:=bd.cell 0 rfl;have r4:=bd.cell 1 rfl;have r5:=bd.cell 2 rfl;by_cases hE0:E=0
   ·have hls:=a7C X wS _ _ V det (hX.ext hE0S) ((mkx QC.mono hq hEa).qv (Nat.le_trans hscI.out (by decide))) (mkx QV.mono hd hE0S) (Nat.le_trans (a6i V det) (by have:=hscI.out;omega))
    obtain⟨sg,hsg⟩:∃sg,(V - det).num.sign=sg:=⟨_,rfl⟩;have hsl:sg<0↔V<det:=by rw[<-hsg];exact b3C
    rw[hsg]at hls;subst hE0;by_cases hlt2:V<det
    ·have hv:=hid (hno1.out (.inr hlt2))
     have hs0:sg<0:=hsl.2 hlt2;clear hlt2 hok1 hno1 hsl hsg;go_wp2_with fail
     refine hls.mono ?_;rintro e w6 ⟨hE6,rfl⟩;go_wp2_with fail
     go_ret
     exact⟨hE0S.trans hE6,a0j hv.out.symm⟩
    ·have hv:=hid (hok1.out rfl (Rat.not_lt.1 hlt2))
     have hs0:¬sg<0:=fun hh=>hlt2 (hsl.1 hh);clear hlt2 hok1 hno1 hsl hsg;go_wp2_with fail
     refine hls.mono ?_;rintro e w6 ⟨hE6,rfl⟩;have hE9:=hEr.trans (hEn.trans (hE5.trans (hEa.trans hE6)));go_wp2_with fail
     go_roundw
     case rel=>exact⟨k+1,by go_num,by omega,hv,hE9⟩
     case measure=>simp[intOf];omega
   ·have hv:=hid (hno1.out (.inl hE0))
    have hEb:((E:Int) !=0)=true:=a7i hE0;clear hE0 hok1 hno1;go_wp2_with fail
    go_ret
    exact⟨hE0S,a0j hv.out.symm⟩
  ·have hv:=hid (hyes.out fun j hj=>hok.out j hj (by omega))
   go_wp2_with fail
   go_ret
   exact⟨hEw,a0j hv.out.symm⟩
theorem b3D (X:Nat->Bool) (w:World) (u dv:Value) (lo:Option Addr) (L:List a2X) (cl:Nat) (h:Int) (p:Mat) (det:Rat) (B:Nat) (hX:HX X w) (hu:MV (mk X w) u p) (hd:QV (mk X w) dv det) (hdq:hq det<=30000000000) (hs:Sl a0G 2 (mk X w) lo L) (hcl:L.length<=cl) (hL:L.length<=1099511627776) (hLl:Hid (∀x∈L,x.1.length<=1099511627776/\x.2.length<=1099511627776)) (hp6:p.length<=6\/p.length=65) (hpB:BM B p) (hB1:1<=B) (hB:B<=510):
  Calls Tryz.prog 23 #[u, .int .i64 h,dv, .slice lo L.length cl] w (b2F w (a7f p h det L)):=by
 obtain⟨s0,a0,n0,c0,d0,k0,e0,rfl⟩:=hd.shape;obtain⟨W,hW,hE,b0,hz⟩:=a1m w #[.bool s0, .slice a0 n0 c0, .slice d0 k0 e0] 32;obtain⟨b,hb⟩:∃b,w.heap.size=b:=⟨_,rfl⟩;rw[hb]at b0 hz;have hp:=a8J X W u _ lo L cl h p det B (hX.ext hE) (mkx MV.mono hu hE) (mkx QV.mono hd hE) hdq (hs.mono a0G.mono (a0h hE)) hcl hL hLl hp6 hpB hB1 hB;obtain⟨bb,hbb⟩:∃bb,a7f p h det L=bb:=⟨_,rfl⟩;rw[hbb]at hp |-;have k0':=b0.cell 0 rfl;have k1':=b0.cell 1 rfl;have k2':=b0.cell 2 rfl;go_enter Tryz.func23,Tryz.ntmps23
 go_wp2_with fail
 refine hp.mono ?_;rintro e w1 ⟨hE1,rfl⟩;go_wp2_with fail
 go_ret
 exact⟨hE.trans hE1,rfl⟩
end Go.Proofs.YtoibhmjjhgaimaaGreat
namespace Go.Lin
section
variable {c:Nat} {p B:F2} {x w:Vec}
end
def ps (a:Vec):Vec:=fun i=>if 0<a i then a i else 0
end Go.Lin
namespace Go.Lin
open Go.Lim
def b7S (c:Nat) (s:Mat):Mat:=ofF c c fun j i=>ent s (i+1) j - ent s 0 j
section
variable {c k:Nat} {s:Mat} {x:List Rat} (hc3:c<=3) (hs:Shp (c+1) c s) (hx:x.length=c) (hd:a9g (b7S c s) c≠0)
include hc3 hs hx hd
omit hs in
end
end Go.Lin
namespace Go.Lim
end Go.Lim
namespace Go.Lin
open Go.Lim Go.Rep
noncomputable def inS (p:Mat) (x:List Rat) (I:List Int):Bool:=decide (0<b7Q (b7h p I) x)
noncomputable def b7T (p:Mat) (x:List Rat) (L:List (List Int)):Nat:=L.countP (inS p x)
section
variable {p:Mat} {x:List Rat} (hp:a3B p=true) (hx:x.length=a0L p)
include hp hx
end
end Go.Lin
namespace Go.Rep
open Go.RowKit Go.Lim Go.Lin
theorem b6E {X:Nat->Bool} {oo oo2:Option Addr} {w:World} (hor:oo2=oo\/∃g,oo2=some ⟨g,0,none⟩/\w.heap.size<=g):∀k,k<w.heap.size->un X oo2 k=true->un X oo k=true:=fun k hk h=>by
 rcases hor with rfl|⟨g,rfl,hg⟩
 ·exact h
 ·by_cases hx:X k=true
  ·exact a0p hx
  ·exfalso
   have:g=k:=by simpa[un,hx,ob]using h
   omega
def b2b (hs:List Hdr) (i:Nat):Option Addr:=(hs.getD i (none,0,0)).1
theorem a5r {hs:List Hdr} {i:Nat} (h:i<hs.length):b2b hs i=hs[i].1:=by simp[b2b,List.getD_eq_getElem?_getD,h]
structure CS (R:Mem->Value->Rat->Prop) (X:Nat->Bool) (base:Nat) (e1 e2:TypeId) (w:World) (oo:Option Addr) (co:Nat) (hs:List Hdr) (M:Mat) (i:Nat) (L:List Rat):Prop where
 outer:OL HdR 1 X base e1 w oo co hs
 len:hs.length=M.length
 done:∀k (_:k<i) (h1:k<hs.length) (h2:k<M.length),hs[k].2.1=M[k].length/\hs[k].2.1<=hs[k].2.2/\Sl R 3 (mk (un (un X oo) (b2b hs i)) w) hs[k].1 M[k]
 row:∀h1:i<hs.length,hs[i].2.1=L.length/\OL R 3 (un X oo) base e2 w (b2b hs i) hs[i].2.2 L
 rest:∀k,i<k->(h:k<hs.length)->hs[k]=(none,0,0)
section
variable {R:Mem->Value->Rat->Prop} {X:Nat->Bool} {base:Nat} {e1 e2:TypeId} {w w':World} {oo:Option Addr} {co:Nat} {hs:List Hdr} {M:Mat} {i:Nat} {L:List Rat}
theorem CS.start {n:Nat} (ho:OL HdR 1 X base e1 w oo co (List.replicate n (none,0,0))) (hM:M.length=n) (e2:TypeId):CS R X base e1 e2 w oo co (List.replicate n (none,0,0)) M 0 []:=by
 refine⟨ho,by rw[List.length_replicate,hM],fun k hk=>by omega,fun h1=>?_,fun k _ h=>by simp⟩;have hc:b2b (List.replicate n (none,0,0)) 0=none:=by rw[a5r h1];simp
 rw[hc];refine⟨by simp,?_⟩;have:((List.replicate n ((none,0,0):Hdr))[0]).2.2=0:=by simp
 rw[this];exact OL.nil _ _ _ _ _ _
theorem CS.ext0 (hR:Elem R 3) (h:CS R X base e1 e2 w oo co hs M i L) (hE:Ext w w'):CS R X base e1 e2 w' oo co hs M i L:=
 ⟨h.outer.ext0 HdR.elem hE,h.len,fun k hk h1 h2=>let ⟨a,b,c⟩:=h.done k hk h1 h2;⟨a,b,c.mono hR.mono (a0h hE)⟩,fun h1=>let ⟨a,b⟩:=h.row h1;⟨a,b.ext0 hR hE⟩,h.rest⟩
theorem CS.next (hR:Elem R 3) (h:CS R X base e1 e2 w oo co hs M i L) (hi:i<M.length) (hL:L=M[i]):CS R X base e1 e2 w oo co hs M (i+1) []:=by
 have hih:i<hs.length:=by rw[h.len];exact hi
 obtain⟨r1,r2⟩:=h.row hih;have hnone:∀h1:i+1<hs.length,hs[i+1]=(none,0,0):=fun h1=>h.rest (i+1) (by omega) h1;have hc:b2b hs (i+1)=none:=by
  by_cases h1:i+1<hs.length
  ·rw[a5r h1,hnone h1]
  ·simp[b2b,List.getD_eq_getElem?_getD,h1]
 have hun:un (un X oo) none=un X oo:=by funext k;simp[un,ob]
 refine⟨h.outer,h.len,fun k hk h1 h2=>?_,fun h1=>?_,fun k hk h1=>h.rest k (by omega) h1⟩
 ·rw[hc,hun]
  by_cases e:k=i
  ·subst e
   have e2:=a5r h1;rw[e2]at r2;refine⟨by rw[r1,hL],by rw[r1];exact r2.lenCap,?_⟩;rw[<-hL];exact r2.sl hR
  ·obtain⟨a,b,c⟩:=h.done k (by omega) h1 h2
   exact⟨a,b,c.mono hR.mono (a1N fun k _ hk=>a0p hk)⟩
 ·rw[hc]
  refine⟨by rw[hnone h1];rfl,?_⟩;have:hs[i+1].2.2=0:=by rw[hnone h1]
  rw[this];exact OL.nil _ _ _ _ _ _
theorem CS.mc (hR:Elem R 3) (h:CS R X base e1 e2 w oo co hs M M.length []):SlV (SlV R 3) 1 (_root_.Go.Rep.mk X w) (.slice oo M.length co) M:=by
 have hl:=h.len;refine⟨oo,co,rfl,by rw[<-hl];exact h.outer.lenCap,fun hp=>?_,fun k hk=>?_⟩
 ·have:=h.outer.hd;rw[hl]at this;exact this hp
 ·have hkh:k<hs.length:=by omega
  obtain⟨u,h1,h2,rfl⟩:=h.outer.cell HdR.one k hkh;obtain⟨a,b,c⟩:=h.done k hk hkh hk;refine⟨.slice hs[k].1 hs[k].2.1 hs[k].2.2,rfl,fun j hj=>?_,?_⟩
  ·have hj0:j=0:=by simp[Value.cells]at hj;omega
   subst hj0;unfold _root_.Go.Rep.mk;have hX:X (adr oo (k*1+0)).block=false:=by
    obtain⟨b,off,rfl⟩:=h.outer.hd (by omega);exact h.outer.1 _ (by simp[ob,adr])
   rw[hX];simpa[Value.cells]using h1
  ·rw[a]
   exact⟨_,_,rfl,by rw[<-a];exact b,c.mono hR.mono (a1N fun k _ hk=>a0p (a0p hk))⟩
theorem CS.push (hR:Elem R 3) (h:CS R X base e1 e2 w oo co hs M i L) (hi:i<hs.length) {v:Rat} {ai:Option Addr} {ci n:Nat} {w7 w8:World} (hn:n=L.length+1) (hR7:OL R 3 (un X oo) base e2 w7 ai ci (L++[v])) (hE7:ExtX (ob (b2b hs i)) w w7) (hor:ai=b2b hs i\/∃g,ai=some ⟨g,0,none⟩/\w.heap.size<=g)
  (hE8:ExtX (ob oo) w7 w8) (hO8:OL HdR 1 X base e1 w8 oo co (hs.set i (ai,n,ci))):CS R X base e1 e2 w8 oo co (hs.set i (ai,n,ci)) M i (L++[v]):=by
 subst hn;have hc:b2b (hs.set i (ai,L.length+1,ci)) i=ai:=by rw[a5r (by rw[List.length_set];exact hi)];simp
 refine⟨hO8,by rw[List.length_set];exact h.len,fun k hk h1 h2=>?_,fun h1=>?_,fun k hk h1=>?_⟩
 ·have hk1:k<hs.length:=by simpa using h1
  obtain⟨a,b,c⟩:=h.done k hk hk1 h2;rw[hc,List.getElem_set_ne (by omega)];refine⟨a,b,?_⟩;have c7:=c.mono hR.mono (a0N (Z:=un (un X oo) ai) hE7 (fun q _ hq=>a0q hq) (fun q hq hz=>b6E (X:=un X oo) hor q hq hz));exact c7.mono hR.mono (a0N hE8 (fun q _ hq=>a0p (a0q hq)) (fun _ _ h=>h))
 ·rw[hc]
  refine⟨by simp,?_⟩;have:(hs.set i (ai,L.length+1,ci))[i].2.2=ci:=by simp
  rw[this];exact hR7.ext hR hE8 (fun k _ hk=>a0q hk) (fun _ _ h=>h)
 ·rw[List.getElem_set_ne (by omega)]
  exact h.rest k hk (by simpa using h1)
end
end Go.Rep
namespace Go.Lin
open Go.Lim Go.Rep
end Go.Lin
namespace Go.Proofs.YtoibhmjjhgaimaaGreat
open Go.RowKit Go.Rep Go.Lim Go.Lin
end Go.Proofs.YtoibhmjjhgaimaaGreat
namespace Go.Lim
theorem b1N:∀(n k:Nat),ch n k<=n^k
 |n,0=>by rw[a2y];exact Nat.le_refl _
 |0,k+1=>Nat.zero_le _
 |n+1,k+1=>by
  have h1:=b1N n k;have h2:=b1N n (k+1);have h3:n^k<=(n+1)^k:=Nat.pow_le_pow_left (by omega) k;have h4:n*n^k<=n*(n+1)^k:=Nat.mul_le_mul_left _ h3;rw[ch];rw[Nat.pow_succ,Nat.mul_comm]at h2;rw[Nat.pow_succ,Nat.mul_comm,Nat.succ_mul];omega
end Go.Lim
namespace Go.Rep
open Go.RowKit Go.Lim Go.Lin
end Go.Rep
namespace Go.Lin
open Go.Lim Go.Rep
end Go.Lin
namespace Go.Proofs.YtoibhmjjhgaimaaGreat
open Go.RowKit Go.Rep Go.Lim Go.Lin
structure SInv (w0:World) (bt bp bx bn:Nat) (P1 P2:Value) (p:Mat) (x:List Rat) (done:List (List Int)) (W:World):Prop where
 ext:Ext w0 W
 tot:Bx W bt #[.int .i64 (done.length:Int)] 3
 pts:Bx W bp #[P1] 25
 pt:Bx W bx #[P2] 45
 cnt:Bx W bn #[.int .i64 (b7T p x done:Int)] 3
theorem SInv.own {w0 W W':World} {bt bp bx bn B0:Nat} {P1 P2:Value} {p:Mat} {x:List Rat} {done:List (List Int)} (h:SInv w0 bt bp bx bn P1 P2 p x done W) (hE:ExtX (a9w B0) W W') (h0:w0.heap.size<=B0) (g1:bt<B0) (g2:bp<B0) (g3:bx<B0) (g4:bn<B0):SInv w0 bt bp bx bn P1 P2 p x done W':=by
 have no:∀j,j<B0->a9w B0 j=false:=fun j hj=>by simp[a9w];omega
 exact⟨h.ext.then_ hE fun i hi _=>no i (by omega),h.tot.ext hE (no _ g1),h.pts.ext hE (no _ g2),h.pt.ext hE (no _ g3),h.cnt.ext hE (no _ g4)⟩
end Go.Proofs.YtoibhmjjhgaimaaGreat
namespace Go.Lin
open Go.Lim Go.Rep
theorem b3E:∀(n h:Nat) (lo:Int),n<h->a0Z n h lo= []
 |n,h,lo,hn=>List.eq_nil_of_length_eq_zero (by rw[a2j,b4y n h hn])
end Go.Lin
namespace Go.Proofs.YtoibhmjjhgaimaaGreat
open Go.RowKit Go.Rep Go.Lim Go.Lin
theorem a8K (N H:Nat) (w:World) (h:N<H):Calls Tryz.prog 44 #[.int .i64 (N:Int), .int .i64 (H:Int)] w (fun e w'=>w'=w/\e= .returned (.slice none 0 0)):=by
 go_enter Tryz.func44,Tryz.ntmps44
 go_wp2_with fail
 go_ret
 exact⟨rfl,rfl⟩
theorem b0i (X:Nat->Bool) (N H:Nat) (w:World) (hN:N<=64) (_hH:H<=64) (hch:ch N H<=1000000) (hX:HX X w):
  Calls Tryz.prog 44 #[.int .i64 (N:Int), .int .i64 (H:Int)] w (a5V X w N H):=by
 by_cases h:H<=N
 ·exact b0g X N H w hN h hch hX
 ·refine(a8K N H w (by omega)).mono ?_
  rintro e w' ⟨rfl,rfl⟩;refine⟨ExtX.refl _,none,0,?_⟩;rw[b3E N H 0 (by omega)];exact⟨rfl,Nat.le_refl _,OL.nil _ _ _ _ _ _⟩
end Go.Proofs.YtoibhmjjhgaimaaGreat
namespace Go.Rep
def R0 (_:Mem) (u:Value) (_:Unit):Prop:=∃a n c,u= .slice a n c
theorem R0.elem:Elem R0 1:=
 ⟨by rintro h h' u x hl ⟨a,n,c,rfl⟩;exact⟨a,n,c,rfl⟩,by rintro h u x ⟨a,n,c,rfl⟩;rfl,by rintro h u x ⟨a,n,c,rfl⟩ c hc;simp[a0n,Value.cells]at hc;subst hc;rfl,Nat.one_pos⟩
theorem b4h {X Z:Nat->Bool} {w w':World} {oo:Option Addr} (hE:ExtX Z w w') (hZ:∀k,Z k=true->X k=true) (hb:∀j,j<w.heap.size->ob oo j=false):Le (mk X w) (mk (un X oo) w'):=
 a0N hE (fun k _ hk=>hZ k hk) fun j hj hz=>by simpa[un,hb j hj]using hz
theorem b1O {Y:Nat->Bool} {w w':World} {lo lo':Option Addr} (hE:ExtX (ob lo) w w') (hor:lo'=lo\/∃g,lo'=some ⟨g,0,none⟩/\w.heap.size<=g):Le (mk (un Y lo) w) (mk (un Y lo') w'):=by
 refine a0N hE (fun k _ hk=>a0q hk) fun k hk hz=>?_;rcases hor with rfl|⟨g,rfl,hg⟩
 ·exact hz
 ·have:ob (some ⟨g,0,none⟩) k=false:=a0c (by omega)
  exact a0p (by simpa[un,this]using hz)
end Go.Rep
namespace Go.Proofs.YtoibhmjjhgaimaaGreat
open Go.RowKit Go.Rep Go.Lim Go.Lin
def a9F (X:Nat->Bool) (w:World) (e:Ending) (w':World):Prop:=Ext w w'/\∃s a n c d m f ul q,e= .returned (.tuple #[.agg #[.bool s, .slice a n c, .slice d m f],ul])/\QC (mk X w') (.agg #[.bool s, .slice a n c, .slice d m f]) q/\hq q<=30000000000
set_option maxRecDepth 100000 in
set_option maxHeartbeats 3200000 in
theorem b1P (X:Nat->Bool) (w:World) (u:Value) (p:Mat) (h B:Nat) (hX:HX X w) (hu:MV (mk X w) u p) (hp6:p.length<=6) (hh:h<=p.length) (hpB:BM B p) (hB1:1<=B) (hB:B<=510):
  Calls Tryz.prog 22 #[u, .int .i64 (h:Int)] w (a9F X w):=by
 obtain⟨W,hW,hE,b0,b1,hz⟩:=a1I w #[.bool false, .slice none 0 0, .slice none 0 0] #[.bool false, .slice none 0 0, .slice none 0 0] 32 32;have hXW:HX (a0f X w.heap.size 2) W:=hX.boxes hz;have hle:Hid (∀w',Ext W w'->Le (mk X w) (mk (a0f X w.heap.size 2) w')):=hid fun w' h=>a0m (hE.trans h);obtain⟨b,hb⟩:∃b,w.heap.size=b:=⟨_,rfl⟩;have hbw:w.heap.size<=b:=by omega
 rw[hb]at b0 b1 hz hXW hle;have hch:ch p.length h<=1000000:=Nat.le_trans (b1N _ _) (Nat.le_trans (Nat.pow_le_pow_left hp6 _) (Nat.le_trans (Nat.pow_le_pow_right (by decide) (show h<=6 by omega)) (by decide)));obtain⟨Y,hY⟩:∃Y,a0f X b 2=Y:=⟨_,rfl⟩;have hYX:=hid (fun k (h:X k=true)=>(by rw[<-hY];exact a5I h:Y k=true));have hY0:Y b=true:=by rw[<-hY];exact a3v (Nat.le_refl _) (by omega)
 have hY1:Y (b+1)=true:=by rw[<-hY];exact a3v (by omega) (by omega)
 rw[hY]at hXW hle;have hcom:=hid (fun w' (h1:Ext W w')=>b0i Y p.length h w' (by omega) (by omega) hch (hXW.ext h1));have hsc:=hid (fun w' lo (a:Option Addr) c (I:List Int) (h1:HX (un Y lo) w') (h2:MV (mk (un Y lo) w') u p) (hI:Sl (a0i .i64) 1 (mk (un Y lo) w') a I) (hIl:I.length<=1099511627776)=>a7R (un Y lo) w' u a I c p B h1 h2 hI hIl (.inl hp6) hpB hB1 hB);have hscq:=hid (fun I=>b1M (rows:=I) hpB hB1 hB (.inl hp6));have huY:=hid (fun w' (h1:Ext W w')=>MV.mono _ _ _ _ (hle.out w' h1) hu);have hcl:(a0Z p.length h 0).length<=1000000:=by rw[a2j];exact hch
 have hmem:=hid (fun s (h1:s∈a0Z p.length h 0)=>(by
  have:=(a2R p.length h 0 s h1).1;omega:s.length<=1099511627776))
 unfold a5V at hcom;obtain⟨ua,uc,rfl,huc,hua⟩:=id hu;obtain⟨n,hn⟩:∃n,p.length=n:=⟨_,rfl⟩;rw[hn]at hcom hcl hmem huc |-;obtain⟨C,hC⟩:∃C,a0Z n h 0=C:=⟨_,rfl⟩;rw[hC]at hcom hcl hmem;obtain⟨K,hK⟩:∃K,C.length=K:=⟨_,rfl⟩;have hK':=hid hK;rw[hK]at hcom hcl;have h00:∀w',QC (mk Y w') (.agg #[.bool false, .slice none 0 0, .slice none 0 0]) 0:=fun w'=>QC.zero _;have hfin:=hid (fun(w':World) s a c n d m f q ul (h1:Ext w w') (h2:QC (mk X w') (.agg #[.bool s, .slice a n c, .slice d m f]) q) (h3:hq q<=30000000000)=>(⟨h1,s,a,n,c,d,m,f,ul,q,rfl,h2,h3⟩:a9F X w (.returned (.tuple #[.agg #[.bool s, .slice a n c, .slice d m f],ul])) w'));rw[hn]at hsc huY;clear hu hua hX hch hY hn hC hK hle hpB hp6 hh;go_enter Tryz.func22,Tryz.ntmps22
 go_wp2_with fail
 refine(hcom.out W (ExtX.refl _)).mono ?_;rintro e w2 ⟨hE2,co,cc,rfl,hcc,hCO⟩;have hC2:=hCO.sl (SlV.elem (a0i.elem .i64));have hhc:=hC2.hd;rw[hK'.out]at hhc;have bb0:=b0.ext0 hE2;have bb1:=b1.ext0 hE2;have hX2:HX Y w2:=hXW.ext hE2;have hu2:=huY.out w2 hE2;have hE02:=hE.trans hE2;have hb1w:=hid bb1.lt;clear hCO hcom hE2 b0 b1 hXW huY;go_wp2_with fail
 go_loopw [7,18] (fun o cx wr=>∃(k m:Nat) (lo:Option Addr) (lc:Nat) (q:Rat) (s:Bool) (a:Option Addr) (n c:Nat) (d:Option Addr) (k2 f:Nat),cx= .int .i64 k/\o= .slice lo m lc/\k<=K/\m<=k/\OL R0 1 Y w2.heap.size 22 wr lo lc (List.replicate m ())/\Bx wr (b+1) #[.bool s, .slice a n c, .slice d k2 f] 32/\QC (mk (un Y lo) wr) (.agg #[.bool s, .slice a n c, .slice d k2 f]) q/\hq q<=30000000000/\ExtX (ob (some ⟨b+1,0,none⟩)) w2 wr) (fun _ cx _=>K - (intOf cx).toNat)
 case atStart=>exact⟨0,0,none,0,0,_,_,_,_,_,_,_,rfl,rfl,Nat.zero_le _,Nat.le_refl _,OL.nil _ _ _ _ _ _,bb1,QC.zero _,by rw[a2k];decide,ExtX.refl _⟩
 case round=>
  clear bb1;obtain⟨k,m,lo,lc,q,s,a,nn,c,d,k2,f,rfl,rfl,hk,hm,hO,b1,hQ,hq3,hEr⟩:=hrel;have hYr:HX (un Y lo) wr:=hO.unX (hX2.ext hEr);have hbY:∀k,ob (some ⟨b+1,0,none⟩) k=true->Y k=true:=fun k hk=>by
   have:b+1=k:=by simpa[ob]using hk
   rw[<-this];exact hY1
  by_cases hlt:k<K
  ·have hLe:=b4h (oo:=lo) hEr hbY (fun j hj=>hO.ob_lt hj)
   have hkC:k<C.length:=by rw[hK'.out];exact hlt
   obtain⟨so,sc,f3,h3',s3⟩:=(hC2.mono (SlV.mono (a0i.mono _) _) hLe).slice k hkC;have hsl:=hmem.out C[k] (List.getElem_mem _);have hss:=hsc.out wr lo so sc C[k] hYr (MV.mono _ _ _ _ hLe hu2) s3 hsl;have hsq:=hid (hscq.out C[k]);obtain⟨I,hI⟩:∃I,C[k]=I:=⟨_,rfl⟩;rw[hI]at f3 hss hsq;unfold a2L at hss;obtain⟨E,hEe⟩:∃E,scE p I=E:=⟨_,rfl⟩;obtain⟨V,hVe⟩:∃V,scV p I=V:=⟨_,rfl⟩;obtain⟨il,hil⟩:∃il,I.length=il:=⟨_,rfl⟩;rw[hEe,hVe]at hss;rw[hVe]at hsq;rw[hil]at f3 hss;clear hLe hkC h3' s3 hsl hI hEe hVe hil;go_wp2_with (with_reducible refine a0o a7g (by omega) (by assumption) ?_)
   refine hss.mono ?_;rintro e w5 ⟨hE5,us,rfl,ro1,rl1,rc1,co1,cl1,cc1,mo1,ml1,mc1,s1,a3,n1,c3,d1,k3,f1,rfl,hqS⟩;clear hss f3;have bS:=Bx.new w5 #[.slice ro1 rl1 rc1, .slice co1 cl1 cc1, .slice mo1 ml1 mc1, .bool s1, .slice a3 n1 c3, .slice d1 k3 f1] 105;have hEa:Ext w5 (w5.alloc (.cells #[.slice ro1 rl1 rc1, .slice co1 cl1 cc1, .slice mo1 ml1 mc1, .bool s1, .slice a3 n1 c3, .slice d1 k3 f1] 105)):=(ExtX.refl w5).alloc _;obtain⟨wS,hwS⟩:∃wS,w5.alloc (.cells #[.slice ro1 rl1 rc1, .slice co1 cl1 cc1, .slice mo1 ml1 mc1, .bool s1, .slice a3 n1 c3, .slice d1 k3 f1] 105)=wS:=⟨_,rfl⟩;obtain⟨gS,hgS⟩:∃gS,w5.heap.size=gS:=⟨_,rfl⟩;rw[hwS]at bS hEa;rw[hgS]at bS;have hErS:=hE5.trans hEa;have bd:=b1.ext0 hErS;have q3:wS.cell? ⟨gS,3,none⟩=some (.bool s1):=bS.cell 3 rfl;have q4:wS.cell? ⟨gS,3+1,none⟩=some (.slice a3 n1 c3):=bS.cell 4 rfl;have q5:wS.cell? ⟨gS,3+2,none⟩=some (.slice d1 k3 f1):=bS.cell 5 rfl;have r3:=bd.cell 0 rfl;have r4:=bd.cell 1 rfl;have r5:=bd.cell 2 rfl;have hls:=a7C (un Y lo) wS _ _ V q (hYr.ext hErS) ((mkx QC.mono hqS hEa).qv (Nat.le_trans hsq.out (by decide))) ((mkx QC.mono hQ hErS).qv (Nat.le_trans hq3 (by decide))) (Nat.le_trans (a6i V q) (by have:=hsq.out;omega));obtain⟨sg,hsg⟩:∃sg,(V - q).num.sign=sg:=⟨_,rfl⟩;rw[hsg]at hls;clear hsg;go_wp2_with fail
   refine hls.mono ?_;rintro e w6 ⟨hE6,rfl⟩;have hEr6:Ext wr w6:=hErS.trans hE6;have b16:=b1.ext0 hEr6;have bS6:=bS.ext0 hE6;have hQS:=mkx QC.mono hqS (hEa.trans hE6);have hQ6:=mkx QC.mono hQ hEr6;have q3:w6.cell? ⟨gS,3,none⟩=some (.bool s1):=bS6.cell 3 rfl;have q4:w6.cell? ⟨gS,3+1,none⟩=some (.slice a3 n1 c3):=bS6.cell 4 rfl;have q5:w6.cell? ⟨gS,3+2,none⟩=some (.slice d1 k3 f1):=bS6.cell 5 rfl;have hb1s:b+1<w2.heap.size:=by have:=hb1w.out;omega
   have hsz6:w2.heap.size<=w6.heap.size:=Nat.le_trans hEr.size hEr6.size;clear hls bS bd bS6 hqS hQ hwS hgS hErS hE5 hEa hE6 r3 r4 r5;have hO6:=hO.ext0 R0.elem hEr6;clear hO b1;rcases hO6.form with⟨rfl,rfl,hnil⟩|⟨g,cur,rfl,hg,_,hlc,_,_⟩
   ·have hm0:m=0:=by simpa using hnil
    subst hm0;clear hnil;have n1:∀w',(binOp .eql 41 (.slice none 0 0) (.slice none 0 0)).run Tryz.prog w'= .ok (.bool true) w':=fun w'=>Go.Lib.run_eql_slice_nil w' _ _ none 0 0 0 0 Tryz.underlying41;go_wp2_with (first|((with_reducible show wpList _ _ _ (⟨_, .store 32 _ _,_,_,_,_⟩::_) _ _);refine a0d a0s rfl rfl b16 rfl rfl (a2n _ _ _ _ _ _ _) ?_;intro w7 r1 r2;have hX7:HX Y w7:=hX2.ext ((hEr.then_ hEr6 (fun _ _ _=>rfl)).trans r2);have hO7:OL R0 1 Y w2.heap.size 22 w7 none 0 (List.replicate 0 ()):=OL.nil _ _ _ _ _ _;have hbs:w2.heap.size<=w7.heap.size:=Nat.le_trans hsz6 r2.size)|(at_builtin;refine a0H (l:=List.replicate 0 ()) a7g rfl R0.elem hbs hX7 0 List.length_replicate rfl rfl hO7 (.slice so il sc) () rfl ⟨so,il,sc,rfl⟩ (by omega) (by omega) ?_;intro lo8 lc8 w8 hO8 hE8 hor))
    have hLs:Le (mk (un Y none) w6) (mk (un Y none) w7):=a0N r2 (fun k _ hk=>a0p (hbY k hk)) (fun k _ hz=>a0p (by simpa[un,ob]using hz));have hQ8:=QC.mono _ _ _ _ (b1O hE8 hor) (QC.mono _ _ _ _ hLs hQS);have b18:=r1.ext hE8 (hO7.ob_lt hb1s);have hE9:=((hEr.then_ hEr6 (fun _ _ _=>rfl)).trans r2).own hO7 (Nat.le_refl _) hE8;rw[<-List.replicate_succ']at hO8;go_roundw
    case rel=>exact⟨k+1,0+1,lo8,lc8,V,_,_,_,_,_,_,_,by go_num,by go_num,by omega,by omega,hO8,b18,hQ8,hsq.out,hE9⟩
    case measure=>simp[intOf];omega
   ·clear hlc
    have n1:∀w',(binOp .eql 41 (.slice (some ⟨g,0,none⟩) m lc) (.slice none 0 0)).run Tryz.prog w'= .ok (.bool false) w':=fun w'=>Go.Lib.run_eql_slice_nil w' _ _ (some ⟨g,0,none⟩) m lc 0 0 Tryz.underlying41;rcases(by omega:sg<0\/sg=0\/0<sg)with hs|hs|hs
    ·go_wp2_with (first|((with_reducible show wpList _ _ _ (⟨_, .store 32 _ _,_,_,_,_⟩::_) _ _);refine a0d a0s rfl rfl b16 rfl rfl (a2n _ _ _ _ _ _ _) ?_;intro w7 r1 r2;have hX7:HX Y w7:=hX2.ext ((hEr.then_ hEr6 (fun _ _ _=>rfl)).trans r2);have hO7:OL R0 1 Y w2.heap.size 22 w7 none 0 (List.replicate 0 ()):=OL.nil _ _ _ _ _ _;have hbs:w2.heap.size<=w7.heap.size:=Nat.le_trans hsz6 r2.size)|(at_builtin;refine a0H (l:=List.replicate 0 ()) a7g rfl R0.elem hbs hX7 0 List.length_replicate rfl rfl hO7 (.slice so il sc) () rfl ⟨so,il,sc,rfl⟩ (by omega) (by omega) ?_;intro lo8 lc8 w8 hO8 hE8 hor))
     have hLs:Le (mk (un Y (some ⟨g,0,none⟩)) w6) (mk (un Y none) w7):=a0N r2 (fun k _ hk=>a0p (hbY k hk)) (fun k _ hz=>a0p (by simpa[un,ob]using hz));have hQ8:=QC.mono _ _ _ _ (b1O hE8 hor) (QC.mono _ _ _ _ hLs hQS);have b18:=r1.ext hE8 (hO7.ob_lt hb1s);have hE9:=((hEr.then_ hEr6 (fun _ _ _=>rfl)).trans r2).own hO7 (Nat.le_refl _) hE8;rw[<-List.replicate_succ']at hO8;go_roundw
     case rel=>exact⟨k+1,0+1,lo8,lc8,V,_,_,_,_,_,_,_,by go_num,by go_num,by omega,by omega,hO8,b18,hQ8,hsq.out,hE9⟩
     case measure=>simp[intOf];omega
    ·subst hs
     have hX6:HX Y w6:=hX2.ext (hEr.then_ hEr6 (fun _ _ _=>rfl));clear q3 q4 q5;go_wp2_with (at_builtin;refine a0H (l:=List.replicate m ()) a7g rfl R0.elem hsz6 hX6 m List.length_replicate rfl rfl hO6 (.slice so il sc) () rfl ⟨so,il,sc,rfl⟩ (by omega) (by omega) ?_;intro lo8 lc8 w8 hO8 hE8 hor)
     have hQ8:=QC.mono _ _ _ _ (b1O hE8 hor) hQ6;have b18:=b16.ext hE8 (hO6.ob_lt hb1s);have hE9:=(hEr.then_ hEr6 (fun _ _ _=>rfl)).own hO6 (Nat.le_refl _) hE8;rw[<-List.replicate_succ']at hO8;go_roundw
     case rel=>exact⟨k+1,m+1,lo8,lc8,q,_,_,_,_,_,_,_,by go_num,by go_num,by omega,by omega,hO8,b18,hQ8,hq3,hE9⟩
     case measure=>simp[intOf];omega
    ·have hs2:(sg==0)=false:=a2f (by omega)
     have hE9:=hEr.then_ hEr6 (fun _ _ _=>rfl);clear q3 q4 q5;go_wp2_with fail
     go_roundw
     case rel=>exact⟨k+1,m,some ⟨g,0,none⟩,lc,q,_,_,_,_,_,_,_,by go_num,rfl,by omega,by omega,hO6,b16,hQ6,hq3,hE9⟩
     case measure=>simp[intOf];omega
  ·have bbr:=bb0.ext hEr (a0c (by omega))
   have r3:=b1.cell 0 rfl;have r4:=b1.cell 1 rfl;have r5:=b1.cell 2 rfl;go_wp2_with ((with_reducible show wpList _ _ _ (⟨_, .store 32 _ _,_,_,_,_⟩::_) _ _);refine a0d a0s rfl rfl bbr rfl rfl (a2n _ _ _ _ _ _ _) ?_;intro w7 r1 r2)
   have hb0Y:∀k,ob (some ⟨b,0,none⟩) k=true->Y k=true:=fun k hk=>by
    have:b=k:=by simpa[ob]using hk
    rw[<-this];exact hY0
   have hL7:Le (mk (un Y lo) wr) (mk X w7):=a0N r2 (fun k _ hk=>a0p (hb0Y k hk)) (fun k _ hk=>a0p (hYX.out k hk));exact bodyPost_ret (a0C rfl rfl a0s r1 rfl) rfl (hfin.out _ _ _ _ _ _ _ _ q _ (ExtX.box (ExtX.box hE02 hEr (by omega)) r2 hbw) (QC.mono _ _ _ _ hL7 hQ) hq3)
def a7S (X:Nat->Bool) (tb:Nat) (w:World) (m N:Nat) (e:Ending) (w':World):Prop:=ExtX (tbm tb) w w'/\∃(ao:Option Addr) (L:List a2X) (cap:Nat),e= .returned (.slice ao L.length cap)/\L.length<=cap/\L.length<=m/\Hid (∀x∈L,x.1.length<=N/\x.2.length<=N)/\a0z (un X ao) tb w'/\OL a0G 2 X w.heap.size 103 w' ao cap L
theorem a4F (X:Nat->Bool) (w:World) (I O:List Int) (a1 a2:Option Addr) (c1 c2:Nat) (e:TypeId) (hX:∀k,X k=true->k<w.heap.size) (hc1:I.length<=c1) (hc2:O.length<=c2) (h1:Sl (a0i .i64) 1 (mk X w) a1 I) (h2:Sl (a0i .i64) 1 (mk X w) a2 O):
  OL a0G 2 X w.heap.size e (w.alloc (.cells #[.slice a1 I.length c1, .slice a2 O.length c2] e)) (some ⟨w.heap.size,0,none⟩) 1 [(I,O)]:=
 OL.lit a0G.elem hX (Nat.le_refl _) [.agg #[.slice a1 I.length c1, .slice a2 O.length c2]] [(I,O)] _ (by simp[a0n,Value.cells]) rfl
  (fun i hi _=>by
           match i,hi with
           |0,_=>exact⟨a1,c1,a2,c2,rfl,hc1,hc2,h1,h2⟩) (by simp)
theorem _root_.Go.Rep.Sl.noneLen {α:Type} {R:Mem->Value->α->Prop} {sz:Nat} {h:Mem} {ao:Option Addr} {l:List α} (s:Sl R sz h ao l) (e:ao=none):l.length=0:=by
 by_cases h0:0<l.length
 ·obtain⟨b,off,hb⟩:=s.1 h0
  rw[e]at hb;simp at hb
 ·omega
theorem _root_.Go.Rep.Sl.oldY {α:Type} {R:Mem->Value->α->Prop} (hR:a3i R) {sz:Nat} {X Y:Nat->Bool} {w w':World} {oo ao:Option Addr} {l:List α} (s:Sl R sz (mk X w) ao l) (hE:ExtX Y w w') (hY:∀k,Y k=true->X k=true) (hb:∀j,j<w.heap.size->ob oo j=false):Sl R sz (mk (un X oo) w') ao l:=
 s.mono hR (a0N hE (fun k _ hk=>hY k hk) fun j hk hz=>by simpa[un,hb j hk]using hz)
theorem a7h {α:Type} {P:α->Prop} {a b:List α} (h1:Hid (∀x∈a,P x)) (h2:Hid (∀x∈b,P x)):Hid (∀x∈a++b,P x):=hid fun x hx=>by
 rcases List.mem_append.1 hx with hx|hx
 ·exact h1.out x hx
 ·exact h2.out x hx
theorem b1Q (tb N H:Nat) (hN:N<=20) (hH:H<=1000) (k:Nat):∀(X:Nat->Bool) (io oo:Option Addr) (I O:List Int) (ci co a_:Nat) (w:World),Hid (N=a_+k)->a0z X tb w->(∀k,X k=true->k<w.heap.size)->I.length<=a_->O.length<=a_->I.length<=ci->O.length<=co->
  Sl (a0i .i64) 1 (mk X w) io I->Sl (a0i .i64) 1 (mk X w) oo O->
  Calls Tryz.prog 65 #[.pointer (some ⟨tb,0,none⟩), .int .i64 (N:Int), .int .i64 (H:Int), .slice io I.length ci, .slice oo O.length co, .int .i64 (a_:Int)] w (a7S X tb w (2^k) N):=by
 induction k with
 |zero=>
  intro X io oo I O ci co a_ w ha ht hX hI hO hci hco hsi hso;have hk:a_<=N:=by have:=ha.out;omega
  have hp:Hid (1<=2^0):=hid (by decide);have d3:((a_:Int)==(N:Int))=true:=a8d (by have:=ha.out;omega);by_cases h1:(H:Int)<I.length
  ·go_enter Tryz.func65,Tryz.ntmps65
   go_wp2_with fail
   go_ret
   exact⟨ExtX.refl _,none,[],0,rfl,by simp,by simp,hid (by simp),ht.none,OL.nil _ _ _ _ _ _⟩
  by_cases h2:(N:Int) - H<O.length
  ·go_enter Tryz.func65,Tryz.ntmps65
   go_wp2_with fail
   go_ret
   exact⟨ExtX.refl _,none,[],0,rfl,by simp,by simp,hid (by simp),ht.none,OL.nil _ _ _ _ _ _⟩
  have hEt:ExtX (tbm tb) w w:=ExtX.refl _;have htt:=ht;have hXt:=hX;have hit:=hsi;have hot:=hso;go_enter Tryz.func65,Tryz.ntmps65
  go_wp2_with fail
  go_ret;exact⟨hEt.alloc _,_,[(I,O)],_,rfl,by simp,by simp,hid (by simp;omega),htt.old ((ExtX.refl _).alloc _) (a3U _),(a4F X _ I O io oo ci co _ hXt hci hco hit hot).base_le hEt.size⟩
 |succ k ih=>
  intro X io oo I O ci co a_ w ha ht hX hI hO hci hco hsi hso;have hp:Hid (1<=2^(k+1)/\2^(k+1)=2^k+2^k/\2^k<=1048576):=hid ⟨Nat.pow_pos (by omega),by rw[Nat.pow_succ];omega,Nat.le_trans (Nat.pow_le_pow_right (by omega) (show k<=20 by have:=ha.out;omega)) (by decide)⟩;have hk:a_<N:=by have:=ha.out;omega
  have d3:((a_:Int)==(N:Int))=false:=a2f (by omega);by_cases h1:(H:Int)<I.length
  ·go_enter Tryz.func65,Tryz.ntmps65
   go_wp2_with fail
   go_ret
   exact⟨ExtX.refl _,none,[],0,rfl,by simp,by simp,hid (by simp),ht.none,OL.nil _ _ _ _ _ _⟩
  by_cases h2:(N:Int) - H<O.length
  ·go_enter Tryz.func65,Tryz.ntmps65
   go_wp2_with fail
   go_ret
   exact⟨ExtX.refl _,none,[],0,rfl,by simp,by simp,hid (by simp),ht.none,OL.nil _ _ _ _ _ _⟩
  by_cases h3:0<I.length
  ·by_cases h4:H<=I.length
   ·have d5:((I.length:Int)==(H:Int))=true:=a8d (by omega)
    go_enter Tryz.func65,Tryz.ntmps65
    go_wp2_with fail
    refine(a4D X tb 4 _ ht (by omega) (by omega)).mono ?_;rintro e wt ⟨hEt,htt,b,rfl⟩;have hXt:∀k,X k=true->k<wt.heap.size:=fun k hk=>Nat.lt_of_lt_of_le (hX k hk) hEt.size;have hit:=hsi.mono (a0i.mono _) (a0w hEt (a1n ht.1));have hot:=hso.mono (a0i.mono _) (a0w hEt (a1n ht.1));cases b
    ·go_wp2_with fail
     (go_ret;exact⟨hEt.alloc _,_,[(I,O)],_,rfl,by simp,by simpa using hp.out.1,hid (by simp;omega),htt.old ((ExtX.refl _).alloc _) (a3U _),(a4F X _ I O io oo ci co _ hXt hci hco hit hot).base_le hEt.size⟩)
    ·go_wp2_with fail
     (go_ret;exact⟨hEt.alloc _,_,[(I,O)],_,rfl,by simp,by simpa using hp.out.1,hid (by simp;omega),htt.old ((ExtX.refl _).alloc _) (a3U _),(a4F X _ I O io oo ci co _ hXt hci hco hit hot).base_le hEt.size⟩)
   ·have d5:((I.length:Int)==(H:Int))=false:=a2f (by omega)
    go_enter Tryz.func65,Tryz.ntmps65
    go_wp2_with fail
    refine(a4D X tb 4 _ ht (by omega) (by omega)).mono ?_;rintro e wt ⟨hEt,htt,b,rfl⟩;have hXt:∀k,X k=true->k<wt.heap.size:=fun k hk=>Nat.lt_of_lt_of_le (hX k hk) hEt.size;have hit:=hsi.mono (a0i.mono _) (a0w hEt (a1n ht.1));have hot:=hso.mono (a0i.mono _) (a0w hEt (a1n ht.1));cases b
    ·go_wp2_with (first|((with_reducible show wpList _ _ _ (⟨_, .slice _ _ _ _ _,_,_,_,_⟩::_) _ _);refine a7c a0S I.length rfl rfl rfl rfl rfl hci ?_)|(at_builtin;refine a2d a0S rfl (a0i.elem .i64) hXt rfl rfl (Nat.le_refl _) (fun e=>⟨hit.noneLen e,hit.noneLen e⟩) hit (.int .i64 a_) (a_:Int) rfl rfl (by omega) (by omega) ?_;intro ao1 co1 w1 hO1 hE1))
     (have hih:=ih X ao1 oo (I++[(a_:Int)]) O co1 co (a_+1) w1 (hid (by have:=ha.out;omega)) (htt.ext hE1) (fun k hk=>Nat.lt_of_lt_of_le (hXt k hk) hE1.size) (by simp;omega) (by omega) hO1.lenCap hco (hO1.sl (a0i.elem .i64)) (hot.mono (a0i.mono _) (a0h hE1));rw[show(I++[(a_:Int)]).length=I.length+1 by simp,show((a_+1:Nat):Int)=(a_:Int)+1 by omega]at hih;refine hih.mono ?_;rintro e w2 ⟨hE2,s1,L1,c1,rfl,hc1,hl1,hb1,ht2,hA⟩;clear hih)
     (have hE02:=(hEt.trans (ExtX.of hE1)).trans hE2;have hX2:∀k,X k=true->k<w2.heap.size:=fun k hk=>Nat.lt_of_lt_of_le (hX k hk) hE02.size;have hXu2:=hA.unX hX2;have hi2:=(hit.mono (a0i.mono _) (a0h hE1)).oldY (a0i.mono _) hE2 (a1n ht.1) (fun j hj=>hA.ob_lt hj);have ho2:=(hot.mono (a0i.mono _) (a0h hE1)).oldY (a0i.mono _) hE2 (a1n ht.1) (fun j hj=>hA.ob_lt hj);have hl1':L1.length<=1048576:=Nat.le_trans hl1 hp.out.2.2;have hl1h:=hid hl1;clear hl1 hO1)
     (go_wp2_with (first|((with_reducible show wpList _ _ _ (⟨_, .slice _ _ _ _ _,_,_,_,_⟩::_) _ _);refine a7c a0S O.length rfl rfl rfl rfl rfl hco ?_)|(at_builtin;refine a2d a0S rfl (a0i.elem .i64) hXu2 rfl rfl (Nat.le_refl _) (fun e=>⟨ho2.noneLen e,ho2.noneLen e⟩) ho2 (.int .i64 a_) (a_:Int) rfl rfl (by omega) (by omega) ?_;intro ao3 co3 w3 hO3 hE3)))
     (have hih:=ih (un X s1) io ao3 I (O++[(a_:Int)]) ci co3 (a_+1) w3 (hid (by have:=ha.out;omega)) (ht2.ext hE3) (fun k hk=>Nat.lt_of_lt_of_le (hXu2 k hk) hE3.size) (by omega) (by simp;omega) hci hO3.lenCap (hi2.mono (a0i.mono _) (a0h hE3)) (hO3.sl (a0i.elem .i64));rw[show(O++[(a_:Int)]).length=O.length+1 by simp,show((a_+1:Nat):Int)=(a_:Int)+1 by omega]at hih;refine hih.mono ?_;rintro e w4 ⟨hE4,s2,L2,c2,rfl,hc2,hl2,hb2,ht4,hB⟩;clear hih)
     (have hA4:=(hA.ext0 a0G.elem hE3).ext a0G.elem hE4 (fun k _ hk=>a1n ht.1 k hk) (fun _ _ h=>h);have hE04:=(hE02.trans (ExtX.of hE3)).trans hE4;have hX4:∀k,X k=true->k<w4.heap.size:=fun k hk=>Nat.lt_of_lt_of_le (hX k hk) hE04.size;have hsB:=hB.sl a0G.elem;have hl2':L2.length<=1048576:=Nat.le_trans hl2 hp.out.2.2;have hl2h:=hid hl2;clear hl2;have hb4:w1.heap.size<=w4.heap.size:=Nat.le_trans hE2.size (Nat.le_trans hE3.size hE4.size);go_wp2_with (at_builtin;refine a1P a1t rfl a0G.elem hb4 hX4 L2 rfl rfl hA4 hsB (by omega) (by omega) ?_;intro s5 c5 w5 hC hE5 hor))
     (have ht5:=(ht4.unX (a0p ht.1)).unstep (hA4.not_ob ht.1) hE5 hor;have hb01:w.heap.size<=w1.heap.size:=Nat.le_trans hEt.size hE1.size;have hE05:=hE04.own hA4 hb01 hE5;go_ret;exact⟨hE05,s5,L1++L2,c5,a0X List.length_append.symm,hC.lenCap,by have h1:=hl1h.out;have h2:=hl2h.out;have h3:=hp.out.2.1;rw[List.length_append];omega,a7h hb1 hb2,ht5,hC.base_le hb01⟩)
    ·go_wp2_with fail
     (go_ret;exact⟨hEt.alloc _,_,[(I,O)],_,rfl,by simp,by simpa using hp.out.1,hid (by simp;omega),htt.old ((ExtX.refl _).alloc _) (a3U _),(a4F X _ I O io oo ci co _ hXt hci hco hit hot).base_le hEt.size⟩)
  ·by_cases h4:H<=I.length
   ·have d5:((I.length:Int)==(H:Int))=true:=a8d (by omega)
    have hEt:ExtX (tbm tb) w w:=ExtX.refl _;have htt:=ht;have hXt:=hX;have hit:=hsi;have hot:=hso;go_enter Tryz.func65,Tryz.ntmps65
    go_wp2_with fail
    (go_ret;exact⟨hEt.alloc _,_,[(I,O)],_,rfl,by simp,by simpa using hp.out.1,hid (by simp;omega),htt.old ((ExtX.refl _).alloc _) (a3U _),(a4F X _ I O io oo ci co _ hXt hci hco hit hot).base_le hEt.size⟩)
   ·have d5:((I.length:Int)==(H:Int))=false:=a2f (by omega)
    have hEt:ExtX (tbm tb) w w:=ExtX.refl _;have htt:=ht;have hXt:=hX;have hit:=hsi;have hot:=hso;go_enter Tryz.func65,Tryz.ntmps65
    go_wp2_with (first|((with_reducible show wpList _ _ _ (⟨_, .slice _ _ _ _ _,_,_,_,_⟩::_) _ _);refine a7c a0S I.length rfl rfl rfl rfl rfl hci ?_)|(at_builtin;refine a2d a0S rfl (a0i.elem .i64) hXt rfl rfl (Nat.le_refl _) (fun e=>⟨hit.noneLen e,hit.noneLen e⟩) hit (.int .i64 a_) (a_:Int) rfl rfl (by omega) (by omega) ?_;intro ao1 co1 w1 hO1 hE1))
    (have hih:=ih X ao1 oo (I++[(a_:Int)]) O co1 co (a_+1) w1 (hid (by have:=ha.out;omega)) (htt.ext hE1) (fun k hk=>Nat.lt_of_lt_of_le (hXt k hk) hE1.size) (by simp;omega) (by omega) hO1.lenCap hco (hO1.sl (a0i.elem .i64)) (hot.mono (a0i.mono _) (a0h hE1));rw[show(I++[(a_:Int)]).length=I.length+1 by simp,show((a_+1:Nat):Int)=(a_:Int)+1 by omega]at hih;refine hih.mono ?_;rintro e w2 ⟨hE2,s1,L1,c1,rfl,hc1,hl1,hb1,ht2,hA⟩;clear hih)
    (have hE02:=(hEt.trans (ExtX.of hE1)).trans hE2;have hX2:∀k,X k=true->k<w2.heap.size:=fun k hk=>Nat.lt_of_lt_of_le (hX k hk) hE02.size;have hXu2:=hA.unX hX2;have hi2:=(hit.mono (a0i.mono _) (a0h hE1)).oldY (a0i.mono _) hE2 (a1n ht.1) (fun j hj=>hA.ob_lt hj);have ho2:=(hot.mono (a0i.mono _) (a0h hE1)).oldY (a0i.mono _) hE2 (a1n ht.1) (fun j hj=>hA.ob_lt hj);have hl1':L1.length<=1048576:=Nat.le_trans hl1 hp.out.2.2;have hl1h:=hid hl1;clear hl1 hO1)
    (go_wp2_with (first|((with_reducible show wpList _ _ _ (⟨_, .slice _ _ _ _ _,_,_,_,_⟩::_) _ _);refine a7c a0S O.length rfl rfl rfl rfl rfl hco ?_)|(at_builtin;refine a2d a0S rfl (a0i.elem .i64) hXu2 rfl rfl (Nat.le_refl _) (fun e=>⟨ho2.noneLen e,ho2.noneLen e⟩) ho2 (.int .i64 a_) (a_:Int) rfl rfl (by omega) (by omega) ?_;intro ao3 co3 w3 hO3 hE3)))
    (have hih:=ih (un X s1) io ao3 I (O++[(a_:Int)]) ci co3 (a_+1) w3 (hid (by have:=ha.out;omega)) (ht2.ext hE3) (fun k hk=>Nat.lt_of_lt_of_le (hXu2 k hk) hE3.size) (by omega) (by simp;omega) hci hO3.lenCap (hi2.mono (a0i.mono _) (a0h hE3)) (hO3.sl (a0i.elem .i64));rw[show(O++[(a_:Int)]).length=O.length+1 by simp,show((a_+1:Nat):Int)=(a_:Int)+1 by omega]at hih;refine hih.mono ?_;rintro e w4 ⟨hE4,s2,L2,c2,rfl,hc2,hl2,hb2,ht4,hB⟩;clear hih)
    (have hA4:=(hA.ext0 a0G.elem hE3).ext a0G.elem hE4 (fun k _ hk=>a1n ht.1 k hk) (fun _ _ h=>h);have hE04:=(hE02.trans (ExtX.of hE3)).trans hE4;have hX4:∀k,X k=true->k<w4.heap.size:=fun k hk=>Nat.lt_of_lt_of_le (hX k hk) hE04.size;have hsB:=hB.sl a0G.elem;have hl2':L2.length<=1048576:=Nat.le_trans hl2 hp.out.2.2;have hl2h:=hid hl2;clear hl2;have hb4:w1.heap.size<=w4.heap.size:=Nat.le_trans hE2.size (Nat.le_trans hE3.size hE4.size);go_wp2_with (at_builtin;refine a1P a1t rfl a0G.elem hb4 hX4 L2 rfl rfl hA4 hsB (by omega) (by omega) ?_;intro s5 c5 w5 hC hE5 hor))
    (have ht5:=(ht4.unX (a0p ht.1)).unstep (hA4.not_ob ht.1) hE5 hor;have hb01:w.heap.size<=w1.heap.size:=Nat.le_trans hEt.size hE1.size;have hE05:=hE04.own hA4 hb01 hE5;go_ret;exact⟨hE05,s5,L1++L2,c5,a0X List.length_append.symm,hC.lenCap,by have h1:=hl1h.out;have h2:=hl2h.out;have h3:=hp.out.2.1;rw[List.length_append];omega,a7h hb1 hb2,ht5,hC.base_le hb01⟩)
def b3F (X:Nat->Bool) (tb:Nat) (w:World) (e:Ending) (w':World):Prop:=ExtX (tbm tb) w w'/\a0z X tb w'/\∃(ao:Option Addr) (L:List a2X) (cap:Nat),e= .returned (.slice ao L.length cap)/\L.length<=cap/\L.length<=2000000/\Hid (∀x∈L,x.1.length<=2000/\x.2.length<=2000)/\Sl a0G 2 (mk X w') ao L
theorem b1R:TyI Tryz.prog 22 1:=let ⟨i,h,_,h2,_⟩:=info_parts a3h.info;⟨i,h,h2⟩
theorem a7T (M:Mem) (x:a2X) (so:Option Addr) (l:List Int) (c:Nat) (hs:Sl (a0i .i64) 1 M so l) (hc:l.length<=c):∀u,a0G M u x->∃u',a0n u'=(a0n u).set 0 (.slice so l.length c)/\a0G M u' (l,x.2):=by
 rintro u ⟨a1,c1,a2,c2,rfl,h1,h2,h3,h4⟩;exact⟨.agg #[.slice so l.length c, .slice a2 x.2.length c2],rfl,so,c,a2,c2,rfl,hc,h2,hs,h4⟩
theorem b1S (M:Mem) (x:a2X) (so:Option Addr) (l:List Int) (c:Nat) (hs:Sl (a0i .i64) 1 M so l) (hc:l.length<=c):∀u,a0G M u x->∃u',a0n u'=(a0n u).set 1 (.slice so l.length c)/\a0G M u' (x.1,l):=by
 rintro u ⟨a1,c1,a2,c2,rfl,h1,h2,h3,h4⟩;exact⟨.agg #[.slice a1 x.1.length c1, .slice so l.length c],rfl,a1,c1,so,c,rfl,h1,hc,h3,hs⟩
theorem a8L {α:Type} {P:α->Prop} {a:List α} {i:Nat} {y:α} (h1:Hid (∀x∈a,P x)) (h2:P y):Hid (∀x∈a.set i y,P x):=hid fun x hx=>by
 rcases List.mem_or_eq_of_mem_set hx with hx|rfl
 ·exact h1.out x hx
 ·exact h2
theorem b1T (X:Nat->Bool) (tb:Nat) (n h:Int) (w:World) (ht:a0z X tb w) (hX:∀k,X k=true->k<w.heap.size) (hn1:0<=n) (hn2:n<=20) (hh1:0<=h) (hh2:h<=1000):
  Calls Tryz.prog 65 #[.pointer (some ⟨tb,0,none⟩), .int .i64 n, .int .i64 h, .slice none 0 0, .slice none 0 0, .int .i64 0] w (a7S X tb w 1048576 20):=by
 obtain⟨N,rfl⟩:=Int.eq_ofNat_of_zero_le hn1;obtain⟨H,rfl⟩:=Int.eq_ofNat_of_zero_le hh1;refine(b1Q tb N H (by omega) (by omega) N X none none [] [] 0 0 0 w (hid (by omega)) ht hX (by simp) (by simp) (by simp) (by simp) (Sl.nil _ _ _ _) (Sl.nil _ _ _ _)).mono ?_;rintro e w' ⟨h1,ao,L,cap,h2,h3,h4,h5,h6⟩;exact⟨h1,ao,L,cap,h2,h3,Nat.le_trans h4 (Nat.le_trans (Nat.pow_le_pow_right (by omega) (show N<=20 by omega)) (by decide)),hid (fun x hx=>⟨by have:=h5.out x hx;omega,by have:=h5.out x hx;omega⟩),h6⟩
set_option maxRecDepth 100000 in
theorem b0j (X:Nat->Bool) (tb:Nat) (n h:Int) (w:World) (ht:a0z X tb w) (hX:∀k,X k=true->k<w.heap.size) (hn1: -1000<=n) (hn2:n<=20) (hh1: -1000<=h) (hh2:h<=1000):
  Calls Tryz.prog 18 #[.pointer (some ⟨tb,0,none⟩), .int .i64 n, .int .i64 h] w (b3F X tb w):=by
 have hsub:=a1n ht.1;go_enter Tryz.func18,Tryz.ntmps18
 go_upto_region 1 with(fail)
 go_cut [7] (fun s wx=>∃(ao:Option Addr) (L:List a2X) (cap:Nat),s= .slice ao L.length cap/\ExtX (tbm tb) w wx/\L.length<=cap/\L.length<=1048576/\Hid (∀x∈L,x.1.length<=20/\x.2.length<=20)/\a0z (un X ao) tb wx/\OL a0G 2 X w.heap.size 103 wx ao cap L)
 case first=>
  go_wp2_with (first|(go_at_call 65;refine(b1T X tb _ _ w ht hX (by omega) (by omega) (by omega) (by omega)).mono ?_;rintro e w1 ⟨hE1,ao,L,cap,rfl,hr⟩))
  all_goals go_meet
  all_goals case rel=>exact⟨ao,L,cap,rfl,hE1,hr⟩
 case rest=>
  obtain⟨ao,L,cap,rfl,hE1,hc,hl,hb,ht1,hO⟩:=hcut;have hs1:=hO.sl a0G.elem;have hh:=hO.hd;have hb':Hid (∀x∈L,x.1.length<=2000/\x.2.length<=2000):=hid fun x hx=>⟨by have:=hb.out x hx;omega,by have:=hb.out x hx;omega⟩;by_cases hl0:0<L.length
  ·have d0:((L.length:Int)==0)=false:=a2f (by omega)
   go_wp2_with fail
   refine(a0R (un X ao) tb _ wc ht1 (by omega)).mono ?_;rintro e w2 ⟨hE2,ht2,m,rfl,hm⟩;have hml:m<L.length:=by omega
   go_wp2_with fail
   refine(a0R (un X ao) tb 10 w2 ht2 (by omega)).mono ?_;rintro e w3 ⟨hE3,ht3,m2,rfl,hm2⟩;have hm10:m2<10:=by omega
   have hE03:=(hE1.trans hE2).trans hE3;have hO3:=(hO.ext a0G.elem hE2 (fun k _ hk=>hsub k hk) (fun _ _ h=>h)).ext a0G.elem hE3 (fun k _ hk=>hsub k hk) (fun _ _ h=>h);have hX3:∀k,X k=true->k<w3.heap.size:=fun k hk=>Nat.lt_of_lt_of_le (hX k hk) hE03.size;have hXu:=hO3.unX hX3;have hs3:=hO3.sl a0G.elem;clear hO hs1 hE1 hE2 hE3 ht1 ht2 hm hm2;have ht3':=ht3.unX ht.1;rcases(by omega:m2<5\/m2=5\/m2=6\/m2=7\/m2=8\/m2=9)with h5|rfl|rfl|rfl|rfl|rfl
   ·go_wp2_with fail
    go_ret
    exact⟨hE03,ht3',ao,L,cap,rfl,hc,by omega,hb',hs3⟩
   ·by_cases hmi:m+1<L.length
    ·have f1:∀W,(Instr.sliceAt 35 (.slice ao L.length cap) none (some (.int .i64 (m:Int))) (some (.int .i64 (m:Int)))).run Tryz.prog W= .ok (.slice ao m m) W:=a3T a1t L.length cap m .i64 .i64 (by omega)
     have f2:∀W,(Instr.sliceAt 35 (.slice ao L.length cap) (some (.int .i64 ((m:Int)+1))) none none).run Tryz.prog W= .ok (.slice (a1T ao (m+1) cap 2) (L.length - (m+1)) (cap - (m+1))) W:=a3X a1t L.length cap .i64 (m+1) (by omega) hc;have ew:IntKind.i64.wrap ((m:Int)+1)=(m:Int)+1:=IntWalk.i64_in _ (by omega);have hD:ExtX (tbm tb) w w3.drew:=hE03.drew;have hXd:∀k,X k=true->k<w3.drew.heap.size:=hX3;have hOd:Sl a0G 2 (mk X w3.drew) ao L:=hs3;have htd:a0z X tb w3.drew:=ht3';go_wp2_with fail
     go_still_tail 8,(by kernel_rfl)
     change wpList _ _ _ _ _ w3.drew
     generalize w3.drew=w4 at hD hXd hOd htd |-;clear f1 f2 ew;have hsa:=hOd.take m;have hsb:=hOd.sub (m+1) L.length cap (by omega) hc (Nat.le_refl _);rw[List.take_length]at hsb;have hm1:(L.take m).length=m:=by simp;omega
     go_wp2_with (at_builtin;refine a5O (l:=L.take m) a1t rfl a0G.elem hXd (L.drop (m+1)) rfl rfl hm1.symm (by simp) (by simp;omega) (by omega) hsa hsb (by simp;omega) (by simp;omega) ?_;intro ao5 c5 w5 hO5 hE5)
     have hlen:m+(L.length - (m+1))=(L.take m++L.drop (m+1)).length:=by simp;omega
     have hbx:Hid (∀x∈L.take m++L.drop (m+1),x.1.length<=2000/\x.2.length<=2000):=a7h (hid fun x hx=>hb'.out x (List.mem_of_mem_take hx)) (hid fun x hx=>hb'.out x (List.mem_of_mem_drop hx));have hcc:=hO5.lenCap;go_ret
     exact⟨hD.trans (ExtX.of hE5),htd.ext hE5,ao5,_,c5,a0X hlen,hcc,by rw[<-hlen];omega,hbx,hO5.sl a0G.elem⟩
    ·have f1:∀W,(Instr.sliceAt 35 (.slice ao L.length cap) none (some (.int .i64 (m:Int))) (some (.int .i64 (m:Int)))).run Tryz.prog W= .ok (.slice ao m m) W:=a3T a1t L.length cap m .i64 .i64 (by omega)
     have f2:∀W,(Instr.sliceAt 35 (.slice ao L.length cap) (some (.int .i64 ((m:Int)+1))) none none).run Tryz.prog W= .ok (.slice (a1T ao (m+1) cap 2) (L.length - (m+1)) (cap - (m+1))) W:=a3X a1t L.length cap .i64 (m+1) (by omega) hc;have ew:IntKind.i64.wrap ((m:Int)+1)=(m:Int)+1:=IntWalk.i64_in _ (by omega);have hD:ExtX (tbm tb) w w3.drew:=hE03.drew;have hOd:Sl a0G 2 (mk X w3.drew) ao L:=hs3;have htd:a0z X tb w3.drew:=ht3';have hmi':=hid hmi;clear hmi;go_wp2_with fail
     go_still_tail 8,(by kernel_rfl)
     change wpList _ _ _ _ _ w3.drew
     generalize w3.drew=w4 at hD hOd htd |-;clear f1 f2 ew;have hmi:=hmi'.out;have hsa:=hOd.take m;have hm1:(L.take m).length=m:=by simp;omega
     have hbx:Hid (∀x∈L.take m,x.1.length<=2000/\x.2.length<=2000):=hid fun x hx=>hb'.out x (List.mem_of_mem_take hx);obtain⟨ti,hinfo,_⟩:=info_parts a1t.info;go_wp2_with (at_builtin;refine a4S a1t.und hinfo rfl rfl (by omega) (Nat.le_refl _) ?_)
     go_ret
     exact⟨hD,htd,ao,L.take m,m,a0X hm1.symm,by rw[hm1];exact Nat.le_refl _,by rw[hm1];omega,hbx,hsa⟩
   ·have hsR:=hO3.slR a0G.elem
    obtain⟨x,hx⟩:∃x,L[m]=x:=⟨_,rfl⟩;have hx':=hid hx;have hxb:=hb.out x (hx▸List.getElem_mem hml);clear hx;have hbase:=hE03.size;go_wp2_with (first|(first|(with_reducible refine a0o a0S (by omega) (by assumption) ?_)|(with_reducible refine a1E a1t (by omega) (by assumption) ?_))|((with_reducible show wpList _ _ _ (⟨_, .load _ _,_,_,_,_⟩::_) _ _);refine a0M a3D m hsR hml rfl (by omega) (fun h u y hu=>a0G.agg _ _ _ hu) ?_;rintro u hu;rw[hx'.out]at hu;obtain⟨a1,c1,a2,c2,rfl,hc1,hc2,hs2,hs4⟩:=hu)|(at_builtin;refine a1O a1t rfl a0G.elem hbase hX3 rfl rfl hO3 (.agg #[.slice a1 x.1.length c1, .slice a2 x.2.length c2]) x rfl ⟨a1,c1,a2,c2,rfl,hc1,hc2,hs2,hs4⟩ (by omega) (by omega) ?_;intro ao5 c5 w5 hO5 hE5 hor))
    have hcc:=hO5.lenCap;have ht5:=ht3.unstep (hO3.not_ob ht.1) hE5 hor;have hE05:=hE03.own hO3 (Nat.le_refl _) hE5;go_ret
    exact⟨hE05,ht5.unX ht.1,ao5,L++[x],c5,a0X (by simp),hcc,by simp;omega,a7h hb' (hid fun y hy=>by rw[List.mem_singleton.1 hy];exact⟨by omega,by omega⟩),hO5.sl a0G.elem⟩
   ·go_wp2_with fail
    refine(a9z (un X ao) tb n w3 ht3 hXu (by omega) (by omega)).mono ?_;rintro e w4 ⟨hE4,so,l,sc,rfl,hsc,hsl,ht4,hOl⟩;have hO4:=hO3.ext a0G.elem hE4 (fun k _ hk=>hsub k hk) (fun _ _ h=>h);have hx:=hb.out L[m] (List.getElem_mem hml);obtain⟨⟨v0,hcell⟩,hfro,hs5,hE5⟩:=hO4.field a0G.elem m 0 hml (by omega) (.slice so l.length sc) (l,L[m].2) (a7T _ _ so l sc (hOl.sl (a0i.elem _)) hsc);have hbx:Hid (∀x∈L.set m (l,L[m].2),x.1.length<=2000/\x.2.length<=2000):=a8L hb' ⟨by simp;omega,by simp;omega⟩;have ht5:=((ht4.unX (a0p ht.1)).unstep (hO4.not_ob ht.1) hE5 (.inl rfl)).unX ht.1;have hE05:=(hE03.trans hE4).own hO4 (Nat.le_refl _) hE5;generalize (l,L[m].2)=y at hs5 hbx;clear hx;go_wp2_with (first|(first|(with_reducible refine a0o a0S (by omega) (by assumption) ?_)|(with_reducible refine a1E a1t (by omega) (by assumption) ?_))|((with_reducible show wpList _ _ _ (⟨_, .store _ _ _,_,_,_,_⟩::_) _ _);refine a7b b1R rfl rfl rfl rfl hcell hfro ?_))
    go_ret
    exact⟨hE05,ht5,ao,L.set m y,cap,a0X (by simp),by simpa using hc,by simp;omega,hbx,hs5⟩
   ·go_wp2_with fail
    refine(a9z (un X ao) tb n w3 ht3 hXu (by omega) (by omega)).mono ?_;rintro e w4 ⟨hE4,so,l,sc,rfl,hsc,hsl,ht4,hOl⟩;have hO4:=hO3.ext a0G.elem hE4 (fun k _ hk=>hsub k hk) (fun _ _ h=>h);have hx:=hb.out L[m] (List.getElem_mem hml);obtain⟨⟨v0,hcell⟩,hfro,hs5,hE5⟩:=hO4.field a0G.elem m 1 hml (by omega) (.slice so l.length sc) (L[m].1,l) (b1S _ _ so l sc (hOl.sl (a0i.elem _)) hsc);have hbx:Hid (∀x∈L.set m (L[m].1,l),x.1.length<=2000/\x.2.length<=2000):=a8L hb' ⟨by simp;omega,by simp;omega⟩;have ht5:=((ht4.unX (a0p ht.1)).unstep (hO4.not_ob ht.1) hE5 (.inl rfl)).unX ht.1;have hE05:=(hE03.trans hE4).own hO4 (Nat.le_refl _) hE5;generalize (L[m].1,l)=y at hs5 hbx;clear hx;go_wp2_with (first|(first|(with_reducible refine a0o a0S (by omega) (by assumption) ?_)|(with_reducible refine a1E a1t (by omega) (by assumption) ?_))|((with_reducible show wpList _ _ _ (⟨_, .store _ _ _,_,_,_,_⟩::_) _ _);refine a7b b1R rfl rfl rfl rfl hcell hfro ?_))
    go_ret
    exact⟨hE05,ht5,ao,L.set m y,cap,a0X (by simp),by simpa using hc,by simp;omega,hbx,hs5⟩
   ·have hx:=hb.out L[m] (List.getElem_mem hml)
    obtain⟨⟨v0,hcell⟩,hfro,hs5,hE5⟩:=hO3.field a0G.elem m 0 hml (by omega) (.slice none 0 0) ([],L[m].2) (a7T _ _ none [] 0 (Sl.nil _ _ _ _) (by simp));have hbx:Hid (∀x∈L.set m ([],L[m].2),x.1.length<=2000/\x.2.length<=2000):=a8L hb' ⟨by simp,by simp;omega⟩;have ht5:=(ht3.unstep (hO3.not_ob ht.1) hE5 (.inl rfl)).unX ht.1;have hE05:=hE03.own hO3 (Nat.le_refl _) hE5;generalize (([]:List Int),L[m].2)=y at hs5 hbx;clear hx;go_wp2_with (first|(first|(with_reducible refine a0o a0S (by omega) (by assumption) ?_)|(with_reducible refine a1E a1t (by omega) (by assumption) ?_))|((with_reducible show wpList _ _ _ (⟨_, .store _ _ _,_,_,_,_⟩::_) _ _);refine a7b b1R rfl rfl rfl rfl hcell hfro ?_))
    go_ret
    exact⟨hE05,ht5,ao,L.set m y,cap,a0X (by simp),by simpa using hc,by simp;omega,hbx,hs5⟩
  ·have d0:((L.length:Int)==0)=true:=a8d (by omega)
   go_wp2_with fail
   go_ret
   exact⟨hE1,ht1.unX ht.1,ao,L,cap,rfl,hc,by omega,hb',hs1⟩
theorem a4Y (X:Nat->Bool) (w:World) (I1 O1 I2 O2:List Int) (a1 a2 a3 a4:Option Addr) (c1 c2 c3 c4 n1 n2 n3 n4:Nat) (e:TypeId) (hX:∀k,X k=true->k<w.heap.size) (hn1:n1=I1.length) (hn2:n2=O1.length) (hn3:n3=I2.length) (hn4:n4=O2.length) (h1:I1.length<=c1) (h2:O1.length<=c2) (h3:I2.length<=c3) (h4:O2.length<=c4)
  (s1:Sl (a0i .i64) 1 (mk X w) a1 I1) (s2:Sl (a0i .i64) 1 (mk X w) a2 O1) (s3:Sl (a0i .i64) 1 (mk X w) a3 I2) (s4:Sl (a0i .i64) 1 (mk X w) a4 O2):
  OL a0G 2 X w.heap.size e (w.alloc (.cells #[.slice a1 n1 c1, .slice a2 n2 c2, .slice a3 n3 c3, .slice a4 n4 c4] e)) (some ⟨w.heap.size,0,none⟩) 2 [(I1,O1),(I2,O2)]:=by
 subst hn1;subst hn2;subst hn3;subst hn4;exact OL.lit a0G.elem hX (Nat.le_refl _) [.agg #[.slice a1 I1.length c1, .slice a2 O1.length c2], .agg #[.slice a3 I2.length c3, .slice a4 O2.length c4]] [(I1,O1),(I2,O2)] _ (by simp[a0n,Value.cells]) rfl
  (fun i hi _=>by
           match i,hi with
           |0,_=>exact⟨a1,c1,a2,c2,rfl,h1,h2,s1,s2⟩
           |1,_=>exact⟨a3,c3,a4,c4,rfl,h3,h4,s3,s4⟩) (by simp)
theorem b7U:Hid (a1l 2 1 [([0],[]),([],[0])]=true):=hid (by decide)
theorem b7V:Hid (a1l 2 1 [([0],[]),([1],[0])]=true):=hid (by decide)
theorem b7W:Hid (a1l 2 1 [([0],[]),([1],[])]=false):=hid (by decide)
theorem b5B (w:World):∀k,noY k=true->k<w.heap.size:=fun k hk=>by simp[noY]at hk
theorem a8M (w:World) (x:Int) (t:TypeId):∃W,w.alloc (.cells #[.int .i64 x] t)=W/\Sl (a0i .i64) 1 (mk noY W) (some ⟨w.heap.size,0,none⟩) [x]/\W.heap.size=w.heap.size+1/\Ext w W:=
 ⟨_,rfl,(a9x noY w [x] t _ rfl (b5B w) (by simp)).sl (a0i.elem _),by simp,(ExtX.refl _).alloc _⟩
theorem a7U (w:World):Calls Tryz.prog 16 #[] w (a8G w true):=by
 go_enter Tryz.func16,Tryz.ntmps16
 go_wp2_with fail
 obtain⟨w1,e1,s1,z1,x1⟩:=a8M w 0 3;rw[e1];obtain⟨w2,e2,s2,z2,x2⟩:=a8M w1 0 3;rw[e2];have c1:=a4Y noY w2 [0] [] [] [0] (some ⟨w.heap.size,0,none⟩) none none (some ⟨w.heap.size+1,0,none⟩) 1 0 0 1 1 0 0 1 103 (b5B _) rfl rfl rfl rfl (by simp) (by simp) (by simp) (by simp) (s1.mono (a0i.mono _) (a0h x2)) (Sl.nil _ _ _ _) (Sl.nil _ _ _ _) (z1▸s2);have hE:Ext w w2:=x1.trans x2;have c2:=c1.sl a0G.elem;rw[show w2.heap.size=w.heap.size+1+1 by omega]at c2;have hE3:=hE.alloc (.cells #[.slice (some ⟨w.heap.size,0,none⟩) 1 1, .slice none 0 0, .slice none 0 0, .slice (some ⟨w.heap.size+1,0,none⟩) 1 1] 103);refine(a4E noY _ _ 2 2 1 _ c2 (by simp) (hid (by simp)) (b5B _)).mono ?_;rw[b7U.out];rintro e w3 ⟨hE4,rfl⟩;have hE5:=hE3.trans hE4;clear c1 c2 s1 s2 z1 z2 x1 x2 hE hE3 hE4;clear e1 e2;go_wp2_with fail
 obtain⟨w4,e1,s1,z1,x1⟩:=a8M w3 0 3;rw[e1];obtain⟨w5,e2,s2,z2,x2⟩:=a8M w4 1 3;rw[e2];obtain⟨w6,e3,s3,z3,x3⟩:=a8M w5 0 3;rw[e3];have c1:=a4Y noY w6 [0] [] [1] [0] (some ⟨w3.heap.size,0,none⟩) none (some ⟨w3.heap.size+1,0,none⟩) (some ⟨w3.heap.size+1+1,0,none⟩) 1 0 1 1 1 0 1 1 103 (b5B _) rfl rfl rfl rfl (by simp) (by simp) (by simp) (by simp) (s1.mono (a0i.mono _) (a0h (x2.trans x3))) (Sl.nil _ _ _ _) ((z1▸s2).mono (a0i.mono _) (a0h x3)) (by have:=s3;rw[z2,z1]at this;exact this);have hE:=(x1.trans x2).trans x3;have c2:=c1.sl a0G.elem;rw[show w6.heap.size=w3.heap.size+1+1+1 by omega]at c2;have hE3:=hE.alloc (.cells #[.slice (some ⟨w3.heap.size,0,none⟩) 1 1, .slice none 0 0, .slice (some ⟨w3.heap.size+1,0,none⟩) 1 1, .slice (some ⟨w3.heap.size+1+1,0,none⟩) 1 1] 103);refine(a4E noY _ _ 2 2 1 _ c2 (by simp) (hid (by simp)) (b5B _)).mono ?_;rw[b7V.out];rintro e w7 ⟨hE4,rfl⟩;have hE7:=hE5.trans (hE3.trans hE4);clear c1 c2 s1 s2 s3 z1 z2 z3 x1 x2 x3 hE hE3 hE4 hE5;clear e1 e2 e3;go_wp2_with fail
 obtain⟨w8,e1,s1,z1,x1⟩:=a8M w7 0 3;rw[e1];obtain⟨w9,e2,s2,z2,x2⟩:=a8M w8 1 3;rw[e2];have c1:=a4Y noY w9 [0] [] [1] [] (some ⟨w7.heap.size,0,none⟩) none (some ⟨w7.heap.size+1,0,none⟩) none 1 0 1 0 1 0 1 0 103 (b5B _) rfl rfl rfl rfl (by simp) (by simp) (by simp) (by simp) (s1.mono (a0i.mono _) (a0h x2)) (Sl.nil _ _ _ _) (z1▸s2) (Sl.nil _ _ _ _);have hE:=x1.trans x2;have c2:=c1.sl a0G.elem;rw[show w9.heap.size=w7.heap.size+1+1 by omega]at c2;have hE3:=hE.alloc (.cells #[.slice (some ⟨w7.heap.size,0,none⟩) 1 1, .slice none 0 0, .slice (some ⟨w7.heap.size+1,0,none⟩) 1 1, .slice none 0 0] 103);refine(a4E noY _ _ 2 2 1 _ c2 (by simp) (hid (by simp)) (b5B _)).mono ?_;rw[b7W.out];rintro e wa ⟨hE4,rfl⟩;have hE8:=hE7.trans (hE3.trans hE4);clear c1 c2 s1 s2 z1 z2 x1 x2 hE hE3 hE4 hE7;clear e1 e2;go_wp2_with fail
 go_ret
 exact⟨hE8,rfl⟩
def b5C (X:Nat->Bool) (tb:Nat) (R:Mem->Value->Rat->Prop) (k:Nat) (w:World) (e:Ending) (w':World):Prop:=ExtX (tbm tb) w w'/\a0z X tb w'/\∃u q,e= .returned u/\R (mk X w') u q/\hq q<=k
theorem a0z.box {X:Nat->Bool} {tb nb:Nat} {w W:World} (h:a0z X tb w) (hE:Ext w W):a0z (a0f X w.heap.size nb) tb W:=by
 have hlt:=h.lt;obtain⟨hX,lo,l,cap,at_,h1,h2,h3,h4⟩:=h;exact⟨a5I hX,lo,l,cap,at_,by rw[hE.block tb hlt rfl];exact h1,h2,h3,h4.mono (a0i.mono _) (a0m hE)⟩
theorem a0z.unbox {X:Nat->Bool} {tb b nb:Nat} {w:World} (h:a0z (a0f X b nb) tb w) (hX:X tb=true):a0z X tb w:=by
 obtain⟨_,lo,l,cap,at_,h1,h2,h3,h4⟩:=h;exact⟨hX,lo,l,cap,at_,h1,h2,h3,h4.mono (a0i.mono _) a0l⟩
theorem a0z.store {X:Nat->Bool} {tb b nb:Nat} {w w':World} (h:a0z (a0f X b nb) tb w) (hE:ExtX (ob (some ⟨b,0,Option.none⟩)) w w') (hb:0<nb) (ht:tb≠b):a0z (a0f X b nb) tb w':=
 h.extY hE (fun k hk=>by
  have:k=b:=by
   have:=hk;simp[ob]at this;omega
  subst this;simp[a0f];omega) (a0c ht)
theorem _root_.Go.Rep.ExtX.tbox {tb b:Nat} {w w4 w7:World} (h:ExtX (tbm tb) w w4) (hE:ExtX (ob (some ⟨b,0,none⟩)) w4 w7) (hb:w.heap.size<=b):ExtX (tbm tb) w w7:=h.then_ hE (fun i hi _=>a0c (by omega))
theorem b6F {n:Nat} (h:n<4294967296):lg n<=1:=by
 by_cases h0:n=0
 ·subst h0;simp[a5x]
 ·rw[a2P (by omega) h];exact Nat.le_refl _
theorem lgI {a:Int} (h1: -100000<=a) (h2:a<=100000):lg a.natAbs<=1:=b6F (by omega)
theorem b1U {a k:Int} (h1: -100000<=a) (h2:a<=100000) (h3: -100000<=k) (h4:k<=100000):hq ((a:Rat)/(k:Rat))<=2:=by
 have:=hq_div (a:Rat) (k:Rat);have:=a5z a 1 (lgI h1 h2) (by omega);have:=a5z k 1 (lgI h3 h4) (by omega);omega
set_option maxRecDepth 100000 in
theorem a9G (X:Nat->Bool) (tb:Nat) (w:World) (ht:a0z X tb w) (hX:HX X w):Calls Tryz.prog 54 #[.pointer (some ⟨tb,0,none⟩)] w (b5C X tb QC 2 w):=by
 have htb:=ht.lt;have htX:=ht.1;obtain⟨W,hW,hE,b0,hz⟩:=a1m w #[.bool false, .slice none 0 0, .slice none 0 0] 32;have hXW:HX (a0f X w.heap.size 1) W:=hX.boxes hz;have htW:a0z (a0f X w.heap.size 1) tb W:=ht.box hE;obtain⟨b,hb⟩:∃b,w.heap.size=b:=⟨_,rfl⟩;have hbw:w.heap.size<=b:=by omega
 have htb':tb≠b:=by omega
 have hbt:b≠tb:=by omega
 rw[hb]at b0 hz hXW htW;have hEb:ExtX (tbm tb) w W:=ExtX.of hE;clear hE;go_enter Tryz.func54,Tryz.ntmps54
 go_wp2_with fail
 refine(a0R (a0f X b 1) tb 8 _ htW (by omega)).mono ?_;rintro e w1 ⟨hE1,ht1,m,rfl,hm⟩;have b1:=b0.ext hE1 (a2T hbt);have hX1:=hXW.ext hE1;have hF1:=hEb.trans hE1;clear b0 hXW htW hEb hE1;by_cases h6:m=6
 ·subst h6
  go_wp2_with fail
  refine(a0R (a0f X b 1) tb 13 _ ht1 (by omega)).mono ?_;rintro e w2 ⟨hE2,ht2,m2,rfl,hm2⟩;have hm2':m2<13:=by omega
  have b2:=b1.ext hE2 (a2T hbt);have hX2:=hX1.ext hE2;have hF2:=hF1.trans hE2;go_wp2_with fail
  refine(a0R (a0f X b 1) tb 6 _ ht2 (by omega)).mono ?_;rintro e w3 ⟨hE3,ht3,m3,rfl,hm3⟩;have hm3':m3<6:=by omega
  have b3:=b2.ext hE3 (a2T hbt);have hX3:=hX2.ext hE3;have hF3:=hF2.trans hE3;go_wp2_with fail
  refine(a6s (a0f X b 1) w3 _ _ hX3 (by omega) (by omega) (by omega) (by omega) (by omega) (Nat.le_trans (lgI (by omega) (by omega)) (by omega)) (Nat.le_trans (lgI (by omega) (by omega)) (by omega))).mono ?_;rintro e w4 ⟨hE4,u4,rfl,hu4⟩;obtain⟨s6,a6,n6,c6,d6,k6,e6,rfl⟩:=hu4.shape;have b4:=b3.ext0 hE4;have ht4:=ht3.ext hE4;have hF4:=hF3.trans (ExtX.of hE4);go_wp2_with ((with_reducible show wpList _ _ _ (⟨_, .store _ _ _,_,_,_,_⟩::_) _ _);refine a0d a0s rfl rfl b4 rfl rfl (a2n _ _ _ _ _ _ _) ?_;intro w7 r1 r2)
  have h7:=QC.mono _ _ _ _ a0l (QC.mono _ _ _ _ (a0g r2 (by omega) (by omega)) hu4);exact bodyPost_ret (a0e rfl rfl a0s r1 rfl) rfl ⟨hF4.tbox r2 hbw,(ht4.store r2 (by omega) htb').unbox htX,_,_,rfl,h7,b1U (by omega) (by omega) (by omega) (by omega)⟩
 ·by_cases h7:m=7
  ·subst h7
   go_wp2_with fail
   refine(a0R (a0f X b 1) tb 2001 _ ht1 (by omega)).mono ?_;rintro e w2 ⟨hE2,ht2,m2,rfl,hm2⟩;have hm2':m2<2001:=by omega
   have b2:=b1.ext hE2 (a2T hbt);have hX2:=hX1.ext hE2;have hF2:=hF1.trans hE2;go_wp2_with fail
   refine(a3I (a0f X b 1) tb [1,1,7] _ _ _ w2 1 7 ht2 hX2 rfl rfl (by simp) (by simp) (hid (by simp))).mono ?_;rintro e w3 ⟨hE3,ht3,m3,rfl,hm3,hm3'⟩;have b3:=b2.ext hE3 (a2T hbt);have hX3:=hX2.ext hE3;have hF3:=hF2.trans hE3;go_wp2_with fail
   refine(a6s (a0f X b 1) w3 _ _ hX3 (by omega) (by omega) (by omega) (by omega) (by omega) (Nat.le_trans (lgI (by omega) (by omega)) (by omega)) (Nat.le_trans (lgI (by omega) (by omega)) (by omega))).mono ?_;rintro e w4 ⟨hE4,u4,rfl,hu4⟩;obtain⟨s6,a6,n6,c6,d6,k6,e6,rfl⟩:=hu4.shape;have b4:=b3.ext0 hE4;have ht4:=ht3.ext hE4;have hF4:=hF3.trans (ExtX.of hE4);go_wp2_with ((with_reducible show wpList _ _ _ (⟨_, .store _ _ _,_,_,_,_⟩::_) _ _);refine a0d a0s rfl rfl b4 rfl rfl (a2n _ _ _ _ _ _ _) ?_;intro w7 r1 r2)
   have h7:=QC.mono _ _ _ _ a0l (QC.mono _ _ _ _ (a0g r2 (by omega) (by omega)) hu4);exact bodyPost_ret (a0e rfl rfl a0s r1 rfl) rfl ⟨hF4.tbox r2 hbw,(ht4.store r2 (by omega) htb').unbox htX,_,_,rfl,h7,b1U (by omega) (by omega) (by omega) (by omega)⟩
  ·have t6:((m:Int)==6)=false:=a2f (by omega)
   have t7:((m:Int)==7)=false:=a2f (by omega);go_wp2_with fail
   refine(a0R (a0f X b 1) tb 9 _ ht1 (by omega)).mono ?_;rintro e w2 ⟨hE2,ht2,m2,rfl,hm2⟩;have hm2':m2<9:=by omega
   have b2:=b1.ext hE2 (a2T hbt);have hX2:=hX1.ext hE2;have hF2:=hF1.trans hE2;go_wp2_with fail
   refine(a7B (a0f X b 1) w2 _ hX2 (by omega) (by omega)).mono ?_;rintro e w4 ⟨hE4,u4,rfl,hu4⟩;obtain⟨s6,a6,n6,c6,d6,k6,e6,rfl⟩:=hu4.shape;have b4:=b2.ext0 hE4;have ht4:=ht2.ext hE4;have hF4:=hF2.trans (ExtX.of hE4);go_wp2_with ((with_reducible show wpList _ _ _ (⟨_, .store _ _ _,_,_,_,_⟩::_) _ _);refine a0d a0s rfl rfl b4 rfl rfl (a2n _ _ _ _ _ _ _) ?_;intro w7 r1 r2)
   have h7:=QC.mono _ _ _ _ a0l (QC.mono _ _ _ _ (a0g r2 (by omega) (by omega)) hu4);exact bodyPost_ret (a0e rfl rfl a0s r1 rfl) rfl ⟨hF4.tbox r2 hbw,(ht4.store r2 (by omega) htb').unbox htX,_,_,rfl,h7,Nat.le_trans (a5z _ 1 (lgI (by omega) (by omega)) (by omega)) (by omega)⟩
def b1V (X:Nat->Bool) (tb:Nat) (R:Mem->Value->Rat->Prop) (k n:Nat) (w:World) (e:Ending) (w':World):Prop:=ExtX (tbm tb) w w'/\∃(ao:Option Addr) (l:List Rat) (cap:Nat),e= .returned (.slice ao n cap)/\l.length=n/\n<=cap/\BR k l/\a0z (un X ao) tb w'/\OL R 3 X w.heap.size 32 w' ao cap l
theorem a5s (X:Nat->Bool) (tb n:Nat) (w:World) (ht:a0z X tb w) (hX:HX X w) (hn:n<=1000):
  Calls Tryz.prog 42 #[.pointer (some ⟨tb,0,none⟩), .int .i64 (n:Int)] w (b1V X tb QC 2 n w):=by
 have hsub:=a1n ht.1;go_enter Tryz.func42,Tryz.ntmps42
 go_wp2_with fail
 go_loopw [5,6] (fun s c wr=>∃(i:Nat) (oo:Option Addr) (co:Nat) (l:List Rat),c= .int .i64 i/\s= .slice oo i co/\l.length=i/\i<=n/\BR 2 l/\OL QC 3 X w.heap.size 32 wr oo co l/\a0z (un X oo) tb wr/\ExtX (tbm tb) w wr) (fun _ c _=>n - (intOf c).toNat)
 case atStart=>exact⟨0,none,0,[],rfl,rfl,rfl,Nat.zero_le _,fun x hx=>by simp at hx,OL.nil _ _ _ _ _ _,ht.none,ExtX.refl _⟩
 case round=>
  obtain⟨i,oo,co,l,rfl,rfl,hli,hin,hB,hO,htr,hE⟩:=hrel;have hXr:HX X wr:=hX.ext hE;by_cases hlt:i<n
  ·have hXu:HX (un X oo) wr:=hO.unX hXr
   have hln:=hid hli;clear hli;go_wp2_with fail
   refine(a9G (un X oo) tb _ htr hXu).mono ?_;rintro e w2 ⟨hE2,ht2,u6,q,rfl,hu6,hq6⟩;obtain⟨s6,a6,n6,c6,d6,k6,e6,rfl⟩:=hu6.shape;have hO2:=hO.ext QC.elem hE2 (fun k _ hk=>hsub k hk) (fun _ _ h=>h);have hX2:HX X w2:=hXr.ext hE2;have hE3:=hE.trans hE2;have hbase:=hE3.size;clear hO htr hE hE2 hXr hXu;go_wp2_with (at_builtin;refine a0H (l:=l) a1c rfl QC.elem (by omega) hX2 i hln.out rfl rfl hO2 (.agg #[.bool s6, .slice a6 n6 c6, .slice d6 k6 e6]) q rfl hu6 (by omega) (by omega) ?_;intro oo2 co2 w7 hO7 hE7 hor)
   have hE8:=hE3.own hO2 (Nat.le_refl _) hE7;have ht3:=ht2.unstep (hO2.not_ob ht.1) hE7 hor;have hB2:BR 2 (l++[q]):=fun x hx=>by
    rcases List.mem_append.1 hx with h|h
    ·exact hB x h
    ·rw[List.mem_singleton.1 h];exact hq6
   have hl2:(l++[q]).length=i+1:=by rw[List.length_append,hln.out];rfl
   go_roundw
   case rel=>exact⟨i+1,oo2,co2,_,by go_num,by go_num,hl2,by omega,hB2,hO7,ht3,hE8⟩
   case measure=>simp[intOf];omega
  ·have hil:i=n:=by omega
   subst hil;have hc:=hO.lenCap;rw[hli]at hc;go_wp2_with fail
   go_ret
   exact⟨hE,oo,l,co,rfl,hli,hc,hB,htr,hO⟩
theorem a8N (n:Nat) (h:n<100):Dig [n]:=fun x hx=>by
 have:x=n:=by simpa using hx
 subst this;have:=a1a;omega
theorem a0b.lit1 (X:Nat->Bool) (w:World) (n:Nat) (e:TypeId) (hX:HX X w):Sl (a0b .u32) 1 (mk X (w.alloc (.cells #[.int .u32 (n:Int)] e))) (some ⟨w.heap.size,0,none⟩) [n]:=
 (OL.lit (a0b.elem .u32) hX (Nat.le_refl _) [.int .u32 (n:Int)] [n] _ (by simp[a0n,Value.cells]) rfl (fun i hi _=>by
  have:i=0:=by simpa using hi
  subst this;rfl) (by simp)).sl (a0b.elem _)
theorem b3G {h:Mem} {s:Bool} {ma da:Option Addr} {mc dc:Nat} {m d:List Nat} (hm:Sl (a0b .u32) 1 h ma m) (hd:Sl (a0b .u32) 1 h da d) (hmc:m.length<=mc) (hdc:d.length<=dc) (hmd:Dig m) (hdd:Dig d) (hml:m.length<=3) (hdl:d.length<=3):
  ∃q,QV h (.agg #[.bool s, .slice ma m.length mc, .slice da d.length dc]) q/\hq q<=3:=
 ⟨_,⟨s,ma,mc,m,da,dc,d,rfl,hmc,hdc,hmd,hdd,by omega,by omega,hm,hd,rfl⟩,b0B s m d 3 hmd hdd hml hdl (by omega)⟩
set_option maxRecDepth 100000 in
set_option maxHeartbeats 1600000 in
theorem a9H (X:Nat->Bool) (tb:Nat) (w:World) (ht:a0z X tb w) (hX:HX X w):Calls Tryz.prog 19 #[.pointer (some ⟨tb,0,none⟩)] w (b5C X tb QV 3 w):=by
 have htb:=ht.lt;have htX:=ht.1;obtain⟨W,hW,hE,b0,hz⟩:=a1m w #[.bool false, .slice none 0 0, .slice none 0 0] 32;have hXW:HX (a0f X w.heap.size 1) W:=hX.boxes hz;have htW:a0z (a0f X w.heap.size 1) tb W:=ht.box hE;obtain⟨b,hb⟩:∃b,w.heap.size=b:=⟨_,rfl⟩;have hbw:w.heap.size<=b:=by omega
 have htb':tb≠b:=by omega
 have hbt:b≠tb:=by omega
 rw[hb]at b0 hz hXW htW;have hEb:ExtX (tbm tb) w W:=ExtX.of hE;clear hE;go_enter Tryz.func19,Tryz.ntmps19
 go_wp2_with fail
 refine(a9G (a0f X b 1) tb _ htW hXW).mono ?_;rintro e w1 ⟨hE1,ht1,u1,q,rfl,hu1,hq1⟩;obtain⟨s,ma,mc,m,da,dc,d,rfl,hmc,hdc,hcq,hms,hds⟩:=hu1;have hmd:Dig m:=hcq.1.2.1;have hdd:Dig d:=hcq.2.1;have hml:m.length<=2:=by have:=a0x q;rw[hcq.1.len];omega
 have hdl:d.length<=2:=by have:=b5O q;rw[hcq.2.len];omega
 have b1:=b0.ext hE1 (a2T hbt);have hX1:=hXW.ext hE1;have hF1:=hEb.trans hE1;have hz1:=hE1.size;have bx:=Bx.new w1 #[.bool false, .slice none 0 0, .slice none 0 0] 32;obtain⟨bo,hbo⟩:∃bo,w1.heap.size=bo:=⟨_,rfl⟩;rw[hbo]at bx;have hbnew:∀j,j<w1.heap.size->ob (some ⟨bo,0,none⟩) j=false:=fun j hj=>a0c (by omega);have hbob:b<bo:=by have:=b1.lt;omega
 have htbo:tb<bo:=by have:=ht1.lt;omega
 clear b0 hXW htW hEb hcq hz;go_wp2_with ((with_reducible show wpList _ _ _ (⟨_, .store 32 _ _,_,_,_,_⟩::_) _ _);refine a0d a0s rfl rfl bx rfl rfl (a2n _ _ _ _ _ _ _) ?_;intro w2 r1 r2)
 have hE2:Ext w1 w2:=ExtX.box ((ExtX.refl w1).alloc _) r2 (by omega);have ht2:a0z (un (a0f X b 1) (some ⟨bo,0,none⟩)) tb w2:=ht1.old hE2 hbnew;have hms2:=hms.old (oo:=some ⟨bo,0,none⟩) (a0b.mono _) hE2 hbnew;have hds2:=hds.old (oo:=some ⟨bo,0,none⟩) (a0b.mono _) hE2 hbnew;have hX2:HX (un (a0f X b 1) (some ⟨bo,0,none⟩)) w2:=fun k hk=>by
  by_cases hx:a0f X b 1 k=true
  ·exact hX1.ext hE2 k hx
  ·have:bo=k:=by simpa[un,hx,ob]using hk
   have:=r1.lt;omega
 have b2:=b1.ext0 hE2;have hF2:=hF1.trans (ExtX.of hE2);clear bx hms hds ht1 hE1 hE2 hX1 hF1;refine(a0R (un (a0f X b 1) (some ⟨bo,0,none⟩)) tb 24 _ ht2 (by omega)).mono ?_;rintro e w3 ⟨hE3,ht3,k,rfl,hk⟩;have hsub:=a1n ht3.1;have hms3:=hms2.mono (a0b.mono _) (a0w hE3 hsub);have hds3:=hds2.mono (a0b.mono _) (a0w hE3 hsub);have hX3:=hX2.ext hE3;have b3:=b2.ext hE3 (a2T hbt);have r3:=r1.ext hE3 (a2T (by omega));have hF3:=hF2.trans hE3;have hz3:=r3.lt;clear hms2 hds2 hX2 b2 r1 r2 hF2 ht2 hE3 hbnew hz1;have hdone:Hid (∀(wz w7:World) (s:Bool) (ma da:Option Addr) (mc dc:Nat) (m d:List Nat),ExtX (tbm tb) w wz->a0z (un (a0f X b 1) (some ⟨bo,0,none⟩)) tb wz->Sl (a0b .u32) 1 (mk (un (a0f X b 1) (some ⟨bo,0,none⟩)) wz) ma m->Sl (a0b .u32) 1 (mk (un (a0f X b 1) (some ⟨bo,0,none⟩)) wz) da d->m.length<=mc->d.length<=dc->Dig m->Dig d->m.length<=3->d.length<=3->ExtX (ob (some ⟨b,0,none⟩)) wz w7->b5C X tb QV 3 w (.returned (.agg #[.bool s, .slice ma m.length mc, .slice da d.length dc])) w7):=hid fun wz w7 s ma da mc dc m d g1 g2 g3 g4 g5 g6 g7 g8 g9 g10 g11=>by
  have hle:Le (mk (un (a0f X b 1) (some ⟨bo,0,none⟩)) wz) (mk X w7):=by
   refine a0N g11 (fun j hj hk=>?_) (fun j _ hk=>a0p (a5I hk));have:b=j:=by simpa[ob]using hk
   subst this;exact a0p (a3v (Nat.le_refl _) (by omega))
  obtain⟨q,p1,p2⟩:=b3G (s:=s) (g3.mono (a0b.mono _) hle) (g4.mono (a0b.mono _) hle) g5 g6 g7 g8 g9 g10;have t1:a0z X tb w7:=by
   have hlt:=g2.lt;obtain⟨_,lo,l,cap,at_,h1,h2,h3,h4⟩:=g2;exact⟨htX,lo,l,cap,at_,by rw[g11.block tb hlt (a0c htb')];exact h1,h2,h3,h4.mono (a0i.mono _) hle⟩
  exact⟨g1.tbox g11 hbw,t1,_,q,rfl,p1,p2⟩
 have hcase:k<20\/k=20\/k=21\/k=22\/k=23:=by omega
 rcases hcase with h|rfl|rfl|rfl|rfl
 ·have k0:=r3.cell 0 rfl
  have k1:=r3.cell 1 rfl;have k2:=r3.cell 2 rfl;have t20:((k:Int)==20)=false:=a2f (by omega);have t21:((k:Int)==21)=false:=a2f (by omega);have t22:((k:Int)==22)=false:=a2f (by omega);have t23:((k:Int)==23)=false:=a2f (by omega);go_wp2_with ((with_reducible show wpList _ _ _ (⟨_, .store 32 _ _,_,_,_,_⟩::_) _ _);refine a0d a0s rfl rfl b3 rfl rfl (a2n _ _ _ _ _ _ _) ?_;intro w7 r1 r2)
  exact bodyPost_ret (a0e rfl rfl a0s r1 rfl) rfl (hdone.out w3 w7 _ _ _ _ _ _ _ hF3 ht3 hms3 hds3 hmc hdc hmd hdd (by omega) (by omega) r2)
 ·have hEa:Ext w3 (w3.alloc (.cells #[.int .u32 1] 110)):=(ExtX.refl _).alloc _
  have r4:=r3.ext0 hEa;have hdn:=a0b.lit1 (un (a0f X b 1) (some ⟨bo,0,none⟩)) w3 1 110 hX3;have k2:=r4.cell 2 rfl;have f2:=r4.frozen 2;obtain⟨g1,g2⟩:=a0D r4 (.slice (some ⟨w3.heap.size,0,none⟩) 1 1) (i:=2) (by simp);obtain⟨w5,hw5⟩:∃w5,(w3.alloc (.cells #[.int .u32 1] 110)).setCell ⟨bo,2,none⟩ (.slice (some ⟨w3.heap.size,0,none⟩) 1 1)=w5:=⟨_,rfl⟩;rw[hw5]at g1 g2;have k0:w5.cell? ⟨bo,0,none⟩=some (.bool s):=g1.cell 0 rfl;have k1:w5.cell? ⟨bo,1,none⟩=some (.slice ma m.length mc):=g1.cell 1 rfl;have k5:w5.cell? ⟨bo,2,none⟩=some (.slice (some ⟨w3.heap.size,0,none⟩) 1 1):=g1.cell 2 rfl;have hE5:ExtX (ob (some ⟨bo,0,none⟩)) w3 w5:=(ExtX.of hEa).trans g2;have hle:Le (mk (un (a0f X b 1) (some ⟨bo,0,none⟩)) w3) (mk (un (a0f X b 1) (some ⟨bo,0,none⟩)) w5):=a0w hE5 fun _ hk=>a0q hk;have hle2:Le (mk (un (a0f X b 1) (some ⟨bo,0,none⟩)) (w3.alloc (.cells #[.int .u32 1] 110))) (mk (un (a0f X b 1) (some ⟨bo,0,none⟩)) w5):=a0w g2 fun _ hk=>a0q hk;have b5:=(b3.ext0 hEa).ext g2 (a0c (by omega));have hfin:=hid (hdone.out w5 · s ma (some ⟨w3.heap.size,0,none⟩) mc 1 m [1] (hF3.tbox hE5 (by omega)) (ht3.extY hE5 (fun _ hk=>a0q hk) (a0c (by omega))) (hms3.mono (a0b.mono _) hle) (hdn.mono (a0b.mono _) hle2) hmc (by simp) hmd (a8N 1 (by omega)) (by omega) (by simp));go_wp2_with (first|((with_reducible show wpList _ _ _ (⟨_, .store 28 _ _,_,_,_,_⟩::_) _ _);refine a7b b0D rfl rfl rfl rfl k2 f2 ?_;rw[hw5];clear k2 f2)|((with_reducible show wpList _ _ _ (⟨_, .store 32 _ _,_,_,_,_⟩::_) _ _);refine a0d a0s rfl rfl b5 rfl rfl (a2n _ _ _ _ _ _ _) ?_;intro w7 r1 r2))
  exact bodyPost_ret (a0e rfl rfl a0s r1 rfl) rfl (hfin.out w7 r2)
 ·have k1:=r3.cell 1 rfl
  have h0:=hid (show Sl (a0b .u32) 1 (mk (un (un (a0f X b 1) (some ⟨bo,0,none⟩)) none) w3) ma m from by rw[a8x];exact hms3);go_wp2_with (first
   |(at_builtin;refine a1P (l:=([]:List Nat)) a0Q rfl (a0b.elem .u32) (Nat.le_refl w3.heap.size) hX3 m rfl rfl (OL.nil _ _ _ _ _ _) h0.out (by simp;omega) (by simp;omega) ?_;intro oo4 co4 w4 hO4 hE4 hor4;have hE34:Ext w3 w4:=hE4.weaken (fun _ _ _=>rfl);have hX4:=hX3.ext hE34;have hb4:=hE34.size)
   |(at_builtin;refine a1O (l:=[]++m) a0Q rfl (a0b.elem .u32) hb4 hX4 rfl rfl hO4 (.int .u32 0) 0 rfl rfl (by simp;omega) (by simp;omega) ?_;intro oo5 co5 w5 hO5 hE5 hor5;have hE35:Ext w3 w5:=hE34.own hO4 (Nat.le_refl _) hE5;have r5:=r3.ext0 hE35;have k2:=r5.cell 1 rfl;have f2:=r5.frozen 1;obtain⟨g1,g2⟩:=a0D r5 (.slice oo5 (m.length+1) co5) (i:=1) (by simp);obtain⟨w6,hw6⟩:∃w6,w5.setCell ⟨bo,1,none⟩ (.slice oo5 (m.length+1) co5)=w6:=⟨_,rfl⟩;rw[hw6]at g1 g2;have q0:w6.cell? ⟨bo,0,none⟩=some (.bool s):=g1.cell 0 rfl;have q1:w6.cell? ⟨bo,1,none⟩=some (.slice oo5 (m.length+1) co5):=g1.cell 1 rfl;have q2:w6.cell? ⟨bo,2,none⟩=some (.slice da d.length dc):=g1.cell 2 rfl;have b6:=(b3.ext0 hE35).ext g2 (a0c (by omega)))
   |((with_reducible show wpList _ _ _ (⟨_, .store 32 _ _,_,_,_,_⟩::_) _ _);refine a0d a0s rfl rfl b6 rfl rfl (a2n _ _ _ _ _ _ _) ?_;intro w7 r1 r2))
  have hE6:ExtX (ob (some ⟨bo,0,none⟩)) w3 w6:=(ExtX.of hE35).trans g2;have hle:Le (mk (un (a0f X b 1) (some ⟨bo,0,none⟩)) w3) (mk (un (a0f X b 1) (some ⟨bo,0,none⟩)) w6):=a0w hE6 fun _ hk=>a0q hk;have hle2:Le (mk (un (a0f X b 1) (some ⟨bo,0,none⟩)) w5) (mk (un (a0f X b 1) (some ⟨bo,0,none⟩)) w6):=a0w g2 fun _ hk=>a0q hk;have hc5:=hO5.lenCap;have hlen:([]++m++[0]).length=m.length+1:=by simp
  rw[hlen]at hc5;have hfin:=hdone.out w6 w7 s oo5 da co5 dc ([]++m++[0]) d (hF3.tbox hE6 (by omega)) (ht3.extY hE6 (fun _ hk=>a0q hk) (a0c (by omega))) ((hO5.sl (a0b.elem _)).mono (a0b.mono _) hle2) (hds3.mono (a0b.mono _) hle) (by rw[hlen];exact hc5) hdc (fun x hx=>by
   rcases List.mem_append.1 hx with h|h
   ·exact hmd x (by simpa using h)
   ·rw[List.mem_singleton.1 h];exact a1Y) hdd (by simp;omega) (by omega) r2
  rw[hlen]at hfin;exact bodyPost_ret (a0e rfl rfl a0s r1 rfl) rfl hfin
 ·go_wp2_with ((with_reducible show wpList _ _ _ (⟨_, .store 32 _ _,_,_,_,_⟩::_) _ _);refine a0d a0s rfl rfl b3 rfl rfl (a2n _ _ _ _ _ _ _) ?_;intro w7 r1 r2)
  exact bodyPost_ret (a0e rfl rfl a0s r1 rfl) rfl (hdone.out w3 w7 true none none 0 0 [] [] hF3 ht3 (Sl.nil _ _ _ _) (Sl.nil _ _ _ _) (by simp) (by simp) (fun x hx=>by simp at hx) (fun x hx=>by simp at hx) (by simp) (by simp) r2)
 ·obtain⟨w4,hw4⟩:∃w4,w3.alloc (.cells #[.int .u32 2] 110)=w4:=⟨_,rfl⟩
  have hE4:Ext w3 w4:=by rw[<-hw4];exact(ExtX.refl _).alloc _
  have hz4:w4.heap.size=w3.heap.size+1:=by rw[<-hw4];simp
  have hX4:=hX3.ext hE4;have hm2:=a0b.lit1 (un (a0f X b 1) (some ⟨bo,0,none⟩)) w3 2 110 hX3;have hd4:=a0b.lit1 (un (a0f X b 1) (some ⟨bo,0,none⟩)) w4 4 110 hX4;rw[show((2:Nat):Int)=2 from rfl,hw4]at hm2;rw[show((4:Nat):Int)=4 from rfl]at hd4;obtain⟨w5,hw5⟩:∃w5,w4.alloc (.cells #[.int .u32 4] 110)=w5:=⟨_,rfl⟩;have hE5:Ext w4 w5:=by rw[<-hw5];exact(ExtX.refl _).alloc _
  rw[hw5,hz4]at hd4;have hm5:=hm2.mono (a0b.mono _) (a0h hE5);have hE35:Ext w3 w5:=hE4.trans hE5;have b5:=b3.ext0 hE35;have hfin:=hid (hdone.out w5 · false (some ⟨w3.heap.size,0,none⟩) (some ⟨w3.heap.size+1,0,none⟩) 1 1 [2] [4] (hF3.trans (ExtX.of hE35)) (ht3.ext hE35) hm5 hd4 (by simp) (by simp) (a8N 2 (by omega)) (a8N 4 (by omega)) (by simp) (by simp));clear hE4 hX4 hm2 hd4 hE5 hm5 hE35;go_wp2_with ((with_reducible show wpList _ _ _ (⟨_, .store 32 _ _,_,_,_,_⟩::_) _ _);refine a0d a0s rfl rfl b5 rfl rfl (a2n _ _ _ _ _ _ _) ?_;intro w7 r1 r2)
  exact bodyPost_ret (a0e rfl rfl a0s r1 rfl) rfl (hfin.out w7 r2)
theorem a8O (X:Nat->Bool) (tb n:Nat) (w:World) (ht:a0z X tb w) (hX:HX X w) (hn:n<=1000):
  Calls Tryz.prog 60 #[.pointer (some ⟨tb,0,none⟩), .int .i64 (n:Int)] w (b1V X tb QV 3 n w):=by
 have hsub:=a1n ht.1;go_enter Tryz.func60,Tryz.ntmps60
 go_wp2_with fail
 go_loopw [5,6] (fun s c wr=>∃(i:Nat) (oo:Option Addr) (co:Nat) (l:List Rat),c= .int .i64 i/\s= .slice oo i co/\l.length=i/\i<=n/\BR 3 l/\OL QV 3 X w.heap.size 32 wr oo co l/\a0z (un X oo) tb wr/\ExtX (tbm tb) w wr) (fun _ c _=>n - (intOf c).toNat)
 case atStart=>exact⟨0,none,0,[],rfl,rfl,rfl,Nat.zero_le _,fun x hx=>by simp at hx,OL.nil _ _ _ _ _ _,ht.none,ExtX.refl _⟩
 case round=>
  obtain⟨i,oo,co,l,rfl,rfl,hli,hin,hB,hO,htr,hE⟩:=hrel;have hXr:HX X wr:=hX.ext hE;by_cases hlt:i<n
  ·have hXu:HX (un X oo) wr:=hO.unX hXr
   have hln:=hid hli;clear hli;go_wp2_with fail
   refine(a9H (un X oo) tb _ htr hXu).mono ?_;rintro e w2 ⟨hE2,ht2,u6,q,rfl,hu6,hq6⟩;obtain⟨s6,a6,n6,c6,d6,k6,e6,rfl⟩:=hu6.shape;have hO2:=hO.ext QV.elem hE2 (fun k _ hk=>hsub k hk) (fun _ _ h=>h);have hX2:HX X w2:=hXr.ext hE2;have hE3:=hE.trans hE2;have hbase:=hE3.size;clear hO htr hE hE2 hXr hXu;go_wp2_with (at_builtin;refine a0H (l:=l) a1c rfl QV.elem (by omega) hX2 i hln.out rfl rfl hO2 (.agg #[.bool s6, .slice a6 n6 c6, .slice d6 k6 e6]) q rfl hu6 (by omega) (by omega) ?_;intro oo2 co2 w7 hO7 hE7 hor)
   have hE8:=hE3.own hO2 (Nat.le_refl _) hE7;have ht3:=ht2.unstep (hO2.not_ob ht.1) hE7 hor;have hB2:BR 3 (l++[q]):=fun x hx=>by
    rcases List.mem_append.1 hx with h|h
    ·exact hB x h
    ·rw[List.mem_singleton.1 h];exact hq6
   have hl2:(l++[q]).length=i+1:=by rw[List.length_append,hln.out];rfl
   go_roundw
   case rel=>exact⟨i+1,oo2,co2,_,by go_num,by go_num,hl2,by omega,hB2,hO7,ht3,hE8⟩
   case measure=>simp[intOf];omega
  ·have hil:i=n:=by omega
   subst hil;have hc:=hO.lenCap;rw[hli]at hc;go_wp2_with fail
   go_ret
   exact⟨hE,oo,l,co,rfl,hli,hc,hB,htr,hO⟩
end Go.Proofs.YtoibhmjjhgaimaaGreat
