/- law 26: SimplicialMedians, SimplicialLimits. Conditions: none. -/
import Derived.Test.YtoibhmjjhgaimaaGreatSaO
namespace Go.Proofs.YtoibhmjjhgaimaaGreat
open Go.RowKit Go.Rep Go.Lim Go.Lin
theorem b6T (p:Mat) (h:p.length<=1000):(a9D p).1.length<=1000:=by
 unfold a9D;split
 ·exact Nat.le_trans (a8C _ _) h
 ·simp
set_option maxRecDepth 100000 in
set_option maxHeartbeats 1600000 in
theorem b4U (lo:Option Addr) (l:List Int) (cl:Nat) (w:World) (hl:Sl (a0x .i64) 1 w.cell? lo l) (hcl:l.length<=cl) (hlb:l.length<=9223372036854775807):
  Calls Tryz.prog 11 #[.slice lo l.length cl] w (a7A w true):=by
 go_enter Tryz.func11,Tryz.ntmps11
 go_wp2_with fail
 refine(a6r lo l cl w hl hcl hlb).mono ?_;rintro e w1 ⟨rfl,hE1,ht1,hsz1⟩;obtain⟨tb,htb⟩:∃tb,w.heap.size=tb:=⟨_,rfl⟩;have hX1:HX (tbm tb) w1:=fun k hk=>by
  have:k=tb:=by simpa[tbm]using hk
  omega
 have hfin:=hid (fun w2 (h:ExtX (tbm tb) w1 w2)=>b1H htb hE1 h);rw[htb]at ht1 |-;obtain⟨X,hX⟩:∃X,tbm tb=X:=⟨_,rfl⟩;rw[hX]at ht1 hX1;clear hE1 hsz1 htb hl hX;go_wp2_with fail
 refine(a8A X tb 6 w1 ht1 hX1 (by decide) (by decide)).mono ?_;rintro e w2 ⟨hE2,ht2,v2',p,rfl,hp,hpB,hpl,hpr⟩;have hX2:=hX1.ext hE2;have hF2:=hfin.out w2 hE2;have hp65:p.length<=65:=by omega
 have hm:=hid (fun w' (h:Ext w2 w')=>b1G X w' v2' p 510 (hX2.ext h) (mkx MV.mono hp h) (by omega) hpB (by decide) (by decide));have hr:=hid (fun w' (h:Ext w2 w')=>b4N X w' v2' p 510 (hX2.ext h) (mkx MV.mono hp h) (by omega) hpB (by decide) (by decide));have hML:=b6T p (by omega);unfold a3B at hm hr;by_cases h10:10<p.length
 ·have he:a7k p=6:=by
   have hno:a2k p=false:=by
    cases h:a2k p
    ·rfl
    ·have:=(a0L.1 h).2.1
     omega
   unfold a7k;rw[hno];rfl
  rw[he]at hm;obtain⟨ML,hMLe⟩:∃ML,(a9D p).1=ML:=⟨_,rfl⟩;obtain⟨MV',hMVe⟩:∃MV',(a9D p).2=MV':=⟨_,rfl⟩;rw[hMLe,hMVe]at hm;have hm2:=hm.out w2 (ExtX.refl _);obtain⟨po,pc,rfl,hpc,hps⟩:=hp;clear hm hr he hMLe hMVe hpl hps;go_wp2_with fail
  refine hm2.mono ?_;rintro e w3 ⟨hE3,ao,cap,rfl,_,_⟩;go_wp2_with fail
  refine(a0X w3).mono ?_;rintro e w4 ⟨hE4,rfl⟩;go_wp2_with fail
  go_ret
  exact⟨hF2.trans (hE3.trans hE4),rfl⟩
 ·obtain⟨L,hL⟩:∃L,(a9D p).1=L:=⟨_,rfl⟩
  obtain⟨V,hV⟩:∃V,(a9D p).2=V:=⟨_,rfl⟩;obtain⟨E,hE⟩:∃E,a7k p=E:=⟨_,rfl⟩;rw[hL,hV,hE]at hm hr;rw[hL]at hML;have hm2:=hm.out w2 (ExtX.refl _);have hr2:=hid (fun w' (h:Ext w2 w')=>hr.out w' h);obtain⟨n,hn⟩:∃n,p.length=n:=⟨_,rfl⟩;obtain⟨po,pc,rfl,hpc,hps⟩:=hp;rw[hn]at hm2 hr2 h10 |-;obtain⟨q,hq⟩:∃q,L.length=q:=⟨_,rfl⟩;have hq':=hid hq;rw[hq]at hm2 hr2 hML;have z1:((E:Int)==(E:Int))=true:=a7w rfl;have z2:((V:Int)==(V:Int))=true:=a7w rfl;have zl:Hid ((L==L)=true):=hid (by simp);clear hm hr hL hV hE hpl hn hps hpc hq hp65;go_wp2_with fail
  refine hm2.mono ?_;rintro e w3 ⟨hE3,ao,ca,rfl,hca,hsa⟩;clear hm2;go_wp2_with fail
  refine(hr2.out w3 hE3).mono ?_;rintro e w4 ⟨hE4,bo,cb,rfl,hcb,hsb⟩;have hsame:=hid (b2w X ao bo L L ca cb w4 (hsa.mono (a0a.mono _) (a0m hE4)) hsb (by rw[hq'.out];omega));rw[hq'.out,zl.out]at hsame;clear hr2 hsa hsb;go_wp2_with fail
  refine hsame.out.mono ?_;rintro e w5 ⟨rfl,m,rfl⟩;have hE5:Ext w4 (w4.drewN m):=(ExtX.refl _).drewN m;go_wp2_with fail
  refine(a0X _).mono ?_;rintro e w6 ⟨hE6,rfl⟩;go_wp2_with fail
  go_ret
  exact⟨hF2.trans (hE3.trans (hE4.trans (hE5.trans hE6))),rfl⟩
end Go.Proofs.YtoibhmjjhgaimaaGreat
