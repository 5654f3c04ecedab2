/- natural.Div at any numbers, Uint, gcd, Gcd. Conditions: lengths far below any machine's. The reference's natural numbers: Valid, Take, trim, limb, FromUint, Add. Conditions: lengths far below any machine's. The reference's subtraction, product by a digit, and division bit by bit: invariants. Plain mathematics. Conditions: none. Natural numbers as values: readings, and the contracts of both texts' natural numbers over them. Conditions: at most 2^40 digits. The reference's Sub, times, Mul. Conditions: lengths far below any machine's. The reference's bit, double, Div, Gcd, Same. Conditions: lengths far below any machine's. Structs in blocks of their own: what lies in the block, loads, stores, results. Conditions: none. integer.Valid, value, signed. Conditions: at most 2^40 digits. integer.signed, copied. Conditions: at most 2^40 digits. The reference's integers: Valid, Take, signed. Conditions: at most 2^39 digits. integer.Add, Mul, Neg, Sign, FromInt, Compare. Conditions: at most 2^39 digits. -/
import Derived.Test.YtidbbddagfnfbaaGreatSfB
import Derived.Laws.CopyRow
import Derived.Deep.RegionHeld3
import Derived.Deep.RegionWith
namespace Go.Lim
theorem b8C {n:Nat} (h1:4294967296<=n):2<=lg n:=by
 by_cases h:lg n<=1
 ·rw[a2J,Nat.pow_one,a1l]at h;omega
 ·omega
end Go.Lim
namespace Go.Proofs.YtidbbddagfnfbaaGreat
open Go.RowKit Go.Rep Go.Lim
theorem a8S (X:Nat->Bool) (ao bo:Option Addr) (la lb:List Nat) (ca cb:Nat) (w:World) (hsa:Sl (a0d .u32) 1 (mk X w) ao la) (hsb:Sl (a0d .u32) 1 (mk X w) bo lb)
  (hda:Dig la) (hdb:Dig lb) (hla:la.length<=1099511627776) (hlb:lb.length<=1099511627776) (hca:la.length<=ca) (hcb:lb.length<=cb) (hX:∀k,X k=true->k<w.heap.size) (na nb:Nat) (hna:val la=na) (hnb:val lb=nb)
  (h0:0<nb):
  Calls Tryz.prog 245 #[.slice ao la.length ca, .slice bo lb.length cb] w (b5A X w (na/nb) (na%nb)):=by
 by_cases h1:nb<4294967296
 ·exact b3D X ao bo la lb ca cb w hsa hsb hda hdb hla hlb hca hcb hX na nb hna hnb h0 h1
 have h2:=b8C (show 4294967296<=nb by omega);clear h1;go_enter Tryz.func245,Tryz.ntmps245
 go_wp2_with fail
 refine(a1m X _ _ _ _ hsa hda (by omega) hca).mono ?_;rintro e w' ⟨rfl,ao1,ca1,a,rfl,hca1,hal,hcan,hsa1⟩;go_wp2_with fail
 refine(a1m X _ _ _ _ hsb hdb (by omega) hcb).mono ?_;rintro e w' ⟨rfl,bo1,cb1,b,rfl,hcb1,hbl,hcbn,hsb1⟩;rw[hna]at hcan;rw[hnb]at hcbn;have hb2:2<=b.length:=by rw[hcbn.len];exact h2
 have hal':a.length<=1099511627776:=Nat.le_trans hal hla;have hbl':b.length<=1099511627776:=Nat.le_trans hbl hlb;have hva:=hid hcan.val;have hvb:=hid hcbn.val;clear hna hnb hal hbl hsa hsb hla hlb hca hcb h2 hda hdb;go_wp2_with fail
 refine(a3k X ao1 bo1 a b ca1 cb1 w hsa1 hsb1 hcan.1 hcbn.1 hal' hbl' hca1 hcb1 na nb hva.out hvb.out).mono ?_;rintro e w2 ⟨hE2,rfl⟩;have hsa2:=hsa1.mono (a0d.mono _) (a0p hE2);have hsb2:=hsb1.mono (a0d.mono _) (a0p hE2);have hX2:∀k,X k=true->k<w2.heap.size:=fun k hk=>Nat.lt_of_lt_of_le (hX k hk) hE2.size;by_cases hlt:na<nb
 ·have hcl:a2R na nb<0:=(a3y na nb).2 hlt
  have hq:=hid (Nat.div_eq_of_lt hlt);have hr:=hid (Nat.mod_eq_of_lt hlt);generalize a2R na nb=c at hcl;go_wp2_with fail
  refine(a5V X _ _ _ _ na hsa2 hcan (by omega) hX2).mono ?_;rintro e w3 ⟨hE3,ao3,ca3,l3,rfl,hc3,hcan3,hs3⟩;go_wp2_with fail
  go_ret3
  refine⟨hE2.trans hE3,none,0,[],ao3,ca3,l3,rfl,by simp,?_,Sl.nil _ _ _ _,hc3,?_,hs3⟩
  ·rw[hq.out];exact a0I.nil
  ·rw[hr.out];exact hcan3
 ·have hcl:¬a2R na nb<0:=fun h=>hlt ((a3y na nb).1 h)
  generalize a2R na nb=c at hcl;go_wp2_with fail
  refine(b0A X ao1 bo1 a b ca1 cb1 w2 hsa2 hsb2 na nb hcan hcbn (by omega) hb2 hal' hX2).mono ?_;rintro e w3 ⟨hE3,ao3,ca3,l3,bo4,cb4,l4,rfl,hc3,hcan3,hs3,hc4,hcan4,hs4⟩;go_wp2_with fail
  go_ret3
  exact⟨hE2.trans hE3,ao3,ca3,l3,bo4,cb4,l4,rfl,hc3,hcan3,hs3,hc4,hcan4,hs4⟩
def b6F (w:World) (n:Nat) (e:Ending) (w':World):Prop:=
 w=w'/\((n<18446744073709551616/\e= .returned (.tuple #[.int .u64 n, .bool true]))\/(18446744073709551616<=n/\e= .returned (.tuple #[.int .u64 0, .bool false])))
theorem a7s (X:Nat->Bool) (ao:Option Addr) (l:List Nat) (c:Nat) (w:World) (hs:Sl (a0d .u32) 1 (mk X w) ao l) (hd:Dig l) (hl:l.length<=1099511627776) (hc:l.length<=c) (n:Nat) (hn:val l=n):
  Calls Tryz.prog 293 #[.slice ao l.length c] w (b6F w n):=by
 go_enter Tryz.func293,Tryz.ntmps293
 go_wp2_with fail
 refine(a1m X _ _ _ _ hs hd (by omega) hc).mono ?_;rintro e w' ⟨rfl,ao1,ca1,a,rfl,hca1,hal,hcan,hsa1⟩;rw[hn]at hcan;have hal':a.length<=1099511627776:=Nat.le_trans hal hl;have hha:=hsa1.hd;have hnv:=hid hcan.2.2;have hda:=hcan.1;have hlen:=hid hcan.len;clear hn hs hd hl hc hal;by_cases h2:2<a.length
 ·have hbig:18446744073709551616<=n:=by
   by_cases h:n<18446744073709551616
   ·have:lg n<=2:=by rw[a2J,a1l];omega
    have:=hlen.out;omega
   ·omega
  have hb':=hid hbig;clear hbig;go_wp2_with fail
  go_ret2
  exact⟨rfl, .inr ⟨hb'.out,rfl⟩⟩
 ·have hsm:Hid (n<18446744073709551616):=hid (by
   have:lg n<=2:=by rw[<-hlen.out];omega
   rw[a2J,a1l]at this;omega)
  go_wp2_with fail
  go_loop [2,13] (fun v i=>∃k:Nat,i= .int .i64 k/\v= .int .u64 (nv (a.take k):Nat)/\k<=a.length) (fun _ i=>a.length - (intOf i).toNat)
  case atStart=>exact⟨0,rfl,rfl,by omega⟩
  case round=>
   obtain⟨k,rfl,rfl,hk⟩:=hrel;by_cases hlt:k<a.length
   ·have hcell:=hsa1.nat k hlt
    have hx:=hda.get k hlt;have hstep:=a0F a k hlt;obtain⟨x,hxx⟩:∃x,a[k]=x:=⟨_,rfl⟩;rw[hxx]at hcell hx hstep;rw[a1l]at hx hstep;have hlow:=a1M hda k;obtain⟨v,hv⟩:∃v,nv (a.take k)=v:=⟨_,rfl⟩;rw[hv]at hstep hlow |-;have hst':=hid hstep;clear hstep hxx hv;rcases(by omega:k=0\/k=1)with rfl|rfl
    ·rw[Nat.pow_zero]at hlow
     obtain rfl:v=0:=by omega
     clear hlow;have hor:bits BinOp.or IntKind.u64 0 (x:Int)=(x:Int):=by
      have:=bits_or_u64_nat 0 x (by omega) (by omega);rw[Nat.zero_or]at this;exact this
     have hcell0:w.cell? (adr ao1 0)=some (.int .u32 x):=hcell;go_wp2_with (with_reducible refine a0t a0R (by omega) (by assumption) ?_)
     have hfin:nv (a.take 1)=x:=by have:=hst'.out;simpa using this
     go_round
     case rel=>exact⟨1,rfl,by rw[hfin],by omega⟩
     case measure=>simp[intOf];omega
    ·rw[Nat.pow_one,a1l]at hlow
     have hor0:bits BinOp.or IntKind.u64 (v:Int) ((x:Int)*4294967296)=((v+4294967296*x:Nat):Int):=by
      have e:=bits_or_u64_nat v (x*4294967296) (by omega) (by omega);have e2:=Nat.two_pow_add_eq_or_of_lt (i:=32) (b:=v) (by omega) x;rw[Nat.or_comm,Nat.mul_comm x,show(4294967296:Nat)*x=2^32*x from rfl,<-e2]at e;have e3:((2^32*x:Nat):Int)=(x:Int)*4294967296:=by omega
      rw[e3]at e;rw[e];omega
     have hfin0:nv (a.take 2)=v+4294967296*x:=by have:=hst'.out;simpa using this
     obtain⟨T,hT⟩:∃T,v+4294967296*x=T:=⟨_,rfl⟩;rw[hT]at hor0 hfin0;have hfin:=hid hfin0;have hor:=hor0;clear hor0 hT hfin0;have hcell0:w.cell? (adr ao1 1)=some (.int .u32 x):=hcell;have hvI:(v:Int)<4294967296:=by omega
     have hxI:(x:Int)<4294967296:=by omega
     clear hlow hx;have hltI:(1:Int)<(a.length:Int):=by omega
     have hltI2:decide ((1:Int)<(a.length:Int))=true:=decide_eq_true hltI;go_wp2_with (with_reducible refine a0t a0R (by omega) (by assumption) ?_)
     go_round
     case rel=>exact⟨2,rfl,by rw[hfin.out],by omega⟩
     case measure=>simp[intOf];omega
   ·have hka:k=a.length:=by omega
    have hfin:nv (a.take k)=n:=by rw[hka,List.take_length];exact hnv.out
    rw[hfin];go_wp2_with fail
    go_ret2
    exact⟨rfl, .inl ⟨hsm.out,rfl⟩⟩
theorem b1v (a b:Nat) (w:World) (_ha:a<18446744073709551616) (hb:b<18446744073709551616):
  Calls Tryz.prog 294 #[.int .u64 a, .int .u64 b] w (a9J w .u64 (Nat.gcd a b)):=by
 obtain⟨g,hg⟩:∃g,Nat.gcd a b=g:=⟨_,rfl⟩;rw[hg];have hg':=hid hg;clear hg;have hbI:Hid (b<18446744073709551616):=hid hb;clear _ha hb;go_enter Tryz.func294,Tryz.ntmps294
 go_wp2_with fail
 go_loopw [0,1] (fun x y wr=>∃p q m:Nat,x= .int .u64 p/\y= .int .u64 q/\Hid (Nat.gcd p q=g)/\wr=w.drewN m) (fun _ y _=>(intOf y).toNat)
 case atStart=>exact⟨a,b,0,rfl,rfl,hg',rfl⟩
 case round=>
  obtain⟨p,q,m,rfl,rfl,hpq,rfl⟩:=hrel;by_cases hq:q=0
  ·subst hq
   have hfin:=hid (by have:=hpq.out;rwa[Nat.gcd_zero_right]at this);have t1:(((0:Nat):Int) !=0)=false:=rfl;go_wp2_with fail
   go_ret
   exact⟨a0J (congrArg Nat.cast hfin.out),m,rfl⟩
  ·have t1:((q:Int)==0)=false:=a2I (by omega)
   have t2:((q:Int) !=0)=true:=a7R (by omega);have hst:Hid (Nat.gcd q (p%q)=g):=hid (by rw[Nat.gcd_comm,<-Nat.gcd_rec,Nat.gcd_comm];exact hpq.out);have hlt:p%q<q:=Nat.mod_lt _ (by omega);have hq':=hid hq;clear hq;go_wp2_with fail
   go_quiet (fail)
   go_wp2_with fail
   go_roundw
   case rel=>exact⟨q,p%q,_,rfl,by rw[Int.natCast_emod],hst,World.drewN_drewN _ _ _⟩
   case measure=>
    simp only[intOf,Int.toNat_natCast];rw[<-Int.natCast_emod,Int.toNat_natCast];exact hlt
noncomputable def b9T (w:World):Value->Nat
 | .slice ao n _=>nv ((List.range n).map fun i=>match w.cell? (adr ao i)with|some (.int _ x)=>x.toNat|_=>0)
 |_=>0
theorem a5i {X:Nat->Bool} {w:World} {ao:Option Addr} {l:List Nat} (c:Nat) (hs:Sl (a0d .u32) 1 (mk X w) ao l):b9T w (.slice ao l.length c)=nv l:=by
 show nv _=nv l
 congr 1
 apply List.ext_getElem
 ·simp
 ·intro i h1 h2
  simp only[List.getElem_map,List.getElem_range,hs.nat i h2,Int.toNat_natCast]
theorem b6G (X:Nat->Bool) (ao bo:Option Addr) (la lb:List Nat) (ca cb:Nat) (w:World) (hsa:Sl (a0d .u32) 1 (mk X w) ao la) (hsb:Sl (a0d .u32) 1 (mk X w) bo lb)
  (hda:Dig la) (hdb:Dig lb) (hla:la.length<=1099511627776) (hlb:lb.length<=1099511627776) (hca:la.length<=ca) (hcb:lb.length<=cb) (hX:∀k,X k=true->k<w.heap.size) (na nb:Nat) (hna:val la=na) (hnb:val lb=nb):
  Calls Tryz.prog 244 #[.slice ao la.length ca, .slice bo lb.length cb] w (a4i X w (Nat.gcd na nb)):=by
 go_enter Tryz.func244,Tryz.ntmps244
 go_wp2_with fail
 refine(a1m X _ _ _ _ hsa hda (by omega) hca).mono ?_;rintro e w' ⟨rfl,ao1,ca1,a,rfl,hca1,hal,hcan,hsa1⟩;go_wp2_with fail
 refine(a1m X _ _ _ _ hsb hdb (by omega) hcb).mono ?_;rintro e w' ⟨rfl,bo1,cb1,b,rfl,hcb1,hbl,hcbn,hsb1⟩;rw[hna]at hcan;rw[hnb]at hcbn;have hal':a.length<=1099511627776:=Nat.le_trans hal hla;have hbl':b.length<=1099511627776:=Nat.le_trans hbl hlb;obtain⟨g,hg⟩:∃g,Nat.gcd na nb=g:=⟨_,rfl⟩;rw[hg];have hg':=hid hg;have hc1:=hid hcan;have hc2:=hid hcbn;clear hna hnb hal hbl hsa hsb hla hlb hca hcb hda hdb hg hcan hcbn;go_wp2_with fail
 go_loopw [0,1] (fun x y wr=>∃(p q:Nat) (ao bo:Option Addr) (a b:List Nat) (ca cb:Nat),x= .slice ao a.length ca/\y= .slice bo b.length cb/\a.length<=ca/\b.length<=cb/\a.length<=1099511627776/\b.length<=1099511627776/\Hid (a0I a p)/\Hid (a0I b q)/\Hid (Nat.gcd p q=g)/\
  Sl (a0d .u32) 1 (mk X wr) ao a/\Sl (a0d .u32) 1 (mk X wr) bo b/\Ext w wr) (fun _ y W=>b9T W y)
 case atStart=>exact⟨na,nb,_,_,_,_,_,_,rfl,rfl,hca1,hcb1,hal',hbl',hc1,hc2,hg',hsa1,hsb1,ExtX.refl _⟩
 case round=>
  clear hc1 hc2 hsa1 hsb1 hca1 hcb1 hal' hbl';obtain⟨p,q,ao2,bo2,a2,b2,ca2,cb2,rfl,rfl,hca,hcb,hal,hbl,hc1,hc2,hg,hsa,hsb,hE⟩:=hrel;have hX2:∀k,X k=true->k<wr.heap.size:=fun k hk=>Nat.lt_of_lt_of_le (hX k hk) hE.size;by_cases hq:0<b2.length
  ·have hq0:Hid (0<q):=hid (by have:=a1k hc2.out;omega)
   have hqI:(0:Int)<(b2.length:Int):=by omega
   have hd1:=hc1.out.1;have hd2:=hc2.out.1;have hv1:=hid hc1.out.val;have hv2:=hid hc2.out.val;go_wp2_with fail
   refine(a7s X ao2 a2 ca2 wr hsa hd1 hal hca p hv1.out).mono ?_;rintro e w' ⟨rfl,hu1⟩;rcases hu1 with⟨u1,rfl⟩|⟨u1,rfl⟩
   ·have u1':=hid u1
    clear u1;go_wp2_with fail
    refine(a7s X bo2 b2 cb2 wr hsb hd2 hbl hcb q hv2.out).mono ?_;rintro e w' ⟨rfl,hu2⟩;rcases hu2 with⟨u2,rfl⟩|⟨u2,rfl⟩
    ·have hgl:Nat.gcd p q<18446744073709551616:=Nat.lt_of_le_of_lt (Nat.gcd_le_right _ hq0.out) u2
     rw[hg.out]at hgl;have u2':=hid u2;have hgl':=hid hgl;have hgc:=b1v p q wr u1'.out u2'.out;rw[hg.out]at hgc;clear u2 hgl;go_wp2_with fail
     refine hgc.mono ?_;rintro e w2 ⟨rfl,m,rfl⟩;go_wp2_with fail
     refine(a3z X g (wr.drewN m) hgl'.out hX2).mono ?_;rintro e w3 ⟨hE3,ao3,ca3,l3,rfl,hc3,hcan3,hs3⟩;go_wp2_with fail
     go_ret
     exact⟨hE.trans (((ExtX.refl wr).drewN m).trans hE3),ao3,ca3,l3,rfl,hc3,by rw[hg'.out];exact hcan3,hs3⟩
    ·clear u2
     go_wp2_with fail
     refine(a8S X ao2 bo2 a2 b2 ca2 cb2 wr hsa hsb hd1 hd2 hal hbl hca hcb hX2 p q hv1.out hv2.out hq0.out).mono ?_;rintro e w3 ⟨hE3,ao3,ca3,l3,bo4,cb4,l4,rfl,hc3,hcan3,hs3,hc4,hcan4,hs4⟩;go_wp2_with fail
     have hl4:l4.length<=1099511627776:=by
      have h1:l4.length<=b2.length:=by rw[hcan4.len,hc2.out.len];exact a1h (Nat.le_of_lt (Nat.mod_lt _ hq0.out))
      omega
     have hst:Hid (Nat.gcd q (p%q)=g):=hid (by rw[Nat.gcd_comm,<-Nat.gcd_rec,Nat.gcd_comm];exact hg.out);have hsb3:=hsb.mono (a0d.mono _) (a0p hE3);have hm1:=a5i cb4 hs4;have hm2:=a5i cb2 hsb;rw[hcan4.2.2]at hm1;rw[hc2.out.2.2]at hm2;have hlt:=Nat.mod_lt p hq0.out;have hcan4':=hid hcan4;have hm1':=hid hm1;have hm2':=hid hm2;clear hcan3 hs3 hcan4 hm1 hm2 hv1 hv2;go_roundw
     case rel=>exact⟨q,p%q,_,_,_,_,_,_,rfl,rfl,hcb,hc4,hbl,hl4,hc2,hcan4',hst,hsb3,hs4,hE.trans hE3⟩
     case measure=>rw[hm1'.out,hm2'.out];exact hlt
   ·clear u1
    go_wp2_with fail
    refine(a7s X bo2 b2 cb2 wr hsb hd2 hbl hcb q hv2.out).mono ?_;rintro e w' ⟨rfl,hu2⟩;rcases hu2 with⟨u2,rfl⟩|⟨u2,rfl⟩
    all_goals
     clear u2;go_wp2_with fail
     refine(a8S X ao2 bo2 a2 b2 ca2 cb2 wr hsa hsb hd1 hd2 hal hbl hca hcb hX2 p q hv1.out hv2.out hq0.out).mono ?_;rintro e w3 ⟨hE3,ao3,ca3,l3,bo4,cb4,l4,rfl,hc3,hcan3,hs3,hc4,hcan4,hs4⟩;go_wp2_with fail
     have hl4:l4.length<=1099511627776:=by
      have h1:l4.length<=b2.length:=by rw[hcan4.len,hc2.out.len];exact a1h (Nat.le_of_lt (Nat.mod_lt _ hq0.out))
      omega
     have hst:Hid (Nat.gcd q (p%q)=g):=hid (by rw[Nat.gcd_comm,<-Nat.gcd_rec,Nat.gcd_comm];exact hg.out);have hsb3:=hsb.mono (a0d.mono _) (a0p hE3);have hm1:=a5i cb4 hs4;have hm2:=a5i cb2 hsb;rw[hcan4.2.2]at hm1;rw[hc2.out.2.2]at hm2;have hlt:=Nat.mod_lt p hq0.out;have hcan4':=hid hcan4;have hm1':=hid hm1;have hm2':=hid hm2;clear hcan3 hs3 hcan4 hm1 hm2 hv1 hv2;go_roundw
     case rel=>exact⟨q,p%q,_,_,_,_,_,_,rfl,rfl,hcb,hc4,hbl,hl4,hc2,hcan4',hst,hsb3,hs4,hE.trans hE3⟩
     case measure=>rw[hm1'.out,hm2'.out];exact hlt
  ·have hq0:q=0:=by have:=a1k hc2.out;omega
   subst hq0;have hfin:=hg.out;rw[Nat.gcd_zero_right]at hfin;have hfin':=hid hfin;clear hfin;have hcc:=hc1.out;clear hg hc2;go_wp2_with fail
   refine(a5V X ao2 a2 ca2 wr p hsa hcc (by omega) hX2).mono ?_;rintro e w3 ⟨hE3,ao3,ca3,l3,rfl,hc3,hcan3,hs3⟩;go_wp2_with fail
   go_ret
   exact⟨hE.trans hE3,ao3,ca3,l3,rfl,hc3,by rw[hg'.out,<-hfin'.out];exact hcan3,hs3⟩
theorem a1X (X:Nat->Bool) (ao:Option Addr) (l:List Nat) (cap:Nat) (w:World) (hs:Sl (a0d .u32) 1 (mk X w) ao l) (hl:l.length<=4398046511104):
  Calls Tryz.prog 253 #[.slice ao l.length cap] w fun e w'=>w=w'/\e= .returned (.bool (a1u l)):=by
 have hh:=hs.hd;by_cases h0:l.length=0
 ·have hl0:l= []:=List.eq_nil_of_length_eq_zero h0
  subst hl0;clear hs hh hl h0;simp only[List.length_nil];go_enter Tryz.func253,Tryz.ntmps253
  go_wp2_with fail
  go_ret
  exact⟨rfl,rfl⟩
 ·have hc:=hs.nat (l.length - 1) (by omega)
  have hv:=hid (a3j (l:=l) (by omega));have hz:((l.length:Int)==0)=false:=a2I (by omega);go_enter Tryz.func253,Tryz.ntmps253
  go_wp2_with (with_reducible refine a0t a0R (by omega) (by assumption) ?_)
  go_ret
  exact⟨rfl,a0n (by rw[hv.out];exact a7T _)⟩
theorem a5Z (X:Nat->Bool) (ao:Option Addr) (l:List Nat) (cap:Nat) (w:World) (hs:Sl (a0d .u32) 1 (mk X w) ao l) (hd:Dig l) (hl:l.length<=4398046511104) (hX:∀k,X k=true->k<w.heap.size):
  Calls Tryz.prog 189 #[.slice ao l.length cap] w (a4i X w (val l)):=by
 cases hv:a1u l
 ·have hv':=hid hv
  go_enter Tryz.func189,Tryz.ntmps189
  go_wp2_with (go_at_call 253;refine(a1X X _ _ _ _ hs hl).mono ?_;rintro e w' ⟨rfl,rfl⟩)
  go_ret
  have:vl l= []:=by unfold vl;rw[hv];rfl
  exact⟨ExtX.refl _,none,0,[],rfl,by simp,this▸a4x hd,Sl.nil _ _ _ _⟩
 ·have hv':=hid hv
  have hO:=OL.nil (a0d .u32) 1 X w.heap.size 147 w;have hs2:Sl (a0d .u32) 1 (mk (un X none) w) ao l:=hs.mono (a0d.mono _) (a1E fun k _ hk=>by simpa[un,ob]using hk);go_enter Tryz.func189,Tryz.ntmps189
  go_wp2_with (first|(go_at_call 253;refine(a1X X _ _ _ _ hs hl).mono ?_;rintro e w' ⟨rfl,rfl⟩)|(at_builtin;refine a3U (l:=[]) a0R rfl (a0d.elem .u32) (Nat.le_refl _) hX l rfl rfl hO hs2 (by simp;omega) (by simp;omega) ?_;intro ao2 cap2 w2 hO2 hE2 _))
  go_ret
  have:vl l=l:=by unfold vl;rw[hv];rfl
  have hc:=a4x hd;rw[this]at hc;exact⟨(ExtX.refl w).own hO (Nat.le_refl _) hE2,_,_,l,rfl,by simpa using hO2.lenCap,hc,by simpa using hO2.sl (a0d.elem _)⟩
theorem a4G (X:Nat->Bool) (ao:Option Addr) (l:List Nat) (cap:Nat) (w:World) (hs:Sl (a0d .u32) 1 (mk X w) ao l) (hd:Dig l) (hl:l.length<=4398046511104) (hcap:l.length<=cap):
  Calls Tryz.prog 251 #[.slice ao l.length cap] w (b1l X w ao l cap):=by
 have hh:=hs.hd;go_enter Tryz.func251,Tryz.ntmps251
 go_wp2_with fail
 go_loop [0] (fun s=>∃k:Nat,s= .slice ao k cap/\Cut l k) (fun s=>lenOf s)
 case atStart=>exact⟨_,rfl,Cut.all l⟩
 case round=>
  obtain⟨k,rfl,hk⟩:=hrel;have hkl:=hk.1;by_cases hlt:0<k
  ·have hc:=hs.nat (k - 1) (by omega)
   have hhk:Hd ao k:=fun _=>hh (by omega);by_cases hz:l[k - 1]=0
   ·have hk':=hk.less hlt hz
    have hz':=hid hz;rw[hz]at hc;clear hz;go_wp2_with (with_reducible refine a0t a0R (by omega) (by assumption) ?_)
    go_round
    case rel=>exact⟨k - 1,by go_num,hk'⟩
    case measure=>simp[lenOf];omega
   ·have hcn:=hk.canon hd (.inr ⟨by omega,hz⟩)
    have hz':((l[k - 1]:Int)==0)=false:=a2I (by omega);go_wp2_with (with_reducible refine a0t a0R (by omega) (by assumption) ?_)
    go_ret
    exact⟨rfl,l.take k,a4v (by simp;omega),by simp;omega,hcn,hs.take k⟩
  ·have hcn:=hk.canon hd (.inl (by omega))
   go_wp2_with fail
   go_ret
   exact⟨rfl,l.take k,a4v (by simp;omega),by simp;omega,hcn,hs.take k⟩
theorem a3D (X:Nat->Bool) (ao:Option Addr) (l:List Nat) (cap:Nat) (i:Nat) (w:World) (hs:Sl (a0d .u32) 1 (mk X w) ao l) (hd:Dig l) (hi:i<=4398046511104) (x:Nat) (hx:l.getD i 0=x):
  Calls Tryz.prog 250 #[.slice ao l.length cap, .int .i64 i] w fun e w'=>w=w'/\e= .returned (.int .u64 x):=by
 have hh:=hs.hd;have hx':=hid hx;clear hx;by_cases h:i<l.length
 ·have hc:=hs.nat i h
  have hD:l.getD i 0=l[i]:=by simp[List.getD,h]
  have hD':=hid hD;have hdi:=hd.get i h;rw[a1l]at hdi;go_enter Tryz.func250,Tryz.ntmps250
  go_wp2_with (with_reducible refine a0t a0R (by omega) (by assumption) ?_)
  go_ret
  exact⟨rfl,a0J (by rw[<-hx'.out,hD'.out])⟩
 ·have hD:l.getD i 0=0:=by simp[List.getD,h]
  have hD':=hid hD;go_enter Tryz.func250,Tryz.ntmps250
  go_wp2_with (with_reducible refine a0t a0R (by omega) (by assumption) ?_)
  go_ret
  exact⟨rfl,a0J (by rw[<-hx'.out,hD'.out];rfl)⟩
theorem a7t (X:Nat->Bool) (n:Nat) (w:World) (hn:n<18446744073709551616) (hX:∀k,X k=true->k<w.heap.size):
  Calls Tryz.prog 186 #[.int .u64 n] w (a4i X w n):=by
 have hO:OL (a0d .u32) 1 X w.heap.size 147 (w.alloc (.cells #[.int .u32 ((n:Int)%4294967296), .int .u32 ((n:Int)/4294967296)] 147)) (some ⟨w.heap.size,0,none⟩) 2 [n%4294967296,n/4294967296]:=
  OL.lit (a0d.elem .u32) hX (Nat.le_refl _) [.int .u32 ((n%4294967296:Nat):Int), .int .u32 ((n/4294967296:Nat):Int)] [n%4294967296,n/4294967296] _ (by simp[a0j,Value.cells]) rfl
   (fun i hi _=>by
            match i,hi with
            |0,_=>rfl
            |1,_=>rfl) (by simp)
 go_enter Tryz.func186,Tryz.ntmps186
 go_wp2_with fail
 refine(a4G X _ [n%4294967296,n/4294967296] _ _ (hO.sl (a0d.elem .u32)) (Dig.cons (by rw[a1l];exact Nat.mod_lt _ (by decide)) (Dig.cons (by rw[a1l];omega) Dig.nil)) (by simp) (by simp)).mono ?_;rintro e w' ⟨rfl,l',rfl,hl',hc,hs'⟩;go_wp2_with fail
 go_ret
 have hv:nv [n%4294967296,n/4294967296]=n:=by simp only[nv,a1l];omega
 rw[hv]at hc;exact⟨(ExtX.refl w).alloc _,_,2,_,rfl,by simpa using hl',hc,hs'⟩
theorem a7u (X:Nat->Bool) (ao1 bo1:Option Addr) (a b:List Nat) (ca1 cb1:Nat) (w:World) (hsa1:Sl (a0d .u32) 1 (mk X w) ao1 a) (hsb1:Sl (a0d .u32) 1 (mk X w) bo1 b)
  (hal':a.length<=1099511627776) (na nb:Nat) (hcan:a0I a na) (hcbn:a0I b nb):
  Calls Tryz.prog 265 #[.slice ao1 a.length ca1, .slice bo1 b.length cb1] w (a4j w (a2R na nb)):=by
 have hha:=hsa1.hd;have hhb:=hsb1.hd;by_cases hlt:a.length<b.length
 ·have hv:=hid (a4g hcan hcbn hlt)
  have hne:((a.length:Int) !=b.length)=true:=a7R (by omega);go_enter Tryz.func265,Tryz.ntmps265
  go_wp2_with fail
  go_ret
  exact⟨ExtX.refl _,a0J hv.out.symm⟩
 by_cases hgt:b.length<a.length
 ·have hv:=hid (a4h hcan hcbn hgt)
  have hne:((a.length:Int) !=b.length)=true:=a7R (by omega);go_enter Tryz.func265,Tryz.ntmps265
  go_wp2_with fail
  go_ret
  exact⟨ExtX.refl _,a0J hv.out.symm⟩
 have hne:((a.length:Int) !=b.length)=false:=a7U (by omega);have heq:Hid (a.length=b.length):=hid (by omega);have hbl:b.length<=a.length:=by omega
 have hab:a.length<=b.length:=by omega
 clear hlt hgt;go_enter Tryz.func265,Tryz.ntmps265
 go_wp2_with fail
 go_loopw [5] (fun i wr=>∃k:Nat,i= .int .i64 ((k:Int) - 1)/\k<=a.length/\Hid (a.drop k=b.drop k)/\Ext w wr) (fun i _=>(intOf i+1).toNat)
 case atStart=>exact⟨a.length,rfl,Nat.le_refl _,hid (by rw[List.drop_of_length_le (Nat.le_refl _),List.drop_of_length_le hbl]),ExtX.refl _⟩
 case round=>
  obtain⟨k,rfl,hk,hdr,hE⟩:=hrel;by_cases hlt:0<k
  ·have c1:=(hsa1.mono (a0d.mono _) (a0p hE)).nat (k - 1) (by omega)
   have c2:=(hsb1.mono (a0d.mono _) (a0p hE)).nat (k - 1) (by omega);have i1:∀W,(Instr.indexAt 41 (.slice ao1 a.length ca1) (.int .i64 ((k:Int) - 1))).run Tryz.prog W= .ok (.pointer (some (adr ao1 (k - 1)))) W:=a0C a0R ao1 a.length ca1 .i64 (k - 1) hha (by omega) (by omega);have i2:∀W,(Instr.indexAt 41 (.slice bo1 b.length cb1) (.int .i64 ((k:Int) - 1))).run Tryz.prog W= .ok (.pointer (some (adr bo1 (k - 1)))) W:=a0C a0R bo1 b.length cb1 .i64 (k - 1) hhb (by omega) (by omega);by_cases h1:a[k - 1]<b[k - 1]
   ·have hv:=hid (a6M hcan hcbn heq.out hlt hk hdr.out h1)
    have t1:((a[k - 1]:Int)<(b[k - 1]:Int)):=by omega
    go_wp2_with fail
    go_quiet (fail)
    go_wp2_with fail
    go_ret
    exact⟨hE.drewN _,a0J hv.out.symm⟩
   by_cases h2:b[k - 1]<a[k - 1]
   ·have hv:=hid (a6N hcan hcbn heq.out hlt hk hdr.out h2)
    go_wp2_with fail
    go_quiet (fail)
    go_wp2_with fail
    go_quiet (fail)
    go_wp2_with fail
    go_ret
    exact⟨(hE.drewN _).drewN _,a0J hv.out.symm⟩
   ·have hdr':=hid (a5s heq.out hlt hk hdr.out (by omega))
    go_wp2_with fail
    go_quiet (fail)
    go_wp2_with fail
    go_quiet (fail)
    go_wp2_with fail
    go_roundw
    case rel=>exact⟨k - 1,by go_num,by omega,hdr',hE.drewN _⟩
    case measure=>simp[intOf];omega
  ·have hv:=hid (a6O hcan hcbn (k:=k) (by omega) hdr.out)
   go_wp2_with fail
   go_ret
   exact⟨hE,a0J hv.out.symm⟩
theorem b3J (X:Nat->Bool) (ao bo:Option Addr) (la lb:List Nat) (ca cb:Nat) (w:World) (hsa:Sl (a0d .u32) 1 (mk X w) ao la) (hsb:Sl (a0d .u32) 1 (mk X w) bo lb)
  (hda:Dig la) (hdb:Dig lb) (hla:la.length<=1099511627776) (hlb:lb.length<=1099511627776) (hX:∀k,X k=true->k<w.heap.size) (na nb:Nat) (hna:val la=na) (hnb:val lb=nb):
  Calls Tryz.prog 185 #[.slice ao la.length ca, .slice bo lb.length cb] w (a4i X w (na+nb)):=by
 go_enter Tryz.func185,Tryz.ntmps185
 go_wp2_with fail
 refine(a5Z X _ _ _ _ hsa hda (by omega) hX).mono ?_;rintro e w1 ⟨hE1,ao1,ca1,a,rfl,hca1,hcan,hsa1⟩;have hX1:∀k,X k=true->k<w1.heap.size:=fun k hk=>Nat.lt_of_lt_of_le (hX k hk) hE1.size;go_wp2_with fail
 refine(a5Z X _ _ _ _ (hsb.mono (a0d.mono _) (a0p hE1)) hdb (by omega) hX1).mono ?_;rintro e w2 ⟨hE2,bo1,cb1,b,rfl,hcb1,hcbn,hsb1⟩;have hX2:∀k,X k=true->k<w2.heap.size:=fun k hk=>Nat.lt_of_lt_of_le (hX1 k hk) hE2.size;have hal:a.length<=1099511627776:=by rw[hcan.len];exact Nat.le_trans (b1j la hda) hla
 have hbl:b.length<=1099511627776:=by rw[hcbn.len];exact Nat.le_trans (b1j lb hdb) hlb
 replace hsa1:=hsa1.mono (a0d.mono _) (a0p hE2)
 rw[hna]at hcan;rw[hnb]at hcbn;have hsum:Hid (nv a+nv b=na+nb):=hid (by rw[hcan.2.2,hcbn.2.2]);have hda1:=hcan.1;have hdb1:=hcbn.1;have hEE:=hE1.trans hE2;clear hna hnb hsa hsb hla hlb hcan hcbn hda hdb hE1 hE2 hX1;obtain⟨m,hm⟩:∃m,max a.length b.length=m:=⟨_,rfl⟩;have hma:a.length<=m:=by omega
 have hmb:b.length<=m:=by omega
 have hml:m<=1099511627776:=by omega
 have hmx:(if a.length<b.length then(b.length:Int)else(a.length:Int))=(m:Int):=by split<;>omega
 have hm':=hid hm;clear hm;go_wp2_with fail
 go_loopw [5,6,7] (fun v c i wr=>∃(k:Nat) (o:List Nat) (cy:Nat) (oo:Option Addr) (cp:Nat),i= .int .i64 k/\c= .int .u64 cy/\v= .slice oo o.length cp/\k<=m+1/\a2S a b o k cy/\OL (a0d .u32) 1 X w2.heap.size 147 wr oo cp o/\Ext w2 wr) (fun _ _ i _=>m+1 - (intOf i).toNat)
 case atStart=>exact⟨0,[],0,none,0,rfl,rfl,rfl,by omega,a2S.start a b,OL.nil _ _ _ _ _ _,ExtX.refl _⟩
 case round=>
  obtain⟨k,o,cy,oo,cp,rfl,rfl,rfl,hk,hinv,hO,hE⟩:=hrel;have hol:=hid hinv.1;have hcy:=hinv.2.2.1;have hXr:∀k,X k=true->k<wr.heap.size:=fun k hk=>Nat.lt_of_lt_of_le (hX2 k hk) hE.size;have hbase:w2.heap.size<=wr.heap.size:=hE.size;by_cases hlt:k<=m
  ·have hsa2:=hsa1.mono (a0d.mono _) (a0p hE)
   have hsb2:=hsb1.mono (a0d.mono _) (a0p hE);have hst:=hinv.step hda1 hdb1;have hx:=hda1.getD k;have hy:=hdb1.getD k;rw[a1l]at hx hy;obtain⟨x,hxe⟩:∃x,a.getD k 0=x:=⟨_,rfl⟩;obtain⟨y,hye⟩:∃y,b.getD k 0=y:=⟨_,rfl⟩;rw[hxe,hye]at hst;rw[hxe]at hx;rw[hye]at hy;have hxe':=hid hxe;have hye':=hid hye;clear hxe hye;go_wp2_with fail
   refine(a3D X ao1 a ca1 k _ hsa2 hda1 (by omega) x hxe'.out).mono ?_;rintro e w' ⟨rfl,rfl⟩;go_wp2_with fail
   refine(a3D X bo1 b cb1 k _ hsb2 hdb1 (by omega) y hye'.out).mono ?_;rintro e w' ⟨rfl,rfl⟩;have hlen:o.length<=2199023255552:=by rw[hol.out];omega
   go_wp2_with (at_builtin;refine a3T a0R rfl (a0d.elem .u32) hbase hXr rfl rfl hO (.int .u32 (((x+y+cy)%4294967296:Nat):Int)) ((x+y+cy)%4294967296) (by simp[Value.cells]) rfl (by omega) (by omega) ?_;intro ao2 cap2 w3 hO2 hE2 _)
   go_roundw
   case rel=>exact⟨k+1,_,(x+y+cy)/4294967296,ao2,cap2,by go_num,by simp,by simp,by omega,hst,hO2,hE.own hO (Nat.le_refl _) hE2⟩
   case measure=>simp[intOf];omega
  ·have hke:k=m+1:=by omega
   subst hke;have hdn:=hinv.done hda1 hdb1 hma hmb;have hod:=hinv.2.1;have hs3:=hO.sl (a0d.elem .u32);have hlen:o.length<=2199023255552:=by rw[hol.out];omega
   have hlc:=hO.lenCap;have hdn':=hid hdn;clear hdn;go_wp2_with fail
   refine(a4G X _ _ _ _ hs3 hod (by omega) hlc).mono ?_;rintro e w' ⟨rfl,l',rfl,hl',hc,hs'⟩;go_wp2_with fail
   go_ret
   rw[hdn'.out,hsum.out]at hc;exact⟨hEE.trans hE,_,_,_,rfl,by omega,hc,hs'⟩
end Go.Proofs.YtidbbddagfnfbaaGreat
namespace Go.Lim
def a3m (a b o:List Nat) (i c:Nat):Prop:=o.length=i/\Dig o/\c<=1/\nv o+nv (b.take i)=nv (a.take i)+B^i*c
theorem a3m.start (a b:List Nat):a3m a b [] 0 0:=⟨rfl,Dig.nil,by omega,by simp[nv]⟩
theorem a3m.step {a b o:List Nat} {i c x y:Nat} (h:a3m a b o i c) (hx:a.getD i 0=x) (hy:b.getD i 0=y) (ha:Dig a) (hb:Dig b):a3m a b (o++[a4q x y c]) (i+1) (a5W x y c):=by
 obtain⟨h1,h2,h3,h4⟩:=h;have hxB:=ha.getD i;have hyB:=hb.getD i;rw[hx]at hxB;rw[hy]at hyB;obtain⟨e1,e2,e3⟩:=a8P hxB hyB h3;refine⟨by simp[h1],h2.append (Dig.cons e2 Dig.nil),e3,?_⟩;rw[a1P,h1,a1i,a1i,hx,hy,Nat.pow_succ];generalize a4q x y c=d at*;generalize a5W x y c=c' at*;have e4:B^i*(d+y+c)=B^i*(x+B*c'):=by rw[e1]
 rw[Nat.mul_add,Nat.mul_add,Nat.mul_add]at e4;rw[Nat.mul_assoc];omega
theorem a3m.done {a b o:List Nat} {c:Nat} (h:a3m a b o a.length c) (hab:b.length<=a.length) (hle:nv b<=nv a):nv o=nv a - nv b:=by
 obtain⟨h1,h2,h3,h4⟩:=h;rw[List.take_of_length_le hab,List.take_of_length_le (Nat.le_refl _)]at h4;have h5:=a4w h2;rw[h1]at h5;rcases(by omega:c=0\/c=1)with rfl|rfl
 ·omega
 ·omega
theorem b1w {x y c:Nat} (hx:x<4294967296) (hy:y<4294967296) (hc:c<=1):(x+4294967296 - y - c)%4294967296=a4q x y c/\1 - (x+4294967296 - y - c)/4294967296=a5W x y c:=by
 unfold a4q a5W;refine⟨rfl,?_⟩;split<;>omega
def a4H (a:List Nat) (v by_:Nat) (o:List Nat) (i c:Nat):Prop:=o.length=by_+i/\Dig o/\c<B/\nv o+B^(by_+i)*c=B^by_*(nv (a.take i)*v)
theorem a4H.start (a:List Nat) (v by_:Nat):a4H a v by_ (List.replicate by_ 0) 0 0:=⟨by simp,Dig.zeros _,a2m,by simp[nv,a9G]⟩
theorem a4H.step {a o:List Nat} {v by_ i c x:Nat} (h:a4H a v by_ o i c) (hx:a.getD i 0=x) (ha:Dig a) (hv:v<4294967296):
  a4H a v by_ (o++[(x*v+c)%4294967296]) (i+1) ((x*v+c)/4294967296)/\x*v+c<18446744073709551616:=by
 obtain⟨h1,h2,h3,h4⟩:=h;have hxB:=ha.getD i;rw[hx,a1l]at hxB;rw[a1l]at h3;have hm:x*v<=4294967295*4294967295:=Nat.mul_le_mul (by omega) (by omega);have hlt:x*v+c<18446744073709551616:=by omega
 refine⟨⟨by simp[h1];omega,h2.append (Dig.cons (by rw[a1l];exact Nat.mod_lt _ (by decide)) Dig.nil),by rw[a1l];omega,?_⟩,hlt⟩;rw[a1P,h1,a1i,hx,<-Nat.add_assoc,Nat.pow_succ];have e:=Nat.div_add_mod (x*v+c) 4294967296;generalize (x*v+c)/4294967296=q at*;generalize (x*v+c)%4294967296=r at*;have e1:B^(by_+i)*(4294967296*q+r)=B^(by_+i)*(x*v+c):=by rw[e]
 rw[Nat.mul_add,Nat.mul_add]at e1;have e2:B^(by_+i)*B*q=B^(by_+i)*(4294967296*q):=by rw[a1l,Nat.mul_assoc]
 have e3:B^by_*((nv (a.take i)+B^i*x)*v)=B^by_*(nv (a.take i)*v)+B^(by_+i)*(x*v):=by
  rw[Nat.add_mul,Nat.mul_add,Nat.pow_add,Nat.mul_assoc (B^i),<-Nat.mul_assoc (B^by_) (B^i)]
 rw[e2,e3];omega
theorem a4H.done {a o:List Nat} {v by_ c:Nat} (h:a4H a v by_ o (a.length+1) c) (ha:Dig a) (hv:v<4294967296):Dig o/\nv o=nv a*v*B^by_:=by
 obtain⟨h1,h2,h3,h4⟩:=h;rw[List.take_of_length_le (by omega)]at h4;have h5:=a4w ha;have hc:c=0:=by
  by_cases h0:c=0
  ·exact h0
  ·have e1:B^(by_+(a.length+1))*1<=B^(by_+(a.length+1))*c:=Nat.mul_le_mul_left _ (by omega)
   have e2:nv a*v<B^(a.length+1):=by
    rw[Nat.pow_succ];exact Nat.lt_of_le_of_lt (Nat.mul_le_mul_left _ (Nat.le_of_lt (show v<B by rw[a1l];exact hv))) (Nat.mul_lt_mul_of_pos_right h5 a2m)
   have e3:B^by_*(nv a*v)<B^by_*B^(a.length+1):=Nat.mul_lt_mul_of_pos_left e2 (Nat.pow_pos a2m);rw[<-Nat.pow_add]at e3;omega
 subst hc;exact⟨h2,by rw[Nat.mul_zero,Nat.add_zero]at h4;rw[h4,Nat.mul_comm]⟩
theorem b3K {l:List Nat} (hd:Dig l) (k:Nat):l.getD k 0=nv l/B^k%B:=by
 by_cases hk:k<l.length
 ·have h1:=a2b l k (by omega)
  have h2:=a1M hd k;have h3:nv (l.drop k)=l[k]+B*nv (l.drop (k+1)):=a5g hk;have hQ:0<B^k:=Nat.pow_pos a2m;rw[a0y hk,h1,Nat.add_mul_div_left _ _ hQ,Nat.div_eq_of_lt h2,Nat.zero_add,h3,Nat.add_mul_mod_self_left,Nat.mod_eq_of_lt (hd.get k hk)]
 ·have h1:=a4w hd
  have h2:B^l.length<=B^k:=Nat.pow_le_pow_right a2m (by omega);rw[a3W (by omega),Nat.div_eq_of_lt (by omega)];simp
theorem b8D {l:List Nat} {n:Nat} (h:a0I l n) (i:Nat):l.getD (i/32) 0/2^(i%32)%2=n/2^i%2:=by
 rw[b3K h.1,h.2.2];have e:i=32*(i/32)+i%32:=by omega
 have hs:i%32<32:=Nat.mod_lt _ (by decide);generalize i/32=p at*;generalize i%32=s at*;subst e;rw[b3B,Nat.pow_add,<-Nat.div_div_eq_div_mul];generalize n/2^(32*p)=y;have hB:B=2^s*(2*2^(31 - s)):=by
  rw[a1l,<-Nat.pow_succ',<-Nat.pow_add,show s+(31 - s).succ=32 by omega]
 rw[hB,Nat.mod_mul_right_div_self];rw[Nat.mod_mul_right_mod]
def a2P (a b q r i:Nat):Prop:=q=a/2^i/b/\r=a/2^i%b
theorem a2P.start {a b k:Nat} (h:a<2^k):a2P a b 0 0 k:=by
 unfold a2P;rw[Nat.div_eq_of_lt h];exact⟨by simp,by simp⟩
theorem a2P.step {a b q r i t:Nat} (h:a2P a b q r (i+1)) (hb:0<b) (ht:a/2^i%2=t):r<b/\(2*r+t<b->a2P a b (2*q) (2*r+t) i)/\(b<=2*r+t->a2P a b (2*q+1) (2*r+t - b) i):=by
 obtain⟨h1,h2⟩:=h;rw[Nat.pow_succ,<-Nat.div_div_eq_div_mul]at h1 h2;have e:=Nat.div_add_mod (a/2^i) 2;rw[ht]at e;have e2:=Nat.div_add_mod (a/2^i/2) b;rw[<-h1,<-h2]at e2;have hr:r<b:=by rw[h2];exact Nat.mod_lt _ hb
 unfold a2P;generalize a/2^i=y at*;generalize y/2=z at*;have e3:y=b*(2*q)+(2*r+t):=by
  rw[Nat.mul_left_comm];omega
 refine⟨hr,fun hlt=>?_,fun hge=>?_⟩
 ·rw[e3]
  exact⟨by rw[Nat.mul_add_div hb,Nat.div_eq_of_lt hlt,Nat.add_zero],by rw[Nat.mul_add_mod,Nat.mod_eq_of_lt hlt]⟩
 ·have hlt:2*r+t - b<b:=by omega
  have e4:y=b*(2*q+1)+(2*r+t - b):=by rw[e3,Nat.mul_add,Nat.mul_one];omega
  rw[e4];exact⟨by rw[Nat.mul_add_div hb,Nat.div_eq_of_lt hlt,Nat.add_zero],by rw[Nat.mul_add_mod,Nat.mod_eq_of_lt hlt]⟩
theorem a2P.done {a b q r:Nat} (h:a2P a b q r 0):q=a/b/\r=a%b:=by
 unfold a2P at h;simpa using h
end Go.Lim
namespace Go.Rep
open Go.RowKit Go.Lim
def HX (X:Nat->Bool) (w:World):Prop:=∀k,X k=true->k<w.heap.size
theorem HX.ext {X Y:Nat->Bool} {w w':World} (h:HX X w) (hE:ExtX Y w w'):HX X w':=fun k hk=>Nat.lt_of_lt_of_le (h k hk) hE.size
theorem HX.none (w:World):HX noY w:=fun k hk=>by simp[noY]at hk
def NV (h:Mem) (u:Value) (n:Nat):Prop:=∃ao c l,u= .slice ao l.length c/\l.length<=c/\Dig l/\l.length<=1099511627776/\Sl (a0d .u32) 1 h ao l/\val l=n
def NC (h:Mem) (u:Value) (n:Nat):Prop:=∃ao c l,u= .slice ao l.length c/\l.length<=c/\a0I l n/\Sl (a0d .u32) 1 h ao l
theorem NV.mono:a3v NV:=by rintro h h' u x hl ⟨ao,c,l,rfl,h1,h2,h3,h4,h5⟩;exact⟨ao,c,l,rfl,h1,h2,h3,h4.mono (a0d.mono _) hl,h5⟩
theorem NC.mono:a3v NC:=by rintro h h' u x hl ⟨ao,c,l,rfl,h1,h2,h3⟩;exact⟨ao,c,l,rfl,h1,h2,h3.mono (a0d.mono _) hl⟩
theorem NC.nv {h:Mem} {u:Value} {n:Nat} (hu:NC h u n) (hn:lg n<=1099511627776):NV h u n:=by
 obtain⟨ao,c,l,rfl,h1,h2,h3⟩:=hu;exact⟨ao,c,l,rfl,h1,h2.1,by rw[h2.len];exact hn,h3,h2.val⟩
theorem NC.zero (h:Mem):NC h (.slice none 0 0) 0:=⟨none,0,[],rfl,Nat.le_refl _,a0I.nil,Sl.nil _ _ _ _⟩
theorem NC.one {h:Mem} {ao:Option Addr} {c:Nat} (hc:1<=c) (hs:Sl (a0d .u32) 1 h ao [1]):NC h (.slice ao 1 c) 1:=⟨ao,c,[1],rfl,hc,a9I (by omega) (by omega),hs⟩
theorem NV.lg {h:Mem} {u:Value} {n:Nat} (hu:NV h u n):lg n<=1099511627776:=by
 obtain⟨ao,c,l,rfl,h1,h2,h3,h4,rfl⟩:=hu;exact Nat.le_trans (b1j l h2) h3
def a1Z {α:Type} (X:Nat->Bool) (w:World) (R:Mem->Value->α->Prop) (x:α) (e:Ending) (w':World):Prop:=Ext w w'/\∃u,e= .returned u/\R (mk X w') u x
theorem mkx {X:Nat->Bool} {w w':World} {α:Type} {R:Mem->Value->α->Prop} (hR:a3v R) {u:Value} {x:α} (h:R (mk X w) u x) (hE:Ext w w'):R (mk X w') u x:=hR _ _ _ _ (a0p hE) h
end Go.Rep
namespace Go.Proofs.YtidbbddagfnfbaaGreat
open Go.RowKit Go.Rep Go.Lim
theorem a4i.r {X:Nat->Bool} {w:World} {n:Nat} {e:Ending} {w':World} (h:a4i X w n e w'):a1Z X w NC n e w':=by
 obtain⟨hE,ao,c,l,rfl,h1,h2,h3⟩:=h;exact⟨hE,_,rfl,ao,c,l,rfl,h1,h2,h3⟩
section
variable {X:Nat->Bool} {w:World} {u v:Value} {a b:Nat}
theorem b9U (hX:HX X w) (hu:NV (mk X w) u a) (hv:NV (mk X w) v b):Calls Tryz.prog 194 #[u,v] w (a1Z X w NC (a+b)):=by
 obtain⟨ao,c,l,rfl,h1,h2,h3,h4,h5⟩:=hu;obtain⟨bo,d,m,rfl,k1,k2,k3,k4,k5⟩:=hv;exact(b6p X ao bo l m c d w h4 k4 h2 k2 h3 k3 h1 k1 hX a b h5 k5).mono fun _ _ h=>h.r
theorem b5D (hX:HX X w) (hu:NV (mk X w) u a) (hv:NV (mk X w) v b):Calls Tryz.prog 179 #[u,v] w (a1Z X w NC (a*b)):=by
 obtain⟨ao,c,l,rfl,h1,h2,h3,h4,h5⟩:=hu;obtain⟨bo,d,m,rfl,k1,k2,k3,k4,k5⟩:=hv;exact(b6q X ao bo l m c d w h4 k4 h2 k2 h3 k3 h1 k1 hX a b h5 k5).mono fun _ _ h=>h.r
theorem c0D (hX:HX X w) (hu:NV (mk X w) u a) (hv:NV (mk X w) v b):Calls Tryz.prog 244 #[u,v] w (a1Z X w NC (Nat.gcd a b)):=by
 obtain⟨ao,c,l,rfl,h1,h2,h3,h4,h5⟩:=hu;obtain⟨bo,d,m,rfl,k1,k2,k3,k4,k5⟩:=hv;exact(b6G X ao bo l m c d w h4 k4 h2 k2 h3 k3 h1 k1 hX a b h5 k5).mono fun _ _ h=>h.r
theorem b9N (hu:NV (mk X w) u a) (hv:NV (mk X w) v b):Calls Tryz.prog 196 #[u,v] w (a4j w (a2R a b)):=by
 obtain⟨ao,c,l,rfl,h1,h2,h3,h4,h5⟩:=hu;obtain⟨bo,d,m,rfl,k1,k2,k3,k4,k5⟩:=hv;exact a3k X ao bo l m c d w h4 k4 h2 k2 h3 k3 h1 k1 a b h5 k5
def c0E (X:Nat->Bool) (w:World) (q r:Nat) (e:Ending) (w':World):Prop:=Ext w w'/\∃u v,e= .returned (.tuple #[u,v, .bool true])/\NC (mk X w') u q/\NC (mk X w') v r
theorem c0F (hX:HX X w) (hu:NV (mk X w) u a) (hv:NV (mk X w) v b) (hb:0<b):Calls Tryz.prog 245 #[u,v] w (c0E X w (a/b) (a%b)):=by
 obtain⟨ao,c,l,rfl,h1,h2,h3,h4,h5⟩:=hu;obtain⟨bo,d,m,rfl,k1,k2,k3,k4,k5⟩:=hv;refine(a8S X ao bo l m c d w h4 k4 h2 k2 h3 k3 h1 k1 hX a b h5 k5 hb).mono ?_;rintro e w' ⟨hE,a1,c1,l1,a2,c2,l2,rfl,q1,q2,q3,q4,q5,q6⟩;exact⟨hE,_,_,rfl,⟨a1,c1,l1,rfl,q1,q2,q3⟩,⟨a2,c2,l2,rfl,q4,q5,q6⟩⟩
def c0G (X:Nat->Bool) (w:World) (d:Nat) (b:Bool) (e:Ending) (w':World):Prop:=Ext w w'/\∃u,e= .returned (.tuple #[u, .bool b])/\NC (mk X w') u d
theorem c0H (hX:HX X w) (hu:NV (mk X w) u a) (hv:NV (mk X w) v b):Calls Tryz.prog 243 #[u,v] w (c0G X w (a - b) (decide (b<=a))):=by
 obtain⟨ao,c,l,rfl,h1,h2,h3,h4,h5⟩:=hu;obtain⟨bo,d,m,rfl,k1,k2,k3,k4,k5⟩:=hv;refine(b6z X ao bo l m c d w h4 k4 h2 k2 h3 k3 h1 k1 hX a b h5 k5).mono ?_;rintro e w' ⟨hE,a1,c1,l1,rfl,q1,q2,q3⟩;exact⟨hE,_,rfl,a1,c1,l1,rfl,q1,q2,q3⟩
theorem b8E (hX:HX X w) (ha:a<18446744073709551616):Calls Tryz.prog 241 #[.int .u64 a] w (a1Z X w NC a):=
 (a3z X a w ha hX).mono fun _ _ h=>h.r
theorem b3L (hX:HX X w) (hu:NV (mk X w) u a) (hv:NV (mk X w) v b):Calls Tryz.prog 185 #[u,v] w (a1Z X w NC (a+b)):=by
 obtain⟨ao,c,l,rfl,h1,h2,h3,h4,h5⟩:=hu;obtain⟨bo,d,m,rfl,k1,k2,k3,k4,k5⟩:=hv;exact(b3J X ao bo l m c d w h4 k4 h2 k2 h3 k3 hX a b h5 k5).mono fun _ _ h=>h.r
theorem a3E (hX:HX X w) (hu:NV (mk X w) u a):Calls Tryz.prog 189 #[u] w (a1Z X w NC a):=by
 obtain⟨ao,c,l,rfl,h1,h2,h3,h4,rfl⟩:=hu;exact(a5Z X ao l c w h4 h2 (by omega) hX).mono fun _ _ h=>h.r
theorem b5E (hX:HX X w) (ha:a<18446744073709551616):Calls Tryz.prog 186 #[.int .u64 a] w (a1Z X w NC a):=
 (a7t X a w ha hX).mono fun _ _ h=>h.r
end
end Go.Proofs.YtidbbddagfnfbaaGreat
namespace Go.Proofs.YtidbbddagfnfbaaGreat
open Go.RowKit Go.Rep Go.Lim
theorem b6H (X:Nat->Bool) (w:World) (u v:Value) (na nb:Nat) (hX:HX X w) (hu:NV (mk X w) u na) (hv:NV (mk X w) v nb):Calls Tryz.prog 210 #[u,v] w (c0G X w (na - nb) (decide (nb<=na))):=by
 have hla:=hu.lg;have hlb:=hv.lg;go_enter Tryz.func210,Tryz.ntmps210
 go_wp2_with fail
 refine(a3E hX hu).mono ?_;rintro e w1 ⟨hE1,u1,rfl,hu1⟩;go_wp2_with fail
 refine(a3E (hX.ext hE1) (mkx NV.mono hv hE1)).mono ?_;rintro e w2 ⟨hE2,v1,rfl,hv1⟩;obtain⟨ao,ca,a,rfl,hca,hcan,hsa⟩:=mkx NC.mono hu1 hE2;obtain⟨bo,cb,b,rfl,hcb,hcbn,hsb⟩:=hv1;have hX2:=hX.ext (hE1.trans hE2);have hal:a.length<=1099511627776:=by rw[hcan.len];exact hla
 have hbl:b.length<=1099511627776:=by rw[hcbn.len];exact hlb
 have hE12:=hE1.trans hE2;have hlen1:=hid hcan.len;have hlen2:=hid hcbn.len;clear hu hv hu1 hE1 hE2 hX hla hlb;go_wp2_with fail
 refine(a7u X ao bo a b ca cb w2 hsa hsb hal na nb hcan hcbn).mono ?_;rintro e w3 ⟨hE3,rfl⟩;have hX3:=hX2.ext hE3;have hE13:=hE12.trans hE3;by_cases hlt:na<nb
 ·have hc:a2R na nb<0:=(a3y _ _).2 hlt
  have hd:Hid (decide (nb<=na)=false):=hid (decide_eq_false (by omega));have hz:Hid (na - nb=0):=hid (by omega);clear hlt;go_wp2_with fail
  go_ret2
  exact⟨hE13, .slice none 0 0,by rw[hd.out];rfl,by rw[hz.out];exact NC.zero _⟩
 ·have hc:¬a2R na nb<0:=fun h=>hlt ((a3y _ _).1 h)
  have hd:Hid (decide (nb<=na)=true):=hid (decide_eq_true (by omega));have hab:b.length<=a.length:=by rw[hlen1.out,hlen2.out];exact a1h (by omega)
  have hle:Hid (nv b<=nv a):=hid (by rw[hcan.2.2,hcbn.2.2];omega);have hsum:Hid (nv a - nv b=na - nb):=hid (by rw[hcan.2.2,hcbn.2.2]);have hda:=hcan.1;have hdb:=hcbn.1;have hsa3:=hsa.mono (a0d.mono _) (a0p hE3);have hsb3:=hsb.mono (a0d.mono _) (a0p hE3);clear hlt hcan hcbn hE3 hE12 hX2 hsa hsb hlen1 hlen2;go_wp2_with fail
  go_loopw [6,7,8] (fun v c i wr=>∃(k:Nat) (o:List Nat) (cy:Nat) (oo:Option Addr) (cp:Nat),i= .int .i64 k/\c= .int .u64 cy/\v= .slice oo o.length cp/\k<=a.length/\cy<=1/\Hid (a3m a b o k cy)/\o.length<=k/\OL (a0d .u32) 1 X w3.heap.size 147 wr oo cp o/\Ext w3 wr) (fun _ _ i _=>a.length - (intOf i).toNat)
  case atStart=>exact⟨0,[],0,none,0,rfl,rfl,rfl,by omega,by omega,hid (a3m.start a b),by simp,OL.nil _ _ _ _ _ _,ExtX.refl _⟩
  case round=>
   obtain⟨k,o,cy,oo,cp,rfl,rfl,rfl,hk,hcy,hinv,hol,hO,hE⟩:=hrel;have hXr:∀k,X k=true->k<wr.heap.size:=fun k hk=>Nat.lt_of_lt_of_le (hX3 k hk) hE.size;have hbase:w3.heap.size<=wr.heap.size:=hE.size;by_cases hlt:k<a.length
   ·have hsa2:=hsa3.mono (a0d.mono _) (a0p hE)
    have hsb2:=hsb3.mono (a0d.mono _) (a0p hE);have hx:=hda.getD k;have hy:=hdb.getD k;rw[a1l]at hx hy;obtain⟨x,hxe⟩:∃x,a.getD k 0=x:=⟨_,rfl⟩;obtain⟨y,hye⟩:∃y,b.getD k 0=y:=⟨_,rfl⟩;rw[hxe]at hx;rw[hye]at hy;have hst:=hid (hinv.out.step hxe hye hda hdb);have hsd:=hid (b1w hx hy hcy);have hcy2:a5W x y cy<=1:=by unfold a5W;split<;>omega
    have hxe':=hid hxe;have hye':=hid hye;clear hxe hye hinv;go_wp2_with fail
    refine(a3D X ao a ca k _ hsa2 hda (by omega) x hxe'.out).mono ?_;rintro e w' ⟨rfl,rfl⟩;go_wp2_with fail
    refine(a3D X bo b cb k _ hsb2 hdb (by omega) y hye'.out).mono ?_;rintro e w' ⟨rfl,rfl⟩;go_wp2_with (at_builtin;refine a3T a0R rfl (a0d.elem .u32) hbase hXr rfl rfl hO (.int .u32 ((a4q x y cy:Nat):Int)) (a4q x y cy) (by rw[<-hsd.out.1];simp[Value.cells];omega) rfl (by omega) (by omega) ?_;intro ao2 cap2 w5 hO2 hE2 _)
    have hcI:Hid ((1:Int) - ((x:Int)+4294967296 - (y:Int) - (cy:Int))/4294967296=((a5W x y cy:Nat):Int)):=hid (by have:=hsd.out.2;omega);go_roundw
    case rel=>exact⟨k+1,_,a5W x y cy,ao2,cap2,by go_num,by rw[hcI.out],by simp,by omega,hcy2,hst,by simp;omega,hO2,hE.own hO (Nat.le_refl _) hE2⟩
    case measure=>simp[intOf];omega
   ·have hke:k=a.length:=by omega
    subst hke;have hdn:=hid (hinv.out.done hab hle.out);have hod:=hinv.out.2.1;have hs3:=hO.sl (a0d.elem .u32);have hlc:=hO.lenCap;go_wp2_with fail
    refine(a4G X _ _ _ _ hs3 hod (by omega) hlc).mono ?_;rintro e w' ⟨rfl,l',rfl,hl',hc,hs'⟩;go_wp2_with fail
    go_ret2
    rw[hdn.out,hsum.out]at hc;exact⟨hE13.trans hE,_,by rw[hd.out];rfl,oo,cp,l',rfl,by omega,hc,hs'⟩
theorem b1x (X:Nat->Bool) (w:World) (u:Value) (n v by_:Nat) (hX:HX X w) (hu:NC (mk X w) u n) (hn:lg n<=549755813888) (hb:by_<=549755813888) (hv:v<4294967296):Calls Tryz.prog 266 #[u, .int .u32 v, .int .i64 by_] w (a1Z X w NC (n*v*B^by_)):=by
 obtain⟨ao,ca,a,rfl,hca,hcan,hsa⟩:=hu;have hal:a.length<=549755813888:=by rw[hcan.len];exact hn
 have hda:=hcan.1;have hnv:=hid hcan.2.2;clear hcan hn;go_enter Tryz.func266,Tryz.ntmps266
 go_wp2_with (at_make;refine a2C a0R (a0d.elem .u32) 0 (fun _=>rfl) X hX w.heap.size (Nat.le_refl _) by_ rfl rfl (by omega) (by omega) (by omega) ?_;intro oo w1 hO hE1)
 go_loopw [7,8,9] (fun v_ c i wr=>∃(k:Nat) (o:List Nat) (cy:Nat) (oo:Option Addr) (cp:Nat),i= .int .i64 k/\c= .int .u64 cy/\v_= .slice oo o.length cp/\k<=a.length+1/\cy<4294967296/\Hid (a4H a v by_ o k cy)/\o.length<=by_+k/\OL (a0d .u32) 1 X w.heap.size 147 wr oo cp o/\Ext w wr) (fun _ _ i _=>a.length+1 - (intOf i).toNat)
 case atStart=>exact⟨0,_,0,oo,by_,rfl,rfl,by simp,by omega,by omega,hid (a4H.start a v by_),by simp,hO,hE1⟩
 case round=>
  clear hO hE1;obtain⟨k,o,cy,oo2,cp,rfl,rfl,rfl,hk,hcy,hinv,hol,hO,hE⟩:=hrel;have hXr:∀k,X k=true->k<wr.heap.size:=fun k hk=>Nat.lt_of_lt_of_le (hX k hk) hE.size;have hbase:w.heap.size<=wr.heap.size:=hE.size;by_cases hlt:k<=a.length
  ·have hsa2:=hsa.mono (a0d.mono _) (a0p hE)
   have hx:=hda.getD k;rw[a1l]at hx;obtain⟨x,hxe⟩:∃x,a.getD k 0=x:=⟨_,rfl⟩;rw[hxe]at hx;obtain⟨hst0,hlt0⟩:=hinv.out.step hxe hda hv;have hxe':=hid hxe;obtain⟨t,ht⟩:∃t,x*v+cy=t:=⟨_,rfl⟩;rw[ht]at hst0 hlt0;have hst:=hid hst0;have hw1:IntKind.u64.wrap ((x:Int)*(v:Int))=(x:Int)*(v:Int):=IntWalk.u64_in _ (by rw[<-Int.natCast_mul];omega);have hw2:IntKind.u64.wrap ((x:Int)*(v:Int)+(cy:Int))=(t:Int):=by
    rw[<-ht,Int.natCast_add,Int.natCast_mul];exact IntWalk.u64_in _ (by rw[<-Int.natCast_mul];omega)
   have hcy2:t/4294967296<4294967296:=by omega
   have hltI:decide ((k:Int)<=(a.length:Int))=true:=decide_eq_true (by omega);clear hxe hinv hst0 ht hlt0;go_wp2_with fail
   refine(a3D X ao a ca k _ hsa2 hda (by omega) x hxe'.out).mono ?_;rintro e w' ⟨rfl,rfl⟩;go_wp2_with (at_builtin;refine a3T a0R rfl (a0d.elem .u32) hbase hXr rfl rfl hO (.int .u32 ((t%4294967296:Nat):Int)) (t%4294967296) (by simp[Value.cells]) rfl (by omega) (by omega) ?_;intro ao2 cap2 w5 hO2 hE2 _)
   go_roundw
   case rel=>exact⟨k+1,_,t/4294967296,ao2,cap2,by go_num,by rw[Int.natCast_ediv];rfl,by simp,by omega,hcy2,hst,by simp;omega,hO2,hE.own hO (Nat.le_refl _) hE2⟩
   case measure=>simp[intOf];omega
  ·have hke:k=a.length+1:=by omega
   subst hke;have hdn0:=hinv.out.done hda hv;have hdn:=hid hdn0.2;have hod:=hdn0.1;have hs3:=hO.sl (a0d.elem .u32);have hlc:=hO.lenCap;have hltI:decide (((a.length+1:Nat):Int)<=(a.length:Int))=false:=decide_eq_false (by omega);clear hdn0 hinv;go_wp2_with fail
   refine(a4G X _ _ _ _ hs3 hod (by omega) hlc).mono ?_;rintro e w' ⟨rfl,l',rfl,hl',hc,hs'⟩;go_wp2_with fail
   go_ret
   rw[hdn.out,hnv.out]at hc;exact⟨hE,_,rfl,oo2,cp,l',rfl,by omega,hc,hs'⟩
theorem b3M (X:Nat->Bool) (w:World) (u v:Value) (na nb:Nat) (hX:HX X w) (hu:NV (mk X w) u na) (hv:NV (mk X w) v nb) (h1:lg na<=274877906944) (h2:lg nb<=274877906944):Calls Tryz.prog 211 #[u,v] w (a1Z X w NC (na*nb)):=by
 go_enter Tryz.func211,Tryz.ntmps211
 go_wp2_with fail
 refine(a3E hX hu).mono ?_;rintro e w1 ⟨hE1,u1,rfl,hu1⟩;go_wp2_with fail
 refine(a3E (hX.ext hE1) (mkx NV.mono hv hE1)).mono ?_;rintro e w2 ⟨hE2,v1,rfl,hv1⟩;have hu2:=mkx NC.mono hu1 hE2;obtain⟨bo,cb,b,rfl,hcb,hcbn,hsb⟩:=hv1;have hX2:=hX.ext (hE1.trans hE2);have hbl:b.length<=274877906944:=by rw[hcbn.len];exact h2
 have hE12:=hE1.trans hE2;have hdb:=hcbn.1;have hnb:=hid hcbn.2.2;have hhb:=hsb.hd;have h1':=hid h1;clear hu hv hu1 hE1 hE2 hX h2 hcbn h1;go_wp2_with fail
 go_loopw [5,6] (fun o i wr=>∃(k:Nat),i= .int .i64 k/\k<=b.length/\NC (mk X wr) o (na*nv (b.take k))/\Ext w2 wr) (fun _ i _=>b.length - (intOf i).toNat)
 case atStart=>exact⟨0,rfl,by omega,by simpa[nv]using NC.zero _,ExtX.refl _⟩
 case round=>
  obtain⟨k,rfl,hk,ho,hE⟩:=hrel;have hX3:=hX2.ext hE;by_cases hlt:k<b.length
  ·have hcell:=(hsb.mono (a0d.mono _) (a0p hE)).nat k hlt
   have hx:=hdb.get k hlt;obtain⟨x,hxe⟩:∃x,b[k]=x:=⟨_,rfl⟩;have hst:Hid (na*nv (b.take k)+na*x*B^k=na*nv (b.take (k+1))):=hid (by rw[a0F b k hlt,hxe,Nat.mul_add,Nat.mul_assoc na x,Nat.mul_comm x]);rw[hxe]at hcell hx;rw[a1l]at hx;have hsz:Hid (lg (na*nv (b.take k))<=1099511627776):=hid (by
    have e1:=a0X na (nv (b.take k));have e2:lg (nv (b.take k))<=k:=a2J.2 (a1M hdb k);have:=h1'.out;omega)
   have hsz2:Hid (lg (na*x*B^k)<=1099511627776):=hid (by
    have e1:na*x*B^k<B^(lg na+1+k):=by
     rw[Nat.pow_add,Nat.pow_succ];refine Nat.mul_lt_mul_of_pos_right ?_ (Nat.pow_pos a2m);refine Nat.lt_of_le_of_lt (Nat.mul_le_mul_left _ (show x<=B by rw[a1l];omega)) (Nat.mul_lt_mul_of_pos_right (a2J.1 (Nat.le_refl _)) a2m)
    have e2:=a2J.2 e1;have:=h1'.out;omega)
   clear hxe;go_wp2_with (with_reducible refine a0t a0R (by omega) (by assumption) ?_)
   refine(b1x X wr u1 na x k hX3 (mkx NC.mono hu2 hE) (by have:=h1'.out;omega) (by omega) hx).mono ?_;rintro e w4 ⟨hE4,t,rfl,ht⟩;go_wp2_with fail
   refine(b3L (hX3.ext hE4) (mkx NV.mono (ho.nv hsz.out) hE4) (ht.nv hsz2.out)).mono ?_;rintro e w5 ⟨hE5,t2,rfl,ht2⟩;rw[hst.out]at ht2;go_wp2_with fail
   go_roundw
   case rel=>exact⟨k+1,by go_num,by omega,ht2,hE.trans (hE4.trans hE5)⟩
   case measure=>simp[intOf];omega
  ·have hke:k=b.length:=by omega
   have hfin:na*nv (b.take k)=na*nb:=by rw[hke,List.take_length,hnb.out]
   rw[hfin]at ho;clear hfin hke;go_wp2_with fail
   go_ret
   exact⟨hE12.trans hE,_,rfl,ho⟩
end Go.Proofs.YtidbbddagfnfbaaGreat
namespace Go.Rep
open Go.RowKit Go.Lim
theorem NC.lit {X:Nat->Bool} {w:World} (hX:HX X w) (x:Nat) (t:TypeId) (h0:0<x) (h1:x<4294967296):NC (mk X (w.alloc (.cells #[.int .u32 (x:Int)] t))) (.slice (some ⟨w.heap.size,0,none⟩) 1 1) x:=by
 have hO:OL (a0d .u32) 1 X w.heap.size t (w.alloc (.cells #[.int .u32 (x:Int)] t)) (some ⟨w.heap.size,0,none⟩) 1 [x]:=
  OL.lit (a0d.elem .u32) hX (Nat.le_refl _) [.int .u32 (x:Int)] [x] _ (by simp[a0j,Value.cells]) rfl (fun i hi hi'=>by
   have:i=0:=by simp at hi;omega
   subst this;rfl) (by simp)
 exact⟨_,1,[x],rfl,Nat.le_refl _,a9I h0 h1,hO.sl (a0d.elem _)⟩
end Go.Rep
namespace Go.Proofs.YtidbbddagfnfbaaGreat
open Go.RowKit Go.Rep Go.Lim
theorem c0W (X:Nat->Bool) (w:World) (u:Value) (n i:Nat) (hu:NC (mk X w) u n) (hi:i<32*lg n) (hn:lg n<=1099511627776):Calls Tryz.prog 299 #[u, .int .i64 i] w fun e w'=>w=w'/\e= .returned (.int .u32 (n/2^i%2:Nat)):=by
 obtain⟨ao,ca,a,rfl,hca,hcan,hsa⟩:=hu;have hk:i/32<a.length:=by rw[hcan.len];omega
 have hal:a.length<=1099511627776:=by rw[hcan.len];exact hn
 have hcell:=hsa.nat (i/32) hk;have hb:=b8D hcan i;rw[a0y hk]at hb;have hx:=hcan.1.get (i/32) hk;obtain⟨x,hxe⟩:∃x,a[i/32]=x:=⟨_,rfl⟩;rw[hxe]at hcell hb hx;rw[a1l]at hx;have hh:=hsa.hd;have hb':=hid hb;have hxl:Hid (x<4294967296):=hid hx;have hiI:(i:Int)<=35184372088832:=by omega
 have e1:(i:Int)/32=((i/32:Nat):Int):=by omega
 have e2:(i:Int)%32=((i%32:Nat):Int):=by omega
 have e3:Hid (i%32<32):=hid (Nat.mod_lt _ (by decide));obtain⟨p,hp⟩:∃p,i/32=p:=⟨_,rfl⟩;obtain⟨q,hq⟩:∃q,i%32=q:=⟨_,rfl⟩;rw[hp]at e1 hk hcell;rw[hq]at e2 e3;have hq32:q<32:=e3.out;have hbb:Hid (x/2^q%2=n/2^i%2):=hid (by rw[<-hq];exact hb);clear hxe hb hp hq hb' e3 hcan hx hsa;go_enter Tryz.func299,Tryz.ntmps299
 go_wp2_with (with_reducible refine a0t a0R (by omega) (by assumption) ?_)
 go_ret
 have hdl:x/2^q<4294967296:=Nat.lt_of_le_of_lt (Nat.div_le_self _ _) hxl.out;have hv:=a2t (x/2^q) 1 hdl (by omega);rw[Nat.and_one_is_mod,hbb.out]at hv;exact⟨rfl,a0J (by simpa using hv)⟩
theorem a8T (X:Nat->Bool) (w:World) (u:Value) (n t:Nat) (hX:HX X w) (hu:NC (mk X w) u n) (hn:lg n<=549755813887) (ht:t<=1):Calls Tryz.prog 298 #[u, .int .u32 t] w (a1Z X w NC (2*n+t)):=by
 have hsz:Hid (lg (n*2*B^0)<=1099511627776):=hid (by
  have e1:=a0X n 2;have e2:lg 2=1:=a2V (by omega) (by omega);rw[Nat.pow_zero,Nat.mul_one];omega)
 have hs1:Hid (lg 1<=1099511627776):=hid (by rw[a3s];decide);have hst:Hid (n*2*B^0=2*n):=hid (by rw[Nat.pow_zero,Nat.mul_one,Nat.mul_comm]);go_enter Tryz.func298,Tryz.ntmps298
 go_wp2_with fail
 refine(b1x X w u n 2 0 hX hu (by omega) (by omega) (by omega)).mono ?_;rintro e w1 ⟨hE1,u1,rfl,hu1⟩;have hX1:=hX.ext hE1;rcases(by omega:t=0\/t=1)with rfl|rfl
 ·rw[hst.out]at hu1
  go_wp2_with fail
  go_ret
  exact⟨hE1,_,rfl,hu1⟩
 ·go_wp2_with fail
  have hl:=NC.lit hX1 1 147 (by omega) (by omega);have hE2:=hE1.alloc (.cells #[.int .u32 ((1:Nat):Int)] 147);have hE3:Ext w1 (w1.alloc (.cells #[.int .u32 ((1:Nat):Int)] 147)):=(ExtX.refl w1).alloc _;refine(b3L (hX1.ext hE3) (mkx NV.mono (hu1.nv hsz.out) hE3) (hl.nv hs1.out)).mono ?_;rintro e w5 ⟨hE5,t2,rfl,ht2⟩;rw[hst.out]at ht2;go_wp2_with fail
  go_ret
  exact⟨hE2.trans hE5,_,rfl,ht2⟩
theorem b8F (X:Nat->Bool) (w:World) (u v:Value) (na nb:Nat) (hX:HX X w) (hu:NV (mk X w) u na) (hv:NV (mk X w) v nb) (h1:lg na<=274877906944) (h2:lg nb<=274877906944) (h0:0<nb):Calls Tryz.prog 249 #[u,v] w (c0E X w (na/nb) (na%nb)):=by
 go_enter Tryz.func249,Tryz.ntmps249
 go_wp2_with fail
 refine(a3E hX hu).mono ?_;rintro e w1 ⟨hE1,u1,rfl,hu1⟩;go_wp2_with fail
 refine(a3E (hX.ext hE1) (mkx NV.mono hv hE1)).mono ?_;rintro e w2 ⟨hE2,v1,rfl,hv1⟩;have hu2:=mkx NC.mono hu1 hE2;obtain⟨ao,ca,a,rfl,hca,hcan,hsa⟩:=id hu2;obtain⟨bo,cb,b,rfl,hcb,hcbn,hsb⟩:=id hv1;have hX2:=hX.ext (hE1.trans hE2);have hal:a.length<=274877906944:=by rw[hcan.len];exact h1
 have hall:=hid hcan.len;have hE12:=hE1.trans hE2;have hbl:¬b.length=0:=by have:=a1k hcbn;omega
 have hbI:(0:Int)<(b.length:Int):=by omega
 have hbz:((b.length:Int)==0)=false:=a2I (by omega);have hst:Hid (a2P na nb 0 0 (32*a.length)):=hid (a2P.start (by rw[<-b3B,hcan.len];exact a2J.1 (Nat.le_refl _)));have h1':=hid h1;have h2':=hid h2;have h0':=hid h0;clear hu hv hu1 hE1 hE2 hX h1 h2 h0 hcan hcbn hsa hsb hbl hca hcb;go_wp2_with fail
 go_loopw [7,8,9] (fun q r i wr=>∃(k Q R:Nat) (x:Int),i= .int .i64 x/\x=(k:Int) - 1/\k<=32*a.length/\Hid (a2P na nb Q R k)/\NC (mk X wr) q Q/\NC (mk X wr) r R/\Ext w2 wr) (fun _ _ i _=>(intOf i+1).toNat)
 case atStart=>exact⟨32*a.length,0,0,_,rfl,by omega,by omega,hst,NC.zero _,NC.zero _,ExtX.refl _⟩
 case round=>
  obtain⟨k,Q,R,x,rfl,hx,hk,hinv,hq,hr,hE⟩:=hrel;have hX3:=hX2.ext hE;cases k with
  |zero=>
   obtain rfl:x= -1:=by omega
   obtain⟨rfl,rfl⟩:=hinv.out.done;clear hinv hx hst;go_wp2_with fail
   go_ret3
   exact⟨hE12.trans hE,_,_,rfl,hq,hr⟩
  |succ i=>
   obtain rfl:x=(i:Int):=by omega
   have hi:i<32*lg na:=by rw[<-hall.out];omega
   obtain⟨t,ht⟩:∃t,na/2^i%2=t:=⟨_,rfl⟩;have ht1:t<=1:=by omega
   obtain⟨hR,hs1,hs2⟩:=hinv.out.step h0'.out ht;have hQb:Hid (lg Q<=274877906944):=hid (by
    have e1:Q<=na:=by rw[hinv.out.1];exact Nat.le_trans (Nat.div_le_self _ _) (Nat.div_le_self _ _)
    exact Nat.le_trans (a1h e1) h1'.out)
   have hRb:Hid (lg R<=274877906944):=hid (Nat.le_trans (a1h (Nat.le_of_lt hR)) h2'.out);have hRb2:Hid (lg (2*R+t)<=1099511627776):=hid (by
    have e1:=a9H (2*R) t;have e2:=a0X 2 R;have e3:lg 2=1:=a2V (by omega) (by omega);have e4:lg t<=1:=by have:=a1h ht1;rw[a3s]at this;exact this
    have:=hRb.out;omega)
   have hs1':=hid hs1;have hs2':=hid hs2;have hbit:=c0W X wr _ na i (mkx NC.mono hu2 hE) hi (by have:=h1'.out;omega);rw[ht]at hbit;clear hinv hR hs1 hs2 hst ht hi hx;go_wp2_with fail
   refine hbit.mono ?_;rintro e w' ⟨rfl,rfl⟩;go_wp2_with fail
   refine(a8T X wr _ R t hX3 hr (by have:=hRb.out;omega) ht1).mono ?_;rintro e w4 ⟨hE4,r1,rfl,hr1⟩;have hX4:=hX3.ext hE4;have hq4:=mkx NC.mono hq hE4;have hb4:=(mkx NC.mono hv1 (hE.trans hE4)).nv (by have:=h2'.out;omega);clear hbit;go_wp2_with fail
   refine(b6H X w4 r1 _ (2*R+t) nb hX4 (hr1.nv hRb2.out) hb4).mono ?_;rintro e w5 ⟨hE5,d,rfl,hd⟩;have hX5:=hX4.ext hE5;have hq5:=mkx NC.mono hq4 hE5;by_cases hge:nb<=2*R+t
   ·have hi2:=hid (hs2'.out hge)
    have hdt:decide (nb<=2*R+t)=true:=decide_eq_true hge;rw[hdt];clear hge hdt;go_wp2_with fail
    refine(a8T X w5 _ Q 1 hX5 hq5 (by have:=hQb.out;omega) (by omega)).mono ?_;rintro e w6 ⟨hE6,q1,rfl,hq1⟩;go_wp2_with fail
    go_roundw
    case rel=>exact⟨i,_,_,_,rfl,rfl,by omega,hi2,hq1,mkx NC.mono hd hE6,hE.trans (hE4.trans (hE5.trans hE6))⟩
    case measure=>simp[intOf]
   ·have hi2:=hid (hs1'.out (by omega))
    have hdt:decide (nb<=2*R+t)=false:=decide_eq_false hge;rw[hdt];clear hge hdt;go_wp2_with fail
    refine(a8T X w5 _ Q 0 hX5 hq5 (by have:=hQb.out;omega) (by omega)).mono ?_;rintro e w6 ⟨hE6,q1,rfl,hq1⟩;go_wp2_with fail
    go_roundw
    case rel=>exact⟨i,_,_,_,rfl,rfl,by omega,hi2,hq1,mkx NC.mono hr1 (hE5.trans hE6),hE.trans (hE4.trans (hE5.trans hE6))⟩
    case measure=>simp[intOf]
theorem b8G (X:Nat->Bool) (w:World) (u v:Value) (na nb:Nat) (hX:HX X w) (hu:NV (mk X w) u na) (hv:NV (mk X w) v nb) (h1:lg na<=274877906944) (h2:lg nb<=274877906944):Calls Tryz.prog 248 #[u,v] w (a1Z X w NC (Nat.gcd na nb)):=by
 go_enter Tryz.func248,Tryz.ntmps248
 go_wp2_with fail
 refine(a3E hX hu).mono ?_;rintro e w1 ⟨hE1,u1,rfl,hu1⟩;go_wp2_with fail
 refine(a3E (hX.ext hE1) (mkx NV.mono hv hE1)).mono ?_;rintro e w2 ⟨hE2,v1,rfl,hv1⟩;have hu2:=mkx NC.mono hu1 hE2;have hX2:=hX.ext (hE1.trans hE2);have hE12:=hE1.trans hE2;have h1':=hid h1;have h2':=hid h2;clear hu hv hu1 hE1 hE2 hX h1 h2;go_wp2_with fail
 go_loopw [0,1] (fun x y wr=>∃(p q:Nat) (bo:Option Addr) (l cb:Nat),y= .slice bo l cb/\NC (mk X wr) x p/\NC (mk X wr) (.slice bo l cb) q/\Hid (lg p<=274877906944)/\Hid (lg q<=274877906944)/\Hid (Nat.gcd p q=Nat.gcd na nb)/\Ext w2 wr) (fun _ y W=>b9T W y)
 case atStart=>
  obtain⟨bo,cb,b,rfl,_⟩:=id hv1;exact⟨na,nb,bo,_,cb,rfl,hu2,hv1,h1',h2',hid rfl,ExtX.refl _⟩
 case round=>
  obtain⟨p,q,bo,l,cb,rfl,hx,hy,hp,hq,hg,hE⟩:=hrel;have hX3:=hX2.ext hE;obtain⟨bo',cb',b,heq,hcb,hcn,hsb⟩:=id hy;simp only[Value.slice.injEq]at heq;obtain⟨rfl,rfl,rfl⟩:=heq;have hl0:=a1k hcn;have hm2:=a5i cb hsb;rw[hcn.2.2]at hm2;have hm2':=hid hm2;clear hm2 hcn hsb hcb hu2 hv1;by_cases hl:0<b.length
  ·have hq0:0<q:=by omega
   have hlI:(0:Int)<(b.length:Int):=by omega
   have hst:Hid (Nat.gcd q (p%q)=Nat.gcd na nb):=hid (by rw[Nat.gcd_comm,<-Nat.gcd_rec,Nat.gcd_comm];exact hg.out);have hlt:=hid (Nat.mod_lt p hq0);have hq0':=hid hq0;have hr:Hid (lg (p%q)<=274877906944):=hid (Nat.le_trans (a1h (Nat.le_of_lt hlt.out)) hq.out);clear hl0 hq0;go_wp2_with fail
   refine(b8F X wr _ _ p q hX3 (hx.nv (by have:=hp.out;omega)) (hy.nv (by have:=hq.out;omega)) hp.out hq.out hq0'.out).mono ?_;rintro e w4 ⟨hE4,d,r,rfl,hd,hr4⟩;obtain⟨ro,cr,rl,rfl,hr5⟩:=id hr4;have hm1:=a5i cr hr5.2.2;rw[hr5.2.1.2.2]at hm1;have hm1':=hid hm1;clear hm1 hr5;go_wp2_with fail
   go_roundw
   case rel=>exact⟨q,p%q,ro,_,cr,rfl,mkx NC.mono hy hE4,hr4,hq,hr,hst,hE.trans hE4⟩
   case measure=>rw[hm1'.out,hm2'.out];exact hlt.out
  ·have hq0:q=0:=by omega
   have hfin:=hg.out;rw[hq0,Nat.gcd_zero_right]at hfin;have hlI:((b.length:Int))=0:=by omega
   rw[hfin]at hx;clear hfin hq0 hl0 hg hp hm2';go_wp2_with fail
   go_ret
   exact⟨hE12.trans hE,_,rfl,hx⟩
theorem b3N {α:Type} {a b:List α} (h:a.length=b.length) (hp:∀i,(h1:i<a.length)->(h2:i<b.length)->a[i]=b[i]):a=b:=List.ext_getElem h hp
theorem b0B {a b:List Nat} {i:Nat} (h:∀p,p<i->∀(hp:p<a.length) (hq:p<b.length),a[p]=b[p]) (hn:∀(hp:i<a.length) (hq:i<b.length),a[i]=b[i]):Hid (∀p,p<i+1->∀(hp:p<a.length) (hq:p<b.length),a[p]=b[p]):=hid fun p hp h1 h2=>by
 by_cases hpi:p=i
 ·subst hpi;exact hn h1 h2
 ·exact h p (by omega) h1 h2
theorem b5F {w wr:World} (h:Hid (∃m,wr=w.drewN m)) (n:Nat):∃m,wr.drewN n=w.drewN m:=by
 obtain⟨m,rfl⟩:=h;exact⟨_,World.drewN_drewN _ _ _⟩
theorem b5G (X:Nat->Bool) (w:World) (u v:Value) (na nb:Nat) (hu:NC (mk X w) u na) (hv:NC (mk X w) v nb) (hn:lg na<=1099511627776):Calls Tryz.prog 94 #[u,v] w fun e w'=>e= .returned (.bool (decide (na=nb)))/\∃m,w'=w.drewN m:=by
 obtain⟨ao,ca,a,rfl,hca,hcan,hsa⟩:=hu;obtain⟨bo,cb,b,rfl,hcb,hcbn,hsb⟩:=hv;have hla:a.length<=1099511627776:=by rw[hcan.len];exact hn
 have hha:=hsa.hd;have hhb:=hsb.hd;have hab:Hid (decide (na=nb)=(a==b)):=hid (by
  rw[Bool.eq_iff_iff];simp only[decide_eq_true_eq,beq_iff_eq];constructor
  ·intro h;subst h;exact hcan.unique hcbn
  ·intro h;subst h;exact hcan.2.2.symm.trans hcbn.2.2)
 clear hn hca hcb hcan hcbn;by_cases hlen:a.length=b.length
 ·have hbl:b.length<=a.length:=by omega
  have hal:a.length<=b.length:=by omega
  have hne:((a.length:Int) !=b.length)=false:=a7U (by omega);have hlen':=hid hlen;clear hlen;go_enter Tryz.func94,Tryz.ntmps94
  go_wp2_with fail
  go_loopw [5] (fun c wr=>∃i:Nat,c= .int .i64 i/\i<=a.length/\Hid (∀p,p<i->∀(hp:p<a.length) (hq:p<b.length),a[p]=b[p])/\∃m,wr=w.drewN m) (fun c _=>a.length - (intOf c).toNat)
  case atStart=>exact⟨0,rfl,Nat.zero_le _,hid fun p hp=>by omega,0,rfl⟩
  case round=>
   obtain⟨i,rfl,hi,hok,hDr⟩:=hrel;have hDq:Hid (∃m,wr=w.drewN m):=hid hDr;have hE:Ext w wr:=by
    obtain⟨m,hm⟩:=hDr;rw[hm];exact(ExtX.refl w).drewN m
   clear hDr;by_cases hlt:i<a.length
   ·have hlt2:i<b.length:=by omega
    have c1:=(hsa.mono (a0d.mono _) (a0p hE)).nat i hlt;have c2:=(hsb.mono (a0d.mono _) (a0p hE)).nat i hlt2;have i1:∀W,(Instr.indexAt 41 (.slice ao a.length ca) (.int .i64 (i:Int))).run Tryz.prog W= .ok (.pointer (some (adr ao i))) W:=a0C a0R ao a.length ca .i64 i hha (by omega) rfl;have i2:∀W,(Instr.indexAt 41 (.slice bo b.length cb) (.int .i64 (i:Int))).run Tryz.prog W= .ok (.pointer (some (adr bo i))) W:=a0C a0R bo b.length cb .i64 i hhb (by omega) rfl;obtain⟨x,hx⟩:∃x,a[i]=x:=⟨_,rfl⟩;obtain⟨y,hy⟩:∃y,b[i]=y:=⟨_,rfl⟩;rw[hx]at c1;rw[hy]at c2;have hx':=hid hx;have hy':=hid hy;clear hx hy;by_cases hxy:x=y
    ·have hn:Hid (∀(hp:i<a.length) (hq:i<b.length),a[i]=b[i]):=hid fun _ _=>by rw[hx'.out,hy'.out,hxy]
     have hb:((x:Int) !=y)=false:=a7U (by omega);clear hxy;go_wp2_with fail
     go_quiet (fail)
     go_wp2_with fail
     go_roundw
     case rel=>exact⟨i+1,by go_num,by omega,b0B hok.out hn.out,b5F hDq _⟩
     case measure=>simp[intOf];omega
    ·have hv:Hid ((a==b)=false):=hid (by
      cases h:a==b
      ·rfl
      ·have:=eq_of_beq h;subst this;exact absurd (hx'.out.symm.trans hy'.out) hxy)
     have hb:((x:Int) !=y)=true:=a7R (by omega);clear hxy;go_wp2_with fail
     go_quiet (fail)
     go_wp2_with fail
     go_ret
     exact⟨a0n (hv.out.symm.trans hab.out.symm),b5F hDq _⟩
   ·have hv:Hid ((a==b)=true):=hid (by rw[b3N hlen'.out fun p hp hq=>hok.out p (by omega) hp hq];simp)
    go_wp2_with fail
    go_ret
    exact⟨a0n (hv.out.symm.trans hab.out.symm),hDq.out⟩
 ·have hne:((a.length:Int) !=b.length)=true:=a7R (by omega)
  have hv:Hid ((a==b)=false):=hid (by
   cases h:a==b
   ·rfl
   ·have:=eq_of_beq h;subst this;exact absurd rfl hlen)
  clear hlen;go_enter Tryz.func94,Tryz.ntmps94
  go_wp2_with fail
  go_ret
  exact⟨a0n (hv.out.symm.trans hab.out.symm),0,rfl⟩
end Go.Proofs.YtidbbddagfnfbaaGreat
namespace Go.Rep
open Go.RowKit
def Bx (w:World) (b:Nat) (cs:Array Value) (T:TypeId):Prop:=w.heap[b]? =some (.cells cs T (0,0))
theorem Bx.lt {w:World} {b:Nat} {cs:Array Value} {T:TypeId} (h:Bx w b cs T):b<w.heap.size:=(Array.getElem?_eq_some_iff.1 h).1
theorem Bx.cell {w:World} {b:Nat} {cs:Array Value} {T:TypeId} (h:Bx w b cs T) (i:Nat) {u:Value} (hu:cs[i]? =some u):w.cell? ⟨b,i,none⟩=some u:=by
 unfold Bx at h;unfold World.cell?;rw[h];simpa using hu
theorem Bx.frozen {w:World} {b:Nat} {cs:Array Value} {T:TypeId} (h:Bx w b cs T) (i:Nat):w.frozen? ⟨b,i,none⟩=false:=by
 unfold Bx at h;unfold World.frozen?;rw[h];simp
theorem Bx.ext {Y:Nat->Bool} {w w':World} {b:Nat} {cs:Array Value} {T:TypeId} (h:Bx w b cs T) (hE:ExtX Y w w') (hY:Y b=false):Bx w' b cs T:=by
 unfold Bx;rw[hE.block b h.lt hY];exact h
theorem Bx.ext0 {w w':World} {b:Nat} {cs:Array Value} {T:TypeId} (h:Bx w b cs T) (hE:Ext w w'):Bx w' b cs T:=h.ext hE rfl
theorem Bx.new (w:World) (cs:Array Value) (T:TypeId):Bx (w.alloc (.cells cs T)) w.heap.size cs T:=heap_alloc_new w _
theorem a8U (g:Nat):ob (some ⟨g,0,none⟩) g=true:=by simp[ob]
theorem a0b {g k:Nat} (h:k≠g):ob (some ⟨g,0,none⟩) k=false:=by
 cases hh:ob (some ⟨g,0,none⟩) k
 ·rfl
 ·have e:g=k:=by simpa[ob]using hh
  exact absurd e.symm h
theorem a0K {w:World} {b i:Nat} {cs:Array Value} {T:TypeId} (h:Bx w b cs T) (v:Value) (hi:i<cs.size):Bx (w.setCell ⟨b,i,none⟩ v) b (cs.set i v) T/\ExtX (ob (some ⟨b,0,none⟩)) w (w.setCell ⟨b,i,none⟩ v):=by
 unfold Bx at*;have hb:b<w.heap.size:=(Array.getElem?_eq_some_iff.1 h).1;refine⟨?_,⟨rfl,rfl,rfl,?_,?_⟩⟩
 ·simp only[World.setCell,Array.getElem?_modify,if_true,h,Option.map_some]
  simp[hi,Array.setIfInBounds]
 ·simp[World.setCell]
 ·intro k _ hk
  have hkb:b≠k:=fun e=>by subst e;rw[a8U]at hk;simp at hk
  simp only[World.setCell,Array.getElem?_modify,if_neg hkb]
theorem Bx.set2 {w:World} {b:Nat} {x0 x1:Value} {T:TypeId} (h:Bx w b #[x0,x1] T) (v0 v1:Value):Bx ((w.setCell ⟨b,0,none⟩ v0).setCell ⟨b,1,none⟩ v1) b #[v0,v1] T/\ExtX (ob (some ⟨b,0,none⟩)) w ((w.setCell ⟨b,0,none⟩ v0).setCell ⟨b,1,none⟩ v1):=by
 obtain⟨h1,h2⟩:=a0K h v0 (i:=0) (by simp);obtain⟨h3,h4⟩:=a0K h1 v1 (i:=1) (by simp);exact⟨by simpa using h3,h2.trans h4⟩
theorem Bx.set3 {w:World} {b:Nat} {x0 x1 x2:Value} {T:TypeId} (h:Bx w b #[x0,x1,x2] T) (v0 v1 v2:Value):Bx (((w.setCell ⟨b,0,none⟩ v0).setCell ⟨b,1,none⟩ v1).setCell ⟨b,2,none⟩ v2) b #[v0,v1,v2] T/\ExtX (ob (some ⟨b,0,none⟩)) w (((w.setCell ⟨b,0,none⟩ v0).setCell ⟨b,1,none⟩ v1).setCell ⟨b,2,none⟩ v2):=by
 obtain⟨h1,h2⟩:=a0K h v0 (i:=0) (by simp);obtain⟨h3,h4⟩:=a0K h1 v1 (i:=1) (by simp);obtain⟨h5,h6⟩:=a0K h3 v2 (i:=2) (by simp);exact⟨by simpa using h5,(h2.trans h4).trans h6⟩
section
variable {P:Program} {ops:Array Oper} {Q:Exit->Act->World->Prop} {rest:List Oper} {a:Act} {w:World}
variable {d:Option Tmp} {ty:TypeId} {ps:String} {af:Array Edge}
theorem a5w {t:TypeId} {n b:Nat} {cs vs:Array Value} {T:TypeId} (hT:a1A P t n) (hb:Bx w b cs T) (hcs:cs.size=n) (hvs:vs.size=n) (hone:∀v∈vs.toList,v.oneCell'=true):
  ∃w',(storeVar t ⟨b,0,none⟩ (.agg vs)).run P w= .ok () w'/\Bx w' b vs T/\ExtX (ob (some ⟨b,0,none⟩)) w w':=by
 obtain⟨fs,ti,h1,h2,h3⟩:=hT;have hst:=run_storeCells_at P b 0 T vs.toList 0 cs w hb (by simp[hcs,hvs]) hone;refine⟨w.setRow b (cs.toList.take (0+0)++vs.toList++cs.toList.drop (0+0+vs.toList.length)).toArray,?_,?_,?_⟩
 rotate_left
 ·unfold Bx
  have:=setRow_heap w b cs (cs.toList.take (0+0)++vs.toList++cs.toList.drop (0+0+vs.toList.length)).toArray T (0,0) hb;rw[this]
  congr 2
  have e:cs.toList.drop (0+0+vs.toList.length)= []:=List.drop_of_length_le (by simp[hvs,hcs]);rw[e];simp
 ·exact⟨rfl,rfl,rfl,by simp,fun k _ hk=>setRow_other w b k _ (fun ek=>by subst ek;simp[ob]at hk)⟩
 ·simp[storeVar,sizeOf,typeInfo,h2,h3,Value.cells,hvs]
  simp only[Nat.zero_add,Array.length_toList,List.take_zero,List.nil_append,hvs]at hst |-;exact hst
theorem a0c {t:TypeId} {x y:Operand} {n b:Nat} {cs vs:Array Value} {T:TypeId} (hT:a1A P t n) (hx:a.eval x= .pointer (some ⟨b,0,none⟩)) (hy:a.eval y= .agg vs) (hb:Bx w b cs T) (hcs:cs.size=n) (hvs:vs.size=n) (hone:∀v∈vs.toList,v.oneCell'=true)
  (K:∀w',Bx w' b vs T->ExtX (ob (some ⟨b,0,none⟩)) w w'->wpList P ops Q rest (a.put d undef) w'):
  wpList P ops Q (⟨d, .store t x y,ty,ps,af,none⟩::rest) a w:=by
 refine wpList_plain rfl fun K' hK'=>?_;obtain⟨w',hr,h1,h2⟩:=a5w (P:=P) hT hb hcs hvs hone;unfold Oper.wp;simp[execOp,hx,hy,Instr.storeAt,Instr.sureAddr,hr,Result.andThen];exact hK' _ _ (K w' h1 h2)
theorem a1U {t:TypeId} {n b:Nat} {cs:Array Value} {T:TypeId} (hT:a1A P t n) (hb:Bx w b cs T) (hcs:cs.size=n):(loadVar t ⟨b,0,none⟩).run P w= .ok (.agg cs) w:=by
 obtain⟨fs,ti,h1,h2,h3⟩:=hT;have hl:=run_loadCells_list (P:=P) w ⟨b,0,none⟩ cs.toList (fun j v hj=>by
  rw[Addr.add_lit,Nat.zero_add];exact hb.cell j (by simpa using hj))
 have hsz:cs.toList.length=n:=by simpa using hcs
 rw[hsz]at hl;simp[loadVar,isAgg,run_underlying h1,sizeOf,typeInfo,h2,h3,hl]
theorem a3X {t:TypeId} {x:Operand} {n b:Nat} {cs:Array Value} {T:TypeId} (hT:a1A P t n) (hx:a.eval x= .pointer (some ⟨b,0,none⟩)) (hb:Bx w b cs T) (hcs:cs.size=n)
  (K:wpList P ops Q rest (a.put d (.agg cs)) w):
  wpList P ops Q (⟨d, .load t x,ty,ps,af,none⟩::rest) a w:=by
 refine wpList_plain rfl fun K' hK'=>?_;have hl:=a1U (P:=P) hT hb hcs;unfold Oper.wp;simp[execOp,hx,Instr.loadAt,Instr.sureAddr,hl,Result.andThen];exact hK' _ _ K
theorem a0e {fn:Func} {tmps:Array Value} {c:Tmp} {t:TypeId} {n b:Nat} {cs:Array Value} {T:TypeId} (h:fn.results=#[.cell c t]) (hp:tmps.getD c undef= .pointer (some ⟨b,0,none⟩)) (hT:a1A P t n) (hb:Bx w b cs T) (hcs:cs.size=n):
  (results fn tmps).run P w= .ok (.agg cs) w:=by
 have hl:=a1U (P:=P) hT hb hcs;rw[Array.getD_eq_getD_getElem?]at hp;simp[results,h,hp,asAddr,hl]
theorem a1F {fn:Func} {tmps:Array Value} {c d:Tmp} {t:TypeId} {n b:Nat} {cs:Array Value} {T:TypeId} (h:fn.results=#[.cell c t, .tmp d]) (hp:tmps.getD c undef= .pointer (some ⟨b,0,none⟩)) (hT:a1A P t n) (hb:Bx w b cs T) (hcs:cs.size=n):
  (results fn tmps).run P w= .ok (.tuple #[.agg cs,tmps.getD d undef]) w:=by
 have hl:=a1U (P:=P) hT hb hcs;rw[Array.getD_eq_getD_getElem?]at hp;simp[results,h,hp,asAddr,hl]
end
theorem a1t (w:World) (x:Array Value) (T:TypeId):∃W,w.alloc (.cells x T)=W/\Ext w W/\Bx W w.heap.size x T/\W.heap.size=w.heap.size+1:=
 ⟨_,rfl,(ExtX.refl w).alloc _,Bx.new w _ _,by simp⟩
theorem a1v (w:World) (x y:Array Value) (T U:TypeId):∃W,(w.alloc (.cells x T)).alloc (.cells y U)=W/\Ext w W/\Bx W w.heap.size x T/\Bx W (w.heap.size+1) y U/\W.heap.size=w.heap.size+2:=by
 obtain⟨W,h1,h2,h3,h4⟩:=a1t w x T;obtain⟨V,k1,k2,k3,k4⟩:=a1t W y U;exact⟨V,by rw[h1,k1],h2.trans k2,h3.ext0 k2,by rw[<-h4];exact k3,by omega⟩
theorem a2x (w:World) (x y z:Array Value) (T U S:TypeId):∃W,((w.alloc (.cells x T)).alloc (.cells y U)).alloc (.cells z S)=W/\Ext w W/\Bx W w.heap.size x T/\Bx W (w.heap.size+1) y U/\Bx W (w.heap.size+1+1) z S/\W.heap.size=w.heap.size+3:=by
 obtain⟨W,h1,h2,h3,h5,h4⟩:=a1v w x y T U;obtain⟨V,k1,k2,k3,k4⟩:=a1t W z S;exact⟨V,by rw[h1,k1],h2.trans k2,h3.ext0 k2,h5.ext0 k2,by rw[<-h4];exact k3,by omega⟩
theorem b8H (w:World) (x y z u:Array Value) (T U S R:TypeId):∃W,(((w.alloc (.cells x T)).alloc (.cells y U)).alloc (.cells z S)).alloc (.cells u R)=W/\Ext w W/\Bx W w.heap.size x T/\Bx W (w.heap.size+1) y U/\Bx W (w.heap.size+1+1) z S/\Bx W (w.heap.size+1+1+1) u R/\W.heap.size=w.heap.size+4:=by
 obtain⟨W,h1,h2,h3,h5,h6,h4⟩:=a2x w x y z T U S;obtain⟨V,k1,k2,k3,k4⟩:=a1t W u R;exact⟨V,by rw[h1,k1],h2.trans k2,h3.ext0 k2,h5.ext0 k2,h6.ext0 k2,by rw[<-h4];exact k3,by omega⟩
end Go.Rep
namespace Go.Rep
open Go.RowKit Go.Lim
def ZV (h:Mem) (u:Value) (z:Int):Prop:=∃s ao c l,u= .agg #[.bool s, .slice ao l.length c]/\l.length<=c/\Dig l/\l.length<=549755813888/\Sl (a0d .u32) 1 h ao l/\a7q s l=z
def ZC (h:Mem) (u:Value) (z:Int):Prop:=∃s ao c l,u= .agg #[.bool s, .slice ao l.length c]/\l.length<=c/\a5t s l z/\Sl (a0d .u32) 1 h ao l
theorem ZV.mono:a3v ZV:=by rintro h h' u x hl ⟨s,ao,c,l,rfl,h1,h2,h3,h4,h5⟩;exact⟨s,ao,c,l,rfl,h1,h2,h3,h4.mono (a0d.mono _) hl,h5⟩
theorem ZC.mono:a3v ZC:=by rintro h h' u x hl ⟨s,ao,c,l,rfl,h1,h2,h3⟩;exact⟨s,ao,c,l,rfl,h1,h2,h3.mono (a0d.mono _) hl⟩
theorem ZC.zv {h:Mem} {u:Value} {z:Int} (hu:ZC h u z) (hn:lg z.natAbs<=549755813888):ZV h u z:=by
 obtain⟨s,ao,c,l,rfl,h1,h2,h3⟩:=hu;exact⟨s,ao,c,l,rfl,h1,h2.2.1,by rw[h2.len];exact hn,h3,h2.val⟩
theorem ZC.zero (h:Mem):ZC h (.agg #[.bool false, .slice none 0 0]) 0:=⟨false,none,0,[],rfl,Nat.le_refl _,a5t.zero,Sl.nil _ _ _ _⟩
theorem ZV.lg {h:Mem} {u:Value} {z:Int} (hu:ZV h u z):lg z.natAbs<=549755813888:=by
 obtain⟨s,ao,c,l,rfl,h1,h2,h3,h4,rfl⟩:=hu;exact Nat.le_trans (b6D s l h2) h3
end Go.Rep
namespace Go.Proofs.YtidbbddagfnfbaaGreat
open Go.RowKit Go.Rep Go.Lim
theorem a6R (X:Nat->Bool) (w:World) (s:Bool) (ao:Option Addr) (c:Nat) (l:List Nat) (hs:Sl (a0d .u32) 1 (mk X w) ao l) (hl:l.length<=549755813888):Calls Tryz.prog 278 #[.agg #[.bool s, .slice ao l.length c]] w fun e w'=>Ext w w'/\e= .returned (.bool (a1n s l)):=by
 have hE:Ext w (w.alloc (.cells #[.bool s, .slice ao l.length c] 43)):=(ExtX.refl w).alloc _;have hs1:=hs.mono (a0d.mono _) (a0p hE);have hdef:Hid (a1n s l=(a1u l&&(decide (0<l.length)|| !s))):=hid rfl;cases hv:a1u l
 ·have hf:Hid (a1n s l=false):=hid (by rw[hdef.out,hv];rfl)
  have hv':=hid hv;clear hv;go_enter Tryz.func278,Tryz.ntmps278
  go_wp2_with fail
  refine(a2c X _ _ _ _ hs1 (by omega)).mono ?_;rintro e w' ⟨rfl,rfl⟩;rw[hv'.out];go_wp2_with fail
  go_ret
  exact⟨hE,a0n hf.out.symm⟩
 ·have hf:Hid (a1n s l=(decide (0<l.length)|| !s)):=hid (by rw[hdef.out,hv];rfl)
  have hv':=hid hv;clear hv;by_cases h0:0<l.length
  ·have hI:(0:Int)<(l.length:Int):=by omega
   have hf2:Hid (a1n s l=true):=hid (by rw[hf.out,decide_eq_true h0];rfl);go_enter Tryz.func278,Tryz.ntmps278
   go_wp2_with fail
   refine(a2c X _ _ _ _ hs1 (by omega)).mono ?_;rintro e w' ⟨rfl,rfl⟩;rw[hv'.out];go_wp2_with fail
   go_ret
   exact⟨hE,a0n hf2.out.symm⟩
  ·have hf2:Hid (a1n s l= !s):=hid (by rw[hf.out,decide_eq_false h0];rfl)
   obtain rfl:l= []:=List.eq_nil_of_length_eq_zero (by omega);clear h0 hf;simp only[List.length_nil]at hE hs1 |-;go_enter Tryz.func278,Tryz.ntmps278
   go_wp2_with fail
   refine(a2c X _ [] _ _ hs1 (by simp)).mono ?_;rintro e w' ⟨rfl,rfl⟩;rw[hv'.out];go_wp2_with fail
   go_ret
   exact⟨hE,a0n hf2.out.symm⟩
theorem a0H:a1A Tryz.prog 43 2:=by
 have h:(Tryz.prog.info? 43).map (fun i=>(i.zero,i.size,i.bytes))=some (some (.agg #[.bool false, .slice none 0 0]),2,32):=by kernel_rfl
 obtain⟨ti,h1,_,h2,_⟩:=info_parts h;exact⟨_,ti,Tryz.underlying43,h1,h2⟩
theorem a2K (s:Bool) (ao:Option Addr) (n c:Nat):∀v∈(#[Value.bool s, .slice ao n c]:Array Value).toList,v.oneCell'=true:=by
 intro v hv;simp at hv;rcases hv with rfl|rfl<;>rfl
def a0f (X:Nat->Bool) (lo nb:Nat):Nat->Bool:=fun k=>X k||(decide (lo<=k)&&decide (k<lo+nb))
theorem a5j {X:Nat->Bool} {lo nb k:Nat} (h1:lo<=k) (h2:k<lo+nb):a0f X lo nb k=true:=by simp[a0f,h1,h2]
theorem b1y {X:Nat->Bool} {lo nb k:Nat} (h:X k=true):a0f X lo nb k=true:=by simp[a0f,h]
theorem _root_.Go.Rep.HX.boxes {X:Nat->Bool} {w w':World} {nb:Nat} (h:HX X w) (hz:w'.heap.size=w.heap.size+nb):HX (a0f X w.heap.size nb) w':=fun k hk=>by
 by_cases hx:X k=true
 ·have:=h k hx;omega
 ·simp[a0f,hx]at hk;omega
theorem _root_.Go.Rep.HX.boxes' {X:Nat->Bool} {w w':World} {b nb:Nat} (h:HX X w) (hE:Ext w w') (hb:b+nb<=w'.heap.size) (_hz:w.heap.size+nb<=w'.heap.size):HX (a0f X b nb) w':=fun k hk=>by
 by_cases hx:X k=true
 ·exact Nat.lt_of_lt_of_le (h k hx) hE.size
 ·simp[a0f,hx]at hk;omega
theorem a0o {X:Nat->Bool} {w w':World} {nb:Nat} (hE:Ext w w'):Le (mk X w) (mk (a0f X w.heap.size nb) w'):=
 a1f hE (fun k _ hk=>by simp[noY]at hk) fun k hk hz=>by
  by_cases hx:X k=true
  ·exact hx
  ·simp[a0f,hx]at hz;omega
theorem a0l {X:Nat->Bool} {w:World} {lo nb:Nat}:Le (mk (a0f X lo nb) w) (mk X w):=a1E fun _ _ hk=>b1y hk
theorem a0i {X:Nat->Bool} {w w':World} {lo nb b:Nat} (hE:ExtX (ob (some ⟨b,0,none⟩)) w w') (h1:lo<=b) (h2:b<lo+nb):Le (mk (a0f X lo nb) w) (mk (a0f X lo nb) w'):=
 a0x hE fun k hk=>by
  have e:b=k:=by simpa[ob]using hk
  subst e;exact a5j h1 h2
theorem ExtX.box {w0 w w':World} {b:Nat} (h:Ext w0 w) (hE:ExtX (ob (some ⟨b,0,none⟩)) w w') (hb:w0.heap.size<=b):Ext w0 w':=
 h.then_ hE fun i hi _=>a0b (by omega)
theorem a2i {X:Nat->Bool} {w w6:World} {b nb:Nat} {x0 x1 y0 y1:Value} {T U:TypeId} (h0:Bx w6 b #[x0,x1] T) (h1:Bx w6 (b+1) #[y0,y1] U) (hE:Ext w w6) (hb:w.heap.size<=b) (hn:2<=nb) (v0 v1 u0 u1:Value):
  ∃wf,((((w6.setCell ⟨b,0,none⟩ v0).setCell ⟨b,1,none⟩ v1).setCell ⟨b+1,0,none⟩ u0).setCell ⟨b+1,1,none⟩ u1)=wf/\Bx wf b #[v0,v1] T/\Bx wf (b+1) #[u0,u1] U/\(∀k cs V,k≠b->k≠b+1->Bx w6 k cs V->Bx wf k cs V)/\Ext w wf/\Le (mk (a0f X b nb) w6) (mk (a0f X b nb) wf):=by
 obtain⟨r1,r2⟩:=h0.set2 v0 v1;have h1':=h1.ext r2 (a0b (by omega));obtain⟨r3,r4⟩:=h1'.set2 u0 u1;refine⟨_,rfl,r1.ext r4 (a0b (by omega)),r3,fun k cs V k1 k2 h=>(h.ext r2 (a0b k1)).ext r4 (a0b k2),ExtX.box (ExtX.box hE r2 hb) r4 (by omega),(a0i r2 (Nat.le_refl _) (by omega)).trans (a0i r4 (by omega) (by omega))⟩
set_option maxRecDepth 100000 in
theorem a5x (X:Nat->Bool) (w:World) (u:Value) (z:Int) (hX:HX X w) (hu:ZV (mk X w) u z):Calls Tryz.prog 230 #[u] w (a1Z X w ZC z):=by
 obtain⟨s,ao,c,l,rfl,h1,h2,h3,h4,rfl⟩:=hu;obtain⟨W,hW⟩:∃W,(w.alloc (.cells #[.bool s, .slice ao l.length c] 43)).alloc (.cells #[.bool false, .slice none 0 0] 43)=W:=⟨_,rfl⟩;have hE:Ext w W:=by rw[<-hW];exact((ExtX.refl w).alloc _).alloc _
 have b0:Bx W w.heap.size #[.bool s, .slice ao l.length c] 43:=by
  rw[<-hW];exact(Bx.new w _ _).ext0 ((ExtX.refl _).alloc _)
 have b1:Bx W (w.heap.size+1) #[.bool false, .slice none 0 0] 43:=by
  rw[<-hW];have:=Bx.new (w.alloc (.cells #[.bool s, .slice ao l.length c] 43)) #[.bool false, .slice none 0 0] 43;simpa using this
 have hz:W.heap.size=w.heap.size+2:=by rw[<-hW];simp
 have hs1:Sl (a0d .u32) 1 (mk (a0f X w.heap.size 2) W) ao l:=h4.mono (a0d.mono _) (a0o hE);obtain⟨b,hb⟩:∃b,w.heap.size=b:=⟨_,rfl⟩;have hbw:w.heap.size<=b:=by omega
 have hXb:HX X w:=hX;rw[hb]at b0 b1 hz hs1;have c0:=b0.cell 0 rfl;have c1:=b0.cell 1 rfl;cases hv:a1n s l
 ·have hz0:=hid (a5u hv)
  have hv':=hid hv;clear hv;go_enter Tryz.func230,Tryz.ntmps230
  go_wp2_with fail
  refine(a6R (a0f X b 2) W s ao c l hs1 h3).mono ?_;rintro e w1 ⟨hE1,rfl⟩;rw[hv'.out];have b1':=b1.ext0 hE1;clear c0 c1;go_wp2_with ((with_reducible show wpList _ _ _ (⟨_, .store _ _ _,_,_,_,_⟩::_) _ _);refine a0c a0H rfl rfl b1' rfl rfl (a2K _ _ _ _) ?_;intro w2 b2 hE2)
  exact bodyPost_ret (a0e rfl rfl a0H b2 rfl) rfl ⟨ExtX.box (hE.trans hE1) hE2 (by omega),_,rfl,by rw[hz0.out];exact ZC.zero _⟩
 ·have hv':=hid hv
  clear hv;go_enter Tryz.func230,Tryz.ntmps230
  go_wp2_with fail
  refine(a6R (a0f X b 2) W s ao c l hs1 h3).mono ?_;rintro e w1 ⟨hE1,rfl⟩;rw[hv'.out];have b0':=b0.ext0 hE1;have b1':=b1.ext0 hE1;have hs2:=hs1.mono (a0d.mono _) (a0p hE1);clear c0 c1;have c0:=b0'.cell 0 rfl;have c1:=b0'.cell 1 rfl;go_wp2_with ((with_reducible show wpList _ _ _ (⟨_, .store _ _ _,_,_,_,_⟩::_) _ _);refine a0c a0H rfl rfl b1' rfl rfl (a2K _ _ _ _) ?_;intro w2 b2 hE2)
  have hs3:=(hs2.mono (a0d.mono _) (a0i hE2 (by omega) (by omega))).mono (a0d.mono _) a0l;exact bodyPost_ret (a0e rfl rfl a0H b2 rfl) rfl ⟨ExtX.box (hE.trans hE1) hE2 (by omega),_,rfl,s,ao,c,l,rfl,h1,a5t.of_valid h2 hv'.out,hs3⟩
end Go.Proofs.YtidbbddagfnfbaaGreat
namespace Go.Lim
def sg (s:Bool) (n:Nat):Int:=if s then -(n:Int)else n
theorem b1z {s:Bool} {l:List Nat} {n:Nat} (h:a0I l n):a5t (s&&decide (0<l.length)) l (sg s n):=by
 have h0:=a1k h;unfold sg;cases s
 ·refine⟨?_,by simpa using h⟩;simp
 ·refine⟨?_,by simpa using h⟩
  rw[Bool.true_and,Bool.eq_iff_iff];simp only[decide_eq_true_eq,if_true];omega
theorem a6S (s:Bool) (n:Nat):(sg s n).natAbs=n:=by unfold sg;split<;>simp
theorem a3F {s:Bool} {l:List Nat} {z:Int} (h:a5t s l z):sg s z.natAbs=z:=by
 unfold sg;rw[h.1];by_cases hz:z<0
 ·simp only[hz,decide_true,if_true];omega
 ·simp only[hz,decide_false,Bool.false_eq_true,if_false];omega
end Go.Lim
namespace Go.Proofs.YtidbbddagfnfbaaGreat
open Go.RowKit Go.Rep Go.Lim
theorem a2D (X:Nat->Bool) (w:World) (s:Bool) (u:Value) (n:Nat) (_hX:HX X w) (hu:NC (mk X w) u n):Calls Tryz.prog 240 #[.bool s,u] w (a1Z X w ZC (sg s n)):=by
 obtain⟨ao,c,l,rfl,h1,h2,h3⟩:=hu;obtain⟨W,hW⟩:∃W,w.alloc (.cells #[.bool false, .slice none 0 0] 43)=W:=⟨_,rfl⟩;have hE:Ext w W:=by rw[<-hW];exact(ExtX.refl w).alloc _
 have b0:Bx W w.heap.size #[.bool false, .slice none 0 0] 43:=by rw[<-hW];exact Bx.new w _ _
 have hs1:Sl (a0d .u32) 1 (mk (a0f X w.heap.size 1) W) ao l:=h3.mono (a0d.mono _) (a0o hE);obtain⟨b,hb⟩:∃b,w.heap.size=b:=⟨_,rfl⟩;have hbw:w.heap.size<=b:=by omega
 rw[hb]at b0 hs1;have hcz:Hid (a5t (s&&decide (0<l.length)) l (sg s n)):=hid (b1z h2);cases s
 ·rw[Bool.false_and]at hcz
  go_enter Tryz.func240,Tryz.ntmps240
  go_wp2_with ((with_reducible show wpList _ _ _ (⟨_, .store _ _ _,_,_,_,_⟩::_) _ _);refine a0c a0H rfl rfl b0 rfl rfl (a2K _ _ _ _) ?_;intro w2 b2 hE2)
  have hs3:=(hs1.mono (a0d.mono _) (a0i hE2 (by omega) (by omega))).mono (a0d.mono _) a0l;exact bodyPost_ret (a0e rfl rfl a0H b2 rfl) rfl ⟨ExtX.box hE hE2 (by omega),_,rfl,_,ao,c,l,rfl,h1,hcz.out,hs3⟩
 ·rw[Bool.true_and]at hcz
  by_cases h0:0<l.length
  ·rw[decide_eq_true h0]at hcz
   go_enter Tryz.func240,Tryz.ntmps240
   go_wp2_with ((with_reducible show wpList _ _ _ (⟨_, .store _ _ _,_,_,_,_⟩::_) _ _);refine a0c a0H rfl rfl b0 rfl rfl (a2K _ _ _ _) ?_;intro w2 b2 hE2)
   have hs3:=(hs1.mono (a0d.mono _) (a0i hE2 (by omega) (by omega))).mono (a0d.mono _) a0l;exact bodyPost_ret (a0e rfl rfl a0H b2 rfl) rfl ⟨ExtX.box hE hE2 (by omega),_,rfl,_,ao,c,l,rfl,h1,hcz.out,hs3⟩
  ·rw[decide_eq_false h0]at hcz
   obtain rfl:l= []:=List.eq_nil_of_length_eq_zero (by omega);clear h0;simp only[List.length_nil]at h1 hcz hs1 |-;go_enter Tryz.func240,Tryz.ntmps240
   go_wp2_with ((with_reducible show wpList _ _ _ (⟨_, .store _ _ _,_,_,_,_⟩::_) _ _);refine a0c a0H rfl rfl b0 rfl rfl (a2K _ _ _ _) ?_;intro w2 b2 hE2)
   have hs3:=(hs1.mono (a0d.mono _) (a0i hE2 (by omega) (by omega))).mono (a0d.mono _) a0l;exact bodyPost_ret (a0e rfl rfl a0H b2 rfl) rfl ⟨ExtX.box hE hE2 (by omega),_,rfl,_,ao,c,[],rfl,h1,hcz.out,hs3⟩
theorem b6I (X:Nat->Bool) (w:World) (u:Value) (z:Int) (hX:HX X w) (hu:ZC (mk X w) u z) (hn:lg z.natAbs<=549755813888):Calls Tryz.prog 291 #[u] w (a1Z X w ZC z):=by
 obtain⟨s,ao,c,l,rfl,h1,h2,h3⟩:=hu;obtain⟨W,hW⟩:∃W,(w.alloc (.cells #[.bool s, .slice ao l.length c] 43)).alloc (.cells #[.bool false, .slice none 0 0] 43)=W:=⟨_,rfl⟩;have hE:Ext w W:=by rw[<-hW];exact((ExtX.refl w).alloc _).alloc _
 have b0:Bx W w.heap.size #[.bool s, .slice ao l.length c] 43:=by
  rw[<-hW];exact(Bx.new w _ _).ext0 ((ExtX.refl _).alloc _)
 have b1:Bx W (w.heap.size+1) #[.bool false, .slice none 0 0] 43:=by
  rw[<-hW];have:=Bx.new (w.alloc (.cells #[.bool s, .slice ao l.length c] 43)) #[.bool false, .slice none 0 0] 43;simpa using this
 have hz:W.heap.size=w.heap.size+2:=by rw[<-hW];simp
 have hXW:HX (a0f X w.heap.size 2) W:=hX.boxes hz;have hu1:NV (mk (a0f X w.heap.size 2) W) (.slice ao l.length c) z.natAbs:=⟨ao,c,l,rfl,h1,h2.2.1,by rw[h2.len];omega,h3.mono (a0d.mono _) (a0o hE),h2.2.val⟩;obtain⟨b,hb⟩:∃b,w.heap.size=b:=⟨_,rfl⟩;have hbw:w.heap.size<=b:=by omega
 rw[hb]at b0 b1 hz hXW hu1;have c0:=b0.cell 0 rfl;have c1:=b0.cell 1 rfl;have hsz:=hid (a3F h2);have hnz:∀M,NV M (.slice none 0 0) 0:=fun M=>⟨none,0,[],rfl,Nat.le_refl _,Dig.nil,by simp,Sl.nil _ _ _ _,by simp[val,vl,nv]⟩;go_enter Tryz.func291,Tryz.ntmps291
 go_wp2_with fail
 have c2:=b1.cell 0 rfl;have c3:=b1.cell 1 rfl;have f2:=b1.frozen 0;have f3:=b1.frozen 1;have hEd:Ext W W.drew:=(ExtX.refl W).drew;have hS:Hid (∀W',Ext W.drew W'->W'.cell? ⟨b,0,none⟩=some (.bool s)/\W'.cell? ⟨b,1,none⟩=some (.slice ao l.length c)/\W'.cell? ⟨b+1,0,none⟩=some (.bool false)/\W'.cell? ⟨b+1,1,none⟩=some (.slice none 0 0)/\W'.frozen? ⟨b+1,0,none⟩=false/\W'.frozen? ⟨b+1,1,none⟩=false):=
  hid fun W' h=>⟨(b0.ext0 (hEd.trans h)).cell 0 rfl,(b0.ext0 (hEd.trans h)).cell 1 rfl,(b1.ext0 (hEd.trans h)).cell 0 rfl,(b1.ext0 (hEd.trans h)).cell 1 rfl,(b1.ext0 (hEd.trans h)).frozen 0,(b1.ext0 (hEd.trans h)).frozen 1⟩
 go_region_held3 (fun w'=>w'.cell? ⟨b,0,none⟩=some (.bool s)/\w'.cell? ⟨b,1,none⟩=some (.slice ao l.length c))
  (first|exact⟨(hS.out _ hE5).1,(hS.out _ hE5).2.1⟩|exact⟨(hS.out _ (hE5.trans hE6)).1,(hS.out _ (hE5.trans hE6)).2.1⟩|go_keep)
  (first|(go_at_call 194;refine(b9U (X:=a0f X b 2) (w:=W.drew) hXW hu1 (hnz _)).mono ?_;rintro e w5 ⟨hE5,u5,rfl,hu5⟩)|(go_at_call 240;refine(a2D (a0f X b 2) w5 s u5 (z.natAbs+0) (HX.ext (w:=W.drew) hXW hE5) hu5).mono ?_;rintro e w6 ⟨hE6,u6,rfl,s6,a6,c6,l6,rfl,h61,h62,h63⟩;obtain⟨g1,g2,g3,g4,g5,g6⟩:=hS.out w6 (hE5.trans hE6)))
 obtain⟨r1,r2⟩:=(b1.ext0 ((hEd.trans hE5).trans hE6)).set2 (.bool s6) (.slice a6 l6.length c6);have h7:=(h63.mono (a0d.mono _) (a0i r2 (by omega) (by omega))).mono (a0d.mono _) a0l;have hsg:sg s (z.natAbs+0)=z:=hsz.out;rw[hsg]at h62;have hEf:Ext w _:=ExtX.box (hE.trans ((hEd.trans hE5).trans hE6)) r2 (by omega);clear c0 c1 c2 c3 f2 f3 hS g1 g2 g3 g4 g5 g6;go_wp2_with fail
 exact bodyPost_ret (a0e rfl rfl a0H r1 rfl) rfl ⟨hEf,_,rfl,s6,a6,c6,l6,rfl,h61,h62,h7⟩
theorem a6a (X:Nat->Bool) (w:World) (s:Bool) (ao:Option Addr) (c:Nat) (l:List Nat) (hs:Sl (a0d .u32) 1 (mk X w) ao l) (hl:l.length<=549755813888):Calls Tryz.prog 252 #[.agg #[.bool s, .slice ao l.length c]] w fun e w'=>Ext w w'/\e= .returned (.bool (a1n s l)):=by
 have hE:Ext w (w.alloc (.cells #[.bool s, .slice ao l.length c] 43)):=(ExtX.refl w).alloc _;have hs1:=hs.mono (a0d.mono _) (a0p hE);have hdef:Hid (a1n s l=(a1u l&&(decide (0<l.length)|| !s))):=hid rfl;cases hv:a1u l
 ·have hf:Hid (a1n s l=false):=hid (by rw[hdef.out,hv];rfl)
  have hv':=hid hv;clear hv;go_enter Tryz.func252,Tryz.ntmps252
  go_wp2_with fail
  refine(a1X X _ _ _ _ hs1 (by omega)).mono ?_;rintro e w' ⟨rfl,rfl⟩;rw[hv'.out];go_wp2_with fail
  go_ret
  exact⟨hE,a0n hf.out.symm⟩
 ·have hf:Hid (a1n s l=(decide (0<l.length)|| !s)):=hid (by rw[hdef.out,hv];rfl)
  have hv':=hid hv;clear hv;cases s
  ·have hf2:Hid (a1n false l=true):=hid (by rw[hf.out];simp)
   clear hf hdef;go_enter Tryz.func252,Tryz.ntmps252
   go_wp2_with fail
   refine(a1X X _ _ _ _ hs1 (by omega)).mono ?_;rintro e w' ⟨rfl,rfl⟩;rw[hv'.out];go_wp2_with fail
   go_ret
   exact⟨hE,a0n hf2.out.symm⟩
  ·by_cases h0:0<l.length
   ·have hf2:Hid (a1n true l=true):=hid (by rw[hf.out,decide_eq_true h0];rfl)
    have hI:((l.length:Int)==0)=false:=a2I (by omega);clear hf hdef;go_enter Tryz.func252,Tryz.ntmps252
    go_wp2_with fail
    refine(a1X X _ _ _ _ hs1 (by omega)).mono ?_;rintro e w' ⟨rfl,rfl⟩;rw[hv'.out];go_wp2_with fail
    go_ret
    exact⟨hE,a0n hf2.out.symm⟩
   ·have hf2:Hid (a1n true l=false):=hid (by rw[hf.out,decide_eq_false h0];rfl)
    obtain rfl:l= []:=List.eq_nil_of_length_eq_zero (by omega);clear h0 hf hdef;simp only[List.length_nil]at hE hs1 |-;go_enter Tryz.func252,Tryz.ntmps252
    go_wp2_with fail
    refine(a1X X _ [] _ _ hs1 (by simp)).mono ?_;rintro e w' ⟨rfl,rfl⟩;rw[hv'.out];go_wp2_with fail
    go_ret
    exact⟨hE,a0n hf2.out.symm⟩
set_option maxRecDepth 100000 in
theorem a3G (X:Nat->Bool) (w:World) (u:Value) (z:Int) (hX:HX X w) (hu:ZV (mk X w) u z):Calls Tryz.prog 187 #[u] w (a1Z X w ZC z):=by
 obtain⟨s,ao,c,l,rfl,h1,h2,h3,h4,rfl⟩:=hu;obtain⟨W,hW⟩:∃W,(w.alloc (.cells #[.bool s, .slice ao l.length c] 43)).alloc (.cells #[.bool false, .slice none 0 0] 43)=W:=⟨_,rfl⟩;have hE:Ext w W:=by rw[<-hW];exact((ExtX.refl w).alloc _).alloc _
 have b0:Bx W w.heap.size #[.bool s, .slice ao l.length c] 43:=by
  rw[<-hW];exact(Bx.new w _ _).ext0 ((ExtX.refl _).alloc _)
 have b1:Bx W (w.heap.size+1) #[.bool false, .slice none 0 0] 43:=by
  rw[<-hW];have:=Bx.new (w.alloc (.cells #[.bool s, .slice ao l.length c] 43)) #[.bool false, .slice none 0 0] 43;simpa using this
 have hz:W.heap.size=w.heap.size+2:=by rw[<-hW];simp
 have hs1:Sl (a0d .u32) 1 (mk (a0f X w.heap.size 2) W) ao l:=h4.mono (a0d.mono _) (a0o hE);obtain⟨b,hb⟩:∃b,w.heap.size=b:=⟨_,rfl⟩;have hbw:w.heap.size<=b:=by omega
 have hXb:HX X w:=hX;rw[hb]at b0 b1 hz hs1;have c0:=b0.cell 0 rfl;have c1:=b0.cell 1 rfl;cases hv:a1n s l
 ·have hz0:=hid (a5u hv)
  have hv':=hid hv;clear hv;go_enter Tryz.func187,Tryz.ntmps187
  go_wp2_with fail
  refine(a6a (a0f X b 2) W s ao c l hs1 h3).mono ?_;rintro e w1 ⟨hE1,rfl⟩;rw[hv'.out];have b1':=b1.ext0 hE1;clear c0 c1;go_wp2_with ((with_reducible show wpList _ _ _ (⟨_, .store _ _ _,_,_,_,_⟩::_) _ _);refine a0c a0H rfl rfl b1' rfl rfl (a2K _ _ _ _) ?_;intro w2 b2 hE2)
  exact bodyPost_ret (a0e rfl rfl a0H b2 rfl) rfl ⟨ExtX.box (hE.trans hE1) hE2 (by omega),_,rfl,by rw[hz0.out];exact ZC.zero _⟩
 ·have hv':=hid hv
  clear hv;go_enter Tryz.func187,Tryz.ntmps187
  go_wp2_with fail
  refine(a6a (a0f X b 2) W s ao c l hs1 h3).mono ?_;rintro e w1 ⟨hE1,rfl⟩;rw[hv'.out];have b0':=b0.ext0 hE1;have b1':=b1.ext0 hE1;have hX1:HX (a0f X b 2) w1:=hX.boxes' (hE.trans hE1) (by have:=b1'.lt;omega) (by have:=b1'.lt;omega);have hcz:=hid (a5t.of_valid h2 hv'.out);have hnv:NV (mk (a0f X b 2) w1) (.slice ao l.length c) (nv l):=⟨ao,c,l,rfl,h1,h2,by omega,hs1.mono (a0d.mono _) (a0p hE1),by unfold val;rw[a0I.vl hcz.out.2]⟩;have hXd:HX (a0f X b 2) w1.drew:=hX1;have hnd:NV (mk (a0f X b 2) w1.drew) (.slice ao l.length c) (nv l):=hnv;have hEd:Ext w1 w1.drew:=(ExtX.refl w1).drew;have hB:=hid (And.intro b0' b1');clear c0 c1;have c0:=b0'.cell 0 rfl;have c1:=b0'.cell 1 rfl;go_wp2_with fail
  go_region_held3 (fun w'=>w'.cell? ⟨b,0,none⟩=some (.bool s)/\w'.cell? ⟨b,1,none⟩=some (.slice ao l.length c))
   (first|exact⟨(hB.out.1.ext0 (hEd.trans hE5)).cell 0 rfl,(hB.out.1.ext0 (hEd.trans hE5)).cell 1 rfl⟩|exact⟨((hB.out.1.ext0 (hEd.trans hE5)).ext (bb2.set2 _ _).2 (a0b (by omega))).cell 0 rfl,((hB.out.1.ext0 (hEd.trans hE5)).ext (bb2.set2 _ _).2 (a0b (by omega))).cell 1 rfl⟩|go_keep)
   (first|(go_at_call 189;(with_reducible refine(a3E hXd hnd).mono ?_);rintro e w5 ⟨hE5,u5,rfl,a5,c5,l5,rfl,h51,h52,h53⟩;have bb2:=hB.out.2.ext0 (hEd.trans hE5);have g1:=bb2.cell 0 rfl;have g2:=bb2.cell 1 rfl;have g3:=bb2.frozen 0;have g4:=bb2.frozen 1))
  obtain⟨r1,r2⟩:=bb2.set2 (.bool s) (.slice a5 l5.length c5);have h7:=(h53.mono (a0d.mono _) (a0i r2 (by omega) (by omega))).mono (a0d.mono _) a0l;have hcz2:a5t s l5 (a7q s l):=⟨hcz.out.1,by rw[<-hcz.out.2.2.2];exact h52⟩;have hEf:Ext w _:=ExtX.box (hE.trans (hE1.trans (hEd.trans hE5))) r2 (by omega);clear g1 g2 g3 g4 c0 c1;go_wp2_with fail
  exact bodyPost_ret (a0e rfl rfl a0H r1 rfl) rfl ⟨hEf,_,rfl,s,a5,c5,l5,rfl,h51,hcz2,h7⟩
theorem a1I (X:Nat->Bool) (w:World) (s:Bool) (u:Value) (n:Nat) (_hX:HX X w) (hu:NC (mk X w) u n):Calls Tryz.prog 184 #[.bool s,u] w (a1Z X w ZC (sg s n)):=by
 obtain⟨ao,c,l,rfl,h1,h2,h3⟩:=hu;obtain⟨W,hW⟩:∃W,w.alloc (.cells #[.bool false, .slice none 0 0] 43)=W:=⟨_,rfl⟩;have hE:Ext w W:=by rw[<-hW];exact(ExtX.refl w).alloc _
 have b0:Bx W w.heap.size #[.bool false, .slice none 0 0] 43:=by rw[<-hW];exact Bx.new w _ _
 have hs1:Sl (a0d .u32) 1 (mk (a0f X w.heap.size 1) W) ao l:=h3.mono (a0d.mono _) (a0o hE);obtain⟨b,hb⟩:∃b,w.heap.size=b:=⟨_,rfl⟩;have hbw:w.heap.size<=b:=by omega
 rw[hb]at b0 hs1;have hcz:Hid (a5t (s&&decide (0<l.length)) l (sg s n)):=hid (b1z h2);cases s
 ·rw[Bool.false_and]at hcz
  go_enter Tryz.func184,Tryz.ntmps184
  go_wp2_with ((with_reducible show wpList _ _ _ (⟨_, .store _ _ _,_,_,_,_⟩::_) _ _);refine a0c a0H rfl rfl b0 rfl rfl (a2K _ _ _ _) ?_;intro w2 b2 hE2)
  have hs3:=(hs1.mono (a0d.mono _) (a0i hE2 (by omega) (by omega))).mono (a0d.mono _) a0l;exact bodyPost_ret (a0e rfl rfl a0H b2 rfl) rfl ⟨ExtX.box hE hE2 (by omega),_,rfl,_,ao,c,l,rfl,h1,hcz.out,hs3⟩
 ·rw[Bool.true_and]at hcz
  by_cases h0:0<l.length
  ·rw[decide_eq_true h0]at hcz
   go_enter Tryz.func184,Tryz.ntmps184
   go_wp2_with ((with_reducible show wpList _ _ _ (⟨_, .store _ _ _,_,_,_,_⟩::_) _ _);refine a0c a0H rfl rfl b0 rfl rfl (a2K _ _ _ _) ?_;intro w2 b2 hE2)
   have hs3:=(hs1.mono (a0d.mono _) (a0i hE2 (by omega) (by omega))).mono (a0d.mono _) a0l;exact bodyPost_ret (a0e rfl rfl a0H b2 rfl) rfl ⟨ExtX.box hE hE2 (by omega),_,rfl,_,ao,c,l,rfl,h1,hcz.out,hs3⟩
  ·rw[decide_eq_false h0]at hcz
   obtain rfl:l= []:=List.eq_nil_of_length_eq_zero (by omega);clear h0;simp only[List.length_nil]at h1 hcz hs1 |-;go_enter Tryz.func184,Tryz.ntmps184
   go_wp2_with ((with_reducible show wpList _ _ _ (⟨_, .store _ _ _,_,_,_,_⟩::_) _ _);refine a0c a0H rfl rfl b0 rfl rfl (a2K _ _ _ _) ?_;intro w2 b2 hE2)
   have hs3:=(hs1.mono (a0d.mono _) (a0i hE2 (by omega) (by omega))).mono (a0d.mono _) a0l;exact bodyPost_ret (a0e rfl rfl a0H b2 rfl) rfl ⟨ExtX.box hE hE2 (by omega),_,rfl,_,ao,c,[],rfl,h1,hcz.out,hs3⟩
set_option maxRecDepth 100000 in
set_option maxHeartbeats 800000 in
theorem b8I (X:Nat->Bool) (w:World) (u v:Value) (x y:Int) (hX:HX X w) (hu:ZV (mk X w) u x) (hv:ZV (mk X w) v y):Calls Tryz.prog 177 #[u,v] w (a1Z X w ZC (x+y)):=by
 have hlx:=hid hu.lg;have hly:=hid hv.lg;obtain⟨s1,a1,c1,l1,rfl,hu'⟩:=id hu;obtain⟨s2,a2,c2,l2,rfl,hv'⟩:=id hv;obtain⟨W,hW,hE,b0,b1,b2,hz⟩:=a2x w #[.bool s1, .slice a1 l1.length c1] #[.bool s2, .slice a2 l2.length c2] #[.bool false, .slice none 0 0] 43 43 43;have hXW:HX (a0f X w.heap.size 3) W:=hX.boxes hz;have hu1:=ZV.mono _ _ _ _ (a0o (nb:=3) hE) hu;have hv1:=ZV.mono _ _ _ _ (a0o (nb:=3) hE) hv;obtain⟨b,hb⟩:∃b,w.heap.size=b:=⟨_,rfl⟩;have hbw:w.heap.size<=b:=by omega
 rw[hb]at b0 b1 b2 hz hXW hu1 hv1;have hEd:Ext W W.drew:=(ExtX.refl W).drew;have hXd:HX (a0f X b 3) W.drew:=hXW;have hud:ZV (mk (a0f X b 3) W.drew) (.agg #[.bool s1, .slice a1 l1.length c1]) x:=hu1;have hvd:ZV (mk (a0f X b 3) W.drew) (.agg #[.bool s2, .slice a2 l2.length c2]) y:=hv1;have k00:=b0.cell 0 rfl;have k01:=b0.cell 1 rfl;have k10:=b1.cell 0 rfl;have k11:=b1.cell 1 rfl;clear hu hv hu' hv';go_enter Tryz.func177,Tryz.ntmps177
 go_upto_region 1 with(fail)
 go_cut []from 9 to 12 (fun wx=>∃s3 a3 c3 l3 s4 a4 c4 l4,Bx wx b #[.bool s3, .slice a3 l3 c3] 43/\Bx wx (b+1) #[.bool s4, .slice a4 l4 c4] 43/\Bx wx (b+1+1) #[.bool false, .slice none 0 0] 43/\ZC (mk (a0f X b 3) wx) (.agg #[.bool s3, .slice a3 l3 c3]) x/\ZC (mk (a0f X b 3) wx) (.agg #[.bool s4, .slice a4 l4 c4]) y/\Ext w wx)
 case first=>
  go_region_with (first|(go_at_call 230;(with_reducible refine(a5x (a0f X b 3) W.drew _ x hXd hud).mono ?_);rintro e w5 ⟨hE5,u5,rfl,s5,a5,c5,l5,rfl,h51,h52,h53⟩;have bb0:=b0.ext0 (hEd.trans hE5);have bb1:=b1.ext0 (hEd.trans hE5);have e00:=bb0.cell 0 rfl;have e01:=bb0.cell 1 rfl;have e10:=bb1.cell 0 rfl;have e11:=bb1.cell 1 rfl)|(go_at_call 230;(with_reducible refine(a5x (a0f X b 3) w5 _ y (HX.ext hXd hE5) (mkx ZV.mono hvd hE5)).mono ?_);rintro e w6 ⟨hE6,u6,rfl,s6,a6,c6,l6,rfl,h61,h62,h63⟩;have bb2:=bb0.ext0 hE6;have bb3:=bb1.ext0 hE6;have g00:=bb2.cell 0 rfl;have g01:=bb2.cell 1 rfl;have g10:=bb3.cell 0 rfl;have g11:=bb3.cell 1 rfl;have fr0:=bb2.frozen 0;have fr1:=bb2.frozen 1;have fr2:=bb3.frozen 0;have fr3:=bb3.frozen 1))
  all_goals
   obtain⟨wf,hwf,q0,q1,q2,q3,q4⟩:=a2i (X:=X) (nb:=3) bb2 bb3 (hE.trans ((hEd.trans hE5).trans hE6)) hbw (by omega) (.bool s5) (.slice a5 l5.length c5) (.bool s6) (.slice a6 l6.length c6);rw[hwf];have hfx:ZC (mk (a0f X b 3) wf) (.agg #[.bool s5, .slice a5 l5.length c5]) x:=⟨s5,a5,c5,l5,rfl,h51,h52,(h53.mono (a0d.mono _) (a0p hE6)).mono (a0d.mono _) q4⟩;have hfy:ZC (mk (a0f X b 3) wf) (.agg #[.bool s6, .slice a6 l6.length c6]) y:=⟨s6,a6,c6,l6,rfl,h61,h62,h63.mono (a0d.mono _) q4⟩;have q5:=q2 (b+1+1) _ _ (by omega) (by omega) ((b2.ext0 (hEd.trans hE5)).ext0 hE6);clear e00 e01 e10 e11 g00 g01 g10 g11 fr0 fr1 fr2 fr3 k00 k01 k10 k11 hwf;go_wp2_with fail
   go_meet
   exact⟨_,_,_,_,_,_,_,_,q0,q1,q5,hfx,hfy,q3⟩
 case rest=>
  clear k00 k01 k10 k11 b0 b1 b2 hu1 hv1 hud hvd hXd hEd hW;obtain⟨s3,a3,c3,n3,s4,a4,c4,n4,b0,b1,b2,hx,hy,hE1⟩:=hcut;obtain⟨_,_,_,l3,heq,h31,h32,h33⟩:=hx;simp only[Value.agg.injEq,Array.mk.injEq,List.cons.injEq,Value.bool.injEq,Value.slice.injEq,and_true]at heq;obtain⟨rfl,rfl,rfl,rfl⟩:=heq;obtain⟨_,_,_,l4,heq,h41,h42,h43⟩:=hy;simp only[Value.agg.injEq,Array.mk.injEq,List.cons.injEq,Value.bool.injEq,Value.slice.injEq,and_true]at heq;obtain⟨rfl,rfl,rfl,rfl⟩:=heq;have hnx:NV (mk (a0f X b 3) wc) (.slice a3 l3.length c3) x.natAbs:=NC.nv ⟨a3,c3,l3,rfl,h31,h32.2,h33⟩ (by have:=hlx.out;omega);have hny:NV (mk (a0f X b 3) wc) (.slice a4 l4.length c4) y.natAbs:=NC.nv ⟨a4,c4,l4,rfl,h41,h42.2,h43⟩ (by have:=hly.out;omega);have hsx:=hid h32.1;have hsy:=hid h42.1;have hzz:w.heap.size+3<=wc.heap.size:=by have:=b2.lt;omega
  have hXc:HX (a0f X b 3) wc:=hX.boxes' hE1 (by omega) hzz;have hB:=hid (And.intro b0 (And.intro b1 b2));have k00:=b0.cell 0 rfl;have k01:=b0.cell 1 rfl;have k10:=b1.cell 0 rfl;have k11:=b1.cell 1 rfl;have hlz:=hid (a3F h32);have hlw:=hid (a3F h42);have hEd:Ext wc wc.drew:=(ExtX.refl wc).drew;have hn1:b+1≠b+1+1:=by omega
  have hn2:b≠b+1+1:=by omega
  by_cases hss:s3=s4
  ·subst hss
   have hfin:Hid (sg s3 (x.natAbs+y.natAbs)=x+y):=hid (by
    have e1:=hlz.out;have e2:=hlw.out;unfold sg at*;cases s3<;>simp at*<;>omega)
   go_wp2_with fail
   go_region_held3 (fun w'=>w'.cell? ⟨b,0,none⟩=some (.bool s3)/\w'.cell? ⟨b,1,none⟩=some (.slice a3 l3.length c3)/\w'.cell? ⟨b+1,1,none⟩=some (.slice a4 l4.length c4))
    (first|exact⟨(hB.out.1.ext0 (hEd.trans hE5)).cell 0 rfl,(hB.out.1.ext0 (hEd.trans hE5)).cell 1 rfl,(hB.out.2.1.ext0 (hEd.trans hE5)).cell 1 rfl⟩|exact⟨(hB.out.1.ext0 (hEd.trans (hE5.trans hE6))).cell 0 rfl,(hB.out.1.ext0 (hEd.trans (hE5.trans hE6))).cell 1 rfl,(hB.out.2.1.ext0 (hEd.trans (hE5.trans hE6))).cell 1 rfl⟩|exact⟨((hB.out.1.ext0 (hEd.trans (hE5.trans hE6))).ext (bb2.set2 _ _).2 (a0b (by omega))).cell 0 rfl,((hB.out.1.ext0 (hEd.trans (hE5.trans hE6))).ext (bb2.set2 _ _).2 (a0b (by omega))).cell 1 rfl,((hB.out.2.1.ext0 (hEd.trans (hE5.trans hE6))).ext (bb2.set2 _ _).2 (a0b (by omega))).cell 1 rfl⟩|go_keep)
    (first|(go_at_call 194;refine(b9U (X:=a0f X b 3) (w:=wc.drew) hXc hnx hny).mono ?_;rintro e w5 ⟨hE5,u5,rfl,hu5⟩)|(go_at_call 240;refine(a2D (a0f X b 3) w5 s3 u5 (x.natAbs+y.natAbs) (HX.ext (w:=wc.drew) hXc hE5) hu5).mono ?_;rintro e w6 ⟨hE6,u6,rfl,s6,a6,c6,l6,rfl,h61,h62,h63⟩;have bb2:=hB.out.2.2.ext0 (hEd.trans (hE5.trans hE6));have g1:=bb2.cell 0 rfl;have g2:=bb2.cell 1 rfl;have g3:=bb2.frozen 0;have g4:=bb2.frozen 1))
   obtain⟨r1,r2⟩:=bb2.set2 (.bool s6) (.slice a6 l6.length c6);have h7:=(h63.mono (a0d.mono _) (a0i r2 (by omega) (by omega))).mono (a0d.mono _) a0l;rw[hfin.out]at h62;have hEf:Ext w _:=ExtX.box (hE1.trans (hEd.trans (hE5.trans hE6))) r2 (by omega);clear g1 g2 g3 g4 k00 k01 k10 k11;go_wp2_with fail
   exact bodyPost_ret (a0e rfl rfl a0H r1 rfl) rfl ⟨hEf,_,rfl,s6,a6,c6,l6,rfl,h61,h62,h7⟩
  ·have hne:(s3==s4)=false:=by simpa using hss
   have hfin1:Hid (y.natAbs<=x.natAbs->sg s3 (x.natAbs - y.natAbs)=x+y):=hid (fun h=>by
    have e1:=hlz.out;have e2:=hlw.out;unfold sg at*;cases s3<;>cases s4<;>simp at*<;>omega)
   have hfin2:Hid (¬y.natAbs<=x.natAbs->sg s4 (y.natAbs - x.natAbs)=x+y):=hid (fun h=>by
    have e1:=hlz.out;have e2:=hlw.out;unfold sg at*;cases s3<;>cases s4<;>simp at*<;>omega)
   clear hss;go_wp2_with fail
   refine(c0H hXc hnx hny).mono ?_;rintro e w5 ⟨hE5,u5,rfl,hu5⟩;have hX5:=hXc.ext hE5;have bb0:=hB.out.1.ext0 hE5;have bb1:=hB.out.2.1.ext0 hE5;have bb2:=hB.out.2.2.ext0 hE5;clear k00 k01 k10 k11;have k00:=bb0.cell 0 rfl;have k01:=bb0.cell 1 rfl;have k10:=bb1.cell 0 rfl;have k11:=bb1.cell 1 rfl;by_cases hle:y.natAbs<=x.natAbs
   ·have hd:decide (y.natAbs<=x.natAbs)=true:=decide_eq_true hle
    have hf:=hid (hfin1.out hle);rw[hd];clear hd hle;go_wp2_with fail
    refine(a2D (a0f X b 3) w5 s3 u5 _ hX5 hu5).mono ?_;rintro e w6 ⟨hE6,u6,rfl,s6,a6,c6,l6,rfl,h61,h62,h63⟩;have bb3:=bb2.ext0 hE6;clear k00 k01 k10 k11;go_wp2_with ((with_reducible show wpList _ _ _ (⟨_, .store _ _ _,_,_,_,_⟩::_) _ _);refine a0c a0H rfl rfl bb3 rfl rfl (a2K _ _ _ _) ?_;intro w7 r1 r2)
    have h7:=(h63.mono (a0d.mono _) (a0i r2 (by omega) (by omega))).mono (a0d.mono _) a0l;rw[hf.out]at h62;exact bodyPost_ret (a0e rfl rfl a0H r1 rfl) rfl ⟨ExtX.box (hE1.trans (hE5.trans hE6)) r2 (by omega),_,rfl,s6,a6,c6,l6,rfl,h61,h62,h7⟩
   ·have hd:decide (y.natAbs<=x.natAbs)=false:=decide_eq_false hle
    have hf:=hid (hfin2.out hle);rw[hd];clear hd hle;go_wp2_with fail
    refine(c0H hX5 (mkx NV.mono hny hE5) (mkx NV.mono hnx hE5)).mono ?_;rintro e w6 ⟨hE6,v5,rfl,hv5⟩;have bc0:=bb0.ext0 hE6;have bc1:=bb1.ext0 hE6;have bc2:=bb2.ext0 hE6;clear k00 k01 k10 k11;have k10:=bc1.cell 0 rfl;have k11:=bc1.cell 1 rfl;go_wp2_with fail
    refine(a2D (a0f X b 3) w6 s4 v5 _ (hX5.ext hE6) hv5).mono ?_;rintro e w7 ⟨hE7,u6,rfl,s6,a6,c6,l6,rfl,h61,h62,h63⟩;have bb3:=bc2.ext0 hE7;clear k10 k11;go_wp2_with ((with_reducible show wpList _ _ _ (⟨_, .store _ _ _,_,_,_,_⟩::_) _ _);refine a0c a0H rfl rfl bb3 rfl rfl (a2K _ _ _ _) ?_;intro w8 r1 r2)
    have h7:=(h63.mono (a0d.mono _) (a0i r2 (by omega) (by omega))).mono (a0d.mono _) a0l;rw[hf.out]at h62;exact bodyPost_ret (a0e rfl rfl a0H r1 rfl) rfl ⟨ExtX.box (hE1.trans (hE5.trans (hE6.trans hE7))) r2 (by omega),_,rfl,s6,a6,c6,l6,rfl,h61,h62,h7⟩
end Go.Proofs.YtidbbddagfnfbaaGreat
