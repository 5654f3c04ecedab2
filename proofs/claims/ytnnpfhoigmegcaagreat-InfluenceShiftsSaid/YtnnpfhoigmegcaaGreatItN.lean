/- Parts of a proof: each theorem states what it proves, and its conditions. -/
import Derived.Test.YtnnpfhoigmegcaaGreatItM
set_option maxRecDepth 100000
set_option maxHeartbeats 1600000
namespace Go.Lin
open Go.Lim
def ddS(out:List Rat)(v:Rat):List Rat:=if out.getLast?=some v then out else out++[v]
def dd(s:List Rat):List Rat:=s.foldl ddS []
theorem b3R(s:List Rat)(v:Rat):dd (s++[v])=ddS (dd s) v:=by simp[dd,List.foldl_append]
theorem b5O(o:List Rat)(v:Rat):(ddS o v).getLast?=some v:=by
 unfold ddS;split
 ·assumption
 ·simp
theorem a8f:∀(n:Nat) (s:List Rat),s.length=n->s.Pairwise (· <= ·)->(∀x,x∈dd s↔x∈s)/\(dd s).Pairwise (· < ·)/\(dd s).getLast?=s.getLast?
 |0,s,h,_=>by
  obtain rfl:s= []:=List.length_eq_zero_iff.1 h;simp[dd]
 |n+1,s,h,hp=>by
  rcases List.eq_nil_or_concat s with rfl|⟨s',v,rfl⟩
  ·simp at h
  ·rw[List.concat_eq_append]at*
   rw[List.pairwise_append]at hp;obtain⟨h1,h2,h3⟩:=a8f n s' (by simpa using h) hp.1;rw[b3R];refine⟨fun x=>?_,?_,by rw[b5O];simp⟩
   ·unfold ddS
    split
    ·rename_i e
     rw[h1,List.mem_append,List.mem_singleton];refine⟨Or.inl,fun hx=>?_⟩;rcases hx with hx|rfl
     ·exact hx
     ·exact(h1 _).1 (List.mem_of_getLast? e)
    ·rw[List.mem_append,List.mem_append,h1]
   ·unfold ddS
    split
    ·exact h2
    ·rename_i e
     rw[List.pairwise_append];refine⟨h2,List.pairwise_singleton _ _,fun a ha b hb=>?_⟩;obtain rfl:=List.mem_singleton.1 hb;have hle:=hp.2.2 a ((h1 a).1 ha) b (List.mem_singleton.2 rfl);rcases Rat.le_iff_lt_or_eq.1 hle with hl|rfl
     ·exact hl
     ·exfalso
      obtain⟨c,hc⟩:∃c,(dd s').getLast?=some c:=by
       cases hd:(dd s').getLast? with
       |none=>rw[List.getLast?_eq_none_iff]at hd;rw[hd]at ha;simp at ha
       |some c=>exact⟨c,rfl⟩
      have hcl:c<=a:=hp.2.2 c ((h1 c).1 (List.mem_of_getLast? hc)) a (List.mem_singleton.2 rfl);have hca:c≠a:=fun h=>e (h▸hc);obtain⟨i,hi,hia⟩:=List.getElem_of_mem ha;have hcl2:(dd s')[(dd s').length - 1]'(by omega)=c:=by
       have:=hc;rw[List.getLast?_eq_getElem?,List.getElem?_eq_getElem (by omega)]at this;simpa using this
      rcases Nat.lt_or_ge i ((dd s').length - 1)with hlt|hge
      ·have:=List.pairwise_iff_getElem.1 h2 i ((dd s').length - 1) hi (by omega) hlt
       rw[hia,hcl2]at this;exact absurd hcl (Rat.not_le.2 this)
      ·have hie:i=(dd s').length - 1:=by omega
       subst hie;exact hca (by rw[<-hcl2,hia])
def loE(e:List Rat)(i:Nat):Option Rat:=if i=0 then none else some (fn e (i - 1))
def hiE(e:List Rat)(i:Nat):Option Rat:=if i=e.length then none else some (fn e i)
def ptP(e:List Rat)(i:Nat):Rat:=if i=0 then fn e 0 else fn e (i - 1)
def ptQ(e:List Rat)(i:Nat):Rat:=if i=0 then fn e 0 - 1 else if i=e.length then fn e (i - 1)+1 else fn e i
def pcE(f:Rat->Rat)(e:List Rat)(i:Nat):Pc:=⟨loE e i,hiE e i,a5l f (ptP e i) (ptQ e i),a4d f (ptP e i) (ptQ e i)⟩
theorem c0N{e:List Rat}{i:Nat}(h:i<e.length):fn e i=e[i]:=by simp[fn,List.getD_eq_getElem?_getD,h]
def a6c(out:List Pc)(p:Pc):List Pc:=
 match out.getLast? with
 |some o=>if o.a=p.a/\o.b=p.b then out.dropLast++[{o with hi:=p.hi}]else out++[p]
 |none=>[p]
def a9l(f:Rat->Rat)(e:List Rat)(n:Nat):List Pc:=(List.range n).map (pcE f e)
def b1b(f:Rat->Rat)(e:List Rat)(n:Nat):List Pc:=(a9l f e n).foldl a6c []
theorem a4g(f:Rat->Rat)(e:List Rat)(n:Nat):b1b f e (n+1)=a6c (b1b f e n) (pcE f e n):=by simp[b1b,a9l,List.range_succ,List.foldl_append]
def b9M(k t:Int)(l:List Rat):List Pc:=b1b (fun z=>a5k k t (l++[z])) (dd (srt l)) ((dd (srt l)).length+1)
theorem a9a{k t:Int}{l:List Rat}{B:Nat}(h:Go.Rep.BR B l)(j:l.length<=20)(g:B<=1000000):hq (a5k k t l)<=50000000:=by
 unfold a5k;have c:(a8h (srt l) (rkA k t l.length) (rkB k t l.length)).length<=20:=by
  unfold a8h;rw[List.length_take,List.length_drop,a7W];omega
 have b:=b3E (n:=20) (b3D (b3C h) (rkA k t l.length) (rkB k t l.length)) c _ (c1B _);have d:=hq_div (b0y (a8h (srt l) (rkA k t l.length) (rkB k t l.length))) (((rkB k t l.length - rkA k t l.length:Nat):Int):Rat);have e:hq ((((rkB k t l.length - rkA k t l.length:Nat):Int)):Rat)<=1000000:=by
  have i:rkB k t l.length<=l.length+1:=by
   unfold rkB
   repeat' split
   all_goals omega
  refine c1A (a4t _ 1 ?_ (c1B _)) (by decide);rw[Int.natAbs_natCast];rcases Nat.eq_zero_or_pos (rkB k t l.length - rkA k t l.length)with a|a
  ·rw[a];decide
  ·rw[a1Z (by omega) (by omega)];exact c1B _
 have f:hq (b0y (a8h (srt l) (rkA k t l.length) (rkB k t l.length)))<=1+20*(B+1):=b;omega
def c0m(k t:Int)(n:Nat):Int:=if a3r k t=false then 1 else if n<1\/64<n then 6 else if a6V k t n=false then 10 else 0
theorem a9b{k t:Int}{n:Nat}:c0m k t n=0↔a5j k t/\a6B k t n/\n<=64:=by
 rw[<-b1A,<-a8P];unfold c0m;cases c:a3r k t<;>cases b:a6V k t n<;>simp
 ·intro h;by_cases a:n=0\/64<n<;>simp[a]at h
 ·have d:=(a8P.1 b).1
  omega
end Go.Lin
namespace Go.Proofs.YtnnpfhoigmegcaaGreat
open Go.RowKit Go.Rep Go.Lim Go.Lin
theorem b6E(w:World)(k t:Int)(ao:Option Addr)(n ca:Nat)(hn:n<=9223372036854775807):Calls Tryz.prog 223 #[.agg #[.int .i64 k,.int .i64 t],.slice ao n ca] w (a3R w (c0m k t n)):=by
 obtain⟨W,hW,hE,b0,hz⟩:=a1e w #[.int .i64 k,.int .i64 t] 53;obtain⟨b,hb⟩:∃b,w.heap.size=b:=⟨_,rfl⟩;rw[hb]at b0 hz;have k0:W.cell? ⟨b,0,none⟩=some (.int .i64 k):=b0.cell 0 rfl;have k1:W.cell? ⟨b,1,none⟩=some (.int .i64 t):=b0.cell 1 rfl;have hf:=c0F W k t n (by omega) (by omega);obtain⟨kn,hkn⟩:∃kn,a3r k t=kn:=⟨_,rfl⟩;obtain⟨fn,hfn⟩:∃fn,a6V k t n=fn:=⟨_,rfl⟩;unfold c0m;rw[hkn,hfn]at hf |-;clear hkn hfn;cases kn with
 |false=>
  go_enter Tryz.func223,Tryz.ntmps223
  go_wp2_with (go_at_call 100;refine hf.mono ?_;rintro ee w1 ⟨hE1,rfl⟩)
  go_ret
  exact⟨hE.trans hE1,rfl⟩
 |true=>
  by_cases h1:n<1
  ·have h1':decide ((n:Int)<1)=true:=decide_eq_true (by omega)
   go_enter Tryz.func223,Tryz.ntmps223
   go_wp2_with (go_at_call 100;refine hf.mono ?_;rintro ee w1 ⟨hE1,rfl⟩)
   go_ret
   exact⟨hE.trans hE1,by simp⟩
  ·by_cases h2:64<n
   ·have h1':decide ((n:Int)<1)=false:=decide_eq_false (by omega)
    have h2':decide ((64:Int)<n)=true:=decide_eq_true (by omega);go_enter Tryz.func223,Tryz.ntmps223
    go_wp2_with (go_at_call 100;refine hf.mono ?_;rintro ee w1 ⟨hE1,rfl⟩)
    go_ret
    exact⟨hE.trans hE1,by simp⟩
   ·have h1':decide ((n:Int)<1)=false:=decide_eq_false (by omega)
    have h2':decide ((64:Int)<n)=false:=decide_eq_false (by omega);cases fn with
    |false=>
     go_enter Tryz.func223,Tryz.ntmps223
     go_wp2_with (go_at_call 100;refine hf.mono ?_;rintro ee w1 ⟨hE1,rfl⟩)
     go_ret
     exact⟨hE.trans hE1,by simp⟩
    |true=>
     go_enter Tryz.func223,Tryz.ntmps223
     go_wp2_with (go_at_call 100;refine hf.mono ?_;rintro ee w1 ⟨hE1,rfl⟩)
     go_ret
     exact⟨hE.trans hE1,by simp⟩
abbrev b8i:Array Value:=#[.bool false,.slice none 0 0,.slice none 0 0,.bool false,.slice none 0 0,.slice none 0 0,.bool false,.bool false,.bool false,.slice none 0 0,.slice none 0 0,.bool false,.slice none 0 0,.slice none 0 0]
def c0O(lo hi:Bool)(s1:Bool)(a1:Option Addr)(n1 c1:Nat)(d1:Option Addr)(k1 e1:Nat)(s2:Bool)(a2:Option Addr)(n2 c2:Nat)(d2:Option Addr)(k2 e2:Nat):Array Value:=
 #[.bool false,.slice none 0 0,.slice none 0 0,.bool false,.slice none 0 0,.slice none 0 0,.bool lo,.bool hi,.bool s1,.slice a1 n1 c1,.slice d1 k1 e1,.bool s2,.slice a2 n2 c2,.slice d2 k2 e2]
def b8B(h:Mem)(v:Value)(p:Rat×Rat):Prop:=∃s1 a1 n1 c1 d1 k1 e1 s2 a2 n2 c2 d2 k2 e2,v=.agg (c0O false false s1 a1 n1 c1 d1 k1 e1 s2 a2 n2 c2 d2 k2 e2)/\QC h (.agg #[.bool s1,.slice a1 n1 c1,.slice d1 k1 e1]) p.1/\QC h (.agg #[.bool s2,.slice a2 n2 c2,.slice d2 k2 e2]) p.2
theorem b8B.mono:a3H b8B:=by
 rintro h m u p a ⟨s,d,q,f,i,n,k,t,e,r,g,j,o,l,rfl,b,c⟩;exact⟨_,_,_,_,_,_,_,_,_,_,_,_,_,_,rfl,QC.mono _ _ _ _ a b,QC.mono _ _ _ _ a c⟩
theorem a6d:a1K Tryz.prog 163 14:=by
 have h:(Tryz.prog.info? 163).map (fun i=>(i.zero,i.size))=some (some (.agg b8i),14):=by kernel_rfl
 cases hi:Tryz.prog.info? 163 with
 |none=>rw[hi]at h;cases h
 |some ti=>rw[hi]at h;simp at h;exact⟨_,ti,Tryz.underlying163,hi,h.2⟩
theorem b9N(X:Nat->Bool)(w:World)(u vz vw:Value)(k t:Int)(l:List Rat)(z y:Rat)(B:Nat)(hX:HX X w)(hu:RV (mk X w) u l)(hz:QV (mk X w) vz z)(hy:QV (mk X w) vw y)(G:a5j k t)(hf:a6B k t (l.length+1))(hl:l.length<=19)(hB:BR B l)(j2:hq z<=B)(j1:hq y<=B)(p0:B<=1000000):Calls Tryz.prog 226 #[.agg #[.int .i64 k,.int .i64 t],u,vz,vw] w (a1S X w b8B (a5l (fun z=>a5k k t (l++[z])) z y,a4d (fun z=>a5k k t (l++[z])) z y)):=by
 obtain⟨s1,a1,n1,c1,d1,k1,e1,rfl⟩:=hz.shape;obtain⟨s2,a2,n2,c2,d2,k2,e2,rfl⟩:=hy.shape;obtain⟨W,hW,m,b0,b1,b2,b3,m3⟩:=b6o w #[.int .i64 k,.int .i64 t] #[.bool s1,.slice a1 n1 c1,.slice d1 k1 e1] #[.bool s2,.slice a2 n2 c2,.slice d2 k2 e2] b8i 53 41 41 163;have g6:HX (a0f X w.heap.size 4) W:=hX.boxes m3;have p:=RV.mono _ _ _ _ (a0j (nb:=4) m) hu;have h9:=QV.mono _ _ _ _ (a0j (nb:=4) m) hz;have h7:=QV.mono _ _ _ _ (a0j (nb:=4) m) hy;obtain⟨b,hb⟩:∃b,w.heap.size=b:=⟨_,rfl⟩;have p1:w.heap.size<=b:=by omega
 rw[hb]at b0 b1 b2 b3 m3 g6 p h9 h7;obtain⟨Z,hZ⟩:∃Z,a0f X b 4=Z:=⟨_,rfl⟩;rw[hZ]at g6 p h9 h7;have L:∀q:Rat,(l++[q]).length=l.length+1:=fun q=>by simp
 have c0:∀q:Rat,hq q<=B->BR B (l++[q]):=fun q hq x hx=>by
  rcases List.mem_append.1 hx with h|h
  ·exact hB x h
  ·rw[List.mem_singleton.1 h];exact hq
 have m2:=hid fun M f u' (hM:HX M f) (hr:RV (mk M f) u' (l++[z]))=>b0U M f u' k t (l++[z]) B hM hr G (by rw[L];exact hf) (by rw[L];omega) (c0 z j2) (by omega);have m1:=hid fun M f u' (hM:HX M f) (hr:RV (mk M f) u' (l++[y]))=>b0U M f u' k t (l++[y]) B hM hr G (by rw[L];exact hf) (by rw[L];omega) (c0 y j1) (by omega);have n0:=m;have I:Ext W W.drew:=(ExtX.refl W).drew;have k4:=g6.ext I;have h6:=hid (mkx RV.mono p I);have i0:=hid (mkx QV.mono h9 I);have h8:=hid (mkx QV.mono h7 I);have hS:Hid (∀f,Ext W f->f.cell? ⟨b,0,none⟩=some (.int .i64 k)/\f.cell? ⟨b,1,none⟩=some (.int .i64 t)/\f.cell? ⟨b+1,0,none⟩=some (.bool s1)/\f.cell? ⟨b+1,1,none⟩=some (.slice a1 n1 c1)/\f.cell? ⟨b+1,2,none⟩=some (.slice d1 k1 e1)/\f.cell? ⟨b+1+1,0,none⟩=some (.bool s2)/\f.cell? ⟨b+1+1,1,none⟩=some (.slice a2 n2 c2)/\f.cell? ⟨b+1+1,2,none⟩=some (.slice d2 k2 e2)):=hid fun f h=>
  ⟨(b0.ext0 h).cell 0 rfl,(b0.ext0 h).cell 1 rfl,(b1.ext0 h).cell 0 rfl,(b1.ext0 h).cell 1 rfl,(b1.ext0 h).cell 2 rfl,(b2.ext0 h).cell 0 rfl,(b2.ext0 h).cell 1 rfl,(b2.ext0 h).cell 2 rfl⟩
 go_enter Tryz.func226,Tryz.ntmps226
 go_upto_region 1 with fail
 refine a0n 13 (fun f=>f.cell? ⟨b,0,none⟩=some (.int .i64 k)/\f.cell? ⟨b,1,none⟩=some (.int .i64 t)/\f.cell? ⟨b+1,0,none⟩=some (.bool s1)/\f.cell? ⟨b+1,1,none⟩=some (.slice a1 n1 c1)/\f.cell? ⟨b+1,2,none⟩=some (.slice d1 k1 e1)/\f.cell? ⟨b+1+1,0,none⟩=some (.bool s2)/\f.cell? ⟨b+1+1,1,none⟩=some (.slice a2 n2 c2)/\f.cell? ⟨b+1+1,2,none⟩=some (.slice d2 k2 e2)) (by kernel_rfl) (by kernel_rfl) (hS.out _ I) (fun a c=>?_);refine kt 0 c ?_;refine kt 1 c ?_;refine kt 2 c ?_;refine kt 5 c ?_;refine kt 6 c ?_;refine kt 7 c ?_;refine a1F [3,4,8,9] [⟨10,9,41,#[.bool false,.slice none 0 0,.slice none 0 0]⟩,⟨11,10,41,#[.bool false,.slice none 0 0,.slice none 0 0]⟩] Z 2 k4 a (fun _ _ h m=>⟨m.cell h.1,m.cell h.2.1,m.cell h.2.2.1,m.cell h.2.2.2.1,m.cell h.2.2.2.2.1,m.cell h.2.2.2.2.2.1,m.cell h.2.2.2.2.2.2.1,m.cell h.2.2.2.2.2.2.2⟩) ?_;refine a0K (fun M1 w1 o4 T g7 g0 E g3 K j=>?_);simp only[a1C,Act.put,List.setIfInBounds_toArray,List.set_cons_zero,List.set_cons_succ];go_simp
 (with_reducible refine(b7W M1 w1 u _ l z T (upx RV.mono E h6.out) (upx QV.mono E i0.out) (by omega)).mono ?_);rintro ee f ⟨n,u1,rfl,p⟩
 refine j.out _ _ _ _ _ RV.mono n p (by simp only[a1C,Act.put,List.setIfInBounds_toArray,List.set_cons_zero,List.set_cons_succ]) ?_;clear j K T g7 g0 E g3;refine a0K (fun M2 w2 o5 U g8 g1 J g4 K j=>?_);simp only[a1C,Act.put,List.setIfInBounds_toArray,List.set_cons_zero,List.set_cons_succ];go_simp
 (with_reducible refine(m2.out M2 w2 u1 U J.2).mono ?_);rintro ee f ⟨n,u2,rfl,N⟩;obtain⟨s5,a5,n5,c5,d5,k5,e5,rfl⟩:=N.shape
 refine j.out _ _ _ _ _ QC.mono n N (by simp only[a1C,Act.put,List.setIfInBounds_toArray,List.set_cons_zero,List.set_cons_succ]) ?_;clear j K U g8 g1 J g4;refine a0K (fun M3 w3 o6 V h0 g2 F g5 K j=>?_);simp only[a1C,Act.put,List.setIfInBounds_toArray,List.set_cons_zero,List.set_cons_succ];go_simp
 (with_reducible refine(b7W M3 w3 u _ l y V (upx RV.mono F.1.1 h6.out) (upx QV.mono F.1.1 h8.out) (by omega)).mono ?_);rintro ee f ⟨n,u3,rfl,O⟩
 refine j.out _ _ _ _ _ RV.mono n O (by simp only[a1C,Act.put,List.setIfInBounds_toArray,List.set_cons_zero,List.set_cons_succ]) ?_;clear j K V h0 g2 F g5;refine a0K (fun M4 w4 p3 j8 o1 m7 j5 n3 K j=>?_);simp only[a1C,Act.put,List.setIfInBounds_toArray,List.set_cons_zero,List.set_cons_succ];go_simp
 (with_reducible refine(m1.out M4 w4 u3 j8 j5.2).mono ?_);rintro ee f ⟨n,u4,rfl,h5⟩;obtain⟨s6,a6,n6,c6,d6,k6,e6,rfl⟩:=h5.shape
 refine j.out _ _ _ _ _ QC.mono n h5 (by simp only[a1C,Act.put,List.setIfInBounds_toArray,List.set_cons_zero,List.set_cons_succ]) ?_;clear j K j8 o1 m7 j5 n3;refine a3h (fun M w5 gs j9 l0 j3 S o h2 l4=>?_);simp only[a1C,ptr,Act.put,List.setIfInBounds_toArray,List.set_cons_zero,List.set_cons_succ];obtain⟨D,h3⟩:∃g,gs 0=g:=⟨_,rfl⟩;obtain⟨s,b4⟩:∃g,gs 1=g:=⟨_,rfl⟩;obtain⟨x9,m9,l9⟩:=h2 0 _ rfl;obtain⟨i6,i2,e4⟩:=h2 1 _ rfl;have f4:=l4 0 1 (by decide) (by simp);rw[h3]at x9 m9 l9 f4;rw[b4]at i6 i2 e4 f4;simp only[h3,b4];have d3:∀k,k<=b+1+1+1->k<W.drew.heap.size:=fun k G=>by show k<W.heap.size;omega
 have e0:∀k,k<=b+1+1+1->ob (some ⟨D,0,none⟩) k=false:=fun k G=>by have:=d3 k G;simp[ob];omega
 have i4:=e0 b (by omega);have f0:=e0 (b+1) (by omega);have f1:=e0 (b+1+1) (by omega);refine ks 12 (fun K j=>?_)
 (refine a0q rfl rfl a0p rfl rfl x9 rfl rfl (a1z _ _ _ _ _ _ _) ?_;intro w6 z9 P)
 refine kcn j ⟨P.cellY o.1 i4,P.cellY o.2.1 i4,P.cellY o.2.2.1 f0,P.cellY o.2.2.2.1 f0,P.cellY o.2.2.2.2.1 f0,P.cellY o.2.2.2.2.2.1 f1,P.cellY o.2.2.2.2.2.2.1 f1,P.cellY o.2.2.2.2.2.2.2 f1⟩ (fun a=>?_);clear j K;have f7:=i6.ext P (a0b (by omega));refine kl 13 (fun K j=>?_)
 (refine a0q rfl rfl a0p rfl rfl f7 rfl rfl (a1z _ _ _ _ _ _ _) ?_;intro r f3 b7)
 refine j.out _ _ ?_;clear j K
 (try simp only[Act.put])
 have b8:=z9.ext b7 (a0b (by omega));have mm:∀g,M g=true->∀k,ob (some ⟨g,0,none⟩) k=true->M k=true:=fun g hg k G=>by
  have:g=k:=by simpa[ob]using G
  rw[<-this];exact hg
 have v:=(a0t P (mm D m9)).trans (a0t b7 (mm s i2));have q9:=QC.mono _ _ _ _ v S.1.1.2;have i5:=QC.mono _ _ _ _ v S.2;have qz:=QV.mono _ _ _ _ (S.1.1.1.1.trans v) i0.out;have qy:=QV.mono _ _ _ _ (S.1.1.1.1.trans v) h8.out;have k0:HX M r:=(j9.ext P).ext b7;have c3:Ext W r:=ExtX.box (ExtX.box (I.trans j3) P l9) b7 e4;have o2:=hid l0;obtain⟨ez,a0⟩:∃e,a5k k t (l++[z])=e:=⟨_,rfl⟩;obtain⟨ey,Y⟩:∃e,a5k k t (l++[y])=e:=⟨_,rfl⟩;have h4:Hid (hq ez<=50000000):=hid (by rw[<-a0];exact a9a (c0 z j2) (by rw[L];omega) (by omega));have l7:Hid (hq ey<=50000000):=hid (by rw[<-Y];exact a9a (c0 y j1) (by rw[L];omega) (by omega));have j6:Hid (a4d (fun z=>a5k k t (l++[z])) z y=(ey - ez)/(y - z)/\a5l (fun z=>a5k k t (l++[z])) z y=ez - (ey - ez)/(y - z)*z):=hid ⟨by rw[<-a0,<-Y];rfl,by rw[<-a0,<-Y];rfl⟩;rw[a0]at q9;rw[Y]at i5;have d0:Hid (hq (ey - ez)<=110000000/\hq (y - z)<=2100000/\hq ((ey - ez)/(y - z))<=120000000/\hq ((ey - ez)/(y - z)*z)<=130000000):=hid (by
  have a1:=a2O ey ez;have a2:=a2O y z;have a3:=hq_div (ey - ez) (y - z);have a4:=hq_mul ((ey - ez)/(y - z)) z;have a5:=h4.out;have a6:=l7.out;omega)
 have R:=b1.ext0 c3;have b9:=b2.ext0 c3;have j0:=b3.ext0 c3;have p2:b+1+1+1<D/\b+1+1+1<s:=⟨c1C (d3 _ (c1B _)) l9,c1C (d3 _ (c1B _)) e4⟩;clear p N O h5 S o h2 l4 a0 Y j9 l0 j3 x9 i6 f7 z9 P b7 e0 i4 f0 f1 d3 hS h6 i0 h8 k4 m2 m1 a c l9 e4 m9 i2 v h3 b4 m;have d:Ext r r.drew:=(ExtX.refl r).drew;have f5:=k0.ext d;have e3:r.drew.cell? ⟨s,0,none⟩=some (.bool s6)/\r.drew.cell? ⟨s,1,none⟩=some (.slice a6 n6 c6)/\r.drew.cell? ⟨s,2,none⟩=some (.slice d6 k6 e6)/\r.drew.cell? ⟨D,0,none⟩=some (.bool s5)/\r.drew.cell? ⟨D,1,none⟩=some (.slice a5 n5 c5)/\r.drew.cell? ⟨D,2,none⟩=some (.slice d5 k5 e5)/\r.drew.cell? ⟨b+1+1,0,none⟩=some (.bool s2)/\r.drew.cell? ⟨b+1+1,1,none⟩=some (.slice a2 n2 c2)/\r.drew.cell? ⟨b+1+1,2,none⟩=some (.slice d2 k2 e2)/\r.drew.cell? ⟨b+1,0,none⟩=some (.bool s1)/\r.drew.cell? ⟨b+1,1,none⟩=some (.slice a1 n1 c1)/\r.drew.cell? ⟨b+1,2,none⟩=some (.slice d1 k1 e1):=⟨d.cell (f3.cell 0 rfl),d.cell (f3.cell 1 rfl),d.cell (f3.cell 2 rfl),d.cell (b8.cell 0 rfl),d.cell (b8.cell 1 rfl),d.cell (b8.cell 2 rfl),d.cell (b9.cell 0 rfl),d.cell (b9.cell 1 rfl),d.cell (b9.cell 2 rfl),d.cell (R.cell 0 rfl),d.cell (R.cell 1 rfl),d.cell (R.cell 2 rfl)⟩;go_upto_region 2 with fail
 (try simp only[Act.put])
 refine a0n 8 (fun f=>f.cell? ⟨s,0,none⟩=some (.bool s6)/\f.cell? ⟨s,1,none⟩=some (.slice a6 n6 c6)/\f.cell? ⟨s,2,none⟩=some (.slice d6 k6 e6)/\f.cell? ⟨D,0,none⟩=some (.bool s5)/\f.cell? ⟨D,1,none⟩=some (.slice a5 n5 c5)/\f.cell? ⟨D,2,none⟩=some (.slice d5 k5 e5)/\f.cell? ⟨b+1+1,0,none⟩=some (.bool s2)/\f.cell? ⟨b+1+1,1,none⟩=some (.slice a2 n2 c2)/\f.cell? ⟨b+1+1,2,none⟩=some (.slice d2 k2 e2)/\f.cell? ⟨b+1,0,none⟩=some (.bool s1)/\f.cell? ⟨b+1,1,none⟩=some (.slice a1 n1 c1)/\f.cell? ⟨b+1,2,none⟩=some (.slice d1 k1 e1)) (by kernel_rfl) (by kernel_rfl) e3 (fun a c=>?_);refine kt 0 c ?_;refine kt 1 c ?_;refine kt 3 c ?_;refine kt 4 c ?_;refine a1F [2,5,6] [⟨7,11,41,#[.bool false,.slice none 0 0,.slice none 0 0]⟩] M 1 f5 a (fun _ _ h m=>⟨m.cell h.1,m.cell h.2.1,m.cell h.2.2.1,m.cell h.2.2.2.1,m.cell h.2.2.2.2.1,m.cell h.2.2.2.2.2.1,m.cell h.2.2.2.2.2.2.1,m.cell h.2.2.2.2.2.2.2.1,m.cell h.2.2.2.2.2.2.2.2.1,m.cell h.2.2.2.2.2.2.2.2.2.1,m.cell h.2.2.2.2.2.2.2.2.2.2.1,m.cell h.2.2.2.2.2.2.2.2.2.2.2⟩) ?_;refine a0K (fun M1 w1 o4 T g7 g0 E g3 K j=>?_);simp only[a1C,Act.put,List.setIfInBounds_toArray,List.set_cons_zero,List.set_cons_succ];go_simp
 (with_reducible refine(b4Q M1 w1 _ _ _ _ T (upx QV.mono E ((mkx QC.mono i5 d).qv (c1A l7.out (by decide)))) (upx QV.mono E ((mkx QC.mono q9 d).qv (c1A h4.out (by decide))))).mono ?_);rintro ee f ⟨n,u1,rfl,p⟩
 refine j.out _ _ _ _ _ QC.mono n p (by simp only[a1C,Act.put,List.setIfInBounds_toArray,List.set_cons_zero,List.set_cons_succ]) ?_;clear j K T g7 g0 E g3;refine a0K (fun M2 w2 o5 U g8 g1 J g4 K j=>?_);simp only[a1C,Act.put,List.setIfInBounds_toArray,List.set_cons_zero,List.set_cons_succ];go_simp
 (with_reducible refine(b4Q M2 w2 _ _ _ _ U (upx QV.mono J.1 (mkx QV.mono qy d)) (upx QV.mono J.1 (mkx QV.mono qz d))).mono ?_);rintro ee f ⟨n,u2,rfl,N⟩
 refine j.out _ _ _ _ _ QC.mono n N (by simp only[a1C,Act.put,List.setIfInBounds_toArray,List.set_cons_zero,List.set_cons_succ]) ?_;clear j K U g8 g1 J g4;refine a0K (fun M3 w3 o6 V h0 g2 F g5 K j=>?_);simp only[a1C,Act.put,List.setIfInBounds_toArray,List.set_cons_zero,List.set_cons_succ];go_simp
 (with_reducible refine(b5t M3 w3 _ _ _ _ V (F.1.2.qv (c1A d0.out.1 (by decide))) (F.2.qv (c1A d0.out.2.1 (by decide)))).mono ?_);rintro ee f ⟨n,u3,rfl,O⟩;obtain⟨s7,a7,n7,c7,d7,k7,e7,rfl⟩:=O.shape
 refine j.out _ _ _ _ _ QC.mono n O (by simp only[a1C,Act.put,List.setIfInBounds_toArray,List.set_cons_zero,List.set_cons_succ]) ?_;clear j K V h0 g2 F g5;refine a3h (fun M' w8 gs k3 l1 j4 c4 n4 l2 o3=>?_);simp only[a1C,ptr,Act.put,List.setIfInBounds_toArray,List.set_cons_zero,List.set_cons_succ];obtain⟨C,b5⟩:∃g,gs 0=g:=⟨_,rfl⟩;obtain⟨i7,i3,i1⟩:=l2 0 _ rfl;rw[b5]at i7 i3 i1;simp only[b5];refine kl 8 (fun K j=>?_)
 (refine a0q rfl rfl a0p rfl rfl i7 rfl rfl (a1z _ _ _ _ _ _ _) ?_;intro A i8 f2)
 refine j.out _ _ ?_;clear j K
 (try simp only[Act.put])
 have d4:=a0t (X:=M') f2 (fun k G=>by
  have:C=k:=by simpa[ob]using G
  rw[<-this];exact i3)
 have o7:=(QC.mono _ _ _ _ d4 c4.2).qv (c1A d0.out.2.2.1 (by decide));have m4:=QC.mono _ _ _ _ d4 c4.2;have b6:Le (mk M r) (mk M' A):=(a0l d).trans (c4.1.1.1.trans d4);have o8:=(QC.mono _ _ _ _ b6 q9).qv (c1A h4.out (by decide));have o9:=QV.mono _ _ _ _ b6 qz;have o0:HX M' A:=k3.ext f2;have H:Ext r A:=ExtX.box (d.trans j4) f2 i1;have i9:=b8.ext0 H;have f8:=R.ext0 H;have m5:=j0.ext0 H;have j7:=hid (fun k (G:Z k=true)=>l1 k (o2.out k G));have m8:=c3.trans H;clear p N O c4 n4 l2 o3 k3 l1 j4 i7 f2 d4 b6 e3 a c f5 q9 i5 qz qy b8 f3 R b9 j0 i1 i3 b5 k0;have i:Ext A A.drew:=(ExtX.refl A).drew;have f6:=o0.ext i;have e3:A.drew.cell? ⟨D,0,none⟩=some (.bool s5)/\A.drew.cell? ⟨D,1,none⟩=some (.slice a5 n5 c5)/\A.drew.cell? ⟨D,2,none⟩=some (.slice d5 k5 e5)/\A.drew.cell? ⟨C,0,none⟩=some (.bool s7)/\A.drew.cell? ⟨C,1,none⟩=some (.slice a7 n7 c7)/\A.drew.cell? ⟨C,2,none⟩=some (.slice d7 k7 e7)/\A.drew.cell? ⟨b+1,0,none⟩=some (.bool s1)/\A.drew.cell? ⟨b+1,1,none⟩=some (.slice a1 n1 c1)/\A.drew.cell? ⟨b+1,2,none⟩=some (.slice d1 k1 e1):=⟨i.cell (i9.cell 0 rfl),i.cell (i9.cell 1 rfl),i.cell (i9.cell 2 rfl),i.cell (i8.cell 0 rfl),i.cell (i8.cell 1 rfl),i.cell (i8.cell 2 rfl),i.cell (f8.cell 0 rfl),i.cell (f8.cell 1 rfl),i.cell (f8.cell 2 rfl)⟩;go_upto_region 3 with fail
 (try simp only[Act.put])
 refine a0n 7 (fun f=>f.cell? ⟨D,0,none⟩=some (.bool s5)/\f.cell? ⟨D,1,none⟩=some (.slice a5 n5 c5)/\f.cell? ⟨D,2,none⟩=some (.slice d5 k5 e5)/\f.cell? ⟨C,0,none⟩=some (.bool s7)/\f.cell? ⟨C,1,none⟩=some (.slice a7 n7 c7)/\f.cell? ⟨C,2,none⟩=some (.slice d7 k7 e7)/\f.cell? ⟨b+1,0,none⟩=some (.bool s1)/\f.cell? ⟨b+1,1,none⟩=some (.slice a1 n1 c1)/\f.cell? ⟨b+1,2,none⟩=some (.slice d1 k1 e1)) (by kernel_rfl) (by kernel_rfl) e3 (fun a c=>?_);refine kt 0 c ?_;refine kt 1 c ?_;refine kt 2 c ?_;refine kt 5 c ?_;refine ks 3 (fun K j=>?_);go_simp
 ((with_reducible refine(a9w M' A.drew _ _ _ _ f6 (mkx QV.mono o7 i) (mkx QV.mono o9 i)).mono ?_);rintro ee wa ⟨Q,ua,rfl,l8⟩;obtain⟨s8,a8,n8,c8,d8,k8,e8,rfl⟩:=l8.shape)
 refine kcn j ⟨Q.cell a.1,Q.cell a.2.1,Q.cell a.2.2.1,Q.cell a.2.2.2.1,Q.cell a.2.2.2.2.1,Q.cell a.2.2.2.2.2.1,Q.cell a.2.2.2.2.2.2.1,Q.cell a.2.2.2.2.2.2.2.1,Q.cell a.2.2.2.2.2.2.2.2⟩ (fun a=>?_);clear j K;refine ks 4 (fun K j=>?_);go_simp
 ((with_reducible refine(b4Q M' wa _ _ _ _ (f6.ext Q) (mkx QV.mono o8 (i.trans Q)) (l8.qv (c1A d0.out.2.2.2 (by decide)))).mono ?_);rintro ee wb ⟨gb,ub,rfl,m0⟩;obtain⟨s9,a9,n9,c9,d9,k9,e9,rfl⟩:=m0.shape)
 refine kcn j ⟨gb.cell a.1,gb.cell a.2.1,gb.cell a.2.2.1,gb.cell a.2.2.2.1,gb.cell a.2.2.2.2.1,gb.cell a.2.2.2.2.2.1,gb.cell a.2.2.2.2.2.2.1,gb.cell a.2.2.2.2.2.2.2.1,gb.cell a.2.2.2.2.2.2.2.2⟩ (fun a=>?_);clear j K;have f9:=i.trans (Q.trans gb);refine kt 6 c ?_;have m6:=m5.ext0 f9;refine kl 7 (fun K j=>?_)
 (refine a0q rfl rfl a6d rfl rfl m6 rfl rfl (by simp[Value.oneCell']) ?_;intro wf xf yf)
 refine j.out _ _ ?_;clear j K
 (try simp only[Act.put])
 have l3:Le (mk M' wb) (mk X wf):=(a0t yf (fun k G=>j7.out k (by
  have h1:b+1+1+1=k:=by simpa[ob]using G
  rw[<-hZ,<-h1];exact a3z (by omega) (by omega)))).trans (a1h fun k _ G=>j7.out k (by rw[<-hZ];exact a8u G))
 have l5:=QC.mono _ _ _ _ l3 m0;have l6:=QC.mono _ _ _ _ l3 (mkx QC.mono m4 f9);rw[<-j6.out.2]at l5;rw[<-j6.out.1]at l6;go_wp2_with fail
 exact bodyPost_ret (a0e rfl rfl a6d xf rfl) rfl ⟨ExtX.box (n0.trans (m8.trans f9)) yf (by omega),_,rfl,_,_,_,_,_,_,_,_,_,_,_,_,_,_,rfl,l5,l6⟩
end Go.Proofs.YtnnpfhoigmegcaaGreat
namespace Go.Rep
open Go.RowKit Go.Lim
section
variable {P:Program} {α:Type} {R:Mem->Value->α->Prop} {sz:Nat} {X:Nat->Bool} {base:Nat} {e:TypeId} {w:World} {ao:Option Addr} {cap:Nat} {l:List α}
theorem b1c{sz:Nat}:∀(us:List Value) (i:Nat) (hi:i<us.length),(∀u∈us,u.cells.size=sz)->((us.flatMap a0i).drop (i*sz)).take sz=a0i us[i]
 | [],i,hi,_=>by simp at hi
 |v::us,0,_,h=>by
  have hv:(a0i v).length=sz:=by have:=h v (by simp);simpa[a0i]using this
  simp only[List.flatMap_cons,Nat.zero_mul,List.drop_zero,List.getElem_cons_zero];rw[<-hv,List.take_left]
 |v::us,i+1,hi,h=>by
  have hv:(a0i v).length=sz:=by have:=h v (by simp);simpa[a0i]using this
  simp only[List.flatMap_cons,List.getElem_cons_succ];rw[Nat.succ_mul,Nat.add_comm,<-hv,List.drop_length_add_append,hv];exact b1c us i (by simpa using hi) (fun u hu=>h u (by simp[hu]))
theorem b5P{β:Type}(L V:List β)(p j m sz:Nat)(h:j+m<=sz):L.take (p+j)++V++L.drop (p+j+m)=L.take p++(((L.drop p).take sz).take j++V++((L.drop p).take sz).drop (j+m))++L.drop (p+sz):=by
 have a:L.take (p+j)=L.take p++((L.drop p).take sz).take j:=by
  rw[List.take_take,Nat.min_eq_left (by omega),List.take_add]
 have b:L.drop (p+j+m)=((L.drop p).take sz).drop (j+m)++L.drop (p+sz):=by
  have c:L.drop (p+j+m)=(L.drop p).drop (j+m):=by rw[List.drop_drop];congr 1;omega
  have d:L.drop (p+sz)=(L.drop p).drop sz:=by rw[List.drop_drop]
  rw[c,d,List.drop_take];generalize L.drop p=D;have e:D.drop sz=(D.drop (j+m)).drop (sz - (j+m)):=by rw[List.drop_drop];congr 1;omega
  rw[e,List.take_append_drop]
 rw[a,b];simp only[List.append_assoc]
theorem OL.run_storeSub{t t0:TypeId}{ti K:TypeInfo}{m:Nat}(J:P.info? t0=some K)(n:K.size=sz)(ht:P.info? t=some ti)(Y:ti.size=m)(T:Elem R sz)(h:OL R sz X base e w ao cap l)(i j:Nat)(L:i<l.length)(hj:j+m<=sz)(v:Value)(hv:v.cells.size=m)(D:∀c∈a0i v,c.oneCell'=true)(y:α)(hu:∀u,R (mk (un X ao) w) u l[i]->∃d,a0i d=(a0i u).take j++a0i v++(a0i u).drop (j+m)/\R (mk (un X ao) w) d y):∃r,(storeVar t (adr ao (i*sz+j)) v).run P w=.ok () r/\OL R sz X base e r ao cap (l.set i y)/\ExtX (ob ao) w r:=by
 have o:=h.form;have hh:=h;obtain⟨hx,M,h1,h2,a1,h3,h5⟩:=h;rcases o with⟨rfl,rfl,rfl⟩|⟨g,a,rfl,h6,Q,h8,h9,x⟩
 ·simp at L
 have C:i<M.length:=by omega
 obtain⟨d,Z,p⟩:=hu M[i] (h5 i C L);obtain⟨r,E,N,O⟩:=hh.run_store (P:=P) J n T i L d y p;have k:∀q,adr (some ⟨g,0,none⟩) q=⟨g,q,none⟩:=fun q=>by simp[adr]
 have I:(i+1)*sz<=l.length*sz:=Nat.mul_le_mul_right _ L;have W:l.length*sz<=cap*sz:=Nat.mul_le_mul_right _ h8;rw[Nat.succ_mul]at I;have b:=T.size _ _ _ p;have G:=run_storeCells_at P g (i*sz) e (a0i d) 0 a w Q (by simp[a0i,b,x];omega) (T.one _ _ _ p);have H:=run_storeCells_at P g (i*sz+j) e (a0i v) 0 a w Q (by simp[a0i,hv,x];omega) D;have F:(a.toList.drop (i*sz)).take sz=a0i M[i]:=by
  rcases h3.2 with⟨f,_⟩|⟨g',c',s,f,_,B,_,_,_,z⟩
  ·simp at f
  simp at f;obtain⟨rfl,rfl⟩:=f;rw[Q]at B;obtain rfl:a=s:=by simpa using B
  have:=b1c M i C h2;rw[<-z,List.drop_take,List.take_take,Nat.min_eq_left (by omega)]at this;exact this
 have a0:r=w.setRow g (a.toList.take (i*sz+0)++a0i d++a.toList.drop (i*sz+0+(a0i d).length)).toArray:=by
  rw[k]at E;simp[storeVar,sizeOf,typeInfo,J,n,b]at E;have A:=G;simp only[a0i]at A E;rw[A]at E;simpa[a0i]using E.symm
 have U:(a0i d).length=sz:=by simp[a0i,b]
 have V:(a0i v).length=m:=by simp[a0i,hv]
 have S:a.toList.take (i*sz+j+0)++a0i v++a.toList.drop (i*sz+j+0+(a0i v).length)=a.toList.take (i*sz+0)++a0i d++a.toList.drop (i*sz+0+(a0i d).length):=by
  rw[U,V,Z,<-F];exact b5P a.toList (a0i v) (i*sz) j m sz hj
 refine⟨r,?_,N,O⟩;rw[a0,<-S,k];simp[storeVar,sizeOf,typeInfo,ht,Y,hv];simpa[a0i]using H
theorem a0T{ops:Array Oper}{Q:Exit->Act->World->Prop}{a:Act}{o:Oper}{K:Act->World->Prop}{E:Prop}{t U:TypeId}{m:Nat}{r s:Operand}(H:o.guard=none)(k:o.op=.store t r s)(g:TyI P U sz)(G:TyI P t m)(F:Elem R sz)(i j:Nat){A:Addr}(S:a.eval r=.pointer (some A))(C:adr ao (i*sz+j)=A)(h:OL R sz X base e w ao cap l)(I:i<l.length)(J:j+m<=sz)(v:Value)(T:a.eval s=v)(N:v.cells.size=m)(b:∀c∈a0i v,c.oneCell'=true)(y:α)(M:∀u,R (mk (un X ao) w) u l[i]->∃x,a0i x=(a0i u).take j++a0i v++(a0i u).drop (j+m)/\R (mk (un X ao) w) x y)(D:∀f,OL R sz X base e f ao cap (l.set i y)->ExtX (ob ao) w f->K (a.put o.dst undef) f):if Region.wanted o (yielded ops a.tmps)=true then Oper.wp P o a w K Q else E:=by
 have O:Region.wanted o (yielded ops a.tmps)=true:=by simp[Region.wanted,H]
 rw[if_pos O];obtain⟨ti,L,p⟩:=G;obtain⟨V,n,d⟩:=g;obtain⟨f,q,z,B⟩:=h.run_storeSub (P:=P) n d L p F i j I J v N b y M;rw[C]at q;unfold Oper.wp execOp;rw[k];simp[S,T,Instr.storeAt,Instr.sureAddr,q,Result.andThen];exact D _ z B
end
section
variable {P:Program} {ops:Array Oper} {Q:Exit->Act->World->Prop} {a:Act} {w:World}
theorem a2N{o:Oper}{K:Act->World->Prop}{E:Prop}{t:TypeId}{x y:Operand}{n b i:Nat}{c d:Array Value}{T:TypeId}(z:o.guard=none)(h:o.op=.store t x y)(s:a1K P t n)(D:a.eval x=.pointer (some ⟨b,i,none⟩))(F:a.eval y=.agg d)(l:Bx w b c T)(u:i+n<=c.size)(e:d.size=n)(f:∀v∈d.toList,v.oneCell'=true)(r:∀j,Bx j b (c.toList.take i++d.toList++c.toList.drop (i+n)).toArray T->ExtX (ob (some ⟨b,0,none⟩)) w j->K (a.put o.dst undef) j):if Region.wanted o (yielded ops a.tmps)=true then Oper.wp P o a w K Q else E:=by
 have C:Region.wanted o (yielded ops a.tmps)=true:=by simp[Region.wanted,z]
 rw[if_pos C];obtain⟨G,ti,H,p,q⟩:=s;have g:=run_storeCells_at P b i T d.toList 0 c w l (by simp[e];omega) f;have B:(storeVar t ⟨b,i,none⟩ (.agg d)).run P w=.ok () (w.setRow b (c.toList.take (i+0)++d.toList++c.toList.drop (i+0+d.toList.length)).toArray):=by
  simp[storeVar,sizeOf,typeInfo,p,q,Value.cells,e];simp only[Nat.add_zero,Array.length_toList,e,List.append_assoc]at g |-;exact g
 unfold Oper.wp execOp;rw[h];simp[D,F,Instr.storeAt,Instr.sureAddr,B,Result.andThen];refine r _ ?_ ?_
 ·unfold Bx
  have:=setRow_heap w b c (c.toList.take (i+0)++d.toList++c.toList.drop (i+0+d.toList.length)).toArray T (0,0) l;simp only[Nat.add_zero,Array.length_toList,e,List.append_assoc]at this |-;exact this
 ·exact⟨rfl,rfl,rfl,by simp,fun k _ A=>setRow_other w b k _ (fun m=>by subst m;simp[ob]at A)⟩
end
end Go.Rep
namespace Go.Rep
open Go.RowKit Go.Lim Go.Lin
def a1T(h:Mem)(v:Value)(p:Pc):Prop:=∃s1 a1 n1 c1 d1 k1 e1 s2 a2 n2 c2 d2 k2 e2 s3 a3 n3 c3 d3 k3 e3 s4 a4 n4 c4 d4 k4 e4,
 v=.agg #[.bool s1,.slice a1 n1 c1,.slice d1 k1 e1,.bool s2,.slice a2 n2 c2,.slice d2 k2 e2,.bool p.lo.isNone,.bool p.hi.isNone,.bool s3,.slice a3 n3 c3,.slice d3 k3 e3,.bool s4,.slice a4 n4 c4,.slice d4 k4 e4]/\
 QC h (.agg #[.bool s1,.slice a1 n1 c1,.slice d1 k1 e1]) (p.lo.getD 0)/\QC h (.agg #[.bool s2,.slice a2 n2 c2,.slice d2 k2 e2]) (p.hi.getD 0)/\QC h (.agg #[.bool s3,.slice a3 n3 c3,.slice d3 k3 e3]) p.a/\QC h (.agg #[.bool s4,.slice a4 n4 c4,.slice d4 k4 e4]) p.b
theorem a1T.mono:a3H a1T:=by
 rintro h y u p a ⟨H,f,D,k,o,z,t,I,g,E,l,q,A,v,J,i,F,m,r,B,w,K,j,G,n,s,C,x,rfl,b,c,d,e⟩;exact⟨_,_,_,_,_,_,_,_,_,_,_,_,_,_,_,_,_,_,_,_,_,_,_,_,_,_,_,_,rfl,QC.mono _ _ _ _ a b,QC.mono _ _ _ _ a c,QC.mono _ _ _ _ a d,QC.mono _ _ _ _ a e⟩
theorem a1T.elem:Elem a1T 14:=by
 refine⟨a1T.mono,?_,?_,by decide⟩
 ·rintro h u p ⟨_,_,_,_,_,_,_,_,_,_,_,_,_,_,_,_,_,_,_,_,_,_,_,_,_,_,_,_,rfl,_⟩;rfl
 ·rintro h u p ⟨_,_,_,_,_,_,_,_,_,_,_,_,_,_,_,_,_,_,_,_,_,_,_,_,_,_,_,_,rfl,_⟩ c a
  simp[a0i,Value.cells]at a;rcases a with rfl|rfl|rfl|rfl|rfl|rfl|rfl|rfl|rfl|rfl|rfl|rfl|rfl|rfl<;>rfl
theorem a1T.agg:∀h u p,a1T h u p->∃a,u=.agg a:=by
 rintro h u p ⟨_,_,_,_,_,_,_,_,_,_,_,_,_,_,_,_,_,_,_,_,_,_,_,_,_,_,_,_,rfl,_⟩;exact⟨_,rfl⟩
theorem a1T.of{h:Mem}{p:Pc}{E F G H lo I:Bool}{c l d m e n f o:Option Addr}{A g w q B i x r C j y s D k z t:Nat}(J:QC h (.agg #[.bool E,.slice c A g,.slice l w q]) (p.lo.getD 0))(K:QC h (.agg #[.bool F,.slice d B i,.slice m x r]) (p.hi.getD 0))(L:QC h (.agg #[.bool G,.slice e C j,.slice n y s]) p.a)(M:QC h (.agg #[.bool H,.slice f D k,.slice o z t]) p.b)(v:p.lo.isNone=lo)(u:p.hi.isNone=I):a1T h (.agg #[.bool E,.slice c A g,.slice l w q,.bool F,.slice d B i,.slice m x r,.bool lo,.bool I,.bool G,.slice e C j,.slice n y s,.bool H,.slice f D k,.slice o z t]) p:=by
 subst v u;exact⟨E,c,A,g,l,w,q,F,d,B,i,m,x,r,G,e,C,j,n,y,s,H,f,D,k,o,z,t,rfl,J,K,L,M⟩
theorem a1T.putTo{h:Mem}{u:Value}{o y:Pc}{s:Bool}{a d:Option Addr}{n c k e:Nat}(D:a1T h u o)(hq:QC h (.agg #[.bool s,.slice a n c,.slice d k e]) (y.hi.getD 0))(f:y.lo=o.lo)(A:y.hi.isNone=o.hi.isNone)(B:y.a=o.a)(C:y.b=o.b):∃g,a0i g=(a0i u).take 3++a0i (.agg #[.bool s,.slice a n c,.slice d k e])++(a0i u).drop (3+3)/\a1T h g y:=by
 obtain⟨N,i,H,m,r,E,w,X,Q,V,R,S,U,T,O,j,I,p,t,F,x,P,l,J,q,v,G,z,rfl,K,W,L,M⟩:=D;exact⟨.agg #[.bool N,.slice i H m,.slice r E w,.bool s,.slice a n c,.slice d k e,.bool o.lo.isNone,.bool o.hi.isNone,.bool O,.slice j I p,.slice t F x,.bool P,.slice l J q,.slice v G z],by simp[a0i,Value.cells],a1T.of (f▸K) hq (B▸L) (C▸M) (by rw[f]) A⟩
theorem a1T.putFrom{h:Mem}{u:Value}{o:Pc}{s:Bool}{a d:Option Addr}{n c k e:Nat}(x:a1T h u o)(hq:QC h (.agg #[.bool s,.slice a n c,.slice d k e]) (o.lo.getD 0)):∃b,a0i b=(a0i u).take 0++a0i (.agg #[.bool s,.slice a n c,.slice d k e])++(a0i u).drop (0+3)/\a1T h b o:=by
 obtain⟨R,K,P,L,M,O,N,H,f,B,j,p,y,t,I,g,C,l,q,z,v,J,i,D,m,r,A,w,rfl,Q,E,F,G⟩:=x;exact⟨.agg #[.bool s,.slice a n c,.slice d k e,.bool H,.slice f B j,.slice p y t,.bool o.lo.isNone,.bool o.hi.isNone,.bool I,.slice g C l,.slice q z v,.bool J,.slice i D m,.slice r A w],by simp[a0i,Value.cells],a1T.of hq E F G rfl rfl⟩
theorem a1T.putNo{h:Mem}{u:Value}{o:Pc}{r:Option Rat}(v:a1T h u {o with hi:=some (r.getD 0)}):∃a,a0i a=(a0i u).take 7++a0i (.bool r.isNone)++(a0i u).drop (7+1)/\a1T h a {o with hi:=r}:=by
 obtain⟨I,b,A,f,k,w,p,J,c,B,g,l,x,q,K,d,C,i,m,y,s,L,e,D,j,n,z,t,rfl,E,F,G,H⟩:=v;exact⟨.agg #[.bool I,.slice b A f,.slice k w p,.bool J,.slice c B g,.slice l x q,.bool o.lo.isNone,.bool r.isNone,.bool K,.slice d C i,.slice m y s,.bool L,.slice e D j,.slice n z t],by simp[a0i,Value.cells],a1T.of E F G H rfl rfl⟩
theorem b5Q{α:Type}{l:List α}{q:Nat}(hq:l.length=q)(h:0<q)(y:α):l.set (q - 1) y=l.dropLast++[y]:=by
 subst hq;rcases List.eq_nil_or_concat l with rfl|⟨a,v,rfl⟩
 ·simp at h
 ·simp
theorem b8j{X:Nat->Bool}{w:World}{e:TypeId}{a:Array Value}{p:Pc}(c:HX X w)(h:a1T (mk X w) (.agg a) p):OL a1T 14 X w.heap.size e (w.alloc (.cells a e)) (some ⟨w.heap.size,0,none⟩) 1 [p]:=
 OL.lit a1T.elem c (c1B _) [.agg a] [p] _ (by simp[a0i,Value.cells]) rfl (fun i b _=>by
  obtain rfl:i=0:=by simp at b;exact b
  exact h) (by simp)
section
variable {α:Type} {R:Mem->Value->α->Prop} {sz:Nat} {X:Nat->Bool} {base:Nat} {e:TypeId} {w:World} {ao:Option Addr} {cap:Nat} {l:List α}
theorem OL.elemAt(h:OL R sz X base e w ao cap l)(i:Nat)(t:i<l.length):∃g o u,adr ao (i*sz)=⟨g,o,none⟩/\ob ao g=true/\R (mk (un X ao) w) u l[i]/\Hid (∀Y W',ExtX Y w W'->Y g=false->∀j v,j<sz->(a0i u)[j]? =some v->W'.cell? ⟨g,o+j,none⟩=some v):=by
 obtain⟨m,y,b⟩:=h.hd (by omega);have k:adr ao (i*sz)=⟨m,y+i*sz,none⟩:=by rw[b];rfl
 obtain⟨f,z,n,_,p,q⟩:=h.cells;have c:i<f.length:=by omega
 refine⟨_,_,f[i],k,by rw[b];simp[ob],q i c t,hid fun Y W' r s j v x d=>?_⟩;have a:=a2X f i j c n x;rw[d]at a;have:=(p _ _ a).1;rw[<-a3v,k,Addr.add_lit]at this;exact r.cellY this s
theorem OL.own_read{β:Type}{a:Mem->Value->β->Prop}{b:World}{u:Value}{y:β}(_:OL R sz X base e w ao cap l)(d:a3H a)(g:a (mk (un X ao) w) u y)(c:ExtX (ob ao) w b):a (mk (un X ao) b) u y:=
 d _ _ _ _ (a0t c fun _ f=>a0u f) g
end
section
variable {P:Program} {ops:Array Oper} {Q:Exit->Act->World->Prop} {rest:List Oper} {a:Act} {w:World} {d:Option Tmp} {ty:TypeId} {ps:String} {af:Array Edge}
theorem a9c{t:TypeId}{x y:Operand}{n b o:Nat}{f g:Array Value}{T:TypeId}(p:a1K P t n)(r:a.eval x=.pointer (some ⟨b,o,none⟩))(s:a.eval y=.agg g)(q:Bx w b f T)(i:o+n<=f.size)(j:g.size=n)(c:∀v∈g.toList,v.oneCell'=true)(K:∀e,Bx e b (f.toList.take o++g.toList++f.toList.drop (o+n)).toArray T->ExtX (ob (some ⟨b,0,none⟩)) w e->wpList P ops Q rest (a.put d undef) e):wpList P ops Q (⟨d,.store t x y,ty,ps,af,none⟩::rest) a w:=by
 refine wpList_plain rfl fun k h=>?_;have:=a2N (P:=P) (ops:=ops) (Q:=Q) (a:=a) (w:=w) (o:=⟨d,.store t x y,ty,ps,af,none⟩) (K:=k) (E:=True) rfl rfl p r s q i j c (fun e l m=>h _ _ (K e l m));rwa[if_pos (by simp[Region.wanted])]at this
end
end Go.Rep
namespace Go.Lin
open Go.Lim
theorem a6k(f:Rat->Rat)(e:List Rat)(n:Nat):(a9l f e n).length=n:=by simp[a9l]
theorem a9d(f:Rat->Rat)(e:List Rat)(n:Nat):a9l f e (n+1)=a9l f e n++[pcE f e n]:=by simp[a9l,List.range_succ]
theorem b5R(f:Rat->Rat)(e:List Rat)(n i:Nat)(h:i<(a9l f e n).length):(a9l f e n)[i]=pcE f e i:=by simp[a9l]
theorem b5S(out:List Pc)(p:Pc):∃o,(a6c out p).getLast?=some o/\o.hi=p.hi:=by
 unfold a6c;split
 ·rename_i o _
  split
  ·exact⟨{o with hi:=p.hi},by simp,rfl⟩
  ·exact⟨p,by simp,rfl⟩
 ·exact⟨p,rfl,rfl⟩
theorem b3S(out:List Pc)(p:Pc):(a6c out p).length<=out.length+1:=by
 unfold a6c;split
 ·split
  ·simp
  ·simp
 ·simp
theorem b1d(f:Rat->Rat)(e:List Rat):∀n,(b1b f e n).length<=n
 |0=>by simp[b1b,a9l]
 |n+1=>by
  rw[a4g];have:=b3S (b1b f e n) (pcE f e n);have:=b1d f e n;omega
def a8g(K:Nat)(p:Pc):Prop:=hq p.a<=K/\hq p.b<=K/\hq (p.lo.getD 0)<=K/\hq (p.hi.getD 0)<=K
theorem b1U{K:Nat}{out:List Pc}{p:Pc}(h:∀o∈out,a8g K o)(c:a8g K p):∀o∈a6c out p,a8g K o:=by
 unfold a6c;split
 ·rename_i q hq
  have b:=h q (List.mem_of_getLast? hq);split
  ·intro o a
   rw[List.mem_append,List.mem_singleton]at a;rcases a with a|rfl
   ·exact h o ((List.dropLast_sublist out).subset a)
   ·exact⟨b.1,b.2.1,b.2.2.1,c.2.2.2⟩
  ·intro o a
   rw[List.mem_append,List.mem_singleton]at a;rcases a with a|rfl
   ·exact h o a
   ·exact c
 ·intro o a
  obtain rfl:=List.mem_singleton.1 a;exact c
theorem a6N{K:Nat}{f:Rat->Rat}{e:List Rat}:∀n,(∀i,i<n->a8g K (pcE f e i))->∀o∈b1b f e n,a8g K o
 |0,_=>by simp[b1b,a9l]
 |n+1,h=>by
  rw[a4g];exact b1U (a6N n fun i hi=>h i (by omega)) (h n (by omega))
theorem b5T{f:Rat->Rat}{e:List Rat}{B:Nat}(b:∀z,hq z<=B+10->hq (f z)<=50000000)(p:∀q∈e,hq q<=B)(u:B<=100000)(i:Nat):a8g 1000000000 (pcE f e i):=by
 have t:hq (1:Rat)<=1:=by decide+kernel
 have a:∀j,hq (fn e j)<=B+5:=fun j=>by
  by_cases c:j<e.length
  ·rw[c0N c];exact c1A (p _ (c1E c)) (by omega)
  ·have:fn e j=0:=by simp[fn,List.getD_eq_getElem?_getD,c]
   rw[this,a0X];omega
 have d:hq (ptP e i)<=B+10:=by
  unfold ptP;split
  ·have:=a 0;omega
  ·have:=a (i - 1);omega
 have m:hq (ptQ e i)<=B+10:=by
  unfold ptQ;split
  ·have l:=a2O (fn e 0) 1;have:=a 0;omega
  ·split
   ·have l:=a7d (fn e (i - 1)) 1;have:=a (i - 1);omega
   ·have:=a i;omega
 have o:hq (a4d f (ptP e i) (ptQ e i))<=100300000:=by
  unfold a4d;have g:=hq_div (f (ptQ e i) - f (ptP e i)) (ptQ e i - ptP e i);have h:=a2O (f (ptQ e i)) (f (ptP e i));have r:=a2O (ptQ e i) (ptP e i);have k:=b _ d;have s:=b _ m;omega
 have n:hq (a5l f (ptP e i) (ptQ e i))<=1000000000:=by
  unfold a5l;have g:=a2O (f (ptP e i)) (a4d f (ptP e i) (ptQ e i)*ptP e i);have h:=hq_mul (a4d f (ptP e i) (ptQ e i)) (ptP e i);have k:=b _ d;omega
 refine⟨n,c1A o (by decide),?_,?_⟩
 ·show hq ((loE e i).getD 0)<=_
  unfold loE;split
  ·rw[Option.getD_none,a0X];decide
  ·have:=a (i - 1);rw[Option.getD_some];omega
 ·show hq ((hiE e i).getD 0)<=_
  unfold hiE;split
  ·rw[Option.getD_none,a0X];decide
  ·have:=a i;rw[Option.getD_some];omega
theorem b8k{f:Rat->Rat}{e:List Rat}{n:Nat}(a:1<=n):∃o,(b1b f e n).getLast?=some o/\o.hi=hiE e (n - 1):=by
 obtain⟨k,rfl⟩:∃k,n=k+1:=⟨n - 1,by omega⟩;rw[a4g];exact b5S _ _
theorem a9e{k t:Int}{n:Nat}(h:a6B k t n):a6B k t (n+1):=⟨by omega,h.2.imp id fun a=>by have:=h.1;omega⟩
theorem b6F(s:List Rat):(dd s).length<=s.length:=by
 have h:∀(s o:List Rat),(s.foldl ddS o).length<=o.length+s.length:=by
  intro s
  induction s with
  |nil=>intro o;simp
  |cons a s ih=>
   intro o;have h1:=ih (ddS o a);have h2:(ddS o a).length<=o.length+1:=by unfold ddS;split<;>simp
   simp only[List.foldl_cons,List.length_cons]at*;omega
 simpa[dd]using h s []
theorem b8l{S:List Rat}{i:Nat}(h:i<S.length):dd (S.take (i+1))=ddS (dd (S.take i)) S[i]:=by
 rw[List.take_succ_eq_append_getElem h,b3R]
end Go.Lin
namespace Go.Proofs.YtnnpfhoigmegcaaGreat
open Go.RowKit Go.Rep Go.Lim Go.Lin
theorem b3T{x y:Rat}:b1s x y=0↔x=y:=by
 unfold b1s;split
 ·rename_i h
  constructor
  ·intro a;omega
  ·intro a;subst a;exact absurd h Rat.lt_irrefl
 ·rename_i h
  split
  ·rename_i b
   constructor
   ·intro a;omega
   ·intro a;subst a;exact absurd b Rat.lt_irrefl
  ·rename_i b
   exact⟨fun _=>Rat.le_antisymm (Rat.not_lt.1 b) (Rat.not_lt.1 h),fun _=>rfl⟩
theorem b3U(X:Nat->Bool)(w:World)(u v:Value)(x y:Rat)(Q:HX X w)(i:QV (mk X w) u x)(j:QV (mk X w) v y):Calls Tryz.prog 225 #[u,v] w (b0B w (decide (x=y))):=by
 have T:=hid i.hq;have U:=hid j.hq;obtain⟨O,B,M,D,F,K,H,rfl⟩:=i.shape;obtain⟨P,C,N,E,G,L,I,rfl⟩:=j.shape;obtain⟨W,V,k,g,h,hz⟩:=a1w w #[.bool O,.slice B M D,.slice F K H] #[.bool P,.slice C N E,.slice G L I] 41 41;have a:HX (a0f X w.heap.size 2) W:=Q.boxes hz;have d:=QV.mono _ _ _ _ (a0j (nb:=2) k) i;have f:=QV.mono _ _ _ _ (a0j (nb:=2) k) j;obtain⟨b,R⟩:∃b,w.heap.size=b:=⟨_,rfl⟩;have S:w.heap.size<=b:=by omega
 rw[R]at g h hz a d f;have m:Ext W W.drew:=(ExtX.refl W).drew;have n:HX (a0f X b 2) W.drew:=a;have o:QV (mk (a0f X b 2) W.drew) (.agg #[.bool O,.slice B M D,.slice F K H]) x:=d;have p:QV (mk (a0f X b 2) W.drew) (.agg #[.bool P,.slice C N E,.slice G L I]) y:=f;have q:=g.cell 0 rfl;have r:=g.cell 1 rfl;have s:=g.cell 2 rfl;have t:=h.cell 0 rfl;have z:=h.cell 1 rfl;have A:=h.cell 2 rfl;clear i j;have hd:decide (x=y)=(b1s x y==0):=by rw[Bool.eq_iff_iff];simp[b3T]
 obtain⟨c,J⟩:∃c:Int,b1s x y=c:=⟨_,rfl⟩;have hq:=b0E (a0f X b 2) W _ _ x y a d f;rw[hd];rw[J]at hq |-;clear m n o p J hd;go_enter Tryz.func225,Tryz.ntmps225
 go_wp2_with fail
 refine hq.mono ?_;rintro e Y ⟨l,rfl⟩;clear q r s t z A hq;go_wp2_with fail
 go_ret
 exact⟨k.trans l,rfl⟩
theorem a6X:SliceT Tryz.prog 157 163 14 232 (.agg b8i):=⟨Tryz.underlying157,by kernel_rfl⟩
theorem b8m{lo i n:Bool}{a:Option Addr}{l c:Nat}{e:Option Addr}{j g:Nat}{o:Bool}{b:Option Addr}{m d:Nat}{f:Option Addr}{k h:Nat}:∀v∈(c0O lo i n a l c e j g o b m d f k h).toList,v.oneCell'=true:=by simp[c0O,Value.oneCell']
theorem a9f:TyI Tryz.prog 163 14:=let ⟨_,ti,_,a,b⟩:=a6d;⟨ti,a,b⟩
theorem b9O{lo q A B C D:Bool}{a i b j c k d l:Option Addr}{w e r m x f s n y g t o z h u p:Nat}:∀v∈(#[Value.bool A,.slice a w e,.slice i r m,.bool B,.slice b x f,.slice j s n,.bool lo,.bool q,.bool C,.slice c y g,.slice k t o,.bool D,.slice d z h,.slice l u p]:Array Value).toList,v.oneCell'=true:=by simp[Value.oneCell']
theorem a9Y:TyI Tryz.prog 4 1:=by
 have h:(Tryz.prog.info? 4).map (fun i=>(i.zero,i.size))=some (some (.bool false),1):=by kernel_rfl
 cases hi:Tryz.prog.info? 4 with
 |none=>rw[hi]at h;cases h
 |some ti=>rw[hi]at h;simp at h;exact⟨ti,hi,h.2⟩
end Go.Proofs.YtnnpfhoigmegcaaGreat
namespace Go.Lin
def okQ(e:Int)(q:Rat):Rat:=if e=0 then q else 0
end Go.Lin
namespace Go.Proofs.YtnnpfhoigmegcaaGreat
open Go.RowKit Go.Rep Go.Lim Go.Lin
def QEo(X:Nat->Bool)(w:World)(er:Int)(q:Rat)(e:Ending)(w':World):Prop:=Ext w w'/\∃u,e=.returned (.tuple #[u,.int .i64 er])/\QC (mk X w') u (okQ er q)
def b9P(k t:Int)(l:List Rat)(z:Rat):Rat:=((((l.length+1:Nat):Int)):Rat)*(a5k k t (l++[z]) - a5k k t l)
theorem c0P(X:Nat->Bool)(w:World)(u v:Value)(k t:Int)(l:List Rat)(z:Rat)(B:Nat)(hX:HX X w)(hu:RV (mk X w) u l)(hv:QV (mk X w) v z)(hk:a5j k t)(hf:a6B k t l.length)(hl:l.length<=19)(hB:BR B l)(hBz:hq z<=B)(hBB:B<=100000):Calls Tryz.prog 144 #[.agg #[.int .i64 k,.int .i64 t],u,v] w (QEo X w 0 (b9P k t l z)):=by
 obtain⟨s1,a1,n1,c1,d1,k1,e1,rfl⟩:=hv.shape;obtain⟨W,hW,hE,b0,b1,b2,hz⟩:=a2p w #[.int .i64 k,.int .i64 t] #[.bool s1,.slice a1 n1 c1,.slice d1 k1 e1] #[.bool false,.slice none 0 0,.slice none 0 0] 53 41 41;have hXW:HX (a0f X w.heap.size 3) W:=hX.boxes hz;have hu1:=RV.mono _ _ _ _ (a0j (nb:=3) hE) hu;have hv1:=QV.mono _ _ _ _ (a0j (nb:=3) hE) hv;obtain⟨b,hb⟩:∃b,w.heap.size=b:=⟨_,rfl⟩;have hbw:w.heap.size<=b:=by omega
 rw[hb]at b0 b1 b2 hz hXW hu1 hv1;obtain⟨Z,hZ⟩:∃Z,a0f X b 3=Z:=⟨_,rfl⟩;rw[hZ]at hXW hu1 hv1;obtain⟨ao,ca,rfl,hca,hsa⟩:=hu;have hck:=b6E W k t ao l.length ca (by omega);rw[a9b.2 ⟨hk,hf,by omega⟩]at hck;have hB1:BR (B+10) (l++[z]):=fun q hq=>by
  rw[List.mem_append,List.mem_singleton]at hq;rcases hq with h|rfl
  ·exact c1A (hB q h) (by omega)
  ·omega
 have hq1:=hid (a9a (k:=k) (t:=t) hB1 (by simp;omega) (by omega));have hq2:=hid (a9a (k:=k) (t:=t) hB (by omega) (by omega));have hwi:=hid fun M w' u' vz (hM:HX M w') (h1:RV (mk M w') u' l) (h2:QV (mk M w') vz z)=>b7W M w' u' vz l z hM h1 h2 (by omega);have hva:=hid fun M w' u' (hM:HX M w') (h1:RV (mk M w') u' (l++[z]))=>b0U M w' u' k t (l++[z]) (B+10) hM h1 hk (by simpa using a9e hf) (by simp;omega) hB1 (by omega);have hvb:=hid fun M w' u' (hM:HX M w') (h1:RV (mk M w') u' l)=>b0U M w' u' k t l B hM h1 hk hf (by omega) hB (by omega);have hse:Hid (((((l.length+1:Nat):Int)):Rat)*(a5k k t (l++[z]) - a5k k t l)=b9P k t l z):=hid rfl;obtain⟨E1,hE1⟩:∃q,a5k k t (l++[z])=q:=⟨_,rfl⟩;obtain⟨E2,hE2⟩:∃q,a5k k t l=q:=⟨_,rfl⟩;obtain⟨E3,hE3⟩:∃q,b9P k t l z=q:=⟨_,rfl⟩;rw[hE1,hE2,hE3]at hse;rw[hE3];rw[hE1]at hq1 hva;rw[hE2]at hq2 hvb;have hqd:Hid (hq (E1 - E2)<=68719476736):=hid (by have:=a2O E1 E2;have:=hq1.out;have:=hq2.out;omega);obtain⟨n,hn⟩:∃n,l.length=n:=⟨_,rfl⟩;rw[hn]at hck hca hl hu1 hse |-;have hqn:Hid (hq ((((n+1:Nat):Int)):Rat)<=68719476736):=hid (c1A (a4t _ 1 (by
  rw[Int.natAbs_natCast,a1Z (by omega) (by omega)];exact c1B _) (c1B _)) (by decide))
 have hn64:((n:Int)==64)=false:=a2J (by omega);have hu2:=hid hu1;have hv2:=hid hv1;have bb0:=hid b0;have k0:W.cell? ⟨b,0,none⟩=some (.int .i64 k):=b0.cell 0 rfl;have k1':W.cell? ⟨b,1,none⟩=some (.int .i64 t):=b0.cell 1 rfl;clear hE1 hE2 hE3 hB hB1 hBz hk hf hsa hn hv;go_enter Tryz.func144,Tryz.ntmps144
 go_upto_region 6 with(first
  |(go_at_call 223;refine hck.mono ?_;rintro ee wk ⟨hE1,rfl⟩))
 have hXk:=hXW.ext hE1;have hu3:=hid (mkx RV.mono hu2.out hE1);have hv3:=hid (mkx QV.mono hv2.out hE1);have hEd:Ext wk wk.drew:=(ExtX.refl wk).drew;have hXd:=hXk.ext hEd;have c0:=b0.ext0 (hE1.trans hEd);have c1':=b1.ext0 (hE1.trans hEd);have hud:=hid (mkx RV.mono hu3.out hEd);have hvd:=hid (mkx QV.mono hv3.out hEd);have hwS:wk.drew.cell? ⟨b,0,none⟩=some (.int .i64 k)/\wk.drew.cell? ⟨b,1,none⟩=some (.int .i64 t)/\wk.drew.cell? ⟨b+1,0,none⟩=some (.bool s1)/\wk.drew.cell? ⟨b+1,1,none⟩=some (.slice a1 n1 c1)/\wk.drew.cell? ⟨b+1,2,none⟩=some (.slice d1 k1 e1):=⟨c0.cell 0 rfl,c0.cell 1 rfl,c1'.cell 0 rfl,c1'.cell 1 rfl,c1'.cell 2 rfl⟩;clear k0 k1' hck
 (try simp only[Act.put])
 refine a0n 10 (fun w'=>w'.cell? ⟨b,0,none⟩=some (.int .i64 k)/\w'.cell? ⟨b,1,none⟩=some (.int .i64 t)/\w'.cell? ⟨b+1,0,none⟩=some (.bool s1)/\w'.cell? ⟨b+1,1,none⟩=some (.slice a1 n1 c1)/\w'.cell? ⟨b+1,2,none⟩=some (.slice d1 k1 e1)) (by kernel_rfl) (by kernel_rfl) hwS (fun hHeld hOnce=>?_);refine kt 0 hOnce ?_;refine kt 1 hOnce ?_;refine kt 2 hOnce ?_;refine kt 5 hOnce ?_;refine kt 6 hOnce ?_;refine a1F [3,4,7,8] [⟨9,9,41,#[.bool false,.slice none 0 0,.slice none 0 0]⟩] Z 1 hXd hHeld (fun _ _ h hE=>⟨hE.cell h.1,hE.cell h.2.1,hE.cell h.2.2.1,hE.cell h.2.2.2.1,hE.cell h.2.2.2.2⟩) ?_;refine a0K (fun M1 w1 ps1 hX1 hZ1 hE1 hF1 hS1 K hK=>?_);simp only[a1C,Act.put,List.setIfInBounds_toArray,List.set_cons_zero,List.set_cons_succ];go_simp
 (with_reducible refine(hwi.out M1 w1 _ _ hX1 (upx RV.mono hF1 hud.out) (upx QV.mono hF1 hvd.out)).mono ?_);rintro ee w' ⟨hE',u1,rfl,hv1⟩
 refine hK.out _ _ _ _ _ RV.mono hE' hv1 (by simp only[a1C,Act.put,List.setIfInBounds_toArray,List.set_cons_zero,List.set_cons_succ]) ?_;clear hK K hX1 hZ1 hE1 hF1 hS1;refine a0K (fun M2 w2 ps2 hX2 hZ2 hE2 hF2 hS2 K hK=>?_);simp only[a1C,Act.put,List.setIfInBounds_toArray,List.set_cons_zero,List.set_cons_succ];go_simp
 (with_reducible refine(hva.out M2 w2 _ hX2 hF2.2).mono ?_);rintro ee w' ⟨hE',u2,rfl,hv2⟩
 refine hK.out _ _ _ _ _ QC.mono hE' hv2 (by simp only[a1C,Act.put,List.setIfInBounds_toArray,List.set_cons_zero,List.set_cons_succ]) ?_;clear hK K hX2 hZ2 hE2 hF2 hS2;refine a0K (fun M3 w3 ps3 hX3 hZ3 hE3 hF3 hS3 K hK=>?_);simp only[a1C,Act.put,List.setIfInBounds_toArray,List.set_cons_zero,List.set_cons_succ];go_simp
 (with_reducible refine(hvb.out M3 w3 _ hX3 (upx RV.mono hF3.1.1 hud.out)).mono ?_);rintro ee w' ⟨hE',u3,rfl,hv3⟩
 refine hK.out _ _ _ _ _ QC.mono hE' hv3 (by simp only[a1C,Act.put,List.setIfInBounds_toArray,List.set_cons_zero,List.set_cons_succ]) ?_;clear hK K hX3 hZ3 hE3 hF3 hS3;refine a0K (fun M4 w4 ps4 hX4 hZ4 hE4 hF4 hS4 K hK=>?_);simp only[a1C,Act.put,List.setIfInBounds_toArray,List.set_cons_zero,List.set_cons_succ];go_simp
 (with_reducible refine(b4Q M4 w4 _ _ _ _ hX4 (hF4.1.2.qv (c1A hq1.out (by decide))) (hF4.2.qv (c1A hq2.out (by decide)))).mono ?_);rintro ee w' ⟨hE',u4,rfl,hv4⟩;obtain⟨s4,a4,n4,c4,d4,k4,e4,rfl⟩:=hv4.shape
 refine hK.out _ _ _ _ _ QC.mono hE' hv4 (by simp only[a1C,Act.put,List.setIfInBounds_toArray,List.set_cons_zero,List.set_cons_succ]) ?_;clear hK K hX4 hZ4 hE4 hF4 hS4;refine a3h (fun M w5 gs hX5 hZ5 hE5 hF5 hS5 hb5 hn5=>?_);simp only[a1C,ptr,Act.put,List.setIfInBounds_toArray,List.set_cons_zero,List.set_cons_succ];obtain⟨ga,hga⟩:∃g,gs 0=g:=⟨_,rfl⟩;obtain⟨x5,m5,l5⟩:=hb5 0 _ rfl;rw[hga]at x5 m5 l5;simp only[hga];refine kl 10 (fun K hK=>?_)
 (refine a0q rfl rfl a0p rfl rfl x5 rfl rfl (a1z _ _ _ _ _ _ _) ?_;intro w6 z6 y6)
 refine hK.out _ _ ?_;clear hK K
 (try simp only[Act.put])
 have hl6:=a0t (X:=M) y6 (fun k hk=>by
  have:ga=k:=by simpa[ob]using hk
  rw[<-this];exact m5)
 have q6:=(QC.mono _ _ _ _ hl6 hF5.2).qv hqd.out;have hX6:HX M w6:=hX5.ext y6;have hE16:Ext wk w6:=ExtX.box (hEd.trans hE5) y6 l5;have b26:=b2.ext0 (hE1.trans hE16);have hMM:=hid hZ5;have hgb:b+1+1<ga:=by
  have h1:=(b2.ext0 (hE1.trans hEd)).lt;omega
 have e1w:IntKind.i64.wrap ((n:Int)+1)=(n:Int)+1:=IntWalk.i64_in _ (by omega);have hse2:Hid (((((n:Int)+1:Int)):Rat)*(E1 - E2)=E3):=hid (by rw[<-hse.out,show((n+1:Nat):Int)=(n:Int)+1 by omega]);have hqn2:Hid (hq ((((n:Int)+1:Int)):Rat)<=68719476736):=hid (by have:=hqn.out;rwa[show((n+1:Nat):Int)=(n:Int)+1 by omega]at this);clear hF5 hS5 hb5 hn5 hX5 hZ5 hE5 l5 m5 x5 y6 hl6 hga hHeld hOnce hwS c0 c1' hud hvd hwi hva hvb hq1 hq2 bb0 hXk hXd hXW;have hEd6:Ext w6 w6.drew:=(ExtX.refl w6).drew;have hXd6:=hX6.ext hEd6;have hq6d:=mkx QV.mono q6 hEd6;have hwS:w6.drew.cell? ⟨ga,0,none⟩=some (.bool s4)/\w6.drew.cell? ⟨ga,1,none⟩=some (.slice a4 n4 c4)/\w6.drew.cell? ⟨ga,2,none⟩=some (.slice d4 k4 e4):=⟨hEd6.cell (z6.cell 0 rfl),hEd6.cell (z6.cell 1 rfl),hEd6.cell (z6.cell 2 rfl)⟩;go_upto_region 7 with fail
 (try simp only[Act.put])
 refine a0n 7 (fun w'=>w'.cell? ⟨ga,0,none⟩=some (.bool s4)/\w'.cell? ⟨ga,1,none⟩=some (.slice a4 n4 c4)/\w'.cell? ⟨ga,2,none⟩=some (.slice d4 k4 e4)) (by kernel_rfl) (by kernel_rfl) hwS (fun hHeld hOnce=>?_);refine kt 0 hOnce ?_;refine kt 1 hOnce ?_;refine kt 2 hOnce ?_;refine kt 4 hOnce ?_;refine ks 3 (fun K hK=>?_);go_simp
 ((with_reducible refine(a8y M w6.drew ((n:Int)+1) hXd6 (by omega) (by omega)).mono ?_);rintro ee wa ⟨ga1,ua,rfl,hua⟩;obtain⟨s5,a5,n5,c5,d5,k5,e5,rfl⟩:=hua.shape)
 refine kcn hK ⟨ga1.cell hHeld.1,ga1.cell hHeld.2.1,ga1.cell hHeld.2.2⟩ (fun hHeld=>?_);clear hK K;refine ks 5 (fun K hK=>?_);go_simp
 ((with_reducible refine(a9w M wa _ _ _ _ (hXd6.ext ga1) (hua.qv hqn2.out) (mkx QV.mono hq6d ga1)).mono ?_);rintro ee wb ⟨gb1,ub,rfl,hub⟩;obtain⟨s7,a7,n7,c7,d7,k7,e7,rfl⟩:=hub.shape)
 refine kcn hK ⟨gb1.cell hHeld.1,gb1.cell hHeld.2.1,gb1.cell hHeld.2.2⟩ (fun hHeld=>?_);clear hK K;have gab:=hEd6.trans (ga1.trans gb1);have b2b:=b26.ext0 gab;have hobg:ob (some ⟨b+1+1,0,none⟩) ga=false:=a0b (by omega);refine ks 6 (fun K hK=>?_)
 (refine a0q rfl rfl a0p rfl rfl b2b rfl rfl (a1z _ _ _ _ _ _ _) ?_;intro wf xf yf)
 refine kcn hK ⟨yf.cellY hHeld.1 hobg,yf.cellY hHeld.2.1 hobg,yf.cellY hHeld.2.2 hobg⟩ (fun hHeld=>?_);clear hK K;refine kl 7 (fun K hK=>?_);go_simp
 refine hK.out _ _ ?_;clear hK K;have hl3:Le (mk M wb) (mk X wf):=(a0t yf (fun k hk=>hMM.out k (by
  have h1:b+1+1=k:=by simpa[ob]using hk
  rw[<-hZ,<-h1];exact a3z (by omega) (by omega)))).trans (a1h fun k _ hk=>hMM.out k (by rw[<-hZ];exact a8u hk))
 have hq3:=QC.mono _ _ _ _ hl3 hub;rw[hse2.out]at hq3;go_wp2_with fail
 exact bodyPost_ret (a0J rfl rfl a0p xf rfl) rfl ⟨ExtX.box (hE.trans (hE1.trans (hE16.trans gab))) yf (by omega),_,rfl,hq3⟩
end Go.Proofs.YtnnpfhoigmegcaaGreat
