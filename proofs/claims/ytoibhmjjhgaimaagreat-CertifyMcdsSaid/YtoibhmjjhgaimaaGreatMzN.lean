/- The tape of choices: points. What is drawn is some list of rows of few digits. Conditions: none beyond small ranges. The tape of choices: lists of rows that may be no points. What is drawn is some list of rows of few digits. Conditions: none beyond small ranges. law 42: CertifyMcds. Conditions: none. Arguments, opened to lists: []int. Conditions: none. Arguments, opened: six of them; bounds of integers; []int with its numbers' bounds. Conditions: none. Facts of the whole program that each row asks for. Conditions: none. -/
import Derived.Test.YtoibhmjjhgaimaaGreatMzM
import Derived.Deep.RegionHeld3
import Derived.WalkKit
import Derived.ProofKit
import Derived.OpenShut
import Derived.ShutString
import Derived.ChangeOld
import Derived.Below
import Derived.Deep.Slices
import Derived.Deep.Fields
import Derived.ChangeSame
import Derived.Test.YtoibhmjjhgaimaaGreatRows
import Derived.JoinedOf
namespace Go.Rep
open Go.RowKit Go.Lim
theorem a9I (X:Nat->Bool) (w:World) (ao:Option Addr) (n cap:Nat) (l:List Rat) (e:TypeId) (hX:∀k,X k=true->k<w.heap.size) (h:RC (mk X w) (.slice ao n cap) l):
  OL RC 1 X w.heap.size e (w.alloc (.cells #[.slice ao n cap] e)) (some ⟨w.heap.size,0,none⟩) 1 [l]:=
 OL.lit RC.elem hX (Nat.le_refl _) [.slice ao n cap] [l] _ (by simp[a0n,Value.cells]) rfl (fun i hi _=>by
  have:i=0:=by simpa using hi
  subst this;exact h) (by simp)
theorem b0k {P:Program} {ops:Array Oper} {Q:Exit->Act->World->Prop} {rest:List Oper} {a:Act} {w:World} {α:Type} {R:Mem->Value->α->Prop} {sz:Nat} {X:Nat->Bool} {e:TypeId} {d:Option Tmp} {ty:TypeId} {ps:String} {af:Array Edge}
  {t by_:Nat} {z:Value} {s x:Operand} {ax:Option Addr} {cs:Nat} (T:SliceT P t e sz by_ z) (hzs:z.cells.size=sz) (hR:Elem R sz) (base:Nat) (hbase:base<=w.heap.size) (hX:∀k,X k=true->k<w.heap.size)
  (xs:List α) (n:Nat) (hn:xs.length=n) (hs:a.eval s= .slice none 0 0) (hx:a.eval x= .slice ax n cs) (hxs:Sl R sz (mk X w) ax xs) (hroom:n*by_<=140737488355328) (hmax:n<=9223372036854775807)
  (K:∀ao' cap' w',OL R sz X base e w' ao' cap' xs->n<=cap'->Ext w w'->wpList P ops Q rest (a.put d (.slice ao' n cap')) w'):
  wpList P ops Q (⟨d, .call {callee:= .builtin .append,args:=#[s,x],argTypes:=#[t,t]},ty,ps,af,none⟩::rest) a w:=by
 subst hn;have h0:Sl R sz (mk (un X none) w) ax xs:=by
  have:un X none=X:=by funext k;simp[un,ob]
  rw[this];exact hxs
 refine a1P (l:=[]) T hzs hR hbase hX xs hs hx (OL.nil _ _ _ _ _ _) h0 (by simpa using hroom) (by simpa using hmax) fun ao' cap' w' hO hE _=>?_;rw[List.nil_append]at hO |-;exact K ao' cap' w' hO hO.lenCap (hE.weaken fun _ _ _=>rfl)
theorem Sl.rowsF {R:Mem->Value->Rat->Prop} {h:Mem} {ao:Option Addr} {m:List (List Rat)} (s:Sl (SlV R 3) 1 h ao m):∃f:Nat->Option Addr×Nat,∀i (hi:i<m.length),h (adr ao i)=some (.slice (f i).1 m[i].length (f i).2)/\m[i].length<=(f i).2/\Sl R 3 h (f i).1 m[i]:=by
 have key:∀i,∃p:Option Addr×Nat,∀(hi:i<m.length),h (adr ao i)=some (.slice p.1 m[i].length p.2)/\m[i].length<=p.2/\Sl R 3 h p.1 m[i]:=fun i=>by
  by_cases hi:i<m.length
  ·obtain⟨u,h1,a,c,rfl,h2,h3⟩:=s.cell SlV.one i hi
   exact⟨(a,c),fun _=>⟨h1,h2,h3⟩⟩
  ·exact⟨(none,0),fun h=>absurd h hi⟩
 exact⟨fun i=>(key i).choose,fun i hi=>(key i).choose_spec hi⟩
theorem OL.rowsF {X:Nat->Bool} {base:Nat} {e:TypeId} {w:World} {ao:Option Addr} {cap:Nat} {m:List (List Rat)} (s:OL RC 1 X base e w ao cap m):∃f:Nat->Option Addr×Nat,∀i (hi:i<m.length),w.cell? (adr ao i)=some (.slice (f i).1 m[i].length (f i).2)/\m[i].length<=(f i).2/\Sl QC 3 (mk (un X ao) w) (f i).1 m[i]:=by
 have key:∀i,∃p:Option Addr×Nat,∀(hi:i<m.length),w.cell? (adr ao i)=some (.slice p.1 m[i].length p.2)/\m[i].length<=p.2/\Sl QC 3 (mk (un X ao) w) p.1 m[i]:=fun i=>by
  by_cases hi:i<m.length
  ·obtain⟨u,h1,_,h2⟩:=s.cell SlV.one i hi
   obtain⟨a,c,rfl,h3,h4⟩:=h2;exact⟨(a,c),fun _=>⟨h1,h3,h4⟩⟩
  ·exact⟨(none,0),fun h=>absurd h hi⟩
 exact⟨fun i=>(key i).choose,fun i hi=>(key i).choose_spec hi⟩
theorem b4i {ao:Option Addr} {n k:Nat} (hd:Hd ao n) (hn:0<n) {b:Nat} (hb:ob ao b=false):(adr ao k).block≠b:=by
 obtain⟨g,o,rfl⟩:=hd hn;intro h;have:g=b:=h;subst this;simp[ob]at hb
end Go.Rep
namespace Go.Proofs.YtoibhmjjhgaimaaGreat
open Go.RowKit Go.Rep Go.Lim
def pB (k:Nat):Nat:=2^(k+1) - 2
theorem b5E (k:Nat):2*pB k+2=pB (k+1):=by
 unfold pB;have:4<=2^(k+1)\/k=0:=by
  rcases Nat.eq_zero_or_pos k with h|h
  ·exact .inr h
  ·exact .inl (by have:=Nat.pow_le_pow_right (n:=2) (by decide) (show 2<=k+1 by omega);simpa using this)
 have h2:2<=2^(k+1):=by have:=Nat.pow_le_pow_right (n:=2) (by decide) (show 1<=k+1 by omega);simpa using this
 rw[Nat.pow_succ 2 (k+1)];omega
theorem a3d {j k:Nat} (h:j<=k):pB j<=pB k:=by
 unfold pB;have:=Nat.pow_le_pow_right (n:=2) (by decide) (show j+1<=k+1 by omega);omega
theorem b7D:pB 8=510:=by decide
def b5F (X:Nat->Bool) (tb:Nat) (n d:Nat) (w:World) (e:Ending) (w':World):Prop:=ExtX (tbm tb) w w'/\∃(ao:Option Addr) (l:List (List Rat)) (cap:Nat),e= .returned (.slice ao l.length cap)/\l.length<=cap/\1<=l.length/\l.length<=n/\(∀r∈l,r.length=d)/\BM 510 l/\a0z (un X ao) tb w'/\OL RC 1 X w.heap.size 45 w' ao cap l
theorem b5G {x y:Rat} {B:Nat} (hx:hq x<=B) (hy:hq y<=B):hq (2*x - y)<=2*B+2:=by
 have h1:=a6i (2*x) y;have h2:=hq_mul 2 x;have h3:hq (2:Rat)<=1:=by
  have:=a5z 2 1 (lgI (by omega) (by omega)) (by omega);exact this
 omega
def a3L (p a b:List Rat) (j:Nat):List Rat:=(List.range p.length).map fun i=>if i<j then 2*a.getD i 0 - b.getD i 0 else p.getD i 0
theorem a7V (p a b:List Rat) (j:Nat):(a3L p a b j).length=p.length:=by simp[a3L]
theorem b0l (p a b:List Rat):a3L p a b 0=p:=by
 refine List.ext_getElem (by simp[a3L]) fun i h1 h2=>?_;simp[a3L,List.getD_eq_getElem?_getD,h2]
theorem b1X (p a b:List Rat) (j:Nat) (hj:j<p.length):(a3L p a b j).set j (2*a.getD j 0 - b.getD j 0)=a3L p a b (j+1):=by
 refine List.ext_getElem (by simp[a3L]) fun i h1 h2=>?_;rw[List.getElem_set];simp only[a3L,List.getElem_map,List.getElem_range];split
 ·subst_vars;simp
 ·by_cases h:i<j
  ·simp[h,show i<j+1 by omega]
  ·simp[h,show¬i<j+1 by omega]
theorem b3I {p a b:List Rat} {B:Nat} (hp:BR B p) (ha:BR B a) (hb:BR B b) (hB:1<=B) (j:Nat):BR (2*B+2) (a3L p a b j):=by
 have g:∀{x:List Rat},BR B x->∀q,hq (x.getD q 0)<=B:=fun{x} hx q=>by
  rw[List.getD_eq_getElem?_getD];by_cases h:q<x.length
  ·rw[List.getElem?_eq_getElem h];exact hx _ (List.getElem_mem _)
  ·rw[List.getElem?_eq_none (by omega)];simp[a2k,hB]
 intro q hq';unfold a3L at hq';obtain⟨i,_,rfl⟩:=List.mem_map.1 hq';split
 ·exact b5G (g ha i) (g hb i)
 ·have:=g hp i;omega
set_option maxRecDepth 100000 in
set_option maxHeartbeats 3200000 in
theorem a8P (X:Nat->Bool) (tb n d:Nat) (w:World) (ht:a0z X tb w) (hX:HX X w) (hn1:1<=n) (hn:n<=8) (hd:d<=1000):
  Calls Tryz.prog 41 #[.pointer (some ⟨tb,0,none⟩), .int .i64 (n:Int), .int .i64 (d:Int)] w (b5F X tb n d w):=by
 have hsub:=a1n ht.1;have htX:=ht.1;go_enter Tryz.func41,Tryz.ntmps41
 go_wp2_with fail
 refine(a5s X tb d w ht hX hd).mono ?_;rintro e w1 ⟨hE1,ao1,l1,cap1,rfl,hl1,hc1,hB1,ht1,hO1⟩;have hX1:=hX.ext hE1;have hRC1:RC (mk X w1) (.slice ao1 d cap1) l1:=⟨ao1,cap1,by rw[hl1],by omega,hO1.sl QC.elem⟩;have hL:=(a9I X w1 ao1 d cap1 l1 45 hX1 hRC1).base_le (b':=w.heap.size) hE1.size;have ht1X:=(ht1.unX htX).old (oo:=some ⟨w1.heap.size,0,none⟩) ((ExtX.refl (Y:=noY) w1).alloc (.cells #[.slice ao1 d cap1] 45)) (a3U w1);have hF1:ExtX (tbm tb) w (w1.alloc (.cells #[.slice ao1 d cap1] 45)):=hE1.alloc _;obtain⟨w2,hw2⟩:∃w2,w1.alloc (.cells #[.slice ao1 d cap1] 45)=w2:=⟨_,rfl⟩;obtain⟨g1,hg1⟩:∃g1:Option Addr,some ⟨w1.heap.size,0,none⟩=g1:=⟨_,rfl⟩;rw[hg1]at hL ht1X;rw[hw2]at hL ht1X hF1;go_wp2_with fail
 have hX2:HX X w2:=hX.ext hF1;refine(a0R (un X g1) tb n _ ht1X (by omega)).mono ?_;rintro e w3 ⟨hE3,ht3,m3,rfl,hm3⟩;have hO3:=hL.ext RC.elem hE3 (fun k _ hk=>hsub k hk) (fun _ _ h=>h);have hF3:=hF1.trans hE3;clear hL ht1X hF1 hE3 hX2 hX1 hRC1 hO1 ht1 hE1 hw2 hg1;go_wp2_with fail
 go_loopw [7,8] (fun s c wr=>∃(i k:Nat) (oo:Option Addr) (co:Nat) (l:List (List Rat)),c= .int .i64 i/\s= .slice oo k co/\l.length=k/\1<=k/\i+k<=n/\(∀r∈l,r.length=d)/\BM (pB k) l/\OL RC 1 X w.heap.size 45 wr oo co l/\a0z (un X oo) tb wr/\ExtX (tbm tb) w wr) (fun _ c _=>(intOf c).toNat)
 case atStart=>exact⟨m3,1,_,_,[l1],rfl,rfl,rfl,Nat.le_refl _,by omega,fun r hr=>by rw[List.mem_singleton.1 hr];exact hl1,fun r hr=>by rw[List.mem_singleton.1 hr];exact hB1,hO3,ht3,hF3⟩
 case round=>
  clear hO3 ht3 hF3;obtain⟨i,k,oo,co,l,rfl,rfl,hlk,hk1,hik,hrl,hBM,hO,htr,hE⟩:=hrel;have hXr:HX X wr:=hX.ext hE;by_cases hlt:0<i
  ·have hXu:HX (un X oo) wr:=hO.unX hXr
   have hlk':=hid hlk;have hrl':=hid hrl;have hO0:=hid hO;have hE0:=hid hE;have hXu0:=hXu;go_wp2_with fail
   refine(a5s (un X oo) tb d wr htr hXu hd).mono ?_;rintro e w2 ⟨hE2,po,p,pc,rfl,hpl,hpc,hpB,ht2,hP⟩;go_wp2_with fail
   refine(a0R (un (un X oo) po) tb 6 _ ht2 (by omega)).mono ?_;rintro e w3 ⟨hE3,ht3,m3,rfl,hm3⟩;have hP3:=hP.ext QC.elem hE3 (fun k _ hk=>a0p (hsub k hk)) (fun _ _ h=>h);have hO3:=(hO.ext RC.elem hE2 (fun k _ hk=>hsub k hk) (fun _ _ h=>h)).ext RC.elem hE3 (fun k _ hk=>hsub k hk) (fun _ _ h=>h);have hF3:=(hE.trans hE2).trans hE3;have hE23:=hE2.trans hE3;have hXu3:=(hXu.ext hE2).ext hE3;have htu3:a0z (un X oo) tb w3:=ht3.unX (a0p htX);have hpB2:2<=pB (k+1):=by have:=a3d (show 1<=k+1 by omega);have:pB 1=2:=rfl;omega
   have hBM':=hid hBM;obtain⟨i,rfl⟩:∃j,i=j+1:=⟨i - 1,by omega⟩;clear hP hO ht2 htr hE2 hE hXu hlk hrl hBM;have hcase:m3<4\/m3=4\/m3=5:=by omega
   rcases hcase with h|rfl|rfl
   ·obtain⟨p2,hp2⟩:∃p2,p=p2:=⟨_,rfl⟩
    subst hp2;have hp2l:=hid hpl;have hp2B:Hid (BR (pB (k+1)) p):=hid fun q hq=>Nat.le_trans (hpB q hq) hpB2;have hRC:RC (mk (un X oo) w3) (.slice po d pc) p:=⟨po,pc,by rw[hpl],by omega,hP3.sl QC.elem⟩;have hOK:=hO3;have htK:=htu3;have hFK:=hF3;have hXK:=hX.ext hF3;have t4:((m3:Int)==4)=false:=a2f (by omega);have t5:((m3:Int)==5)=false:=a2f (by omega);clear hpl hP3;have hb7:=hFK.size;go_wp2_with (at_builtin;refine a0H (l:=l) a0A rfl RC.elem hb7 hXK k hlk'.out rfl rfl hOK (.slice po d pc) p rfl hRC (by omega) (by omega) ?_;intro oo2 co2 w7 hO7 hE7 hor)
    have hE8:=hFK.own hOK (Nat.le_refl _) hE7;have ht8:=htK.unstep (hOK.not_ob htX) hE7 hor;have hl8:(l++[p]).length=k+1:=by rw[List.length_append,hlk'.out];rfl
    have hr8:∀r∈l++[p],r.length=d:=fun r hr=>by
     rcases List.mem_append.1 hr with h|h
     ·exact hrl'.out r h
     ·rw[List.mem_singleton.1 h];exact hp2l.out
    have hB8:BM (pB (k+1)) (l++[p]):=fun r hr=>by
     rcases List.mem_append.1 hr with h|h
     ·exact fun q hq=>Nat.le_trans (hBM'.out r h q hq) (a3d (by omega))
     ·rw[List.mem_singleton.1 h];exact hp2B.out
    go_roundw
    case rel=>exact⟨i,k+1,oo2,co2,_,by go_num,by go_num,hl8,by omega,by omega,hr8,hB8,hO7,ht8,hE8⟩
    case measure=>simp[intOf]
   ·go_wp2_with fail
    refine(a0R (un X oo) tb k _ htu3 (by omega)).mono ?_;rintro e w4 ⟨hE4,ht4,m4,rfl,hm4⟩;have hm4':m4<l.length:=by rw[hlk'.out];omega
    have hO4:=hO3.ext RC.elem hE4 (fun k _ hk=>hsub k hk) (fun _ _ h=>h);have hF4:=hF3.trans hE4;have hXu4:=hXu3.ext hE4;obtain⟨u4,hc4,_,hr4⟩:=hO4.cell SlV.one m4 hm4';obtain⟨a4,c4,rfl,hcl4,hs4⟩:=hr4;have hhd:=hO4.hd;rw[hlk'.out]at hhd;have hrd:=hrl'.out l[m4] (List.getElem_mem _);have hrB:=hBM'.out l[m4] (List.getElem_mem _);obtain⟨r,hr⟩:∃r,l[m4]=r:=⟨_,rfl⟩;rw[hr]at hc4 hcl4 hs4 hrd hrB;have hrd':=hid hrd;rw[hrd]at hc4 hcl4;have hm4k:m4<k:=by omega
    have hrd':=hid hrd;clear hr hrd hm4' hO3 htu3 hF3 ht3 hE4 hP3 hXu3;have hp2l:=hrd';have hp2B:Hid (BR (pB (k+1)) r):=hid fun q hq=>Nat.le_trans (hrB q hq) (a3d (by omega));go_wp2_with (first
     |(with_reducible refine a0o a0A (by omega) (by assumption) ?_)
     |(at_builtin;refine b0k a1c rfl QC.elem w4.heap.size (Nat.le_refl _) hXu4 r d hrd'.out rfl rfl hs4 (by omega) (by omega) ?_;intro po5 pc5 w5 hO5 hc5 hE5;have hOK:=hO4.ext0 RC.elem hE5;have htK:a0z (un X oo) tb w5:=ht4.ext hE5;have hFK:=hF4.trans (ExtX.of hE5);have hXK:=hX.ext hFK;have hRC:RC (mk (un X oo) w5) (.slice po5 d pc5) r:=⟨po5,pc5,by rw[hrd'.out],by rw[hrd'.out];exact hc5,hO5.sl QC.elem⟩;have hb7:=hFK.size)
     |(at_builtin;refine a0H (l:=l) a0A rfl RC.elem hb7 hXK k hlk'.out rfl rfl hOK (.slice po5 d pc5) r rfl hRC (by omega) (by omega) ?_;intro oo2 co2 w7 hO7 hE7 hor))
    have hE8:=hFK.own hOK (Nat.le_refl _) hE7;have ht8:=htK.unstep (hOK.not_ob htX) hE7 hor;have hl8:(l++[r]).length=k+1:=by rw[List.length_append,hlk'.out];rfl
    have hr8:∀x∈l++[r],x.length=d:=fun x hr=>by
     rcases List.mem_append.1 hr with h|h
     ·exact hrl'.out x h
     ·rw[List.mem_singleton.1 h];exact hp2l.out
    have hB8:BM (pB (k+1)) (l++[r]):=fun x hr=>by
     rcases List.mem_append.1 hr with h|h
     ·exact fun q hq=>Nat.le_trans (hBM'.out x h q hq) (a3d (by omega))
     ·rw[List.mem_singleton.1 h];exact hp2B.out
    go_roundw
    case rel=>exact⟨i,k+1,oo2,co2,_,by go_num,by go_num,hl8,by omega,by omega,hr8,hB8,hO7,ht8,hE8⟩
    case measure=>simp[intOf]
   ·obtain⟨f,hf⟩:=hO0.out.rowsF
    have hhd:=hO3.hd;rw[hlk'.out]at hhd;have hobt:ob oo tb=false:=hO3.not_ob htX;have hpt:ob po tb=false:=hP3.not_ob (a0p htX);have hS:Hid (∀w',ExtX (tbm tb) w3.drew w'->∀m,m<k->w'.cell? (adr oo m)=some (.slice (f m).1 d (f m).2)):=hid fun w' h m hm=>by
     have hml:m<l.length:=by rw[hlk'.out];exact hm
     have h1:=(hf m hml).1;rw[hrl'.out _ (List.getElem_mem hml)]at h1;exact(hE23.drew.trans h).cellY h1 (a2T (b4i hhd (by omega) hobt))
    have hf':=hid hf;have hZ3:HX (un (un X oo) po) w3:=hP3.unX hXu3;have htd:a0z (un (un X oo) po) tb w3.drew:=ht3.ext (ExtX.refl _).drew;have i1:∀m,m<k->∀W,(Instr.indexAt 25 (.slice oo k co) (.int .i64 (m:Int))).run Tryz.prog W= .ok (.pointer (some (adr oo m))) W:=fun m hm=>a0I a0A oo k co .i64 m hhd hm rfl;have i1':=hid i1;have hkb:(k:Int)<=1099511627776:=by omega
    clear hf i1;go_wp2_with fail
    go_region_held3 (fun w'=>∀m,m<k->w'.cell? (adr oo m)=some (.slice (f m).1 d (f m).2))
     (first|exact hS.out _ (ExtX.refl _)|exact hS.out _ t1|exact hS.out _ (t1.trans t2)|go_keep)
     (first|(go_at_call 40;(with_reducible refine(a0R (un (un X oo) po) tb k w3.drew htd hkb).mono ?_);rintro ee w4 ⟨t1,ht4,m4,rfl,hm4⟩;have hm4k:m4<k:=(by omega);have i4:=i1'.out m4 hm4k)|(go_at_call 40;(with_reducible refine(a0R (un (un X oo) po) tb k w4 ht4 hkb).mono ?_);rintro ee w5 ⟨t2,ht5,m5,rfl,hm5⟩;have hm5k:m5<k:=(by omega);have i5:=i1'.out m5 hm5k)|fail)
    have hE35:ExtX (tbm tb) w3 w5:=((ExtX.refl _).drew).trans (t1.trans t2);have hP5:=hP3.ext QC.elem hE35 (fun k _ hk=>a0p (hsub k hk)) (fun _ _ h=>h);have hE5:ExtX (un (tbm tb) po) wr w5:=(hE23.trans hE35).weaken fun _ _ h=>(a1p h).1;have hla:m4<l.length:=by rw[hlk'.out];exact hm4k
    have hlb:m5<l.length:=by rw[hlk'.out];exact hm5k
    obtain⟨_,hca,hsa⟩:=hf'.out m4 hla;obtain⟨_,hcb,hsb⟩:=hf'.out m5 hlb;have hda:=hid (hrl'.out _ (List.getElem_mem hla));have hdb:=hid (hrl'.out _ (List.getElem_mem hlb));have hBa:=hid (hBM'.out _ (List.getElem_mem hla));have hBb:=hid (hBM'.out _ (List.getElem_mem hlb));rw[hda.out]at hca;rw[hdb.out]at hcb;obtain⟨ra,hra⟩:∃ra,l[m4]=ra:=⟨_,rfl⟩;obtain⟨rb,hrb⟩:∃rb,l[m5]=rb:=⟨_,rfl⟩;rw[hra]at hsa hda hBa;rw[hrb]at hsb hdb hBb;obtain⟨⟨aa,ac⟩,hfa⟩:∃q,f m4=q:=⟨_,rfl⟩;obtain⟨⟨ba,bc⟩,hfb⟩:∃q,f m5=q:=⟨_,rfl⟩;rw[hfa]at hca hsa;rw[hfb]at hcb hsb
    dsimp only at hca hcb hsa hsb
    have hfa':=hid hfa;have hfb':=hid hfb;have hoo:=hid (fun j (hj:j<wr.heap.size)=>show ob po j=false from hP5.ob_lt hj);have hleZ:Hid (∀wx,ExtX (un (tbm tb) po) wr wx->Le (mk (un X oo) wr) (mk (un (un X oo) po) wx)):=hid fun wx h=>a0N h (fun j hj hk=>by
      by_cases hx:tbm tb j=true
      ·exact a0p (hsub j hx)
      ·simp[un,hx,hoo.out j hj]at hk) (fun j hj hk=>by
      by_cases hx:un X oo j=true
      ·exact hx
      ·simp[un,hoo.out j hj]at hk hx;rcases hk with hk|hk<;>simp[hk]at hx)
    have hlp:Hid (p.length=d):=hid hpl;have hha:Hd aa d:=by have:=hsa.hd;rw[hda.out]at this;exact this
    have hhb:Hd ba d:=by have:=hsb.hd;rw[hdb.out]at this;exact this
    have hhp:Hd po d:=by have:=hP5.hd;rw[hpl]at this;exact this
    have hkB:pB k<=510:=by have:=a3d (show k<=8 by omega);rw[b7D]at this;exact this
    rw[<-b0l p ra rb]at hP5;clear hra hrb hfa hfb hS hf' htd ht3 ht4 i4 i5 hm4 hm5 t1 t2 hE35 hP3 hO3 htu3 hF3 hE23 hE3 hhd;go_wp2_with fail
    rw[hfa'.out,hfb'.out];go_wp2_with fail
    obtain⟨wo,hwo⟩:∃wo,wo=wr:=⟨_,rfl⟩;subst hwo;go_loopw [57] (fun cc wx=>∃j:Nat,cc= .int .i64 j/\j<=d/\OL QC 3 (un X oo) wo.heap.size 32 wx po pc (a3L p ra rb j)/\a0z (un (un X oo) po) tb wx/\ExtX (un (tbm tb) po) wo wx) (fun cc _=>d - (intOf cc).toNat)
    case atStart=>exact⟨0,rfl,Nat.zero_le _,hP5,ht5,hE5⟩
    case round=>
     clear hP5 ht5 hE5;obtain⟨j,rfl,hj,hPx,htx,hEx⟩:=hrel;have hXx:HX (un X oo) wr:=hXu0.ext hEx;have hZx:HX (un (un X oo) po) wr:=hPx.unX hXx;by_cases hjd:j<d
     ·have hja:j<ra.length:=by rw[hda.out];exact hjd
      have hjb:j<rb.length:=by rw[hdb.out];exact hjd
      have hjp:j<(a3L p ra rb j).length:=by rw[a7V,hlp.out];exact hjd
      have hle:=hleZ.out _ hEx;obtain⟨g1,o1,s1,a1,n1,c1,d1,k1,e1,hg1,hX1,hc1,hq1⟩:=(hsa.mono QC.mono hle).rat QC.shaped j hja;obtain⟨g2,o2,s2,a2,n2,c2,d2,k2,e2,hg2,hX2,hc2,hq2⟩:=(hsb.mono QC.mono hle).rat QC.shaped j hjb;have hob1:=(a1p hX1).2;have hob2:=(a1p hX2).2;have gl:Hid (ra.getD j 0=ra[j]):=hid (by simp[List.getD_eq_getElem?_getD,hja]);have gm:Hid (rb.getD j 0=rb[j]):=hid (by simp[List.getD_eq_getElem?_getD,hjb]);have hst:Hid ((a3L p ra rb j).set j (2*ra[j] - rb[j])=a3L p ra rb (j+1)):=hid (by rw[<-gl.out,<-gm.out];exact b1X p ra rb j (by rw[hlp.out];exact hjd));have hBx:=hid (hBa.out _ (List.getElem_mem hja));have hBy:=hid (hBb.out _ (List.getElem_mem hjb));obtain⟨x,hx⟩:∃x,ra[j]=x:=⟨_,rfl⟩;obtain⟨y,hy⟩:∃y,rb[j]=y:=⟨_,rfl⟩;rw[hx]at hst hq1 hBx;rw[hy]at hst hq2 hBy;have hv2:Hid (((2:Int):Rat)=2):=hid rfl;have h2q:Hid (hq (2:Rat)<=68719476736):=hid (by have:=a5z 2 1 (lgI (by omega) (by omega)) (by omega);rw[hv2.out]at this;omega);have hmq:Hid (hq (2*x)<=68719476736):=hid (by
       have h1:=hq_mul 2 x;have h3:=a5z 2 1 (lgI (by omega) (by omega)) (by omega);rw[hv2.out]at h3;have:=hBx.out;omega)
      have i1:∀W,(Instr.indexAt 45 (.slice aa d ac) (.int .i64 (j:Int))).run Tryz.prog W= .ok (.pointer (some ⟨g1,o1,none⟩)) W:=by rw[<-hg1];exact a0k a1c aa d ac .i64 j hha (by omega)
      have i2:∀W,(Instr.indexAt 45 (.slice ba d bc) (.int .i64 (j:Int))).run Tryz.prog W= .ok (.pointer (some ⟨g2,o2,none⟩)) W:=by rw[<-hg2];exact a0k a1c ba d bc .i64 j hhb (by omega)
      obtain⟨g,o,hg⟩:∃g o,adr po (j*3)=⟨g,o,none⟩:=⟨_,_,rfl⟩;have hg':=hid hg;have i3:∀W,(Instr.indexAt 45 (.slice po d pc) (.int .i64 (j:Int))).run Tryz.prog W= .ok (.pointer (some ⟨g,o,none⟩)) W:=by rw[<-hg];exact a0k a1c po d pc .i64 j hhp (by omega)
      have hEd:Ext wr wr.drew:=(ExtX.refl wr).drew;have hS:Hid (∀Y W',ExtX Y wr.drew W'->Y g1=false->Y g2=false->W'.cell? ⟨g1,o1,none⟩=some (.bool s1)/\W'.cell? ⟨g1,o1+1,none⟩=some (.slice a1 n1 c1)/\W'.cell? ⟨g1,o1+2,none⟩=some (.slice d1 k1 e1)/\W'.cell? ⟨g2,o2,none⟩=some (.bool s2)/\W'.cell? ⟨g2,o2+1,none⟩=some (.slice a2 n2 c2)/\W'.cell? ⟨g2,o2+2,none⟩=some (.slice d2 k2 e2)):=hid fun Y W' h y1 y2=>by
       have p1:=hc1.out Y W' ((ExtX.of hEd).trans h) y1;have p2:=hc2.out Y W' ((ExtX.of hEd).trans h) y2;exact⟨p1.1,p1.2.1,p1.2.2,p2.1,p2.2.1,p2.2.2⟩
      obtain⟨k00,k01,k02,k10,k11,k12⟩:=hS.out noY wr.drew (ExtX.refl _) rfl rfl;have hx5:QV (mk (un (un X oo) po) wr.drew) (.agg #[.bool s1, .slice a1 n1 c1, .slice d1 k1 e1]) x:=hq1.qv (by have:=hBx.out;omega);have hy5:QV (mk (un (un X oo) po) wr.drew) (.agg #[.bool s2, .slice a2 n2 c2, .slice d2 k2 e2]) y:=hq2.qv (by have:=hBy.out;omega);have hZd:HX (un (un X oo) po) wr.drew:=hZx;have hOd:=hPx.ext0 QC.elem hEd;have htd:=htx.ext hEd;have hEwd:ExtX (un (tbm tb) po) wo wr.drew:=hEx.trans (ExtX.of hEd);clear hx hy hg hg1 hg2 hc1 hc2 hq1 hq2 hca hcb hPx htx hEx hle gl gm;go_wp2_with fail
      go_region_held3 (fun w'=>w'.cell? ⟨g1,o1,none⟩=some (.bool s1)/\w'.cell? ⟨g1,o1+1,none⟩=some (.slice a1 n1 c1)/\w'.cell? ⟨g1,o1+2,none⟩=some (.slice d1 k1 e1)/\w'.cell? ⟨g2,o2,none⟩=some (.bool s2)/\w'.cell? ⟨g2,o2+1,none⟩=some (.slice a2 n2 c2)/\w'.cell? ⟨g2,o2+2,none⟩=some (.slice d2 k2 e2))
       (first|exact hS.out (ob po) _ ((ExtX.of t123).trans hset.2) hob1 hob2|exact hS.out noY _ t123 rfl rfl|exact hS.out noY _ t12 rfl rfl|exact hS.out noY _ t1 rfl rfl|go_keep)
       (first
        |(go_at_call 59;(with_reducible refine(a7B (un (un X oo) po) wr.drew 2 hZd (by decide) (by decide)).mono ?_);rintro ee w6 ⟨t1,u6,rfl,hu6⟩;rw[hv2.out]at hu6;obtain⟨s6,a6,n6,c6,d6,k6,e6,rfl⟩:=hu6.shape;have hZ6:=hZd.ext t1;have hu6v:=hu6.qv h2q.out;have hx6:=mkx QV.mono hx5 t1)
        |(go_at_call 77;(with_reducible refine(b2O (un (un X oo) po) w6 _ _ 2 x hZ6 hu6v hx6).mono ?_);rintro ee w7 ⟨t2,u7,rfl,hu7⟩;obtain⟨s7,a7,n7,c7,d7,k7,e7,rfl⟩:=hu7.shape;have t12:=t1.trans t2;have hZ7:=hZd.ext t12;have hu7v:=hu7.qv hmq.out;have hy7:=mkx QV.mono hy5 t12)
        |(go_at_call 86;(with_reducible refine(b4S (un (un X oo) po) w7 _ _ (2*x) y hZ7 hu7v hy7).mono ?_);rintro ee w9 ⟨t3,u9,rfl,hu9⟩;obtain⟨s9,a9,n9,c9,d9,k9,e9,rfl⟩:=hu9.shape;have t123:=t12.trans t3;have hO9:=hOd.ext0 QC.elem t123;obtain⟨_,v0,v1,v2,_,⟨q0,f0⟩,⟨q1,f1⟩,⟨q2,f2⟩,_⟩:=hO9.cell3 j hjp hg'.out;have hset:=hO9.set3 a7z QC.elem j hjp hg'.out (v0:= .bool s9) (v1:= .slice a9 n9 c9) (v2:= .slice d9 k9 e9) (x:=2*x - y) hu9)
        |fail)
      obtain⟨r1,r2⟩:=hset;rw[hst.out]at r1;have hE9:ExtX (un (tbm tb) po) wo _:=(hEwd.trans (ExtX.of t123)).trans (r2.weaken fun _ _ h=>(a1p h).2);have ht9:=(htd.ext t123).extY r2 (fun _ hk=>a0q hk) hpt;clear k00 k01 k02 k10 k11 k12 i1 i2 i3 q0 q1 q2 f0 f1 f2 r2;go_wp2_with fail
      go_roundw
      case rel=>exact⟨j+1,by go_num,by omega,r1,ht9,hE9⟩
      case measure=>simp[intOf];omega
     ·have hjl:j=d:=by omega
      obtain⟨r,hr⟩:∃r,a3L p ra rb j=r:=⟨_,rfl⟩;have hrd:Hid (r.length=d):=hid (by rw[<-hr,a7V];exact hlp.out);have hrB:Hid (BR (pB (k+1)) r):=hid (by
       rw[<-hr,<-b5E];have h1:1<=pB k:=by have:=a3d hk1;have:pB 1=2:=rfl;omega
       have h2:2<=pB k:=by have:=a3d hk1;have:pB 1=2:=rfl;omega
       exact b3I (fun q hq=>Nat.le_trans (hpB q hq) h2) hBa.out hBb.out h1 j)
      rw[hr]at hPx;have hOK:OL RC 1 X w.heap.size 45 wr oo co l:=hO0.out.ext RC.elem hEx (fun q hq hk=>by
       by_cases hx:tbm tb q=true
       ·exact hsub q hx
       ·simp[un,hx,hoo.out q hq]at hk) (fun _ _ h=>h)
      have hFK:ExtX (tbm tb) w wr:=hE0.out.then_ hEx (fun q hq hy=>by
       have:=hE0.out.size;simp[un,hy,hoo.out q (by omega)])
      have hXK:=hX.ext hFK;have htK:a0z (un X oo) tb wr:=htx.unX (a0p htX);have hpc2:=hPx.lenCap;rw[hrd.out]at hpc2;have hRC:RC (mk (un X oo) wr) (.slice po d pc) r:=⟨po,pc,by rw[hrd.out],by rw[hrd.out];exact hpc2,hPx.sl QC.elem⟩;have hb7:=hFK.size;have hlk2:=hlk'.out;clear hr hPx hca hcb hEx htx hlk2;go_wp2_with (at_builtin;refine a0H (l:=l) a0A rfl RC.elem hb7 hXK k hlk'.out rfl rfl hOK (.slice po d pc) r rfl hRC (by omega) (by omega) ?_;intro oo2 co2 w7 hO7 hE7 hor)
      have hE8:=hFK.own hOK (Nat.le_refl _) hE7;have ht8:=htK.unstep (hOK.not_ob htX) hE7 hor;have hl8:(l++[r]).length=k+1:=by rw[List.length_append,hlk'.out];rfl
      have hr8:∀x∈l++[r],x.length=d:=fun x hr=>by
       rcases List.mem_append.1 hr with h|h
       ·exact hrl'.out x h
       ·rw[List.mem_singleton.1 h];exact hrd.out
      have hB8:BM (pB (k+1)) (l++[r]):=fun x hr=>by
       rcases List.mem_append.1 hr with h|h
       ·exact fun q hq=>Nat.le_trans (hBM'.out x h q hq) (a3d (by omega))
       ·rw[List.mem_singleton.1 h];exact hrB.out
      go_roundw
      case rel=>exact⟨i,k+1,oo2,co2,_,by go_num,by go_num,hl8,by omega,by omega,hr8,hB8,hO7,ht8,hE8⟩
      case measure=>simp[intOf]
  ·have hc:=hO.lenCap
   have hb:=a3d (show k<=8 by omega);rw[b7D]at hb;have hi0:i=0:=by omega
   subst hi0;go_wp2_with fail
   go_ret
   exact⟨hE,oo,l,co,by rw[hlk];rfl,by omega,by omega,by omega,hrl,fun r hr q hq=>Nat.le_trans (hBM r hr q hq) hb,htr,hO⟩
end Go.Proofs.YtoibhmjjhgaimaaGreat
namespace Go.Rep
open Go.RowKit Go.Lim
theorem OL.toRV {X:Nat->Bool} {base:Nat} {e:TypeId} {w:World} {ao:Option Addr} {cap:Nat} {l:List (List Rat)} (h:OL RC 1 X base e w ao cap l) (hb:BM 68719476736 l):OL RV 1 X base e w ao cap l:=by
 obtain⟨hx,us,h1,h2,h22,h3,h5⟩:=h;exact⟨hx,us,h1,h2,h22,h3,fun i hi hi'=>RC.rv (h5 i hi hi') (hb _ (List.getElem_mem _))⟩
theorem BM.le {B C:Nat} {m:List (List Rat)} (h:BM B m) (hBC:B<=C):BM C m:=fun r hr q hq=>Nat.le_trans (h r hr q hq) hBC
theorem BM.set {B:Nat} {m:List (List Rat)} (h:BM B m) {r:List Rat} (hr:BR B r) (i:Nat):BM B (m.set i r):=fun x hx=>by
 rcases List.mem_or_eq_of_mem_set hx with hx|rfl
 ·exact h x hx
 ·exact hr
end Go.Rep
namespace Go.Proofs.YtoibhmjjhgaimaaGreat
open Go.RowKit Go.Rep Go.Lim
def a8Q (X:Nat->Bool) (tb:Nat) (n:Nat) (w:World) (e:Ending) (w':World):Prop:=ExtX (tbm tb) w w'/\a0z X tb w'/\∃v l,e= .returned v/\MV (mk X w') v l/\BM 510 l/\(l.length<=n\/l.length=65)/\∀r∈l,r.length<=4
theorem a7W {X:Nat->Bool} {tb n k b co:Nat} {T:TypeId} {w wz:World} {oo:Option Addr} {l:List (List Rat)} (hE:ExtX (tbm tb) w wz) (ht:a0z (un X oo) tb wz) (htX:X tb=true) (hO:OL RV 1 X b T wz oo co l) (hB:BM 510 l) (hl:k<=n\/k=65) (hr:∀r∈l,r.length<=4) (hk:l.length=k):a8Q X tb n w (.returned (.slice oo k co)) wz:=by
 subst hk;exact⟨hE,ht.unX htX,_,l,rfl,⟨oo,co,rfl,hO.lenCap,hO.sl RV.elem⟩,hB,hl,hr⟩
theorem a5t {X:Nat->Bool} {tb n k b co:Nat} {T:TypeId} {w wz:World} {oo:Option Addr} {l:List (List Rat)} (hE:ExtX (tbm tb) w wz) (ht:a0z (un X oo) tb wz) (htX:X tb=true) (hO:OL RC 1 X b T wz oo co l) (hB:BM 510 l) (hl:k<=n\/k=65) (hr:∀r∈l,r.length<=4) (hk:l.length=k):a8Q X tb n w (.returned (.slice oo k co)) wz:=
 a7W hE ht htX (hO.toRV (hB.le (by omega))) hB hl hr hk
set_option maxRecDepth 100000 in
set_option maxHeartbeats 3200000 in
theorem b3J (X:Nat->Bool) (tb n:Nat) (w:World) (ht:a0z X tb w) (hX:HX X w) (hn1:1<=n) (hn:n<=8):
  Calls Tryz.prog 14 #[.pointer (some ⟨tb,0,none⟩), .int .i64 (n:Int)] w (a8Q X tb n w):=by
 have hsub:=a1n ht.1;have htX:=ht.1;go_enter Tryz.func14,Tryz.ntmps14
 go_wp2_with fail
 refine(a0R X tb 3 _ ht (by omega)).mono ?_;rintro e w1 ⟨hE1,ht1,d,rfl,hd⟩;have hd1:(1+(d:Int))=((d+1:Nat):Int):=by omega
 go_wp2_with fail
 refine(a8P X tb n (d+1) w1 ht1 (hX.ext hE1) hn1 hn (by omega)).mono ?_;rintro e w2 ⟨hE2,oo,l,co,rfl,hlc,hl1,hln,hrl,hBM,ht2,hO2⟩;have hF2:=hE1.trans hE2;have hO:=hO2.base_le (b':=w.heap.size) hE1.size;have hr4:∀r∈l,r.length<=4:=fun r hr=>by have:=hrl r hr;omega
 obtain⟨k,hk⟩:∃k,l.length=k:=⟨_,rfl⟩;have hk':=hid hk;rw[hk]at hlc hl1 hln |-;clear hO2 hE2 hE1 ht1 hk hd1;go_wp2_with fail
 refine(a0R (un X oo) tb 14 _ ht2 (by omega)).mono ?_;rintro e w3 ⟨hE3,ht3,m,rfl,hm⟩;have hO3:=hO.ext RC.elem hE3 (fun k _ hk=>hsub k hk) (fun _ _ h=>h);have hF3:=hF2.trans hE3;have hX3:=hX.ext hF3;clear hO hF2 ht2 hE3;have hcase:m=9\/m=10\/m=11\/m=12\/m=13\/(m≠9/\m≠10/\m≠11/\m≠12/\m≠13):=by omega
 rcases hcase with rfl|rfl|rfl|rfl|rfl|hno
 ·go_wp2_with fail
  go_ret
  exact⟨hF3,ht3.unX htX,_,[],rfl,SlV.zero _ _ _,fun r hr=>by simp at hr, .inl (by simp),fun r hr=>by simp at hr⟩
 ·go_wp2_with fail
  refine(a0R (un X oo) tb k w3 ht3 (by omega)).mono ?_;rintro e w4 ⟨hE4,ht4,i,rfl,hi⟩;go_wp2_with fail
  refine(a0R (un X oo) tb 5 w4 ht4 (by omega)).mono ?_;rintro e w5 ⟨hE5,ht5,c,rfl,hc⟩;have hO5:=(hO3.ext RC.elem hE4 (fun k _ hk=>hsub k hk) (fun _ _ h=>h)).ext RC.elem hE5 (fun k _ hk=>hsub k hk) (fun _ _ h=>h);have hF5:=(hF3.trans hE4).trans hE5;have hXu5:=hO5.unX (hX.ext hF5);go_wp2_with fail
  refine(a5s (un X oo) tb c w5 ht5 hXu5 (by omega)).mono ?_;rintro e w6 ⟨hE6,po,p,pc,rfl,hpl,hpc,hpB,ht6,hP⟩;have hO6:=hO5.ext RC.elem hE6 (fun k _ hk=>hsub k hk) (fun _ _ h=>h);have hF6:=hF5.trans hE6;have hRC:RC (mk (un X oo) w6) (.slice po c pc) p:=⟨po,pc,by rw[hpl],by rw[hpl];exact hpc,hP.sl QC.elem⟩;have ht6u:a0z (un X oo) tb w6:=ht6.unX (a0p htX);have hik:i<k:=by omega
  have hil:i<l.length:=by rw[hk'.out];exact hik
  have hhd:=hO6.hd;rw[hk'.out]at hhd;have hls:(l.set i p).length=k:=by rw[List.length_set];exact hk'.out
  have hBs:BM 510 (l.set i p):=hBM.set (fun q hq=>Nat.le_trans (hpB q hq) (by omega)) i;have hrs:∀r∈l.set i p,r.length<=4:=fun r hr=>by
   rcases List.mem_or_eq_of_mem_set hr with hr|rfl
   ·exact hr4 r hr
   ·omega
  clear hO3 ht3 hF3 hE4 hE5 hO5 hF5 hXu5 ht5 hE6 ht6 hP hX3 ht4;go_wp2_with (first
   |(with_reducible refine a0o a0A (by omega) (by assumption) ?_)
   |((with_reducible show wpList _ _ _ (⟨_, .store _ _ _,_,_,_,_⟩::_) _ _);refine a2G a3R RC.elem i rfl (by simp) hO6 hil _ p rfl hRC ?_;intro w7 hO7 hE7))
  have hF7:=hF6.own hO6 (Nat.le_refl _) hE7;have ht7:=ht6u.unstep (hO6.not_ob htX) hE7 (.inl rfl);go_ret
  exact a5t hF7 ht7 htX hO7 hBs (.inl hln) hrs hls
 ·have ht3X:=ht3.unX htX
  go_wp2_with fail
  refine(a3I X tb [0,4] _ _ _ w3 0 4 ht3X hX3 rfl rfl (by simp) (by simp) (hid (by simp))).mono ?_;rintro e w4 ⟨hE4,ht4,x,rfl,hx1,hx2⟩;obtain⟨c,rfl⟩:=Int.eq_ofNat_of_zero_le hx1;have hF4:=hF3.trans hE4;go_wp2_with fail
  refine(a5s X tb c w4 ht4 (hX.ext hF4) (by omega)).mono ?_;rintro e w5 ⟨hE5,po,p,pc,rfl,hpl,hpc,hpB,ht5,hP⟩;have hF5:=hF4.trans hE5;have hX5:=hX.ext hF5;have hRC:RC (mk X w5) (.slice po c pc) p:=⟨po,pc,by rw[hpl],by rw[hpl];exact hpc,hP.sl QC.elem⟩;have hL:=a9I X w5 po c pc p 45 hX5 hRC;have htL:=(ht5.unX htX).old (oo:=some ⟨w5.heap.size,0,none⟩) ((ExtX.refl (Y:=noY) w5).alloc (.cells #[.slice po c pc] 45)) (a3U w5);have hFL:ExtX (tbm tb) w (w5.alloc (.cells #[.slice po c pc] 45)):=hF5.alloc _;go_wp2_with fail
  go_ret
  exact a5t hFL htL htX hL (fun r hr q hq=>by rw[List.mem_singleton.1 hr]at hq;exact Nat.le_trans (hpB q hq) (by omega)) (.inl hn1) (fun r hr=>by rw[List.mem_singleton.1 hr];omega) rfl
 ·go_wp2_with fail
  go_loopw [5] (fun s wr=>∃(q:Nat) (ao:Option Addr) (ca:Nat) (m:List (List Rat)),s= .slice ao q ca/\m.length=q/\1<=q/\q<=65/\BM 510 m/\(∀r∈m,r.length<=4)/\OL RC 1 X w.heap.size 45 wr ao ca m/\a0z (un X ao) tb wr/\ExtX (tbm tb) w wr) (fun s _=>65 - lenOf s)
  case atStart=>exact⟨k,oo,co,l,rfl,hk'.out,hl1,by omega,hBM,hr4,hO3,ht3,hF3⟩
  case round=>
   clear hO3 ht3 hF3 hX3;obtain⟨q,ao,ca,m,rfl,hmq,hq1,hq65,hB,hr,hO,htr,hE⟩:=hrel;have hXr:=hX.ext hE;have hb:=hE.size;by_cases hlt:q<65
   ·have h0:0<m.length:=by omega
    obtain⟨u,hc,_,hru⟩:=hO.cell SlV.one 0 h0;obtain⟨a0,c0,rfl,hcl0,hs0⟩:=hru;have hhd:=hO.hd;rw[hmq]at hhd;have hr0:=hr m[0] (List.getElem_mem _);have hB0:=hB m[0] (List.getElem_mem _);have hRC:RC (mk (un X ao) wr) (.slice a0 m[0].length c0) m[0]:=⟨a0,c0,rfl,hcl0,hs0⟩;obtain⟨r,hre⟩:∃r,m[0]=r:=⟨_,rfl⟩;rw[hre]at hc hr0 hB0 hRC;obtain⟨d0,hd0⟩:∃d0,r.length=d0:=⟨_,rfl⟩;rw[hd0]at hc hRC;have hmq':=hid hmq;have hl2:(m++[r]).length=q+1:=by rw[List.length_append,hmq];rfl
    have hB2:BM 510 (m++[r]):=fun x hx=>by
     rcases List.mem_append.1 hx with h|h
     ·exact hB x h
     ·rw[List.mem_singleton.1 h];exact hB0
    have hr2:∀x∈m++[r],x.length<=4:=fun x hx=>by
     rcases List.mem_append.1 hx with h|h
     ·exact hr x h
     ·rw[List.mem_singleton.1 h];exact hr0
    clear hs0 hcl0 hre hd0 hmq h0;go_wp2_with (first
     |(with_reducible refine a0o a0A (by omega) (by assumption) ?_)
     |(at_builtin;refine a0H (l:=m) a0A rfl RC.elem hb hXr q hmq'.out rfl rfl hO (.slice a0 d0 c0) r rfl hRC (by omega) (by omega) ?_;intro oo2 co2 w7 hO7 hE7 hor))
    have hE8:=hE.own hO (Nat.le_refl _) hE7;have ht8:=htr.unstep (hO.not_ob htX) hE7 hor;go_roundw
    case rel=>exact⟨q+1,oo2,co2,_,by go_num,hl2,by omega,by omega,hB2,hr2,hO7,ht8,hE8⟩
    case measure=>simp[lenOf];omega
   ·have hq:q=65:=by omega
    subst hq;go_wp2_with fail
    go_ret
    exact a5t hE htr htX hO hB (.inr rfl) hr hmq
 ·have hhd:=hO3.hd
  rw[hk'.out]at hhd;have h0:0<l.length:=by rw[hk'.out];omega
  obtain⟨u,hc,_,hru⟩:=hO3.cell SlV.one 0 h0;obtain⟨a0,c0,rfl,hcl0,hs0⟩:=hru;have hd0:=hrl l[0] (List.getElem_mem _);obtain⟨dd,hdd⟩:∃dd,d+1=dd:=⟨_,rfl⟩;have hdd4:dd<=4:=by omega
  rw[hd0,hdd]at hc;clear hdd;have hobt:ob oo tb=false:=hO3.not_ob htX;have htd:a0z (un X oo) tb w3.drew:=ht3.ext (ExtX.refl _).drew;have hS:Hid (∀w',ExtX (tbm tb) w3.drew w'->w'.cell? (adr oo 0)=some (.slice a0 dd c0)):=hid fun w' h=>h.cellY (show w3.drew.cell? _=_ from hc) (a2T (b4i hhd (by omega) hobt));have k0:=hS.out _ (ExtX.refl _);have i1:∀m,m<k->∀W,(Instr.indexAt 25 (.slice oo k co) (.int .i64 (m:Int))).run Tryz.prog W= .ok (.pointer (some (adr oo m))) W:=fun m hm=>a0I a0A oo k co .i64 m hhd hm rfl;have i1':=hid i1;have i0:∀W,(Instr.indexAt 25 (.slice oo k co) (.int .i64 0)).run Tryz.prog W= .ok (.pointer (some (adr oo 0))) W:=i1 0 (by omega);have hkb:(k:Int)<=1099511627776:=by omega
  have hOd:=hO3.ext0 RC.elem (ExtX.refl _).drew;have hFd:ExtX (tbm tb) w w3.drew:=hF3.drew;clear hs0 hcl0 hd0 i1 h0 hO3 hF3 ht3 hX3;go_wp2_with fail
  refine a0P 12 (fun w'=>w'.cell? (adr oo 0)=some (.slice a0 dd c0)) (by kernel_rfl) (by kernel_rfl) (hS.out _ (ExtX.refl _)) (fun hHeld hOnce=>?_);clear k0;refine a0a hOnce (i:=0) (oi:=⟨_,_,_,_,_,_⟩) (v:=?_) rfl (by kernel_rfl) (fun _ _ _ h=>h) (by assumption) (by rfl) (fun w hSw=>?_) ?_
  rotate_left
  ·(try dsimp only at hSw)
   go_simp
   all_goals with_reducible rfl
  (try simp only[Act.put,List.setIfInBounds_toArray,List.set_cons_zero,List.set_cons_succ])
  refine a0a hOnce (i:=1) (oi:=⟨_,_,_,_,_,_⟩) (v:=?_) rfl (by kernel_rfl) (fun _ _ _ h=>h) (by assumption) (by rfl) (fun w hSw=>?_) ?_
  rotate_left
  ·(try dsimp only at hSw)
   go_simp
   all_goals with_reducible rfl
  (try simp only[Act.put,List.setIfInBounds_toArray,List.set_cons_zero,List.set_cons_succ])
  refine a0a hOnce (i:=2) (oi:=⟨_,_,_,_,_,_⟩) (v:=?_) rfl (by kernel_rfl) (fun _ _ _ h=>h) (by assumption) (by rfl) (fun w hSw=>?_) ?_
  rotate_left
  ·(try dsimp only at hSw)
   go_simp
   all_goals with_reducible rfl
  (try simp only[Act.put,List.setIfInBounds_toArray,List.set_cons_zero,List.set_cons_succ])
  refine a0a hOnce (i:=3) (oi:=⟨_,_,_,_,_,_⟩) (v:=?_) rfl (by kernel_rfl) (fun _ _ _ h=>h) (by assumption) (by rfl) (fun w hSw=>?_) ?_
  rotate_left
  ·(try dsimp only at hSw)
   go_simp
   all_goals with_reducible rfl
  (try simp only[Act.put,List.setIfInBounds_toArray,List.set_cons_zero,List.set_cons_succ])
  refine a0a hOnce (i:=5) (oi:=⟨_,_,_,_,_,_⟩) (v:=?_) rfl (by kernel_rfl) (fun _ _ _ h=>h) (by assumption) (by rfl) (fun w hSw=>?_) ?_
  rotate_left
  ·(try dsimp only at hSw)
   go_simp
   all_goals with_reducible rfl
  (try simp only[Act.put,List.setIfInBounds_toArray,List.set_cons_zero,List.set_cons_succ])
  refine a0a hOnce (i:=6) (oi:=⟨_,_,_,_,_,_⟩) (v:=?_) rfl (by kernel_rfl) (fun _ _ _ h=>h) (by assumption) (by rfl) (fun w hSw=>?_) ?_
  rotate_left
  ·(try dsimp only at hSw)
   go_simp
   all_goals with_reducible rfl
  (try simp only[Act.put,List.setIfInBounds_toArray,List.set_cons_zero,List.set_cons_succ])
  refine a0a hOnce (i:=7) (oi:=⟨_,_,_,_,_,_⟩) (v:=?_) rfl (by kernel_rfl) (fun _ _ _ h=>h) (by assumption) (by rfl) (fun w hSw=>?_) ?_
  rotate_left
  ·(try dsimp only at hSw)
   go_simp
   all_goals with_reducible rfl
  (try simp only[Act.put,List.setIfInBounds_toArray,List.set_cons_zero,List.set_cons_succ])
  refine a0a hOnce (i:=8) (oi:=⟨_,_,_,_,_,_⟩) (v:=?_) rfl (by kernel_rfl) (fun _ _ _ h=>h) (by assumption) (by rfl) (fun w hSw=>?_) ?_
  rotate_left
  ·(try dsimp only at hSw)
   go_simp
   all_goals with_reducible rfl
  (try simp only[Act.put,List.setIfInBounds_toArray,List.set_cons_zero,List.set_cons_succ])
  refine a0a hOnce (i:=9) (oi:=⟨_,_,_,_,_,_⟩) (v:=?_) rfl (by kernel_rfl) (fun _ _ _ h=>h) (by assumption) (by rfl) (fun w hSw=>?_) ?_
  rotate_left
  ·(try dsimp only at hSw)
   go_simp
   all_goals with_reducible rfl
  (try simp only[Act.put,List.setIfInBounds_toArray,List.set_cons_zero,List.set_cons_succ])
  refine a0v (i:=4) (o:=⟨_,_,_,_,_,_⟩) (by kernel_rfl) rfl (fun K hK=>?_);go_simp
  (go_at_call 40;(with_reducible refine(a0R (un X oo) tb k w3.drew htd hkb).mono ?_);rintro ee w4 ⟨t1,ht4,i,rfl,hi⟩)
  refine hK.out _ _ (hS.out w4 t1) (fun hHeld=>?_);clear hK K
  (try simp only[Act.put,List.setIfInBounds_toArray,List.set_cons_zero,List.set_cons_succ])
  have hik:i<k:=by omega
  have hil:i<l.length:=by rw[hk'.out];exact hik
  have i4:=i1'.out i hik;have hO4:=hOd.ext RC.elem t1 (fun k _ hk=>hsub k hk) (fun _ _ h=>h);have hF4:=hFd.trans t1;have hXu4:HX (un X oo) w4:=hO4.unX (hX.ext hF4);have hd4:dd<=1000:=by omega
  refine a0v (i:=10) (o:=⟨_,_,_,_,_,_⟩) (by kernel_rfl) rfl (fun K hK=>?_);go_simp
  (go_at_call 60;(with_reducible refine(a8O (un X oo) tb dd w4 ht4 hXu4 hd4).mono ?_);rintro ee w5 ⟨t2,po,p,pc,rfl,hpl,hpc,hpB,ht5,hP⟩)
  refine hK.out _ _ (hS.out w5 (t1.trans t2)) (fun hHeld=>?_);clear hK K
  (try simp only[Act.put,List.setIfInBounds_toArray,List.set_cons_zero,List.set_cons_succ])
  have hO5:=hO4.ext RC.elem t2 (fun k _ hk=>hsub k hk) (fun _ _ h=>h);have hF5:=hF4.trans t2;have hRV:RV (mk (un X oo) w5) (.slice po dd pc) p:=⟨po,pc,by rw[hpl],by rw[hpl];exact hpc,hP.sl QV.elem⟩;have ht5u:a0z (un X oo) tb w5:=ht5.unX (a0p htX);have hO6:=hO5.toRV (hBM.le (by omega));obtain⟨_,q0,f0,_⟩:=hO6.cell SlV.one i hil;refine a0a hOnce (i:=11) (oi:=⟨_,_,_,_,_,_⟩) (v:=?_) rfl (by kernel_rfl) (fun _ _ _ h=>h) (by assumption) (by rfl) (fun w hSw=>?_) ?_
  rotate_left
  ·(try dsimp only at hSw)
   go_simp
   all_goals with_reducible rfl
  (try simp only[Act.put,List.setIfInBounds_toArray,List.set_cons_zero,List.set_cons_succ])
  refine a0O (i:=12) (o:=⟨_,_,_,_,_,_⟩) (by kernel_rfl) rfl (by decide) (by kernel_rfl) (fun K hK=>?_);go_simp
  refine hK.out _ _ ?_;clear hK K;obtain⟨hO7,hE7⟩:=hO6.set1 a3R RV.elem SlV.one i hil (.slice po dd pc) p hRV;have hF7:=hF5.own hO6 (Nat.le_refl _) hE7;have ht7:=ht5u.unstep (hO6.not_ob htX) hE7 (.inl rfl);have hls:(l.set i p).length=k:=by rw[List.length_set];exact hk'.out
  have hBs:BM 510 (l.set i p):=hBM.set (fun q hq=>Nat.le_trans (hpB q hq) (by omega)) i;have hrs:∀r∈l.set i p,r.length<=4:=fun r hr=>by
   rcases List.mem_or_eq_of_mem_set hr with hr|rfl
   ·exact hr4 r hr
   ·omega
  clear q0 f0 i0 i4;go_wp2_with fail
  go_ret
  exact a7W hF7 ht7 htX hO7 hBs (.inl hln) hrs hls
 ·obtain⟨n1,n2,n3,n4,n5⟩:=hno
  have t1:((m:Int)==9)=false:=a2f (by omega);have t2:((m:Int)==10)=false:=a2f (by omega);have t3:((m:Int)==11)=false:=a2f (by omega);have t4:((m:Int)==12)=false:=a2f (by omega);have t5:((m:Int)==13)=false:=a2f (by omega);go_wp2_with fail
  go_ret
  exact a5t hF3 ht3 htX hO3 hBM (.inl hln) hr4 hk'.out
open Go.Lin
theorem b6G {tb:Nat} {w w1 w2:World} (h:w.heap.size=tb) (hE:Ext w w1) (h2:ExtX (tbm tb) w1 w2):Ext w w2:=hE.then_ h2 fun i hi _=>a2T (by omega)
set_option maxRecDepth 100000 in
set_option maxHeartbeats 3200000 in
theorem b3K (lo:Option Addr) (l:List Int) (cl:Nat) (w:World) (hl:Sl (a0i .i64) 1 w.cell? lo l) (hcl:l.length<=cl) (hlb:l.length<=9223372036854775807):
  Calls Tryz.prog 3 #[.slice lo l.length cl] w (b2F w true):=by
 go_enter Tryz.func3,Tryz.ntmps3
 go_wp2_with fail
 refine(b3n lo l cl w hl hcl hlb).mono ?_;rintro e w1 ⟨rfl,hE1,ht1,hsz1⟩;obtain⟨tb,htb⟩:∃tb,w.heap.size=tb:=⟨_,rfl⟩;have hX1:HX (tbm tb) w1:=fun k hk=>by
  have:k=tb:=by simpa[tbm]using hk
  omega
 have hfin:=hid (fun w2 (h:ExtX (tbm tb) w1 w2)=>b6G htb hE1 h);have htbw:=hid htb;rw[htb]at ht1 |-;obtain⟨X,hX⟩:∃X,tbm tb=X:=⟨_,rfl⟩;have hsub:∀k,tbm tb k=true->X k=true:=fun k hk=>by rw[<-hX];exact hk
 have hXk:=hid (fun k (hk:X k=true)=>(by rw[<-hX]at hk;simpa[tbm]using hk:k=tb));rw[hX]at ht1 hX1;have htX:=ht1.1;have hw1:w.heap.size<=w1.heap.size:=hE1.size;have htl:tb<w1.heap.size:=by omega
 clear hE1 hsz1 htb hl hX;go_wp2_with fail
 refine(b3J X tb 6 w1 ht1 hX1 (by decide) (by decide)).mono ?_;rintro e w2 ⟨hE2,ht2,v2,p,rfl,hp,hpB,hp6,hpr⟩;have hX2:=hX1.ext hE2;obtain⟨po,pc,rfl,hpc,hps⟩:=id hp;by_cases h10:10<p.length
 ·have hpt:a3B p=false:=by
   cases h:a3B p
   ·rfl
   ·have:=(a1J.1 h).2.1;omega
  have hm:Hid (∀h det L,a7f p h det L=false):=hid fun h det L=>by unfold a7f;rw[hpt];rfl
  have hc:=a9B X w2 (.slice po p.length pc) (.agg #[.bool false, .slice none 0 0, .slice none 0 0]) none [] 0 1 p 0 510 hX2 hp ((QC.zero _).qv (by rw[a2k];decide)) (Sl.nil _ _ _ _) (by simp) (hid (by simp)) hp6 hpB (by decide) (by decide);rw[hm.out]at hc;obtain⟨n,hn⟩:∃n,p.length=n:=⟨_,rfl⟩;rw[hn]at hc hpc h10 hp6 |-;clear hn hps hp hm hpt;go_wp2_with fail
  refine hc.mono ?_;rintro e w3 ⟨hE3,rfl⟩;clear hc;go_wp2_with fail
  refine(a7U w3).mono ?_;rintro e w4 ⟨hE4,rfl⟩;go_wp2_with fail
  go_ret
  exact⟨hfin.out _ (hE2.then_ (hE3.trans hE4) (fun _ _ _=>rfl)),rfl⟩
 have hp6':p.length<=6:=by omega
 have hlea:=hid (fun(Y:Nat->Bool) (w':World) (h:Nat) (h1:HX Y w') (h2:MV (mk Y w') (.slice po p.length pc) p) (h3:h<=p.length)=>b1P Y w' _ p h 510 h1 h2 hp6' h3 hpB (by decide) (by decide));have hmc:=hid (fun(w':World) (h:Int) (dv:Value) (q:Rat) (xo:Option Addr) (L:List a2X) (cl:Nat) (h1:HX X w') (h2:MV (mk X w') (.slice po p.length pc) p) (h3:QV (mk X w') dv q) (h4:Sl a0G 2 (mk X w') xo L) (h5:L.length<=1099511627776) (h6:Hid (∀x∈L,x.1.length<=1099511627776/\x.2.length<=1099511627776))=>a9B X w' _ dv xo L cl h p q 510 h1 h2 h3 h4 h5 h6 (.inl hp6') hpB (by decide) (by decide));have hrm:=hid (fun(w':World) (h:Int) (dv:Value) (q:Rat) (xo:Option Addr) (L:List a2X) (cl:Nat) (h1:HX X w') (h2:MV (mk X w') (.slice po p.length pc) p) (h3:QV (mk X w') dv q) (hdq:hq q<=30000000000) (h4:Sl a0G 2 (mk X w') xo L) (hcl:L.length<=cl) (h5:L.length<=1099511627776) (h6:Hid (∀x∈L,x.1.length<=1099511627776/\x.2.length<=1099511627776))=>b3D X w' _ dv xo L cl h p q 510 h1 h2 h3 hdq h4 hcl h5 h6 (.inl hp6') hpB (by decide) (by decide));have hsh:=hid (fun(w':World) (h2:MV (mk X w') (.slice po p.length pc) p)=>a4V QV.mono X w' _ p h2 (by omega));unfold b3q at hsh;obtain⟨n,hn⟩:∃n,p.length=n:=⟨_,rfl⟩;rw[hn]at hlea hmc hrm hsh hp hpc hp6' h10 |-;obtain⟨ok,hok⟩:∃ok,a3B p=ok:=⟨_,rfl⟩;rw[hok]at hsh;clear hn hps hok hp6 hpB hpr;go_wp2_with fail
 refine(b1D X tb (n:Int) w2 ht2 hX2 (by omega) (by omega)).mono ?_;rintro e w3 ⟨hE3,ht3,h,rfl,hh1,hh2⟩;have hh3: -1<=h:=by omega
 have hh4:h<=8:=by omega
 have hX3:=hX2.ext hE3;have hX1':=hX1;clear hh1 hh2 ht1 hX1;go_wp2_with fail
 refine(b0j X tb (n:Int) h w3 ht3 hX3 (by omega) (by omega) (by omega) (by omega)).mono ?_;rintro e w4 ⟨hE4,ht4,xo,x,cx,rfl,hcx,hxl,hxb,hsx⟩;have hX4:=hX3.ext hE4;go_wp2_with fail
 refine(a9H X tb w4 ht4 hX4).mono ?_;rintro e w5 ⟨hE5,ht5,u,q,rfl,hu,hq3⟩;obtain⟨s,a,nn,c,d,m,f,rfl⟩:=hu.shape;have hX5:=hX4.ext hE5;have hF5:=(hE2.trans hE3).trans (hE4.trans hE5);have hp5:=MV.mono _ _ _ _ (a0w (hE3.trans (hE4.trans hE5)) hsub) hp;have hs5:=hsx.mono a0G.mono (a0w hE5 hsub);have hxb':Hid (∀y∈x,y.1.length<=1099511627776/\y.2.length<=1099511627776):=hid fun y hy=>by have:=hxb.out y hy;omega
 have bx:=Bx.new w5 #[.bool false, .slice none 0 0, .slice none 0 0] 32;obtain⟨bq,hbq⟩:∃bq,w5.heap.size=bq:=⟨_,rfl⟩;rw[hbq]at bx;clear hp hsx hxb ht2 ht3 ht4 hX2 hX3 hX4 hE2 hE3 hE4 hE5;go_upto_region 8 with((with_reducible show wpList _ _ _ (⟨_, .store 32 _ _,_,_,_,_⟩::_) _ _);refine a0d a0s rfl rfl bx rfl rfl (a2n _ _ _ _ _ _ _) ?_;intro w6 r1 r2)
 have hE6:Ext w5 w6:=ExtX.box ((ExtX.refl w5).alloc _) r2 (by omega);simp only[Act.put];go_cut [8,9,10]from 36 to 41 (fun _ _ v10 wx=>v10= .bool ok/\Ext w6 wx)
 case first=>
  go_wp2_with fail
  refine(hsh.out w6 (MV.mono _ _ _ _ (a0h hE6) hp5)).mono ?_;rintro e w7 ⟨hE7,aa,bb,rfl,hab⟩;clear hab;go_wp2_with fail
  all_goals go_meet
  all_goals case rel=>exact⟨rfl,hE7⟩
 case rest=>
 obtain⟨rfl,hE7⟩:=hcut;obtain⟨w7,hw7⟩:∃w7,w7=wc:=⟨_,rfl⟩;subst hw7;have hE57:=hE6.trans hE7;have b7:=r1.ext0 hE7;have hu7:=mkx QV.mono hu hE57;have hp7:=MV.mono _ _ _ _ (a0h hE57) hp5;have hs7:=hs5.mono a0G.mono (a0h hE57);have ht7:=ht5.ext hE57;have hF7:=hF5.then_ hE57 (fun _ _ _=>rfl);have hX7:=hX5.ext hE57;have htq:tb≠bq:=by have:=ht5.lt;omega
 clear bx r1 r2 hE6 hE7 hu ht5 hsh
 go_step
 go_cut []from 42 to 63 (fun wx=>∃(q:Rat) (s:Bool) (a:Option Addr) (n2 c:Nat) (d:Option Addr) (m f:Nat),Bx wx bq #[.bool s, .slice a n2 c, .slice d m f] 32/\QV (mk X wx) (.agg #[.bool s, .slice a n2 c, .slice d m f]) q/\hq q<=30000000000/\MV (mk X wx) (.slice po n pc) p/\Sl a0G 2 (mk X wx) xo x/\ExtX (tbm tb) w1 wx)
 case first=>
  have hq7:hq q<=30000000000:=by omega
  cases ok
  ·go_wp2_with fail
   all_goals go_meet
   all_goals case rel=>exact⟨q,s,a,nn,c,d,m,f,b7,hu7,hq7,hp7,hs7,hF7⟩
  ·by_cases h1:1<=h
   ·by_cases h2:h<=(n:Int)
    ·obtain⟨k,rfl⟩:=Int.eq_ofNat_of_zero_le (show 0<=h by omega)
     have hkn:k<=n:=by omega
     go_wp2_with fail
     refine(a4D X tb 4 w7 ht7 (by decide) (by decide)).mono ?_;rintro e w8 ⟨hE8,_,b,rfl⟩;have hF8:=hF7.trans hE8;have hE58:ExtX (tbm tb) w5 w8:=(ExtX.of hE57).trans hE8;have hX8:=hX7.ext hE8;have b8:=b7.ext hE8 (a2T (by omega));cases b
     ·have hXu:HX (un X (some ⟨bq,0,none⟩)) w8:=fun k hk=>by
       by_cases hx:X k=true
       ·exact hX8 k hx
       ·have:bq=k:=by simpa[un,hx,ob]using hk
        have:=b8.lt;omega
      have hpu:=MV.mono _ _ _ _ (b4h (oo:=some ⟨bq,0,none⟩) hE58 hsub (fun j hj=>a0c (by omega))) hp5;go_wp2_with fail
      refine(hlea.out _ w8 k hXu hpu hkn).mono ?_;rintro e w9 ⟨hE9,s9,a9,n9,c9,d9,m9,f9,ul,q9,rfl,hQ9,hq9⟩;have b9:=b8.ext0 hE9;have hE59:=hE58.then_ hE9 (fun _ _ _=>rfl);go_wp2_with ((with_reducible show wpList _ _ _ (⟨_, .store 32 _ _,_,_,_,_⟩::_) _ _);refine a0d a0s rfl rfl b9 rfl rfl (a2n _ _ _ _ _ _ _) ?_;intro w10 r1 r2)
      have hE510:=hE59.then_ r2 (fun i hi _=>a0c (by omega));have hQ10:=(QC.mono _ _ _ _ (a0N r2 (fun k _ hk=>a0q hk) (fun k _ hk=>a0p hk)) hQ9:QC (mk X w10) (.agg #[.bool s9, .slice a9 n9 c9, .slice d9 m9 f9]) q9).qv (Nat.le_trans hq9 (by decide))
      all_goals go_meet
      all_goals case rel=>exact⟨q9,s9,a9,n9,c9,d9,m9,f9,r1,hQ10,hq9,MV.mono _ _ _ _ (a0w hE510 hsub) hp5,hs5.mono a0G.mono (a0w hE510 hsub),hF5.trans hE510⟩
     ·go_wp2_with fail
      all_goals go_meet
      all_goals case rel=>exact⟨q,s,a,nn,c,d,m,f,b8,QV.mono _ _ _ _ (a0w hE8 hsub) hu7,hq7,MV.mono _ _ _ _ (a0w hE8 hsub) hp7,hs7.mono a0G.mono (a0w hE8 hsub),hF8⟩
    ·go_wp2_with fail
     all_goals go_meet
     all_goals case rel=>exact⟨q,s,a,nn,c,d,m,f,b7,hu7,hq7,hp7,hs7,hF7⟩
   ·go_wp2_with fail
    all_goals go_meet
    all_goals case rel=>exact⟨q,s,a,nn,c,d,m,f,b7,hu7,hq7,hp7,hs7,hF7⟩
 case rest=>
  clear b7 hu7 hp7 hs7 ht7 hF7 hX7;obtain⟨q,s,a,n2,c,d,m,f,b8,hu8,hq8,hp8,hs8,hF8⟩:=hcut;have hEd:Ext wc wc.drew:=(ExtX.refl wc).drew;have hXd:HX X wc.drew:=(hX1'.ext hF8).ext hEd;have hud:=mkx QV.mono hu8 hEd;have hpd:=mkx MV.mono hp8 hEd;have hsd:=hs8.mono a0G.mono (a0h hEd);have hA:=hmc.out wc.drew h _ q xo x cx hXd hpd hud hsd (by omega) hxb';have hB:=hid (fun w' (hE:Ext wc.drew w')=>hrm.out w' h _ q xo x cx (hXd.ext hE) (mkx MV.mono hpd hE) (mkx QV.mono hud hE) hq8 (hsd.mono a0G.mono (a0h hE)) hcx (by omega) hxb');obtain⟨v,hv⟩:∃v,a7f p h q x=v:=⟨_,rfl⟩;rw[hv]at hA hB;have hS:Hid (∀w',Ext wc.drew w'->w'.cell? ⟨bq,0,none⟩=some (.bool s)/\w'.cell? ⟨bq,0+1,none⟩=some (.slice a n2 c)/\w'.cell? ⟨bq,0+2,none⟩=some (.slice d m f)):=hid fun w' h=>by
   have:=b8.ext0 (hEd.trans h);exact⟨this.cell 0 rfl,this.cell 1 rfl,this.cell 2 rfl⟩
  clear hv hu8 hp8 hs8 hud hpd hsd hmc hrm hlea b8 hp5 hs5 hxb';go_wp2_with fail
  refine a0P 14 (fun w'=>w'.cell? ⟨bq,0,none⟩=some (.bool s)/\w'.cell? ⟨bq,0+1,none⟩=some (.slice a n2 c)/\w'.cell? ⟨bq,0+2,none⟩=some (.slice d m f)) (by kernel_rfl) (by kernel_rfl) (hS.out _ (ExtX.refl _)) (fun hHeld hOnce=>?_);refine a0a hOnce (i:=0) (oi:=⟨_,_,_,_,_,_⟩) (v:=?_) rfl (by kernel_rfl) (fun _ _ _ h=>h) (by assumption) (by rfl) (fun w hSw=>?_) ?_
  rotate_left
  ·(try dsimp only at hSw)
   go_simp
   all_goals with_reducible rfl
  (try simp only[Act.put,List.setIfInBounds_toArray,List.set_cons_zero,List.set_cons_succ])
  refine a0a hOnce (i:=1) (oi:=⟨_,_,_,_,_,_⟩) (v:=?_) rfl (by kernel_rfl) (fun _ _ _ h=>h) (by assumption) (by rfl) (fun w hSw=>?_) ?_
  rotate_left
  ·(try dsimp only at hSw)
   go_simp
   all_goals with_reducible rfl
  (try simp only[Act.put,List.setIfInBounds_toArray,List.set_cons_zero,List.set_cons_succ])
  refine a0a hOnce (i:=2) (oi:=⟨_,_,_,_,_,_⟩) (v:=?_) rfl (by kernel_rfl) (fun _ _ _ h=>h) (by assumption) (by rfl) (fun w hSw=>?_) ?_
  rotate_left
  ·(try dsimp only at hSw)
   go_simp
   all_goals with_reducible rfl
  (try simp only[Act.put,List.setIfInBounds_toArray,List.set_cons_zero,List.set_cons_succ])
  refine a0a hOnce (i:=3) (oi:=⟨_,_,_,_,_,_⟩) (v:=?_) rfl (by kernel_rfl) (fun _ _ _ h=>h) (by assumption) (by rfl) (fun w hSw=>?_) ?_
  rotate_left
  ·(try dsimp only at hSw)
   go_simp
   all_goals with_reducible rfl
  (try simp only[Act.put,List.setIfInBounds_toArray,List.set_cons_zero,List.set_cons_succ])
  refine a0a hOnce (i:=5) (oi:=⟨_,_,_,_,_,_⟩) (v:=?_) rfl (by kernel_rfl) (fun _ _ _ h=>h) (by assumption) (by rfl) (fun w hSw=>?_) ?_
  rotate_left
  ·(try dsimp only at hSw)
   go_simp
   all_goals with_reducible rfl
  (try simp only[Act.put,List.setIfInBounds_toArray,List.set_cons_zero,List.set_cons_succ])
  refine a0a hOnce (i:=6) (oi:=⟨_,_,_,_,_,_⟩) (v:=?_) rfl (by kernel_rfl) (fun _ _ _ h=>h) (by assumption) (by rfl) (fun w hSw=>?_) ?_
  rotate_left
  ·(try dsimp only at hSw)
   go_simp
   all_goals with_reducible rfl
  (try simp only[Act.put,List.setIfInBounds_toArray,List.set_cons_zero,List.set_cons_succ])
  refine a0a hOnce (i:=7) (oi:=⟨_,_,_,_,_,_⟩) (v:=?_) rfl (by kernel_rfl) (fun _ _ _ h=>h) (by assumption) (by rfl) (fun w hSw=>?_) ?_
  rotate_left
  ·(try dsimp only at hSw)
   go_simp
   all_goals with_reducible rfl
  (try simp only[Act.put,List.setIfInBounds_toArray,List.set_cons_zero,List.set_cons_succ])
  refine a0a hOnce (i:=8) (oi:=⟨_,_,_,_,_,_⟩) (v:=?_) rfl (by kernel_rfl) (fun _ _ _ h=>h) (by assumption) (by rfl) (fun w hSw=>?_) ?_
  rotate_left
  ·(try dsimp only at hSw)
   go_simp
   all_goals with_reducible rfl
  (try simp only[Act.put,List.setIfInBounds_toArray,List.set_cons_zero,List.set_cons_succ])
  refine a0v (i:=4) (o:=⟨_,_,_,_,_,_⟩) (by kernel_rfl) rfl (fun K hK=>?_);go_simp
  ((with_reducible refine hA.mono ?_);rintro ee wa ⟨ga,rfl⟩)
  refine hK.out _ _ (hS.out _ ga) (fun hHeld=>?_);clear hK K
  (try simp only[Act.put,List.setIfInBounds_toArray,List.set_cons_zero,List.set_cons_succ])
  refine a0v (i:=9) (o:=⟨_,_,_,_,_,_⟩) (by kernel_rfl) rfl (fun K hK=>?_);go_simp
  ((with_reducible refine(hB.out wa ga).mono ?_);rintro ee wb ⟨gb,rfl⟩)
  refine hK.out _ _ (hS.out _ (ga.trans gb)) (fun hHeld=>?_);clear hK K
  (try simp only[Act.put,List.setIfInBounds_toArray,List.set_cons_zero,List.set_cons_succ])
  refine a0a hOnce (i:=10) (oi:=⟨_,_,_,_,_,_⟩) (v:=?_) rfl (by kernel_rfl) (fun _ _ _ h=>h) (by assumption) (by rfl) (fun w hSw=>?_) ?_
  rotate_left
  ·(try dsimp only at hSw)
   go_simp
   all_goals with_reducible rfl
  (try simp only[Act.put,List.setIfInBounds_toArray,List.set_cons_zero,List.set_cons_succ])
  refine a0a hOnce (i:=11) (oi:=⟨_,_,_,_,_,_⟩) (v:=?_) rfl (by kernel_rfl) (fun _ _ _ h=>h) (by assumption) (by rfl) (fun w hSw=>?_) ?_
  rotate_left
  ·(try dsimp only at hSw)
   go_simp
   all_goals with_reducible rfl
  (try simp only[Act.put,List.setIfInBounds_toArray,List.set_cons_zero,List.set_cons_succ])
  refine a0v (i:=12) (o:=⟨_,_,_,_,_,_⟩) (by kernel_rfl) rfl (fun K hK=>?_);go_simp
  ((with_reducible refine(a7U wb).mono ?_);rintro ee wd ⟨gd,rfl⟩)
  refine hK.out _ _ (hS.out _ (ga.trans (gb.trans gd))) (fun hHeld=>?_);clear hK K
  (try simp only[Act.put,List.setIfInBounds_toArray,List.set_cons_zero,List.set_cons_succ])
  refine a0a hOnce (i:=13) (oi:=⟨_,_,_,_,_,_⟩) (v:=?_) rfl (by kernel_rfl) (fun _ _ _ h=>h) (by assumption) (by rfl) (fun w hSw=>?_) ?_
  rotate_left
  ·(try dsimp only at hSw)
   go_simp
   all_goals with_reducible rfl
  (try simp only[Act.put,List.setIfInBounds_toArray,List.set_cons_zero,List.set_cons_succ])
  refine a0O (i:=14) (o:=⟨_,_,_,_,_,_⟩) (by kernel_rfl) rfl (by decide) (by kernel_rfl) (fun K hK=>?_);go_simp
  refine hK.out _ _ ?_;clear hK K;have hE9:=hfin.out _ (hF8.then_ (hEd.trans (ga.trans (gb.trans gd))) (fun _ _ _=>rfl));clear hHeld hOnce hS;go_wp2_with fail
  go_ret
  exact⟨hE9,rfl⟩
open Go.ChangeShapes Go.WideShapes Go.ChangeAt Go.Deep
section
variable {H:Type} {enc:TypeId×Value->H} {w:World} {base:Nat} {spare:Nat->Bool} {held:Bool}
theorem a1q {x:Addr} {v:Value} (h:w.cell? (x.add 0)=some v):(∀j,x.add j=adr (some x) j)/\∃b off,x=⟨b,off,none⟩:=by
 have hs:=World.cell?_spot h;obtain⟨b,off,spot⟩:=x;have hspot:spot=none:=by simpa[Addr.add]using hs
 subst hspot;exact⟨fun j=>by rw[Addr.add_lit];simp[adr],b,off,rfl⟩
end
end Go.Proofs.YtoibhmjjhgaimaaGreat
namespace Go.Proofs.YtoibhmjjhgaimaaGreat
open Go.ChangeShapes Go.WideShapes Go.ChangeAt Go.RowKit Go.Rep Go.Deep
theorem b5H {n:Int} (h:(Lit.int .i64 n).wf=true): -9223372036854775808<=n/\n<=9223372036854775807:=by
 unfold Lit.wf at h;simpa[IntKind.min,IntKind.max,IntKind.signed,IntKind.bits]using h
section
variable {H:Type} {enc:TypeId×Value->H} {P:Program} {w:World} {base:Nat} {spare:Nat->Bool} {held:Bool}
theorem b5I {fuel:Nat} {v:Value} {x:DataW H×List MemPlace} (h:DataW.trod enc Tryz.prog w base spare held fuel 22 [v]=some x):
  ∃(a:Option Addr) (l:List Int) (cap:Nat),v= .slice a l.length cap/\l.length<=cap/\l.length<=9223372036854775807/\Sl (a0i .i64) 1 (mk noY w) a l/\∀x∈l,-9223372036854775808<=x/\x<=9223372036854775807:=by
 rw[a6k];rcases open_ints Tryz.underlying22 Tryz.underlying3 (by kernel_rfl) h with⟨hcs,_⟩|⟨x,len,c,zs,hcs,_,hl,hm,hz,_,hcell,hwf⟩
 ·refine⟨none,[],0,by simpa using hcs,by simp,by simp,Sl.nil _ _ _ _,by simp⟩
 ·have hzl:len<=zs.length:=by
   rw[hz];split<;>omega
  have hlen:(zs.take len).length=len:=by simp;omega
  have hmax:c<=9223372036854775807:=by simpa[maxLen]using hm
  refine⟨some x,zs.take len,c,by rw[hlen];simpa using hcs,by omega,by omega,⟨fun h0=>?_,fun i hi=>?_⟩,fun y hy=>b5H (hwf y (List.mem_of_mem_take hy))⟩
  ·obtain⟨_,b,off,hx⟩:=a1q (hcell 0 (by omega))
   exact⟨b,off,by rw[hx]⟩
  ·have hi':i<zs.length:=by omega
   refine⟨.int .i64 (zs.take len)[i],rfl,fun j hj=>?_,rfl⟩;have hj0:j=0:=by simp[Value.cells]at hj;exact hj
   subst hj0;have h1:=hcell i hi';have h2:=(a1q (hcell 0 (by omega))).1 i;rw[h2]at h1;simp only[Nat.mul_one,Nat.add_zero,List.getElem_take];rw[h1];simp[List.getD_eq_getElem?_getD,hi',Value.cells]
end
end Go.Proofs.YtoibhmjjhgaimaaGreat
namespace Go.Proofs.YtoibhmjjhgaimaaGreat.seat
open Go.RowKit
theorem and_t {a b:Bool} (h1:a=true) (h2:b=true):(a&&b)=true:=by rw[h1,h2];rfl
theorem laid:laidOutB Tryz.pinned.checked.prog=true:=by kernel_rfl
theorem maps:mapsRowed Tryz.pinned.checked.prog=true:=by kernel_rfl
theorem stops:(Program.stops Tryz.pinned.checked.prog==[])=true:=by kernel_rfl
theorem knobs:(Program.stopKnobs Tryz.pinned.checked.prog==[])=true:=by kernel_rfl
theorem heard:Program.stopsHeard Tryz.pinned.checked.prog=true:=by kernel_rfl
theorem enter:Program.mayEnter Tryz.pinned.checked.prog=true:=by kernel_rfl
theorem lifts:(Rows.certifyMcdsRow.lifted==Program.liftsFinal Tryz.pinned.checked.prog)=true:=by kernel_rfl
theorem make:(Program.make Tryz.pinned.checked.prog==some Rows.certifyMcdsRow.make)=true:=by kernel_rfl
theorem plain:(Rows.certifyMcdsRow.plainKeys==Program.plainKeys Tryz.pinned.checked.prog)=true:=by kernel_rfl
end Go.Proofs.YtoibhmjjhgaimaaGreat.seat
