/- Parts of a proof: each theorem states what it proves, and its conditions. -/
import Derived.Test.YtnnpfhoigmegcaaGreatBcG
import Derived.OrdersHeld
import Derived.StillTail
import Derived.Deep.RegionHeld
import Derived.WalkKit
import Derived.Sort.WalkA
import Derived.Shelf.Abstract
import Derived.Lib.ReflectliteSwap
import Derived.Lib.ReflectliteSlice
import Derived.WalkMore
set_option maxRecDepth 100000
set_option maxHeartbeats 2000000
namespace Go.Lin
theorem a2s{m:Mat}{i:Nat}(h:i<m.length):m.getD i []=m[i]:=by simp[List.getD_eq_getElem?_getD,h]
theorem a9o(m:Mat)(t a:Nat):clear m t a 0=m:=by
 unfold clear rows;refine List.ext_getElem (by simp) fun q b c=>?_;rw[List.getElem_mapIdx,if_neg (by omega)]
theorem a2j{m:Mat}{t a s i:Nat}(h:i<(clear m t a s).length)(b:i<m.length):(clear m t a s)[i]=if t<i/\i<t+1+s then a2A m[i] (m.getD t []) a else m[i]:=by
 show(m.mapIdx _)[i]'(by simpa using b)=_
 rw[List.getElem_mapIdx]
theorem a1R(m:Mat)(t a s:Nat):(clear m t a s).length=m.length:=by simp[clear,rows]
theorem b0I{m:Mat}{t b s:Nat}(h:t+1+s<m.length):(clear m t b s).set (t+1+s) (a2A m[t+1+s] (m.getD t []) b)=clear m t b (s+1):=by
 refine List.ext_getElem (by simp[a1R]) fun q d c=>?_;have hq:q<m.length:=by rw[a1R]at c;exact c
 rw[List.getElem_set,a2j c hq];split
 ·subst_vars;rw[if_pos (by omega)]
 ·rw[a2j (by simpa[a1R]using hq) hq]
  by_cases a:t<q/\q<t+1+s
  ·rw[if_pos a,if_pos (by omega)]
  ·rw[if_neg a,if_neg (by omega)]
theorem a9p{m:Mat}{t b s d:Nat}(h:m.length<=t+1+s)(f:m.length<=t+1+d):clear m t b s=clear m t b d:=by
 refine List.ext_getElem (by simp[a1R]) fun q e c=>?_;have hq:q<m.length:=by rw[a1R]at c;exact c
 rw[a2j e hq,a2j c hq];by_cases a:t<q
 ·rw[if_pos (by omega),if_pos (by omega)]
 ·rw[if_neg (by omega),if_neg (by omega)]
theorem a9q(m:Mat)(t a:Nat):above m t a 0=m:=by
 unfold above rows;refine List.ext_getElem (by simp) fun q b c=>?_;rw[List.getElem_mapIdx,if_neg (by omega)]
theorem a3k{m:Mat}{t a s i:Nat}(h:i<(above m t a s).length)(b:i<m.length):(above m t a s)[i]=if i<t/\i<s then a2A m[i] (m.getD t []) a else m[i]:=by
 show(m.mapIdx _)[i]'(by simpa using b)=_
 rw[List.getElem_mapIdx]
theorem a3l(m:Mat)(t a s:Nat):(above m t a s).length=m.length:=by simp[above,rows]
theorem b0J{m:Mat}{t b s:Nat}(h:s<m.length)(d:s<t):(above m t b s).set s (a2A m[s] (m.getD t []) b)=above m t b (s+1):=by
 refine List.ext_getElem (by simp[a3l]) fun q e c=>?_;have hq:q<m.length:=by rw[a3l]at c;exact c
 rw[List.getElem_set,a3k c hq];split
 ·subst_vars;rw[if_pos (by omega)]
 ·rw[a3k (by simpa[a3l]using hq) hq]
  by_cases a:q<t/\q<s
  ·rw[if_pos a,if_pos (by omega)]
  ·rw[if_neg a,if_neg (by omega)]
end Go.Lin
namespace Go.Rep
open Go.RowKit Go.Lim Go.Lin
theorem b2y{hs:List Hdr}{i k:Nat}(hi:i<hs.length)(d:k<hs.length):obs ((hs.set i hs[k]).set k hs[i])=obs hs:=by
 funext b
 rw[Bool.eq_iff_iff];constructor
 ·intro h
  obtain⟨q,hq,c⟩:=a4a h;simp only[List.length_set]at hq;rw[List.getElem_set]at c;split at c
  ·exact a1h hi c
  ·rw[List.getElem_set]at c
   split at c
   ·exact a1h d c
   ·exact a1h hq c
 ·intro h
  obtain⟨q,hq,c⟩:=a4a h;by_cases a:q=i
  ·subst a
   refine a1h (i:=k) (by simpa using d) ?_;rw[List.getElem_set_self];exact c
  ·by_cases b':q=k
   ·subst b'
    refine a1h (i:=i) (by simpa using hi) ?_;rw[List.getElem_set_ne (by omega),List.getElem_set_self];exact c
   ·refine a1h (i:=q) (by simpa using hq) ?_
    rw[List.getElem_set_ne (by omega),List.getElem_set_ne (by omega)];exact c
section
variable {X:Nat->Bool} {base:Nat} {e1 e2:TypeId} {w w':World} {ao:Option Addr} {cap:Nat} {hs:List Hdr} {m:List (List Rat)}
theorem b0K{m:Mat}{i k q:Nat}(hi:i<m.length)(c:k<m.length)(hq:q<(a1a m i k).length):(a1a m i k)[q]=if q=k then m[i]else if q=i then m[k]else m[q]'(by simpa[a1a]using hq):=by
 simp only[a1a,a2s hi,a2s c];rw[List.getElem_set];by_cases a:k=q
 ·rw[if_pos a,if_pos a.symm]
 ·rw[if_neg a,if_neg (Ne.symm a),List.getElem_set]
  by_cases b:i=q
  ·rw[if_pos b,if_pos b.symm]
  ·rw[if_neg b,if_neg (Ne.symm b)]
theorem b2z{hs:List Hdr}{i k q:Nat}(hi:i<hs.length)(c:k<hs.length)(hq:q<((hs.set i hs[k]).set k hs[i]).length):((hs.set i hs[k]).set k hs[i])[q]=if q=k then hs[i]else if q=i then hs[k]else hs[q]'(by simpa using hq):=by
 rw[List.getElem_set];by_cases a:k=q
 ·rw[if_pos a,if_pos a.symm]
 ·rw[if_neg a,if_neg (Ne.symm a),List.getElem_set]
  by_cases b:i=q
  ·rw[if_pos b,if_pos b.symm]
  ·rw[if_neg b,if_neg (Ne.symm b)]
theorem MO.swap(h:MO X base e1 e2 w ao cap hs m){i k:Nat}(hi:i<hs.length)(e:k<hs.length)(g:ExtX (ob ao) w w')(j:OL HdR 1 X base e1 w' ao cap ((hs.set i hs[k]).set k hs[i])):MO X base e1 e2 w' ao cap ((hs.set i hs[k]).set k hs[i]) (a1a m i k):=by
 have o:=h.len;refine h.perm (fun q=>if q=k then i else if q=i then k else q) (fun q hq=>?_) (fun a b l n d=>?_) (fun q hq=>?_) (by simp) (by simp[a1a]) (fun q hq f=>?_) (fun q hq f=>?_) g j
 ·split
  ·exact hi
  ·split
   ·exact e
   ·exact hq
 ·split at d<;>split at d<;>(try split at d)<;>(try split at d)<;>omega
 ·by_cases a:q=i
  ·exact⟨k,e,by simp[a]⟩
  ·by_cases b:q=k
   ·refine⟨i,hi,?_⟩
    by_cases c:i=k
    ·omega
    ·simp[c,b]
   ·exact⟨q,hq,by simp[a,b]⟩
 ·rw[b2z hi e hq]
  by_cases a:q=k
  ·simp[a]
  ·by_cases b:q=i
   ·subst b;simp[a]
   ·simp[a,b]
 ·rw[b0K (by omega) (by omega) hq]
  by_cases a:q=k
  ·simp[a]
  ·by_cases b:q=i
   ·subst b;simp[a]
   ·simp[a,b]
end
section
variable {P:Program} {ops:Array Oper} {Q:Exit->Act->World->Prop} {rest:List Oper} {a:Act} {w:World}
variable {d:Option Tmp} {ty:TypeId} {ps:String} {af:Array Edge}
theorem b2A{t e h:Nat}{z:Value}{x lo:Operand}{o:IntKind}{m:Int}{ao:Option Addr}{cap:Nat}(T:SliceT P t e 1 h z)(n i:Nat)(hx:a.eval x= .slice ao n cap)(l:a.eval lo= .int o m)(f:m=(i:Int))(hd:Hd ao n)(hi:i<=n)(p:n<=cap)(K:∀c,(∀k,k<n - i->adr c k=adr ao (i+k))->Hd c (n - i)->wpList P ops Q rest (a.put d (.slice c (n - i) (cap - i))) w):wpList P ops Q (⟨d, .slice t x (some lo) none none,ty,ps,af,none⟩::rest) a w:=by
 refine wpList_plain rfl fun r j=>?_;subst f;have q:=a3C (P:=P) (ao:=ao) T n cap o i hi p w;have:=K (a0z ao i cap 1) (fun k s=>by
  obtain⟨b,g,rfl⟩:=hd (by omega);have f:¬cap=i:=by omega
  simp[a0z,f,Addr.add_lit,adr,Nat.add_assoc]) (fun u=>by
  obtain⟨b,g,rfl⟩:=hd (by omega);have f:¬cap=i:=by omega
  exact⟨b,g+i*1,by simp[a0z,f,Addr.add_lit]⟩)
 unfold Oper.wp;simp[execOp,hx,l,q,Result.andThen];exact j _ _ this
end
end Go.Rep
namespace Go.Lin
theorem b0L(m:Mat)(k:Nat):eN m (k+1)=a4p (eN m k) k:=rfl
theorem a7P{n c B t i a:Nat}{m:Mat}(_:Shp n c m)(h:HB B m)(_:t<n)(_:i<n)(r:5*B<=68719476736):Go.Rep.BR 68719476736 (m.getD i [])/\Go.Rep.BR 68719476736 (m.getD t [])/\Go.Lim.hq ((m.getD i []).getD a 0/(m.getD t []).getD a 0)<=68719476736/\∀x∈m.getD t [],Go.Lim.hq ((m.getD i []).getD a 0/(m.getD t []).getD a 0*x)<=68719476736:=by
 have b:∀k,Go.Rep.BR B (m.getD k []):=fun k q hq=>by
  obtain⟨j,g,rfl⟩:=List.getElem_of_mem hq;have e:(m.getD k []).getD j 0=(m.getD k [])[j]:=by rw[List.getD_eq_getElem?_getD,List.getElem?_eq_getElem g];rfl
  rw[<-e];exact h k j
 have d:=h i a;have f:=h t a;unfold ent at d f;have l:=Go.Lim.hq_div ((m.getD i []).getD a 0) ((m.getD t []).getD a 0);refine⟨fun q hq=>Nat.le_trans (b i q hq) (by omega),fun q hq=>Nat.le_trans (b t q hq) (by omega),by omega,fun x hx=>?_⟩;have o:=b t x hx;have p:=Go.Lim.hq_mul ((m.getD i []).getD a 0/(m.getD t []).getD a 0) x;omega
theorem HB.bm{B:Nat}{m:Mat}(h:HB B m):Go.Rep.BM B m:=fun r b q hq=>by
 obtain⟨i,hi,rfl⟩:=List.getElem_of_mem b;obtain⟨j,a,rfl⟩:=List.getElem_of_mem hq;have:=h i j;simpa[ent,List.getD_eq_getElem?_getD,hi,a]using this
end Go.Lin
namespace Go.Rep
theorem Sl.fromA{α:Type}{R:Mem->Value->α->Prop}{h:Mem}{ao a:Option Addr}{l:List α}(s:Sl R 1 h ao l)(i:Nat)(g:∀k,k<l.length - i->adr a k=adr ao (i+k))(hd:Hd a (l.length - i)):Sl R 1 h a (l.drop i):=by
 refine⟨by rw[List.length_drop];exact hd,fun k c=>?_⟩;rw[List.length_drop]at c;obtain⟨u,d,e,f⟩:=s.2 (i+k) (by omega);refine⟨u,d,fun j m=>?_,by simpa using f⟩;have b:j=0:=by omega
 subst b;have:=e 0 m;simp only[Nat.mul_one,Nat.add_zero]at this |-;rw[g k c];exact this
theorem b4M{ao:Option Addr}{n i:Nat}(hd:Hd ao n)(a:0<n)(k:Nat):adr (Option.map (fun x=>x.add i) ao) k=adr ao (i+k):=by
 obtain⟨b,c,rfl⟩:=hd a;simp[Addr.add_lit,adr,Nat.add_assoc]
theorem a0c.pure(k:IntKind):∀h a u x,a0c k h u x->a0c k a u x:=fun _ _ _ _ h=>h
theorem b6g{ao:Option Addr}{n i m:Nat}(hd:Hd ao n)(c:0<n):Hd (Option.map (fun x=>x.add i) ao) m:=fun _=>by
 obtain⟨b,a,rfl⟩:=hd c;exact⟨b,a+i,by simp[Addr.add_lit]⟩
end Go.Rep
namespace Go.Proofs.YtnnpfhoigmegcaaGreat
open Go.RowKit Go.Rep Go.Lim Go.Lin
def b7g(X:Nat->Bool)(base:Nat)(w:World)(ao:Option Addr)(cap:Nat)(hs:List Hdr)(s:St)(e:Ending)(w':World):Prop:=
 ExtX (mb ao hs) w w'/\∃po pc hs',e= .returned (.tuple #[.slice po s.2.1.length pc, .bool s.2.2])/\mb ao hs'=mb ao hs/\MO (un X po) base 26 41 w' ao cap hs' s.1/\OL (a0c .i64) 1 (mz X ao hs) w.heap.size 3 w' po pc s.2.1
theorem a5f(X:Nat->Bool)(base:Nat)(w:World)(ao:Option Addr)(cap n c:Nat)(hs:List Hdr)(m:List (List Rat))(hX:HX X w)(hM:MO X base 26 41 w ao cap hs m)(hsh:Shp n c m)(hc:a0u m=c)(hn:n<=900)(hcc:c<=900)(hT:b4J m c):Calls Tryz.prog 270 #[.slice ao n cap] w (b7g X base w ao cap hs (eN m c)):=by
 have hml:=hid hsh.1;have hmc:MC (mk X w) (.slice ao n cap) m:=by have:=hM.mc;rw[hml.out]at this;exact this
 have hcol:=a3H X w _ m hmc;rw[hc]at hcol;have hlen:=hid (hM.len.trans hml.out);have hcap:n<=cap:=by have:=hM.capLen;rw[hml.out]at this;exact this
 have hhO:Hd ao n:=by have:=hM.outer.hd;rw[hlen.out]at this;exact this
 have hn0:Hid (n=0->c=0):=hid fun h=>by
  have:m= []:=List.eq_nil_of_length_eq_zero (by rw[hml.out];exact h);rw[<-hc,this];rfl
 have hsh':=hid hsh;obtain⟨B,hB7,hBj⟩:=hT;have hB':=hid hBj;have hBB':=hid hB7;have hund:un X none=X:=by funext k;simp[un,ob]
 have hMu:MO (un X none) base 26 41 w ao cap hs m:=by rw[hund];exact hM
 have hXz:=hM.hz hX;clear hsh hBj hB7 hc hmc;go_enter Tryz.func270,Tryz.ntmps270
 go_wp2_with fail
 refine hcol.mono ?_;rintro e w1 ⟨rfl,rfl⟩;clear hcol;go_wp2_with fail
 go_loopw [2,3,11] (fun p o k wr=>∃(j:Nat) (po:Option Addr) (pc pl:Nat) (hs':List Hdr) (M:Mat) (P:List Nat) (od:Bool),k= .int .i64 j/\p= .slice po pl pc/\o= .bool od/\j<=c/\Hid (P.length=pl)/\Hid (eN m j=(M,P,od))/\Hid (j<c->pl<n)/\MO (un X po) base 26 41 wr ao cap hs' M/\OL (a0c .i64) 1 (mz X ao hs) w1.heap.size 3 wr po pc P/\Hid (mb ao hs'=mb ao hs)/\ExtX (mb ao hs) w1 wr) (fun _ _ k _=>c - (intOf k).toNat)
 case atStart=>exact⟨0,none,0,0,hs,m,[],false,rfl,rfl,rfl,Nat.zero_le _,hid rfl,hid rfl,hid (fun h=>by have:=hn0.out;omega),hMu,OL.nil _ _ _ _ _ _,hid rfl,ExtX.refl _⟩
 case round=>
  obtain⟨j,po,pc,pl,hs',M,P,od,rfl,rfl,rfl,hj,hpl,hst,hpn,hM,hP,hmb,hE⟩:=hrel;by_cases hlj:j<c
  ·have hpn2:=hpn.out hlj
   have hok:=a6V hsh'.out j;rw[hst.out]at hok;have hshM:Shp n c M:=hok.shp;have hMl:=hid hshM.1;have hhl:=hid (hM.len.trans hMl.out);have hXr:HX X wr:=hX.ext hE;have hXu:HX (un X po) wr:=fun k hk=>by
    by_cases hx:X k=true
    ·exact hXr k hx
    ·exact(hP.block (by simpa[un,hx]using hk)).2
   have hBM:HB B M:=by have:=hB'.out j (by omega);rw[hst.out]at this;exact this
   have hb5':5*B<=68719476736:=by have:=hBB'.out;omega
   have hBM2:=hid (hBM.bm);have hEb:Ext wr (wr.alloc (.cells #[.int .i64 (j:Int)] 3)):=(ExtX.refl wr).alloc _;have hbx:(wr.alloc (.cells #[.int .i64 (j:Int)] 3)).cell? ⟨wr.heap.size,0,none⟩=some (.int .i64 (j:Int)):=a3J 0 rfl;have hM1:=hM.ext0 hEb;have hP1:=hP.ext0 (a0c.elem _) hEb;have hX1:=hXu.ext hEb;have hSl:Sl RC 1 (mk (un X po) (wr.alloc (.cells #[.int .i64 (j:Int)] 3))) ao M:=by
    obtain⟨_,_,heq,_,h3⟩:=hM1.mc;simp only[Value.slice.injEq]at heq;obtain⟨rfl,_,rfl⟩:=heq;exact h3
   obtain⟨bw,hbw⟩:∃bw,wr.heap.size=bw:=⟨_,rfl⟩;obtain⟨w2,hw2⟩:∃w2,wr.alloc (.cells #[.int .i64 (j:Int)] 3)=w2:=⟨_,rfl⟩;rw[hw2]at hEb hbx hM1 hP1 hX1 hSl;rw[hbw]at hbx;have hpbw:Hid (ob po bw=false):=hid (by rw[<-hbw];exact hP.ob_ge (Nat.le_refl _));have hobw:Hid (ob ao bw=false):=hid (by rw[<-hbw];exact hM.outer.ob_ge (Nat.le_refl _));have hw2':=hid hw2;have hbw':=hid hbw;have hn1:0<n:=by omega
   have hmd:Hid (n - pl=(M.drop pl).length):=hid (by rw[List.length_drop,hMl.out]);have hSd:Sl RC 1 (mk (un X po) w2) (Option.map (fun x=>x.add pl) ao) (M.drop pl):=hSl.fromA pl (fun k _=>b4M hhO hn1 k) (b6g hhO hn1);have hrows:Hid (∀r∈M.drop pl,r.length=c):=hid fun r hr=>hshM.2 r (List.mem_of_mem_drop hr);have hbmd:Hid (BM 68719476736 (M.drop pl)):=hid fun r hr q hq=>Nat.le_trans (hBM2.out r (List.mem_of_mem_drop hr) q hq) (by omega);have hix:=a6A (un X po) w2 _ (M.drop pl) (n - pl) (cap - pl) c j bw hX1 hSd hmd.out.symm (by omega) hrows.out hlj hbmd.out hbx;obtain⟨F,hF⟩:∃F,(M.drop pl).findIdx? (fun r=>decide (r.getD j 0≠0))=F:=⟨_,rfl⟩;rw[hF]at hix;have hnz:Hid (b4v M P.length j=F):=hid (by rw[hpl.out];exact hF);clear hF hSd hSl;go_wp2_with fail
   refine hix.mono ?_;rintro e w3 ⟨hE3,rfl⟩;have hM3:=hM1.ext0 hE3;have hP3:=hP1.ext0 (a0c.elem _) hE3;have hb3:=hE3.cell hbx;have hE03:=hE.trans (ExtX.of (hEb.trans hE3));clear hM1 hP1 hix hbx hw2
   match F,hnz with
   |none,hnz=>
    have hst2:Hid (eN m (j+1)=(M,P,od)):=hid (by
     rw[b0L,hst.out];unfold a4p;dsimp only;split
     ·rfl
     ·rw[hnz.out])
    simp only[b7f];go_wp2_with fail
    go_roundw
    case rel=>exact⟨j+1,po,pc,pl,hs',M,P,od,by go_num,rfl,rfl,by omega,hpl,hst2,hid (fun _=>hpn2),hM3,hP3,hmb,hE03⟩
    case measure=>simp[intOf];omega
   |some q,hnz=>
    obtain⟨hq1,hq2⟩:=a3g hnz.out;rw[hpl.out,hMl.out]at hq1;have hq0:¬(q:Int)<0:=by omega
    simp only[b7f];clear hq2;have hr1:pl+q<hs'.length:=by rw[hhl.out];exact hq1
    have hr2:pl<hs'.length:=by rw[hhl.out];exact hpn2
    obtain⟨a1,n1,c1,hh1⟩:∃a n c,hs'[pl]=(a,n,c):=⟨_,_,_,rfl⟩;obtain⟨a2,n2,c2,hh2⟩:∃a n c,hs'[pl+q]=(a,n,c):=⟨_,_,_,rfl⟩;have hO0:=hM3.outer;obtain⟨z1,zf1⟩:=hM3.hdr pl hr2;obtain⟨z2,zf2⟩:=hM3.hdr (pl+q) hr1;rw[hh1]at z1;rw[hh2]at z2
    dsimp only at z1 z2
    have k1:w3.cell? (adr ao pl)=some (.slice a1 n1 c1):=z1;have k2:w3.cell? (adr ao (pl+q))=some (.slice a2 n2 c2):=z2;have f1:w3.frozen? (adr ao pl)=false:=zf1;have f2:w3.frozen? (adr ao (pl+q))=false:=zf2;obtain⟨hO1,hE4⟩:=hO0.set1 a8w HdR.elem HdR.one pl hr2 (.slice a2 n2 c2) (a2,n2,c2) rfl;obtain⟨u3,k3,f3,hu3⟩:=hO1.cell HdR.one (pl+q) (by simpa using hr1);have hu3':u3= .slice a2 n2 c2:=by
     have e:(hs'.set pl (a2,n2,c2))[pl+q]'(by simpa using hr1)=(a2,n2,c2):=by
      rw[List.getElem_set];split
      ·rfl
      ·exact hh2
     rw[e]at hu3;exact hu3
    rw[hu3']at k3;obtain⟨hO2,hE5⟩:=hO1.set1 a8w HdR.elem HdR.one (pl+q) (by simpa using hr1) (.slice a1 n1 c1) (a1,n1,c1) rfl;have hE6:=(hE4.trans hE5).drew;have hO2:=hO2.ext0 HdR.elem (ExtX.refl (Y:=noY) _).drew;rw[<-hh1,<-hh2]at hO2;have i1:∀W,(Instr.indexAt 25 (.slice ao n cap) (.int .i64 (pl:Int))).run Tryz.prog W= .ok (.pointer (some (adr ao pl))) W:=a1f a0L ao n cap .i64 pl hhO (by omega) rfl;have i2:∀W,(Instr.indexAt 25 (.slice ao n cap) (.int .i64 ((pl:Int)+(q:Int)))).run Tryz.prog W= .ok (.pointer (some (adr ao (pl+q)))) W:=a1f a0L ao n cap .i64 (pl+q) hhO (by omega) (by omega);have ew:IntKind.i64.wrap ((pl:Int)+(q:Int))=(pl:Int)+(q:Int):=IntWalk.i64_in _ (by omega);have hM5:=hM3.swap hr2 hr1 hE6 hO2;have hX5:=hX1.ext hE3;have hP5:OL (a0c .i64) 1 (mz X ao hs) w1.heap.size 3 _ po pc P:=hP3.frame (a0c.pure _) hE6 (fun k hk=>by
     cases hb:ob ao k
     ·rfl
     ·have:=(hM3.out_sep hb).1;rw[a0A hk]at this;simp at this) hP3.1
    have hb5:=hE6.cellY hb3 hobw.out;clear hu3 hu3' hO0 hO1 hO2 z1 z2 zf1 zf2 hh1 hh2 hE4 hE5;go_wp2_with fail
    go_region
    obtain⟨w5,hw5⟩:∃w5,((w3.setCell (adr ao pl) (.slice a2 n2 c2)).setCell (adr ao (pl+q)) (.slice a1 n1 c1)).drew=w5:=⟨_,rfl⟩;rw[hw5]at hM5 hP5 hb5 hE6 |-;have hE05:=hE03.trans (ExtX.weaken hE6 fun k _ hk=>(b4K hk).1);have hX5:=hX5.ext hE6;have hXz5:=hXz.ext hE05;have hbase5:=hE05.size;clear k1 k2 k3 f1 f2 f3 i1 i2 hw5 hb3;have hpl5:pl+1<=n:=hpn2;go_wp2_with (first|((with_reducible show wpList _ _ _ (⟨_, .slice _ _ _ _ _,_,_,_,_⟩::_) _ _);refine b2A a0L n (pl+1) rfl rfl (by omega) hhO hpl5 hcap ?_;intro ao3 ha3 hd3;replace ha3:=hid ha3)|(at_builtin;refine a1I (l:=P) a5w rfl (a0c.elem .i64) hbase5 hXz5 pl hpl.out rfl rfl hP5 (.int .i64 (j:Int)) j rfl rfl (by omega) (by omega) ?_;intro po2 pc2 w6 hP6 hE7 hor;have b6:=hE7.cellY hb5 hpbw.out))
    have hM6:MO (un X po2) base 26 41 w6 ao cap _ _:=hM5.ext (X':=un X po2) hE7 (fun k _ hk=>a0A hk) (fun k hk hz=>by
     by_cases hx:X k=true
     ·exact a0v hx
     ·have h2:ob po2 k=true:=by simpa[un,hx]using hz
      rcases hor with rfl|⟨g,rfl,hg⟩
      ·exact a0A h2
      ·have:g=k:=by simpa[ob]using h2
       omega)
    have hE06:ExtX (mb ao hs) w1 w6:=hE05.then_ hE7 fun k hk _=>hP5.ob_lt hk;have hmb2:Hid (mb ao ((hs'.set pl hs'[pl+q]).set (pl+q) hs'[pl])=mb ao hs):=hid (by rw[<-hmb.out];exact(b0F (X:=X) fun k=>by rw[b2y hr2 hr1]).1);have hh2l:Hid (((hs'.set pl hs'[pl+q]).set (pl+q) hs'[pl]).length=n):=hid (by simp[hhl.out]);have hsh2:Shp n c (a1a M pl (pl+q)):=hshM.swap hpn2 hq1;have hBM2':HB B (a1a M pl (pl+q)):=hBM.swap hshM hpn2 hq1;have hst2:Hid (eN m (j+1)=(clear (a1a M pl (pl+q)) pl j n,P++[j],od !=decide (q≠0))):=hid (by
     rw[b0L,hst.out];unfold a4p;dsimp only;rw[if_neg (by rw[hpl.out,hMl.out];omega),hnz.out]
     dsimp only
     rw[hpl.out,hMl.out])
    have hbnd:Hid (∀i,i<n->BR 68719476736 ((a1a M pl (pl+q)).getD i [])/\BR 68719476736 ((a1a M pl (pl+q)).getD pl [])/\hq (((a1a M pl (pl+q)).getD i []).getD j 0/((a1a M pl (pl+q)).getD pl []).getD j 0)<=68719476736/\∀x∈(a1a M pl (pl+q)).getD pl [],hq (((a1a M pl (pl+q)).getD i []).getD j 0/((a1a M pl (pl+q)).getD pl []).getD j 0*x)<=68719476736):=hid fun i hi=>a7P hsh2 hBM2' hpn2 hi hb5';have hmbw:Hid (mb ao hs bw=false):=hid (by
     rw[<-hmb.out];cases hb:mb ao hs' bw
     ·rfl
     ·have:=(hM.mb_block hb).2;omega)
    obtain⟨hs2,hhs2⟩:∃hs2,(hs'.set pl hs'[pl+q]).set (pl+q) hs'[pl]=hs2:=⟨_,rfl⟩;obtain⟨M2,hM2⟩:∃M2,a1a M pl (pl+q)=M2:=⟨_,rfl⟩;rw[hhs2]at hM6 hmb2 hh2l;rw[hM2]at hM6 hsh2 hBM2' hst2 hbnd;clear hhs2 hM2;have hM2l:=hid hsh2.1;have hX6:HX X w6:=hX.ext hE06;have hM6':MO (un X po2) base 26 41 w6 ao cap hs2 (clear M2 pl j 0):=by rw[a9o];exact hM6
    go_loopw [54] (fun k wx=>∃(s:Nat),k= .int .i64 s/\s<=n - (pl+1)/\MO (un X po2) base 26 41 wx ao cap hs2 (clear M2 pl j s)/\OL (a0c .i64) 1 (mz X ao hs) w1.heap.size 3 wx po2 pc2 (P++[j])/\ExtX (mb ao hs) w1 wx/\wx.cell? ⟨bw,0,none⟩=some (.int .i64 (j:Int))) (fun k _=>n - (pl+1) - (intOf k).toNat)
    case atStart=>exact⟨0,rfl,Nat.zero_le _,hM6',hP6,hE06,b6⟩
    case round=>
     obtain⟨s,rfl,hs9,hM8,hP8,hE8,b8⟩:=hrel;by_cases hls:s<n - (pl+1)
     ·obtain⟨t,ht⟩:∃t,pl+1+s=t:=⟨_,rfl⟩
      have htn:t<n:=by omega
      have hth:t<hs2.length:=by rw[hh2l.out];exact htn
      have hph:pl<hs2.length:=by rw[hh2l.out];exact hpn2
      have htm:t<M2.length:=by rw[hM2l.out];exact htn
      have hpm:pl<M2.length:=by rw[hM2l.out];exact hpn2
      have htc:t<(clear M2 pl j s).length:=by rw[a1R];exact htm
      have hpc:pl<(clear M2 pl j s).length:=by rw[a1R];exact hpm
      obtain⟨a1,n1,c1,hh1⟩:∃a n c,hs2[t]=(a,n,c):=⟨_,_,_,rfl⟩;obtain⟨a2,n2,c2,hh2⟩:∃a n c,hs2[pl]=(a,n,c):=⟨_,_,_,rfl⟩;have hg1:(clear M2 pl j s)[t]=M2[t]:=by rw[a2j htc htm,if_neg (by omega)]
      have hg2:(clear M2 pl j s)[pl]=M2[pl]:=by rw[a2j hpc hpm,if_neg (by omega)]
      have hn1':n1=c:=by
       have:=hM8.rlen t hth htc;rw[hh1,hg1,hsh2.2 _ (List.getElem_mem _)]at this;exact this
      have hn2':n2=c:=by
       have:=hM8.rlen pl hph hpc;rw[hh2,hg2,hsh2.2 _ (List.getElem_mem _)]at this;exact this
      subst hn1';subst hn2';have hR1:=hM8.row t hth htc;have hR2:=hM8.row pl hph hpc;rw[hg1]at hR1;rw[hg2]at hR2;simp only[hh1]at hR1;simp only[hh2]at hR2;have hz1:=fun k (hk:ob a1 k=true)=>hM8.mz_sub hth k (by rw[hh1];exact hk);have hz2:=fun k (hk:ob a2 k=true)=>hM8.mz_sub hph k (by rw[hh2];exact hk);have hds:∀k,ob a1 k=true->ob a2 k=false:=fun k hk=>by
       have:=hM8.dis t pl hth hph (by omega) k (by rw[hh1];exact hk);rw[hh2]at this;exact this
      have hsp:=fun k (hk:ob a1 k=true)=>hM8.sep t hth k (by rw[hh1];exact hk);have hBn:=hbnd.out t htn;rw[a2s htm]at hBn;have hcs:Hid ((clear M2 pl j s).set t (a2A M2[t] (M2.getD pl []) j)=clear M2 pl j (s+1)):=hid (by subst ht;exact b0I htm);have hpe:M2.getD pl []=M2[pl]:=a2s hpm;rw[<-hpe]at hR2;have hrl1:=hid (hsh2.2 M2[t] (List.getElem_mem _));have hrl2:=hid (show(M2.getD pl []).length=n2 by rw[hpe];exact hsh2.2 _ (List.getElem_mem _));obtain⟨row,hrow⟩:∃row,M2[t]=row:=⟨_,rfl⟩;obtain⟨piv,hpiv⟩:∃piv,M2.getD pl []=piv:=⟨_,rfl⟩;rw[hrow,hpiv]at hcs;rw[hrow]at hR1 hrl1;rw[hpiv]at hR2 hrl2;rw[hrow,hpiv]at hBn;have hX8:HX (un X po2) wr:=fun k hk=>by
       by_cases hx:X k=true
       ·exact hX.ext hE8 k hx
       ·exact(hP8.block (by simpa[un,hx]using hk)).2
      have hZ8:=hM8.hz hX8;have hEd:Ext wr wr.drew:=(ExtX.refl wr).drew;have hel:=a4d (mz (un X po2) ao hs2) base wr.drew a1 a2 c1 c2 n2 j row piv hZ8 (hR1.ext0 QC.elem hEd) (hR2.ext0 QC.elem hEd) hz1 hz2 hds hrl1.out hrl2.out (by omega) hlj hBn.1 hBn.2.1 hBn.2.2.1 hBn.2.2.2;have y1:wr.cell? (adr ao3 s)=some (.slice a1 n2 c1):=by
       have:=(hM8.hdr t hth).1;rw[hh1,<-ht]at this;rw[ha3.out s hls];exact this
      have y2:wr.drew.cell? (adr ao pl)=some (.slice a2 n2 c2):=by
       have:=(hM8.hdr pl hph).1;rw[hh2]at this;exact this
      have y3:wr.drew.cell? ⟨bw,0,none⟩=some (.int .i64 (j:Int)):=b8;have haob:Hid (ob a1 (adr ao pl).block=false):=hid (by
       cases hb:ob a1 (adr ao pl).block
       ·rfl
       ·have h1:=(hsp _ hb).2
        obtain⟨b0,o0,rfl⟩:=hhO (by omega);simp[ob,adr]at h1)
      have habw:Hid (ob a1 bw=false):=hid (by
       cases hb:ob a1 bw
       ·rfl
       ·have h5:mb ao hs2 bw=true:=a2B.2 (.inr (a1h hth (show ob hs2[t].1 bw=true by rw[hh1];exact hb)))
        rw[hmb2.out,hmbw.out]at h5;simp at h5)
      have i1:∀W,(Instr.indexAt 25 (.slice ao n cap) (.int .i64 (pl:Int))).run Tryz.prog W= .ok (.pointer (some (adr ao pl))) W:=a1f a0L ao n cap .i64 pl hhO (by omega) rfl;have hh1':=hid hh1
      replace ht:=hid ht
      clear hg1 hg2 hpe hrow hpiv hh1 hh2 hR1 hR2 hBn;go_wp2_with (with_reducible refine a0n a0L (by omega) (by assumption) ?_)
      go_region_held3 (fun w'=>w'.cell? (adr ao pl)=some (.slice a2 n2 c2)/\w'.cell? ⟨bw,0,none⟩=some (.int .i64 (j:Int)))
       (first|exact⟨t1.cellY y2 haob.out,t1.cellY y3 habw.out⟩|go_keep)
       ((go_at_call 321;(with_reducible refine hel.mono ?_);rintro ee w7 ⟨rfl,t1,hO7⟩))
      have b9:=t1.cellY y3 habw.out;have hEr:ExtX (ob hs2[t].1) wr.drew w7:=by rw[hh1'.out];exact t1
      have hM9:=(hM8.ext0 hEd).upd hth (l:=a2A row piv j) hEr (fun hi'=>by
       rw[a2j htc htm,if_neg (by have:=ht.out;omega),a3f _ _ _ (by rw[hrl1.out,hrl2.out]),hrl2.out];exact(hsh2.2 _ (List.getElem_mem _)).symm) (by rw[hh1'.out];exact hO7)
      rw[hcs.out]at hM9;have hP9:=(hP8.ext0 (a0c.elem _) hEd).frame (a0c.pure _) t1 (fun k hk=>by
       cases hb:ob a1 k
       ·rfl
       ·have:=(hsp k hb).1;rw[a0A hk]at this;simp at this) hP8.1
      have hE9:=(hE8.trans (ExtX.of hEd)).trans (by rw[<-hmb2.out];exact ExtX.row hth hEr);clear y1 y2 y3 i1;go_wp2_with fail
      go_roundw
      case rel=>exact⟨s+1,by go_num,by omega,hM9,hP9,hE9,b9⟩
      case measure=>simp[intOf];omega
     ·have hfin:Hid (clear M2 pl j s=clear M2 pl j n):=hid (a9p (by rw[hM2l.out];omega) (by rw[hM2l.out];omega))
      rw[hfin.out]at hM8;have hodd:Hid ((!(od==((q:Int) !=0)))=(od !=decide (q≠0))):=hid (by cases od<;>by_cases h:q=0<;>simp[h]);have hpl2:Hid ((P++[j]).length=pl+1):=hid (by simp[hpl.out]);by_cases hfull:pl+1=n
      ·have hne:(((pl+1:Nat):Int)==(n:Int))=true:=b5A (by omega)
       have hne2:(((pl:Int)+1)==(n:Int))=true:=b5A (by omega);have hstop:Hid (eN m c=(clear M2 pl j n,P++[j],od !=decide (q≠0))):=hid (by
        rw[b4w m (j+1) (by rw[hst2.out];dsimp only;rw[hpl2.out,a1R,hM2l.out];exact hfull) c (by omega)];exact hst2.out)
       clear hfull;go_wp2_with fail
       go_ret2
       rw[hstop.out];exact⟨hE8,po2,pc2,hs2,by rw[hpl2.out,<-hodd.out];rfl,hmb2.out,hM8,hP8⟩
      ·have hne:(((pl+1:Nat):Int)==(n:Int))=false:=a2S (by omega)
       have hne2:(((pl:Int)+1)==(n:Int))=false:=a2S (by omega);have hpn3:Hid (j+1<c->pl+1<n):=hid fun _=>by omega
       clear hfull;go_wp2_with fail
       go_roundw
       case rel=>exact⟨j+1,po2,pc2,pl+1,hs2,_,_,_,by go_num,rfl,by rw[hodd.out],by omega,hpl2,hst2,hpn3,hM8,hP8,hmb2,hE8⟩
       case measure=>simp[intOf];omega
  ·have hjc:j=c:=by omega
   subst hjc;go_wp2_with fail
   go_ret2
   rw[hst.out];exact⟨hE,po,pc,hs',by rw[hpl.out];rfl,hmb.out,hM,hP⟩
end Go.Proofs.YtnnpfhoigmegcaaGreat
namespace Go.Lin
theorem a7i{n c B t i a:Nat}{m:Mat}(hs:Shp n c m)(h:HB B m)(g:t<n)(_:i<n)(d:i≠t)(v:7*B<=68719476736):Go.Rep.BR 68719476736 ((divL m t a).getD i [])/\Go.Rep.BR 68719476736 ((divL m t a).getD t [])/\Go.Lim.hq (((divL m t a).getD i []).getD a 0/((divL m t a).getD t []).getD a 0)<=68719476736/\∀x∈(divL m t a).getD t [],Go.Lim.hq (((divL m t a).getD i []).getD a 0/((divL m t a).getD t []).getD a 0*x)<=68719476736:=by
 have f:=h.divL hs g a;have b:∀k,Go.Rep.BR (2*B) ((divL m t a).getD k []):=fun k q hq=>by
  obtain⟨j,l,rfl⟩:=List.getElem_of_mem hq;have e:((divL m t a).getD k []).getD j 0=((divL m t a).getD k [])[j]:=by rw[List.getD_eq_getElem?_getD,List.getElem?_eq_getElem l];rfl
  rw[<-e];exact f k j
 have o:Go.Lim.hq (((divL m t a).getD i []).getD a 0)<=B:=by
  have:=a2H hs g a i a;rw[if_neg d]at this;unfold ent at this;rw[this];exact h i a
 have p:Go.Lim.hq (((divL m t a).getD t []).getD a 0)<=2*B:=f t a;have r:=Go.Lim.hq_div (((divL m t a).getD i []).getD a 0) (((divL m t a).getD t []).getD a 0);refine⟨fun q hq=>Nat.le_trans (b i q hq) (by omega),fun q hq=>Nat.le_trans (b t q hq) (by omega),by omega,fun x hx=>?_⟩;have s:=b t x hx;have u:=Go.Lim.hq_mul (((divL m t a).getD i []).getD a 0/((divL m t a).getD t []).getD a 0) x;omega
end Go.Lin
namespace Go.Rep
theorem a7j{P:Program}{t e sz a:Nat}{z:Value}{ao:Option Addr}(T:SliceT P t e sz a z)(len cap:Nat)(f:IntKind)(i:Nat)(g:i<=cap)(w:World):(Instr.sliceAt t (.slice ao len cap) none (some (.int f (i:Int))) none).run P w= .ok (.slice ao i cap) w:=by
 obtain⟨ti,hi,hz,d,c⟩:=info_parts T.info;have b:(i:Int)<=cap:=by omega
 cases ao<;>simp[Instr.sliceAt,Instr.slice,run_underlying T.und,Instr.sliceBounds,run_sliceBound,b,sizeOf,typeInfo,hi,Addr.add_zero']
end Go.Rep
namespace Go.Proofs.YtnnpfhoigmegcaaGreat
open Go.RowKit Go.Rep Go.Lim Go.Lin
def b7h(X:Nat->Bool)(base:Nat)(w:World)(ao:Option Addr)(cap:Nat)(hs:List Hdr)(s:Mat×List Nat)(e:Ending)(w':World):Prop:=
 ExtX (mb ao hs) w w'/\∃po pc hs',e= .returned (.slice po s.2.length pc)/\mb ao hs'=mb ao hs/\MO (un X po) base 26 41 w' ao cap hs' s.1/\OL (a0c .i64) 1 (mz X ao hs) w.heap.size 3 w' po pc s.2
theorem a7Q(X:Nat->Bool)(base:Nat)(w:World)(ao:Option Addr)(cap n c:Nat)(hs:List Hdr)(m:List (List Rat))(hX:HX X w)(F:MO X base 26 41 w ao cap hs m)(c4:Shp n c m)(hc:a0u m=c)(hn:n<=900)(p9:c<=900)(hT:b2s m c):Calls Tryz.prog 301 #[.slice ao n cap] w (b7h X base w ao cap hs (a1P m c)):=by
 have b8:=a5f X base w ao cap n c hs m hX F c4 hc hn p9 hT.e;obtain⟨B,b1,_,c9⟩:=hT;have d9:=a6V c4 c;have t7:n<=cap:=by have:=F.capLen;rw[c4.1]at this;exact this
 have g7:Hd ao n:=by have:=F.outer.hd;rw[F.len,c4.1]at this;exact this
 have c2:a1P m c=(dN (eN m c).1 (eN m c).2.1 (eN m c).2.1.length,(eN m c).2.1):=rfl;obtain⟨⟨E,p,od⟩,hS⟩:∃S,eN m c=S:=⟨_,rfl⟩;rw[hS]at b8 d9 c9 c2;rw[c2]
 dsimp only at c9 |-
 obtain⟨pl,e0⟩:∃pl,p.length=pl:=⟨_,rfl⟩;have j2:Shp n c E:=d9.shp;have d2:Ech n c (ent E) p:=d9.ech;have u2:pl<=n:=by have:=d2.le;omega
 have i8:=hid (b4y j2 d2);have n2:Hid (∀t,t<=p.length->HB B (dN E p t)):=hid c9;have n3:=hid b1;have l8:Hid (∀i (hi:i<p.length),p[i]<c):=hid d2.lt;have M:=hid e0;have l5:Hid (HX X w):=hid hX;clear c4 c9 b1 c2 hS d9 d2 hc;go_enter Tryz.func301,Tryz.ntmps301
 go_wp2_with fail
 refine b8.mono ?_;rintro e w1 ⟨n8,H,pc,f,rfl,l2,f8,f9⟩
 dsimp only at f8 f9 |-
 rw[e0];have L:=hid l2;have f5:=hid (f8.len.trans j2.1);have u1:Hd H pl:=by have:=f9.hd;rw[e0]at this;exact this
 clear b8 l2 e0 F;go_wp2_with fail
 go_loopw [19] (fun k wr=>∃(i:Nat),k= .int .i64 i/\i<=pl/\MO (un X H) base 26 41 wr ao cap f (dN E p i)/\OL (a0c .i64) 1 (mz X ao hs) w.heap.size 3 wr H pc p/\ExtX (mb ao hs) w wr) (fun k _=>pl - (intOf k).toNat)
 case atStart=>exact⟨0,rfl,Nat.zero_le _,f8,f9,n8⟩
 case round=>
  obtain⟨i,rfl,hi,F,hP,hE⟩:=hrel;by_cases r5:i<pl
  ·have g9:i<p.length:=by rw[M.out];exact r5
   have c0:i<n:=by omega
   have g4:=l8.out i g9;have o7:=(hP.sl (a0c.elem _)).nat i g9;have hD:=i8.out i (by rw[M.out];omega);have a0:=n2.out i (by rw[M.out];omega);have i6:=n3.out;have q6:Hid (p.getD i 0=p[i]):=hid (by simp[List.getD_eq_getElem?_getD,g9]);have g5:Hid (dN E p (i+1)=dStep (dN E p i) i p[i]):=hid (by rw[<-q6.out];rfl);obtain⟨D,i7⟩:∃D,dN E p i=D:=⟨_,rfl⟩;obtain⟨d,b7⟩:∃d,p[i]=d:=⟨_,rfl⟩;rw[i7]at F hD a0 g5;rw[b7]at o7 g4 g5;have d0:Shp n c D:=hD.shp;have n4:=hid d0.1;have A:i<f.length:=by rw[f5.out];exact c0
   have b9:i<D.length:=by rw[n4.out];exact c0
   obtain⟨a,Q,cr,V⟩:∃a Q cr,f[i]=(a,Q,cr):=⟨_,_,_,rfl⟩;obtain⟨row,G⟩:∃row,D[i]=row:=⟨_,rfl⟩;have Z:Hid (row.length=c):=hid (by rw[<-G];exact d0.2 _ (List.getElem_mem _));have r7:Q=c:=by
    have:=F.rlen i A b9;rw[V,G,Z.out]at this;exact this
   subst r7;have hR:=F.row i A b9;rw[G]at hR;simp only[V]at hR;have m5:=fun k (I:ob a k=true)=>F.mz_sub A k (by rw[V];exact I);have i0:=fun k (I:ob a k=true)=>F.sep i A k (by rw[V];exact I);have q0:Hd a Q:=by have:=hR.hd;rw[Z.out]at this;exact this
   have i4:Hid (un (cut (mz (un X H) ao f) a) a=mz (un X H) ao f):=hid (a8F m5);have j7:Hid (ob a (adr ao i).block=false):=hid (by
    cases hb:ob a (adr ao i).block
    ·rfl
    ·have h1:=(i0 _ hb).2
     obtain⟨b0,o0,rfl⟩:=g7 (by omega);simp[ob,adr]at h1)
   have y1:wr.cell? (adr ao i)=some (.slice a Q cr):=by
    have:=(F.hdr i A).1;rw[V]at this;exact this
   have k2:d<row.length:=by rw[Z.out];exact g4
   have k1:Hid (row[d]=ent D i d):=hid (by
    unfold ent;rw[a2s b9];simp[G,List.getD_eq_getElem?_getD,k2])
   obtain⟨T,a2⟩:∃b,ent D i d=b:=⟨_,rfl⟩;have p8:Hid (hq T<=68719476736):=hid (by rw[<-a2];exact Nat.le_trans (a0 i d) (by omega));have f7:Hid (BR 68719476736 row):=hid fun q hq=>by
    obtain⟨x,hx,rfl⟩:=List.getElem_of_mem hq;have:=a0.bm D[i] (List.getElem_mem _) row[x] (by rw[G];exact List.getElem_mem _);omega
   have f3:Hid (D.set i (row.map (· /T))=divL D i d):=hid (by
    unfold divL;rw[a2s b9,G,a2])
   rw[a2]at k1;have bx:=Bx.new wr #[.bool false, .slice none 0 0, .slice none 0 0] 41;have z:=hid V;have h8:=hid G;clear V G i7 b7 a2;go_wp2_with (first|(with_reducible refine a0n a5w (by omega) (by assumption) ?_)|(with_reducible refine a0n a0L (by omega) (by assumption) ?_)|(with_reducible refine a1E a1b (by omega) (by assumption) ?_)|((with_reducible show wpList _ _ _ (⟨_, .load 41 _,_,_,_,_⟩::_) _ _);refine a4c a0j d hR k2 rfl (by simp) QC.agg ?_;intro u5 e2;rw[k1.out,i4.out]at e2;obtain⟨s5,a5,n5,c5,d5,k5,e5,rfl⟩:=e2.shape)|((with_reducible show wpList _ _ _ (⟨_, .store _ _ _,_,_,_,_⟩::_) _ _);refine a0a a0j rfl rfl bx rfl rfl (a1q _ _ _ _ _ _ _) ?_;intro w5 r1 r2;have y2:=(ExtX.box ((ExtX.refl wr).alloc _) r2 (Nat.le_refl _):Ext wr w5).cell y1))
   have d1:Ext wr w5:=ExtX.box ((ExtX.refl wr).alloc _) r2 (Nat.le_refl _);have j3:=F.ext0 d1;have o4:=hP.ext0 (a0c.elem _) d1;have r8:QV (mk (mz (un X H) ao f) w5) (.agg #[.bool s5, .slice a5 n5 c5, .slice d5 k5 e5]) T:=(mkx QC.mono e2 d1).qv p8.out;have i9:=hE.trans (ExtX.of (Y:=mb ao hs) d1);obtain⟨P,p7⟩:∃P,wr.heap.size=P:=⟨_,rfl⟩;rw[p7]at r1 |-;have l3:Hid (mb ao hs P=false):=hid (by
    rw[<-L.out];cases hb:mb ao f P
    ·rfl
    ·have:=(F.mb_block hb).2;omega)
   obtain⟨R,d4⟩:∃R,row.map (· /T)=R:=⟨_,rfl⟩;have d8:Hid (R.length=Q):=hid (by rw[<-d4,List.length_map];exact Z.out);have b6:Hid (R.length=row.length):=hid (by rw[d8.out,Z.out]);have o9:Hid (∀j (h1:j<row.length) (h2:j<R.length),R[j]=row[j]/T):=hid fun j h1 h2=>by subst d4;simp
   rw[d4]at f3;have j4:MO (un X H) base 26 41 w5 ao cap f (D.set i (mix R row 0)):=by
    rw[a4K,<-h8.out,List.set_getElem_self];exact j3
   clear hR d4 bx y1 y2 j3 e2 F hP;go_loopw [36] (fun k wx=>∃(j:Nat),k= .int .i64 j/\j<=Q/\MO (un X H) base 26 41 wx ao cap f (D.set i (mix R row j))/\OL (a0c .i64) 1 (mz X ao hs) w.heap.size 3 wx H pc p/\Bx wx P #[.bool s5, .slice a5 n5 c5, .slice d5 k5 e5] 41/\QV (mk (mz (un X H) ao f) wx) (.agg #[.bool s5, .slice a5 n5 c5, .slice d5 k5 e5]) T/\ExtX (mb ao hs) w wx) (fun k _=>Q - (intOf k).toNat)
   case atStart=>exact⟨0,rfl,Nat.zero_le _,j4,o4,r1,r8,i9⟩
   case round=>
    obtain⟨j,rfl,hj,F,hP,b1,l9,hE⟩:=hrel;by_cases h4:j<Q
    ·have r0:j<row.length:=by rw[Z.out];exact h4
     have k9:j<R.length:=by rw[d8.out];exact h4
     have r6:Hid ((mix R row j).length=Q):=hid (by rw[a1V b6.out,d8.out]);have h3:j<(mix R row j).length:=by rw[r6.out];exact h4
     have l4:Hid ((mix R row j)[j]=row[j]):=hid (by rw[a1N b6.out,if_neg (by omega)]);have l0:Hid ((mix R row j).set j R[j]=mix R row (j+1)):=hid (a6z b6.out k9);have b5:=hid (o9.out j r0 k9);have k0:=hid (f7.out row[j] (List.getElem_mem _));have h9:Hid (i<(D.set i (mix R row j)).length):=hid (by rw[List.length_set];exact b9);have hR:=F.row i A h9.out;rw[List.getElem_set_self]at hR;simp only[z.out]at hR;obtain⟨x,hx⟩:∃x,row[j]=x:=⟨_,rfl⟩;obtain⟨v,hv⟩:∃v,R[j]=v:=⟨_,rfl⟩;rw[hx]at l4 k0 b5;rw[hv]at l0 b5;have p2:HX X wr:=l5.out.ext hE;have p3:HX (un X H) wr:=fun k I=>by
      by_cases hx:X k=true
      ·exact p2 k hx
      ·exact(hP.block (by simpa[un,hx]using I)).2
     have p4:=F.hz p3;obtain⟨g,o,hg⟩:∃g o,adr a (j*3)=⟨g,o,none⟩:=⟨_,_,rfl⟩;have i1:∀W,(Instr.indexAt 25 (.slice ao n cap) (.int .i64 (i:Int))).run Tryz.prog W= .ok (.pointer (some (adr ao i))) W:=a1f a0L ao n cap .i64 i g7 (by omega) rfl;have bx:=Bx.new wr #[.bool false, .slice none 0 0, .slice none 0 0] 41;have y1:wr.cell? (adr ao i)=some (.slice a Q cr):=by
      have:=(F.hdr i A).1;rw[z.out]at this;exact this
     have m1:=hid i0
     replace hg:=hid hg
     clear hx hv i0;go_wp2_with (first|(with_reducible refine a1E a1b (by omega) (by assumption) ?_)|((with_reducible show wpList _ _ _ (⟨_, .load 41 _,_,_,_,_⟩::_) _ _);refine a4c a0j j hR h3 rfl (by simp) QC.agg ?_;intro u6 i3;rw[l4.out,i4.out]at i3;obtain⟨s6,a6,n6,c6,d6,k6,e6,rfl⟩:=i3.shape)|((with_reducible show wpList _ _ _ (⟨_, .store _ _ _,_,_,_,_⟩::_) _ _);refine a0a a0j rfl rfl bx rfl rfl (a1q _ _ _ _ _ _ _) ?_;intro w6 r3 r4))
     have i2:∀W,(Instr.indexAt 26 (.slice a Q cr) (.int .i64 (j:Int))).run Tryz.prog W= .ok (.pointer (some ⟨g,o,none⟩)) W:=by rw[<-hg.out];exact a0o a1b a Q cr .i64 j q0 (by omega)
     have n9:Ext wr w6:=ExtX.box ((ExtX.refl wr).alloc _) r4 (Nat.le_refl _);have j0:Ext w6 w6.drew:=(ExtX.refl w6).drew;have y:=n9.trans j0;have o3:=F.ext0 y;have o5:=hP.ext0 (a0c.elem _) y;have o8:=hR.ext0 QC.elem y;have i5:=b1.ext0 y;have s1:QV (mk (mz (un X H) ao f) w6.drew) (.agg #[.bool s6, .slice a6 n6 c6, .slice d6 k6 e6]) x:=(mkx QC.mono i3 y).qv k0.out;have j8:QV (mk (mz (un X H) ao f) w6.drew) (.agg #[.bool s5, .slice a5 n5 c5, .slice d5 k5 e5]) T:=mkx QV.mono l9 y;have p1:=p4.ext y;have m9:=r3.ext0 j0;obtain⟨bw,g3⟩:∃bw,wr.heap.size=bw:=⟨_,rfl⟩;rw[g3]at m9;have p6:Hid (ob a bw=false):=hid (by rw[<-g3];exact hR.ob_ge (Nat.le_refl _));have e9:Hid (ob a P=false):=hid (by
      cases hb:ob a P
      ·rfl
      ·have h5:mb ao f P=true:=a2B.2 (.inr (a1h A (show ob f[i].1 P=true by rw[z.out];exact hb)))
       rw[L.out,l3.out]at h5;simp at h5)
     have hS:Hid (∀Y W',ExtX Y w6.drew W'->Y (adr ao i).block=false->Y bw=false->Y P=false->W'.cell? (adr ao i)=some (.slice a Q cr)/\W'.cell? ⟨bw,0,none⟩=some (.bool s6)/\W'.cell? ⟨bw,1,none⟩=some (.slice a6 n6 c6)/\W'.cell? ⟨bw,2,none⟩=some (.slice d6 k6 e6)/\W'.cell? ⟨P,0,none⟩=some (.bool s5)/\W'.cell? ⟨P,1,none⟩=some (.slice a5 n5 c5)/\W'.cell? ⟨P,2,none⟩=some (.slice d5 k5 e5)):=hid fun Y W' h s2 s3 s4=>by
      have z2:=m9.ext h s3;have z3:=i5.ext h s4;exact⟨h.cellY (y.cell y1) s2,z2.cell 0 rfl,z2.cell 1 rfl,z2.cell 2 rfl,z3.cell 0 rfl,z3.cell 1 rfl,z3.cell 2 rfl⟩
     obtain⟨s8,s9,t0,t2,t3,t4,t5⟩:=hS.out noY w6.drew (ExtX.refl _) rfl rfl rfl;have qd:=b6I (mz (un X H) ao f) w6.drew _ _ _ _ p1 s1 j8;rw[<-b5.out]at qd;have t6:Calls Tryz.prog 236 #[.agg #[.bool s6, .slice a6 n6 c6, .slice d6 k6 e6], .agg #[.bool s5, .slice a5 n5 c5, .slice d5 k5 e5]] w6.drew (fun e w'=>Ext w6.drew w'/\∃u ec,e= .returned (.tuple #[u, .int .i64 ec])/\QC (mk (mz (un X H) ao f) w') u v):=qd.mono fun e w' ⟨q1,u,q2,q3⟩=>⟨q1,u,_,q2,q3⟩;clear qd r3 bx y1;rw[g3];go_wp2_with fail
     go_region_held3 (fun w'=>w'.cell? (adr ao i)=some (.slice a Q cr)/\w'.cell? ⟨bw,0,none⟩=some (.bool s6)/\w'.cell? ⟨bw,1,none⟩=some (.slice a6 n6 c6)/\w'.cell? ⟨bw,2,none⟩=some (.slice d6 k6 e6)/\w'.cell? ⟨P,0,none⟩=some (.bool s5)/\w'.cell? ⟨P,1,none⟩=some (.slice a5 n5 c5)/\w'.cell? ⟨P,2,none⟩=some (.slice d5 k5 e5))
      (first|exact hS.out noY _ t1 rfl rfl rfl|exact hS.out (ob a) _ ((ExtX.of t1).trans f6.2) j7.out p6.out e9.out|go_keep)
      ((go_at_call 236;(with_reducible refine t6.mono ?_);rintro ee w7 ⟨t1,u7,t9,rfl,m3⟩;obtain⟨s7,a7,n7,c7,d7,k7,e7,rfl⟩:=m3.shape;have d3:=o8.ext0 QC.elem t1;obtain⟨_,v0,v1,v2,_,⟨g0,f0⟩,⟨g1,f1⟩,⟨g2,f2⟩,_⟩:=d3.cell3 j h3 hg.out;have f6:=d3.set3 a6S QC.elem j h3 hg.out (v0:= .bool s7) (v1:= .slice a7 n7 c7) (v2:= .slice d7 k7 e7) (x:=v) (by rw[i4.out];exact m3)))
     obtain⟨q1,q2⟩:=f6;rw[l0.out]at q1;obtain⟨w8,m4⟩:∃w8,((w7.setCell ⟨g,o,none⟩ (.bool s7)).setCell ⟨g,o+1,none⟩ (.slice a7 n7 c7)).setCell ⟨g,o+2,none⟩ (.slice d7 k7 e7)=w8:=⟨_,rfl⟩;rw[m4]at q1 q2 |-;have m8:ExtX (ob f[i].1) w7 w8:=by rw[z.out];exact q2
     have j5:=(o3.ext0 t1).upd A (l:=mix R row (j+1)) m8 (fun q7=>by rw[List.getElem_set_self,a1V b6.out,a1V b6.out]) (by rw[z.out];exact q1);rw[List.set_set]at j5;have a8:=(o5.ext0 (a0c.elem _) t1).frame (a0c.pure _) q2 (fun k I=>by
      cases hb:ob a k
      ·rfl
      ·have:=(m1.out k hb).1;rw[a0A I]at this;simp at this) hP.1
     have n0:=(i5.ext0 t1).ext q2 e9.out;have r9:=QV.mono _ _ _ _ (a0E q2 m5) (mkx QV.mono j8 t1);have b3:=(hE.trans (ExtX.of (y.trans t1))).trans (show ExtX (mb ao hs) w7 w8 by rw[<-L.out];exact ExtX.row A m8);clear s8 s9 t0 t2 t3 t4 t5 g0 g1 g2 f0 f1 f2 i1 i2 m4;go_wp2_with fail
     go_roundw
     case rel=>exact⟨j+1,by go_num,by omega,j5,a8,n0,r9,b3⟩
     case measure=>simp[intOf];omega
    ·have q9:j=Q:=by omega
     subst q9;rw[a4L (by rw[d8.out];exact Nat.le_refl _) (by rw[Z.out];exact Nat.le_refl _),f3.out]at F;obtain⟨r,b2⟩:∃r,divL D i d=r:=⟨_,rfl⟩;have N:Shp n j r:=by rw[<-b2];exact d0.divL c0 d
     have j9:Hid (∀t,t<i->BR 68719476736 (r.getD t [])/\BR 68719476736 (r.getD i [])/\hq ((r.getD t []).getD d 0/(r.getD i []).getD d 0)<=68719476736/\∀x∈r.getD i [],hq ((r.getD t []).getD d 0/(r.getD i []).getD d 0*x)<=68719476736):=hid fun t ht=>by
      rw[<-b2];exact a7i d0 a0 c0 (by omega) (by omega) i6
     have k4:Hid (above r i d i=dN E p (i+1)):=hid (by rw[g5.out];unfold dStep;rw[b2]);rw[b2]at F;have e8:=hid N.1;have o2:MO (un X H) base 26 41 wr ao cap f (above r i d 0):=by rw[a9q];exact F
     have g8:i<=cap:=by omega
     have f1:∀W,(Instr.sliceAt 25 (.slice ao n cap) none (some (.int .i64 (i:Int))) none).run Tryz.prog W= .ok (.slice ao i cap) W:=a7j a0L n cap .i64 i g8;have t8:Hd ao i:=fun h0=>g7 (by omega);clear F b2 b1 l9;go_wp2_with fail
     go_loopw [58] (fun k wx=>∃(s:Nat),k= .int .i64 s/\s<=i/\MO (un X H) base 26 41 wx ao cap f (above r i d s)/\OL (a0c .i64) 1 (mz X ao hs) w.heap.size 3 wx H pc p/\ExtX (mb ao hs) w wx) (fun k _=>i - (intOf k).toNat)
     case atStart=>exact⟨0,rfl,Nat.zero_le _,o2,hP,hE⟩
     case round=>
      obtain⟨s,rfl,u3,C,a8,b3⟩:=hrel;by_cases l1:s<i
      ·have m2:s<n:=by omega
       have O:s<f.length:=by rw[f5.out];exact m2
       have c8:s<r.length:=by rw[e8.out];exact m2
       have h7:i<r.length:=by rw[e8.out];exact c0
       have e1:s<(above r i d s).length:=by rw[a3l];exact c8
       have l7:i<(above r i d s).length:=by rw[a3l];exact h7
       obtain⟨a1,n1,c1,K⟩:∃a n c,f[s]=(a,n,c):=⟨_,_,_,rfl⟩;have g6:(above r i d s)[s]=r[s]:=by rw[a3k e1 c8,if_neg (by omega)]
       have k8:(above r i d s)[i]=r[i]:=by rw[a3k l7 h7,if_neg (by omega)]
       have l6:n1=j:=by
        have:=C.rlen s O e1;rw[K,g6,N.2 _ (List.getElem_mem _)]at this;exact this
       subst l6;have b4:=C.row s O e1;have a9:=C.row i A l7;rw[g6]at b4;rw[k8]at a9;simp only[K]at b4;simp only[z.out]at a9;have m6:=fun k (I:ob a1 k=true)=>C.mz_sub O k (by rw[K];exact I);have m7:=fun k (I:ob a k=true)=>C.mz_sub A k (by rw[z.out];exact I);have q4:∀k,ob a1 k=true->ob a k=false:=fun k I=>by
        have:=C.dis s i O A (by omega) k (by rw[K];exact I);rw[z.out]at this;exact this
       have m0:=fun k (I:ob a1 k=true)=>C.sep s O k (by rw[K];exact I);have U:=j9.out s l1;rw[a2s c8]at U;have k3:Hid ((above r i d s).set s (a2A r[s] (r.getD i []) d)=above r i d (s+1)):=hid (b0J c8 l1);have h6:r.getD i []=r[i]:=a2s h7;rw[<-h6]at a9;have c3:=hid (N.2 r[s] (List.getElem_mem _));have a4:=hid (show(r.getD i []).length=n1 by rw[h6];exact N.2 _ (List.getElem_mem _));obtain⟨e4,J⟩:∃e4,r[s]=e4:=⟨_,rfl⟩;obtain⟨e3,a3⟩:∃e3,r.getD i []=e3:=⟨_,rfl⟩;rw[J,a3]at k3;rw[J]at b4 c3;rw[a3]at a9 a4;rw[J,a3]at U;have p0:HX (un X H) wr:=fun k I=>by
        by_cases hx:X k=true
        ·exact l5.out.ext b3 k hx
        ·exact(a8.block (by simpa[un,hx]using I)).2
       have p5:=C.hz p0;have q5:=a4d (mz (un X H) ao f) base wr a1 a c1 cr n1 d e4 e3 p5 b4 a9 m6 m7 q4 c3.out a4.out (by omega) g4 U.1 U.2.1 U.2.2.1 U.2.2.2;have y1:wr.cell? (adr ao s)=some (.slice a1 n1 c1):=by
        have:=(C.hdr s O).1;rw[K]at this;exact this
       have y2:wr.cell? (adr ao i)=some (.slice a n1 cr):=by
        have:=(C.hdr i A).1;rw[z.out]at this;exact this
       have f4:=hid K;clear g6 k8 h6 J a3 K b4 a9 U f1;go_wp2_with (with_reducible refine a0n a0L (by omega) (by assumption) ?_)
       refine q5.mono ?_;rintro ee w7 ⟨rfl,t1,d3⟩;have j1:ExtX (ob f[s].1) wr w7:=by rw[f4.out];exact t1
       have j6:=C.upd O (l:=a2A e4 e3 d) j1 (fun q7=>by
        rw[a3k e1 c8,if_neg (by omega),a3f _ _ _ (by rw[c3.out,a4.out]),a4.out];exact(N.2 _ (List.getElem_mem _)).symm) (by rw[f4.out];exact d3)
       rw[k3.out]at j6;have o6:=a8.frame (a0c.pure _) t1 (fun k I=>by
        cases hb:ob a1 k
        ·rfl
        ·have:=(m0 k hb).1;rw[a0A I]at this;simp at this) a8.1
       have o1:=b3.trans (show ExtX (mb ao hs) wr w7 by rw[<-L.out];exact ExtX.row O j1);clear y1 y2;go_wp2_with fail
       go_roundw
       case rel=>exact⟨s+1,by go_num,by omega,j6,o6,o1⟩
       case measure=>simp[intOf];omega
      ·have s0:s=i:=by omega
       subst s0;rw[k4.out]at C;go_wp2_with fail
       go_roundw
       case rel=>exact⟨s+1,by go_num,by omega,C,a8,b3⟩
       case measure=>simp[intOf];omega
  ·have q8:i=pl:=by omega
   subst q8;rw[<-M.out]at F;go_wp2_with fail
   go_ret
   exact⟨hE,H,pc,f,by rw[M.out];rfl,L.out,F,hP⟩
def b7i(X:Nat->Bool)(w:World)(m:List (List Rat))(p:List Nat)(e:Ending)(w':World):Prop:=Ext w w'/\∃u v,e= .returned (.tuple #[u,v, .int .i64 0])/\MC (mk X w') u m/\SlV (a0c .i64) 1 (mk X w') v p
theorem a9r(X:Nat->Bool)(w:World)(u:Value)(m:List (List Rat))(r:HX X w)(t:MV (mk X w) u m)(n:a1M m=true)(z:b2s m (a0u m)):Calls Tryz.prog 251 #[u] w (b7i X w (a1P m (a0u m)).1 (a1P m (a0u m)).2):=by
 obtain⟨a,y,s,_,_⟩:=a3G n;have f:=a5T X w u m t (by omega);rw[n]at f;have l:=a5V X w u m m.length (a0u m) r t a rfl (by omega) (by omega);have q:=hid (a2x a).1;clear n;go_enter Tryz.func251,Tryz.ntmps251
 go_wp2_with fail
 refine f.mono ?_;rintro e E ⟨rfl,rfl⟩;go_wp2_with fail
 refine l.mono ?_;rintro e C ⟨b,ao,cap,hs,rfl,c⟩;go_wp2_with fail
 refine(a7Q X _ C ao cap m.length (a0u m) hs m (r.ext b) c a rfl (by omega) (by omega) z).mono ?_;rintro e D ⟨h,x,v,B,rfl,A,j,d⟩;have i:=c.ext_from b (Nat.le_refl _) h;have g:=MC.mono _ _ _ _ (a2T (X:=X) fun k _ o=>a0v o) j.mc;have p:SlV (a0c .i64) 1 (mk X D) (.slice x (a1P m (a0u m)).2.length v) (a1P m (a0u m)).2:=⟨x,v,rfl,d.lenCap,(d.sl (a0c.elem _)).mono (a0c.mono _) (a2T fun k _ o=>a1Y.2 (.inl o))⟩;rw[q.out.1]at g;go_wp2_with fail
 go_ret3
 exact⟨i,_,_,rfl,g,p⟩
end Go.Proofs.YtnnpfhoigmegcaaGreat
namespace Go.Lin
open Go.Lim
def xN(R:Mat)(p:List Nat)(c col:Nat):Nat->List Rat
 |0=>(List.replicate c 0).set col 1
 |i+1=>(xN R p c col i).set (p.getD i 0) (- ent R i col)
theorem a8H(R:Mat)(p:List Nat)(c col i:Nat):(xN R p c col i).length=c:=by
 induction i with
 |zero=>show((List.replicate c (0:Rat)).set col 1).length=c;rw[List.length_set,List.length_replicate]
 |succ i ih=>show((xN R p c col i).set _ _).length=c;rw[List.length_set,ih]
theorem b6h{n c col:Nat}{R:Mat}{p:List Nat}(hr:Rref n c (ent R) p)(hcp:col∉p)(i:Nat)(hi:i<=p.length)(x:Nat)(hx:x<c):(xN R p c col i).getD x 0=if x=col then 1 else match p.findIdx? (· ==x)with|some k=>if k<i then - ent R k col else 0|none=>0:=by
 induction i with
 |zero=>
  show((List.replicate c (0:Rat)).set col 1).getD x 0=_
  rw[List.getD_eq_getElem?_getD,List.getElem?_set,List.length_replicate];by_cases h:col=x
  ·subst h;rw[if_pos rfl,if_pos hx,if_pos rfl];rfl
  ·rw[if_neg h,if_neg (Ne.symm h)]
   have:((List.replicate c (0:Rat))[x]?).getD 0=0:=by simp[hx]
   rw[this];cases p.findIdx? (· ==x)<;>simp
 |succ i ih=>
  have hip:i<p.length:=by omega
  have hpi:p.getD i 0=p[i]:=by simp[List.getD_eq_getElem?_getD,hip]
  show((xN R p c col i).set (p.getD i 0) (- ent R i col)).getD x 0=_
  rw[hpi,List.getD_eq_getElem?_getD,List.getElem?_set,a8H];by_cases h:p[i]=x
  ·have hxc:x≠col:=by rintro rfl;exact hcp (h▸List.getElem_mem _)
   rw[if_pos h,if_pos (by omega),if_neg hxc,<-h,hr.idx i hip];simp
  ·rw[if_neg h,<-List.getD_eq_getElem?_getD,ih (by omega)]
   cases hf:p.findIdx? (· ==x)with
   |none=>rfl
   |some k=>
    obtain⟨hk1,hk2,_⟩:=List.findIdx?_eq_some_iff_getElem.1 hf;have hki:k≠i:=by rintro rfl;exact h (by simpa using hk2)
    dsimp only
    by_cases h2:k<i
    ·rw[if_pos h2,if_pos (show k<i+1 by omega)]
    ·rw[if_neg h2,if_neg (show¬k<i+1 by omega)]
theorem b4N{n c col:Nat}{R:Mat}{p:List Nat}(hr:Rref n c (ent R) p)(hcp:col∉p):xN R p c col p.length=(List.range c).map (nv (ent R) p col):=by
 refine List.ext_getElem (by rw[a8H];simp) fun x h1 h2=>?_;have hx:x<c:=by rw[a8H]at h1;exact h1
 have:=b6h hr hcp _ (Nat.le_refl _) x hx;rw[List.getD_eq_getElem?_getD,List.getElem?_eq_getElem h1]at this;rw[show(xN R p c col p.length)[x]=_ from this];simp only[List.getElem_map,List.getElem_range];unfold nv;by_cases h:x=col
 ·rw[if_pos h,if_pos h]
 ·rw[if_neg h,if_neg h]
  cases hf:p.findIdx? (· ==x)with
  |none=>rfl
  |some k=>
   obtain⟨hk1,_⟩:=List.findIdx?_eq_some_iff_getElem.1 hf
   dsimp only
   rw[if_pos hk1]
def a5g(r:F2)(p:List Nat)(c k:Nat):Mat:=((List.range k).filter (· ∉p)).map fun j=>(List.range c).map (nv r p j)
theorem a9s(r:F2){p:List Nat}(c:Nat){k:Nat}(h:k∈p):a5g r p c (k+1)=a5g r p c k:=by
 unfold a5g;rw[List.range_succ,List.filter_append];simp[h]
theorem a9t(r:F2){p:List Nat}(c:Nat){k:Nat}(h:k∉p):a5g r p c (k+1)=a5g r p c k++[(List.range c).map (nv r p k)]:=by
 unfold a5g;rw[List.range_succ,List.filter_append,List.map_append];simp[h]
theorem b4O{m:Mat}{c:Nat}(h:b2s m c):Go.Rep.BM 9817068105 (a1P m c).1:=by
 obtain⟨B,d,_,a⟩:=h;have:=(a _ (Nat.le_refl _)).bm;exact fun r b q hq=>Nat.le_trans (this r b q hq) (by omega)
end Go.Lin
namespace Go.Proofs.YtnnpfhoigmegcaaGreat
open Go.RowKit Go.Rep Go.Lim Go.Lin
theorem a7k(X:Nat->Bool)(w:World)(ao:Option Addr)(l:List Nat)(n c x:Nat)(hs:Sl (a0c .i64) 1 (mk X w) ao l)(m:l.length=n)(z:n<=1000000):Calls Tryz.prog 303 #[.slice ao n c, .int .i64 (x:Int)] w (fun e w'=>w'=w/\∃k:Int,e= .returned (.int .i64 k)/\(0<=k↔x∈l)):=by
 have v:Hd ao n:=by have:=hs.hd;rw[m]at this;exact this
 have a:=hid m;clear m;go_enter Tryz.func303,Tryz.ntmps303
 go_wp2_with fail
 go_loopw [8] (fun k wr=>∃(i:Nat),k= .int .i64 i/\i<=n/\Hid (∀q (hq:q<l.length),q<i->l[q]≠x)/\wr=w) (fun k _=>n - (intOf k).toNat)
 case atStart=>exact⟨0,rfl,Nat.zero_le _,hid (fun q hq h=>by omega),rfl⟩
 case round=>
  obtain⟨i,rfl,hi,b,rfl⟩:=hrel;by_cases o:i<n
  ·have j:i<l.length:=by rw[a.out];exact o
   have t:=hs.nat i j;by_cases hx:l[i]=x
   ·have g:((x:Int)==(l[i]:Int))=true:=b5A (by omega)
    have p:Hid (x∈l):=hid (hx▸List.getElem_mem _);obtain⟨y,f⟩:∃y,(l[i]:Int)=y:=⟨_,rfl⟩;rw[f]at t g;clear hx f;go_wp2_with (with_reducible refine a0n a5w (by omega) (by assumption) ?_)
    go_ret
    exact⟨rfl,_,rfl,⟨fun _=>p.out,fun _=>by omega⟩⟩
   ·have g:((x:Int)==(l[i]:Int))=false:=a2S (by omega)
    have d:Hid (∀q (hq:q<l.length),q<i+1->l[q]≠x):=hid fun q hq u=>by
     by_cases h:q=i
     ·subst h;exact hx
     ·exact b.out q hq (by omega)
    obtain⟨y,f⟩:∃y,(l[i]:Int)=y:=⟨_,rfl⟩;rw[f]at t g;clear hx f;go_wp2_with (with_reducible refine a0n a5w (by omega) (by assumption) ?_)
    go_roundw
    case rel=>exact⟨i+1,by go_num,by omega,d,trivial⟩
    case measure=>simp[intOf];omega
  ·have r:Hid (x∉l):=hid fun p=>by
    obtain⟨q,hq,s⟩:=List.getElem_of_mem p;exact b.out q hq (by rw[a.out]at hq;omega) s
   go_wp2_with fail
   go_ret
   exact⟨rfl,_,rfl,⟨fun h=>by omega,fun h=>absurd h r.out⟩⟩
theorem a7l(X:Nat->Bool)(w:World)(ao:Option Addr)(l:List Nat)(n c x:Nat)(hs:Sl (a0c .i64) 1 (mk X w) ao l)(b:l.length=n)(d:n<=1000000):Calls Tryz.prog 253 #[.slice ao n c, .int .i64 (x:Int)] w (fun e w'=>w'=w/\e= .returned (.bool (decide (x∈l)))):=by
 have f:=a7k X w ao l n c x hs b d;clear hs b d;go_enter Tryz.func253,Tryz.ntmps253
 go_wp2_with fail
 refine f.mono ?_;rintro e g ⟨rfl,k,rfl,a⟩;have hd:Hid (decide (0<=k)=decide (x∈l)):=hid (decide_eq_decide.2 a);clear a;go_wp2_with fail
 go_ret
 exact⟨rfl,a0q hd.out⟩
theorem b4P(X:Nat->Bool)(w:World)(u:Value)(m:List (List Rat))(n c:Nat)(hX:HX X w)(hu:MV (mk X w) u m)(hf:a1M m=true)(Y:m.length=n)(i:a0u m=c)(hT:b2s m c):Calls Tryz.prog 205 #[u] w (b7e X w (a2b (ent (a1P m c).1) (a1P m c).2 c)):=by
 obtain⟨a5,f1,d0,e1,_⟩:=a3G hf;rw[Y,i]at a5;rw[Y]at f1;rw[i]at d0;have A:=a9r X w u m hX hu hf (by rw[i];exact hT);rw[i]at A;have z:=hid (fun w' (h:Ext w w')=>a3H X w' u m (mkx MV.mono hu h));rw[i]at z;have s:=a2x a5;have T:=hid (b4O hT);obtain⟨⟨R,p⟩,c2⟩:∃S,a1P m c=S:=⟨_,rfl⟩;rw[c2]at A s T |-
 dsimp only at A s T |-
 have C:=hid s.1;have c3:=hid s.2.1;obtain⟨F,e0⟩:∃F,p.length=F:=⟨_,rfl⟩;have b:=hid e0;have j1:F<=n:=by have:=s.2.1.le;omega
 have U:Hid (a5g (ent R) p c c=a2b (ent R) p c):=hid rfl;obtain⟨ua,j5,rfl,e4,g9⟩:=hu;clear s hT a5 hf Y i c2 e4 g9 e1 e0;go_enter Tryz.func205,Tryz.ntmps205
 go_wp2_with fail
 refine A.mono ?_;rintro e w1 ⟨B,ur,uv,rfl,h0,h4⟩;obtain⟨ra,j4,rfl,i4,e2⟩:=h0;obtain⟨pa,i0,rfl,i3,a0⟩:=h4;have i9:Hd ra n:=by have:=e2.hd;rw[C.out.1]at this;exact this
 have i8:Hd pa F:=by have:=a0.hd;rw[b.out]at this;exact this
 have f5:=hX.ext B;rw[C.out.1,b.out];clear A;go_wp2_with fail
 refine(z.out w1 B).mono ?_;rintro e w2 ⟨rfl,rfl⟩;go_wp2_with fail
 go_loopw [7,23] (fun o kk wr=>∃(k q:Nat) (oo:Option Addr) (co:Nat),kk= .int .i64 k/\o= .slice oo q co/\k<=c/\q<=k/\Hid ((a5g (ent R) p c k).length=q)/\OL RC 1 X w2.heap.size 26 wr oo co (a5g (ent R) p c k)/\Ext w2 wr) (fun _ kk _=>c - (intOf kk).toNat)
 case atStart=>exact⟨0,0,none,0,rfl,rfl,Nat.zero_le _,Nat.le_refl _,hid rfl,OL.nil _ _ _ _ _ _,ExtX.refl _⟩
 case round=>
  obtain⟨k,q,oo,co,rfl,rfl,W,j2,r,I,G⟩:=hrel;by_cases d6:k<c
  ·have c4:HX X wr:=f5.ext G
   have P:HX (un X oo) wr:=I.unX c4;have a:=a7l X wr pa p F i0 k (a0.mono (a0c.mono _) (a0k G)) b.out (by omega);have i6:=G.size;by_cases f:k∈p
   ·rw[decide_eq_true f]at a
    have g5:=hid (a9s (ent R) c f);clear f;go_wp2_with fail
    refine a.mono ?_;rintro e w3 ⟨rfl,rfl⟩;rw[<-g5.out]at I r;go_wp2_with fail
    go_roundw
    case rel=>exact⟨k+1,q,oo,co,by go_num,rfl,by omega,by omega,r,I,G⟩
    case measure=>simp[intOf];omega
   ·rw[decide_eq_false f]at a
    have a2:=hid (a9t (ent R) c f);have e7:=hid (b4N c3.out f);rw[b.out]at e7;have d1:=z.out wr (B.trans G);clear f;obtain⟨wo,h6⟩:∃wo,wo=wr:=⟨_,rfl⟩;subst h6;go_wp2_with fail
    refine a.mono ?_;rintro e w3 ⟨rfl,rfl⟩;go_wp2_with fail
    refine d1.mono ?_;rintro e w4 ⟨rfl,rfl⟩;clear a d1;go_wp2_with ((with_reducible show wpList _ _ _ (⟨_, .makeSlice _ _ _,_,_,_,_⟩::_) _ _);refine a1S (R:=QC) a1b QC.elem (0:Rat) (fun _=>QC.zero _) (un X oo) P w4.heap.size (Nat.le_refl _) c rfl rfl rfl (by omega) (by omega) ?_;intro xo w5 t b5)
    have g3:=hid (fun k (W:ob xo k=true)=>t.block W);have j3:Hd xo c:=by have:=t.hd;rw[List.length_replicate]at this;exact this
    obtain⟨Z,Q⟩:∃Z,un (un X oo) xo=Z:=⟨_,rfl⟩;have D:=hid Q;have f6:HX Z w5:=by rw[<-Q];exact t.unX (P.ext b5)
    have d7:=hid (fun k (W:ob oo k=true)=>I.block W);have c5:=hid c4;have a7:Hid (∀k,k<w2.heap.size->Z k=true->X k=true):=hid fun k W hz=>by
     rw[<-D.out]at hz;by_cases h1:X k=true
     ·exact h1
     ·by_cases h2:ob oo k=true
      ·have:=(d7.out k h2).1;omega
      ·have h3:ob xo k=true:=by simpa[un,h1,h2]using hz
       have:=(g3.out k h3).1;omega
    have b0:((1:Int):Rat)=1:=by decide+kernel
    have a4:=b1X Z w5 1 f6 (by omega) (by omega);rw[b0]at a4;have g0:k<(List.replicate c (0:Rat)).length:=by rw[List.length_replicate];exact d6
    clear b0 Q;go_wp2_with fail
    refine a4.mono ?_;rintro e w6 ⟨b6,u6,rfl,g8⟩;have O:=t.ext0 QC.elem b6;go_wp2_with (first|(with_reducible refine a1E a1b (by omega) (by assumption) ?_)|((with_reducible show wpList _ _ _ (⟨_, .store 41 _ _,_,_,_,_⟩::_) _ _);refine a1O a6S QC.elem k rfl (by simp) O g0 _ 1 rfl (by rw[D.out];exact g8) ?_;intro w7 f4 f2))
    have b4:Ext w4 w7:=(b5.trans b6).own O (Nat.le_refl _) f2;clear a4 t O;go_loopw [38] (fun kk wi=>∃(j:Nat),kk= .int .i64 j/\j<=F/\OL QC 3 (un X oo) w4.heap.size 41 wi xo c (xN R p c k j)/\Ext w4 wi) (fun kk _=>F - (intOf kk).toNat)
    case atStart=>exact⟨0,rfl,Nat.zero_le _,f4,b4⟩
    case round=>
     obtain⟨j,rfl,hj,g,d⟩:=hrel;have H:=G.trans d;by_cases g2:j<F
     ·have V:j<p.length:=by rw[b.out];exact g2
      have d9:=(a0.mono (a0c.mono _) (a0k H)).nat j V;have N:Hid (p[j]<c):=hid (c3.out.lt j V);have d2:Hid (p.getD j 0=p[j]):=hid (by simp[List.getD_eq_getElem?_getD,V]);obtain⟨y,hy⟩:∃y,p[j]=y:=⟨_,rfl⟩;rw[hy]at d9 N d2;have h7:y<c:=N.out;have d3:j<R.length:=by rw[C.out.1];omega
      have g4:Sl RC 1 (mk Z wr) ra R:=e2.mono RC.mono (a0Z H (fun k _ W=>by simp[noY]at W) a7.out);obtain⟨a1,c1,i2,c9,M,a3⟩:=g4.row j d3;have a9:=c9.out noY wr (ExtX.refl _) rfl;have E:Hid (R[j].length=c):=hid (C.out.2 _ (List.getElem_mem _));have e6:Hid (∀h:k<R[j].length,R[j][k]=ent R j k):=hid fun h=>by unfold ent;rw[show R.getD j []=R[j]by simp[List.getD_eq_getElem?_getD,d3]];simp[List.getD_eq_getElem?_getD,h]
      have c7:=hid (T.out R[j] (List.getElem_mem _));obtain⟨x,hx⟩:∃x,R[j]=x:=⟨_,rfl⟩;rw[hx]at a9 M a3 E e6 c7;rw[E.out]at a9 M;have i7:Hd a1 c:=by have:=a3.hd;rw[E.out]at this;exact this
      have d4:k<x.length:=by rw[E.out];exact d6
      have e9:=hid (e6.out d4);have c6:=hid (c7.out x[k] (List.getElem_mem _));have f7:HX Z wr:=by
       rw[<-D.out];exact g.unX (P.ext d)
      have h8:y<(xN R p c k j).length:=by rw[a8H];exact h7
      have g6:Hid ((xN R p c k j).set y (- ent R j k)=xN R p c k (j+1)):=hid (by rw[<-d2.out];rfl);obtain⟨v,hv⟩:∃v,x[k]=v:=⟨_,rfl⟩;rw[hv]at e9 c6;have h5:=hid hv;clear hx c9 hy hv;go_wp2_with (first|(with_reducible refine a0n a5w (by omega) (by assumption) ?_)|(with_reducible refine a0n a0L (by omega) (by assumption) ?_)|(with_reducible refine a1E a1b (by omega) (by assumption) ?_)|((with_reducible show wpList _ _ _ (⟨_, .load 41 _,_,_,_,_⟩::_) _ _);refine a1g a0j k a3 d4 rfl (by simp) QC.agg ?_;intro u8 a6;rw[h5.out]at a6;obtain⟨s8,a8,n8,c8,d8,k8,e8,rfl⟩:=a6.shape))
      refine(b6Z Z wr _ v f7 (a6.qv (by have:=c6.out;omega))).mono ?_;rintro e w9 ⟨b7,u9,rfl,e3⟩;have b9:=g.ext0 QC.elem b7;rw[e9.out]at e3;clear a9 d9;go_wp2_with (first|(with_reducible refine a1E a1b (by omega) (by assumption) ?_)|((with_reducible show wpList _ _ _ (⟨_, .store 41 _ _,_,_,_,_⟩::_) _ _);refine a1O a6S QC.elem y rfl (by simp) b9 h8 _ (- ent R j k) rfl (by rw[D.out];exact e3) ?_;intro i1 J b1))
      rw[g6.out]at J;have b8:Ext w4 i1:=(d.trans b7).own b9 (Nat.le_refl _) b1;go_roundw
      case rel=>exact⟨j+1,by go_num,by omega,J,b8⟩
      case measure=>simp[intOf];omega
     ·have f8:j=F:=by omega
      subst f8;rw[e7.out]at g;obtain⟨L,hL⟩:∃L,(List.range c).map (nv (ent R) p k)=L:=⟨_,rfl⟩;rw[hL]at g a2;have f3:L.length=c:=by rw[<-hL];simp
      have g7:=g.sl QC.elem;have g1:=g.lenCap;have c0:=I.ext0 RC.elem d;have i5:=d.size;clear hL;go_wp2_with (at_builtin;refine a1I (l:=a5g (ent R) p c k) a0L rfl RC.elem (by omega) (c5.out.ext d) q r.out rfl rfl c0 (.slice xo c c) L rfl ⟨xo,c,by rw[f3],g1,g7⟩ (by omega) (by omega) ?_;intro h9 f0 j6 K b2 j0)
      have b3:=(G.trans d).own c0 (Nat.le_refl _) b2;rw[<-a2.out]at K;have d5:Hid ((a5g (ent R) p c (k+1)).length=q+1):=hid (by rw[a2.out,List.length_append,r.out];rfl);go_roundw
      case rel=>exact⟨k+1,q+1,h9,f0,by go_num,by go_num,by omega,by omega,d5,K,b3⟩
      case measure=>simp[intOf];omega
  ·have f9:k=c:=by omega
   subst f9;rw[U.out]at I r;have hc:=I.lenCap;have hs:=I.sl RC.elem;go_wp2_with fail
   go_ret2
   exact⟨B.trans G, .slice oo q co,rfl,oo,co,by rw[r.out],hc,hs⟩
end Go.Proofs.YtnnpfhoigmegcaaGreat
namespace Go.Lin
open Go.Lim
def fn(l:List Rat):Nat->Rat:=fun i=>l.getD i 0
theorem NS.congr{n c:Nat}{f d:F2}{y k b b':Nat->Rat}(h:NS n c f y b)(g:Eqm n c f d)(m:∀i,i<n->y i=k i)(l:∀j,j<c->b j=b' j):NS n c d k b':=fun i hi=>by
 have e1:∀j,j<c->gr n f i j=gr n d i j:=fun j e=>a0l fun r a=>by rw[g r a i hi,g r a j e]
 have e2:gy n f y i=gy n d k i:=a0l fun r a=>by rw[g r a i hi,m r a]
 rw[<-e2,<-h i hi];exact a0l fun j e=>by rw[e1 j e,l j e]
theorem Nul.congr{n c:Nat}{f a:F2}{x:Nat->Rat}(h:Nul n c f x)(e:Eqm n c f a):Nul n c a x:=((RE.same e).nul x).1 h
def a1n(l:List Rat):Rat:=sm l.length (fn l)
theorem b0M:∀(n:Nat) (F:Nat->Rat),sm (n+1) F=F 0+sm n fun i=>F (i+1)
 |0,F=>by show(0:Rat)+F 0=F 0+0;grind
 |n+1,F=>by
  show sm (n+1) F+F (n+1)=_
  rw[b0M n F]
  show _=F 0+(sm n (fun i=>F (i+1))+F (n+1))
  grind
theorem a2c:a1n []=0:=rfl
theorem a0D(x:Rat)(l:List Rat):a1n (x::l)=x+a1n l:=by
 unfold a1n;rw[List.length_cons,b0M];rfl
theorem a8I(a b:List Rat):a1n (a++b)=a1n a+a1n b:=by
 induction a with
 |nil=>rw[a2c,List.nil_append];grind
 |cons x a ih=>rw[List.cons_append,a0D,a0D,ih];grind
theorem a3m{a b:List Rat}(h:a.Perm b):a1n a=a1n b:=by
 induction h with
 |nil=>rfl
 |cons x _ ih=>rw[a0D,a0D,ih]
 |swap x y l=>rw[a0D,a0D,a0D,a0D];grind
 |trans _ _ h1 h2=>exact h1.trans h2
def srt(l:List Rat):List Rat:=l.mergeSort fun a b=>decide (a<=b)
theorem a1l(l:List Rat):(srt l).Perm l:=List.mergeSort_perm _ _
theorem a1W(l:List Rat):(srt l).length=l.length:=(a1l l).length_eq
theorem a5X(l:List Rat):(srt l).Pairwise (· <= ·):=by
 have:=List.pairwise_mergeSort (le:=fun(a b:Rat)=>decide (a<=b)) (fun a b c d e=>by simp only[decide_eq_true_eq]at*;exact Rat.le_trans d e) (fun a b=>by simp only[Bool.or_eq_true,decide_eq_true_eq];exact Rat.le_total) l;exact this.imp fun h=>by simpa using h
theorem a6B{s l:List Rat}(e:s.Perm l)(hs:s.Pairwise (· <= ·)):s=srt l:=
 List.Perm.eq_of_pairwise (le:=fun a b=>a<=b) (fun _ _ _ _ c d=>Rat.le_antisymm c d) hs (a5X l) (e.trans (a1l l).symm)
def rkA(k t:Int)(n:Nat):Nat:=if k=1 then 0 else if k=2 then(n+1)/2 - 1 else if k=3 then n/2 else if k=4 then(n+1)/2 - 1 else t.toNat
def rkB(k t:Int)(n:Nat):Nat:=if k=1 then n else if k=2 then(n+1)/2 else if k=3 then n/2+1 else if k=4 then n/2+1 else n - t.toNat
def a1B(k t:Int):Prop:=1<=k/\k<=5/\0<=t/\(k=5\/t=0)
def a2J(k t:Int)(n:Nat):Prop:=1<=n/\(k≠5\/t<=((n - 1)/2:Nat))
theorem a7R{k t:Int}{n:Nat}(h:a1B k t)(a:a2J k t n):rkA k t n<rkB k t n/\rkB k t n<=n:=by
 obtain⟨d,e,f,g⟩:=h;obtain⟨b,c⟩:=a;unfold rkA rkB
 repeat' split
 all_goals omega
def a5h(s:List Rat)(a b:Nat):List Rat:=(s.drop a).take (b - a)
theorem a4e{s:List Rat}{a b:Nat}(h:b<=s.length):(a5h s a b).length=b - a:=by simp[a5h];omega
def a5u(k t:Int)(l:List Rat):Rat:=a1n (a5h (srt l) (rkA k t l.length) (rkB k t l.length))/(((rkB k t l.length - rkA k t l.length:Nat):Int):Rat)
def Btw(s:List Rat)(c:Nat)(z:Rat):Prop:=(∀x∈s.take c,x<=z)/\(∀x∈s.drop c,z<=x)
theorem b4Q{l:List Rat}{c:Nat}{z:Rat}(h:Btw (srt l) c z):srt (l++[z])=(srt l).take c++z::(srt l).drop c:=by
 refine(a6B ?_ ?_).symm
 ·refine List.perm_middle.trans ?_
  rw[List.take_append_drop];exact((a1l l).cons z).trans (List.perm_append_singleton z l).symm
 ·have e:=a5X l
  rw[<-List.take_append_drop c (srt l),List.pairwise_append]at e;rw[List.pairwise_append];refine⟨e.1,List.pairwise_cons.2 ⟨h.2,e.2.1⟩,fun a f b d=>?_⟩;rcases List.mem_cons.1 d with rfl|d
  ·exact h.1 a f
  ·exact Rat.le_trans (h.1 a f) (h.2 _ (by
    have:b∈(srt l).drop c:=d;exact this)|>fun g=>g)
end Go.Lin
namespace Go
section
variable {P:Program} {ops:Array Oper} {Q:Exit->Act->World->Prop} {md:Region.Mode} {S:World->Prop} {n:Nat}
def a0X(P:Program)(md:Region.Mode)(ops:Array Oper)(Q:Exit->Act->World->Prop)(S:World->Prop)(n:Nat):Nat->Array Bool->Act->World->Prop
 |0,listed,a,w=>Region.ready md ops listed= []/\Q .normal a w
 |fuel+1,listed,a,w=>
  (Region.ready md ops listed= []->Q .normal a w)/\
  ∀i∈Region.ready md ops listed,wpOp P ops Q i (fun a' w'=>(i<n->S w')/\a0X P md ops Q S n fuel (listed.setIfInBounds i true) a' w') a w
theorem a5Y:∀(fuel:Nat) (listed:Array Bool) (a:Act) (w:World),a0X P md ops Q S n fuel listed a w->wpAny P md ops Q fuel listed a w
 |0,_,_,_,h=>h
 |fuel+1,_,_,_,h=>⟨h.1,fun i hi=>wpOp_mono (fun a' w' h'=>a5Y fuel _ a' w' h'.2) (h.2 i hi)⟩
theorem a4H{i:Nat}{oi:Oper}{v:Value}(hs:Region.sinkB md ops n=true)(hc:Region.chainB md ops n=true)(hn:n<ops.size)(hin:i<n)(hi:ops[i]? =some oi)(hsel:∀(j:Nat) (o:Oper) cs b,ops[j]? =some o->o.op≠ .select cs b)(hQ:∀c a w,Q (.panic c) (a.put oi.dst v) w->Q (.panic c) a w):∀(fuel:Nat) (listed:Array Bool) (a:Act) (w:World),HeadInv md ops n listed-> (∀j oj,ops[j]? =some oj->j≠i->listed.getD j true=false->(∀e∈oj.after,Region.binds md e=true->e.on≠i)->oi.apart ops oj=true)-> i∈Region.ready md ops listed->YieldsIf P ops S oi v a->S w-> a0X P md ops Q S n fuel (listed.setIfInBounds i true) (a.put oi.dst v) w->a0X P md ops Q S n (fuel+1) listed a w:=by
 intro fuel
 induction fuel with
 |zero=>
  intro listed a w _ _ hr hy hS H;refine⟨fun h=>(by rw[h]at hr;cases hr),fun j hj=>?_⟩;by_cases hji:j=i
  ·subst hji;exact hy.wpOp hi hS ⟨fun _=>hS,H⟩
  ·have:=ready_mono hj hji
   rw[H.1]at this;cases this
 |succ fuel ih=>
  intro listed a w inv hfree hr hy hS H;refine⟨fun h=>(by rw[h]at hr;cases hr),fun j hj=>?_⟩;by_cases hji:j=i
  ·subst hji;exact hy.wpOp hi hS ⟨fun _=>hS,H⟩
  ·have hjn:j<n:=by
    rcases Nat.lt_or_ge j n with h|h
    ·exact h
    ·exact absurd hj (tail_waits hs hc hn inv (n - i) i rfl hin (mem_ready.1 hr).1 j h)
   have h1:=H.2 j (ready_mono hj hji);obtain⟨hjun,oj,hoj,hall⟩:=mem_ready.1 hj;have hnot:∀e∈oj.after,Region.binds md e=true->e.on≠i:=fun e he hb heq=>by
    have h1:=hall e he hb;have h0:=(mem_ready.1 hr).1;rw[heq]at h1;rcases Nat.lt_or_ge i listed.size with h'|h'
    ·simp[h']at h0 h1;rw[h0]at h1;cases h1
    ·simp[Array.getElem?_eq_none h']at h1
   have h2:=wpOp_putIf hoj (hfree j oj hoj hji hjun hnot) (fun cs b=>hsel i oi cs b hi) (fun cs b=>hsel j oj cs b hoj) hQ hy h1;have hfree':∀k ok,ops[k]? =some ok->k≠i->(listed.setIfInBounds j true).getD k true=false->
     (∀e∈ok.after,Region.binds md e=true->e.on≠i)->oi.apart ops ok=true:=fun k ok hk hki hun hno=>by
    refine hfree k ok hk hki ?_ hno;by_cases hjk:j=k
    ·subst hjk;exact hjun
    ·rw[getD_set_ne true hjk]at hun;exact hun
   refine wpOp_mono (fun a' w' h3=>⟨h3.2.1,ih (listed.setIfInBounds j true) a' w' (inv.set hj hjn) hfree' (ready_mono hr (Ne.symm hji)) h3.1 (h3.2.1 hjn) ?_⟩) h2;rw[Array.setIfInBounds_comm _ _ hji];exact h3.2.2
def b4R(md:Region.Mode)(ops:Array Oper)(n:Nat)(listed:Array Bool):Bool:=
 decide (listed.size=ops.size)&&
 ((List.range ops.size).all fun j=> !listed.getD j false||(match ops[j]? with|some o=>o.after.all fun e=> !Region.binds md e||listed.getD e.on false|none=>true))&&
 ((List.range ops.size).all fun t=>decide (t<n)|| !listed.getD t true)
theorem a7m{a:Array Bool}(h:b4R md ops n a=true):HeadInv md ops n a:=by
 unfold b4R at h;simp only[Bool.and_eq_true,decide_eq_true_eq]at h;obtain⟨⟨i,k⟩,l⟩:=h;refine⟨i,fun j r g p e o m=>?_,fun t q d=>?_⟩
 ·have c:j<ops.size:=(Array.getElem?_eq_some_iff.1 g).1
  have b:=List.all_eq_true.1 k j (List.mem_range.2 c);rw[p,g]at b;simp only[Bool.not_true,Bool.false_or]at b;have f:=Array.all_eq_true_iff_forall_mem.1 b e o;rw[m]at f;simpa using f
 ·have b:=List.all_eq_true.1 l t (List.mem_range.2 d)
  simp only[Bool.or_eq_true,decide_eq_true_eq,Bool.not_eq_true']at b;rcases b with b|b
  ·omega
  ·exact b
def a9u(md:Region.Mode)(ops:Array Oper)(n i:Nat)(listed:Array Bool):Bool:=
 decide (i<n)&&b4R md ops n listed&&Region.free md ops listed i&&(Region.ready md ops listed).contains i
def a7n(md:Region.Mode)(ops:Array Oper)(n:Nat):Bool:=Region.sinkB md ops n&&Region.chainB md ops n&&decide (n<ops.size)&&Region.noSelect ops
theorem a7S{i:Nat}{f:Oper}{v:Value}{d:Nat}{b:Array Bool}{a:Act}{w:World}(e:Shut (a7n md ops n=true))(hi:ops[i]? =some f)(g:a9u md ops n i b=true)(s:∀c a w,Q (.panic c) (a.put f.dst v) w->Q (.panic c) a w)(t:S w)(u:Region.wanted f (yielded ops a.tmps)=true)(x:∀w,S w->(execOp a.eval f).run P w= .ok (.value v) w)(h:a0X P md ops Q S n d (b.setIfInBounds i true) (a.put f.dst v) w):a0X P md ops Q S n (d+1) b a w:=by
 unfold a9u at g;simp only[Bool.and_eq_true,decide_eq_true_eq]at g;obtain⟨⟨⟨m,o⟩,q⟩,r⟩:=g;have e:=e.out;unfold a7n at e;simp only[Bool.and_eq_true,decide_eq_true_eq]at e;obtain⟨⟨⟨j,k⟩,l⟩,p⟩:=e;exact a4H j k l m hi (Region.noSelect_spec p) s d b a w (a7m o) (Region.free_spec hi q) (by simpa using r) (.inl ⟨u,x⟩) t h
theorem a7T{i:Nat}{o:Oper}{c:Nat}{b:Array Bool}{a:Act}{w:World}(k:Region.ready md ops b= [i])(p:ops[i]? =some o)(h:∀d:Act->World->Prop,Shut (∀a w,S w->(S w->a0X P md ops Q S n c (b.setIfInBounds i true) a w)->d a w)->if Region.wanted o (yielded ops a.tmps)=true then Oper.wp P o a w d Q else d (a.put o.dst undef) w):a0X P md ops Q S n (c+1) b a w:=by
 refine⟨fun e=>(by rw[k]at e;cases e),fun j g=>?_⟩;rw[k]at g;have:j=i:=by simpa using g
 subst this;exact wpOp_step p (fun d l=>h d (fun a w f m=>l a w ⟨fun _=>f,m f⟩))
theorem a7U{i:Nat}{o:Oper}{fuel:Nat}{listed:Array Bool}{a:Act}{w:World}(hr:Region.ready md ops listed= [i])(ho:ops[i]? =some o)(hin:n<=i)(hd:Region.ready md ops (listed.setIfInBounds i true)= [])(h:∀K':Act->World->Prop,Shut (∀a w,Q .normal a w->K' a w)->if Region.wanted o (yielded ops a.tmps)=true then Oper.wp P o a w K' Q else K' (a.put o.dst undef) w):a0X P md ops Q S n (fuel+1) listed a w:=by
 refine⟨fun h0=>(by rw[hr]at h0;cases h0),fun j hj=>?_⟩;rw[hr]at hj;have:j=i:=by simpa using hj
 subst this;refine wpOp_step ho (fun K' hK=>h K' (fun a w hq=>hK a w ⟨fun hlt=>absurd hlt (Nat.not_lt.2 hin),?_⟩));cases fuel with
 |zero=>exact⟨hd,hq⟩
 |succ f=>exact⟨fun _=>hq,by rw[hd];simp⟩
theorem ks(i:Nat){d:Option Tmp}{f:Op}{ty:TypeId}{ps:String}{af:Array Edge}{g:Option (Nat×Bool)}{c:Nat}{b:Array Bool}{a:Act}{w:World}(h:∀e:Act->World->Prop,Shut (∀a w,S w->(S w->a0X P md ops Q S n c (b.setIfInBounds i true) a w)->e a w)->if Region.wanted ⟨d,f,ty,ps,af,g⟩ (yielded ops a.tmps)=true then Oper.wp P ⟨d,f,ty,ps,af,g⟩ a w e Q else e (a.put d undef) w)(j:ops[i]? =some ⟨d,f,ty,ps,af,g⟩:=by rfl)(k:Region.ready md ops b= [i]:=by kernel_rfl):a0X P md ops Q S n (c+1) b a w:=a7T k j h
theorem kl(i:Nat){d:Option Tmp}{j:Op}{ty:TypeId}{ps:String}{af:Array Edge}{g:Option (Nat×Bool)}{c:Nat}{b:Array Bool}{a:Act}{w:World}(h:∀e:Act->World->Prop,Shut (∀a w,Q .normal a w->e a w)->if Region.wanted ⟨d,j,ty,ps,af,g⟩ (yielded ops a.tmps)=true then Oper.wp P ⟨d,j,ty,ps,af,g⟩ a w e Q else e (a.put d undef) w)(k:ops[i]? =some ⟨d,j,ty,ps,af,g⟩:=by rfl)(l:Region.ready md ops b= [i]:=by kernel_rfl)(f:n<=i:=by decide)(hd:Region.ready md ops (b.setIfInBounds i true)= []:=by kernel_rfl):a0X P md ops Q S n (c+1) b a w:=a7U l k f hd h
theorem kcn{K:Act->World->Prop}{c:Nat}{b e:Array Bool}{a d:Act}{w:World}(g:Shut (∀a w,S w->(S w->a0X P md ops Q S n c b a w)->K a w))(i:S w)(h:S w->a0X P md ops Q S n c e d w)(k:b=e:=by first|(simp only[List.setIfInBounds_toArray,List.set_cons_zero,List.set_cons_succ];rfl)|rfl)(j:a=d:=by first|(simp only[Act.put,List.setIfInBounds_toArray,List.set_cons_zero,List.set_cons_succ];rfl)|rfl):K a w:=
 g.out _ _ i fun f=>by rw[k,j];exact h f
theorem a0K{id:Nat}{a:Act}{w:World}(n:Nat)(S:World->Prop)(d:P.follows .mixedOrders=true)(b:a7n .any ops n=true)(c:S w.drew)(h:S w.drew->Shut (a7n .any ops n=true)->a0X P .any ops Q S n ops.size (Array.replicate ops.size false) a w.drew):(Code.region id ops true).wp P Q a w:=
 wp_region_any d (a5Y _ _ _ _ (h c b))
end
end Go
namespace Go
section
variable {P:Program} {ops:Array Oper} {Q:Exit->Act->World->Prop} {md:Region.Mode} {S:World->Prop} {n:Nat}
theorem a7V{i:Nat}{f:Oper}{d:Nat}{b:Array Bool}{a:Act}{w:World}(e:Shut (a7n md ops n=true))(hi:ops[i]? =some f)(g:a9u md ops n i b=true)(s:∀c a w,Q (.panic c) (a.put f.dst undef) w->Q (.panic c) a w)(t:S w)(u:Region.wanted f (yielded ops a.tmps)=false)(h:a0X P md ops Q S n d (b.setIfInBounds i true) (a.put f.dst undef) w):a0X P md ops Q S n (d+1) b a w:=by
 unfold a9u at g;simp only[Bool.and_eq_true,decide_eq_true_eq]at g;obtain⟨⟨⟨m,o⟩,q⟩,r⟩:=g;have e:=e.out;unfold a7n at e;simp only[Bool.and_eq_true,decide_eq_true_eq]at e;obtain⟨⟨⟨j,k⟩,l⟩,p⟩:=e;exact a4H j k l m hi (Region.noSelect_spec p) s d b a w (a7m o) (Region.free_spec hi q) (by simpa using r) (.inr ⟨u,rfl⟩) t h
end
end Go
namespace Go
section
variable {P:Program} {ops:Array Oper} {Q:Exit->Act->World->Prop} {md:Region.Mode} {S:World->Prop} {n:Nat}
theorem kt(i:Nat){d:Option Tmp}{j:Op}{ty:TypeId}{ps:String}{af:Array Edge}{g:Option (Nat×Bool)}{v:Value}{e:Nat}{b l:Array Bool}{a k:Act}{w:World}(o:Shut (a7n md ops n=true))(h:a0X P md ops Q S n e l k w)(hi:ops[i]? =some ⟨d,j,ty,ps,af,g⟩:=by rfl)(m:a9u md ops n i b=true:=by kernel_rfl)(q:S w:=by assumption)(t:Region.wanted ⟨d,j,ty,ps,af,g⟩ (yielded ops a.tmps)=true:=by rfl)(u:∀w,S w->(execOp a.eval ⟨d,j,ty,ps,af,g⟩).run P w= .ok (.value v) w:=by
   intro w f
   (try dsimp only at f)
   go_simp
   all_goals with_reducible rfl)
  (p:∀c a w,Q (.panic c) (a.put d v) w->Q (.panic c) a w:=by exact fun _ _ _ h=>h)
  (s:b.setIfInBounds i true=l:=by first|(simp only[List.setIfInBounds_toArray,List.set_cons_zero,List.set_cons_succ];rfl)|rfl)
  (r:a.put d v=k:=by simp only[Act.put,List.setIfInBounds_toArray,List.set_cons_zero,List.set_cons_succ];rfl):a0X P md ops Q S n (e+1) b a w:=
 a7S o hi m p q t u (by rw[s,r];exact h)
theorem ku(i:Nat){d:Option Tmp}{k:Op}{ty:TypeId}{ps:String}{af:Array Edge}{g:Option (Nat×Bool)}{e:Nat}{b j:Array Bool}{a f:Act}{w:World}(m:Shut (a7n md ops n=true))(h:a0X P md ops Q S n e j f w)(hi:ops[i]? =some ⟨d,k,ty,ps,af,g⟩:=by rfl)(l:a9u md ops n i b=true:=by kernel_rfl)(p:S w:=by assumption)(s:Region.wanted ⟨d,k,ty,ps,af,g⟩ (yielded ops a.tmps)=false:=by rfl)(o:∀c a w,Q (.panic c) (a.put d undef) w->Q (.panic c) a w:=by exact fun _ _ _ h=>h)(r:b.setIfInBounds i true=j:=by first|(simp only[List.setIfInBounds_toArray,List.set_cons_zero,List.set_cons_succ];rfl)|rfl)(q:a.put d undef=f:=by simp only[Act.put,List.setIfInBounds_toArray,List.set_cons_zero,List.set_cons_succ];rfl):a0X P md ops Q S n (e+1) b a w:=
 a7V m hi l o p s (by rw[r,q];exact h)
end
end Go
namespace Go.Lin
def a1C(k t:Int):Bool:=decide (1<=k)&&decide (k<=5)&&decide (0<=t)&&(decide (k=5)||decide (t=0))
def a2K(k t n:Int):Bool:=decide (1<=n)&&(decide (k≠5)||decide (t<=(n - 1)/2))
theorem a1s{k t:Int}:a1C k t=true↔a1B k t:=by
 unfold a1C a1B;simp only[Bool.and_eq_true,Bool.or_eq_true,decide_eq_true_eq,and_assoc]
theorem a5i{k t:Int}{n:Nat}:a2K k t n=true↔a2J k t n:=by
 unfold a2K a2J;simp only[Bool.and_eq_true,Bool.or_eq_true,decide_eq_true_eq];constructor
 ·rintro ⟨b,a⟩;exact⟨by omega,a.imp id fun h=>by omega⟩
 ·rintro ⟨b,a⟩;exact⟨by omega,a.imp id fun h=>by omega⟩
end Go.Lin
namespace Go.Proofs.YtnnpfhoigmegcaaGreat
open Go.RowKit Go.Rep Go.Lim Go.Lin
theorem b7j(w:World)(k t n:Int)(p: -9223372036854775808<=n)(q:n<=9223372036854775807):Calls Tryz.prog 100 #[.agg #[.int .i64 k, .int .i64 t], .int .i64 n] w (fun e w'=>Ext w w'/\e= .returned (.tuple #[.bool (a1C k t), .bool (a2K k t n)])):=by
 obtain⟨W,y,h,i,hz⟩:=a0J w #[.int .i64 k, .int .i64 t] 53;obtain⟨b,o⟩:∃b,w.heap.size=b:=⟨_,rfl⟩;rw[o]at i hz;have z:W.cell? ⟨b,0,none⟩=some (.int .i64 k):=i.cell 0 rfl;have A:W.cell? ⟨b,1,none⟩=some (.int .i64 t):=i.cell 1 rfl;go_enter Tryz.func100,Tryz.ntmps100
 go_upto_region 1 with fail
 (try simp only[Act.put])
 go_cut [4]from 6 to 28 (fun v r=>v= .bool (a1C k t)/\r=W)
 case first=>
  by_cases f:1<=k
  ·by_cases g:k<=5
   ·by_cases j:0<=t
    ·by_cases x:k=5
     ·go_wp2_with fail
      go_meet
      case rel=>exact⟨congrArg Value.bool (by rw[Bool.eq_iff_iff];simp[a1C];try omega),rfl⟩
     ·go_wp2_with fail
      go_meet
      case rel=>exact⟨congrArg Value.bool (by rw[Bool.eq_iff_iff];simp[a1C];try omega),rfl⟩
    ·go_wp2_with fail
     go_meet
     case rel=>exact⟨congrArg Value.bool (by rw[Bool.eq_iff_iff];simp[a1C];try omega),rfl⟩
   ·go_wp2_with fail
    go_meet
    case rel=>exact⟨congrArg Value.bool (by rw[Bool.eq_iff_iff];simp[a1C];try omega),rfl⟩
  ·go_wp2_with fail
   go_meet
   case rel=>exact⟨congrArg Value.bool (by rw[Bool.eq_iff_iff];simp[a1C];try omega),rfl⟩
 case rest=>
  obtain⟨rfl,rfl⟩:=hcut;have c:Ext wc wc.drew:=(ExtX.refl wc).drew;obtain⟨l,d⟩:∃l,a1C k t=l:=⟨_,rfl⟩;rw[d];have a:=hid d;clear d;by_cases f:1<=n
  ·have u:IntKind.i64.wrap (n - 1)=n - 1:=IntWalk.i64_in _ (by omega)
   by_cases g:k=5
   ·subst g
    have s:Int.tdiv (n - 1) 2=(n - 1)/2:=Int.tdiv_eq_ediv_of_nonneg (by omega);by_cases j:t<=(n - 1)/2
    ·go_upto_region 2 with fail
     go_region
     go_wp2_with fail
     go_ret2
     exact⟨h.trans c,by rw[a.out];simp[a2K,f,j]⟩
    ·go_upto_region 2 with fail
     go_region
     go_wp2_with fail
     go_ret2
     exact⟨h.trans c,by rw[a.out];simp[a2K,f,j]⟩
   ·have m:(k !=(5:Int))=true:=by simpa using g
    go_upto_region 2 with fail
    go_region
    go_wp2_with fail
    go_ret2
    exact⟨h.trans c,by rw[a.out];simp[a2K,f,g]⟩
  ·go_upto_region 2 with fail
   go_region
   go_wp2_with fail
   go_ret2
   exact⟨h.trans c,by rw[a.out];simp[a2K];omega⟩
theorem b6i(w:World)(k t:Int)(n:Nat)(B:n<=1000000)(p:a1B k t)(o:a2J k t n):Calls Tryz.prog 101 #[.agg #[.int .i64 k, .int .i64 t], .int .i64 (n:Int)] w (fun e w'=>Ext w w'/\e= .returned (.tuple #[.int .i64 ((rkA k t n:Int)+1), .int .i64 (rkB k t n:Int)])):=by
 obtain⟨W,A,a,c,hz⟩:=a0J w #[.int .i64 k, .int .i64 t] 53;obtain⟨b,l⟩:∃b,w.heap.size=b:=⟨_,rfl⟩;rw[l]at c hz;have C:W.cell? ⟨b,0,none⟩=some (.int .i64 k):=c.cell 0 rfl;have D:W.cell? ⟨b,1,none⟩=some (.int .i64 t):=c.cell 1 rfl;obtain⟨v,x,y,z⟩:=p;obtain⟨r,s⟩:=o;have q:IntKind.i64.wrap ((n:Int)+1)=(n:Int)+1:=IntWalk.i64_in _ (by omega);have f:Int.tdiv ((n:Int)+1) 2=((n:Int)+1)/2:=Int.tdiv_eq_ediv_of_nonneg (by omega);have g:Int.tdiv (n:Int) 2=(n:Int)/2:=Int.tdiv_eq_ediv_of_nonneg (by omega);have h:IntKind.i64.wrap ((n:Int)/2+1)=(n:Int)/2+1:=IntWalk.i64_in _ (by omega);have m:k=1\/k=2\/k=3\/k=4\/k=5:=by omega
 rcases m with rfl|rfl|rfl|rfl|rfl
 ·go_enter Tryz.func101,Tryz.ntmps101
  go_wp2_with fail
  go_ret2
  exact⟨a,by simp[rkA,rkB]⟩
 ·go_enter Tryz.func101,Tryz.ntmps101
  go_wp2_with fail
  go_ret2
  exact⟨a,by simp[rkA,rkB];omega⟩
 ·go_enter Tryz.func101,Tryz.ntmps101
  go_wp2_with fail
  go_ret2
  exact⟨a,by simp[rkA,rkB]⟩
 ·go_enter Tryz.func101,Tryz.ntmps101
  go_wp2_with fail
  go_ret2
  exact⟨a,by simp[rkA,rkB];omega⟩
 ·have u:t<=((n - 1)/2:Nat):=by omega
  have i:IntKind.i64.wrap (t+1)=t+1:=IntWalk.i64_in _ (by omega);have j:IntKind.i64.wrap ((n:Int) - t)=(n:Int) - t:=IntWalk.i64_in _ (by omega);have d:Ext W W.drew:=(ExtX.refl W).drew;go_enter Tryz.func101,Tryz.ntmps101
  go_upto_region 9 with fail
  go_region
  go_wp2_with fail
  go_ret2
  exact⟨a.trans d,by simp[rkA,rkB];omega⟩
open Go.Sort Go.Lib
variable {α:Type} [Inhabited α]
structure SortBy (lt:α->α->Bool) (g:Nat) (lb:Array Value) (sf:Nat) (sb:Array Value) (Y:Nat->Bool) (n:Nat) (I:Array α->World->Prop):Prop where
 enter:∀args w,(callFunc g args).run Tryz.prog w= .ok (.enter g args) w
 ext:∀d w w',I d w->Ext w w'->I d w'
 low:∀d w,I d w->∀k,Y k=true->k<w.heap.size
 less:∀d w,I d w->d.size=n->∀i j:Nat,i<n->j<n->Calls Tryz.prog g (#[.int .i64 i, .int .i64 j]++lb) w fun e w'=>e= .returned (.bool (lt d[i]! d[j]!))/\Ext w w'
 swap:∀d w,I d w->d.size=n->∀i j:Nat,i<n->j<n->i≠j->∃w',(callFunc sf (#[.int .i64 i, .int .i64 j]++sb)).run Tryz.prog w= .ok (.value (.tuple #[])) w'/\I (swp d i j) w'/\ExtX Y w w'
theorem a5Z{lt:α->α->Bool}{g:Nat}{lb:Array Value}{sf:Nat}{sb:Array Value}{Y:Nat->Bool}{n:Nat}{I:Array α->World->Prop}(S:SortBy lt g lb sf sb Y n I)(d:Array α)(w:World)(hI:I d w)(hn:d.size=n)(a b:Nat)(hab:a<=b)(hb:b<=n)(hsz:n<4611686018427387904):Calls Tryz.prog 317 #[.agg #[.func (.func g) #[] lb, .func (.func sf) #[] sb], .int .i64 a, .int .i64 b] w fun e w'=>e= .returned (.tuple #[])/\I (Sort.insertionSort lt d a b) w'/\(Sort.insertionSort lt d a b).size=n/\ExtX Y w w':=by
 obtain⟨W1,hW1⟩:∃W1,w.alloc (.cells #[.func (.func g) #[] lb, .func (.func sf) #[] sb] 232)=W1:=⟨_,rfl⟩;have hE1:Ext w W1:=by rw[<-hW1];exact(ExtX.refl w).alloc _
 have hI1:=S.ext _ _ _ hI hE1;have hY:Y w.heap.size=false:=by
  cases h:Y w.heap.size with
  |false=>rfl
  |true=>exact absurd (S.low _ _ hI _ h) (Nat.lt_irrefl _)
 have c0:W1.cell? ⟨w.heap.size,0,none⟩=some (.func (.func g) #[] lb):=by rw[<-hW1];exact a3J 0 rfl
 have c1:W1.cell? ⟨w.heap.size,1,none⟩=some (.func (.func sf) #[] sb):=by rw[<-hW1];exact a3J 1 rfl
 obtain⟨B,hB⟩:∃B,w.heap.size=B:=⟨_,rfl⟩;have cc:Hid (∀wr,ExtX Y W1 wr->wr.cell? ⟨B,0,none⟩=some (.func (.func g) #[] lb)/\wr.cell? ⟨B,1,none⟩=some (.func (.func sf) #[] sb)):=hid fun wr h=>by
  rw[hB]at c0 c1 hY;exact⟨h.cellY c0 hY,h.cellY c1 hY⟩
 have HE1:=hid hE1;have eg:=S.enter;clear c0 c1 hY hI hE1;go_enter Tryz.func317,Tryz.ntmps317
 go_wp2
 (try rw[hW1])
 (try rw[hB])
 go_loopw [6] (fun vi wr=>∃(i:Nat) (dk:Array α),vi= .int .i64 i/\a<i/\i<=b+1/\dk.size=n/\I dk wr/\ExtX Y W1 wr/\insOuter lt a b i dk=insOuter lt a b (a+1) d) (fun vi _=>b+1 - (intOf vi).toNat)
 case atStart=>exact⟨a+1,d,by go_num,by omega,by omega,hn,hI1,ExtX.refl _,rfl⟩
 case round=>
  obtain⟨i,dk,rfl,hai,hib,hsk,hIk,hEk,hO⟩:=hrel;have HO:Hid (insOuter lt a b i dk=insOuter lt a b (a+1) d):=hO;clear hO
  go_wp2
  ·go_loopw [7] (fun vj wr2=>∃(j:Nat) (dj:Array α),vj= .int .i64 j/\a<=j/\j<=i/\dj.size=n/\I dj wr2/\ExtX Y W1 wr2/\insInner lt a j dj=insInner lt a i dk) (fun vj _=>(intOf vj).toNat)
   case atStart=>exact⟨i,dk,rfl,by omega,Nat.le_refl _,hsk,hIk,hEk,rfl⟩
   case round=>
    rename_i wr0 _ _ wr
    obtain⟨j,dj,rfl,haj,hji,hsj,hIj,hEj,hIn⟩:=hrel;have hlt:i<b:=by assumption
    obtain⟨c0,c1⟩:=cc.out wr hEj;have HI:Hid (insInner lt a j dj=insInner lt a i dk):=hIn;clear hIn;have out:(j<=a\/lt dj[j]! dj[j - 1]! =false)->∀w',Ext wr w'->∃(i':Nat) (dk':Array α),Value.int .i64 ((i:Int)+1)= .int .i64 (i':Nat)/\a<i'/\i'<=b+1/\dk'.size=n/\I dk' w'/\ExtX Y W1 w'/\insOuter lt a b i' dk'=insOuter lt a b (a+1) d:=fun hs w' hE'=>
     ⟨i+1,dj,by go_num,by omega,by omega,hsj,S.ext _ _ _ hIj hE',hEj.trans (ExtX.of hE'),by rw[<-HO.out,insOuter_go _ _ _ _ _ hlt,<-HI.out,insInner_stop _ _ _ _ hs]⟩
    have OUT:Hid _:=out;clear out;by_cases hja:a<j
    ·have hl:=S.less dj wr hIj hsj j (j - 1) (by omega) (by omega)
     rw[show(((j - 1:Nat):Int))=(j:Int) - 1 by omega]at hl;cases hlv:lt dj[j]! dj[j - 1]! with
     |true=>
      rw[hlv]at hl;go_wp2_with (go_at_fn g;refine hl.mono ?_;rintro e w' ⟨rfl,hE'⟩;have c2:=hE'.cell c0;have c3:=hE'.cell c1)
      obtain⟨ws,hs,hIs,hEs⟩:=S.swap dj w' (S.ext _ _ _ hIj hE') hsj j (j - 1) (by omega) (by omega) (by omega);rw[show(((j - 1:Nat):Int))=(j:Int) - 1 by omega]at hs;rw[hs,Oper.upon_value]
      go_wp2
      go_roundw
      case rel=>
       (repeat apply Exists.intro)
       refine⟨⟨j - 1,swp dj j (j - 1),by congr 1<;>omega,by omega,by omega,by rw[size_swp];exact hsj,hIs,(hEj.trans (ExtX.of hE')).trans hEs,?_⟩,by rw[decide_eq_true hlt,show((j - 1:Nat):Int)=(j:Int) - 1 by omega]⟩;rw[<-HI.out,insInner_go lt a j dj hja hlv]
      case measure=>simp[intOf];omega
     |false=>
      rw[hlv]at hl;go_wp2_with (go_at_fn g;refine hl.mono ?_;rintro e w' ⟨rfl,hE'⟩)
      go_roundw
      case rel=>exact OUT.out (Or.inr hlv) _ hE'
      case measure=>simp[intOf];omega
    ·go_wp2
     go_roundw
     case rel=>exact OUT.out (Or.inl (by omega)) _ (ExtX.refl _)
     case measure=>simp[intOf];omega
  ·have hge:¬i<b:=by assumption
   go_end0
   have hfin:Sort.insertionSort lt d a b=dk:=by unfold Sort.insertionSort;rw[<-HO.out,insOuter_stop _ _ _ _ _ hge]
   exact⟨rfl,by rw[hfin];exact hIk,by rw[hfin];exact hsk,(ExtX.of HE1.out).trans hEk⟩
end Go.Proofs.YtnnpfhoigmegcaaGreat
namespace Go.Proofs.YtnnpfhoigmegcaaGreat
open Go.RowKit Go.Rep Go.Sort Go.Lib
variable {α:Type} [Inhabited α]
theorem a9v{lt:α->α->Bool}{g:Nat}{lb:Array Value}{sf:Nat}{sb:Array Value}{Y:Nat->Bool}{n:Nat}{I:Array α->World->Prop}(S:SortBy lt g lb sf sb Y n I)(d:Array α)(w:World)(hI:I d w)(hn:d.size=n)(h20:n<=20):Calls Tryz.prog 267 #[.agg #[.func (.func g) #[] lb, .func (.func sf) #[] sb], .int .i64 n] w fun e w'=>e= .returned (.tuple #[])/\I (Sort.insertionSort lt d 0 n) w'/\(Sort.insertionSort lt d 0 n).size=n/\ExtX Y w w':=by
 obtain⟨W1,hW1⟩:∃W1,w.alloc (.cells #[.func (.func g) #[] lb, .func (.func sf) #[] sb] 232)=W1:=⟨_,rfl⟩;have hE1:Ext w W1:=by rw[<-hW1];exact(ExtX.refl w).alloc _
 have hI1:=S.ext _ _ _ hI hE1;have hY:Y w.heap.size=false:=by
  cases h:Y w.heap.size with
  |false=>rfl
  |true=>exact absurd (S.low _ _ hI _ h) (Nat.lt_irrefl _)
 have c0:W1.cell? ⟨w.heap.size,0,none⟩=some (.func (.func g) #[] lb):=by rw[<-hW1];exact a3J 0 rfl
 have c1:W1.cell? ⟨w.heap.size,1,none⟩=some (.func (.func sf) #[] sb):=by rw[<-hW1];exact a3J 1 rfl
 obtain⟨B,hB⟩:∃B,w.heap.size=B:=⟨_,rfl⟩;have HE1:=hid hE1;have hi:=a5Z S d W1 hI1 hn 0 n (Nat.zero_le _) (Nat.le_refl _) (by omega);rw[hB]at c0 c1 hY;clear hI hE1 hI1;go_enter Tryz.func267,Tryz.ntmps267
 go_wp2
 (try rw[hW1])
 (try rw[hB])
 rcases Nat.lt_or_ge n 20 with h|h
 ·refine wp_loop_rounds 1 ?_
  rw[rounds_succ];go_wp2_with (go_at_call 317;refine hi.mono ?_;rintro e w1 ⟨rfl,hI2,hs2,hE2⟩)
  refine wp_loop_rounds 1 ?_;rw[rounds_succ]
  go_wp2
  all_goals first|(exfalso;omega)|(go_end0;exact⟨rfl,hI2,hs2,(ExtX.of HE1.out).trans hE2⟩)
 ·have hn20:n=20:=by omega
  subst hn20;refine wp_loop_rounds 2 ?_;rw[rounds_succ];go_wp2_with (go_at_call 317;refine hi.mono ?_;rintro e w1 ⟨rfl,hI2,hs2,hE2⟩;have c2:=hE2.cellY c0 hY;have c3:=hE2.cellY c1 hY)
  have hi2:=a5Z S _ w1 hI2 hs2 20 20 (Nat.le_refl _) (Nat.le_refl _) (by omega);rw[rounds_succ];go_wp2_with (go_at_call 317;refine hi2.mono ?_;rintro e w2 ⟨rfl,hI3,hs3,hE3⟩)
  refine wp_loop_rounds 1 ?_;rw[rounds_succ]
  go_wp2
  have hst:Sort.insertionSort lt (Sort.insertionSort lt d 0 20) 20 20=Sort.insertionSort lt d 0 20:=by
   rw[show Sort.insertionSort lt (Sort.insertionSort lt d 0 20) 20 20=insOuter lt 20 20 21 (Sort.insertionSort lt d 0 20)from rfl,insOuter_stop _ _ _ _ _ (by omega)]
  rw[hst]at hI3
  all_goals first|(exfalso;omega)|(go_end0;exact⟨rfl,hI3,hs2,(ExtX.of HE1.out).trans (hE2.trans hE3)⟩)
theorem a2k(t e:TypeId)(i d:TypeInfo)(hi:Tryz.prog.info? t=some i)(hd:i.desc= .slice e)(m:Tryz.prog.packed t=false)(j:Tryz.prog.info? e=some d)(h:Nat)(k:∀w,(Extern.Rtype.kind e).run Tryz.prog w= .ok h w)(p:Option Addr)(n c:Nat)(_:n<4611686018427387904)(f:Nat)(y:Tryz.prog.funcs.findIdx? (·.name== "internal/reflectlite" ++ ".Swapper$" ++toString (swapperK n d h))=some f)(g:Nat)(r:Array Value)(w:World)(R:World->Prop)(o:∀s,Ext w s->Calls Tryz.prog 267 #[.agg #[.func (.func g) #[] r, .func (.func f) #[] (if swapperK n d h<=2 then#[]else#[.slice p n c,typeHandle Tryz.prog e])], .int .i64 n] s fun e w'=>e= .returned (.tuple #[])/\R w'):Calls Tryz.prog 186 #[.iface t (.slice p n c), .func (.func g) #[] r] w fun e w'=>e= .returned (.tuple #[])/\R w':=by
 have q:=run_valueOf_slice (P:=Tryz.prog) t e i hi hd p n c w;have hs:=fun w=>run_swapper_slice (P:=Tryz.prog) t e i d hi hd j h k p n c f y w;have b:=fun a w x=>run_valueLen_slice (P:=Tryz.prog) t e i hi hd m a p n c w x;generalize (if swapperK n d h<=2 then(#[]:Array Value)else#[.slice p n c,typeHandle Tryz.prog e])=B at hs o;simp only[typeHandle]at q b
 (first|rw[show Tryz.prog.globals.size=1 by kernel_rfl]at b|rw[show Tryz.prog.globals.size=0 by kernel_rfl]at b|rw[show Tryz.prog.globals.size=2 by kernel_rfl]at b|rw[show Tryz.prog.globals.size=3 by kernel_rfl]at b)
 have u:Ext w ((w.alloc (.cells #[.slice p n c] t)).alloc (.cells #[.pointer (some ⟨Tryz.prog.globals.size,t,none⟩), .pointer (some ⟨w.heap.size,0,none⟩), .int .u64 151] 226)):=((ExtX.refl w).alloc _).alloc _;have l:=o _ u;go_enter Tryz.func186,Tryz.ntmps186
 go_wp2
 rw[run_callFunc_extern Tryz.func265 (by kernel_rfl) (by kernel_rfl) (by kernel_rfl) (e:=fun args=>Extern.ReflectliteValue.unpack (args.getD 0 (.tuple #[]))) (by kernel_rfl),
  show Sem.run Tryz.prog ((fun args:Array Value=>Extern.ReflectliteValue.unpack (args.getD 0 (.tuple #[]))) #[.iface t (.slice p n c)]) w=_ from q]
 simp only[Result.andThen];rw[Oper.upon_value]
 go_wp2
 rw[run_callFunc_extern Tryz.func266 (by kernel_rfl) (by kernel_rfl) (by kernel_rfl) (e:=Extern.ReflectliteSwapper.swapper "internal/reflectlite" (Extern.ReflectliteValue.valueError "Swapper")) (by kernel_rfl),hs];simp only[Result.andThen];rw[Oper.upon_value]
 go_wp2
 rw[run_callFunc_extern Tryz.func268 (by kernel_rfl) (by kernel_rfl) (by kernel_rfl) (e:=Extern.ReflectliteValue.method (Extern.ReflectliteValue.valueError "reflectlite.Value.Len" 0) Extern.ReflectliteValue.len) (by kernel_rfl),
  b _ _ (by simp)]
 simp only[Result.andThen];rw[Oper.upon_value];go_wp2_with (go_at_call 267;refine l.mono ?_;rintro e w' ⟨rfl,v⟩)
 go_end0
 exact⟨rfl,v⟩
end Go.Proofs.YtnnpfhoigmegcaaGreat
namespace Go.Rep
open Go.RowKit Go.Lim Go.Extern Go.Extern.Rtype Go.Lib
section
variable {P:Program} {α:Type} {R:Mem->Value->α->Prop} {sz:Nat} {X:Nat->Bool} {base:Nat} {e:TypeId} {w:World} {ao:Option Addr} {cap:Nat} {l:List α}
theorem OL.run_load{t:TypeId}{ti:TypeInfo}(z:P.info? t=some ti)(n:ti.size=sz)(f:∀w,(isAgg t).run P w= .ok true w)(_:Elem R sz)(y:∀h u x,R h u x->∃d,u= .agg d)(h:OL R sz X base e w ao cap l)(i:Nat)(hi:i<l.length):∃u,(loadVar t (adr ao (i*sz))).run P w= .ok u w/\R (mk (un X ao) w) u l[i]:=by
 obtain⟨us,A,o,_,s,p⟩:=h.cells;have b:i<us.length:=by omega
 obtain⟨d,c⟩:=y _ _ _ (p i b hi);have g:d.size=sz:=by have:=o _ (List.getElem_mem b);rw[c]at this;exact this
 have r:=run_loadCells_list (P:=P) w (adr ao (i*sz)) d.toList (fun j v q=>by
  rw[a6c];have k:j<sz:=by rw[<-g];exact(List.getElem?_eq_some_iff.1 q).1
  have a:=a2p us i j b o k;rw[c]at a;have m:(a0g (.agg d))[j]? =some v:=by simpa[a0g,Value.cells]using q
  rw[m]at a;exact(s _ _ a).1)
 refine⟨us[i],?_,p i b hi⟩;rw[c];simp only[Array.length_toList,g,Array.toArray_toList]at r;simp[loadVar,f,sizeOf,typeInfo,z,n,r,Result.andThen]
theorem OL.run_swap{t:TypeId}{ti:TypeInfo}(g:Bool)(k:P.info? t=some ti)(a:ti.size=sz)(d:∀w,(isAgg t).run P w= .ok true w)(f:Elem R sz)(n:∀h u x,R h u x->∃y,u= .agg y)(h:OL R sz X base e w ao cap l)(i j:Nat)(hi:i<l.length)(o:j<l.length)(c:Nat):∃w',(ReflectliteSwapper.swap g #[.int .i64 i, .int .i64 j, .slice ao l.length c,typeHandle P t]).run P w= .ok (.tuple #[]) w'/\OL R sz X base e w' ao cap ((l.set i l[j]).set j l[i])/\ExtX (ob ao) w w':=by
 obtain⟨u,p,G⟩:=h.run_load (P:=P) k a d f n i hi;obtain⟨v,q,rv⟩:=h.run_load (P:=P) k a d f n j o;obtain⟨I,r,E,e1⟩:=h.run_store (P:=P) k a f i hi v l[j] rv;have m:=f.mono _ _ _ _ (a2f e1 (.inl rfl)) G;obtain⟨H,s,F,e2⟩:=E.run_store (P:=P) k a f j (by simpa using o) u l[i] m;refine⟨H,?_,F,e1.trans e2⟩;rcases h.form with⟨rfl,rfl,rfl⟩|⟨b,z,rfl,_⟩
 ·simp at hi
 have A:¬((i:Int)<0):=by omega
 have B:¬((i:Int)>=l.length):=by omega
 have C:¬((j:Int)<0):=by omega
 have D:¬((j:Int)>=l.length):=by omega
 simp only[adr,Option.getD_some,Nat.zero_add]at p q r s;rw[rl_swap];cases g<;>simp[A,B,C,D,ofHandle,handleType,typeHandle,ReflectliteSwapper.exchange,sizeOf,typeInfo,k,a,Addr.add_lit,p,q,r,s,Result.andThen]
end
theorem a6a{α:Type}[Inhabited α](d:Array α)(i j:Nat)(hi:i<d.toList.length)(c:j<d.toList.length):(Go.Sort.swp d i j).toList=(d.toList.set i d.toList[j]).set j d.toList[i]:=by
 have a:i<d.size:=by simpa using hi
 have b:j<d.size:=by simpa using c
 unfold Go.Sort.swp;simp[a,b]
end Go.Rep
namespace Go.Proofs.YtnnpfhoigmegcaaGreat
open Go.RowKit Go.Rep Go.Lim
open Go.Lin
theorem a8J(X:Nat->Bool)(w:World)(u v:Value)(l m:List Rat)(hX:HX X w)(hu:RV (mk X w) u l)(hv:RV (mk X w) v m)(hn:l.length<=1000000)(q:m.length=l.length)(A:∀k,k<=l.length->hq (a7N l m k)<=68719476736)(B:∀k,k<l.length->hq (l.getD k 0*m.getD k 0)<=68719476736):Calls Tryz.prog 98 #[u,v] w (a1u X w QC (b2v l m)):=by
 obtain⟨ao,ca,rfl,c2,a4⟩:=hu;obtain⟨bo,cb,rfl,c3,a5⟩:=hv;have T:=a4.hd;have U:=a5.hd;obtain⟨W,hW,hE,G,t,hz⟩:=a0W w #[.bool false, .slice none 0 0, .slice none 0 0] #[.bool false, .slice none 0 0, .slice none 0 0] 41 41;have J:HX (a0e X w.heap.size 2) W:=hX.boxes hz;have h0:QC (mk (a0e X w.heap.size 2) W) (.agg #[.bool false, .slice none 0 0, .slice none 0 0]) (a7N l m 0):=QC.zero _;obtain⟨n,p⟩:∃n,l.length=n:=⟨_,rfl⟩;rw[p]at hn q A B c2 T |-;rw[q]at c3 U |-;have a0:=hid p;have a1:=hid q;have L:=hid A;have M:=hid B;have Q:Hid (a7N l m n=b2v l m):=hid (by unfold b2v;rw[p]);clear p q A B;go_enter Tryz.func98,Tryz.ntmps98
 go_wp2_with fail
 obtain⟨b,hb⟩:∃b,w.heap.size=b:=⟨_,rfl⟩;have Z:Hid (∀wr,Ext w wr->Le (mk X w) (mk (a0e X b 2) wr)):=hid fun wr h=>by rw[<-hb];exact a0i h
 have f3:w.heap.size<=b:=by omega
 rw[hb]at G t J h0 |-;clear hW;go_loopw [9] (fun k wr=>∃(i:Nat) (s:Bool) (a:Option Addr) (n' c':Nat) (d:Option Addr) (kk e:Nat),k= .int .i64 i/\i<=n/\Bx wr b #[.bool false, .slice none 0 0, .slice none 0 0] 41/\Bx wr (b+1) #[.bool s, .slice a n' c', .slice d kk e] 41/\QC (mk (a0e X b 2) wr) (.agg #[.bool s, .slice a n' c', .slice d kk e]) (a7N l m i)/\HX (a0e X b 2) wr/\Ext w wr) (fun k _=>n - (intOf k).toNat)
 case atStart=>exact⟨0,_,_,_,_,_,_,_,rfl,Nat.zero_le _,G,t,h0,J,hE⟩
 case round=>
  obtain⟨i,s,a,n',c',d,kk,e,rfl,hi,G,t,hq,c1,o⟩:=hrel;by_cases E:i<n
  ·have V:i<l.length:=by rw[a0.out];exact E
   have Y:i<m.length:=by rw[a1.out];exact E
   have d0:=a4.mono QV.mono (Z.out wr o);have a8:=a5.mono QV.mono (Z.out wr o);obtain⟨g1,o1,s1,p1,n1,q1,d1,k1,e1,R,e8,O,a2⟩:=d0.rat QV.shaped i V;obtain⟨g2,o2,s2,p2,n2,q2,d2,k2,e2,S,e9,P,a3⟩:=a8.rat QV.shaped i Y;have gl:Hid (l.getD i 0=l[i]):=hid (by simp[List.getD_eq_getElem?_getD,V]);have gm:Hid (m.getD i 0=m[i]):=hid (by simp[List.getD_eq_getElem?_getD,Y]);have r:Hid (a7N l m i+l[i]*m[i]=a7N l m (i+1)):=hid (by rw[<-gl.out,<-gm.out];rfl);have N:=hid (L.out i hi);have C:=hid (M.out i E);rw[gl.out,gm.out]at C;obtain⟨x,hx⟩:∃x,l[i]=x:=⟨_,rfl⟩;obtain⟨y,hy⟩:∃y,m[i]=y:=⟨_,rfl⟩;rw[hx,hy]at r C;rw[hx]at a2;rw[hy]at a3;have i1:∀W,(Instr.indexAt 26 (.slice ao n ca) (.int .i64 (i:Int))).run Tryz.prog W= .ok (.pointer (some ⟨g1,o1,none⟩)) W:=by rw[<-R];exact a0o a1b ao n ca .i64 i T (by omega)
   have i2:∀W,(Instr.indexAt 26 (.slice bo n cb) (.int .i64 (i:Int))).run Tryz.prog W= .ok (.pointer (some ⟨g2,o2,none⟩)) W:=by rw[<-S];exact a0o a1b bo n cb .i64 i U (by omega)
   obtain⟨D,hD⟩:∃D,a7N l m i=D:=⟨_,rfl⟩;obtain⟨D2,z⟩:∃D2,a7N l m (i+1)=D2:=⟨_,rfl⟩;rw[hD]at hq r N;rw[z]at r;have H:=hid z;clear hx hy R S hD z;have c:Ext wr wr.drew:=(ExtX.refl wr).drew;have b5:=G.ext0 c;have g:=t.ext0 c;have b2:=g.cell 0 rfl;have b3:=g.cell 1 rfl;have b4:=g.cell 2 rfl;obtain⟨d5,d8,d9⟩:=O.out noY wr.drew c rfl;obtain⟨e0,e3,e4⟩:=P.out noY wr.drew c rfl;have K:=c1.ext c;have d3:QV (mk (a0e X b 2) wr.drew) (.agg #[.bool s1, .slice p1 n1 q1, .slice d1 k1 e1]) x:=mkx QV.mono a2 c;have d4:QV (mk (a0e X b 2) wr.drew) (.agg #[.bool s2, .slice p2 n2 q2, .slice d2 k2 e2]) y:=mkx QV.mono a3 c;have c8:QV (mk (a0e X b 2) wr.drew) (.agg #[.bool s, .slice a n' c', .slice d kk e]) D:=(mkx QC.mono hq c).qv N.out;clear O P;go_wp2_with fail
   go_region_with (first|(go_at_call 151;(with_reducible refine(b7D (a0e X b 2) wr.drew _ _ _ _ K d3 d4).mono ?_);rintro ee w6 ⟨t1,u6,rfl,a9⟩;obtain⟨s6,a6,n6,c6,d6,k6,e6,rfl⟩:=a9.shape;have I:=K.ext t1;have c9:=mkx QV.mono c8 t1;have c5:=a9.qv C.out;have j:=g.ext0 t1;have m0:=j.cell 0 rfl;have m1:=j.cell 1 rfl;have m2:=j.cell 2 rfl)|(go_at_call 182;(with_reducible refine(b5B (a0e X b 2) w6 _ _ _ _ I c9 c5).mono ?_);rintro ee w7 ⟨t7,u7,rfl,F⟩;obtain⟨s7,a7,n7,c7,d7,k7,e7,rfl⟩:=F.shape;rw[r.out]at F;have f:=j.ext0 t7;have g0:=f.cell 0 rfl;have b7:=f.cell 1 rfl;have b8:=f.cell 2 rfl;have f0:=f.frozen 0;have f1:=f.frozen 1;have f2:=f.frozen 2))
   all_goals
    obtain⟨z1,z2⟩:=f.set3 (.bool s7) (.slice a7 n7 c7) (.slice d7 k7 e7);have h8:=QC.mono _ _ _ _ (a0f (lo:=b) (nb:=2) z2 (by omega) (by omega)) F;have b6:=((b5.ext0 t1).ext0 t7).ext z2 (a0b (by omega));have b9:Ext w _:=ExtX.box (o.trans (c.trans (t1.trans t7))) z2 (by omega);have c0:=(I.ext t7).ext z2;rw[<-H.out]at h8;clear b2 b3 b4 d5 d8 d9 e0 e3 e4 m0 m1 m2 g0 b7 b8 f0 f1 f2 i1 i2;go_wp2_with fail
    go_roundw
    case rel=>exact⟨i+1,_,_,_,_,_,_,_,by go_num,by omega,b6,z1,h8,c0,b9⟩
    case measure=>simp[intOf];omega
  ·have c4:i=n:=by omega
   subst c4;rw[Q.out]at hq;have b2:=t.cell 0 rfl;have b3:=t.cell 1 rfl;have b4:=t.cell 2 rfl;go_wp2_with ((with_reducible show wpList _ _ _ (⟨_, .store _ _ _,_,_,_,_⟩::_) _ _);refine a0a a0j rfl rfl G rfl rfl (a1q _ _ _ _ _ _ _) ?_;intro w7 r1 r2)
   have h7:=QC.mono _ _ _ _ a0h (QC.mono _ _ _ _ (a0f r2 (by omega) (by omega)) hq);exact bodyPost_ret (a0d rfl rfl a0j r1 rfl) rfl ⟨ExtX.box o r2 (by omega),_,rfl,h7⟩
end Go.Proofs.YtnnpfhoigmegcaaGreat
