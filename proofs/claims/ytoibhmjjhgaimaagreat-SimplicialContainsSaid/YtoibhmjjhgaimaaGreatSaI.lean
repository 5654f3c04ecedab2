/- Rows exchanged, rows cleared: steps on matrices that a call has made itself. Conditions: none. matrix: echelon. Conditions: few rows and columns, numbers of at most 2^36 digits. matrix: reduce. Conditions: few rows and columns, numbers of at most 2^36 digits. matrix: Reduce. Conditions: few rows and columns, numbers of at most 2^36 digits. matrix: Null; slices.Contains. Conditions: few rows and columns, numbers of few digits. exact: Minus. Conditions: at most 10^6 numbers of at most 2^36 digits. halfspace: centred. Conditions: at most 1000 rows and columns. exact: Dot. Conditions: few numbers of at most 2^36 digits. halfspace: Count. Conditions: numbers of at most 10^10 digits. append to a slice without room that is not the call's own: a new block. Conditions: none. append(nil, l...): a copy in a new block. Conditions: none. append where there is room; a list that is cut. Conditions: none. -/
import Derived.Test.YtoibhmjjhgaimaaGreatSaH
import Derived.WalkMore
import Derived.ArgAppend
namespace Go.Lin
theorem a2p {m:Mat} {i:Nat} (h:i<m.length):m.getD i []=m[i]:=by simp[List.getD_eq_getElem?_getD,h]
theorem b2k (m:Mat) (t col:Nat):clear m t col 0=m:=by
 unfold clear rows;refine List.ext_getElem (by simp) fun q h1 h2=>?_;rw[List.getElem_mapIdx,if_neg (by omega)]
theorem a2N {m:Mat} {t col s i:Nat} (h:i<(clear m t col s).length) (h2:i<m.length):(clear m t col s)[i]=if t<i/\i<t+1+s then a3a m[i] (m.getD t []) col else m[i]:=by
 show(m.mapIdx _)[i]'(by simpa using h2)=_
 rw[List.getElem_mapIdx]
theorem a2v (m:Mat) (t col s:Nat):(clear m t col s).length=m.length:=by simp[clear,rows]
theorem b4a {m:Mat} {t col s:Nat} (h:t+1+s<m.length):(clear m t col s).set (t+1+s) (a3a m[t+1+s] (m.getD t []) col)=clear m t col (s+1):=by
 refine List.ext_getElem (by simp[a2v]) fun q h1 h2=>?_;have hq:q<m.length:=by rw[a2v]at h2;exact h2
 rw[List.getElem_set,a2N h2 hq];split
 ·subst_vars;rw[if_pos (by omega)]
 ·rw[a2N (by simpa[a2v]using hq) hq]
  by_cases a:t<q/\q<t+1+s
  ·rw[if_pos a,if_pos (by omega)]
  ·rw[if_neg a,if_neg (by omega)]
theorem b2l {m:Mat} {t col s s':Nat} (h:m.length<=t+1+s) (h':m.length<=t+1+s'):clear m t col s=clear m t col s':=by
 refine List.ext_getElem (by simp[a2v]) fun q h1 h2=>?_;have hq:q<m.length:=by rw[a2v]at h2;exact h2
 rw[a2N h1 hq,a2N h2 hq];by_cases a:t<q
 ·rw[if_pos (by omega),if_pos (by omega)]
 ·rw[if_neg (by omega),if_neg (by omega)]
theorem b2m (m:Mat) (t col:Nat):above m t col 0=m:=by
 unfold above rows;refine List.ext_getElem (by simp) fun q h1 h2=>?_;rw[List.getElem_mapIdx,if_neg (by omega)]
theorem a4f {m:Mat} {t col s i:Nat} (h:i<(above m t col s).length) (h2:i<m.length):(above m t col s)[i]=if i<t/\i<s then a3a m[i] (m.getD t []) col else m[i]:=by
 show(m.mapIdx _)[i]'(by simpa using h2)=_
 rw[List.getElem_mapIdx]
theorem a4g (m:Mat) (t col s:Nat):(above m t col s).length=m.length:=by simp[above,rows]
theorem b4b {m:Mat} {t col s:Nat} (h:s<m.length) (hst:s<t):(above m t col s).set s (a3a m[s] (m.getD t []) col)=above m t col (s+1):=by
 refine List.ext_getElem (by simp[a4g]) fun q h1 h2=>?_;have hq:q<m.length:=by rw[a4g]at h2;exact h2
 rw[List.getElem_set,a4f h2 hq];split
 ·subst_vars;rw[if_pos (by omega)]
 ·rw[a4f (by simpa[a4g]using hq) hq]
  by_cases a:q<t/\q<s
  ·rw[if_pos a,if_pos (by omega)]
  ·rw[if_neg a,if_neg (by omega)]
end Go.Lin
namespace Go.Rep
open Go.RowKit Go.Lim Go.Lin
theorem b6e {hs:List Hdr} {i k:Nat} (hi:i<hs.length) (hk:k<hs.length):obs ((hs.set i hs[k]).set k hs[i])=obs hs:=by
 funext b
 rw[Bool.eq_iff_iff];constructor
 ·intro h
  obtain⟨q,hq,h2⟩:=a5u h;simp only[List.length_set]at hq;rw[List.getElem_set]at h2;split at h2
  ·exact a1B hi h2
  ·rw[List.getElem_set]at h2
   split at h2
   ·exact a1B hk h2
   ·exact a1B hq h2
 ·intro h
  obtain⟨q,hq,h2⟩:=a5u h;by_cases a:q=i
  ·subst a
   refine a1B (i:=k) (by simpa using hk) ?_;rw[List.getElem_set_self];exact h2
  ·by_cases b':q=k
   ·subst b'
    refine a1B (i:=i) (by simpa using hi) ?_;rw[List.getElem_set_ne (by omega),List.getElem_set_self];exact h2
   ·refine a1B (i:=q) (by simpa using hq) ?_
    rw[List.getElem_set_ne (by omega),List.getElem_set_ne (by omega)];exact h2
section
variable {X:Nat->Bool} {base:Nat} {e1 e2:TypeId} {w w':World} {ao:Option Addr} {cap:Nat} {hs:List Hdr} {m:List (List Rat)}
theorem b4c {m:Mat} {i k q:Nat} (hi:i<m.length) (hk:k<m.length) (hq:q<(a1b m i k).length):(a1b m i k)[q]=if q=k then m[i]else if q=i then m[k]else m[q]'(by simpa[a1b]using hq):=by
 simp only[a1b,a2p hi,a2p hk];rw[List.getElem_set];by_cases a:k=q
 ·rw[if_pos a,if_pos a.symm]
 ·rw[if_neg a,if_neg (Ne.symm a),List.getElem_set]
  by_cases b:i=q
  ·rw[if_pos b,if_pos b.symm]
  ·rw[if_neg b,if_neg (Ne.symm b)]
theorem b6f {hs:List Hdr} {i k q:Nat} (hi:i<hs.length) (hk:k<hs.length) (hq:q<((hs.set i hs[k]).set k hs[i]).length):((hs.set i hs[k]).set k hs[i])[q]=if q=k then hs[i]else if q=i then hs[k]else hs[q]'(by simpa using hq):=by
 rw[List.getElem_set];by_cases a:k=q
 ·rw[if_pos a,if_pos a.symm]
 ·rw[if_neg a,if_neg (Ne.symm a),List.getElem_set]
  by_cases b:i=q
  ·rw[if_pos b,if_pos b.symm]
  ·rw[if_neg b,if_neg (Ne.symm b)]
theorem MO.swap (h:MO X base e1 e2 w ao cap hs m) {i k:Nat} (hi:i<hs.length) (hk:k<hs.length) (hE:ExtX (ob ao) w w') (ho:OL HdR 1 X base e1 w' ao cap ((hs.set i hs[k]).set k hs[i])):MO X base e1 e2 w' ao cap ((hs.set i hs[k]).set k hs[i]) (a1b m i k):=by
 have hl:=h.len;refine h.perm (fun q=>if q=k then i else if q=i then k else q) (fun q hq=>?_) (fun a b ha hb hab=>?_) (fun q hq=>?_) (by simp) (by simp[a1b]) (fun q hq hq'=>?_) (fun q hq hq'=>?_) hE ho
 ·split
  ·exact hi
  ·split
   ·exact hk
   ·exact hq
 ·split at hab<;>split at hab<;>(try split at hab)<;>(try split at hab)<;>omega
 ·by_cases a:q=i
  ·exact⟨k,hk,by simp[a]⟩
  ·by_cases b:q=k
   ·refine⟨i,hi,?_⟩
    by_cases c:i=k
    ·omega
    ·simp[c,b]
   ·exact⟨q,hq,by simp[a,b]⟩
 ·rw[b6f hi hk hq]
  by_cases a:q=k
  ·simp[a]
  ·by_cases b:q=i
   ·subst b;simp[a]
   ·simp[a,b]
 ·rw[b4c (by omega) (by omega) hq]
  by_cases a:q=k
  ·simp[a]
  ·by_cases b:q=i
   ·subst b;simp[a]
   ·simp[a,b]
end
section
variable {P:Program} {ops:Array Oper} {Q:Exit->Act->World->Prop} {rest:List Oper} {a:Act} {w:World}
variable {d:Option Tmp} {ty:TypeId} {ps:String} {af:Array Edge}
theorem b6g {t e by_:Nat} {z:Value} {x lo:Operand} {k1:IntKind} {m:Int} {ao:Option Addr} {cap:Nat} (T:SliceT P t e 1 by_ z) (n i:Nat) (hx:a.eval x= .slice ao n cap) (hlo:a.eval lo= .int k1 m) (hm:m=(i:Int)) (hd:Hd ao n) (hi:i<=n) (hc:n<=cap)
  (K:∀ao',(∀k,k<n - i->adr ao' k=adr ao (i+k))->Hd ao' (n - i)->wpList P ops Q rest (a.put d (.slice ao' (n - i) (cap - i))) w):
  wpList P ops Q (⟨d, .slice t x (some lo) none none,ty,ps,af,none⟩::rest) a w:=by
 refine wpList_plain rfl fun K' hK'=>?_;subst hm;have hr:=a6H (P:=P) (ao:=ao) T n cap k1 i hi hc w;have:=K (a2w ao i cap 1) (fun k hk=>by
  obtain⟨b,off,rfl⟩:=hd (by omega);have hm:¬cap=i:=by omega
  simp[a2w,hm,Addr.add_lit,adr,Nat.add_assoc]) (fun hn=>by
  obtain⟨b,off,rfl⟩:=hd (by omega);have hm:¬cap=i:=by omega
  exact⟨b,off+i*1,by simp[a2w,hm,Addr.add_lit]⟩)
 unfold Oper.wp;simp[execOp,hx,hlo,hr,Result.andThen];exact hK' _ _ this
end
end Go.Rep
namespace Go.Lin
theorem b4d (m:Mat) (k:Nat):eN m (k+1)=a5E (eN m k) k:=rfl
theorem b0a {n c B t i col:Nat} {m:Mat} (_hs:Shp n c m) (h:HB B m) (_ht:t<n) (_hi:i<n) (hB:5*B<=68719476736):
  Go.Rep.BR 68719476736 (m.getD i [])/\Go.Rep.BR 68719476736 (m.getD t [])/\Go.Lim.hq ((m.getD i []).getD col 0/(m.getD t []).getD col 0)<=68719476736/\∀x∈m.getD t [],Go.Lim.hq ((m.getD i []).getD col 0/(m.getD t []).getD col 0*x)<=68719476736:=by
 have hrow:∀k,Go.Rep.BR B (m.getD k []):=fun k q hq=>by
  obtain⟨j,hj,rfl⟩:=List.getElem_of_mem hq;have e:(m.getD k []).getD j 0=(m.getD k [])[j]:=by rw[List.getD_eq_getElem?_getD,List.getElem?_eq_getElem hj];rfl
  rw[<-e];exact h k j
 have h1:=h i col;have h2:=h t col;unfold ent at h1 h2;have h3:=Go.Lim.hq_div ((m.getD i []).getD col 0) ((m.getD t []).getD col 0);refine⟨fun q hq=>Nat.le_trans (hrow i q hq) (by omega),fun q hq=>Nat.le_trans (hrow t q hq) (by omega),by omega,fun x hx=>?_⟩;have h4:=hrow t x hx;have h5:=Go.Lim.hq_mul ((m.getD i []).getD col 0/(m.getD t []).getD col 0) x;omega
theorem HB.bm {B:Nat} {m:Mat} (h:HB B m):Go.Rep.BM B m:=fun r hr q hq=>by
 obtain⟨i,hi,rfl⟩:=List.getElem_of_mem hr;obtain⟨j,hj,rfl⟩:=List.getElem_of_mem hq;have:=h i j;simpa[ent,List.getD_eq_getElem?_getD,hi,hj]using this
end Go.Lin
namespace Go.Rep
theorem Sl.fromA {α:Type} {R:Mem->Value->α->Prop} {h:Mem} {ao ao':Option Addr} {l:List α} (s:Sl R 1 h ao l) (i:Nat) (ha:∀k,k<l.length - i->adr ao' k=adr ao (i+k)) (hd:Hd ao' (l.length - i)):Sl R 1 h ao' (l.drop i):=by
 refine⟨by rw[List.length_drop];exact hd,fun k hk=>?_⟩;rw[List.length_drop]at hk;obtain⟨u,h1,h2,h3⟩:=s.2 (i+k) (by omega);refine⟨u,h1,fun j hj=>?_,by simpa using h3⟩;have hj0:j=0:=by omega
 subst hj0;have:=h2 0 hj;simp only[Nat.mul_one,Nat.add_zero]at this |-;rw[ha k hk];exact this
theorem b8F {ao:Option Addr} {n i:Nat} (hd:Hd ao n) (hn:0<n) (k:Nat):adr (Option.map (fun x=>x.add i) ao) k=adr ao (i+k):=by
 obtain⟨b,off,rfl⟩:=hd hn;simp[Addr.add_lit,adr,Nat.add_assoc]
theorem a0a.pure (k:IntKind):∀h h' u x,a0a k h u x->a0a k h' u x:=fun _ _ _ _ h=>h
theorem c0i {ao:Option Addr} {n i m:Nat} (hd:Hd ao n) (hn:0<n):Hd (Option.map (fun x=>x.add i) ao) m:=fun _=>by
 obtain⟨b,off,rfl⟩:=hd hn;exact⟨b,off+i,by simp[Addr.add_lit]⟩
end Go.Rep
namespace Go.Proofs.YtoibhmjjhgaimaaGreat
open Go.RowKit Go.Rep Go.Lim Go.Lin
def c1h (X:Nat->Bool) (base:Nat) (w:World) (ao:Option Addr) (cap:Nat) (hs:List Hdr) (s:St) (e:Ending) (w':World):Prop:=
 ExtX (mb ao hs) w w'/\∃po pc hs',e= .returned (.tuple #[.slice po s.2.1.length pc, .bool s.2.2])/\mb ao hs'=mb ao hs/\MO (un X po) base 45 32 w' ao cap hs' s.1/\OL (a0a .i64) 1 (mz X ao hs) w.heap.size 3 w' po pc s.2.1
set_option maxRecDepth 100000 in
set_option maxHeartbeats 1600000 in
theorem a4T (X:Nat->Bool) (base:Nat) (w:World) (ao:Option Addr) (cap n c:Nat) (hs:List Hdr) (m:List (List Rat)) (hX:HX X w) (hM:MO X base 45 32 w ao cap hs m) (hsh:Shp n c m) (hc:a0l m=c) (hn:n<=900) (hcc:c<=900) (hT:b3i m c):
  Calls Tryz.prog 218 #[.slice ao n cap] w (c1h X base w ao cap hs (eN m c)):=by
 have hml:=hid hsh.1;have hmc:MC (mk X w) (.slice ao n cap) m:=by have:=hM.mc;rw[hml.out]at this;exact this
 have hcol:=a2M X w _ m hmc;rw[hc]at hcol;have hlen:=hid (hM.len.trans hml.out);have hcap:n<=cap:=by have:=hM.capLen;rw[hml.out]at this;exact this
 have hhO:Hd ao n:=by have:=hM.outer.hd;rw[hlen.out]at this;exact this
 have hn0:Hid (n=0->c=0):=hid fun h=>by
  have:m= []:=List.eq_nil_of_length_eq_zero (by rw[hml.out];exact h);rw[<-hc,this];rfl
 have hsh':=hid hsh;obtain⟨B,hB7,hBj⟩:=hT;have hB':=hid hBj;have hBB':=hid hB7;have hund:un X none=X:=by funext k;simp[un,ob]
 have hMu:MO (un X none) base 45 32 w ao cap hs m:=by rw[hund];exact hM
 have hXz:=hM.hz hX;clear hsh hBj hB7 hc hmc;go_enter Tryz.func218,Tryz.ntmps218
 go_wp2_with fail
 refine hcol.mono ?_;rintro e w1 ⟨rfl,rfl⟩;clear hcol;go_wp2_with fail
 go_loopw [2,3,11] (fun p o k wr=>∃(j:Nat) (po:Option Addr) (pc pl:Nat) (hs':List Hdr) (M:Mat) (P:List Nat) (od:Bool),k= .int .i64 j/\p= .slice po pl pc/\o= .bool od/\j<=c/\Hid (P.length=pl)/\Hid (eN m j=(M,P,od))/\Hid (j<c->pl<n)/\MO (un X po) base 45 32 wr ao cap hs' M/\OL (a0a .i64) 1 (mz X ao hs) w1.heap.size 3 wr po pc P/\Hid (mb ao hs'=mb ao hs)/\ExtX (mb ao hs) w1 wr) (fun _ _ k _=>c - (intOf k).toNat)
 case atStart=>exact⟨0,none,0,0,hs,m,[],false,rfl,rfl,rfl,Nat.zero_le _,hid rfl,hid rfl,hid (fun h=>by have:=hn0.out;omega),hMu,OL.nil _ _ _ _ _ _,hid rfl,ExtX.refl _⟩
 case round=>
  obtain⟨j,po,pc,pl,hs',M,P,od,rfl,rfl,rfl,hj,hpl,hst,hpn,hM,hP,hmb,hE⟩:=hrel;by_cases hlj:j<c
  ·have hpn2:=hpn.out hlj
   have hok:=a4z hsh'.out j;rw[hst.out]at hok;have hshM:Shp n c M:=hok.shp;have hMl:=hid hshM.1;have hhl:=hid (hM.len.trans hMl.out);have hXr:HX X wr:=hX.ext hE;have hXu:HX (un X po) wr:=fun k hk=>by
    by_cases hx:X k=true
    ·exact hXr k hx
    ·exact(hP.block (by simpa[un,hx]using hk)).2
   have hBM:HB B M:=by have:=hB'.out j (by omega);rw[hst.out]at this;exact this
   have hb5':5*B<=68719476736:=by have:=hBB'.out;omega
   have hBM2:=hid (hBM.bm);have hEb:Ext wr (wr.alloc (.cells #[.int .i64 (j:Int)] 3)):=(ExtX.refl wr).alloc _;have hbx:(wr.alloc (.cells #[.int .i64 (j:Int)] 3)).cell? ⟨wr.heap.size,0,none⟩=some (.int .i64 (j:Int)):=b5v 0 rfl;have hM1:=hM.ext0 hEb;have hP1:=hP.ext0 (a0a.elem _) hEb;have hX1:=hXu.ext hEb;have hSl:Sl RC 1 (mk (un X po) (wr.alloc (.cells #[.int .i64 (j:Int)] 3))) ao M:=by
    obtain⟨_,_,heq,_,h3⟩:=hM1.mc;simp only[Value.slice.injEq]at heq;obtain⟨rfl,_,rfl⟩:=heq;exact h3
   obtain⟨bw,hbw⟩:∃bw,wr.heap.size=bw:=⟨_,rfl⟩;obtain⟨w2,hw2⟩:∃w2,wr.alloc (.cells #[.int .i64 (j:Int)] 3)=w2:=⟨_,rfl⟩;rw[hw2]at hEb hbx hM1 hP1 hX1 hSl;rw[hbw]at hbx;have hpbw:Hid (ob po bw=false):=hid (by rw[<-hbw];exact hP.ob_ge (Nat.le_refl _));have hobw:Hid (ob ao bw=false):=hid (by rw[<-hbw];exact hM.outer.ob_ge (Nat.le_refl _));have hw2':=hid hw2;have hbw':=hid hbw;have hn1:0<n:=by omega
   have hmd:Hid (n - pl=(M.drop pl).length):=hid (by rw[List.length_drop,hMl.out]);have hSd:Sl RC 1 (mk (un X po) w2) (Option.map (fun x=>x.add pl) ao) (M.drop pl):=hSl.fromA pl (fun k _=>b8F hhO hn1 k) (c0i hhO hn1);have hrows:Hid (∀r∈M.drop pl,r.length=c):=hid fun r hr=>hshM.2 r (List.mem_of_mem_drop hr);have hbmd:Hid (BM 68719476736 (M.drop pl)):=hid fun r hr q hq=>Nat.le_trans (hBM2.out r (List.mem_of_mem_drop hr) q hq) (by omega);have hix:=a8v (un X po) w2 _ (M.drop pl) (n - pl) (cap - pl) c j bw hX1 hSd hmd.out.symm (by omega) hrows.out hlj hbmd.out hbx;obtain⟨F,hF⟩:∃F,(M.drop pl).findIdx? (fun r=>decide (r.getD j 0≠0))=F:=⟨_,rfl⟩;rw[hF]at hix;have hnz:Hid (b2D M P.length j=F):=hid (by rw[hpl.out];exact hF);clear hF hSd hSl;go_wp2_with fail
   refine hix.mono ?_;rintro e w3 ⟨hE3,rfl⟩;have hM3:=hM1.ext0 hE3;have hP3:=hP1.ext0 (a0a.elem _) hE3;have hb3:=hE3.cell hbx;have hE03:=hE.trans (ExtX.of (hEb.trans hE3));clear hM1 hP1 hix hbx hw2
   match F,hnz with
   |none,hnz=>
    have hst2:Hid (eN m (j+1)=(M,P,od)):=hid (by
     rw[b4d,hst.out];unfold a5E;dsimp only;split
     ·rfl
     ·rw[hnz.out])
    simp only[c1g];go_wp2_with fail
    go_roundw
    case rel=>exact⟨j+1,po,pc,pl,hs',M,P,od,by go_num,rfl,rfl,by omega,hpl,hst2,hid (fun _=>hpn2),hM3,hP3,hmb,hE03⟩
    case measure=>simp[intOf];omega
   |some q,hnz=>
    obtain⟨hq1,hq2⟩:=a3G hnz.out;rw[hpl.out,hMl.out]at hq1;have hq0:¬(q:Int)<0:=by omega
    simp only[c1g];clear hq2;have hr1:pl+q<hs'.length:=by rw[hhl.out];exact hq1
    have hr2:pl<hs'.length:=by rw[hhl.out];exact hpn2
    obtain⟨a1,n1,c1,hh1⟩:∃a n c,hs'[pl]=(a,n,c):=⟨_,_,_,rfl⟩;obtain⟨a2,n2,c2,hh2⟩:∃a n c,hs'[pl+q]=(a,n,c):=⟨_,_,_,rfl⟩;have hO0:=hM3.outer;obtain⟨z1,zf1⟩:=hM3.hdr pl hr2;obtain⟨z2,zf2⟩:=hM3.hdr (pl+q) hr1;rw[hh1]at z1;rw[hh2]at z2
    dsimp only at z1 z2
    have k1:w3.cell? (adr ao pl)=some (.slice a1 n1 c1):=z1;have k2:w3.cell? (adr ao (pl+q))=some (.slice a2 n2 c2):=z2;have f1:w3.frozen? (adr ao pl)=false:=zf1;have f2:w3.frozen? (adr ao (pl+q))=false:=zf2;obtain⟨hO1,hE4⟩:=hO0.set1 a4H HdR.elem HdR.one pl hr2 (.slice a2 n2 c2) (a2,n2,c2) rfl;obtain⟨u3,k3,f3,hu3⟩:=hO1.cell HdR.one (pl+q) (by simpa using hr1);have hu3':u3= .slice a2 n2 c2:=by
     have e:(hs'.set pl (a2,n2,c2))[pl+q]'(by simpa using hr1)=(a2,n2,c2):=by
      rw[List.getElem_set];split
      ·rfl
      ·exact hh2
     rw[e]at hu3;exact hu3
    rw[hu3']at k3;obtain⟨hO2,hE5⟩:=hO1.set1 a4H HdR.elem HdR.one (pl+q) (by simpa using hr1) (.slice a1 n1 c1) (a1,n1,c1) rfl;have hE6:=(hE4.trans hE5).drew;have hO2:=hO2.ext0 HdR.elem (ExtX.refl (Y:=noY) _).drew;rw[<-hh1,<-hh2]at hO2;have i1:∀W,(Instr.indexAt 25 (.slice ao n cap) (.int .i64 (pl:Int))).run Tryz.prog W= .ok (.pointer (some (adr ao pl))) W:=a0A a0o ao n cap .i64 pl hhO (by omega) rfl;have i2:∀W,(Instr.indexAt 25 (.slice ao n cap) (.int .i64 ((pl:Int)+(q:Int)))).run Tryz.prog W= .ok (.pointer (some (adr ao (pl+q)))) W:=a0A a0o ao n cap .i64 (pl+q) hhO (by omega) (by omega);have ew:IntKind.i64.wrap ((pl:Int)+(q:Int))=(pl:Int)+(q:Int):=IntWalk.i64_in _ (by omega);have hM5:=hM3.swap hr2 hr1 hE6 hO2;have hX5:=hX1.ext hE3;have hP5:OL (a0a .i64) 1 (mz X ao hs) w1.heap.size 3 _ po pc P:=hP3.frame (a0a.pure _) hE6 (fun k hk=>by
     cases hb:ob ao k
     ·rfl
     ·have:=(hM3.out_sep hb).1;rw[a0y hk]at this;simp at this) hP3.1
    have hb5:=hE6.cellY hb3 hobw.out;clear hu3 hu3' hO0 hO1 hO2 z1 z2 zf1 zf2 hh1 hh2 hE4 hE5;go_wp2_with fail
    go_region
    obtain⟨w5,hw5⟩:∃w5,((w3.setCell (adr ao pl) (.slice a2 n2 c2)).setCell (adr ao (pl+q)) (.slice a1 n1 c1)).drew=w5:=⟨_,rfl⟩;rw[hw5]at hM5 hP5 hb5 hE6 |-;have hE05:=hE03.trans (ExtX.weaken hE6 fun k _ hk=>(b8s hk).1);have hX5:=hX5.ext hE6;have hXz5:=hXz.ext hE05;have hbase5:=hE05.size;clear k1 k2 k3 f1 f2 f3 i1 i2 hw5 hb3;have hpl5:pl+1<=n:=hpn2;go_wp2_with (first|((with_reducible show wpList _ _ _ (⟨_, .slice _ _ _ _ _,_,_,_,_⟩::_) _ _);refine b6g a0o n (pl+1) rfl rfl (by omega) hhO hpl5 hcap ?_;intro ao3 ha3 hd3;replace ha3:=hid ha3)|(at_builtin;refine a0r (l:=P) a1G rfl (a0a.elem .i64) hbase5 hXz5 pl hpl.out rfl rfl hP5 (.int .i64 (j:Int)) j rfl rfl (by omega) (by omega) ?_;intro po2 pc2 w6 hP6 hE7 hor;have b6:=hE7.cellY hb5 hpbw.out))
    have hM6:MO (un X po2) base 45 32 w6 ao cap _ _:=hM5.ext (X':=un X po2) hE7 (fun k _ hk=>a0y hk) (fun k hk hz=>by
     by_cases hx:X k=true
     ·exact a0v hx
     ·have h2:ob po2 k=true:=by simpa[un,hx]using hz
      rcases hor with rfl|⟨g,rfl,hg⟩
      ·exact a0y h2
      ·have:g=k:=by simpa[ob]using h2
       omega)
    have hE06:ExtX (mb ao hs) w1 w6:=hE05.then_ hE7 fun k hk _=>hP5.ob_lt hk;have hmb2:Hid (mb ao ((hs'.set pl hs'[pl+q]).set (pl+q) hs'[pl])=mb ao hs):=hid (by rw[<-hmb.out];exact(b3F (X:=X) fun k=>by rw[b6e hr2 hr1]).1);have hh2l:Hid (((hs'.set pl hs'[pl+q]).set (pl+q) hs'[pl]).length=n):=hid (by simp[hhl.out]);have hsh2:Shp n c (a1b M pl (pl+q)):=hshM.swap hpn2 hq1;have hBM2':HB B (a1b M pl (pl+q)):=hBM.swap hshM hpn2 hq1;have hst2:Hid (eN m (j+1)=(clear (a1b M pl (pl+q)) pl j n,P++[j],od !=decide (q≠0))):=hid (by
     rw[b4d,hst.out];unfold a5E;dsimp only;rw[if_neg (by rw[hpl.out,hMl.out];omega),hnz.out]
     dsimp only
     rw[hpl.out,hMl.out])
    have hbnd:Hid (∀i,i<n->BR 68719476736 ((a1b M pl (pl+q)).getD i [])/\BR 68719476736 ((a1b M pl (pl+q)).getD pl [])/\hq (((a1b M pl (pl+q)).getD i []).getD j 0/((a1b M pl (pl+q)).getD pl []).getD j 0)<=68719476736/\∀x∈(a1b M pl (pl+q)).getD pl [],hq (((a1b M pl (pl+q)).getD i []).getD j 0/((a1b M pl (pl+q)).getD pl []).getD j 0*x)<=68719476736):=hid fun i hi=>b0a hsh2 hBM2' hpn2 hi hb5';have hmbw:Hid (mb ao hs bw=false):=hid (by
     rw[<-hmb.out];cases hb:mb ao hs' bw
     ·rfl
     ·have:=(hM.mb_block hb).2;omega)
    obtain⟨hs2,hhs2⟩:∃hs2,(hs'.set pl hs'[pl+q]).set (pl+q) hs'[pl]=hs2:=⟨_,rfl⟩;obtain⟨M2,hM2⟩:∃M2,a1b M pl (pl+q)=M2:=⟨_,rfl⟩;rw[hhs2]at hM6 hmb2 hh2l;rw[hM2]at hM6 hsh2 hBM2' hst2 hbnd;clear hhs2 hM2;have hM2l:=hid hsh2.1;have hX6:HX X w6:=hX.ext hE06;have hM6':MO (un X po2) base 45 32 w6 ao cap hs2 (clear M2 pl j 0):=by rw[b2k];exact hM6
    go_loopw [54] (fun k wx=>∃(s:Nat),k= .int .i64 s/\s<=n - (pl+1)/\MO (un X po2) base 45 32 wx ao cap hs2 (clear M2 pl j s)/\OL (a0a .i64) 1 (mz X ao hs) w1.heap.size 3 wx po2 pc2 (P++[j])/\ExtX (mb ao hs) w1 wx/\wx.cell? ⟨bw,0,none⟩=some (.int .i64 (j:Int))) (fun k _=>n - (pl+1) - (intOf k).toNat)
    case atStart=>exact⟨0,rfl,Nat.zero_le _,hM6',hP6,hE06,b6⟩
    case round=>
     obtain⟨s,rfl,hs9,hM8,hP8,hE8,b8⟩:=hrel;by_cases hls:s<n - (pl+1)
     ·obtain⟨t,ht⟩:∃t,pl+1+s=t:=⟨_,rfl⟩
      have htn:t<n:=by omega
      have hth:t<hs2.length:=by rw[hh2l.out];exact htn
      have hph:pl<hs2.length:=by rw[hh2l.out];exact hpn2
      have htm:t<M2.length:=by rw[hM2l.out];exact htn
      have hpm:pl<M2.length:=by rw[hM2l.out];exact hpn2
      have htc:t<(clear M2 pl j s).length:=by rw[a2v];exact htm
      have hpc:pl<(clear M2 pl j s).length:=by rw[a2v];exact hpm
      obtain⟨a1,n1,c1,hh1⟩:∃a n c,hs2[t]=(a,n,c):=⟨_,_,_,rfl⟩;obtain⟨a2,n2,c2,hh2⟩:∃a n c,hs2[pl]=(a,n,c):=⟨_,_,_,rfl⟩;have hg1:(clear M2 pl j s)[t]=M2[t]:=by rw[a2N htc htm,if_neg (by omega)]
      have hg2:(clear M2 pl j s)[pl]=M2[pl]:=by rw[a2N hpc hpm,if_neg (by omega)]
      have hn1':n1=c:=by
       have:=hM8.rlen t hth htc;rw[hh1,hg1,hsh2.2 _ (List.getElem_mem _)]at this;exact this
      have hn2':n2=c:=by
       have:=hM8.rlen pl hph hpc;rw[hh2,hg2,hsh2.2 _ (List.getElem_mem _)]at this;exact this
      subst hn1';subst hn2';have hR1:=hM8.row t hth htc;have hR2:=hM8.row pl hph hpc;rw[hg1]at hR1;rw[hg2]at hR2;simp only[hh1]at hR1;simp only[hh2]at hR2;have hz1:=fun k (hk:ob a1 k=true)=>hM8.mz_sub hth k (by rw[hh1];exact hk);have hz2:=fun k (hk:ob a2 k=true)=>hM8.mz_sub hph k (by rw[hh2];exact hk);have hds:∀k,ob a1 k=true->ob a2 k=false:=fun k hk=>by
       have:=hM8.dis t pl hth hph (by omega) k (by rw[hh1];exact hk);rw[hh2]at this;exact this
      have hsp:=fun k (hk:ob a1 k=true)=>hM8.sep t hth k (by rw[hh1];exact hk);have hBn:=hbnd.out t htn;rw[a2p htm]at hBn;have hcs:Hid ((clear M2 pl j s).set t (a3a M2[t] (M2.getD pl []) j)=clear M2 pl j (s+1)):=hid (by subst ht;exact b4a htm);have hpe:M2.getD pl []=M2[pl]:=a2p hpm;rw[<-hpe]at hR2;have hrl1:=hid (hsh2.2 M2[t] (List.getElem_mem _));have hrl2:=hid (show(M2.getD pl []).length=n2 by rw[hpe];exact hsh2.2 _ (List.getElem_mem _));obtain⟨row,hrow⟩:∃row,M2[t]=row:=⟨_,rfl⟩;obtain⟨piv,hpiv⟩:∃piv,M2.getD pl []=piv:=⟨_,rfl⟩;rw[hrow,hpiv]at hcs;rw[hrow]at hR1 hrl1;rw[hpiv]at hR2 hrl2;rw[hrow,hpiv]at hBn;have hX8:HX (un X po2) wr:=fun k hk=>by
       by_cases hx:X k=true
       ·exact hX.ext hE8 k hx
       ·exact(hP8.block (by simpa[un,hx]using hk)).2
      have hZ8:=hM8.hz hX8;have hEd:Ext wr wr.drew:=(ExtX.refl wr).drew;have hel:=a5A (mz (un X po2) ao hs2) base wr.drew a1 a2 c1 c2 n2 j row piv hZ8 (hR1.ext0 QC.elem hEd) (hR2.ext0 QC.elem hEd) hz1 hz2 hds hrl1.out hrl2.out (by omega) hlj hBn.1 hBn.2.1 hBn.2.2.1 hBn.2.2.2;have y1:wr.cell? (adr ao3 s)=some (.slice a1 n2 c1):=by
       have:=(hM8.hdr t hth).1;rw[hh1,<-ht]at this;rw[ha3.out s hls];exact this
      have y2:wr.drew.cell? (adr ao pl)=some (.slice a2 n2 c2):=by
       have:=(hM8.hdr pl hph).1;rw[hh2]at this;exact this
      have y3:wr.drew.cell? ⟨bw,0,none⟩=some (.int .i64 (j:Int)):=b8;have haob:Hid (ob a1 (adr ao pl).block=false):=hid (by
       cases hb:ob a1 (adr ao pl).block
       ·rfl
       ·have h1:=(hsp _ hb).2
        obtain⟨b0,o0,rfl⟩:=hhO (by omega);simp[ob,adr]at h1)
      have habw:Hid (ob a1 bw=false):=hid (by
       cases hb:ob a1 bw
       ·rfl
       ·have h5:mb ao hs2 bw=true:=a2t.2 (.inr (a1B hth (show ob hs2[t].1 bw=true by rw[hh1];exact hb)))
        rw[hmb2.out,hmbw.out]at h5;simp at h5)
      have i1:∀W,(Instr.indexAt 25 (.slice ao n cap) (.int .i64 (pl:Int))).run Tryz.prog W= .ok (.pointer (some (adr ao pl))) W:=a0A a0o ao n cap .i64 pl hhO (by omega) rfl;have hh1':=hid hh1
      replace ht:=hid ht
      clear hg1 hg2 hpe hrow hpiv hh1 hh2 hR1 hR2 hBn;go_wp2_with (with_reducible refine a0n a0o (by omega) (by assumption) ?_)
      go_region_held3 (fun w'=>w'.cell? (adr ao pl)=some (.slice a2 n2 c2)/\w'.cell? ⟨bw,0,none⟩=some (.int .i64 (j:Int)))
       (first|exact⟨t1.cellY y2 haob.out,t1.cellY y3 habw.out⟩|go_keep)
       ((go_at_call 253;(with_reducible refine hel.mono ?_);rintro ee w7 ⟨rfl,t1,hO7⟩))
      have b9:=t1.cellY y3 habw.out;have hEr:ExtX (ob hs2[t].1) wr.drew w7:=by rw[hh1'.out];exact t1
      have hM9:=(hM8.ext0 hEd).upd hth (l:=a3a row piv j) hEr (fun hi'=>by
       rw[a2N htc htm,if_neg (by have:=ht.out;omega),a3F _ _ _ (by rw[hrl1.out,hrl2.out]),hrl2.out];exact(hsh2.2 _ (List.getElem_mem _)).symm) (by rw[hh1'.out];exact hO7)
      rw[hcs.out]at hM9;have hP9:=(hP8.ext0 (a0a.elem _) hEd).frame (a0a.pure _) t1 (fun k hk=>by
       cases hb:ob a1 k
       ·rfl
       ·have:=(hsp k hb).1;rw[a0y hk]at this;simp at this) hP8.1
      have hE9:=(hE8.trans (ExtX.of hEd)).trans (by rw[<-hmb2.out];exact ExtX.row hth hEr);clear y1 y2 y3 i1;go_wp2_with fail
      go_roundw
      case rel=>exact⟨s+1,by go_num,by omega,hM9,hP9,hE9,b9⟩
      case measure=>simp[intOf];omega
     ·have hfin:Hid (clear M2 pl j s=clear M2 pl j n):=hid (b2l (by rw[hM2l.out];omega) (by rw[hM2l.out];omega))
      rw[hfin.out]at hM8;have hodd:Hid ((!(od==((q:Int) !=0)))=(od !=decide (q≠0))):=hid (by cases od<;>by_cases h:q=0<;>simp[h]);have hpl2:Hid ((P++[j]).length=pl+1):=hid (by simp[hpl.out]);by_cases hfull:pl+1=n
      ·have hne:(((pl+1:Nat):Int)==(n:Int))=true:=a7w (by omega)
       have hne2:(((pl:Int)+1)==(n:Int))=true:=a7w (by omega);have hstop:Hid (eN m c=(clear M2 pl j n,P++[j],od !=decide (q≠0))):=hid (by
        rw[b7z m (j+1) (by rw[hst2.out];dsimp only;rw[hpl2.out,a2v,hM2l.out];exact hfull) c (by omega)];exact hst2.out)
       clear hfull;go_wp2_with fail
       go_ret2
       rw[hstop.out];exact⟨hE8,po2,pc2,hs2,by rw[hpl2.out,<-hodd.out];rfl,hmb2.out,hM8,hP8⟩
      ·have hne:(((pl+1:Nat):Int)==(n:Int))=false:=a1S (by omega)
       have hne2:(((pl:Int)+1)==(n:Int))=false:=a1S (by omega);have hpn3:Hid (j+1<c->pl+1<n):=hid fun _=>by omega
       clear hfull;go_wp2_with fail
       go_roundw
       case rel=>exact⟨j+1,po2,pc2,pl+1,hs2,_,_,_,by go_num,rfl,by rw[hodd.out],by omega,hpl2,hst2,hpn3,hM8,hP8,hmb2,hE8⟩
       case measure=>simp[intOf];omega
  ·have hjc:j=c:=by omega
   subst hjc;go_wp2_with fail
   go_ret2
   rw[hst.out];exact⟨hE,po,pc,hs',by rw[hpl.out];rfl,hmb.out,hM,hP⟩
end Go.Proofs.YtoibhmjjhgaimaaGreat
namespace Go.Lin
theorem a9n {n c B t i col:Nat} {m:Mat} (hs:Shp n c m) (h:HB B m) (ht:t<n) (_hi:i<n) (hit:i≠t) (hB:7*B<=68719476736):
  Go.Rep.BR 68719476736 ((divL m t col).getD i [])/\Go.Rep.BR 68719476736 ((divL m t col).getD t [])/\Go.Lim.hq (((divL m t col).getD i []).getD col 0/((divL m t col).getD t []).getD col 0)<=68719476736/\∀x∈(divL m t col).getD t [],Go.Lim.hq (((divL m t col).getD i []).getD col 0/((divL m t col).getD t []).getD col 0*x)<=68719476736:=by
 have h2:=h.divL hs ht col;have hrow:∀k,Go.Rep.BR (2*B) ((divL m t col).getD k []):=fun k q hq=>by
  obtain⟨j,hj,rfl⟩:=List.getElem_of_mem hq;have e:((divL m t col).getD k []).getD j 0=((divL m t col).getD k [])[j]:=by rw[List.getD_eq_getElem?_getD,List.getElem?_eq_getElem hj];rfl
  rw[<-e];exact h2 k j
 have h1:Go.Lim.hq (((divL m t col).getD i []).getD col 0)<=B:=by
  have:=a3i hs ht col i col;rw[if_neg hit]at this;unfold ent at this;rw[this];exact h i col
 have h3:Go.Lim.hq (((divL m t col).getD t []).getD col 0)<=2*B:=h2 t col;have h4:=Go.Lim.hq_div (((divL m t col).getD i []).getD col 0) (((divL m t col).getD t []).getD col 0);refine⟨fun q hq=>Nat.le_trans (hrow i q hq) (by omega),fun q hq=>Nat.le_trans (hrow t q hq) (by omega),by omega,fun x hx=>?_⟩;have h5:=hrow t x hx;have h6:=Go.Lim.hq_mul (((divL m t col).getD i []).getD col 0/((divL m t col).getD t []).getD col 0) x;omega
end Go.Lin
namespace Go.Rep
theorem a9o {P:Program} {t e sz by_:Nat} {z:Value} {ao:Option Addr} (T:SliceT P t e sz by_ z) (len cap:Nat) (k1:IntKind) (i:Nat) (h1:i<=cap) (w:World):
  (Instr.sliceAt t (.slice ao len cap) none (some (.int k1 (i:Int))) none).run P w= .ok (.slice ao i cap) w:=by
 obtain⟨ti,hi,hz,hsz,hby⟩:=info_parts T.info;have h1':(i:Int)<=cap:=by omega
 cases ao<;>simp[Instr.sliceAt,Instr.slice,run_underlying T.und,Instr.sliceBounds,run_sliceBound,h1',sizeOf,typeInfo,hi,Addr.add_zero']
end Go.Rep
namespace Go.Proofs.YtoibhmjjhgaimaaGreat
open Go.RowKit Go.Rep Go.Lim Go.Lin
def c1i (X:Nat->Bool) (base:Nat) (w:World) (ao:Option Addr) (cap:Nat) (hs:List Hdr) (s:Mat×List Nat) (e:Ending) (w':World):Prop:=
 ExtX (mb ao hs) w w'/\∃po pc hs',e= .returned (.slice po s.2.length pc)/\mb ao hs'=mb ao hs/\MO (un X po) base 45 32 w' ao cap hs' s.1/\OL (a0a .i64) 1 (mz X ao hs) w.heap.size 3 w' po pc s.2
set_option maxRecDepth 100000 in
set_option maxHeartbeats 1600000 in
theorem a6X (X:Nat->Bool) (base:Nat) (w:World) (ao:Option Addr) (cap n c:Nat) (hs:List Hdr) (m:List (List Rat)) (hX:HX X w) (hM:MO X base 45 32 w ao cap hs m) (hsh:Shp n c m) (hc:a0l m=c) (hn:n<=900) (hcc:c<=900) (hT:a9C m c):
  Calls Tryz.prog 220 #[.slice ao n cap] w (c1i X base w ao cap hs (a0N m c)):=by
 have hech:=a4T X base w ao cap n c hs m hX hM hsh hc hn hcc hT.e;obtain⟨B,hB7,_,hBt⟩:=hT;have hok:=a4z hsh c;have hcap:n<=cap:=by have:=hM.capLen;rw[hsh.1]at this;exact this
 have hhO:Hd ao n:=by have:=hM.outer.hd;rw[hM.len,hsh.1]at this;exact this
 have hred:a0N m c=(dN (eN m c).1 (eN m c).2.1 (eN m c).2.1.length,(eN m c).2.1):=rfl;obtain⟨⟨E,p,od⟩,hS⟩:∃S,eN m c=S:=⟨_,rfl⟩;rw[hS]at hech hok hBt hred;rw[hred]
 dsimp only at hBt |-
 obtain⟨pl,hpl⟩:∃pl,p.length=pl:=⟨_,rfl⟩;have hEs:Shp n c E:=hok.shp;have hEe:Ech n c (ent E) p:=hok.ech;have hpn:pl<=n:=by have:=hEe.le;omega
 have hDok:=hid (b7B hEs hEe);have hDB:Hid (∀t,t<=p.length->HB B (dN E p t)):=hid hBt;have hDb:=hid hB7;have hplt:Hid (∀i (hi:i<p.length),p[i]<c):=hid hEe.lt;have hpl':=hid hpl;have hn0:Hid (HX X w):=hid hX;clear hsh hBt hB7 hred hS hok hEe hc;go_enter Tryz.func220,Tryz.ntmps220
 go_wp2_with fail
 refine hech.mono ?_;rintro e w1 ⟨hE1,po,pc,hs',rfl,hmb,hM1,hP1⟩
 dsimp only at hM1 hP1 |-
 rw[hpl];have hmb':=hid hmb;have hlen:=hid (hM1.len.trans hEs.1);have hdP:Hd po pl:=by have:=hP1.hd;rw[hpl]at this;exact this
 clear hech hmb hpl hM;go_wp2_with fail
 go_loopw [19] (fun k wr=>∃(i:Nat),k= .int .i64 i/\i<=pl/\MO (un X po) base 45 32 wr ao cap hs' (dN E p i)/\OL (a0a .i64) 1 (mz X ao hs) w.heap.size 3 wr po pc p/\ExtX (mb ao hs) w wr) (fun k _=>pl - (intOf k).toNat)
 case atStart=>exact⟨0,rfl,Nat.zero_le _,hM1,hP1,hE1⟩
 case round=>
  obtain⟨i,rfl,hi,hM,hP,hE⟩:=hrel;by_cases hlt:i<pl
  ·have hip:i<p.length:=by rw[hpl'.out];exact hlt
   have hin:i<n:=by omega
   have hcl:=hplt.out i hip;have hPs:=(hP.sl (a0a.elem _)).nat i hip;have hD:=hDok.out i (by rw[hpl'.out];omega);have hDBi:=hDB.out i (by rw[hpl'.out];omega);have hDbi:=hDb.out;have hgd:Hid (p.getD i 0=p[i]):=hid (by simp[List.getD_eq_getElem?_getD,hip]);have hdn:Hid (dN E p (i+1)=dStep (dN E p i) i p[i]):=hid (by rw[<-hgd.out];rfl);obtain⟨D,hDe⟩:∃D,dN E p i=D:=⟨_,rfl⟩;obtain⟨col,hcole⟩:∃col,p[i]=col:=⟨_,rfl⟩;rw[hDe]at hM hD hDBi hdn;rw[hcole]at hPs hcl hdn;have hDs:Shp n c D:=hD.shp;have hDl:=hid hDs.1;have hih:i<hs'.length:=by rw[hlen.out];exact hin
   have hiD:i<D.length:=by rw[hDl.out];exact hin
   obtain⟨a,na,cr,hhd⟩:∃a na cr,hs'[i]=(a,na,cr):=⟨_,_,_,rfl⟩;obtain⟨row,hrow⟩:∃row,D[i]=row:=⟨_,rfl⟩;have hrl:Hid (row.length=c):=hid (by rw[<-hrow];exact hDs.2 _ (List.getElem_mem _));have hna:na=c:=by
    have:=hM.rlen i hih hiD;rw[hhd,hrow,hrl.out]at this;exact this
   subst hna;have hR:=hM.row i hih hiD;rw[hrow]at hR;simp only[hhd]at hR;have hz1:=fun k (hk:ob a k=true)=>hM.mz_sub hih k (by rw[hhd];exact hk);have hsp:=fun k (hk:ob a k=true)=>hM.sep i hih k (by rw[hhd];exact hk);have hda:Hd a na:=by have:=hR.hd;rw[hrl.out]at this;exact this
   have hun:Hid (un (cut (mz (un X po) ao hs') a) a=mz (un X po) ao hs'):=hid (a6O hz1);have haob:Hid (ob a (adr ao i).block=false):=hid (by
    cases hb:ob a (adr ao i).block
    ·rfl
    ·have h1:=(hsp _ hb).2
     obtain⟨b0,o0,rfl⟩:=hhO (by omega);simp[ob,adr]at h1)
   have y1:wr.cell? (adr ao i)=some (.slice a na cr):=by
    have:=(hM.hdr i hih).1;rw[hhd]at this;exact this
   have hcr:col<row.length:=by rw[hrl.out];exact hcl
   have hby:Hid (row[col]=ent D i col):=hid (by
    unfold ent;rw[a2p hiD];simp[hrow,List.getD_eq_getElem?_getD,hcr])
   obtain⟨by_,hbye⟩:∃b,ent D i col=b:=⟨_,rfl⟩;have hbq:Hid (hq by_<=68719476736):=hid (by rw[<-hbye];exact Nat.le_trans (hDBi i col) (by omega));have hBrow:Hid (BR 68719476736 row):=hid fun q hq=>by
    obtain⟨x,hx,rfl⟩:=List.getElem_of_mem hq;have:=hDBi.bm D[i] (List.getElem_mem _) row[x] (by rw[hrow];exact List.getElem_mem _);omega
   have hdiv:Hid (D.set i (row.map (· /by_))=divL D i col):=hid (by
    unfold divL;rw[a2p hiD,hrow,hbye])
   rw[hbye]at hby;have bx:=Bx.new wr #[.bool false, .slice none 0 0, .slice none 0 0] 32;have hhd':=hid hhd;have hrow':=hid hrow;clear hhd hrow hDe hcole hbye;go_wp2_with (first|(with_reducible refine a0n a1G (by omega) (by assumption) ?_)|(with_reducible refine a0n a0o (by omega) (by assumption) ?_)|(with_reducible refine a1E a0J (by omega) (by assumption) ?_)|((with_reducible show wpList _ _ _ (⟨_, .load 32 _,_,_,_,_⟩::_) _ _);refine a5x a0w col hR hcr rfl (by simp) QC.agg ?_;intro u5 hu5;rw[hby.out,hun.out]at hu5;obtain⟨s5,a5,n5,c5,d5,k5,e5,rfl⟩:=hu5.shape)|((with_reducible show wpList _ _ _ (⟨_, .store _ _ _,_,_,_,_⟩::_) _ _);refine a0c a0w rfl rfl bx rfl rfl (a2C _ _ _ _ _ _ _) ?_;intro w5 r1 r2;have y2:=(ExtX.box ((ExtX.refl wr).alloc _) r2 (Nat.le_refl _):Ext wr w5).cell y1))
   have hE5:Ext wr w5:=ExtX.box ((ExtX.refl wr).alloc _) r2 (Nat.le_refl _);have hM5:=hM.ext0 hE5;have hP5:=hP.ext0 (a0a.elem _) hE5;have hq5:QV (mk (mz (un X po) ao hs') w5) (.agg #[.bool s5, .slice a5 n5 c5, .slice d5 k5 e5]) by_:=(mkx QC.mono hu5 hE5).qv hbq.out;have hE15:=hE.trans (ExtX.of (Y:=mb ao hs) hE5);obtain⟨bb,hbb⟩:∃bb,wr.heap.size=bb:=⟨_,rfl⟩;rw[hbb]at r1 |-;have hmbb:Hid (mb ao hs bb=false):=hid (by
    rw[<-hmb'.out];cases hb:mb ao hs' bb
    ·rfl
    ·have:=(hM.mb_block hb).2;omega)
   obtain⟨R,hRe⟩:∃R,row.map (· /by_)=R:=⟨_,rfl⟩;have hRl:Hid (R.length=na):=hid (by rw[<-hRe,List.length_map];exact hrl.out);have hRr:Hid (R.length=row.length):=hid (by rw[hRl.out,hrl.out]);have hRj:Hid (∀j (h1:j<row.length) (h2:j<R.length),R[j]=row[j]/by_):=hid fun j h1 h2=>by subst hRe;simp
   rw[hRe]at hdiv;have hM5':MO (un X po) base 45 32 w5 ao cap hs' (D.set i (mix R row 0)):=by
    rw[a5v,<-hrow'.out,List.set_getElem_self];exact hM5
   clear hR hRe bx y1 y2 hM5 hu5 hM hP;go_loopw [36] (fun k wx=>∃(j:Nat),k= .int .i64 j/\j<=na/\MO (un X po) base 45 32 wx ao cap hs' (D.set i (mix R row j))/\OL (a0a .i64) 1 (mz X ao hs) w.heap.size 3 wx po pc p/\Bx wx bb #[.bool s5, .slice a5 n5 c5, .slice d5 k5 e5] 32/\QV (mk (mz (un X po) ao hs') wx) (.agg #[.bool s5, .slice a5 n5 c5, .slice d5 k5 e5]) by_/\ExtX (mb ao hs) w wx) (fun k _=>na - (intOf k).toNat)
   case atStart=>exact⟨0,rfl,Nat.zero_le _,hM5',hP5,r1,hq5,hE15⟩
   case round=>
    obtain⟨j,rfl,hj,hM,hP,hB7,hq7,hE⟩:=hrel;by_cases hlj:j<na
    ·have hjr:j<row.length:=by rw[hrl.out];exact hlj
     have hjR:j<R.length:=by rw[hRl.out];exact hlj
     have hml:Hid ((mix R row j).length=na):=hid (by rw[a2o hRr.out,hRl.out]);have hjm:j<(mix R row j).length:=by rw[hml.out];exact hlj
     have hmg:Hid ((mix R row j)[j]=row[j]):=hid (by rw[a1X hRr.out,if_neg (by omega)]);have hjs:Hid ((mix R row j).set j R[j]=mix R row (j+1)):=hid (a6P hRr.out hjR);have hRjj:=hid (hRj.out j hjr hjR);have hbr:=hid (hBrow.out row[j] (List.getElem_mem _));have hset9:Hid (i<(D.set i (mix R row j)).length):=hid (by rw[List.length_set];exact hiD);have hR:=hM.row i hih hset9.out;rw[List.getElem_set_self]at hR;simp only[hhd'.out]at hR;obtain⟨x,hx⟩:∃x,row[j]=x:=⟨_,rfl⟩;obtain⟨v,hv⟩:∃v,R[j]=v:=⟨_,rfl⟩;rw[hx]at hmg hbr hRjj;rw[hv]at hjs hRjj;have hXr:HX X wr:=hn0.out.ext hE;have hXu:HX (un X po) wr:=fun k hk=>by
      by_cases hx:X k=true
      ·exact hXr k hx
      ·exact(hP.block (by simpa[un,hx]using hk)).2
     have hXz:=hM.hz hXu;obtain⟨g,o,hg⟩:∃g o,adr a (j*3)=⟨g,o,none⟩:=⟨_,_,rfl⟩;have i1:∀W,(Instr.indexAt 25 (.slice ao n cap) (.int .i64 (i:Int))).run Tryz.prog W= .ok (.pointer (some (adr ao i))) W:=a0A a0o ao n cap .i64 i hhO (by omega) rfl;have bx:=Bx.new wr #[.bool false, .slice none 0 0, .slice none 0 0] 32;have y1:wr.cell? (adr ao i)=some (.slice a na cr):=by
      have:=(hM.hdr i hih).1;rw[hhd'.out]at this;exact this
     have hsp2:=hid hsp
     replace hg:=hid hg
     clear hx hv hsp;go_wp2_with (first|(with_reducible refine a1E a0J (by omega) (by assumption) ?_)|((with_reducible show wpList _ _ _ (⟨_, .load 32 _,_,_,_,_⟩::_) _ _);refine a5x a0w j hR hjm rfl (by simp) QC.agg ?_;intro u6 hu6;rw[hmg.out,hun.out]at hu6;obtain⟨s6,a6,n6,c6,d6,k6,e6,rfl⟩:=hu6.shape)|((with_reducible show wpList _ _ _ (⟨_, .store _ _ _,_,_,_,_⟩::_) _ _);refine a0c a0w rfl rfl bx rfl rfl (a2C _ _ _ _ _ _ _) ?_;intro w6 r3 r4))
     have i2:∀W,(Instr.indexAt 45 (.slice a na cr) (.int .i64 (j:Int))).run Tryz.prog W= .ok (.pointer (some ⟨g,o,none⟩)) W:=by rw[<-hg.out];exact a0h a0J a na cr .i64 j hda (by omega)
     have hE6:Ext wr w6:=ExtX.box ((ExtX.refl wr).alloc _) r4 (Nat.le_refl _);have hEd:Ext w6 w6.drew:=(ExtX.refl w6).drew;have hE6d:=hE6.trans hEd;have hM6:=hM.ext0 hE6d;have hP6:=hP.ext0 (a0a.elem _) hE6d;have hR6:=hR.ext0 QC.elem hE6d;have hB6:=hB7.ext0 hE6d;have hx6:QV (mk (mz (un X po) ao hs') w6.drew) (.agg #[.bool s6, .slice a6 n6 c6, .slice d6 k6 e6]) x:=(mkx QC.mono hu6 hE6d).qv hbr.out;have hb6:QV (mk (mz (un X po) ao hs') w6.drew) (.agg #[.bool s5, .slice a5 n5 c5, .slice d5 k5 e5]) by_:=mkx QV.mono hq7 hE6d;have hXd:=hXz.ext hE6d;have r3d:=r3.ext0 hEd;obtain⟨bw,hbw⟩:∃bw,wr.heap.size=bw:=⟨_,rfl⟩;rw[hbw]at r3d;have hab:Hid (ob a bw=false):=hid (by rw[<-hbw];exact hR.ob_ge (Nat.le_refl _));have habb:Hid (ob a bb=false):=hid (by
      cases hb:ob a bb
      ·rfl
      ·have h5:mb ao hs' bb=true:=a2t.2 (.inr (a1B hih (show ob hs'[i].1 bb=true by rw[hhd'.out];exact hb)))
       rw[hmb'.out,hmbb.out]at h5;simp at h5)
     have hS:Hid (∀Y W',ExtX Y w6.drew W'->Y (adr ao i).block=false->Y bw=false->Y bb=false->W'.cell? (adr ao i)=some (.slice a na cr)/\W'.cell? ⟨bw,0,none⟩=some (.bool s6)/\W'.cell? ⟨bw,1,none⟩=some (.slice a6 n6 c6)/\W'.cell? ⟨bw,2,none⟩=some (.slice d6 k6 e6)/\W'.cell? ⟨bb,0,none⟩=some (.bool s5)/\W'.cell? ⟨bb,1,none⟩=some (.slice a5 n5 c5)/\W'.cell? ⟨bb,2,none⟩=some (.slice d5 k5 e5)):=hid fun Y W' h hy1 hy2 hy3=>by
      have z2:=r3d.ext h hy2;have z3:=hB6.ext h hy3;exact⟨h.cellY (hE6d.cell y1) hy1,z2.cell 0 rfl,z2.cell 1 rfl,z2.cell 2 rfl,z3.cell 0 rfl,z3.cell 1 rfl,z3.cell 2 rfl⟩
     obtain⟨k00,k10,k11,k12,k20,k21,k22⟩:=hS.out noY w6.drew (ExtX.refl _) rfl rfl rfl;have qd:=c1c (mz (un X po) ao hs') w6.drew _ _ _ _ hXd hx6 hb6;rw[<-hRjj.out]at qd;have qd2:Calls Tryz.prog 230 #[.agg #[.bool s6, .slice a6 n6 c6, .slice d6 k6 e6], .agg #[.bool s5, .slice a5 n5 c5, .slice d5 k5 e5]] w6.drew (fun e w'=>Ext w6.drew w'/\∃u ec,e= .returned (.tuple #[u, .int .i64 ec])/\QC (mk (mz (un X po) ao hs') w') u v):=qd.mono fun e w' ⟨q1,u,q2,q3⟩=>⟨q1,u,_,q2,q3⟩;clear qd r3 bx y1;rw[hbw];go_wp2_with fail
     go_region_held3 (fun w'=>w'.cell? (adr ao i)=some (.slice a na cr)/\w'.cell? ⟨bw,0,none⟩=some (.bool s6)/\w'.cell? ⟨bw,1,none⟩=some (.slice a6 n6 c6)/\w'.cell? ⟨bw,2,none⟩=some (.slice d6 k6 e6)/\w'.cell? ⟨bb,0,none⟩=some (.bool s5)/\w'.cell? ⟨bb,1,none⟩=some (.slice a5 n5 c5)/\w'.cell? ⟨bb,2,none⟩=some (.slice d5 k5 e5))
      (first|exact hS.out noY _ t1 rfl rfl rfl|exact hS.out (ob a) _ ((ExtX.of t1).trans hset.2) haob.out hab.out habb.out|go_keep)
      ((go_at_call 230;(with_reducible refine qd2.mono ?_);rintro ee w7 ⟨t1,u7,ec7,rfl,hu7⟩;obtain⟨s7,a7,n7,c7,d7,k7,e7,rfl⟩:=hu7.shape;have hO7:=hR6.ext0 QC.elem t1;obtain⟨_,v0,v1,v2,_,⟨g0,f0⟩,⟨g1,f1⟩,⟨g2,f2⟩,_⟩:=hO7.cell3 j hjm hg.out;have hset:=hO7.set3 a5N QC.elem j hjm hg.out (v0:= .bool s7) (v1:= .slice a7 n7 c7) (v2:= .slice d7 k7 e7) (x:=v) (by rw[hun.out];exact hu7)))
     obtain⟨q1,q2⟩:=hset;rw[hjs.out]at q1;obtain⟨w8,hw8⟩:∃w8,((w7.setCell ⟨g,o,none⟩ (.bool s7)).setCell ⟨g,o+1,none⟩ (.slice a7 n7 c7)).setCell ⟨g,o+2,none⟩ (.slice d7 k7 e7)=w8:=⟨_,rfl⟩;rw[hw8]at q1 q2 |-;have q2':ExtX (ob hs'[i].1) w7 w8:=by rw[hhd'.out];exact q2
     have hM7:=(hM6.ext0 t1).upd hih (l:=mix R row (j+1)) q2' (fun hi'=>by rw[List.getElem_set_self,a2o hRr.out,a2o hRr.out]) (by rw[hhd'.out];exact q1);rw[List.set_set]at hM7;have hP8:=(hP6.ext0 (a0a.elem _) t1).frame (a0a.pure _) q2 (fun k hk=>by
      cases hb:ob a k
      ·rfl
      ·have:=(hsp2.out k hb).1;rw[a0y hk]at this;simp at this) hP.1
     have hB8:=(hB6.ext0 t1).ext q2 habb.out;have hq8:=QV.mono _ _ _ _ (a0u q2 hz1) (mkx QV.mono hb6 t1);have hE8:=(hE.trans (ExtX.of (hE6d.trans t1))).trans (show ExtX (mb ao hs) w7 w8 by rw[<-hmb'.out];exact ExtX.row hih q2');clear k00 k10 k11 k12 k20 k21 k22 g0 g1 g2 f0 f1 f2 i1 i2 hw8;go_wp2_with fail
     go_roundw
     case rel=>exact⟨j+1,by go_num,by omega,hM7,hP8,hB8,hq8,hE8⟩
     case measure=>simp[intOf];omega
    ·have hjn:j=na:=by omega
     subst hjn;rw[a5w (by rw[hRl.out];exact Nat.le_refl _) (by rw[hrl.out];exact Nat.le_refl _),hdiv.out]at hM;obtain⟨D2,hD2⟩:∃D2,divL D i col=D2:=⟨_,rfl⟩;have hsh2:Shp n j D2:=by rw[<-hD2];exact hDs.divL hin col
     have hbnd:Hid (∀t,t<i->BR 68719476736 (D2.getD t [])/\BR 68719476736 (D2.getD i [])/\hq ((D2.getD t []).getD col 0/(D2.getD i []).getD col 0)<=68719476736/\∀x∈D2.getD i [],hq ((D2.getD t []).getD col 0/(D2.getD i []).getD col 0*x)<=68719476736):=hid fun t ht=>by
      rw[<-hD2];exact a9n hDs hDBi hin (by omega) (by omega) hDbi
     have hdn2:Hid (above D2 i col i=dN E p (i+1)):=hid (by rw[hdn.out];unfold dStep;rw[hD2]);rw[hD2]at hM;have hD2l:=hid hsh2.1;have hM':MO (un X po) base 45 32 wr ao cap hs' (above D2 i col 0):=by rw[b2m];exact hM
     have hicap:i<=cap:=by omega
     have f1:∀W,(Instr.sliceAt 25 (.slice ao n cap) none (some (.int .i64 (i:Int))) none).run Tryz.prog W= .ok (.slice ao i cap) W:=a9o a0o n cap .i64 i hicap;have hhOi:Hd ao i:=fun h0=>hhO (by omega);clear hM hD2 hB7 hq7;go_wp2_with fail
     go_loopw [58] (fun k wx=>∃(s:Nat),k= .int .i64 s/\s<=i/\MO (un X po) base 45 32 wx ao cap hs' (above D2 i col s)/\OL (a0a .i64) 1 (mz X ao hs) w.heap.size 3 wx po pc p/\ExtX (mb ao hs) w wx) (fun k _=>i - (intOf k).toNat)
     case atStart=>exact⟨0,rfl,Nat.zero_le _,hM',hP,hE⟩
     case round=>
      obtain⟨s,rfl,hs9,hM8,hP8,hE8⟩:=hrel;by_cases hls:s<i
      ·have htn:s<n:=by omega
       have hth:s<hs'.length:=by rw[hlen.out];exact htn
       have htm:s<D2.length:=by rw[hD2l.out];exact htn
       have hpm:i<D2.length:=by rw[hD2l.out];exact hin
       have htc:s<(above D2 i col s).length:=by rw[a4g];exact htm
       have hpc:i<(above D2 i col s).length:=by rw[a4g];exact hpm
       obtain⟨a1,n1,c1,hh1⟩:∃a n c,hs'[s]=(a,n,c):=⟨_,_,_,rfl⟩;have hg1:(above D2 i col s)[s]=D2[s]:=by rw[a4f htc htm,if_neg (by omega)]
       have hg2:(above D2 i col s)[i]=D2[i]:=by rw[a4f hpc hpm,if_neg (by omega)]
       have hn1':n1=j:=by
        have:=hM8.rlen s hth htc;rw[hh1,hg1,hsh2.2 _ (List.getElem_mem _)]at this;exact this
       subst hn1';have hR1:=hM8.row s hth htc;have hR2:=hM8.row i hih hpc;rw[hg1]at hR1;rw[hg2]at hR2;simp only[hh1]at hR1;simp only[hhd'.out]at hR2;have hzz1:=fun k (hk:ob a1 k=true)=>hM8.mz_sub hth k (by rw[hh1];exact hk);have hzz2:=fun k (hk:ob a k=true)=>hM8.mz_sub hih k (by rw[hhd'.out];exact hk);have hds:∀k,ob a1 k=true->ob a k=false:=fun k hk=>by
        have:=hM8.dis s i hth hih (by omega) k (by rw[hh1];exact hk);rw[hhd'.out]at this;exact this
       have hsp1:=fun k (hk:ob a1 k=true)=>hM8.sep s hth k (by rw[hh1];exact hk);have hBn:=hbnd.out s hls;rw[a2p htm]at hBn;have hcs:Hid ((above D2 i col s).set s (a3a D2[s] (D2.getD i []) col)=above D2 i col (s+1)):=hid (b4b htm hls);have hpe:D2.getD i []=D2[i]:=a2p hpm;rw[<-hpe]at hR2;have hrl1:=hid (hsh2.2 D2[s] (List.getElem_mem _));have hrl2:=hid (show(D2.getD i []).length=n1 by rw[hpe];exact hsh2.2 _ (List.getElem_mem _));obtain⟨rw1,hrow1⟩:∃rw1,D2[s]=rw1:=⟨_,rfl⟩;obtain⟨piv,hpiv⟩:∃piv,D2.getD i []=piv:=⟨_,rfl⟩;rw[hrow1,hpiv]at hcs;rw[hrow1]at hR1 hrl1;rw[hpiv]at hR2 hrl2;rw[hrow1,hpiv]at hBn;have hX8:HX (un X po) wr:=fun k hk=>by
        by_cases hx:X k=true
        ·exact hn0.out.ext hE8 k hx
        ·exact(hP8.block (by simpa[un,hx]using hk)).2
       have hZ8:=hM8.hz hX8;have hel:=a5A (mz (un X po) ao hs') base wr a1 a c1 cr n1 col rw1 piv hZ8 hR1 hR2 hzz1 hzz2 hds hrl1.out hrl2.out (by omega) hcl hBn.1 hBn.2.1 hBn.2.2.1 hBn.2.2.2;have y1:wr.cell? (adr ao s)=some (.slice a1 n1 c1):=by
        have:=(hM8.hdr s hth).1;rw[hh1]at this;exact this
       have y2:wr.cell? (adr ao i)=some (.slice a n1 cr):=by
        have:=(hM8.hdr i hih).1;rw[hhd'.out]at this;exact this
       have hh1':=hid hh1;clear hg1 hg2 hpe hrow1 hpiv hh1 hR1 hR2 hBn f1;go_wp2_with (with_reducible refine a0n a0o (by omega) (by assumption) ?_)
       refine hel.mono ?_;rintro ee w7 ⟨rfl,t1,hO7⟩;have hEr:ExtX (ob hs'[s].1) wr w7:=by rw[hh1'.out];exact t1
       have hM9:=hM8.upd hth (l:=a3a rw1 piv col) hEr (fun hi'=>by
        rw[a4f htc htm,if_neg (by omega),a3F _ _ _ (by rw[hrl1.out,hrl2.out]),hrl2.out];exact(hsh2.2 _ (List.getElem_mem _)).symm) (by rw[hh1'.out];exact hO7)
       rw[hcs.out]at hM9;have hP9:=hP8.frame (a0a.pure _) t1 (fun k hk=>by
        cases hb:ob a1 k
        ·rfl
        ·have:=(hsp1 k hb).1;rw[a0y hk]at this;simp at this) hP8.1
       have hE9:=hE8.trans (show ExtX (mb ao hs) wr w7 by rw[<-hmb'.out];exact ExtX.row hth hEr);clear y1 y2;go_wp2_with fail
       go_roundw
       case rel=>exact⟨s+1,by go_num,by omega,hM9,hP9,hE9⟩
       case measure=>simp[intOf];omega
      ·have hsi:s=i:=by omega
       subst hsi;rw[hdn2.out]at hM8;go_wp2_with fail
       go_roundw
       case rel=>exact⟨s+1,by go_num,by omega,hM8,hP8,hE8⟩
       case measure=>simp[intOf];omega
  ·have hil:i=pl:=by omega
   subst hil;rw[<-hpl'.out]at hM;go_wp2_with fail
   go_ret
   exact⟨hE,po,pc,hs',by rw[hpl'.out];rfl,hmb'.out,hM,hP⟩
def c1j (X:Nat->Bool) (w:World) (m:List (List Rat)) (p:List Nat) (e:Ending) (w':World):Prop:=Ext w w'/\∃u v,e= .returned (.tuple #[u,v, .int .i64 0])/\MC (mk X w') u m/\SlV (a0a .i64) 1 (mk X w') v p
theorem b2n (X:Nat->Bool) (w:World) (u:Value) (m:List (List Rat)) (hX:HX X w) (hu:MV (mk X w) u m) (hf:a1h m=true) (hT:a9C m (a0l m)):Calls Tryz.prog 283 #[u] w (c1j X w (a0N m (a0l m)).1 (a0N m (a0l m)).2):=by
 obtain⟨hsh,h96,hc96,_,_⟩:=a1W hf;have hfo:=a4r X w u m hu (by omega);rw[hf]at hfo;have hco:=a4s X w u m m.length (a0l m) hX hu hsh rfl (by omega) (by omega);have hrs:=hid (a0Z hsh).1;clear hf;go_enter Tryz.func283,Tryz.ntmps283
 go_wp2_with fail
 refine hfo.mono ?_;rintro e w1 ⟨rfl,rfl⟩;go_wp2_with fail
 refine hco.mono ?_;rintro e w2 ⟨hE2,ao,cap,hs,rfl,hM2⟩;go_wp2_with fail
 refine(a6X X _ w2 ao cap m.length (a0l m) hs m (hX.ext hE2) hM2 hsh rfl (by omega) (by omega) hT).mono ?_;rintro e w3 ⟨hE3,po,pc,hs',rfl,hmb,hM3,hP3⟩;have hEf:=hM2.ext_from hE2 (Nat.le_refl _) hE3;have hmc:=MC.mono _ _ _ _ (a1U (X:=X) fun k _ hk=>a0v hk) hM3.mc;have hps:SlV (a0a .i64) 1 (mk X w3) (.slice po (a0N m (a0l m)).2.length pc) (a0N m (a0l m)).2:=⟨po,pc,rfl,hP3.lenCap,(hP3.sl (a0a.elem _)).mono (a0a.mono _) (a1U fun k _ hk=>a1K.2 (.inl hk))⟩;rw[hrs.out.1]at hmc;go_wp2_with fail
 go_ret3
 exact⟨hEf,_,_,rfl,hmc,hps⟩
end Go.Proofs.YtoibhmjjhgaimaaGreat
namespace Go.Lin
open Go.Lim
def xN (R:Mat) (p:List Nat) (c col:Nat):Nat->List Rat
 |0=>(List.replicate c 0).set col 1
 |i+1=>(xN R p c col i).set (p.getD i 0) (- ent R i col)
theorem a7E (R:Mat) (p:List Nat) (c col i:Nat):(xN R p c col i).length=c:=by
 induction i with
 |zero=>show((List.replicate c (0:Rat)).set col 1).length=c;rw[List.length_set,List.length_replicate]
 |succ i ih=>show((xN R p c col i).set _ _).length=c;rw[List.length_set,ih]
theorem c0j {n c col:Nat} {R:Mat} {p:List Nat} (hr:Rref n c (ent R) p) (hcp:col∉p) (i:Nat) (hi:i<=p.length) (x:Nat) (hx:x<c):(xN R p c col i).getD x 0=if x=col then 1 else match p.findIdx? (· ==x)with|some k=>if k<i then - ent R k col else 0|none=>0:=by
 induction i with
 |zero=>
  show((List.replicate c (0:Rat)).set col 1).getD x 0=_
  rw[List.getD_eq_getElem?_getD,List.getElem?_set,List.length_replicate];by_cases h:col=x
  ·subst h;rw[if_pos rfl,if_pos hx,if_pos rfl];rfl
  ·rw[if_neg h,if_neg (Ne.symm h)]
   have:((List.replicate c (0:Rat))[x]?).getD 0=0:=by simp[hx]
   rw[this];cases p.findIdx? (· ==x)<;>simp
 |succ i ih=>
  have hip:i<p.length:=by omega
  have hpi:p.getD i 0=p[i]:=by simp[List.getD_eq_getElem?_getD,hip]
  show((xN R p c col i).set (p.getD i 0) (- ent R i col)).getD x 0=_
  rw[hpi,List.getD_eq_getElem?_getD,List.getElem?_set,a7E];by_cases h:p[i]=x
  ·have hxc:x≠col:=by rintro rfl;exact hcp (h▸List.getElem_mem _)
   rw[if_pos h,if_pos (by omega),if_neg hxc,<-h,hr.idx i hip];simp
  ·rw[if_neg h,<-List.getD_eq_getElem?_getD,ih (by omega)]
   cases hf:p.findIdx? (· ==x)with
   |none=>rfl
   |some k=>
    obtain⟨hk1,hk2,_⟩:=List.findIdx?_eq_some_iff_getElem.1 hf;have hki:k≠i:=by rintro rfl;exact h (by simpa using hk2)
    dsimp only
    by_cases h2:k<i
    ·rw[if_pos h2,if_pos (show k<i+1 by omega)]
    ·rw[if_neg h2,if_neg (show¬k<i+1 by omega)]
theorem b4e {n c col:Nat} {R:Mat} {p:List Nat} (hr:Rref n c (ent R) p) (hcp:col∉p):xN R p c col p.length=(List.range c).map (nv (ent R) p col):=by
 refine List.ext_getElem (by rw[a7E];simp) fun x h1 h2=>?_;have hx:x<c:=by rw[a7E]at h1;exact h1
 have:=c0j hr hcp _ (Nat.le_refl _) x hx;rw[List.getD_eq_getElem?_getD,List.getElem?_eq_getElem h1]at this;rw[show(xN R p c col p.length)[x]=_ from this];simp only[List.getElem_map,List.getElem_range];unfold nv;by_cases h:x=col
 ·rw[if_pos h,if_pos h]
 ·rw[if_neg h,if_neg h]
  cases hf:p.findIdx? (· ==x)with
  |none=>rfl
  |some k=>
   obtain⟨hk1,_⟩:=List.findIdx?_eq_some_iff_getElem.1 hf
   dsimp only
   rw[if_pos hk1]
def a3q (r:F2) (p:List Nat) (c k:Nat):Mat:=((List.range k).filter (· ∉p)).map fun j=>(List.range c).map (nv r p j)
theorem a7F (r:F2) {p:List Nat} (c:Nat) {k:Nat} (h:k∈p):a3q r p c (k+1)=a3q r p c k:=by
 unfold a3q;rw[List.range_succ,List.filter_append];simp[h]
theorem a7G (r:F2) {p:List Nat} (c:Nat) {k:Nat} (h:k∉p):a3q r p c (k+1)=a3q r p c k++[(List.range c).map (nv r p k)]:=by
 unfold a3q;rw[List.range_succ,List.filter_append,List.map_append];simp[h]
theorem b8G {m:Mat} {c:Nat} (h:a9C m c):Go.Rep.BM 9817068105 (a0N m c).1:=by
 obtain⟨B,h1,_,h3⟩:=h;have:=(h3 _ (Nat.le_refl _)).bm;exact fun r hr q hq=>Nat.le_trans (this r hr q hq) (by omega)
end Go.Lin
namespace Go.Proofs.YtoibhmjjhgaimaaGreat
open Go.RowKit Go.Rep Go.Lim Go.Lin
theorem a9p (X:Nat->Bool) (w:World) (ao:Option Addr) (l:List Nat) (n c x:Nat) (hs:Sl (a0a .i64) 1 (mk X w) ao l) (hl:l.length=n) (hn:n<=1000000):Calls Tryz.prog 287 #[.slice ao n c, .int .i64 (x:Int)] w (fun e w'=>w'=w/\∃k:Int,e= .returned (.int .i64 k)/\(0<=k↔x∈l)):=by
 have hh:Hd ao n:=by have:=hs.hd;rw[hl]at this;exact this
 have hl':=hid hl;clear hl;go_enter Tryz.func287,Tryz.ntmps287
 go_wp2_with fail
 go_loopw [8] (fun k wr=>∃(i:Nat),k= .int .i64 i/\i<=n/\Hid (∀q (hq:q<l.length),q<i->l[q]≠x)/\wr=w) (fun k _=>n - (intOf k).toNat)
 case atStart=>exact⟨0,rfl,Nat.zero_le _,hid (fun q hq h=>by omega),rfl⟩
 case round=>
  obtain⟨i,rfl,hi,hok,rfl⟩:=hrel;by_cases hlt:i<n
  ·have hil:i<l.length:=by rw[hl'.out];exact hlt
   have hc:=hs.nat i hil;by_cases hx:l[i]=x
   ·have hb:((x:Int)==(l[i]:Int))=true:=a7w (by omega)
    have hm:Hid (x∈l):=hid (hx▸List.getElem_mem _);obtain⟨y,hy⟩:∃y,(l[i]:Int)=y:=⟨_,rfl⟩;rw[hy]at hc hb;clear hx hy;go_wp2_with (with_reducible refine a0n a1G (by omega) (by assumption) ?_)
    go_ret
    exact⟨rfl,_,rfl,⟨fun _=>hm.out,fun _=>by omega⟩⟩
   ·have hb:((x:Int)==(l[i]:Int))=false:=a1S (by omega)
    have hok2:Hid (∀q (hq:q<l.length),q<i+1->l[q]≠x):=hid fun q hq hqi=>by
     by_cases h:q=i
     ·subst h;exact hx
     ·exact hok.out q hq (by omega)
    obtain⟨y,hy⟩:∃y,(l[i]:Int)=y:=⟨_,rfl⟩;rw[hy]at hc hb;clear hx hy;go_wp2_with (with_reducible refine a0n a1G (by omega) (by assumption) ?_)
    go_roundw
    case rel=>exact⟨i+1,by go_num,by omega,hok2,trivial⟩
    case measure=>simp[intOf];omega
  ·have hno:Hid (x∉l):=hid fun hm=>by
    obtain⟨q,hq,hqx⟩:=List.getElem_of_mem hm;exact hok.out q hq (by rw[hl'.out]at hq;omega) hqx
   go_wp2_with fail
   go_ret
   exact⟨rfl,_,rfl,⟨fun h=>by omega,fun h=>absurd h hno.out⟩⟩
theorem a9q (X:Nat->Bool) (w:World) (ao:Option Addr) (l:List Nat) (n c x:Nat) (hs:Sl (a0a .i64) 1 (mk X w) ao l) (hl:l.length=n) (hn:n<=1000000):Calls Tryz.prog 284 #[.slice ao n c, .int .i64 (x:Int)] w (fun e w'=>w'=w/\e= .returned (.bool (decide (x∈l)))):=by
 have h1:=a9p X w ao l n c x hs hl hn;clear hs hl hn;go_enter Tryz.func284,Tryz.ntmps284
 go_wp2_with fail
 refine h1.mono ?_;rintro e w1 ⟨rfl,k,rfl,hk⟩;have hd:Hid (decide (0<=k)=decide (x∈l)):=hid (decide_eq_decide.2 hk);clear hk;go_wp2_with fail
 go_ret
 exact⟨rfl,a0p hd.out⟩
set_option maxRecDepth 100000 in
set_option maxHeartbeats 1600000 in
theorem b4f (X:Nat->Bool) (w:World) (u:Value) (m:List (List Rat)) (n c:Nat) (hX:HX X w) (hu:MV (mk X w) u m) (hf:a1h m=true) (hnn:m.length=n) (hcc:a0l m=c) (hT:a9C m c):Calls Tryz.prog 256 #[u] w (b8t X w (a2q (ent (a0N m c).1) (a0N m c).2 c)):=by
 obtain⟨hsh,h96,hc96,hpos,_⟩:=a1W hf;rw[hnn,hcc]at hsh;rw[hnn]at h96;rw[hcc]at hc96;have hrd:=b2n X w u m hX hu hf (by rw[hcc];exact hT);rw[hcc]at hrd;have hcol:=hid (fun w' (h:Ext w w')=>a2M X w' u m (mkx MV.mono hu h));rw[hcc]at hcol;have hok:=a0Z hsh;have hbm:=hid (b8G hT);obtain⟨⟨R,p⟩,hRp⟩:∃S,a0N m c=S:=⟨_,rfl⟩;rw[hRp]at hrd hok hbm |-
 dsimp only at hrd hok hbm |-
 have hRs:=hid hok.1;have hRr:=hid hok.2.1;obtain⟨pl,hpl⟩:∃pl,p.length=pl:=⟨_,rfl⟩;have hpl':=hid hpl;have hpn:pl<=n:=by have:=hok.2.1.le;omega
 have hfull:Hid (a3q (ent R) p c c=a2q (ent R) p c):=hid rfl;obtain⟨ua,uca,rfl,huca,hua⟩:=hu;clear hok hT hsh hf hnn hcc hRp huca hua hpos hpl;go_enter Tryz.func256,Tryz.ntmps256
 go_wp2_with fail
 refine hrd.mono ?_;rintro e w1 ⟨hE1,ur,uv,rfl,hur,huv⟩;obtain⟨ra,rca,rfl,hrca,hra⟩:=hur;obtain⟨pa,pca,rfl,hpca,hpa⟩:=huv;have hhr:Hd ra n:=by have:=hra.hd;rw[hRs.out.1]at this;exact this
 have hhp:Hd pa pl:=by have:=hpa.hd;rw[hpl'.out]at this;exact this
 have hX1:=hX.ext hE1;rw[hRs.out.1,hpl'.out];clear hrd;go_wp2_with fail
 refine(hcol.out w1 hE1).mono ?_;rintro e w2 ⟨rfl,rfl⟩;go_wp2_with fail
 go_loopw [7,23] (fun o kk wr=>∃(k q:Nat) (oo:Option Addr) (co:Nat),kk= .int .i64 k/\o= .slice oo q co/\k<=c/\q<=k/\Hid ((a3q (ent R) p c k).length=q)/\OL RC 1 X w2.heap.size 45 wr oo co (a3q (ent R) p c k)/\Ext w2 wr) (fun _ kk _=>c - (intOf kk).toNat)
 case atStart=>exact⟨0,0,none,0,rfl,rfl,Nat.zero_le _,Nat.le_refl _,hid rfl,OL.nil _ _ _ _ _ _,ExtX.refl _⟩
 case round=>
  obtain⟨k,q,oo,co,rfl,rfl,hk,hqk,hlq,hO,hE⟩:=hrel;by_cases hlt:k<c
  ·have hXr:HX X wr:=hX1.ext hE
   have hXu:HX (un X oo) wr:=hO.unX hXr;have hcon:=a9q X wr pa p pl pca k (hpa.mono (a0a.mono _) (a0m hE)) hpl'.out (by omega);have hw2r:=hE.size;by_cases hkp:k∈p
   ·rw[decide_eq_true hkp]at hcon
    have hsk:=hid (a7F (ent R) c hkp);clear hkp;go_wp2_with fail
    refine hcon.mono ?_;rintro e w3 ⟨rfl,rfl⟩;rw[<-hsk.out]at hO hlq;go_wp2_with fail
    go_roundw
    case rel=>exact⟨k+1,q,oo,co,by go_num,rfl,by omega,by omega,hlq,hO,hE⟩
    case measure=>simp[intOf];omega
   ·rw[decide_eq_false hkp]at hcon
    have hps:=hid (a7G (ent R) c hkp);have hxf:=hid (b4e hRr.out hkp);rw[hpl'.out]at hxf;have hcl:=hcol.out wr (hE1.trans hE);clear hkp;obtain⟨wo,hwo⟩:∃wo,wo=wr:=⟨_,rfl⟩;subst hwo;go_wp2_with fail
    refine hcon.mono ?_;rintro e w3 ⟨rfl,rfl⟩;go_wp2_with fail
    refine hcl.mono ?_;rintro e w4 ⟨rfl,rfl⟩;clear hcon hcl;go_wp2_with ((with_reducible show wpList _ _ _ (⟨_, .makeSlice _ _ _,_,_,_,_⟩::_) _ _);refine a1F (R:=QC) a0J QC.elem (0:Rat) (fun _=>QC.zero _) (un X oo) hXu w4.heap.size (Nat.le_refl _) c rfl rfl rfl (by omega) (by omega) ?_;intro xo w5 hO5 hE5)
    have hob:=hid (fun k (hk:ob xo k=true)=>hO5.block hk);have hxd:Hd xo c:=by have:=hO5.hd;rw[List.length_replicate]at this;exact this
    obtain⟨Z,hZe⟩:∃Z,un (un X oo) xo=Z:=⟨_,rfl⟩;have hZ':=hid hZe;have hZ5:HX Z w5:=by rw[<-hZe];exact hO5.unX (hXu.ext hE5)
    have hoob:=hid (fun k (hk:ob oo k=true)=>hO.block hk);have hXr':=hid hXr;have hzold:Hid (∀k,k<w2.heap.size->Z k=true->X k=true):=hid fun k hk hz=>by
     rw[<-hZ'.out]at hz;by_cases h1:X k=true
     ·exact h1
     ·by_cases h2:ob oo k=true
      ·have:=(hoob.out k h2).1;omega
      ·have h3:ob xo k=true:=by simpa[un,h1,h2]using hz
       have:=(hob.out k h3).1;omega
    have h1r:((1:Int):Rat)=1:=by decide+kernel
    have hqf:=b2e Z w5 1 hZ5 (by omega) (by omega);rw[h1r]at hqf;have hkr:k<(List.replicate c (0:Rat)).length:=by rw[List.length_replicate];exact hlt
    clear h1r hZe;go_wp2_with fail
    refine hqf.mono ?_;rintro e w6 ⟨hE6,u6,rfl,hu6⟩;have hO6:=hO5.ext0 QC.elem hE6;go_wp2_with (first|(with_reducible refine a1E a0J (by omega) (by assumption) ?_)|((with_reducible show wpList _ _ _ (⟨_, .store 32 _ _,_,_,_,_⟩::_) _ _);refine a1O a5N QC.elem k rfl (by simp) hO6 hkr _ 1 rfl (by rw[hZ'.out];exact hu6) ?_;intro w7 hO7 hE7))
    have hE47:Ext w4 w7:=(hE5.trans hE6).own hO6 (Nat.le_refl _) hE7;clear hqf hO5 hO6;go_loopw [38] (fun kk wi=>∃(j:Nat),kk= .int .i64 j/\j<=pl/\OL QC 3 (un X oo) w4.heap.size 32 wi xo c (xN R p c k j)/\Ext w4 wi) (fun kk _=>pl - (intOf kk).toNat)
    case atStart=>exact⟨0,rfl,Nat.zero_le _,hO7,hE47⟩
    case round=>
     obtain⟨j,rfl,hj,hOx,hEx⟩:=hrel;have hE2x:=hE.trans hEx;by_cases hlj:j<pl
     ·have hjp:j<p.length:=by rw[hpl'.out];exact hlj
      have hpc:=(hpa.mono (a0a.mono _) (a0m hE2x)).nat j hjp;have hpc1:Hid (p[j]<c):=hid (hRr.out.lt j hjp);have hgd:Hid (p.getD j 0=p[j]):=hid (by simp[List.getD_eq_getElem?_getD,hjp]);obtain⟨y,hy⟩:∃y,p[j]=y:=⟨_,rfl⟩;rw[hy]at hpc hpc1 hgd;have hyc:y<c:=hpc1.out;have hjR:j<R.length:=by rw[hRs.out.1];omega
      have hrz:Sl RC 1 (mk Z wr) ra R:=hra.mono RC.mono (a1g hE2x (fun k _ hk=>by simp[noY]at hk) hzold.out);obtain⟨a1,c1,hX1',hc1,hcl1,hq1⟩:=hrz.row j hjR;have k00:=hc1.out noY wr (ExtX.refl _) rfl;have hxl:Hid (R[j].length=c):=hid (hRs.out.2 _ (List.getElem_mem _));have hxe:Hid (∀h:k<R[j].length,R[j][k]=ent R j k):=hid fun h=>by unfold ent;rw[show R.getD j []=R[j]by simp[List.getD_eq_getElem?_getD,hjR]];simp[List.getD_eq_getElem?_getD,h]
      have hbr:=hid (hbm.out R[j] (List.getElem_mem _));obtain⟨x,hx⟩:∃x,R[j]=x:=⟨_,rfl⟩;rw[hx]at k00 hcl1 hq1 hxl hxe hbr;rw[hxl.out]at k00 hcl1;have hh1:Hd a1 c:=by have:=hq1.hd;rw[hxl.out]at this;exact this
      have hkx:k<x.length:=by rw[hxl.out];exact hlt
      have hxk:=hid (hxe.out hkx);have hbk:=hid (hbr.out x[k] (List.getElem_mem _));have hZr:HX Z wr:=by
       rw[<-hZ'.out];exact hOx.unX (hXu.ext hEx)
      have hyx:y<(xN R p c k j).length:=by rw[a7E];exact hyc
      have hst:Hid ((xN R p c k j).set y (- ent R j k)=xN R p c k (j+1)):=hid (by rw[<-hgd.out];rfl);obtain⟨v,hv⟩:∃v,x[k]=v:=⟨_,rfl⟩;rw[hv]at hxk hbk;have hv':=hid hv;clear hx hc1 hy hv;go_wp2_with (first|(with_reducible refine a0n a1G (by omega) (by assumption) ?_)|(with_reducible refine a0n a0o (by omega) (by assumption) ?_)|(with_reducible refine a1E a0J (by omega) (by assumption) ?_)|((with_reducible show wpList _ _ _ (⟨_, .load 32 _,_,_,_,_⟩::_) _ _);refine a0W a0w k hq1 hkx rfl (by simp) QC.agg ?_;intro u8 hu8;rw[hv'.out]at hu8;obtain⟨s8,a8,n8,c8,d8,k8,e8,rfl⟩:=hu8.shape))
      refine(c1a Z wr _ v hZr (hu8.qv (by have:=hbk.out;omega))).mono ?_;rintro e w9 ⟨hE9,u9,rfl,hu9⟩;have hO9:=hOx.ext0 QC.elem hE9;rw[hxk.out]at hu9;clear k00 hpc;go_wp2_with (first|(with_reducible refine a1E a0J (by omega) (by assumption) ?_)|((with_reducible show wpList _ _ _ (⟨_, .store 32 _ _,_,_,_,_⟩::_) _ _);refine a1O a5N QC.elem y rfl (by simp) hO9 hyx _ (- ent R j k) rfl (by rw[hZ'.out];exact hu9) ?_;intro w10 hO10 hE10))
      rw[hst.out]at hO10;have hEx2:Ext w4 w10:=(hEx.trans hE9).own hO9 (Nat.le_refl _) hE10;go_roundw
      case rel=>exact⟨j+1,by go_num,by omega,hO10,hEx2⟩
      case measure=>simp[intOf];omega
     ·have hjl:j=pl:=by omega
      subst hjl;rw[hxf.out]at hOx;obtain⟨L,hL⟩:∃L,(List.range c).map (nv (ent R) p k)=L:=⟨_,rfl⟩;rw[hL]at hOx hps;have hLl:L.length=c:=by rw[<-hL];simp
      have hsx:=hOx.sl QC.elem;have hlc:=hOx.lenCap;have hOw:=hO.ext0 RC.elem hEx;have hszx:=hEx.size;clear hL;go_wp2_with (at_builtin;refine a0r (l:=a3q (ent R) p c k) a0o rfl RC.elem (by omega) (hXr'.out.ext hEx) q hlq.out rfl rfl hOw (.slice xo c c) L rfl ⟨xo,c,by rw[hLl],hlc,hsx⟩ (by omega) (by omega) ?_;intro oo2 co2 w11 hO11 hE11 hor)
      have hE12:=(hE.trans hEx).own hOw (Nat.le_refl _) hE11;rw[<-hps.out]at hO11;have hlq2:Hid ((a3q (ent R) p c (k+1)).length=q+1):=hid (by rw[hps.out,List.length_append,hlq.out];rfl);go_roundw
      case rel=>exact⟨k+1,q+1,oo2,co2,by go_num,by go_num,by omega,by omega,hlq2,hO11,hE12⟩
      case measure=>simp[intOf];omega
  ·have hkc:k=c:=by omega
   subst hkc;rw[hfull.out]at hO hlq;have hc:=hO.lenCap;have hs:=hO.sl RC.elem;go_wp2_with fail
   go_ret2
   exact⟨hE1.trans hE, .slice oo q co,rfl,oo,co,by rw[hlq.out],hc,hs⟩
set_option maxRecDepth 100000 in
theorem b7p (X:Nat->Bool) (w:World) (u v:Value) (l m:List Rat) (hX:HX X w) (hu:RV (mk X w) u l) (hv:RV (mk X w) v m) (hl:l.length<=1000000) (hml:m.length=l.length):Calls Tryz.prog 157 #[u,v] w (a1Z X w RC (List.zipWith (· - ·) l m)):=by
 obtain⟨ao,ca,rfl,hca,hsa⟩:=hu;have hha:=hsa.hd;obtain⟨bo,cb,rfl,hcb,hsb⟩:=hv;have hhb:=hsb.hd;have hml1:m.length<=l.length:=by omega
 have hml2:l.length<=m.length:=by omega
 obtain⟨L,hL⟩:∃L,List.zipWith (· - ·) l m=L:=⟨_,rfl⟩;have hLl:L.length=l.length:=by rw[<-hL];simp;omega
 have hLi:=hid (show∀i (hi:i<l.length) (hj:i<m.length) (hi':i<L.length),L[i]=l[i] - m[i]from fun i hi hj hi'=>by subst hL;simp);rw[hL];have hLl1:L.length<=l.length:=by omega
 have hLl2:l.length<=L.length:=by omega
 have hLl':=hid hLl;clear hL hml hLl;go_enter Tryz.func157,Tryz.ntmps157
 go_wp2_with fail
 go_loopw [5,9] (fun o cc wr=>∃(i:Nat) (oo:Option Addr) (co:Nat),cc= .int .i64 i/\o= .slice oo i co/\i<=l.length/\OL QC 3 X w.heap.size 32 wr oo co (L.take i)/\Ext w wr) (fun _ cc _=>l.length - (intOf cc).toNat)
 case atStart=>exact⟨0,none,0,rfl,rfl,Nat.zero_le _,OL.nil _ _ _ _ _ _,ExtX.refl _⟩
 case round=>
  obtain⟨i,oo,co,rfl,rfl,hi,hO,hE⟩:=hrel;have hXr:HX X wr:=hX.ext hE;have hXu:HX (un X oo) wr:=hO.unX hXr;have hbase:=hE.size;by_cases hlt:i<l.length
  ·have hsr:Sl QV 3 (mk (un X oo) wr) ao l:=hsa.old QV.mono hE (fun j hj=>hO.ob_lt hj)
   have hltL:i<L.length:=by omega
   have htk:=hid (a0S L i hltL);have hln:=hid (a1e (l:=L) (i:=i) (by omega));have hltm:i<m.length:=by omega
   have hsr2:Sl QV 3 (mk (un X oo) wr) bo m:=hsb.old QV.mono hE (fun j hj=>hO.ob_lt hj);obtain⟨g2,o2,s2,a2,n2,c2,d2,k2,e2,hg2,hX2,hc2,hq2⟩:=hsr2.rat QV.shaped i hltm;obtain⟨g1,o1,s1,a1,n1,c1,d1,k1,e1,hg1,hX1,hc1,hq1⟩:=hsr.rat QV.shaped i hlt;have hob1:=(a0P hX1).2;have hobb:=(a0P hX2).2;have i2:∀W,(Instr.indexAt 45 (.slice bo m.length cb) (.int .i64 (i:Int))).run Tryz.prog W= .ok (.pointer (some ⟨g2,o2,none⟩)) W:=by rw[<-hg2];exact a0h a0J bo m.length cb .i64 i hhb (by omega)
   have i1:∀W,(Instr.indexAt 45 (.slice ao l.length ca) (.int .i64 (i:Int))).run Tryz.prog W= .ok (.pointer (some ⟨g1,o1,none⟩)) W:=by rw[<-hg1];exact a0h a0J ao l.length ca .i64 i hha (by omega)
   have hEd:Ext wr wr.drew:=(ExtX.refl wr).drew;have hS:Hid (∀Y W',ExtX Y wr.drew W'->Y g1=false->Y g2=false->W'.cell? ⟨g1,o1,none⟩=some (.bool s1)/\W'.cell? ⟨g1,o1+1,none⟩=some (.slice a1 n1 c1)/\W'.cell? ⟨g1,o1+2,none⟩=some (.slice d1 k1 e1)/\W'.cell? ⟨g2,o2,none⟩=some (.bool s2)/\W'.cell? ⟨g2,o2+1,none⟩=some (.slice a2 n2 c2)/\W'.cell? ⟨g2,o2+2,none⟩=some (.slice d2 k2 e2)):=hid fun Y W' h hg hb=>by
    have p1:=hc1.out Y W' ((ExtX.of hEd).trans h) hg;have p2:=hc2.out Y W' ((ExtX.of hEd).trans h) hb;exact⟨p1.1,p1.2.1,p1.2.2,p2.1,p2.2.1,p2.2.2⟩
   obtain⟨k00,k01,k02,k10,k11,k12⟩:=hS.out noY wr.drew (ExtX.refl _) rfl rfl;have hxd:QV (mk (un X oo) wr.drew) (.agg #[.bool s1, .slice a1 n1 c1, .slice d1 k1 e1]) l[i]:=hq1;have hvd:QV (mk (un X oo) wr.drew) (.agg #[.bool s2, .slice a2 n2 c2, .slice d2 k2 e2]) m[i]:=hq2;have hXd:HX (un X oo) wr.drew:=hXu;have hyi:=hLi.out i hlt hltm hltL;rw[hyi]at htk;clear hc1 hg1 hq1 hc2 hg2 hq2;go_wp2_with fail
   go_region_held3 (fun w'=>w'.cell? ⟨g1,o1,none⟩=some (.bool s1)/\w'.cell? ⟨g1,o1+1,none⟩=some (.slice a1 n1 c1)/\w'.cell? ⟨g1,o1+2,none⟩=some (.slice d1 k1 e1)/\w'.cell? ⟨g2,o2,none⟩=some (.bool s2)/\w'.cell? ⟨g2,o2+1,none⟩=some (.slice a2 n2 c2)/\w'.cell? ⟨g2,o2+2,none⟩=some (.slice d2 k2 e2))
    (first|exact hS.out noY _ t1 rfl rfl|exact hS.out noY _ (ExtX.alloc t1 _) rfl rfl|exact hS.out (ob oo) _ ((ExtX.of t1).trans hE7) hob1 hobb|go_keep)
    (first|(go_at_call 111;(with_reducible refine(c0N (un X oo) wr.drew _ _ _ _ hXd hxd hvd).mono ?_);rintro ee w6 ⟨t1,u6,rfl,hu6⟩;obtain⟨s6,a6,n6,c6,d6,k6,e6,rfl⟩:=hu6.shape;have hO6:=hO.ext0 QC.elem (hEd.trans t1);have hb6:=(hEd.trans t1).size;have hX6:=hXr.ext (hEd.trans t1))|(refine a1J (l:=L.take i) rfl (by rfl) a0J rfl QC.elem (by omega) hX6 i hln.out rfl rfl hO6 (.agg #[.bool s6, .slice a6 n6 c6, .slice d6 k6 e6]) (l[i] - m[i]) rfl hu6 (by omega) (by omega) ?_;intro oo2 co2 w7 hO7 hE7 hor))
   have hE8:=(hE.trans (hEd.trans t1)).own hO6 (Nat.le_refl _) hE7;rw[htk.out]at hO7;clear k00 k01 k02 k10 k11 k12;go_wp2_with fail
   go_roundw
   case rel=>exact⟨i+1,oo2,co2,by go_num,by go_num,by omega,hO7,hE8⟩
   case measure=>simp[intOf];omega
  ·have hil:i=l.length:=by omega
   subst hil;rw[List.take_of_length_le (by omega)]at hO;have hc:=hO.lenCap;have hs:=hO.sl QC.elem;go_wp2_with fail
   go_ret
   exact⟨hE,_,rfl,oo,co,by rw[hLl'.out];rfl,hc,hs⟩
set_option maxRecDepth 100000 in
theorem b6h (X:Nat->Bool) (w:World) (u v:Value) (p:List (List Rat)) (x:List Rat) (c:Nat) (hX:HX X w) (hu:MV (mk X w) u p) (hv:RV (mk X w) v x) (hsh:∀r∈p,r.length=c) (hx:x.length=c) (hc:c<=1000) (hp:p.length<=1000):Calls Tryz.prog 223 #[u,v] w (a1Z X w MC (a1a c p x)):=by
 obtain⟨M,hM⟩:∃M,a1a c p x=M:=⟨_,rfl⟩;obtain⟨n,hn⟩:∃n,p.length=n:=⟨_,rfl⟩;have hMl:Hid (M.length=n):=hid (by rw[<-hM,<-hn];simp[a1a]);have hMr:Hid (∀j (hj:j<p.length) (h:j<M.length),M[j]=List.zipWith (· - ·) p[j] x):=hid fun j hj h=>by subst hM;exact b0L hsh hx j hj h
 have hMl2:M.length<=n:=by rw[hMl.out];exact Nat.le_refl _
 have hMl3:n<=M.length:=by rw[hMl.out];exact Nat.le_refl _
 obtain⟨ua,uca,rfl,huca,hua⟩:=hu;have hhu:=hua.hd;obtain⟨va,vca,rfl,hvca,hva⟩:=hv;have hn':=hid hn;have hsh':=hid hsh;have hx':=hid hx;rw[hM];rw[hn]at hp huca hhu |-;clear hM hn hsh hx;go_enter Tryz.func223,Tryz.ntmps223
 go_wp2_with fail
 go_loopw [5,10] (fun o cc wr=>∃(i:Nat) (oo:Option Addr) (co:Nat),cc= .int .i64 i/\o= .slice oo i co/\i<=n/\OL RC 1 X w.heap.size 45 wr oo co (M.take i)/\Ext w wr) (fun _ cc _=>n - (intOf cc).toNat)
 case atStart=>exact⟨0,none,0,rfl,rfl,Nat.zero_le _,OL.nil _ _ _ _ _ _,ExtX.refl _⟩
 case round=>
  obtain⟨i,oo,co,rfl,rfl,hi,hO,hE⟩:=hrel;have hXr:HX X wr:=hX.ext hE;have hXu:HX (un X oo) wr:=hO.unX hXr;have hbase:=hE.size;by_cases hlt:i<n
  ·have him:i<p.length:=by rw[hn'.out];exact hlt
   have hltM:i<M.length:=by omega
   have htk:=hid (a0S M i hltM);have hln:=hid (a1e (l:=M) (i:=i) (by omega));have hRd:=hMr.out i him hltM;have hsr:Sl RV 1 (mk (un X oo) wr) ua p:=hua.old RV.mono hE (fun j hj=>hO.ob_lt hj);have hvr:RV (mk (un X oo) wr) (.slice va x.length vca) x:=a7B RV.mono ⟨va,vca,rfl,hvca,hva⟩ hE (fun j hj=>hO.ob_lt hj);obtain⟨a1,c1,hX1,hc1,hcl1,hq1⟩:=hsr.row i him;have k00:=hc1.out noY wr (ExtX.refl _) rfl;have hrl:=hid (hsh'.out p[i] (List.getElem_mem _));have hmi:=b7p (un X oo) wr _ _ p[i] x hXu ⟨a1,c1,rfl,hcl1,hq1⟩ hvr (by rw[hrl.out];omega) (by rw[hrl.out,hx'.out]);rw[<-hRd]at hmi;obtain⟨R,hR⟩:∃R,M[i]=R:=⟨_,rfl⟩;rw[hR]at hmi htk;clear hR hRd hc1;go_wp2_with (with_reducible refine a0n a0o (by omega) (by assumption) ?_)
   refine hmi.mono ?_;rintro e w6 ⟨hE6,u6,rfl,ro,cr,rfl,hcr,hsR⟩;have hRC:RC (mk (un X oo) w6) (.slice ro R.length cr) R:=⟨ro,cr,rfl,hcr,hsR⟩;obtain⟨k,hk⟩:∃k,R.length=k:=⟨_,rfl⟩;rw[hk]at hRC |-;have hO6:=hO.ext0 RC.elem hE6;have hb6:=hE6.size;clear k00;go_wp2_with (at_builtin;refine a0r (l:=M.take i) a0o rfl RC.elem (by omega) (hXr.ext hE6) i hln.out rfl rfl hO6 (.slice ro k cr) R rfl hRC (by omega) (by omega) ?_;intro oo2 co2 w7 hO7 hE7 hor)
   have hE8:=(hE.trans hE6).own hO6 (Nat.le_refl _) hE7;rw[htk.out]at hO7;go_roundw
   case rel=>exact⟨i+1,oo2,co2,by go_num,by go_num,by omega,hO7,hE8⟩
   case measure=>simp[intOf];omega
  ·have hil:i=n:=by omega
   subst hil;rw[List.take_of_length_le (by omega)]at hO;have hc:=hO.lenCap;have hs:=hO.sl RC.elem;go_wp2_with fail
   go_ret
   exact⟨hE,_,rfl,oo,co,by rw[hMl.out];rfl,hc,hs⟩
set_option maxRecDepth 100000 in
set_option maxHeartbeats 1600000 in
theorem b6i (X:Nat->Bool) (w:World) (u v:Value) (l m:List Rat) (hX:HX X w) (hu:RV (mk X w) u l) (hv:RV (mk X w) v m) (hn:l.length<=1000000) (hml:m.length=l.length) (hb1:∀k,k<=l.length->hq (a6j l m k)<=68719476736) (hb2:∀k,k<l.length->hq (l.getD k 0*m.getD k 0)<=68719476736):
  Calls Tryz.prog 258 #[u,v] w (a1Z X w QC (b0X l m)):=by
 obtain⟨ao,ca,rfl,hca,hsa⟩:=hu;obtain⟨bo,cb,rfl,hcb,hsb⟩:=hv;have hha:=hsa.hd;have hhb:=hsb.hd;obtain⟨W,hW,hE,b0,b1,hz⟩:=a2a w #[.bool false, .slice none 0 0, .slice none 0 0] #[.bool false, .slice none 0 0, .slice none 0 0] 32 32;have hXW:HX (a0e X w.heap.size 2) W:=hX.boxes hz;have h0:QC (mk (a0e X w.heap.size 2) W) (.agg #[.bool false, .slice none 0 0, .slice none 0 0]) (a6j l m 0):=QC.zero _;obtain⟨n,hln⟩:∃n,l.length=n:=⟨_,rfl⟩;rw[hln]at hn hml hb1 hb2 hca hha |-;rw[hml]at hcb hhb |-;have hln':=hid hln;have hml':=hid hml;have hb1':=hid hb1;have hb2':=hid hb2;have hdot:Hid (a6j l m n=b0X l m):=hid (by unfold b0X;rw[hln]);clear hln hml hb1 hb2;go_enter Tryz.func258,Tryz.ntmps258
 go_wp2_with fail
 obtain⟨b,hb⟩:∃b,w.heap.size=b:=⟨_,rfl⟩;have hle:Hid (∀wr,Ext w wr->Le (mk X w) (mk (a0e X b 2) wr)):=hid fun wr h=>by rw[<-hb];exact a0q h
 have hbw:w.heap.size<=b:=by omega
 rw[hb]at b0 b1 hXW h0 |-;clear hW;go_loopw [9] (fun k wr=>∃(i:Nat) (s:Bool) (a:Option Addr) (n' c':Nat) (d:Option Addr) (kk e:Nat),k= .int .i64 i/\i<=n/\Bx wr b #[.bool false, .slice none 0 0, .slice none 0 0] 32/\Bx wr (b+1) #[.bool s, .slice a n' c', .slice d kk e] 32/\QC (mk (a0e X b 2) wr) (.agg #[.bool s, .slice a n' c', .slice d kk e]) (a6j l m i)/\HX (a0e X b 2) wr/\Ext w wr) (fun k _=>n - (intOf k).toNat)
 case atStart=>exact⟨0,_,_,_,_,_,_,_,rfl,Nat.zero_le _,b0,b1,h0,hXW,hE⟩
 case round=>
  obtain⟨i,s,a,n',c',d,kk,e,rfl,hi,b0,b1,hq,hXr,hEr⟩:=hrel;by_cases hlt:i<n
  ·have hil:i<l.length:=by rw[hln'.out];exact hlt
   have him:i<m.length:=by rw[hml'.out];exact hlt
   have hsr:=hsa.mono QV.mono (hle.out wr hEr);have hsr2:=hsb.mono QV.mono (hle.out wr hEr);obtain⟨g1,o1,s1,p1,n1,q1,d1,k1,e1,hg1,hX1,hc1,hq1⟩:=hsr.rat QV.shaped i hil;obtain⟨g2,o2,s2,p2,n2,q2,d2,k2,e2,hg2,hX2,hc2,hq2⟩:=hsr2.rat QV.shaped i him;have gl:Hid (l.getD i 0=l[i]):=hid (by simp[List.getD_eq_getElem?_getD,hil]);have gm:Hid (m.getD i 0=m[i]):=hid (by simp[List.getD_eq_getElem?_getD,him]);have hst:Hid (a6j l m i+l[i]*m[i]=a6j l m (i+1)):=hid (by rw[<-gl.out,<-gm.out];rfl);have hbo:=hid (hb1'.out i hi);have hbp:=hid (hb2'.out i hlt);rw[gl.out,gm.out]at hbp;obtain⟨x,hx⟩:∃x,l[i]=x:=⟨_,rfl⟩;obtain⟨y,hy⟩:∃y,m[i]=y:=⟨_,rfl⟩;rw[hx,hy]at hst hbp;rw[hx]at hq1;rw[hy]at hq2;have i1:∀W,(Instr.indexAt 45 (.slice ao n ca) (.int .i64 (i:Int))).run Tryz.prog W= .ok (.pointer (some ⟨g1,o1,none⟩)) W:=by rw[<-hg1];exact a0h a0J ao n ca .i64 i hha (by omega)
   have i2:∀W,(Instr.indexAt 45 (.slice bo n cb) (.int .i64 (i:Int))).run Tryz.prog W= .ok (.pointer (some ⟨g2,o2,none⟩)) W:=by rw[<-hg2];exact a0h a0J bo n cb .i64 i hhb (by omega)
   obtain⟨D,hD⟩:∃D,a6j l m i=D:=⟨_,rfl⟩;obtain⟨D2,hD2⟩:∃D2,a6j l m (i+1)=D2:=⟨_,rfl⟩;rw[hD]at hq hst hbo;rw[hD2]at hst;have hD2':=hid hD2;clear hx hy hg1 hg2 hD hD2;have hE5d:Ext wr wr.drew:=(ExtX.refl wr).drew;have b05:=b0.ext0 hE5d;have b15:=b1.ext0 hE5d;have k00:=b15.cell 0 rfl;have k01:=b15.cell 1 rfl;have k02:=b15.cell 2 rfl;obtain⟨k10,k11,k12⟩:=hc1.out noY wr.drew hE5d rfl;obtain⟨k20,k21,k22⟩:=hc2.out noY wr.drew hE5d rfl;have hXd:=hXr.ext hE5d;have hx5:QV (mk (a0e X b 2) wr.drew) (.agg #[.bool s1, .slice p1 n1 q1, .slice d1 k1 e1]) x:=mkx QV.mono hq1 hE5d;have hy5:QV (mk (a0e X b 2) wr.drew) (.agg #[.bool s2, .slice p2 n2 q2, .slice d2 k2 e2]) y:=mkx QV.mono hq2 hE5d;have hq5:QV (mk (a0e X b 2) wr.drew) (.agg #[.bool s, .slice a n' c', .slice d kk e]) D:=(mkx QC.mono hq hE5d).qv hbo.out;clear hc1 hc2;go_wp2_with fail
   go_region_with (first|(go_at_call 169;(with_reducible refine(c0M (a0e X b 2) wr.drew _ _ _ _ hXd hx5 hy5).mono ?_);rintro ee w6 ⟨t1,u6,rfl,hu6⟩;obtain⟨s6,a6,n6,c6,d6,k6,e6,rfl⟩:=hu6.shape;have hX6:=hXd.ext t1;have hq6:=mkx QV.mono hq5 t1;have hm6:=hu6.qv hbp.out;have b16:=b15.ext0 t1;have m0:=b16.cell 0 rfl;have m1:=b16.cell 1 rfl;have m2:=b16.cell 2 rfl)|(go_at_call 112;(with_reducible refine(b9Z (a0e X b 2) w6 _ _ _ _ hX6 hq6 hm6).mono ?_);rintro ee w7 ⟨t7,u7,rfl,hu7⟩;obtain⟨s7,a7,n7,c7,d7,k7,e7,rfl⟩:=hu7.shape;rw[hst.out]at hu7;have b17:=b16.ext0 t7;have g0:=b17.cell 0 rfl;have g1':=b17.cell 1 rfl;have g2':=b17.cell 2 rfl;have f0:=b17.frozen 0;have f1:=b17.frozen 1;have f2:=b17.frozen 2))
   all_goals
    obtain⟨z1,z2⟩:=b17.set3 (.bool s7) (.slice a7 n7 c7) (.slice d7 k7 e7);have h8:=QC.mono _ _ _ _ (a0i (lo:=b) (nb:=2) z2 (by omega) (by omega)) hu7;have b08:=((b05.ext0 t1).ext0 t7).ext z2 (a0b (by omega));have hE8:Ext w _:=ExtX.box (hEr.trans (hE5d.trans (t1.trans t7))) z2 (by omega);have hX8:=(hX6.ext t7).ext z2;rw[<-hD2'.out]at h8;clear k00 k01 k02 k10 k11 k12 k20 k21 k22 m0 m1 m2 g0 g1' g2' f0 f1 f2 i1 i2;go_wp2_with fail
    go_roundw
    case rel=>exact⟨i+1,_,_,_,_,_,_,_,by go_num,by omega,b08,z1,h8,hX8,hE8⟩
    case measure=>simp[intOf];omega
  ·have hin:i=n:=by omega
   subst hin;rw[hdot.out]at hq;have k00:=b1.cell 0 rfl;have k01:=b1.cell 1 rfl;have k02:=b1.cell 2 rfl;go_wp2_with ((with_reducible show wpList _ _ _ (⟨_, .store _ _ _,_,_,_,_⟩::_) _ _);refine a0c a0w rfl rfl b0 rfl rfl (a2C _ _ _ _ _ _ _) ?_;intro w7 r1 r2)
   have h7:=QC.mono _ _ _ _ a0k (QC.mono _ _ _ _ (a0i r2 (by omega) (by omega)) hq);exact bodyPost_ret (a0d rfl rfl a0w r1 rfl) rfl ⟨ExtX.box hEr r2 (by omega),_,rfl,h7⟩
def c0k (w:World) (n:Nat) (c:Int) (e:Ending) (w':World):Prop:=Ext w w'/\e= .returned (.tuple #[.int .i64 (n:Int), .int .i64 c])
end Go.Proofs.YtoibhmjjhgaimaaGreat
namespace Go.Rep
open Go.RowKit
section
variable {P:Program} {ops:Array Oper} {Q:Exit->Act->World->Prop} {rest:List Oper} {a:Act} {w:World}
variable {α:Type} {R:Mem->Value->α->Prop} {sz:Nat} {X:Nat->Bool} {base:Nat} {e:TypeId} {ao:Option Addr} {cap:Nat} {l:List α}
variable {d:Option Tmp} {ty:TypeId} {ps:String} {af:Array Edge}
theorem OL.field (hR:Elem R sz) (h:OL R sz X base e w ao cap l) (i j:Nat) (hi:i<l.length) (hj:j<sz) (v:Value) (y:α)
  (hu:∀u,R (mk (un X ao) w) u l[i]->∃u',a0g u'=(a0g u).set j v/\R (mk (un X ao) w) u' y):
  (∃v0,w.cell? (adr ao (i*sz+j))=some v0)/\w.frozen? (adr ao (i*sz+j))=false/\Sl R sz (mk X (w.setCell (adr ao (i*sz+j)) v)) ao (l.set i y)/\ExtX (ob ao) w (w.setCell (adr ao (i*sz+j)) v):=by
 obtain⟨us,h1,h2,h22,h3,h5⟩:=h.cells;have hsub:(i+1)*sz<=us.length*sz:=Nat.mul_le_mul_right _ (by omega);rw[Nat.succ_mul]at hsub;have hcell:∀k (hk:k<us.length) q (hq:q<sz),w.cell? (adr ao (k*sz+q))=some (us[k].cells[q]'(by rw[h2 _ (List.getElem_mem _)];exact hq))/\w.frozen? (adr ao (k*sz+q))=false:=by
  intro k hk q hq;have hz:us[k].cells.size=sz:=h2 _ (List.getElem_mem _);have hg:=a3l us k q hk h2 hq;have hc:(a0g us[k])[q]? =some (us[k].cells[q]'(by rw[hz];exact hq)):=by simp[a0g,hz,hq]
  rw[hc]at hg;exact h3 _ _ hg
 have hE:ExtX (ob ao) w (w.setCell (adr ao (i*sz+j)) v):=
  ⟨rfl,rfl,rfl,by simp[World.setCell],fun k hk hy=>Below.heap_setCell _ _ _ _ (fun e=>by
   have hf:=h.form;rcases hf with⟨_,_,rfl⟩|⟨g,cur,rfl,_⟩
   ·simp at hi
   ·subst e;simp[ob]at hy)⟩
 have hX:∀q,X (adr ao q).block=false:=by
  intro q;have hf:=h.form;have hx:=h.1;rcases hf with⟨_,_,rfl⟩|⟨g,cur,rfl,_⟩
  ·simp at hi
  ·exact hx _ (by simp[ob,adr])
 have hi':i<us.length:=by omega
 refine⟨⟨_,(hcell i hi' j hj).1⟩,(hcell i hi' j hj).2,⟨by simpa using h.hd,fun k hk=>?_⟩,hE⟩;have hk':k<us.length:=by simpa[h1]using hk
 have hle:Le (mk (un X ao) w) (mk X (w.setCell (adr ao (i*sz+j)) v)):=a1g hE (fun k _ hk=>a0y hk) fun k _ hk=>a0v hk;by_cases hki:k=i
 ·subst hki
  obtain⟨u',hu1,hu2⟩:=hu us[k] (h5 k hk' (by omega));have hsz':=hR.size _ _ _ hu2;refine⟨u',hsz',fun q hq=>?_,by simpa using hR.mono _ _ _ _ hle hu2⟩;have hq':q<sz:=by omega
  have hget:(a0g u')[q]? =some u'.cells[q]:=by simp[a0g,hq]
  rw[hu1,List.getElem?_set]at hget;unfold mk;rw[hX];by_cases hqj:j=q
  ·subst hqj
   rw[if_pos rfl,if_pos (by simp[a0g,h2 _ (List.getElem_mem hk'),hj])]at hget;have:u'.cells[j]=v:=by simpa using hget.symm
   rw[this];exact World.cell?_setCell_same' w _ v (by rw[(hcell k hk' j hj).1];rfl)
  ·rw[if_neg hqj]at hget
   have hc:=(hcell k hk' q hq').1;have:us[k].cells[q]'(by rw[h2 _ (List.getElem_mem _)];exact hq')=u'.cells[q]:=by
    simpa[a0g]using(List.getElem?_eq_some_iff.1 hget).2
   rw[this]at hc;rw[<-hc];exact World.cell?_setCell_other w _ _ v (by simp[adr])
 ·have hz:us[k].cells.size=sz:=h2 _ (List.getElem_mem _)
  refine⟨us[k],hz,fun q hq=>?_,by simpa[List.getElem_set,Ne.symm hki]using hR.mono _ _ _ _ hle (h5 k hk' (by simpa using hk))⟩;have hc:=(hcell k hk' q (by omega)).1;unfold mk;rw[hX,<-hc];refine World.cell?_setCell_other w _ _ v ?_;have hne:k*sz+q≠i*sz+j:=by
   intro he;rcases Nat.lt_or_gt_of_ne hki with hlt|hlt
   ·have:=Nat.mul_le_mul_right sz (show k+1<=i by omega)
    rw[Nat.succ_mul]at this;omega
   ·have:=Nat.mul_le_mul_right sz (show i+1<=k by omega)
    rw[Nat.succ_mul]at this;omega
  simp[adr]
theorem a1r {t:TypeId} {x y:Operand} {A:Addr} {v v0:Value} (hT:TyI P t 1) (hx:a.eval x= .pointer (some A)) (hy:a.eval y=v) (hv:v.cells=#[v]) (hone:v.oneCell'=true) (hc:w.cell? A=some v0) (hf:w.frozen? A=false)
  (K:wpList P ops Q rest (a.put d undef) (w.setCell A v)):
  wpList P ops Q (⟨d, .store t x y,ty,ps,af,none⟩::rest) a w:=by
 refine wpList_plain rfl fun K' hK'=>?_;obtain⟨ti,ht,hts⟩:=hT;unfold Oper.wp;subst hy;have hr:=run_store P w A (a.eval y) .plain hone;rw[hc,hf]at hr;simp only[Bool.false_eq_true,if_false]at hr;simp[execOp,hx,Instr.storeAt,Instr.sureAddr,storeVar,sizeOf,typeInfo,ht,hts,hv,Result.andThen,storeCells,Addr.add_zero',hr];exact hK' _ _ K
end
end Go.Rep
namespace Go.Rep
open Go.RowKit
section
variable {P:Program} {ops:Array Oper} {Q:Exit->Act->World->Prop} {rest:List Oper} {a:Act} {w:World}
variable {α:Type} {R:Mem->Value->α->Prop} {sz:Nat} {X:Nat->Bool} {e:TypeId}
variable {d:Option Tmp} {ty:TypeId} {ps:String} {af:Array Edge}
theorem b4g {t by_:Nat} {z:Value} {s x:Operand} {asl:Option Addr} {cs m:Nat} (T:SliceT P t e sz by_ z) (hzs:z.cells.size=sz) (hR:Elem R sz) (hX:∀k,X k=true->k<w.heap.size)
  (xs:List α) (hs:a.eval s= .slice none 0 0) (hx:a.eval x= .slice asl m cs) (hm:m=xs.length)
  (hxs:Sl R sz (mk X w) asl xs) (hroom:m*by_<=140737488355328) (hmax:m<=9223372036854775807)
  (K:∀ao' cap' w',OL R sz X w.heap.size e w' ao' cap' xs->Ext w w'->wpList P ops Q rest (a.put d (.slice ao' m cap')) w'):
  wpList P ops Q (⟨d, .call {callee:= .builtin .append,args:=#[s,x],argTypes:=#[t,t]},ty,ps,af,none⟩::rest) a w:=by
 subst hm;have h0:OL R sz X w.heap.size e w none 0 []:=OL.nil _ _ _ _ _ _;have hun:un X none=X:=by funext k;simp[un,ob]
 refine a2m (l:=[]) T hzs hR (Nat.le_refl _) hX xs hs hx h0 (by rw[hun];exact hxs) (by simpa using hroom) (by simpa using hmax) ?_;intro ao' cap' w' h1 h2 h3;have hE:Ext w w':=h2.weaken fun k _ _=>by simp[ob]
 exact K ao' cap' w' h1 hE
theorem OL.rehide {base cap:Nat} {ao:Option Addr} {l:List α} (hR:Elem R sz) (hR0:∀h h' u x,R h u x->R h' u x) (h:OL R sz X base e w ao cap l) {Z:Nat->Bool} (hz:∀k,ob ao k=true->Z k=false):Sl R sz (mk Z w) ao l:=by
 have hf:=h.form;have hs:=h.sl hR;rcases hf with⟨rfl,_,rfl⟩|⟨g,cur,rfl,_⟩
 ·exact Sl.nil _ _ _ _
 ·refine⟨hs.1,fun i hi=>?_⟩
  obtain⟨u,h1,h2,h3⟩:=hs.2 i hi;refine⟨u,h1,fun j hj=>?_,hR0 _ _ _ _ h3⟩;have:=a1u (h2 j hj);unfold mk;rw[hz _ (by simp[ob,adr])];simpa using this
theorem OL.beside {base cap:Nat} {ao oo oo':Option Addr} {l:List α} {w':World} (hR:Elem R sz) (h:OL R sz (un X oo) base e w ao cap l) (hE:ExtX (ob oo) w w') (ho:oo'=oo\/∃g,oo'=some ⟨g,0,none⟩/\w.heap.size<=g):OL R sz (un X oo') base e w' ao cap l:=
 h.ext hR hE (fun k _ hk=>a0y hk) fun k hk hz=>by
  rcases ho with rfl|⟨g,rfl,hg⟩
  ·exact hz
  ·by_cases hx:X k=true
   ·exact a0v hx
   ·have:g=k:=by simpa[un,hx,ob]using hz
    omega
end
end Go.Rep
namespace Go.Rep
open Go.RowKit
section
variable {P:Program} {ops:Array Oper} {Q:Exit->Act->World->Prop} {rest:List Oper} {a:Act} {w:World}
variable {α:Type} {R:Mem->Value->α->Prop} {sz:Nat} {X:Nat->Bool} {base:Nat} {e:TypeId} {ao:Option Addr} {cap:Nat} {l:List α}
variable {d:Option Tmp} {ty:TypeId} {ps:String} {af:Array Edge}
theorem OL.take (h:OL R sz X base e w ao cap l) (_hsz:∀m u x,R m u x->u.cells.size=sz) (n:Nat):OL R sz X base e w ao cap (l.take n):=by
 have hf:=h.form;obtain⟨hx,us,h1,h2,h22,⟨h3,h4⟩,h5⟩:=h;have hus:∀u∈us.take n,u.cells.size=sz:=fun u hu=>h2 u (List.mem_of_mem_take hu);refine⟨hx,us.take n,by simp[h1],hus,fun u hu=>h22 u (List.mem_of_mem_take hu),⟨by rw[a0O _ hus];simp[h1],?_⟩,fun i hi hi'=>?_⟩
 ·rcases h4 with⟨hv,hn⟩|⟨g,c,cur,hv,q1,q2,q3,q4,q5,q6⟩
  ·simp at hv
   obtain⟨rfl,h0,rfl⟩:=hv;refine .inl ⟨by simp[h0],by simp[h0]⟩
  ·simp at hv
   obtain⟨rfl,rfl⟩:=hv;refine .inr ⟨g,cap,cur,by simp,q1,q2,by simp;omega,q4,q5,?_⟩;have e1:(us.take n).flatMap a0g=(us.flatMap a0g).take ((l.take n).length*sz):=by
    have e2:us.flatMap a0g=(us.take n).flatMap a0g++(us.drop n).flatMap a0g:=by
     rw[<-List.flatMap_append,List.take_append_drop]
    rw[e2];have e3:(l.take n).length*sz=((us.take n).flatMap a0g).length:=by rw[a0O _ hus];simp[h1]
    rw[e3,List.take_left]
   rw[e1,<-q6,List.take_take]
   congr 1
   have:(l.take n).length<=l.length:=by simp;omega
   exact(Nat.min_eq_left (Nat.mul_le_mul_right _ this)).symm
 ·simp only[List.getElem_take]
  exact h5 i (by simp at hi;omega) (by simp at hi';omega)
theorem a7j {t by_:Nat} {z:Value} {arr:Array Value} {s x:Operand} {g n:Nat} (T:SliceT P t e sz by_ z) (hR:Elem R sz)
  (hs:a.eval s= .slice (some ⟨g,0,none⟩) n cap) (hn:l.length=n) (hx:a.eval x= .slice (some ⟨w.heap.size,0,none⟩) 1 1) (h:OL R sz X base e w (some ⟨g,0,none⟩) cap l)
  (u:Value) (y:α) (harr:arr=u.cells) (hu:R (mk (un X (some ⟨g,0,none⟩)) w) u y) (hroom:n+1<=cap)
  (K:∀w',OL R sz X base e w' (some ⟨g,0,none⟩) cap (l++[y])->ExtX (ob (some ⟨g,0,none⟩)) w w'->wpList P ops Q rest (a.put d (.slice (some ⟨g,0,none⟩) (n+1) cap)) w'):
  wpList P ops Q (⟨d, .call {callee:= .builtin .append,args:=#[s,x],argTypes:=#[t,t]},ty,ps,af,none⟩::rest) a (w.alloc (.cells arr e)):=by
 subst hn;refine wpList_plain rfl fun K' hK'=>?_;have hE:Ext w (w.alloc (.cells arr e)):=(ExtX.refl w).alloc _;have h':=h.ext0 hR hE;obtain⟨i,hi,hz,hsz,hby⟩:=info_parts T.info;have hat:=b3j w arr e u harr;have husz:=hR.size _ _ _ hu;have hu1:=hR.one _ _ _ hu;have hu2:R (mk (un X (some ⟨g,0,none⟩)) (w.alloc (.cells arr e))) u y:=hR.mono _ _ _ _ (a0m hE) hu;have hnl:(a0g u).length=1*i.size:=by simp[a0g,husz,hsz]
 have hnews:∀j v,(a0g u)[j]? =some v->(w.alloc (.cells arr e)).cell? ((⟨w.heap.size,0,none⟩:Addr).add j)=some v:=by
  intro j v hj;rw[<-a8b rfl];exact hat.2 j v (by simpa using hj)
 have hform:=h'.form;generalize hW:w.alloc (.cells arr e)=W at hE h' hu2 hnews hform;obtain⟨hx',us,h1,h2,h22,h3,h5⟩:=h';rcases hform with⟨hv,_⟩|⟨g',cur,hv,h6,h7,h8,h9,h10⟩
 ·simp at hv
 simp at hv;subst hv;have hul:(us.flatMap a0g).length=l.length*i.size:=by rw[a0O us h2,h1,hsz]
 have hfl:(us++[u]).flatMap a0g=us.flatMap a0g++a0g u:=by simp
 have hnew:∀v∈us++[u],v.cells.size=sz:=by
  intro v hv;rcases List.mem_append.1 hv with hv|hv
  ·exact h2 v hv
  ·rw[List.mem_singleton.1 hv];exact husz
 have hnew1:∀v∈us++[u],∀c∈a0g v,c.oneCell'=true:=by
  intro v hv c hc;rcases List.mem_append.1 hv with hv|hv
  ·exact h22 v hv c hc
  ·rw[List.mem_singleton.1 hv]at hc;exact hu1 c hc
 have hfit:l.length*i.size+(a0g u).length<=cur.size:=by rw[hnl,h10,<-hsz,<-Nat.add_mul];exact Nat.mul_le_mul_right _ hroom
 have hr:=run_append_room (P:=P) W t ty e i T.und hi g l.length cap cur h7 ⟨w.heap.size,0,none⟩ 1 1 (a0g u) hnl hnews hu1 hroom hfit;have hE2:ExtX (ob (some ⟨g,0,none⟩)) W (W.setRow g (cur.toList.take (l.length*i.size)++a0g u++cur.toList.drop (l.length*i.size+(a0g u).length)).toArray):=
  ⟨rfl,rfl,rfl,by simp,fun k _ hk=>setRow_other W g k _ (fun ek=>by subst ek;simp[ob]at hk)⟩
 have hll:(l++[y]).length=l.length+1:=by simp
 have hOL:OL R sz X base e (W.setRow g (cur.toList.take (l.length*i.size)++a0g u++cur.toList.drop (l.length*i.size+(a0g u).length)).toArray) (some ⟨g,0,none⟩) cap (l++[y]):=by
  refine⟨hx',us++[u],by simp[h1],hnew,hnew1,⟨by rw[hfl];simp[hul,hnl,hsz,Nat.add_mul], .inr ⟨g,cap,_,by rw[hll],h6,setRow_heap W g cur _ e _ h7,by rw[hll];exact hroom,h9,?_,?_⟩⟩,?_⟩
  ·simp only[List.size_toArray,List.length_append,List.length_take,List.length_drop,Array.length_toList];omega
  ·rw[hfl,hll]
   rcases h3.2 with⟨hv,_⟩|⟨g',c',cur',hv,_,h7',_,_,_,h11⟩
   ·simp at hv
   simp at hv;obtain⟨rfl,rfl⟩:=hv;rw[h7]at h7';obtain rfl:cur=cur':=by simpa using h7'
   have e1:cur.toList.take (l.length*i.size)=us.flatMap a0g:=by rw[hsz];exact h11
   rw[e1];have hll2:(l.length+1)*sz=(us.flatMap a0g++a0g u).length:=by simp only[List.length_append,hul,hnl,hsz,Nat.add_mul]
   rw[hll2];exact List.take_left
  ·intro k hk hk'
   have hle:Le (mk (un X (some ⟨g,0,none⟩)) W) (mk (un X (some ⟨g,0,none⟩)) _):=a3P hE2 (.inl rfl);by_cases hlt:k<us.length
   ·simpa[List.getElem_append_left hlt,List.getElem_append_left (show k<l.length by omega)]using hR.mono _ _ _ _ hle (h5 k hlt (by omega))
   ·have hke:k=us.length:=by simp at hk;omega
    subst hke;have:=hR.mono _ _ _ _ hle hu2;simpa[List.getElem_append_right,h1]using this
 unfold Oper.wp execOp;simp only[resolve,invoke,builtin,Sem.run_bind,Sem.run_pure,Result.andThen_ok,List.map_toArray,List.map_cons,List.map_nil,hs,hx];rw[hr];exact hK' _ _ (K _ hOL ((ExtX.of hE).trans hE2))
theorem b6j {t by_:Nat} {z:Value} {x y:Operand} {kl kc:IntKind} {m m0:Int} (T:SliceT P t e sz by_ z) (_hzs:z.cells.size=sz) (X:Nat->Bool) (hX:∀k,X k=true->k<w.heap.size) (base:Nat) (hbase:base<=w.heap.size)
  (n:Nat) (hl:a.eval x= .int kl m0) (hm0:m0=0) (hc:a.eval y= .int kc m) (hm:m=(n:Int)) (hroom:by_*n<=281474976710656) (hmax:n<=9223372036854775807)
  (K:∀w',OL R sz X base e w' (some ⟨w.heap.size,0,none⟩) n []->Ext w w'->w'.heap.size=w.heap.size+1->wpList P ops Q rest (a.put d (.slice (some ⟨w.heap.size,0,none⟩) 0 n)) w'):
  wpList P ops Q (⟨d, .makeSlice t x y,ty,ps,af,none⟩::rest) a w:=by
 refine wpList_plain rfl fun K' hK'=>?_;subst hm;subst hm0;obtain⟨i,hi,hiz,hsz,hby⟩:=info_parts T.info;have hr:=Go.run_make (P:=P) w t e i z T.und hi hiz kl kc 0 n (by omega) (by omega) (by rw[hby,<-Int.natCast_mul];omega) (by omega);simp only[Int.toNat_natCast,Int.toNat_zero]at hr;unfold Oper.wp;simp[execOp,hl,hc,hr,Result.andThen];refine hK' _ _ (K _ ⟨fun k hk=>?_,[],rfl,by simp,by simp,⟨by simp, .inr ⟨w.heap.size,n,_,by simp,hbase,heap_alloc_new w _,by simp,by simpa[maxLen]using hmax,by rw[size_madeCells,hsz],by simp⟩⟩,fun i hi=>by simp at hi⟩ ((ExtX.refl w).alloc _) (by simp));have:w.heap.size=k:=by simpa[ob]using hk
 cases hh:X k
 ·rfl
 ·have:=hX k hh;omega
end
end Go.Rep
