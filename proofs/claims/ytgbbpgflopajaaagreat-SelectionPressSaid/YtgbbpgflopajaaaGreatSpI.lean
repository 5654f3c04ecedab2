/- Parts of a proof: each theorem states what it proves, and its conditions. -/
import Derived.Test.YtgbbpgflopajaaaGreatSpH
set_option maxRecDepth 100000
set_option maxHeartbeats 1600000
namespace Go.Lin
theorem a2O{m:Mat}{i:Nat}(h:i<m.length):m.getD i []=m[i]:=by simp[List.getD_eq_getElem?_getD,h]
theorem b1S(m:Mat)(t col:Nat):clear m t col 0=m:=by
 unfold clear rows;refine List.ext_getElem (by simp) fun q a b=>?_;rw[List.getElem_mapIdx,if_neg (by omega)]
theorem a2X{m:Mat}{t col s i:Nat}(h:i<(clear m t col s).length)(a:i<m.length):(clear m t col s)[i]=if t<i/\i<t+1+s then a3r m[i] (m.getD t []) col else m[i]:=by
 show(m.mapIdx _)[i]'(by simpa using a)=_
 rw[List.getElem_mapIdx]
theorem a2F(m:Mat)(t col s:Nat):(clear m t col s).length=m.length:=by simp[clear,rows]
theorem b3z{m:Mat}{t col s:Nat}(h:t+1+s<m.length):(clear m t col s).set (t+1+s) (a3r m[t+1+s] (m.getD t []) col)=clear m t col (s+1):=by
 refine List.ext_getElem (by simp[a2F]) fun q c b=>?_;have hq:q<m.length:=by rw[a2F]at b;exact b
 rw[List.getElem_set,a2X b hq];split
 ·subst_vars;rw[if_pos (by omega)]
 ·rw[a2X (by simpa[a2F]using hq) hq]
  by_cases a:t<q/\q<t+1+s
  ·rw[if_pos a,if_pos (by omega)]
  ·rw[if_neg a,if_neg (by omega)]
theorem b1T{m:Mat}{t col s c:Nat}(h:m.length<=t+1+s)(e:m.length<=t+1+c):clear m t col s=clear m t col c:=by
 refine List.ext_getElem (by simp[a2F]) fun q d b=>?_;have hq:q<m.length:=by rw[a2F]at b;exact b
 rw[a2X d hq,a2X b hq];by_cases a:t<q
 ·rw[if_pos (by omega),if_pos (by omega)]
 ·rw[if_neg (by omega),if_neg (by omega)]
theorem b1U(m:Mat)(t col:Nat):above m t col 0=m:=by
 unfold above rows;refine List.ext_getElem (by simp) fun q a b=>?_;rw[List.getElem_mapIdx,if_neg (by omega)]
theorem a4k{m:Mat}{t col s i:Nat}(h:i<(above m t col s).length)(a:i<m.length):(above m t col s)[i]=if i<t/\i<s then a3r m[i] (m.getD t []) col else m[i]:=by
 show(m.mapIdx _)[i]'(by simpa using a)=_
 rw[List.getElem_mapIdx]
theorem a4l(m:Mat)(t col s:Nat):(above m t col s).length=m.length:=by simp[above,rows]
theorem b3A{m:Mat}{t col s:Nat}(h:s<m.length)(c:s<t):(above m t col s).set s (a3r m[s] (m.getD t []) col)=above m t col (s+1):=by
 refine List.ext_getElem (by simp[a4l]) fun q d b=>?_;have hq:q<m.length:=by rw[a4l]at b;exact b
 rw[List.getElem_set,a4k b hq];split
 ·subst_vars;rw[if_pos (by omega)]
 ·rw[a4k (by simpa[a4l]using hq) hq]
  by_cases a:q<t/\q<s
  ·rw[if_pos a,if_pos (by omega)]
  ·rw[if_neg a,if_neg (by omega)]
end Go.Lin
namespace Go.Rep
open Go.RowKit Go.Lim Go.Lin
theorem b5I{hs:List Hdr}{i k:Nat}(hi:i<hs.length)(d:k<hs.length):obs ((hs.set i hs[k]).set k hs[i])=obs hs:=by
 funext b
 rw[Bool.eq_iff_iff];constructor
 ·intro h
  obtain⟨q,hq,c⟩:=a5s h;simp only[List.length_set]at hq;rw[List.getElem_set]at c;split at c
  ·exact a1N hi c
  ·rw[List.getElem_set]at c
   split at c
   ·exact a1N d c
   ·exact a1N hq c
 ·intro h
  obtain⟨q,hq,c⟩:=a5s h;by_cases a:q=i
  ·subst a
   refine a1N (i:=k) (by simpa using d) ?_;rw[List.getElem_set_self];exact c
  ·by_cases b':q=k
   ·subst b'
    refine a1N (i:=i) (by simpa using hi) ?_;rw[List.getElem_set_ne (by omega),List.getElem_set_self];exact c
   ·refine a1N (i:=q) (by simpa using hq) ?_
    rw[List.getElem_set_ne (by omega),List.getElem_set_ne (by omega)];exact c
section
variable {X:Nat->Bool} {base:Nat} {e1 e2:TypeId} {w w':World} {ao:Option Addr} {cap:Nat} {hs:List Hdr} {m:List (List Rat)}
theorem b3B{m:Mat}{i k q:Nat}(hi:i<m.length)(c:k<m.length)(hq:q<(a1j m i k).length):(a1j m i k)[q]=if q=k then m[i]else if q=i then m[k]else m[q]'(by simpa[a1j]using hq):=by
 simp only[a1j,a2O hi,a2O c];rw[List.getElem_set];by_cases a:k=q
 ·rw[if_pos a,if_pos a.symm]
 ·rw[if_neg a,if_neg (Ne.symm a),List.getElem_set]
  by_cases b:i=q
  ·rw[if_pos b,if_pos b.symm]
  ·rw[if_neg b,if_neg (Ne.symm b)]
theorem b5J{hs:List Hdr}{i k q:Nat}(hi:i<hs.length)(c:k<hs.length)(hq:q<((hs.set i hs[k]).set k hs[i]).length):((hs.set i hs[k]).set k hs[i])[q]=if q=k then hs[i]else if q=i then hs[k]else hs[q]'(by simpa using hq):=by
 rw[List.getElem_set];by_cases a:k=q
 ·rw[if_pos a,if_pos a.symm]
 ·rw[if_neg a,if_neg (Ne.symm a),List.getElem_set]
  by_cases b:i=q
  ·rw[if_pos b,if_pos b.symm]
  ·rw[if_neg b,if_neg (Ne.symm b)]
theorem MO.swap(h:MO X base e1 e2 w ao cap hs m){i k:Nat}(hi:i<hs.length)(e:k<hs.length)(g:ExtX (ob ao) w w')(j:OL HdR 1 X base e1 w' ao cap ((hs.set i hs[k]).set k hs[i])):MO X base e1 e2 w' ao cap ((hs.set i hs[k]).set k hs[i]) (a1j m i k):=by
 have o:=h.len;refine h.perm (fun q=>if q=k then i else if q=i then k else q) (fun q hq=>?_) (fun a b l n d=>?_) (fun q hq=>?_) (by simp) (by simp[a1j]) (fun q hq f=>?_) (fun q hq f=>?_) g j
 ·split
  ·exact hi
  ·split
   ·exact e
   ·exact hq
 ·split at d<;>split at d<;>(try split at d)<;>(try split at d)<;>omega
 ·by_cases a:q=i
  ·exact⟨k,e,by simp[a]⟩
  ·by_cases b:q=k
   ·refine⟨i,hi,?_⟩
    by_cases c:i=k
    ·omega
    ·simp[c,b]
   ·exact⟨q,hq,by simp[a,b]⟩
 ·rw[b5J hi e hq]
  by_cases a:q=k
  ·simp[a]
  ·by_cases b:q=i
   ·subst b;simp[a]
   ·simp[a,b]
 ·rw[b3B (by omega) (by omega) hq]
  by_cases a:q=k
  ·simp[a]
  ·by_cases b:q=i
   ·subst b;simp[a]
   ·simp[a,b]
end
section
variable {P:Program} {ops:Array Oper} {Q:Exit->Act->World->Prop} {rest:List Oper} {a:Act} {w:World}
variable {d:Option Tmp} {ty:TypeId} {ps:String} {af:Array Edge}
theorem b5K{t e h:Nat}{z:Value}{x lo:Operand}{o:IntKind}{m:Int}{ao:Option Addr}{cap:Nat}(T:SliceT P t e 1 h z)(n i:Nat)(hx:a.eval x= .slice ao n cap)(l:a.eval lo= .int o m)(f:m=(i:Int))(hd:Hd ao n)(hi:i<=n)(p:n<=cap)(K:∀c,(∀k,k<n - i->adr c k=adr ao (i+k))->Hd c (n - i)->wpList P ops Q rest (a.put d (.slice c (n - i) (cap - i))) w):wpList P ops Q (⟨d, .slice t x (some lo) none none,ty,ps,af,none⟩::rest) a w:=by
 refine wpList_plain rfl fun r j=>?_;subst f;have q:=a2V (P:=P) (ao:=ao) T n cap o i hi p w;have:=K (a1J ao i cap 1) (fun k s=>by
  obtain⟨b,g,rfl⟩:=hd (by omega);have f:¬cap=i:=by omega
  simp[a1J,f,Addr.add_lit,adr,Nat.add_assoc]) (fun u=>by
  obtain⟨b,g,rfl⟩:=hd (by omega);have f:¬cap=i:=by omega
  exact⟨b,g+i*1,by simp[a1J,f,Addr.add_lit]⟩)
 unfold Oper.wp;simp[execOp,hx,l,q,Result.andThen];exact j _ _ this
end
end Go.Rep
namespace Go.Lin
theorem b3C(m:Mat)(k:Nat):eN m (k+1)=a6K (eN m k) k:=rfl
theorem a9V{n c B t i col:Nat}{m:Mat}(_:Shp n c m)(h:HB B m)(_:t<n)(_:i<n)(p:5*B<=68719476736):Go.Rep.BR 68719476736 (m.getD i [])/\Go.Rep.BR 68719476736 (m.getD t [])/\Go.Lim.hq ((m.getD i []).getD col 0/(m.getD t []).getD col 0)<=68719476736/\∀x∈m.getD t [],Go.Lim.hq ((m.getD i []).getD col 0/(m.getD t []).getD col 0*x)<=68719476736:=by
 have a:∀k,Go.Rep.BR B (m.getD k []):=fun k q hq=>by
  obtain⟨j,f,rfl⟩:=List.getElem_of_mem hq;have e:(m.getD k []).getD j 0=(m.getD k [])[j]:=by rw[List.getD_eq_getElem?_getD,List.getElem?_eq_getElem f];rfl
  rw[<-e];exact h k j
 have b:=h i col;have d:=h t col;unfold ent at b d;have g:=Go.Lim.hq_div ((m.getD i []).getD col 0) ((m.getD t []).getD col 0);refine⟨fun q hq=>Nat.le_trans (a i q hq) (by omega),fun q hq=>Nat.le_trans (a t q hq) (by omega),by omega,fun x hx=>?_⟩;have l:=a t x hx;have o:=Go.Lim.hq_mul ((m.getD i []).getD col 0/(m.getD t []).getD col 0) x;omega
theorem HB.bm{B:Nat}{m:Mat}(h:HB B m):Go.Rep.BM B m:=fun r b q hq=>by
 obtain⟨i,hi,rfl⟩:=List.getElem_of_mem b;obtain⟨j,a,rfl⟩:=List.getElem_of_mem hq;have:=h i j;simpa[ent,List.getD_eq_getElem?_getD,hi,a]using this
end Go.Lin
namespace Go.Rep
theorem Sl.fromA{α:Type}{R:Mem->Value->α->Prop}{h:Mem}{ao a:Option Addr}{l:List α}(s:Sl R 1 h ao l)(i:Nat)(g:∀k,k<l.length - i->adr a k=adr ao (i+k))(hd:Hd a (l.length - i)):Sl R 1 h a (l.drop i):=by
 refine⟨by rw[List.length_drop];exact hd,fun k c=>?_⟩;rw[List.length_drop]at c;obtain⟨u,d,e,f⟩:=s.2 (i+k) (by omega);refine⟨u,d,fun j m=>?_,by simpa using f⟩;have b:j=0:=by omega
 subst b;have:=e 0 m;simp only[Nat.mul_one,Nat.add_zero]at this |-;rw[g k c];exact this
theorem b8D{ao:Option Addr}{n i:Nat}(hd:Hd ao n)(a:0<n)(k:Nat):adr (Option.map (fun x=>x.add i) ao) k=adr ao (i+k):=by
 obtain⟨b,c,rfl⟩:=hd a;simp[Addr.add_lit,adr,Nat.add_assoc]
theorem a0c.pure(k:IntKind):∀h a u x,a0c k h u x->a0c k a u x:=fun _ _ _ _ h=>h
theorem c0l{ao:Option Addr}{n i m:Nat}(hd:Hd ao n)(c:0<n):Hd (Option.map (fun x=>x.add i) ao) m:=fun _=>by
 obtain⟨b,a,rfl⟩:=hd c;exact⟨b,a+i,by simp[Addr.add_lit]⟩
end Go.Rep
namespace Go.Proofs.YtgbbpgflopajaaaGreat
open Go.RowKit Go.Rep Go.Lim Go.Lin
def c1o(X:Nat->Bool)(base:Nat)(w:World)(ao:Option Addr)(cap:Nat)(hs:List Hdr)(s:St)(e:Ending)(w':World):Prop:=
 ExtX (mb ao hs) w w'/\∃po pc hs',e= .returned (.tuple #[.slice po s.2.1.length pc, .bool s.2.2])/\mb ao hs'=mb ao hs/\MO (un X po) base 25 38 w' ao cap hs' s.1/\OL (a0c .i64) 1 (mz X ao hs) w.heap.size 3 w' po pc s.2.1
theorem a6T(X:Nat->Bool)(base:Nat)(w:World)(ao:Option Addr)(cap n c:Nat)(hs:List Hdr)(m:List (List Rat))(hX:HX X w)(hM:MO X base 25 38 w ao cap hs m)(hsh:Shp n c m)(hc:colsL m=c)(hn:n<=900)(hcc:c<=900)(hT:b8v m c):Calls Tryz.prog 308 #[.slice ao n cap] w (c1o X base w ao cap hs (eN m c)):=by
 have hml:=hid hsh.1;have hmc:MC (mk X w) (.slice ao n cap) m:=by have:=hM.mc;rw[hml.out]at this;exact this
 have hcol:=a2i X w _ m hmc;rw[hc]at hcol;have hlen:=hid (hM.len.trans hml.out);have hcap:n<=cap:=by have:=hM.capLen;rw[hml.out]at this;exact this
 have hhO:Hd ao n:=by have:=hM.outer.hd;rw[hlen.out]at this;exact this
 have hn0:Hid (n=0->c=0):=hid fun h=>by
  have:m= []:=List.eq_nil_of_length_eq_zero (by rw[hml.out];exact h);rw[<-hc,this];rfl
 have hsh':=hid hsh;obtain⟨B,hB7,hBj⟩:=hT;have hB':=hid hBj;have hBB':=hid hB7;have hund:un X none=X:=by funext k;simp[un,ob]
 have hMu:MO (un X none) base 25 38 w ao cap hs m:=by rw[hund];exact hM
 have hXz:=hM.hz hX;clear hsh hBj hB7 hc hmc;go_enter Tryz.func308,Tryz.ntmps308
 go_wp2_with fail
 refine hcol.mono ?_;rintro e w1 ⟨rfl,rfl⟩;clear hcol;go_wp2_with fail
 go_loopw [2,3,11] (fun p o k wr=>∃(j:Nat) (po:Option Addr) (pc pl:Nat) (hs':List Hdr) (M:Mat) (P:List Nat) (od:Bool),k= .int .i64 j/\p= .slice po pl pc/\o= .bool od/\j<=c/\Hid (P.length=pl)/\Hid (eN m j=(M,P,od))/\Hid (j<c->pl<n)/\MO (un X po) base 25 38 wr ao cap hs' M/\OL (a0c .i64) 1 (mz X ao hs) w1.heap.size 3 wr po pc P/\Hid (mb ao hs'=mb ao hs)/\ExtX (mb ao hs) w1 wr) (fun _ _ k _=>c - (intOf k).toNat)
 case atStart=>exact⟨0,none,0,0,hs,m,[],false,rfl,rfl,rfl,Nat.zero_le _,hid rfl,hid rfl,hid (fun h=>by have:=hn0.out;omega),hMu,OL.nil _ _ _ _ _ _,hid rfl,ExtX.refl _⟩
 case round=>
  obtain⟨j,po,pc,pl,hs',M,P,od,rfl,rfl,rfl,hj,hpl,hst,hpn,hM,hP,hmb,hE⟩:=hrel;by_cases hlj:j<c
  ·have hpn2:=hpn.out hlj
   have hok:=a6o hsh'.out j;rw[hst.out]at hok;have hshM:Shp n c M:=hok.shp;have hMl:=hid hshM.1;have hhl:=hid (hM.len.trans hMl.out);have hXr:HX X wr:=hX.ext hE;have hXu:HX (un X po) wr:=fun k hk=>by
    by_cases hx:X k=true
    ·exact hXr k hx
    ·exact(hP.block (by simpa[un,hx]using hk)).2
   have hBM:HB B M:=by have:=hB'.out j (by omega);rw[hst.out]at this;exact this
   have hb5':5*B<=68719476736:=by have:=hBB'.out;omega
   have hBM2:=hid (hBM.bm);have hEb:Ext wr (wr.alloc (.cells #[.int .i64 (j:Int)] 3)):=(ExtX.refl wr).alloc _;have hbx:(wr.alloc (.cells #[.int .i64 (j:Int)] 3)).cell? ⟨wr.heap.size,0,none⟩=some (.int .i64 (j:Int)):=b4J 0 rfl;have hM1:=hM.ext0 hEb;have hP1:=hP.ext0 (a0c.elem _) hEb;have hX1:=hXu.ext hEb;have hSl:Sl RC 1 (mk (un X po) (wr.alloc (.cells #[.int .i64 (j:Int)] 3))) ao M:=by
    obtain⟨_,_,heq,_,h3⟩:=hM1.mc;simp only[Value.slice.injEq]at heq;obtain⟨rfl,_,rfl⟩:=heq;exact h3
   obtain⟨bw,hbw⟩:∃bw,wr.heap.size=bw:=⟨_,rfl⟩;obtain⟨w2,hw2⟩:∃w2,wr.alloc (.cells #[.int .i64 (j:Int)] 3)=w2:=⟨_,rfl⟩;rw[hw2]at hEb hbx hM1 hP1 hX1 hSl;rw[hbw]at hbx;have hpbw:Hid (ob po bw=false):=hid (by rw[<-hbw];exact hP.ob_ge (Nat.le_refl _));have hobw:Hid (ob ao bw=false):=hid (by rw[<-hbw];exact hM.outer.ob_ge (Nat.le_refl _));have hw2':=hid hw2;have hbw':=hid hbw;have hn1:0<n:=by omega
   have hmd:Hid (n - pl=(M.drop pl).length):=hid (by rw[List.length_drop,hMl.out]);have hSd:Sl RC 1 (mk (un X po) w2) (Option.map (fun x=>x.add pl) ao) (M.drop pl):=hSl.fromA pl (fun k _=>b8D hhO hn1 k) (c0l hhO hn1);have hrows:Hid (∀r∈M.drop pl,r.length=c):=hid fun r hr=>hshM.2 r (List.mem_of_mem_drop hr);have hbmd:Hid (BM 68719476736 (M.drop pl)):=hid fun r hr q hq=>Nat.le_trans (hBM2.out r (List.mem_of_mem_drop hr) q hq) (by omega);have hix:=a8j (un X po) w2 _ (M.drop pl) (n - pl) (cap - pl) c j bw hX1 hSd hmd.out.symm (by omega) hrows.out hlj hbmd.out hbx;obtain⟨F,hF⟩:∃F,(M.drop pl).findIdx? (fun r=>decide (r.getD j 0≠0))=F:=⟨_,rfl⟩;rw[hF]at hix;have hnz:Hid (b2W M P.length j=F):=hid (by rw[hpl.out];exact hF);clear hF hSd hSl;go_wp2_with fail
   refine hix.mono ?_;rintro e w3 ⟨hE3,rfl⟩;have hM3:=hM1.ext0 hE3;have hP3:=hP1.ext0 (a0c.elem _) hE3;have hb3:=hE3.cell hbx;have hE03:=hE.trans (ExtX.of (hEb.trans hE3));clear hM1 hP1 hix hbx hw2
   match F,hnz with
   |none,hnz=>
    have hst2:Hid (eN m (j+1)=(M,P,od)):=hid (by
     rw[b3C,hst.out];unfold a6K;dsimp only;split
     ·rfl
     ·rw[hnz.out])
    simp only[c1n];go_wp2_with fail
    go_roundw
    case rel=>exact⟨j+1,po,pc,pl,hs',M,P,od,by go_num,rfl,rfl,by omega,hpl,hst2,hid (fun _=>hpn2),hM3,hP3,hmb,hE03⟩
    case measure=>simp[intOf];omega
   |some q,hnz=>
    obtain⟨hq1,hq2⟩:=a4h hnz.out;rw[hpl.out,hMl.out]at hq1;have hq0:¬(q:Int)<0:=by omega
    simp only[c1n];clear hq2;have hr1:pl+q<hs'.length:=by rw[hhl.out];exact hq1
    have hr2:pl<hs'.length:=by rw[hhl.out];exact hpn2
    obtain⟨a1,n1,c1,hh1⟩:∃a n c,hs'[pl]=(a,n,c):=⟨_,_,_,rfl⟩;obtain⟨a2,n2,c2,hh2⟩:∃a n c,hs'[pl+q]=(a,n,c):=⟨_,_,_,rfl⟩;have hO0:=hM3.outer;obtain⟨z1,zf1⟩:=hM3.hdr pl hr2;obtain⟨z2,zf2⟩:=hM3.hdr (pl+q) hr1;rw[hh1]at z1;rw[hh2]at z2
    dsimp only at z1 z2
    have k1:w3.cell? (adr ao pl)=some (.slice a1 n1 c1):=z1;have k2:w3.cell? (adr ao (pl+q))=some (.slice a2 n2 c2):=z2;have f1:w3.frozen? (adr ao pl)=false:=zf1;have f2:w3.frozen? (adr ao (pl+q))=false:=zf2;obtain⟨hO1,hE4⟩:=hO0.set1 a5i HdR.elem HdR.one pl hr2 (.slice a2 n2 c2) (a2,n2,c2) rfl;obtain⟨u3,k3,f3,hu3⟩:=hO1.cell HdR.one (pl+q) (by simpa using hr1);have hu3':u3= .slice a2 n2 c2:=by
     have e:(hs'.set pl (a2,n2,c2))[pl+q]'(by simpa using hr1)=(a2,n2,c2):=by
      rw[List.getElem_set];split
      ·rfl
      ·exact hh2
     rw[e]at hu3;exact hu3
    rw[hu3']at k3;obtain⟨hO2,hE5⟩:=hO1.set1 a5i HdR.elem HdR.one (pl+q) (by simpa using hr1) (.slice a1 n1 c1) (a1,n1,c1) rfl;have hE6:=(hE4.trans hE5).drew;have hO2:=hO2.ext0 HdR.elem (ExtX.refl (Y:=noY) _).drew;rw[<-hh1,<-hh2]at hO2;have i1:∀W,(Instr.indexAt 53 (.slice ao n cap) (.int .i64 (pl:Int))).run Tryz.prog W= .ok (.pointer (some (adr ao pl))) W:=a0x a0p ao n cap .i64 pl hhO (by omega) rfl;have i2:∀W,(Instr.indexAt 53 (.slice ao n cap) (.int .i64 ((pl:Int)+(q:Int)))).run Tryz.prog W= .ok (.pointer (some (adr ao (pl+q)))) W:=a0x a0p ao n cap .i64 (pl+q) hhO (by omega) (by omega);have ew:IntKind.i64.wrap ((pl:Int)+(q:Int))=(pl:Int)+(q:Int):=IntWalk.i64_in _ (by omega);have hM5:=hM3.swap hr2 hr1 hE6 hO2;have hX5:=hX1.ext hE3;have hP5:OL (a0c .i64) 1 (mz X ao hs) w1.heap.size 3 _ po pc P:=hP3.frame (a0c.pure _) hE6 (fun k hk=>by
     cases hb:ob ao k
     ·rfl
     ·have:=(hM3.out_sep hb).1;rw[a0r hk]at this;simp at this) hP3.1
    have hb5:=hE6.cellY hb3 hobw.out;clear hu3 hu3' hO0 hO1 hO2 z1 z2 zf1 zf2 hh1 hh2 hE4 hE5;go_wp2_with fail
    go_region
    obtain⟨w5,hw5⟩:∃w5,((w3.setCell (adr ao pl) (.slice a2 n2 c2)).setCell (adr ao (pl+q)) (.slice a1 n1 c1)).drew=w5:=⟨_,rfl⟩;rw[hw5]at hM5 hP5 hb5 hE6 |-;have hE05:=hE03.trans (ExtX.weaken hE6 fun k _ hk=>(b8B hk).1);have hX5:=hX5.ext hE6;have hXz5:=hXz.ext hE05;have hbase5:=hE05.size;clear k1 k2 k3 f1 f2 f3 i1 i2 hw5 hb3;have hpl5:pl+1<=n:=hpn2;go_wp2_with (first|((with_reducible show wpList _ _ _ (⟨_, .slice _ _ _ _ _,_,_,_,_⟩::_) _ _);refine b5K a0p n (pl+1) rfl rfl (by omega) hhO hpl5 hcap ?_;intro ao3 ha3 hd3;replace ha3:=hid ha3)|(at_builtin;refine a0t (l:=P) a2J rfl (a0c.elem .i64) hbase5 hXz5 pl hpl.out rfl rfl hP5 (.int .i64 (j:Int)) j rfl rfl (by omega) (by omega) ?_;intro po2 pc2 w6 hP6 hE7 hor;have b6:=hE7.cellY hb5 hpbw.out))
    have hM6:MO (un X po2) base 25 38 w6 ao cap _ _:=hM5.ext (X':=un X po2) hE7 (fun k _ hk=>a0r hk) (fun k hk hz=>by
     by_cases hx:X k=true
     ·exact a0i hx
     ·have h2:ob po2 k=true:=by simpa[un,hx]using hz
      rcases hor with rfl|⟨g,rfl,hg⟩
      ·exact a0r h2
      ·have:g=k:=by simpa[ob]using h2
       omega)
    have hE06:ExtX (mb ao hs) w1 w6:=hE05.then_ hE7 fun k hk _=>hP5.ob_lt hk;have hmb2:Hid (mb ao ((hs'.set pl hs'[pl+q]).set (pl+q) hs'[pl])=mb ao hs):=hid (by rw[<-hmb.out];exact(b3x (X:=X) fun k=>by rw[b5I hr2 hr1]).1);have hh2l:Hid (((hs'.set pl hs'[pl+q]).set (pl+q) hs'[pl]).length=n):=hid (by simp[hhl.out]);have hsh2:Shp n c (a1j M pl (pl+q)):=hshM.swap hpn2 hq1;have hBM2':HB B (a1j M pl (pl+q)):=hBM.swap hshM hpn2 hq1;have hst2:Hid (eN m (j+1)=(clear (a1j M pl (pl+q)) pl j n,P++[j],od !=decide (q≠0))):=hid (by
     rw[b3C,hst.out];unfold a6K;dsimp only;rw[if_neg (by rw[hpl.out,hMl.out];omega),hnz.out]
     dsimp only
     rw[hpl.out,hMl.out])
    have hbnd:Hid (∀i,i<n->BR 68719476736 ((a1j M pl (pl+q)).getD i [])/\BR 68719476736 ((a1j M pl (pl+q)).getD pl [])/\hq (((a1j M pl (pl+q)).getD i []).getD j 0/((a1j M pl (pl+q)).getD pl []).getD j 0)<=68719476736/\∀x∈(a1j M pl (pl+q)).getD pl [],hq (((a1j M pl (pl+q)).getD i []).getD j 0/((a1j M pl (pl+q)).getD pl []).getD j 0*x)<=68719476736):=hid fun i hi=>a9V hsh2 hBM2' hpn2 hi hb5';have hmbw:Hid (mb ao hs bw=false):=hid (by
     rw[<-hmb.out];cases hb:mb ao hs' bw
     ·rfl
     ·have:=(hM.mb_block hb).2;omega)
    obtain⟨hs2,hhs2⟩:∃hs2,(hs'.set pl hs'[pl+q]).set (pl+q) hs'[pl]=hs2:=⟨_,rfl⟩;obtain⟨M2,hM2⟩:∃M2,a1j M pl (pl+q)=M2:=⟨_,rfl⟩;rw[hhs2]at hM6 hmb2 hh2l;rw[hM2]at hM6 hsh2 hBM2' hst2 hbnd;clear hhs2 hM2;have hM2l:=hid hsh2.1;have hX6:HX X w6:=hX.ext hE06;have hM6':MO (un X po2) base 25 38 w6 ao cap hs2 (clear M2 pl j 0):=by rw[b1S];exact hM6
    go_loopw [54] (fun k wx=>∃(s:Nat),k= .int .i64 s/\s<=n - (pl+1)/\MO (un X po2) base 25 38 wx ao cap hs2 (clear M2 pl j s)/\OL (a0c .i64) 1 (mz X ao hs) w1.heap.size 3 wx po2 pc2 (P++[j])/\ExtX (mb ao hs) w1 wx/\wx.cell? ⟨bw,0,none⟩=some (.int .i64 (j:Int))) (fun k _=>n - (pl+1) - (intOf k).toNat)
    case atStart=>exact⟨0,rfl,Nat.zero_le _,hM6',hP6,hE06,b6⟩
    case round=>
     obtain⟨s,rfl,hs9,hM8,hP8,hE8,b8⟩:=hrel;by_cases hls:s<n - (pl+1)
     ·obtain⟨t,ht⟩:∃t,pl+1+s=t:=⟨_,rfl⟩
      have htn:t<n:=by omega
      have hth:t<hs2.length:=by rw[hh2l.out];exact htn
      have hph:pl<hs2.length:=by rw[hh2l.out];exact hpn2
      have htm:t<M2.length:=by rw[hM2l.out];exact htn
      have hpm:pl<M2.length:=by rw[hM2l.out];exact hpn2
      have htc:t<(clear M2 pl j s).length:=by rw[a2F];exact htm
      have hpc:pl<(clear M2 pl j s).length:=by rw[a2F];exact hpm
      obtain⟨a1,n1,c1,hh1⟩:∃a n c,hs2[t]=(a,n,c):=⟨_,_,_,rfl⟩;obtain⟨a2,n2,c2,hh2⟩:∃a n c,hs2[pl]=(a,n,c):=⟨_,_,_,rfl⟩;have hg1:(clear M2 pl j s)[t]=M2[t]:=by rw[a2X htc htm,if_neg (by omega)]
      have hg2:(clear M2 pl j s)[pl]=M2[pl]:=by rw[a2X hpc hpm,if_neg (by omega)]
      have hn1':n1=c:=by
       have:=hM8.rlen t hth htc;rw[hh1,hg1,hsh2.2 _ (List.getElem_mem _)]at this;exact this
      have hn2':n2=c:=by
       have:=hM8.rlen pl hph hpc;rw[hh2,hg2,hsh2.2 _ (List.getElem_mem _)]at this;exact this
      subst hn1';subst hn2';have hR1:=hM8.row t hth htc;have hR2:=hM8.row pl hph hpc;rw[hg1]at hR1;rw[hg2]at hR2;simp only[hh1]at hR1;simp only[hh2]at hR2;have hz1:=fun k (hk:ob a1 k=true)=>hM8.mz_sub hth k (by rw[hh1];exact hk);have hz2:=fun k (hk:ob a2 k=true)=>hM8.mz_sub hph k (by rw[hh2];exact hk);have hds:∀k,ob a1 k=true->ob a2 k=false:=fun k hk=>by
       have:=hM8.dis t pl hth hph (by omega) k (by rw[hh1];exact hk);rw[hh2]at this;exact this
      have hsp:=fun k (hk:ob a1 k=true)=>hM8.sep t hth k (by rw[hh1];exact hk);have hBn:=hbnd.out t htn;rw[a2O htm]at hBn;have hcs:Hid ((clear M2 pl j s).set t (a3r M2[t] (M2.getD pl []) j)=clear M2 pl j (s+1)):=hid (by subst ht;exact b3z htm);have hpe:M2.getD pl []=M2[pl]:=a2O hpm;rw[<-hpe]at hR2;have hrl1:=hid (hsh2.2 M2[t] (List.getElem_mem _));have hrl2:=hid (show(M2.getD pl []).length=n2 by rw[hpe];exact hsh2.2 _ (List.getElem_mem _));obtain⟨row,hrow⟩:∃row,M2[t]=row:=⟨_,rfl⟩;obtain⟨piv,hpiv⟩:∃piv,M2.getD pl []=piv:=⟨_,rfl⟩;rw[hrow,hpiv]at hcs;rw[hrow]at hR1 hrl1;rw[hpiv]at hR2 hrl2;rw[hrow,hpiv]at hBn;have hX8:HX (un X po2) wr:=fun k hk=>by
       by_cases hx:X k=true
       ·exact hX.ext hE8 k hx
       ·exact(hP8.block (by simpa[un,hx]using hk)).2
      have hZ8:=hM8.hz hX8;have hEd:Ext wr wr.drew:=(ExtX.refl wr).drew;have hel:=a5x (mz (un X po2) ao hs2) base wr.drew a1 a2 c1 c2 n2 j row piv hZ8 (hR1.ext0 QC.elem hEd) (hR2.ext0 QC.elem hEd) hz1 hz2 hds hrl1.out hrl2.out (by omega) hlj hBn.1 hBn.2.1 hBn.2.2.1 hBn.2.2.2;have y1:wr.cell? (adr ao3 s)=some (.slice a1 n2 c1):=by
       have:=(hM8.hdr t hth).1;rw[hh1,<-ht]at this;rw[ha3.out s hls];exact this
      have y2:wr.drew.cell? (adr ao pl)=some (.slice a2 n2 c2):=by
       have:=(hM8.hdr pl hph).1;rw[hh2]at this;exact this
      have y3:wr.drew.cell? ⟨bw,0,none⟩=some (.int .i64 (j:Int)):=b8;have haob:Hid (ob a1 (adr ao pl).block=false):=hid (by
       cases hb:ob a1 (adr ao pl).block
       ·rfl
       ·have h1:=(hsp _ hb).2
        obtain⟨b0,o0,rfl⟩:=hhO (by omega);simp[ob,adr]at h1)
      have habw:Hid (ob a1 bw=false):=hid (by
       cases hb:ob a1 bw
       ·rfl
       ·have h5:mb ao hs2 bw=true:=a2D.2 (.inr (a1N hth (show ob hs2[t].1 bw=true by rw[hh1];exact hb)))
        rw[hmb2.out,hmbw.out]at h5;simp at h5)
      have i1:∀W,(Instr.indexAt 53 (.slice ao n cap) (.int .i64 (pl:Int))).run Tryz.prog W= .ok (.pointer (some (adr ao pl))) W:=a0x a0p ao n cap .i64 pl hhO (by omega) rfl;have hh1':=hid hh1
      replace ht:=hid ht
      clear hg1 hg2 hpe hrow hpiv hh1 hh2 hR1 hR2 hBn;go_wp2_with (with_reducible refine a0s a0p (by omega) (by assumption) ?_)
      go_region_held3 (fun w'=>w'.cell? (adr ao pl)=some (.slice a2 n2 c2)/\w'.cell? ⟨bw,0,none⟩=some (.int .i64 (j:Int)))
       (first|exact⟨t1.cellY y2 haob.out,t1.cellY y3 habw.out⟩|go_keep)
       ((go_at_call 317;(with_reducible refine hel.mono ?_);rintro ee w7 ⟨rfl,t1,hO7⟩))
      have b9:=t1.cellY y3 habw.out;have hEr:ExtX (ob hs2[t].1) wr.drew w7:=by rw[hh1'.out];exact t1
      have hM9:=(hM8.ext0 hEd).upd hth (l:=a3r row piv j) hEr (fun hi'=>by
       rw[a2X htc htm,if_neg (by have:=ht.out;omega),a4g _ _ _ (by rw[hrl1.out,hrl2.out]),hrl2.out];exact(hsh2.2 _ (List.getElem_mem _)).symm) (by rw[hh1'.out];exact hO7)
      rw[hcs.out]at hM9;have hP9:=(hP8.ext0 (a0c.elem _) hEd).frame (a0c.pure _) t1 (fun k hk=>by
       cases hb:ob a1 k
       ·rfl
       ·have:=(hsp k hb).1;rw[a0r hk]at this;simp at this) hP8.1
      have hE9:=(hE8.trans (ExtX.of hEd)).trans (by rw[<-hmb2.out];exact ExtX.row hth hEr);clear y1 y2 y3 i1;go_wp2_with fail
      go_roundw
      case rel=>exact⟨s+1,by go_num,by omega,hM9,hP9,hE9,b9⟩
      case measure=>simp[intOf];omega
     ·have hfin:Hid (clear M2 pl j s=clear M2 pl j n):=hid (b1T (by rw[hM2l.out];omega) (by rw[hM2l.out];omega))
      rw[hfin.out]at hM8;have hodd:Hid ((!(od==((q:Int) !=0)))=(od !=decide (q≠0))):=hid (by cases od<;>by_cases h:q=0<;>simp[h]);have hpl2:Hid ((P++[j]).length=pl+1):=hid (by simp[hpl.out]);by_cases hfull:pl+1=n
      ·have hne:(((pl+1:Nat):Int)==(n:Int))=true:=a7k (by omega)
       have hne2:(((pl:Int)+1)==(n:Int))=true:=a7k (by omega);have hstop:Hid (eN m c=(clear M2 pl j n,P++[j],od !=decide (q≠0))):=hid (by
        rw[b8h m (j+1) (by rw[hst2.out];dsimp only;rw[hpl2.out,a2F,hM2l.out];exact hfull) c (by omega)];exact hst2.out)
       clear hfull;go_wp2_with fail
       go_ret2
       rw[hstop.out];exact⟨hE8,po2,pc2,hs2,by rw[hpl2.out,<-hodd.out];rfl,hmb2.out,hM8,hP8⟩
      ·have hne:(((pl+1:Nat):Int)==(n:Int))=false:=a2H (by omega)
       have hne2:(((pl:Int)+1)==(n:Int))=false:=a2H (by omega);have hpn3:Hid (j+1<c->pl+1<n):=hid fun _=>by omega
       clear hfull;go_wp2_with fail
       go_roundw
       case rel=>exact⟨j+1,po2,pc2,pl+1,hs2,_,_,_,by go_num,rfl,by rw[hodd.out],by omega,hpl2,hst2,hpn3,hM8,hP8,hmb2,hE8⟩
       case measure=>simp[intOf];omega
  ·have hjc:j=c:=by omega
   subst hjc;go_wp2_with fail
   go_ret2
   rw[hst.out];exact⟨hE,po,pc,hs',by rw[hpl.out];rfl,hmb.out,hM,hP⟩
end Go.Proofs.YtgbbpgflopajaaaGreat
namespace Go.Lin
theorem a9c{n c B t i col:Nat}{m:Mat}(hs:Shp n c m)(h:HB B m)(f:t<n)(_:i<n)(b:i≠t)(u:7*B<=68719476736):Go.Rep.BR 68719476736 ((divL m t col).getD i [])/\Go.Rep.BR 68719476736 ((divL m t col).getD t [])/\Go.Lim.hq (((divL m t col).getD i []).getD col 0/((divL m t col).getD t []).getD col 0)<=68719476736/\∀x∈(divL m t col).getD t [],Go.Lim.hq (((divL m t col).getD i []).getD col 0/((divL m t col).getD t []).getD col 0*x)<=68719476736:=by
 have d:=h.divL hs f col;have a:∀k,Go.Rep.BR (2*B) ((divL m t col).getD k []):=fun k q hq=>by
  obtain⟨j,g,rfl⟩:=List.getElem_of_mem hq;have e:((divL m t col).getD k []).getD j 0=((divL m t col).getD k [])[j]:=by rw[List.getD_eq_getElem?_getD,List.getElem?_eq_getElem g];rfl
  rw[<-e];exact d k j
 have l:Go.Lim.hq (((divL m t col).getD i []).getD col 0)<=B:=by
  have:=a3I hs f col i col;rw[if_neg b]at this;unfold ent at this;rw[this];exact h i col
 have o:Go.Lim.hq (((divL m t col).getD t []).getD col 0)<=2*B:=d t col;have p:=Go.Lim.hq_div (((divL m t col).getD i []).getD col 0) (((divL m t col).getD t []).getD col 0);refine⟨fun q hq=>Nat.le_trans (a i q hq) (by omega),fun q hq=>Nat.le_trans (a t q hq) (by omega),by omega,fun x hx=>?_⟩;have r:=a t x hx;have s:=Go.Lim.hq_mul (((divL m t col).getD i []).getD col 0/((divL m t col).getD t []).getD col 0) x;omega
end Go.Lin
namespace Go.Rep
theorem a4m{P:Program}{t e sz a:Nat}{z:Value}{ao:Option Addr}(T:SliceT P t e sz a z)(len cap:Nat)(f:IntKind)(i:Nat)(g:i<=cap)(w:World):(Instr.sliceAt t (.slice ao len cap) none (some (.int f (i:Int))) none).run P w= .ok (.slice ao i cap) w:=by
 obtain⟨h,hi,hz,d,c⟩:=info_parts T.info;have b:(i:Int)<=cap:=by omega
 cases ao<;>simp[Instr.sliceAt,Instr.slice,run_underlying T.und,Instr.sliceBounds,run_sliceBound,b,sizeOf,typeInfo,hi,Addr.add_zero']
end Go.Rep
namespace Go.Proofs.YtgbbpgflopajaaaGreat
open Go.RowKit Go.Rep Go.Lim Go.Lin
def c1p(X:Nat->Bool)(base:Nat)(w:World)(ao:Option Addr)(cap:Nat)(hs:List Hdr)(s:Mat×List Nat)(e:Ending)(w':World):Prop:=
 ExtX (mb ao hs) w w'/\∃po pc hs',e= .returned (.slice po s.2.length pc)/\mb ao hs'=mb ao hs/\MO (un X po) base 25 38 w' ao cap hs' s.1/\OL (a0c .i64) 1 (mz X ao hs) w.heap.size 3 w' po pc s.2
theorem a4Q(X:Nat->Bool)(base:Nat)(w:World)(ao:Option Addr)(cap n c:Nat)(hs:List Hdr)(m:List (List Rat))(hX:HX X w)(C:MO X base 25 38 w ao cap hs m)(c2:Shp n c m)(hc:colsL m=c)(hn:n<=900)(p7:c<=900)(hT:b2p m c):Calls Tryz.prog 302 #[.slice ao n cap] w (c1p X base w ao cap hs (a0J m c)):=by
 have b6:=a6T X base w ao cap n c hs m hX C c2 hc hn p7 hT.e;obtain⟨B,a8,_,c4⟩:=hT;have d4:=a6o c2 c;have t5:n<=cap:=by have:=C.capLen;rw[c2.1]at this;exact this
 have g5:Hd ao n:=by have:=C.outer.hd;rw[C.len,c2.1]at this;exact this
 have b9:a0J m c=(dN (eN m c).1 (eN m c).2.1 (eN m c).2.1.length,(eN m c).2.1):=rfl;obtain⟨⟨E,p,od⟩,hS⟩:∃S,eN m c=S:=⟨_,rfl⟩;rw[hS]at b6 d4 c4 b9;rw[b9]
 dsimp only at c4 |-
 obtain⟨pl,d8⟩:∃pl,p.length=pl:=⟨_,rfl⟩;have j0:Shp n c E:=d4.shp;have d0:Ech n c (ent E) p:=d4.ech;have t9:pl<=n:=by have:=d0.le;omega
 have i6:=hid (b8j j0 d0);have m9:Hid (∀t,t<=p.length->HB B (dN E p t)):=hid c4;have n0:=hid a8;have l6:Hid (∀i (hi:i<p.length),p[i]<c):=hid d0.lt;have K:=hid d8;have l3:Hid (HX X w):=hid hX;clear c2 c4 a8 b9 hS d4 d0 hc;go_enter Tryz.func302,Tryz.ntmps302
 go_wp2_with fail
 refine b6.mono ?_;rintro e w1 ⟨n3,po,pc,d,rfl,l0,f6,f7⟩
 dsimp only at f6 f7 |-
 rw[d8];have J:=hid l0;have f3:=hid (f6.len.trans j0.1);have t8:Hd po pl:=by have:=f7.hd;rw[d8]at this;exact this
 clear b6 l0 d8 C;go_wp2_with fail
 go_loopw [19] (fun k wr=>∃(i:Nat),k= .int .i64 i/\i<=pl/\MO (un X po) base 25 38 wr ao cap d (dN E p i)/\OL (a0c .i64) 1 (mz X ao hs) w.heap.size 3 wr po pc p/\ExtX (mb ao hs) w wr) (fun k _=>pl - (intOf k).toNat)
 case atStart=>exact⟨0,rfl,Nat.zero_le _,f6,f7,n3⟩
 case round=>
  obtain⟨i,rfl,hi,C,hP,hE⟩:=hrel;by_cases q9:i<pl
  ·have g7:i<p.length:=by rw[K.out];exact q9
   have b8:i<n:=by omega
   have f9:=l6.out i g7;have o5:=(hP.sl (a0c.elem _)).nat i g7;have hD:=i6.out i (by rw[K.out];omega);have V:=m9.out i (by rw[K.out];omega);have i4:=n0.out;have q4:Hid (p.getD i 0=p[i]):=hid (by simp[List.getD_eq_getElem?_getD,g7]);have g3:Hid (dN E p (i+1)=dStep (dN E p i) i p[i]):=hid (by rw[<-q4.out];rfl);obtain⟨D,i5⟩:∃D,dN E p i=D:=⟨_,rfl⟩;obtain⟨col,b5⟩:∃col,p[i]=col:=⟨_,rfl⟩;rw[i5]at C hD V g3;rw[b5]at o5 f9 g3;have c8:Shp n c D:=hD.shp;have n2:=hid c8.1;have z:i<d.length:=by rw[f3.out];exact b8
   have b7:i<D.length:=by rw[n2.out];exact b8
   obtain⟨a,O,cr,T⟩:∃a O cr,d[i]=(a,O,cr):=⟨_,_,_,rfl⟩;obtain⟨row,F⟩:∃row,D[i]=row:=⟨_,rfl⟩;have U:Hid (row.length=c):=hid (by rw[<-F];exact c8.2 _ (List.getElem_mem _));have r5:O=c:=by
    have:=C.rlen i z b7;rw[T,F,U.out]at this;exact this
   subst r5;have hR:=C.row i z b7;rw[F]at hR;simp only[T]at hR;have m3:=fun k (G:ob a k=true)=>C.mz_sub z k (by rw[T];exact G);have h8:=fun k (G:ob a k=true)=>C.sep i z k (by rw[T];exact G);have p8:Hd a O:=by have:=hR.hd;rw[U.out]at this;exact this
   have i0:Hid (un (cut (mz (un X po) ao d) a) a=mz (un X po) ao d):=hid (a4I m3);have j5:Hid (ob a (adr ao i).block=false):=hid (by
    cases hb:ob a (adr ao i).block
    ·rfl
    ·have h1:=(h8 _ hb).2
     obtain⟨b0,o0,rfl⟩:=g5 (by omega);simp[ob,adr]at h1)
   have y1:wr.cell? (adr ao i)=some (.slice a O cr):=by
    have:=(C.hdr i z).1;rw[T]at this;exact this
   have k0:col<row.length:=by rw[U.out];exact f9
   have j9:Hid (row[col]=ent D i col):=hid (by
    unfold ent;rw[a2O b7];simp[F,List.getD_eq_getElem?_getD,k0])
   obtain⟨P,Z⟩:∃b,ent D i col=b:=⟨_,rfl⟩;have p6:Hid (hq P<=68719476736):=hid (by rw[<-Z];exact Nat.le_trans (V i col) (by omega));have f5:Hid (BR 68719476736 row):=hid fun q hq=>by
    obtain⟨x,hx,rfl⟩:=List.getElem_of_mem hq;have:=V.bm D[i] (List.getElem_mem _) row[x] (by rw[F];exact List.getElem_mem _);omega
   have e8:Hid (D.set i (row.map (· /P))=divL D i col):=hid (by
    unfold divL;rw[a2O b7,F,Z])
   rw[Z]at j9;have bx:=Bx.new wr #[.bool false, .slice none 0 0, .slice none 0 0] 38;have y:=hid T;have h6:=hid F;clear T F i5 b5 Z;go_wp2_with (first|(with_reducible refine a0s a2J (by omega) (by assumption) ?_)|(with_reducible refine a0s a0p (by omega) (by assumption) ?_)|(with_reducible refine a1I a0w (by omega) (by assumption) ?_)|((with_reducible show wpList _ _ _ (⟨_, .load 38 _,_,_,_,_⟩::_) _ _);refine a5u a0o col hR k0 rfl (by simp) QC.agg ?_;intro u5 e0;rw[j9.out,i0.out]at e0;obtain⟨s5,a5,n5,c5,d5,k5,e5,rfl⟩:=e0.shape)|((with_reducible show wpList _ _ _ (⟨_, .store _ _ _,_,_,_,_⟩::_) _ _);refine a0a a0o rfl rfl bx rfl rfl (a1z _ _ _ _ _ _ _) ?_;intro w5 r1 r2;have y2:=(ExtX.box ((ExtX.refl wr).alloc _) r2 (Nat.le_refl _):Ext wr w5).cell y1))
   have c9:Ext wr w5:=ExtX.box ((ExtX.refl wr).alloc _) r2 (Nat.le_refl _);have j1:=C.ext0 c9;have o2:=hP.ext0 (a0c.elem _) c9;have r6:QV (mk (mz (un X po) ao d) w5) (.agg #[.bool s5, .slice a5 n5 c5, .slice d5 k5 e5]) P:=(mkx QC.mono e0 c9).qv p6.out;have i7:=hE.trans (ExtX.of (Y:=mb ao hs) c9);obtain⟨N,p5⟩:∃N,wr.heap.size=N:=⟨_,rfl⟩;rw[p5]at r1 |-;have l1:Hid (mb ao hs N=false):=hid (by
    rw[<-J.out];cases hb:mb ao d N
    ·rfl
    ·have:=(C.mb_block hb).2;omega)
   obtain⟨R,d2⟩:∃R,row.map (· /P)=R:=⟨_,rfl⟩;have d3:Hid (R.length=O):=hid (by rw[<-d2,List.length_map];exact U.out);have b4:Hid (R.length=row.length):=hid (by rw[d3.out,U.out]);have o7:Hid (∀j (h1:j<row.length) (h2:j<R.length),R[j]=row[j]/P):=hid fun j h1 h2=>by subst d2;simp
   rw[d2]at e8;have j2:MO (un X po) base 25 38 w5 ao cap d (D.set i (mix R row 0)):=by
    rw[a3K,<-h6.out,List.set_getElem_self];exact j1
   clear hR d2 bx y1 y2 j1 e0 C hP;go_loopw [36] (fun k wx=>∃(j:Nat),k= .int .i64 j/\j<=O/\MO (un X po) base 25 38 wx ao cap d (D.set i (mix R row j))/\OL (a0c .i64) 1 (mz X ao hs) w.heap.size 3 wx po pc p/\Bx wx N #[.bool s5, .slice a5 n5 c5, .slice d5 k5 e5] 38/\QV (mk (mz (un X po) ao d) wx) (.agg #[.bool s5, .slice a5 n5 c5, .slice d5 k5 e5]) P/\ExtX (mb ao hs) w wx) (fun k _=>O - (intOf k).toNat)
   case atStart=>exact⟨0,rfl,Nat.zero_le _,j2,o2,r1,r6,i7⟩
   case round=>
    obtain⟨j,rfl,hj,C,hP,a8,l7,hE⟩:=hrel;by_cases g9:j<O
    ·have q8:j<row.length:=by rw[U.out];exact g9
     have k4:j<R.length:=by rw[d3.out];exact g9
     have r0:Hid ((mix R row j).length=O):=hid (by rw[a2j b4.out,d3.out]);have g8:j<(mix R row j).length:=by rw[r0.out];exact g9
     have l2:Hid ((mix R row j)[j]=row[j]):=hid (by rw[a1O b4.out,if_neg (by omega)]);have k8:Hid ((mix R row j).set j R[j]=mix R row (j+1)):=hid (a4P b4.out k4);have b3:=hid (o7.out j q8 k4);have j8:=hid (f5.out row[j] (List.getElem_mem _));have h7:Hid (i<(D.set i (mix R row j)).length):=hid (by rw[List.length_set];exact b7);have hR:=C.row i z h7.out;rw[List.getElem_set_self]at hR;simp only[y.out]at hR;obtain⟨x,hx⟩:∃x,row[j]=x:=⟨_,rfl⟩;obtain⟨v,hv⟩:∃v,R[j]=v:=⟨_,rfl⟩;rw[hx]at l2 j8 b3;rw[hv]at k8 b3;have p0:HX X wr:=l3.out.ext hE;have p1:HX (un X po) wr:=fun k G=>by
      by_cases hx:X k=true
      ·exact p0 k hx
      ·exact(hP.block (by simpa[un,hx]using G)).2
     have p2:=C.hz p1;obtain⟨g,o,hg⟩:∃g o,adr a (j*3)=⟨g,o,none⟩:=⟨_,_,rfl⟩;have i1:∀W,(Instr.indexAt 53 (.slice ao n cap) (.int .i64 (i:Int))).run Tryz.prog W= .ok (.pointer (some (adr ao i))) W:=a0x a0p ao n cap .i64 i g5 (by omega) rfl;have bx:=Bx.new wr #[.bool false, .slice none 0 0, .slice none 0 0] 38;have y1:wr.cell? (adr ao i)=some (.slice a O cr):=by
      have:=(C.hdr i z).1;rw[y.out]at this;exact this
     have l9:=hid h8
     replace hg:=hid hg
     clear hx hv h8;go_wp2_with (first|(with_reducible refine a1I a0w (by omega) (by assumption) ?_)|((with_reducible show wpList _ _ _ (⟨_, .load 38 _,_,_,_,_⟩::_) _ _);refine a5u a0o j hR g8 rfl (by simp) QC.agg ?_;intro u6 h9;rw[l2.out,i0.out]at h9;obtain⟨s6,a6,n6,c6,d6,k6,e6,rfl⟩:=h9.shape)|((with_reducible show wpList _ _ _ (⟨_, .store _ _ _,_,_,_,_⟩::_) _ _);refine a0a a0o rfl rfl bx rfl rfl (a1z _ _ _ _ _ _ _) ?_;intro w6 r3 r4))
     have i2:∀W,(Instr.indexAt 25 (.slice a O cr) (.int .i64 (j:Int))).run Tryz.prog W= .ok (.pointer (some ⟨g,o,none⟩)) W:=by rw[<-hg.out];exact a0h a0w a O cr .i64 j p8 (by omega)
     have n4:Ext wr w6:=ExtX.box ((ExtX.refl wr).alloc _) r4 (Nat.le_refl _);have i8:Ext w6 w6.drew:=(ExtX.refl w6).drew;have r:=n4.trans i8;have o1:=C.ext0 r;have o3:=hP.ext0 (a0c.elem _) r;have o6:=hR.ext0 QC.elem r;have i3:=a8.ext0 r;have r9:QV (mk (mz (un X po) ao d) w6.drew) (.agg #[.bool s6, .slice a6 n6 c6, .slice d6 k6 e6]) x:=(mkx QC.mono h9 r).qv j8.out;have j6:QV (mk (mz (un X po) ao d) w6.drew) (.agg #[.bool s5, .slice a5 n5 c5, .slice d5 k5 e5]) P:=mkx QV.mono l7 r;have o9:=p2.ext r;have m7:=r3.ext0 i8;obtain⟨bw,f8⟩:∃bw,wr.heap.size=bw:=⟨_,rfl⟩;rw[f8]at m7;have p4:Hid (ob a bw=false):=hid (by rw[<-f8];exact hR.ob_ge (Nat.le_refl _));have e4:Hid (ob a N=false):=hid (by
      cases hb:ob a N
      ·rfl
      ·have h5:mb ao d N=true:=a2D.2 (.inr (a1N z (show ob d[i].1 N=true by rw[y.out];exact hb)))
       rw[J.out,l1.out]at h5;simp at h5)
     have hS:Hid (∀Y W',ExtX Y w6.drew W'->Y (adr ao i).block=false->Y bw=false->Y N=false->W'.cell? (adr ao i)=some (.slice a O cr)/\W'.cell? ⟨bw,0,none⟩=some (.bool s6)/\W'.cell? ⟨bw,1,none⟩=some (.slice a6 n6 c6)/\W'.cell? ⟨bw,2,none⟩=some (.slice d6 k6 e6)/\W'.cell? ⟨N,0,none⟩=some (.bool s5)/\W'.cell? ⟨N,1,none⟩=some (.slice a5 n5 c5)/\W'.cell? ⟨N,2,none⟩=some (.slice d5 k5 e5)):=hid fun Y W' h s0 s1 s2=>by
      have z2:=m7.ext h s1;have z3:=i3.ext h s2;exact⟨h.cellY (r.cell y1) s0,z2.cell 0 rfl,z2.cell 1 rfl,z2.cell 2 rfl,z3.cell 0 rfl,z3.cell 1 rfl,z3.cell 2 rfl⟩
     obtain⟨s3,s4,s8,s9,t0,t2,t3⟩:=hS.out noY w6.drew (ExtX.refl _) rfl rfl rfl;have qd:=c0Y (mz (un X po) ao d) w6.drew _ _ _ _ o9 r9 j6;rw[<-b3.out]at qd;have t4:Calls Tryz.prog 206 #[.agg #[.bool s6, .slice a6 n6 c6, .slice d6 k6 e6], .agg #[.bool s5, .slice a5 n5 c5, .slice d5 k5 e5]] w6.drew (fun e w'=>Ext w6.drew w'/\∃u ec,e= .returned (.tuple #[u, .int .i64 ec])/\QC (mk (mz (un X po) ao d) w') u v):=qd.mono fun e w' ⟨q1,u,q2,q3⟩=>⟨q1,u,_,q2,q3⟩;clear qd r3 bx y1;rw[f8];go_wp2_with fail
     go_region_held3 (fun w'=>w'.cell? (adr ao i)=some (.slice a O cr)/\w'.cell? ⟨bw,0,none⟩=some (.bool s6)/\w'.cell? ⟨bw,1,none⟩=some (.slice a6 n6 c6)/\w'.cell? ⟨bw,2,none⟩=some (.slice d6 k6 e6)/\w'.cell? ⟨N,0,none⟩=some (.bool s5)/\w'.cell? ⟨N,1,none⟩=some (.slice a5 n5 c5)/\w'.cell? ⟨N,2,none⟩=some (.slice d5 k5 e5))
      (first|exact hS.out noY _ t1 rfl rfl rfl|exact hS.out (ob a) _ ((ExtX.of t1).trans f4.2) j5.out p4.out e4.out|go_keep)
      ((go_at_call 206;(with_reducible refine t4.mono ?_);rintro ee w7 ⟨t1,u7,t7,rfl,m1⟩;obtain⟨s7,a7,n7,c7,d7,k7,e7,rfl⟩:=m1.shape;have d1:=o6.ext0 QC.elem t1;obtain⟨_,v0,v1,v2,_,⟨g0,f0⟩,⟨g1,f1⟩,⟨g2,f2⟩,_⟩:=d1.cell3 j g8 hg.out;have f4:=d1.set3 a6n QC.elem j g8 hg.out (v0:= .bool s7) (v1:= .slice a7 n7 c7) (v2:= .slice d7 k7 e7) (x:=v) (by rw[i0.out];exact m1)))
     obtain⟨q1,q2⟩:=f4;rw[k8.out]at q1;obtain⟨w8,m2⟩:∃w8,((w7.setCell ⟨g,o,none⟩ (.bool s7)).setCell ⟨g,o+1,none⟩ (.slice a7 n7 c7)).setCell ⟨g,o+2,none⟩ (.slice d7 k7 e7)=w8:=⟨_,rfl⟩;rw[m2]at q1 q2 |-;have m6:ExtX (ob d[i].1) w7 w8:=by rw[y.out];exact q2
     have j3:=(o1.ext0 t1).upd z (l:=mix R row (j+1)) m6 (fun q5=>by rw[List.getElem_set_self,a2j b4.out,a2j b4.out]) (by rw[y.out];exact q1);rw[List.set_set]at j3;have a3:=(o3.ext0 (a0c.elem _) t1).frame (a0c.pure _) q2 (fun k G=>by
      cases hb:ob a k
      ·rfl
      ·have:=(l9.out k hb).1;rw[a0r G]at this;simp at this) hP.1
     have m8:=(i3.ext0 t1).ext q2 e4.out;have r7:=QV.mono _ _ _ _ (a0v q2 m3) (mkx QV.mono j6 t1);have b1:=(hE.trans (ExtX.of (r.trans t1))).trans (show ExtX (mb ao hs) w7 w8 by rw[<-J.out];exact ExtX.row z m6);clear s3 s4 s8 s9 t0 t2 t3 g0 g1 g2 f0 f1 f2 i1 i2 m2;go_wp2_with fail
     go_roundw
     case rel=>exact⟨j+1,by go_num,by omega,j3,a3,m8,r7,b1⟩
     case measure=>simp[intOf];omega
    ·have q7:j=O:=by omega
     subst q7;rw[a3L (by rw[d3.out];exact Nat.le_refl _) (by rw[U.out];exact Nat.le_refl _),e8.out]at C;obtain⟨f,a9⟩:∃f,divL D i col=f:=⟨_,rfl⟩;have L:Shp n j f:=by rw[<-a9];exact c8.divL b8 col
     have j7:Hid (∀t,t<i->BR 68719476736 (f.getD t [])/\BR 68719476736 (f.getD i [])/\hq ((f.getD t []).getD col 0/(f.getD i []).getD col 0)<=68719476736/\∀x∈f.getD i [],hq ((f.getD t []).getD col 0/(f.getD i []).getD col 0*x)<=68719476736):=hid fun t ht=>by
      rw[<-a9];exact a9c c8 V b8 (by omega) (by omega) i4
     have k2:Hid (above f i col i=dN E p (i+1)):=hid (by rw[g3.out];unfold dStep;rw[a9]);rw[a9]at C;have e3:=hid L.1;have n9:MO (un X po) base 25 38 wr ao cap d (above f i col 0):=by rw[b1U];exact C
     have g6:i<=cap:=by omega
     have f1:∀W,(Instr.sliceAt 53 (.slice ao n cap) none (some (.int .i64 (i:Int))) none).run Tryz.prog W= .ok (.slice ao i cap) W:=a4m a0p n cap .i64 i g6;have t6:Hd ao i:=fun h0=>g5 (by omega);clear C a9 a8 l7;go_wp2_with fail
     go_loopw [58] (fun k wx=>∃(s:Nat),k= .int .i64 s/\s<=i/\MO (un X po) base 25 38 wx ao cap d (above f i col s)/\OL (a0c .i64) 1 (mz X ao hs) w.heap.size 3 wx po pc p/\ExtX (mb ao hs) w wx) (fun k _=>i - (intOf k).toNat)
     case atStart=>exact⟨0,rfl,Nat.zero_le _,n9,hP,hE⟩
     case round=>
      obtain⟨s,rfl,u1,A,a3,b1⟩:=hrel;by_cases k9:s<i
      ·have m0:s<n:=by omega
       have M:s<d.length:=by rw[f3.out];exact m0
       have c3:s<f.length:=by rw[e3.out];exact m0
       have h4:i<f.length:=by rw[e3.out];exact b8
       have d9:s<(above f i col s).length:=by rw[a4l];exact c3
       have l5:i<(above f i col s).length:=by rw[a4l];exact h4
       obtain⟨a1,n1,c1,I⟩:∃a n c,d[s]=(a,n,c):=⟨_,_,_,rfl⟩;have g4:(above f i col s)[s]=f[s]:=by rw[a4k d9 c3,if_neg (by omega)]
       have k3:(above f i col s)[i]=f[i]:=by rw[a4k l5 h4,if_neg (by omega)]
       have l4:n1=j:=by
        have:=A.rlen s M d9;rw[I,g4,L.2 _ (List.getElem_mem _)]at this;exact this
       subst l4;have b2:=A.row s M d9;have a4:=A.row i z l5;rw[g4]at b2;rw[k3]at a4;simp only[I]at b2;simp only[y.out]at a4;have m4:=fun k (G:ob a1 k=true)=>A.mz_sub M k (by rw[I];exact G);have m5:=fun k (G:ob a k=true)=>A.mz_sub z k (by rw[y.out];exact G);have p9:∀k,ob a1 k=true->ob a k=false:=fun k G=>by
        have:=A.dis s i M z (by omega) k (by rw[I];exact G);rw[y.out]at this;exact this
       have l8:=fun k (G:ob a1 k=true)=>A.sep s M k (by rw[I];exact G);have Q:=j7.out s k9;rw[a2O c3]at Q;have k1:Hid ((above f i col s).set s (a3r f[s] (f.getD i []) col)=above f i col (s+1)):=hid (b3A c3 k9);have h3:f.getD i []=f[i]:=a2O h4;rw[<-h3]at a4;have c0:=hid (L.2 f[s] (List.getElem_mem _));have a2:=hid (show(f.getD i []).length=n1 by rw[h3];exact L.2 _ (List.getElem_mem _));obtain⟨e2,H⟩:∃e2,f[s]=e2:=⟨_,rfl⟩;obtain⟨e1,a0⟩:∃e1,f.getD i []=e1:=⟨_,rfl⟩;rw[H,a0]at k1;rw[H]at b2 c0;rw[a0]at a4 a2;rw[H,a0]at Q;have o8:HX (un X po) wr:=fun k G=>by
        by_cases hx:X k=true
        ·exact l3.out.ext b1 k hx
        ·exact(a3.block (by simpa[un,hx]using G)).2
       have p3:=A.hz o8;have q0:=a5x (mz (un X po) ao d) base wr a1 a c1 cr n1 col e2 e1 p3 b2 a4 m4 m5 p9 c0.out a2.out (by omega) f9 Q.1 Q.2.1 Q.2.2.1 Q.2.2.2;have y1:wr.cell? (adr ao s)=some (.slice a1 n1 c1):=by
        have:=(A.hdr s M).1;rw[I]at this;exact this
       have y2:wr.cell? (adr ao i)=some (.slice a n1 cr):=by
        have:=(A.hdr i z).1;rw[y.out]at this;exact this
       have e9:=hid I;clear g4 k3 h3 H a0 I b2 a4 Q f1;go_wp2_with (with_reducible refine a0s a0p (by omega) (by assumption) ?_)
       refine q0.mono ?_;rintro ee w7 ⟨rfl,t1,d1⟩;have i9:ExtX (ob d[s].1) wr w7:=by rw[e9.out];exact t1
       have j4:=A.upd M (l:=a3r e2 e1 col) i9 (fun q5=>by
        rw[a4k d9 c3,if_neg (by omega),a4g _ _ _ (by rw[c0.out,a2.out]),a2.out];exact(L.2 _ (List.getElem_mem _)).symm) (by rw[e9.out];exact d1)
       rw[k1.out]at j4;have o4:=a3.frame (a0c.pure _) t1 (fun k G=>by
        cases hb:ob a1 k
        ·rfl
        ·have:=(l8 k hb).1;rw[a0r G]at this;simp at this) a3.1
       have n8:=b1.trans (show ExtX (mb ao hs) wr w7 by rw[<-J.out];exact ExtX.row M i9);clear y1 y2;go_wp2_with fail
       go_roundw
       case rel=>exact⟨s+1,by go_num,by omega,j4,o4,n8⟩
       case measure=>simp[intOf];omega
      ·have r8:s=i:=by omega
       subst r8;rw[k2.out]at A;go_wp2_with fail
       go_roundw
       case rel=>exact⟨s+1,by go_num,by omega,A,a3,b1⟩
       case measure=>simp[intOf];omega
  ·have q6:i=pl:=by omega
   subst q6;rw[<-K.out]at C;go_wp2_with fail
   go_ret
   exact⟨hE,po,pc,d,by rw[K.out];rfl,J.out,C,hP⟩
def c1q(X:Nat->Bool)(w:World)(m:List (List Rat))(p:List Nat)(e:Ending)(w':World):Prop:=Ext w w'/\∃u v,e= .returned (.tuple #[u,v, .int .i64 0])/\MC (mk X w') u m/\SlV (a0c .i64) 1 (mk X w') v p
theorem b1V(X:Nat->Bool)(w:World)(u:Value)(m:List (List Rat))(r:HX X w)(t:MV (mk X w) u m)(n:a0y m=true)(x:b2p m (colsL m)):Calls Tryz.prog 258 #[u] w (c1q X w (a0J m (colsL m)).1 (a0J m (colsL m)).2):=by
 obtain⟨a,v,s,_,_⟩:=a0D n;have f:=a2l X w u m t (by omega);rw[n]at f;have l:=a3u X w u m m.length (colsL m) r t a rfl (by omega) (by omega);have q:=hid (a1d a).1;clear n;go_enter Tryz.func258,Tryz.ntmps258
 go_wp2_with fail
 refine f.mono ?_;rintro e C ⟨rfl,rfl⟩;go_wp2_with fail
 refine l.mono ?_;rintro e A ⟨b,ao,cap,hs,rfl,c⟩;go_wp2_with fail
 refine(a4Q X _ A ao cap m.length (colsL m) hs m (r.ext b) c a rfl (by omega) (by omega) x).mono ?_;rintro e B ⟨h,po,pc,z,rfl,y,j,d⟩;have i:=c.ext_from b (Nat.le_refl _) h;have g:=MC.mono _ _ _ _ (a1v (X:=X) fun k _ o=>a0i o) j.mc;have p:SlV (a0c .i64) 1 (mk X B) (.slice po (a0J m (colsL m)).2.length pc) (a0J m (colsL m)).2:=⟨po,pc,rfl,d.lenCap,(d.sl (a0c.elem _)).mono (a0c.mono _) (a1v fun k _ o=>a1T.2 (.inl o))⟩;rw[q.out.1]at g;go_wp2_with fail
 go_ret3
 exact⟨i,_,_,rfl,g,p⟩
end Go.Proofs.YtgbbpgflopajaaaGreat
namespace Go.Lin
open Go.Lim
end Go.Lin
namespace Go.Proofs.YtgbbpgflopajaaaGreat
open Go.RowKit Go.Rep Go.Lim Go.Lin
end Go.Proofs.YtgbbpgflopajaaaGreat
namespace Go.Lin
open Go.Lim
theorem c1r{l:List Rat}{B:Nat}(h:∀x,x<l.length->hq (l.getD x 0)<=B):Go.Rep.BR B l:=fun q hq=>by
 obtain⟨x,hx,rfl⟩:=List.getElem_of_mem hq;have:=h x hx;rwa[List.getD_eq_getElem?_getD,List.getElem?_eq_getElem hx]at this
theorem a9d{l:List Rat}{B:Nat}(h:Go.Rep.BR B l)(a:1<=B)(x:Nat):hq (l.getD x 0)<=B:=by
 by_cases hx:x<l.length
 ·rw[List.getD_eq_getElem?_getD,List.getElem?_eq_getElem hx];exact h _ (List.getElem_mem _)
 ·rw[List.getD_eq_getElem?_getD,List.getElem?_eq_none (by omega)]
  show hq 0<=B
  rw[a0X];exact a
theorem a6U{a b:List Rat}{n:Nat}(e:a.length=n)(f:b.length=n)(h:∀i,i<n->a.getD i 0=b.getD i 0):a=b:=by
 refine List.ext_getElem (by omega) fun i c d=>?_;have:=h i (by omega);rwa[List.getD_eq_getElem?_getD,List.getElem?_eq_getElem c,List.getD_eq_getElem?_getD,List.getElem?_eq_getElem d]at this
theorem c0m{k:Nat}(a:k<=4):35^k<=1500625:=Nat.le_trans (Nat.pow_le_pow_right (by omega) a) (by decide)
theorem b1d{m:Mat}{b:List Rat}{n c B:Nat}(hs:Shp n c m)(d:HB B m)(e:Go.Rep.BR B b):HB B (a3f m b n):=fun i j=>by
 have a:=d.pos;by_cases hi:i<n
 ·by_cases f:j<c+1
  ·rw[a8X hs i hi j f];unfold a3s
   split
   ·exact a9d e a i
   ·exact d i j
  ·rw[a1S (a2p hs) (.inr (by omega)),a0X];exact a
 ·rw[a1S (a2p (b:=b) hs) (.inl (by omega)),a0X];exact a
theorem b5L{m:Mat}{b:List Rat}{n c:Nat}(hs:Shp n c m):∃d,RE n (c+1) (a3s c (ent m) fun i=>b.getD i 0) (ent (a0J (a3f m b n) (c+1)).1) d:=by
 obtain⟨_,_,d,a⟩:=a1d (a2p (b:=b) hs);exact⟨d,a.congr fun i hi j e=>(a8X hs i hi j e).symm⟩
theorem a9W(R:Mat)(p:List Nat)(c:Nat):(b7e R p c).length=c:=b0W _ _ _ _
def a1k(m:Mat)(n:Nat):Mat:=(List.range n).map fun i=>m.getD i []++(List.replicate n 0).set i 1
theorem a1m{m:Mat}{n:Nat}(hs:Shp n n m):Shp n (2*n) (a1k m n):=⟨by simp[a1k],fun r a=>by
 obtain⟨i,hi,rfl⟩:=List.mem_map.1 a;rw[List.length_append,hs.row (List.mem_range.1 hi),List.length_set,List.length_replicate];omega⟩
theorem a3v{m:Mat}{n:Nat}(hs:Shp n n m)(i:Nat)(hi:i<n)(j:Nat)(c:j<2*n):ent (a1k m n) i j=if j<n then ent m i j else if j=n+i then 1 else 0:=by
 have b:=hs.row hi;have e:(a1k m n).getD i []=m.getD i []++(List.replicate n 0).set i 1:=by simp[a1k,List.getD_eq_getElem?_getD,hi]
 unfold ent;rw[e,List.getD_eq_getElem?_getD];by_cases h:j<n
 ·rw[if_pos h,List.getElem?_append_left (by omega),<-List.getD_eq_getElem?_getD]
 ·rw[if_neg h,List.getElem?_append_right (by omega),b,List.getElem?_set]
  by_cases a:i=j - n
  ·rw[if_pos a,if_pos (show j=n+i by omega)]
   simp[show i<n from hi]
  ·rw[if_neg a,if_neg (show¬j=n+i by omega)]
   simp[show j - n<n by omega]
theorem b5M{m:Mat}{n:Nat}(hs:Shp n n m):LI n (2*n) (ent (a1k m n)):=fun y c i hi=>by
 have a:=c (n+i) (by omega);unfold cmb at a;rw[a1E i hi fun q hq b=>by
  rw[a3v hs q hq (n+i) (by omega),if_neg (by omega),if_neg (by omega)];grind]at a
 rw[a3v hs i hi (n+i) (by omega),if_neg (by omega),if_pos rfl]at a;grind
theorem a5P{m:Mat}{n:Nat}(hs:Shp n n m):(a0J (a1k m n) (2*n)).2.length=n:=by
 obtain⟨c,a,d,b⟩:=a1d (a1m hs);exact(b5M hs).full a b
theorem RE.cols{n c c':Nat}{f g:F2}{d:Rat}(h:RE n c f g d)(hc:c'<=c):RE n c' f g d:=by
 induction h with
 |same h=>exact .same fun i hi j hj=>h i hi j (by omega)
 |swap i k hi hk hik h1 h2 h3=>exact .swap i k hi hk hik (fun j hj=>h1 j (by omega)) (fun j hj=>h2 j (by omega)) (fun r hr a b j hj=>h3 r hr a b j (by omega))
 |scale i a hi ha h1 h3=>exact .scale i a hi ha (fun j hj=>h1 j (by omega)) (fun r hr a j hj=>h3 r hr a j (by omega))
 |add i k a hi hk hik h1 h3=>exact .add i k a hi hk hik (fun j hj=>h1 j (by omega)) (fun r hr a j hj=>h3 r hr a j (by omega))
 |trans _ _ ih1 ih2=>exact(ih1).trans (ih2)
def a4x(m:Mat)(n:Nat):Prop:=0<n/\n<=(a0J (a1k m n) (2*n)).2.getD (n - 1) 0
theorem b1e{m:Mat}{n:Nat}(hs:Shp n n m):∃d,RE n n (ent m) (ent (a0J (a1k m n) (2*n)).1) d:=by
 obtain⟨c,e,d,a⟩:=a1d (a1m hs);refine⟨d,(a.cols (show n<=2*n by omega)).congr fun i hi j b=>?_⟩;rw[a3v hs i hi j (by omega),if_pos b]
theorem b1f{m:Mat}{n:Nat}(f:n<=4)(hs:Shp n n m):a4x m n↔b9u m n=0:=by
 rw[a8h f hs];obtain⟨o,b,_,q⟩:=a1d (a1m hs);obtain⟨d,hd⟩:=b1e hs;have a:=a5P hs;have c:=hd.det_same f;have s:=hd.ne;obtain⟨⟨R,p⟩,u⟩:∃S,a0J (a1k m n) (2*n)=S:=⟨_,rfl⟩;unfold a4x;rw[u]at o b q hd a c |-
 dsimp only at o b q hd a c |-
 by_cases r:n=0
 ·subst r
  constructor
  ·intro h;omega
  ·intro h;exfalso;rw[c1l]at h;grind
 ·have l:n - 1<p.length:=by omega
  have e:p.getD (n - 1) 0=p[n - 1]:=by simp[List.getD_eq_getElem?_getD,l]
  rw[e];constructor
  ·rintro ⟨_,w⟩
   have g:det n (ent R)=0:=b0N f _ (n - 1) (by omega) fun j y=>b.left (n - 1) l j (by omega);rw[g]at c;rcases Rat.mul_eq_zero.1 c.symm with k|k
   ·exact absurd k s
   ·exact k
  ·intro h
   refine⟨by omega,Classical.byContradiction fun x=>?_⟩;have v:∀i (hi:i<p.length),p[i]<n:=fun i hi=>by
    by_cases t:i=n - 1
    ·subst t;omega
    ·have:=b.inc i (n - 1) (by omega) l;omega
   have g:det n (ent R)=1:=by rw[a1u (b.unit a v),b0O f]
   rw[g,h]at c;grind
noncomputable def a2y(m:Mat)(n:Nat):Mat:=(a0J (a1k m n) (2*n)).1.map (·.drop n)
theorem a1W{m:Mat}{n:Nat}(hs:Shp n n m):Shp n n (a2y m n):=by
 obtain⟨a,_⟩:=a1d (a1m hs);refine⟨by simp[a2y,a.1],fun r b=>?_⟩;obtain⟨x,hx,rfl⟩:=List.mem_map.1 b;rw[List.length_drop,a.2 x hx];omega
theorem b1g{m:Mat}{n:Nat}(hs:Shp n n m)(i:Nat)(hi:i<n)(j:Nat):ent (a2y m n) i j=ent (a0J (a1k m n) (2*n)).1 i (n+j):=by
 obtain⟨b,_⟩:=a1d (a1m hs);have a:i<(a0J (a1k m n) (2*n)).1.length:=by rw[b.1];exact hi
 unfold ent a2y;simp[List.getD_eq_getElem?_getD,a]
def a3M:F2:=fun i j=>if i=j then 1 else 0
theorem a9e{m:Mat}{n:Nat}(hs:Shp n n m)(d:¬a4x m n):Eqm n n (ent (a0J (a1k m n) (2*n)).1) a3M:=by
 obtain⟨g,b,_,h⟩:=a1d (a1m hs);have a:=a5P hs;unfold a4x at d;refine b.unit a fun i hi=>?_;have c:n - 1<(a0J (a1k m n) (2*n)).2.length:=by omega
 have e:(a0J (a1k m n) (2*n)).2.getD (n - 1) 0=(a0J (a1k m n) (2*n)).2[n - 1]:=by simp[List.getD_eq_getElem?_getD,c]
 rw[e]at d;by_cases f:i=n - 1
 ·subst f;omega
 ·have:=b.inc i (n - 1) (by omega) c;omega
theorem b1h(n:Nat)(f:Nat->Rat):sm (2*n) f=sm n f+sm n fun j=>f (n+j):=by
 have key:∀k,sm (n+k) f=sm n f+sm k fun j=>f (n+j):=fun k=>by
  induction k with
  |zero=>show sm n f=sm n f+0;grind
  |succ k ih=>show sm (n+k) f+f (n+k)=sm n f+(sm k _+f (n+k));rw[ih];grind
 rw[show 2*n=n+n by omega];exact key n
theorem b1i{m:Mat}{n:Nat}(hs:Shp n n m)(s:¬a4x m n):Eqm n n (mul n (ent m) (ent (a2y m n))) a3M:=by
 obtain⟨t,u,d,p⟩:=a1d (a1m hs);have o:=a9e hs s;intro i hi j l;have e:Nul n (2*n) (ent (a0J (a1k m n) (2*n)).1) (fun q=>if q<n then ent (a2y m n) q j else if q=n+j then -1 else 0):=fun r a=>by
  rw[b1h];have b:sm n (fun q=>ent (a0J (a1k m n) (2*n)).1 r q*(if q<n then ent (a2y m n) q j else if q=n+j then -1 else 0))=ent (a2y m n) r j:=by
   rw[a1E r a fun q hq g=>by rw[o r a q hq];unfold a3M;rw[if_neg (Ne.symm g)];grind];rw[o r a r a,if_pos a];unfold a3M;simp
  have c:sm n (fun q=>ent (a0J (a1k m n) (2*n)).1 r (n+q)*(if n+q<n then ent (a2y m n) (n+q) j else if n+q=n+j then -1 else 0))= - ent (a2y m n) r j:=by
   rw[a1E j l fun q hq f=>by rw[if_neg (by omega),if_neg (by omega)];grind];rw[if_neg (by omega),if_pos rfl,b1g hs r a j];grind
  rw[b,c];grind
 have k:=(p.nul _).2 e i hi;rw[b1h]at k;have b:sm n (fun q=>ent (a1k m n) i q*(if q<n then ent (a2y m n) q j else if q=n+j then -1 else 0))=mul n (ent m) (ent (a2y m n)) i j:=a0f fun q hq=>by
  rw[a3v hs i hi q (by omega),if_pos hq,if_pos hq]
 have c:sm n (fun q=>ent (a1k m n) i (n+q)*(if n+q<n then ent (a2y m n) (n+q) j else if n+q=n+j then -1 else 0))= - a3M i j:=by
  rw[a1E j l fun q hq f=>by rw[if_neg (show¬n+q<n by omega),if_neg (show¬n+q=n+j by omega)];grind];rw[if_neg (show¬n+j<n by omega),if_pos rfl,a3v hs i hi (n+j) (by omega),if_neg (by omega)];unfold a3M;by_cases h:i=j
  ·subst h;simp
  ·rw[if_neg h,if_neg (show¬n+j=n+i by omega)];grind
 rw[b,c]at k;grind
theorem a9X{m:Mat}{n:Nat}(hs:Shp n n m)(e:¬a4x m n)(z:Nat->Rat)(hz:Nul n n (ent m) z)(i:Nat)(hi:i<n):z i=0:=by
 obtain⟨d,hd⟩:=b1e hs;have a:=(hd.nul z).1 hz i hi;have c:=a9e hs e;rw[a1E i hi fun q hq b=>by rw[c i hi q hq];unfold a3M;rw[if_neg (Ne.symm b)];grind]at a;rw[c i hi i hi]at a;unfold a3M at a;simpa using a
theorem a9f(n:Nat)(f g h:F2)(i j:Nat):mul n f (mul n g h) i j=mul n (mul n f g) h i j:=by
 unfold mul;have e1:sm n (fun k=>f i k*sm n fun q=>g k q*h q j)=sm n fun k=>sm n fun q=>f i k*g k q*h q j:=a0f fun k _=>by
  rw[<-a1l];exact a0f fun q _=>by grind
 have e2:sm n (fun q=>(sm n fun k=>f i k*g k q)*h q j)=sm n fun q=>sm n fun k=>f i k*g k q*h q j:=a0f fun q _=>by
  rw[show(sm n fun k=>f i k*g k q)*h q j=h q j*sm n fun k=>f i k*g k q by grind,<-a1l];exact a0f fun k _=>by grind
 rw[e1,e2,a2w]
theorem b5N{m:Mat}{n:Nat}(hs:Shp n n m)(c:¬a4x m n):Eqm n n (mul n (ent (a2y m n)) (ent m)) a3M:=by
 intro i hi j k;have h:=b1i hs c;have l:=a9X hs c (fun q=>mul n (ent (a2y m n)) (ent m) q j - a3M q j) (fun r d=>by
  have e:sm n (fun q=>ent m r q*(mul n (ent (a2y m n)) (ent m) q j - a3M q j))=mul n (ent m) (mul n (ent (a2y m n)) (ent m)) r j - ent m r j:=by
   rw[a0f (g:=fun q=>ent m r q*mul n (ent (a2y m n)) (ent m) q j - ent m r q*a3M q j) fun q _=>by grind,a6I]
   congr 1
   rw[a1E j k fun q hq a=>by unfold a3M;rw[if_neg a];grind];unfold a3M;simp
  rw[e,a9f];have f:mul n (mul n (ent m) (ent (a2y m n))) (ent m) r j=ent m r j:=by
   show(sm n fun q=>mul n (ent m) (ent (a2y m n)) r q*ent m q j)=_
   rw[a0f (g:=fun q=>a3M r q*ent m q j) fun q hq=>by rw[h r d q hq]];rw[a1E r d fun q hq b=>by unfold a3M;rw[if_neg (Ne.symm b)];grind];unfold a3M;simp
  rw[f];grind) i hi
 grind
def fn(l:List Rat):Nat->Rat:=fun i=>l.getD i 0
def gmL(x:Mat)(n c:Nat):Mat:=ofF c c (gr n (ent x))
def gyL(x:Mat)(y:List Rat)(n c:Nat):List Rat:=(List.range c).map (gy n (ent x) (fn y))
theorem a2Y(x:Mat)(n c:Nat):Shp c c (gmL x n c):=a9L _ _ _
theorem a6V(x:Mat)(n c:Nat):Eqm c c (ent (gmL x n c)) (gr n (ent x)):=b3c c c _
theorem a9Y(x:Mat)(y:List Rat)(n c:Nat):(gyL x y n c).length=c:=by simp[gyL]
theorem a8k(x:Mat)(y:List Rat)(n c:Nat){i:Nat}(hi:i<c):(gyL x y n c).getD i 0=gy n (ent x) (fn y) i:=by
 simp[gyL,List.getD_eq_getElem?_getD,hi]
noncomputable def lsS(x:Mat)(y:List Rat)(n c:Nat):Mat×List Nat:=a0J (a3f (gmL x n c) (gyL x y n c) c) (c+1)
noncomputable def a0S(x:Mat)(y:List Rat)(n c:Nat):List Rat:=b7e (lsS x y n c).1 (lsS x y n c).2 c
theorem a2Z(x:Mat)(y:List Rat)(n c:Nat):(a0S x y n c).length=c:=a9W _ _ _
theorem NS.congr{n c:Nat}{f f':F2}{y g b b':Nat->Rat}(h:NS n c f y b)(e:Eqm n c f f')(l:∀i,i<n->y i=g i)(k:∀j,j<c->b j=b' j):NS n c f' g b':=fun i hi=>by
 have e1:∀j,j<c->gr n f i j=gr n f' i j:=fun j d=>a0f fun r a=>by rw[e r a i hi,e r a j d]
 have e2:gy n f y i=gy n f' g i:=a0f fun r a=>by rw[e r a i hi,l r a]
 rw[<-e2,<-h i hi];exact a0f fun j d=>by rw[e1 j d,k j d]
theorem a4R{x:Mat}{y:List Rat}{n c:Nat}(hs:Shp n c x):c∉(lsS x y n c).2/\(lsS x y n c).2=(a0J x c).2/\NS n c (ent x) (fn y) (fn (a0S x y n c))/\∀j,j<c->j∉(a0J x c).2->fn (a0S x y n c) j=0:=by
 obtain⟨_,q,e,p⟩:=a1d hs;obtain⟨_,k,_⟩:=a1d (a2p (b:=gyL x y n c) (a2Y x n c));obtain⟨d,hd⟩:=b5L (b:=gyL x y n c) (a2Y x n c);have f:RE c (c+1) (a3s c (gr n (ent x)) (gy n (ent x) (fn y))) (ent (lsS x y n c).1) d:=hd.congr fun i hi j a=>by
  unfold a3s;by_cases h:j=c
  ·rw[if_pos h,if_pos h];exact(a8k x y n c hi).symm
  ·rw[if_neg h,if_neg h,a6V x n c i hi j (by omega)]
 obtain⟨l,m,o⟩:=b8A q p k f;have g:∀j,j<c->fn (a0S x y n c) j=b3d (ent (lsS x y n c).1) (lsS x y n c).2 c j:=fun j a=>b0X k j a;refine⟨b3r k f,l,m.congr (fun _ _ _ _=>rfl) (fun _ _=>rfl) (fun j a=>(g j a).symm),fun j a r=>?_⟩;rw[g j a];exact o j a r
theorem c0n{x:Mat}{n c:Nat}(hs:Shp n c x):(a0J (gmL x n c) c).2=(a0J x c).2:=by
 obtain⟨_,b,e,a⟩:=a1d hs;obtain⟨_,f,d,hd⟩:=a1d (a2Y x n c);refine f.piv2 b fun v=>?_;have e1:Nul c c (ent (gmL x n c)) v↔Nul c c (gr n (ent x)) v:=(RE.same (a6V x n c)).nul v;exact((hd.nul v).symm.trans e1).trans (a8W.trans (a.nul v))
theorem a6W{l m:List Rat}{c:Nat}(h:l.length=c):a1Z l m=sm c fun q=>l.getD q 0*m.getD q 0:=by
 unfold a1Z;rw[a6R,h]
theorem a9Z{x:Mat}{i:Nat}(hi:i<x.length):x[i]=x.getD i []:=by simp[List.getD_eq_getElem?_getD,hi]
def a2q(x:Mat)(y b:List Rat):List Rat:=List.zipWith (fun r v=>v - a1Z r b) x y
theorem a2P{x:Mat}{y b:List Rat}(h:y.length=x.length):(a2q x y b).length=x.length:=by simp[a2q,h]
theorem a5y{x:Mat}{y b:List Rat}{i:Nat}(h:i<(a2q x y b).length)(a:i<x.length)(c:i<y.length):(a2q x y b)[i]=y[i] - a1Z x[i] b:=by simp[a2q]
theorem b1j{x:Mat}{y b:List Rat}{n c:Nat}(hs:Shp n c x)(f:y.length=n){i:Nat}(hi:i<n):fn (a2q x y b) i=fn y i - app c (ent x) (fn b) i:=by
 have a:i<x.length:=by rw[hs.1];exact hi
 have d:i<y.length:=by omega
 have e:i<(a2q x y b).length:=by rw[a2P (by rw[f,hs.1])];exact a
 have e1:fn (a2q x y b) i=(a2q x y b)[i]:=by simp[fn,List.getD_eq_getElem?_getD,e]
 have e2:fn y i=y[i]:=by simp[fn,List.getD_eq_getElem?_getD,d]
 rw[e1,e2,a5y e a d,a6W (hs.2 _ (List.getElem_mem a)),a9Z a];rfl
theorem a4S{l m:List Rat}{n:Nat}(h:l.length=n):a1Z l m=sm n fun i=>fn l i*fn m i:=a6W h
def pkL(x:Mat)(p:List Nat):Mat:=x.map fun r=>p.map fun j=>r.getD j 0
theorem b0a(x:Mat)(p:List Nat):(pkL x p).length=x.length:=by simp[pkL]
theorem b3D{x:Mat}{n c:Nat}(hs:Shp n c x)(p:List Nat):Shp n p.length (pkL x p):=⟨by rw[b0a];exact hs.1,fun r a=>by
 obtain⟨s,_,rfl⟩:=List.mem_map.1 a;simp⟩
theorem b3E{x:Mat}{n c:Nat}(hs:Shp n c x)(p:List Nat):Eqm n p.length (ent (pkL x p)) (usd (ent x) p):=fun i hi a d=>by
 have b:i<x.length:=by rw[hs.1];exact hi
 simp[ent,pkL,usd,List.getD_eq_getElem?_getD,b,d]
def a1K(u:Mat)(n m:Nat):Mat:=a6q (trL u n m) u n m
theorem a0F(u:Mat)(n m:Nat):Shp m m (a1K u n m):=b5C (a1y u n m).1
theorem a9g(u:Mat)(n m:Nat):Eqm m m (ent (a1K u n m)) (gr n (ent u)):=fun i hi j a=>by
 unfold a1K;rw[b5D (a1y u n m) i hi j a];exact a0f fun k b=>by rw[a8g u n m i hi k b]
theorem b5O{n c:Nat}{g:F2}{p:List Nat}(d:Rref n c g p)(h:∀z,Nul n c g z->∀a,a<c->z a=0):p.length=c:=by
 have f:∀j,j<c->j∈p:=fun j b=>Classical.byContradiction fun o=>by
  have:=h _ (d.nv_nul o b) j b;rw[a4f]at this;grind
 have i:(List.range c).length<=p.length:=(List.nodup_range).length_le_of_subset fun j b=>f j (List.mem_range.1 b);have e:p.Nodup:=d.pw.imp fun h=>Nat.ne_of_lt h;have l:p.length<=(List.range c).length:=e.length_le_of_subset fun j b=>by
  obtain⟨k,m,rfl⟩:=List.getElem_of_mem b;exact List.mem_range.2 (d.lt k m)
 rw[List.length_range]at i l;omega
theorem c0o{G:Mat}{H:F2}{m:Nat}(i:m<=4)(hs:Shp m m G)(g:Eqm m m (ent G) H)(j:∀z,Nul m m H z->∀a,a<m->z a=0):¬a4x G m/\Inv m H (ent (a2y G m)):=by
 have c:¬a4x G m:=by
  rw[b1f i hs];refine(b3w i hs).1 ?_;obtain⟨_,l,d,hd⟩:=a1d hs;exact b5O l fun z hz=>j z ((RE.same g).nul z|>.1 ((hd.nul z).2 hz))
 refine⟨c,fun a e b f=>?_,fun a e b f=>?_⟩
 ·have:=b1i hs c a e b f
  rw[show(if a=b then(1:Rat)else 0)=a3M a b from rfl,<-this];exact a0f fun k h=>by rw[g a e k h]
 ·have:=b5N hs c a e b f
  rw[show(if a=b then(1:Rat)else 0)=a3M a b from rfl,<-this];exact a0f fun k h=>by rw[g k h b f]
theorem Nul.congr{n c:Nat}{f f':F2}{x:Nat->Rat}(h:Nul n c f x)(e:Eqm n c f f'):Nul n c f' x:=((RE.same e).nul x).1 h
theorem a8l{x:Mat}{n c:Nat}(hs:Shp n c x)(g:(a0J x c).2.length<=4):¬a4x (a1K (pkL x (a0J x c).2) n (a0J x c).2.length) (a0J x c).2.length/\Inv (a0J x c).2.length (gr n (ent (pkL x (a0J x c).2))) (ent (a2y (a1K (pkL x (a0J x c).2) n (a0J x c).2.length) (a0J x c).2.length)):=by
 obtain⟨_,f,e,d⟩:=a1d hs;refine c0o g (a0F _ _ _) (a9g _ _ _) fun z hz a b=>?_;exact c0e f d ((a8W.1 hz).congr (b3E hs _)) a b
theorem b1k{x:Mat}{n c:Nat}(hs:Shp n c x):(a0J x c).2.length<=c:=by
 obtain⟨_,b,_⟩:=a1d hs;have a:(a0J x c).2.Nodup:=b.pw.imp fun h=>Nat.ne_of_lt h;have d:(a0J x c).2.length<=(List.range c).length:=a.length_le_of_subset fun j e=>by
  obtain⟨k,f,rfl⟩:=List.getElem_of_mem e;exact List.mem_range.2 (b.lt k f)
 rwa[List.length_range]at d
noncomputable def bU(u:Mat)(y:List Rat)(n m:Nat):List Rat:=a2s (a2y (a1K u n m) m) (a2s (trL u n m) y)
noncomputable def a7n(x:Mat)(y:List Rat)(n c:Nat):List Rat:=(List.range c).map (b4G (a0J x c).2 (fn (bU (pkL x (a0J x c).2) y n (a0J x c).2.length)))
theorem b3F{u:Mat}{y:List Rat}{n m:Nat}:(bU u y n m).length=m:=by
 unfold bU;rw[a3i];exact(a1W (a0F u n m)).1
theorem c0p{u:Mat}{y:List Rat}{n m:Nat}{a:Nat}(d:a<m):fn (bU u y n m) a=sm m fun b=>ent (a2y (a1K u n m) m) a b*gy n (ent u) (fn y) b:=by
 unfold bU fn;rw[a9R (a1W (a0F u n m)) a d];refine a0f fun b c=>?_;rw[a9R (a1y u n m) b c]
 congr 1
 exact a0f fun k e=>by rw[a8g u n m b c k e]
theorem b5P{x:Mat}{y:List Rat}{n c:Nat}(hs:Shp n c x)(o:c<=4):a7n x y n c=a0S x y n c:=by
 obtain⟨_,d,e,b⟩:=a1d hs;obtain⟨_,_,g,h⟩:=a4R (y:=y) hs;obtain⟨_,l⟩:=a8l hs (Nat.le_trans (b1k hs) o);have i:=(c0g l (fn y)).congr (b3E hs _) (fun _ _=>rfl) (fun a m=>(c0p (u:=pkL x (a0J x c).2) (y:=y) (n:=n) m).symm);have k:=c0f d b i;refine a6U (n:=c) (by simp[a7n]) (a2Z _ _ _ _) fun j f=>?_;have e1:(a7n x y n c).getD j 0=b4G (a0J x c).2 (fn (bU (pkL x (a0J x c).2) y n (a0J x c).2.length)) j:=by
  simp[a7n,List.getD_eq_getElem?_getD,f]
 rw[e1];exact c0b d b k g (fun j _ p=>a5q _ p) h j f
noncomputable def a3n(u:Mat)(n m:Nat):List Rat:=u.map fun r=>a1Z r (a2s (a2y (a1K u n m) m) r)
theorem a4s(u:Mat)(n m:Nat):(a3n u n m).length=u.length:=by simp[a3n]
theorem a9h{u:Mat}{n m i:Nat}(hi:i<u.length)(h:i<(a3n u n m).length):(a3n u n m)[i]=a1Z u[i] (a2s (a2y (a1K u n m) m) u[i]):=by simp[a3n]
theorem b1l{u:Mat}{n m:Nat}(hs:Shp n m u){i:Nat}(hi:i<n):fn (a3n u n m) i=hat m (ent u) (ent (a2y (a1K u n m) m)) i i:=by
 have b:i<u.length:=by rw[hs.1];exact hi
 have c:i<(a3n u n m).length:=by rw[a4s];exact b
 have e1:fn (a3n u n m) i=(a3n u n m)[i]:=by simp[fn,List.getD_eq_getElem?_getD,c]
 rw[e1,a9h b c,a6W (hs.2 _ (List.getElem_mem b)),a9Z b];refine a0f fun a d=>?_;rw[a9R (a1W (a0F u n m)) a d];rfl
theorem a9i{u:Mat}{n:Nat}(hs:Shp n 0 u):a3n u n 0=List.replicate n 0:=by
 refine a6U (n:=n) (by rw[a4s];exact hs.1) List.length_replicate fun i hi=>?_;have:=b1l hs hi;unfold fn at this;rw[this,List.getD_eq_getElem?_getD,List.getElem?_replicate,if_pos hi];rfl
theorem b3G{x:Mat}{y b:List Rat}{n c:Nat}(hs:Shp n c x)(a:y.length=n):a1Z (a2q x y b) (a2q x y b)=sm n fun r=>(fn y r - app c (ent x) (fn b) r)*(fn y r - app c (ent x) (fn b) r):=by
 rw[a4S (n:=n) (by rw[a2P (by rw[a,hs.1]),hs.1])];exact a0f fun r d=>by rw[b1j hs a d]
theorem b3H{x:Mat}{y:List Rat}{n c:Nat}(hs:Shp n c x)(a:y.length=n)(b:List Rat):a1Z (a2q x y (a0S x y n c)) (a2q x y (a0S x y n c))<=a1Z (a2q x y b) (a2q x y b):=by
 obtain⟨_,_,d,_⟩:=a4R (y:=y) hs;rw[b3G hs a,b3G hs a];exact b5G d _
theorem b8E{x:Mat}{y:List Rat}{n c:Nat}(hs:Shp n c x)(a:y.length=n):a1Z (a2q x y (a0S x y n c)) (a2q x y (a0S x y n c))=a1Z y y - a1Z (a0S x y n c) (gyL x y n c):=by
 obtain⟨_,_,b,_⟩:=a4R (y:=y) hs;rw[b3G hs a,c0c b,a4S a,a4S (a2Z x y n c)]
 congr 1
 exact a0f fun j d=>by rw[show fn (gyL x y n c) j=_ from a8k x y n c d]
structure Mom where
 n:Int
 xx:Mat
 xy:List Rat
 yy:Rat
def shM(m:Mom)(row:List Rat)(v:Rat)(s:Int):Mom:=
 ⟨m.n+s,ofF row.length row.length fun j k=>ent m.xx j k+(s:Rat)*fn row j*fn row k,(List.range row.length).map fun j=>fn m.xy j+(s:Rat)*fn row j*v,m.yy+(s:Rat)*(v*v)⟩
def gmM(x:Mat)(y:List Rat)(c i:Nat):Mom:=⟨(i:Int),gmL x i c,gyL x y i c,sm i fun r=>fn y r*fn y r⟩
theorem a3a{α:Type}{c:Nat}{f g:Nat->α}(h:∀j,j<c->f j=g j):(List.range c).map f=(List.range c).map g:=
 List.map_congr_left fun j a=>h j (List.mem_range.1 a)
theorem b3I{n c:Nat}{f g:F2}(h:Eqm n c f g):ofF n c f=ofF n c g:=
 a3a fun i hi=>a3a fun j a=>h i hi j a
theorem b5Q(x:Mat)(y:List Rat)(c:Nat):gmM x y c 0=⟨0,List.replicate c (List.replicate c 0),List.replicate c 0,0⟩:=by
 have e:∀(α:Type) (a:α),(List.range c).map (fun _=>a)=List.replicate c a:=fun α a=>by simp[List.map_const']
 unfold gmM gmL gyL ofF
 congr 1
 ·rw[<-e,<-e];rfl
 ·rw[<-e];rfl
theorem b5R{x:Mat}{y:List Rat}{n c i:Nat}(hs:Shp n c x)(hi:i<n):shM (gmM x y c i) (x.getD i []) (y.getD i 0) 1=gmM x y c (i+1):=by
 have d:(x.getD i []).length=c:=hs.row hi;have one:((1:Int):Rat)=1:=rfl;unfold shM gmM;rw[d]
 congr 1
 ·exact b3I fun j a k b=>by
   show ent (gmL x i c) j k+_=gr (i+1) (ent x) j k
   rw[a6V x i c j a k b]
   show gr i (ent x) j k+((1:Int):Rat)*ent x i j*ent x i k=gr i (ent x) j k+ent x i j*ent x i k
   rw[one];grind
 ·exact a3a fun j a=>by
   show(gyL x y i c).getD j 0+_=gy (i+1) (ent x) (fn y) j
   rw[a8k x y i c a]
   show gy i (ent x) (fn y) j+((1:Int):Rat)*ent x i j*fn y i=gy i (ent x) (fn y) j+ent x i j*fn y i
   rw[one];grind
 ·show sm i (fun r=>fn y r*fn y r)+((1:Int):Rat)*(fn y i*fn y i)=_
  rw[one]
  show _=sm i (fun r=>fn y r*fn y r)+fn y i*fn y i
  grind
def atI(s:List Int)(j:Nat):Nat:=(s.getD j 0).toNat
theorem a6X{s:List Int}{j:Nat}(h:j<s.length):atI s j=s[j].toNat:=by simp[atI,List.getD_eq_getElem?_getD,h]
theorem a3w{x:Mat}{n c:Nat}(hs:Shp n c x)(s:List Int):Shp n s.length (a1f x s):=
 ⟨by rw[a3t];exact hs.1,fun r a=>by obtain⟨q,_,rfl⟩:=List.mem_map.1 a;exact a4i _ _⟩
theorem a9j{x:Mat}{n c:Nat}(hs:Shp n c x)(s:List Int):Eqm n s.length (ent (a1f x s)) fun i j=>ent x i (atI s j):=fun i hi j b=>by
 have a:i<x.length:=by rw[hs.1];exact hi
 simp[ent,a1f,a3e,atI,List.getD_eq_getElem?_getD,a,b]
theorem b8F{x:Mat}{n c:Nat}(hs:Shp n c x){s:List Int}(l:∀v∈s,0<=v/\v<(c:Int)):a1f (a3d (gmL x n c) s) s=gmL (a1f x s) n s.length:=by
 have e:=a9j hs s;have hat:∀j,j<s.length->atI s j<c:=fun j a=>by
  have:=l s[j] (List.getElem_mem _);rw[a6X a];omega
 refine List.ext_getElem (by simp[a1f,a3d,gmL,ofF]) fun i d m=>?_;have hi:i<s.length:=by simpa[a1f,a3d]using d
 refine List.ext_getElem (by simp[a1f,a3e,gmL,ofF]) fun j f o=>?_;have a:j<s.length:=by simpa[a1f,a3e]using f
 have g:=a6V x n c (atI s i) (hat i hi) (atI s j) (hat j a);have h:(a1f (a3d (gmL x n c) s) s)[i][j]=ent (gmL x n c) (atI s i) (atI s j):=by
  rw[a6X hi,a6X a];simp[a1f,a3d,a3e,ent]
 have k:(gmL (a1f x s) n s.length)[i][j]=gr n (ent (a1f x s)) i j:=by simp[gmL,ofF]
 rw[h,k,g];exact a0f fun r b=>by rw[e r b i hi,e r b j a]
theorem b8G{x:Mat}{y:List Rat}{n c:Nat}(hs:Shp n c x){s:List Int}(g:∀v∈s,0<=v/\v<(c:Int)):a3e (gyL x y n c) s=gyL (a1f x s) y n s.length:=by
 have e:=a9j hs s;refine List.ext_getElem (by simp[a3e,gyL]) fun i a j=>?_;have hi:i<s.length:=by simpa[a3e]using a
 have hat:atI s i<c:=by
  have:=g s[i] (List.getElem_mem _);rw[a6X hi];omega
 have b:=a8k x y n c hat;have d:(a3e (gyL x y n c) s)[i]=(gyL x y n c).getD (atI s i) 0:=by rw[a6X hi];simp[a3e]
 have f:(gyL (a1f x s) y n s.length)[i]=gy n (ent (a1f x s)) (fn y) i:=by simp[gyL]
 rw[d,f,b];exact a0f fun r h=>by rw[e r h i hi]
noncomputable def a6j(x:Mat)(y:List Rat)(n:Nat)(s:List Int):Rat:=a1Z (a2q (a1f x s) y (a0S (a1f x s) y n s.length)) (a2q (a1f x s) y (a0S (a1f x s) y n s.length))
theorem b1m{x:Mat}{y:List Rat}{n c:Nat}(hs:Shp n c x)(a:y.length=n)(s:List Int):a6j x y n s=a1Z y y - a1Z (a0S (a1f x s) y n s.length) (gyL (a1f x s) y n s.length):=b8E (a3w hs s) a
end Go.Lin
namespace Go.Lim
def a1P:Nat->Nat->Int->List (List Int)
 |_,0,_=>[[]]
 |0,_+1,_=>[]
 |m+1,h+1,lo=>(a1P m h (lo+1)).map (lo:: ·)++a1P m (h+1) (lo+1)
theorem a3j:∀(m h:Nat) (lo:Int),(a1P m h lo).length=ch m h
 |m,0,lo=>by rw[a3Y];cases m<;>rfl
 |0,h+1,lo=>rfl
 |m+1,h+1,lo=>by rw[a1P,ch,List.length_append,List.length_map,a3j m h,a3j m (h+1)]
def up(lo:Int):Nat->List Int
 |0=>[]
 |k+1=>lo::up (lo+1) k
theorem a5Q(m:Nat)(lo:Int):a1P m 0 lo= [[]]:=by cases m<;>rfl
theorem a6Y:∀(m h:Nat) (lo:Int) (l:List Int),l∈a1P m h lo->l.length=h/\(∀x∈l,lo<=x/\x<lo+m)/\l.Pairwise (· < ·)
 |m,0,lo,l,hl=>by
  rw[a5Q,List.mem_singleton]at hl;subst hl;simp
 |0,h+1,lo,l,hl=>by simp[a1P]at hl
 |m+1,h+1,lo,l,hl=>by
  rw[a1P,List.mem_append,List.mem_map]at hl;rcases hl with⟨r,hr,rfl⟩|hl
  ·obtain⟨h1,h2,h3⟩:=a6Y m h (lo+1) r hr
   refine⟨by simp[h1],fun x hx=>?_,List.pairwise_cons.2 ⟨fun x hx=>?_,h3⟩⟩
   ·rcases List.mem_cons.1 hx with rfl|hx
    ·omega
    ·have:=h2 x hx;omega
   ·have:=h2 x hx;omega
  ·obtain⟨h1,h2,h3⟩:=a6Y m (h+1) (lo+1) l hl
   exact⟨h1,fun x hx=>by have:=h2 x hx;omega,h3⟩
end Go.Lim
namespace Go.Lin
open Go.Lim Go.Rep
def Bd(c:Nat)(z:Mat)(cnt:Nat)(x:Vec):Prop:=∀l,a4w c (onL c x (a5o z)) l->cnt<=a9P c x (a5o z)+l
theorem Bd.le{c a n:Nat}{z:Mat}{x:Vec}(h:Bd c z a x)(d:n<=a):Bd c z n x:=fun l b=>Nat.le_trans d (h l b)
theorem Bd.congr{c a:Nat}{z:Mat}{x y:Vec}(h:Bd c z a x)(e:∀j,j<c->x j=y j):Bd c z a y:=fun l f=>by
 obtain⟨b,d,_⟩:=b3k e (a5o z);have:=h l (by rw[d];exact f);rwa[b]at this
section
variable {n c:Nat} {z:Mat} (hs:Shp n c z)
include hs
end
theorem b8t.le{c a:Nat}{z b:Mat}(h:b8t c z a b):a<=z.length+1:=by
 rcases h with⟨rfl,_⟩|h
 ·exact Nat.le_refl _
 ·have:a=b1Q c (a5o b) (a5o z):=h.cnt.symm
  rw[this];have:=List.countP_le_length (p:=fun v=>a6O c (a5o b) v) (l:=a5o z);unfold b1Q;simp[a5o]at this |-;omega
end Go.Lin
namespace Go.Lin
open Go.Lim
open Go.Rep
def b7f(x:Mat)(y:List Rat):Bool:=decide (1<=x.length/\x.length<=64/\y.length=x.length)&&a6M x 1 12
end Go.Lin
namespace Go.Proofs.YtgbbpgflopajaaaGreat
open Go.RowKit Go.Rep Go.Lim Go.Lin
theorem a6Z(X:Nat->Bool)(w:World)(u v:Value)(x:Mat)(y:List Rat)(z:MV (mk X w) u x)(B:RV (mk X w) v y)(h:x.length<=1099511627776)(_hyl:y.length<=1099511627776):Calls Tryz.prog 114 #[u,v] w (fun e w'=>w'=w/\e= .returned (.bool (b7f x y))):=by
 have d:=b3e X w u x 1 12 z h;obtain⟨C,D,rfl,k,l⟩:=z;obtain⟨E,F,rfl,o,p⟩:=B;have hd:b7f x y=(decide (1<=x.length/\x.length<=64/\y.length=x.length)&&a6M x 1 12):=rfl;obtain⟨b,s⟩:∃b,a6M x 1 12=b:=⟨_,rfl⟩;obtain⟨r,t⟩:∃r,b7f x y=r:=⟨_,rfl⟩;rw[s]at d hd;rw[t]at hd |-;obtain⟨n,j⟩:∃n,x.length=n:=⟨_,rfl⟩;obtain⟨m,i⟩:∃m,y.length=m:=⟨_,rfl⟩;rw[j,i]at hd;rw[j]at d h |-;rw[i]at _hyl |-;have c:=hid hd;clear j i s t l p k o hd;by_cases q:1<=n
 ·by_cases f:n<=64
  ·by_cases a:m=n
   ·have A:b=r:=by rw[c.out];simp[q,f,a]
    have e1:((m:Int)==(n:Int))=true:=by rw[a];simp
    clear a;go_enter Tryz.func114,Tryz.ntmps114
    go_wp2_with fail
    refine d.mono ?_;rintro e G ⟨rfl,rfl⟩;go_wp2_with fail
    go_ret
    exact⟨rfl,rfl⟩
   ·have g:r=false:=by rw[c.out];simp[a]
    have e1:((m:Int)==(n:Int))=false:=a2H (by omega);clear a;subst g;go_enter Tryz.func114,Tryz.ntmps114
    go_wp2_with fail
    go_ret
    exact⟨rfl,rfl⟩
  ·have g:r=false:=by rw[c.out];simp[f]
   subst g;go_enter Tryz.func114,Tryz.ntmps114
   go_wp2_with fail
   go_ret
   exact⟨rfl,rfl⟩
 ·have g:r=false:=by rw[c.out];simp[q]
  subst g;go_enter Tryz.func114,Tryz.ntmps114
  go_wp2_with fail
  go_ret
  exact⟨rfl,rfl⟩
end Go.Proofs.YtgbbpgflopajaaaGreat
namespace Go.Rep
open Go.RowKit Go.Lim
def BlR:Mem->Value->Bool->Prop:=fun _ u b=>u= .bool b
theorem BlR.mono:a3R BlR:=fun _ _ _ _ _ h=>h
theorem BlR.elem:Elem BlR 1:=⟨fun _ _ _ _ _ h=>h,by rintro h u x rfl;rfl,by
 rintro h u x rfl c a;simp[a0j,Value.cells]at a;subst a;rfl,Nat.one_pos⟩
theorem BlR.one:a3B BlR:=by rintro h u x rfl;rfl
theorem Sl.bl{h:Mem}{ao:Option Addr}{l:List Bool}(s:Sl BlR 1 h ao l)(i:Nat)(hi:i<l.length):h (adr ao i)=some (.bool l[i]):=by
 obtain⟨u,a,rfl⟩:=s.cell BlR.one i hi;exact a
def usedL(p:List Nat)(c:Nat):List Bool:=(List.range c).map fun j=>decide (j∈p)
theorem a2e(p:List Nat)(c:Nat):(usedL p c).length=c:=by simp[usedL]
theorem a7F(p:List Nat)(c:Nat):usedL p (c+1)=usedL p c++[decide (c∈p)]:=by simp[usedL,List.range_succ]
def b9v(A:Mem->Value->List (List Rat)->Prop)(B:Mem->Value->List Rat->Prop)(C:Mem->Value->Rat->Prop)(h:Mem)(u:Value)(m:Go.Lin.Mom):Prop:=
 ∃xo xl xc yo yl yc s a n c d k e,u= .agg #[.int .i64 m.n, .slice xo xl xc, .slice yo yl yc, .bool s, .slice a n c, .slice d k e]/\A h (.slice xo xl xc) m.xx/\B h (.slice yo yl yc) m.xy/\C h (.agg #[.bool s, .slice a n c, .slice d k e]) m.yy
def b3J:=b9v MV RV QV
def a5G:=b9v MC RC QC
theorem b9v.mono{A:Mem->Value->List (List Rat)->Prop}{B:Mem->Value->List Rat->Prop}{C:Mem->Value->Rat->Prop}(j:a3R A)(l:a3R B)(o:a3R C):a3R (b9v A B C):=by
 rintro h x u m b ⟨r,q,p,w,v,t,s,a,n,c,d,k,e,rfl,f,g,i⟩;exact⟨r,q,p,w,v,t,s,a,n,c,d,k,e,rfl,j _ _ _ _ b f,l _ _ _ _ b g,o _ _ _ _ b i⟩
theorem b3J.mono:a3R b3J:=b9v.mono MV.mono RV.mono QV.mono
theorem a5G.mono:a3R a5G:=b9v.mono MC.mono RC.mono QC.mono
def BMo(B:Nat)(m:Go.Lin.Mom):Prop:=BM B m.xx/\BR B m.xy/\hq m.yy<=B
theorem a5G.mv{h:Mem}{u:Value}{m:Go.Lin.Mom}(s:a5G h u m)(b:BMo 68719476736 m):b3J h u m:=by
 obtain⟨o,l,j,r,q,p,s,a,n,c,d,k,e,rfl,f,g,i⟩:=s;exact⟨o,l,j,r,q,p,s,a,n,c,d,k,e,rfl,f.mv b.1,g.rv b.2.1,i.qv b.2.2⟩
end Go.Rep
namespace Go.Lin
structure Fit where
 rank:Nat
 used:List Bool
 coef:List Rat
 res:List Rat
 rss:Rat
 lev:List Rat
end Go.Lin
namespace Go.Rep
def b1W(h:Mem)(v:Value)(f:Go.Lin.Fit):Prop:=
 ∃uo uc co cl cc ro rl rc s a n c d k e lo ll lc,v= .agg #[.int .i64 (f.rank:Int), .slice uo f.used.length uc, .slice co cl cc, .slice ro rl rc, .bool s, .slice a n c, .slice d k e, .slice lo ll lc]/\f.used.length<=uc/\Sl BlR 1 h uo f.used/\RC h (.slice co cl cc) f.coef/\RC h (.slice ro rl rc) f.res/\QC h (.agg #[.bool s, .slice a n c, .slice d k e]) f.rss/\RC h (.slice lo ll lc) f.lev
theorem b1W.mono:a3R b1W:=by
 rintro h A u f b ⟨z,y,co,i,g,x,w,v,s,a,n,c,d,k,e,lo,t,r,rfl,j,l,m,o,p,q⟩;exact⟨z,y,co,i,g,x,w,v,s,a,n,c,d,k,e,lo,t,r,rfl,j,l.mono BlR.mono b,RC.mono _ _ _ _ b m,RC.mono _ _ _ _ b o,QC.mono _ _ _ _ b p,RC.mono _ _ _ _ b q⟩
open Go.RowKit Go.Lim
theorem a0I{X:Nat->Bool}{w w':World}{g:Nat}(b:Ext w w')(c:w.heap.size<=g):Le (mk X w) (mk (un X (some ⟨g,0,none⟩)) w'):=
 a1i b (fun k _ a=>by simp[noY]at a) fun k a hz=>by
  by_cases hx:X k=true
  ·exact hx
  ·have:g=k:=by simpa[un,hx,ob]using hz
   omega
theorem a1e{X:Nat->Bool}{w:World}{g:Nat}(a:HX X w)(c:g<w.heap.size):HX (un X (some ⟨g,0,none⟩)) w:=fun k b=>by
 by_cases hx:X k=true
 ·exact a k hx
 ·have:g=k:=by simpa[un,hx,ob]using b
  omega
section
variable {P:Program} {ops:Array Oper} {Q:Exit->Act->World->Prop} {rest:List Oper} {a:Act} {w:World}
variable {d:Option Tmp} {ty:TypeId} {ps:String} {af:Array Edge}
theorem a0q{o:Oper}{K:Act->World->Prop}{E:Prop}{t:TypeId}{x y:Operand}{n b:Nat}{h d:Array Value}{T:TypeId}(p:o.guard=none)(f:o.op= .store t x y)(l:a1F P t n)(hx:a.eval x= .pointer (some ⟨b,0,none⟩))(s:a.eval y= .agg d)(m:Bx w b h T)(e:h.size=n)(g:d.size=n)(c:∀v∈d.toList,v.oneCell'=true)(k:∀w',Bx w' b d T->ExtX (ob (some ⟨b,0,none⟩)) w w'->K (a.put o.dst undef) w'):if Region.wanted o (yielded ops a.tmps)=true then Oper.wp P o a w K Q else E:=by
 have r:Region.wanted o (yielded ops a.tmps)=true:=by simp[Region.wanted,p]
 rw[if_pos r];obtain⟨w',q,i,j⟩:=a6b (P:=P) l m e g c;unfold Oper.wp execOp;rw[f];simp[hx,s,Instr.storeAt,Instr.sureAddr,q,Result.andThen];exact k w' i j
theorem a1M{t:TypeId}{x y:Operand}{b i:Nat}{e:Array Value}{v:Value}{T:TypeId}(m:TyI P t 1)(hx:a.eval x= .pointer (some ⟨b,i,none⟩))(r:a.eval y=v)(q:v.cells=#[v])(c:v.oneCell'=true)(g:Bx w b e T)(hi:i<e.size)(K:∀w',Bx w' b (e.set i v) T->ExtX (ob (some ⟨b,0,none⟩)) w w'->wpList P ops Q rest (a.put d undef) w'):wpList P ops Q (⟨d, .store t x y,ty,ps,af,none⟩::rest) a w:=by
 refine wpList_plain rfl fun s f=>?_;obtain⟨z,p,j⟩:=m;obtain⟨k,l⟩:=a0P g v hi;have n:=g.cell i (u:=e[i]) (by simp[hi]);have o:=g.frozen i;unfold Oper.wp;subst r;have h:=run_store P w ⟨b,i,none⟩ (a.eval y) .plain c;rw[n,o]at h;simp only[Bool.false_eq_true,if_false]at h;simp[execOp,hx,Instr.storeAt,Instr.sureAddr,storeVar,sizeOf,typeInfo,p,j,q,Result.andThen,storeCells,Addr.add_zero',h];exact f _ _ (K _ k l)
theorem a1p{o:Oper}{K:Act->World->Prop}{E:Prop}{t:TypeId}{x y:Operand}{b i:Nat}{d:Array Value}{v:Value}{T:TypeId}(q:o.guard=none)(f:o.op= .store t x y)(m:TyI P t 1)(hx:a.eval x= .pointer (some ⟨b,i,none⟩))(A:a.eval y=v)(s:v.cells=#[v])(c:v.oneCell'=true)(e:Bx w b d T)(hi:i<d.size)(l:∀w',Bx w' b (d.set i v) T->ExtX (ob (some ⟨b,0,none⟩)) w w'->K (a.put o.dst undef) w'):if Region.wanted o (yielded ops a.tmps)=true then Oper.wp P o a w K Q else E:=by
 have z:Region.wanted o (yielded ops a.tmps)=true:=by simp[Region.wanted,q]
 rw[if_pos z];obtain⟨B,r,h⟩:=m;obtain⟨j,k⟩:=a0P e v hi;have n:=e.cell i (u:=d[i]) (by simp[hi]);have p:=e.frozen i;unfold Oper.wp execOp;rw[f];subst A;have g:=run_store P w ⟨b,i,none⟩ (a.eval y) .plain c;rw[n,p]at g;simp only[Bool.false_eq_true,if_false]at g;simp[hx,Instr.storeAt,Instr.sureAddr,storeVar,sizeOf,typeInfo,r,h,s,Result.andThen,storeCells,Addr.add_zero',g];exact l _ j k
theorem b5S{X Z:Nat->Bool}{w w':World}(a:Ext w w')(h:∀k,k<w.heap.size->Z k=true->X k=true):Le (mk X w) (mk Z w'):=
 a1i a (fun k _ b=>by simp[noY]at b) h
theorem a2c{X Y Z:Nat->Bool}{w w':World}(b:ExtX Y w w')(d:∀k,Y k=true->Z k=true)(c:∀k,X k=true->Z k=true):Le (mk Z w) (mk X w'):=fun a u h=>a1v (fun k _ e=>c k e) a u (a0v b d a u h)
theorem a0Y(X:Nat->Bool)(a b:Option Addr):un (un X a) b=un (un X b) a:=by
 funext k;simp only[un];cases X k<;>cases ob a k<;>cases ob b k<;>rfl
theorem a3g{X:Nat->Bool}{w:World}{ao:Option Addr}(a:HX X w)(h:∀k,ob ao k=true->k<w.heap.size):HX (un X ao) w:=fun k b=>by
 by_cases hx:X k=true
 ·exact a k hx
 ·exact h k (by simpa[un,hx]using b)
theorem a8m(X:Nat->Bool):un X none=X:=by funext k;simp[un,ob]
end
theorem c1s(n:Int)(g j ao b:Option Addr)(f d i h l c k e:Nat)(s:Bool):∀v∈(#[Value.int .i64 n, .slice g f d, .slice j i h, .bool s, .slice ao l c, .slice b k e]:Array Value).toList,v.oneCell'=true:=by
 intro v a;simp at a;rcases a with rfl|rfl|rfl|rfl|rfl|rfl<;>rfl
end Go.Rep
namespace Go.Proofs.YtgbbpgflopajaaaGreat
open Go.RowKit Go.Rep
theorem a3N:a1F Tryz.prog 202 6:=by
 have h:(Tryz.prog.info? 202).map (fun i=>(i.zero,i.size,i.bytes))=some (some (.agg #[.int .i64 0, .slice none 0 0, .slice none 0 0, .bool false, .slice none 0 0, .slice none 0 0]),6,112):=by kernel_rfl
 obtain⟨c,a,_,b,_⟩:=info_parts h;exact⟨_,c,Tryz.underlying202,a,b⟩
theorem b8H:(Tryz.prog.info? 25).map (fun i=>(i.zero,i.size,i.bytes))=some (some (.slice none 0 0),1,24):=by kernel_rfl
theorem a9k:TyI Tryz.prog 25 1:=let ⟨i,h,_,a,_⟩:=info_parts b8H;⟨i,h,a⟩
theorem b8I:(Tryz.prog.info? 53).map (fun i=>(i.zero,i.size,i.bytes))=some (some (.slice none 0 0),1,24):=by kernel_rfl
theorem c0q:TyI Tryz.prog 53 1:=let ⟨i,h,_,a,_⟩:=info_parts b8I;⟨i,h,a⟩
theorem a4n:a1F Tryz.prog 83 8:=by
 have h:(Tryz.prog.info? 83).map (fun i=>(i.zero,i.size,i.bytes))=some (some (.agg #[.int .i64 0, .slice none 0 0, .slice none 0 0, .slice none 0 0, .bool false, .slice none 0 0, .slice none 0 0, .slice none 0 0]),8,160):=by kernel_rfl
 obtain⟨c,a,_,b,_⟩:=info_parts h;exact⟨_,c,Tryz.underlying83,a,b⟩
end Go.Proofs.YtgbbpgflopajaaaGreat
namespace Go.Rep
open Go.RowKit Go.Lim
abbrev b0b(X:Nat->Bool)(fb:Nat):Nat->Bool:=un X (some ⟨fb,0,none⟩)
abbrev a7a(X:Nat->Bool)(fb:Nat)(po oo:Option Addr):Nat->Bool:=un (un (b0b X fb) po) oo
structure RS (X:Nat->Bool) (w0:World) (b fb base:Nat) (T1 T2 T3:TypeId) (w:World) (oo:Option Addr) (co:Nat) (po:Option Addr) (pc:Nat) (M:List (List Rat)) (p:List Nat) (f:Rat):Prop where
 rows:OL RC 1 (un (b0b X fb) po) base T1 w oo co M
 piv:OL (a0c .i64) 1 (un (b0b X fb) oo) base T3 w po pc p
 fac:∃s a n c d k e,Bx w fb #[.bool s, .slice a n c, .slice d k e] T2/\QC (mk (a7a X fb po oo) w) (.agg #[.bool s, .slice a n c, .slice d k e]) f
 hx:HX X w
 res:Bx w b #[.bool false, .slice none 0 0, .slice none 0 0] T2
 rb:X b=true
 fb0:fb≠b
 ext:Ext w0 w
 low:w0.heap.size<=base
 lowf:w0.heap.size<=fb
section
variable {X:Nat->Bool} {w0 w w':World} {b fb base:Nat} {T1 T2 T3:TypeId} {oo po:Option Addr} {co pc:Nat} {M M':List (List Rat)} {p:List Nat} {f f':Rat}
theorem RS.oF(h:RS X w0 b fb base T1 T2 T3 w oo co po pc M p f):ob oo fb=false:=by
 cases a:ob oo fb
 ·rfl
 ·have:=h.rows.1 fb a;rw[a0i (a0r (a9J fb))]at this;simp at this
theorem RS.pF(h:RS X w0 b fb base T1 T2 T3 w oo co po pc M p f):ob po fb=false:=by
 cases a:ob po fb
 ·rfl
 ·have:=h.piv.1 fb a;rw[a0i (a0r (a9J fb))]at this;simp at this
theorem RS.oB(h:RS X w0 b fb base T1 T2 T3 w oo co po pc M p f):ob oo b=false:=by
 cases a:ob oo b
 ·rfl
 ·have:=h.rows.1 b a;rw[a0i (a0i h.rb)]at this;simp at this
theorem RS.pB(h:RS X w0 b fb base T1 T2 T3 w oo co po pc M p f):ob po b=false:=by
 cases a:ob po b
 ·rfl
 ·have:=h.piv.1 b a;rw[a0i (a0i h.rb)]at this;simp at this
theorem RS.po_oo(h:RS X w0 b fb base T1 T2 T3 w oo co po pc M p f)(k:Nat)(a:ob po k=true):ob oo k=false:=(a1a (h.piv.1 k a)).2
theorem RS.flt(h:RS X w0 b fb base T1 T2 T3 w oo co po pc M p f):fb<w.heap.size:=by
 obtain⟨_,_,_,_,_,_,_,a,_⟩:=h.fac;exact a.lt
theorem RS.hz(h:RS X w0 b fb base T1 T2 T3 w oo co po pc M p f):HX (a7a X fb po oo) w:=fun k l=>by
 by_cases e:ob oo k=true
 ·exact(h.rows.block e).2
 ·by_cases g:ob po k=true
  ·exact(h.piv.block g).2
  ·by_cases i:X k=true
   ·exact h.hx k i
   ·have a:ob oo k=false:=by simpa using e
    have c:ob po k=false:=by simpa using g
    have d:X k=false:=by simpa using i
    have j:ob (some ⟨fb,0,none⟩) k=true:=by simpa[a7a,b0b,un,a,c,d]using l
    have:fb=k:=by simpa[ob]using j
    rw[<-this];exact h.flt
theorem RS.row(h:RS X w0 b fb base T1 T2 T3 w oo co po pc M p f)(i:Nat)(hi:i<M.length):∃a c,w.cell? (adr oo i)=some (.slice a M[i].length c)/\w.frozen? (adr oo i)=false/\M[i].length<=c/\Sl QC 3 (_root_.Go.Rep.mk (a7a X fb po oo) w) a M[i]:=by
 obtain⟨u,d,e,a,c,rfl,g,j⟩:=h.rows.cell SlV.one i hi;exact⟨a,c,d,e,g,j⟩
theorem RS.ext0(h:RS X w0 b fb base T1 T2 T3 w oo co po pc M p f)(g:Ext w w'):RS X w0 b fb base T1 T2 T3 w' oo co po pc M p f:=by
 obtain⟨s,a,n,c,d,k,e,i,j⟩:=h.fac;exact⟨h.rows.ext0 RC.elem g,h.piv.ext0 (a0c.elem _) g,⟨s,a,n,c,d,k,e,i.ext0 g,mkx QC.mono j g⟩,h.hx.ext g,h.res.ext0 g,h.rb,h.fb0,h.ext.trans g,h.low,h.lowf⟩
theorem RS.setRows(h:RS X w0 b fb base T1 T2 T3 w oo co po pc M p f)(g:ExtX (ob oo) w w')(m:OL RC 1 (un (b0b X fb) po) base T1 w' oo co M'):RS X w0 b fb base T1 T2 T3 w' oo co po pc M' p f:=by
 obtain⟨s,a,n,c,d,k,e,j,l⟩:=h.fac;exact⟨m,h.piv.frame (a0c.pure _) g (fun k i=>h.po_oo k i) h.piv.1,⟨s,a,n,c,d,k,e,j.ext g h.oF,QC.mono _ _ _ _ (a0v g fun k i=>a0r i) l⟩,h.hx.ext g,h.res.ext g h.oB,h.rb,h.fb0,h.ext.own h.rows h.low g,h.low,h.lowf⟩
theorem RS.setFac(h:RS X w0 b fb base T1 T2 T3 w oo co po pc M p f)(i:ExtX (ob (some ⟨fb,0,none⟩)) w w'){s:Bool}{a:Option Addr}{n c:Nat}{d:Option Addr}{k e:Nat}(m:Bx w' fb #[.bool s, .slice a n c, .slice d k e] T2)(hq:QC (_root_.Go.Rep.mk (a7a X fb po oo) w') (.agg #[.bool s, .slice a n c, .slice d k e]) f'):RS X w0 b fb base T1 T2 T3 w' oo co po pc M p f':=by
 have l:∀k,ob (some ⟨fb,0,none⟩) k=true->k=fb:=fun k g=>by
  have:fb=k:=by simpa[ob]using g
  exact this.symm
 refine⟨h.rows.ext RC.elem i (fun k _ g=>a0i (a0r g)) (fun _ _ h=>h),h.piv.frame (a0c.pure _) i (fun k g=>?_) h.piv.1,⟨s,a,n,c,d,k,e,m,hq⟩,h.hx.ext i,h.res.ext i (a0b (Ne.symm h.fb0)),h.rb,h.fb0,h.ext.then_ i fun k g _=>?_,h.low,h.lowf⟩
 ·cases j:ob (some ⟨fb,0,none⟩) k
  ·rfl
  ·have:=l k j;subst this;rw[h.pF]at g;simp at g
 ·cases j:ob (some ⟨fb,0,none⟩) k
  ·rfl
  ·have:=l k j;have:=h.lowf;omega
theorem RS.push(h:RS X w0 b fb base T1 T2 T3 w oo co po pc M p f){i:Option Addr}{q j:Nat}(m:ExtX (ob po) w w')(y:OL (a0c .i64) 1 (un (b0b X fb) oo) base T3 w' i q (p++[j]))(r:i=po\/∃g,i=some ⟨g,0,none⟩/\w.heap.size<=g):RS X w0 b fb base T1 T2 T3 w' oo co i q M (p++[j]) f:=by
 obtain⟨s,a,n,c,d,k,e,v,x⟩:=h.fac;have o:∀k,k<w.heap.size->ob i k=true->ob po k=true:=fun k l t=>by
  rcases r with rfl|⟨g,rfl,z⟩
  ·exact t
  ·have:g=k:=by simpa[ob]using t
   omega
 have hF:∀k,k<w.heap.size->un (b0b X fb) i k=true->un (b0b X fb) po k=true:=fun k l hz=>by
  by_cases hx:b0b X fb k=true
  ·exact a0i hx
  ·exact a0r (o k l (by simpa[un,hx]using hz))
 refine⟨h.rows.ext RC.elem m (fun k _ l=>a0r l) hF,y,⟨s,a,n,c,d,k,e,v.ext m h.pF,QC.mono _ _ _ _ (a1i m (fun k _ l=>a0i (a0r l)) fun k l hz=>?_) x⟩,h.hx.ext m,h.res.ext m h.pB,h.rb,h.fb0,h.ext.own h.piv h.low m,h.low,h.lowf⟩;by_cases u:ob oo k=true
 ·exact a0r u
 ·exact a0i (hF k l (by simpa[un,u]using hz))
end
end Go.Rep
namespace Go.Lin
open Go.Lim
def a7o(m:Mat)(c:Nat):Prop:=∃B,6*B<=68719476736/\∀j,j<=c->HB B (rN m j).1/\hq (rN m j).2.2<=B
theorem b3K{n c:Nat}{m:Mat}(hs:Shp n c m)(k:Nat):(rN m k).2.1.length<=n:=(a6p hs k).ref.le
theorem b5T{n c B:Nat}{m:Mat}(hs:Shp n c m)(h:HB B m)(e:6*(6^n*B)<=68719476736):a7o m c:=
 ⟨6^n*B,e,fun j _=>by
  obtain⟨b,d⟩:=h.rN hs j;have a:6^(rN m j).2.1.length*B<=6^n*B:=Nat.mul_le_mul_right _ (Nat.pow_le_pow_right (by decide) (b3K hs j));exact⟨b.mono a,Nat.le_trans d a⟩⟩
theorem b3L(m:Mat)(k:Nat):rN m (k+1)=a6L (rN m k) k:=rfl
theorem a3x{m:Mat}{i:Nat}(h:i<m.length):m.getD i []=m[i]:=by simp[List.getD_eq_getElem?_getD,h]
theorem b0c{m:Mat}{i:Nat}(h:i<m.length)(j:Nat):ent m i j=(m[i]).getD j 0:=by unfold ent;rw[a3x h]
theorem b8J{m:Mat}{n t col:Nat}(b:m.length=n)(h:∀q,t<=q->q<n->ent m q col=0):b2W m t col=none:=by
 unfold b2W;rw[List.findIdx?_eq_none_iff];intro r a;obtain⟨i,hi,rfl⟩:=List.getElem_of_mem a;rw[List.length_drop]at hi;have:=h (t+i) (by omega) (by omega);rw[b0c (by omega)]at this;simpa using this
theorem b8K{m:Mat}{n t col a:Nat}(e:m.length=n)(h:∀q,t<=q->q<t+a->ent m q col=0)(c:t+a<n)(b:ent m (t+a) col≠0):b2W m t col=some a:=by
 unfold b2W;rw[List.findIdx?_eq_some_iff_getElem];refine⟨by rw[List.length_drop];omega,?_,fun j d=>?_⟩
 ·rw[List.getElem_drop,<-b0c (by omega)];simpa using b
 ·rw[List.getElem_drop,<-b0c (by omega)];simpa using h (t+j) (by omega) (by omega)
theorem b5U(m:Mat)(t col:Nat):out m t col 0=m:=by
 unfold out rows;refine List.ext_getElem (by simp) fun q a b=>?_;rw[List.getElem_mapIdx,if_neg (by omega)]
theorem a4T(m:Mat)(t col s:Nat):(out m t col s).length=m.length:=by simp[out,rows]
theorem a5R{m:Mat}{t col s i:Nat}(h:i<(out m t col s).length)(a:i<m.length):(out m t col s)[i]=if i≠t/\i<s then List.zipWith (· + ·) m[i] ((m.getD t []).map (· * - m[i].getD col 0))else m[i]:=by
 show(m.mapIdx _)[i]'(by simpa using a)=_
 rw[List.getElem_mapIdx]
theorem b8L{m:Mat}{t col s:Nat}(h:s<m.length)(c:s≠t):(out m t col s).set s (List.zipWith (· + ·) m[s] ((m.getD t []).map (· * - m[s].getD col 0)))=out m t col (s+1):=by
 refine List.ext_getElem (by simp[a4T]) fun q d b=>?_;have hq:q<m.length:=by rw[a4T]at b;exact b
 rw[List.getElem_set,a5R b hq];split
 ·subst_vars;rw[if_pos ⟨c,by omega⟩]
 ·rw[a5R (by simpa[a4T]using hq) hq]
  by_cases a:q≠t/\q<s
  ·rw[if_pos a,if_pos ⟨a.1,by omega⟩]
  ·rw[if_neg a,if_neg (by omega)]
theorem b5V{m:Mat}{t col:Nat}:out m t col t=out m t col (t+1):=by
 refine List.ext_getElem (by simp[a4T]) fun q c b=>?_;have hq:q<m.length:=by rw[a4T]at b;exact b
 rw[a5R c hq,a5R b hq];by_cases a:q≠t/\q<t
 ·rw[if_pos a,if_pos ⟨a.1,by omega⟩]
 ·rw[if_neg a,if_neg (by omega)]
theorem b3M{m:Mat}{i k:Nat}(hi:i<m.length)(a:k<m.length):(m.set i m[k]).set k m[i]=a1j m i k:=by
 unfold a1j;rw[a3x hi,a3x a]
theorem c0r{n c:Nat}{m M:Mat}{P:List Nat}{f:Rat}{j b a:Nat}(hs:Shp n c m)(d:rN m j=(M,P,f))(g:P.length=b)(hz:∀q,b<=q->q<b+a->ent M q j=0)(i:b+a<n)(e:ent M (b+a) j≠0):rN m (j+1)=(out (pv (a1j M (b+a) b) b j) b j n,P++[j],(if a=0 then f else - f)*ent (a1j M (b+a) b) b j):=by
 have h:Shp n c M:=by have:=(a6p hs j).shp;rw[d]at this;exact this
 subst g;rw[b3L,d];unfold a6L
 dsimp only
 rw[b8K h.1 hz i e]
 dsimp only
 rw[h.1]
theorem b8M{n c:Nat}{m M:Mat}{P:List Nat}{f:Rat}{j d:Nat}(hs:Shp n c m)(a:rN m j=(M,P,f))(b:P.length=d)(hz:∀q,d<=q->q<n->ent M q j=0):rN m (j+1)=(M,P,f):=by
 have e:Shp n c M:=by have:=(a6p hs j).shp;rw[a]at this;exact this
 subst b;rw[b3L,a];unfold a6L
 dsimp only
 rw[b8J e.1 hz]
end Go.Lin
namespace Go.Rep
open Go.RowKit
theorem b3N{X:Nat->Bool}{b k:Nat}(h:X b=true)(a:ob (some ⟨b,0,none⟩) k=true):X k=true:=by
 have:b=k:=by simpa[ob]using a
 subst this;exact h
section
variable {P:Program} {w:World}
theorem b0d{fn:Func}{a:Array Value}{c d e:Tmp}{t:TypeId}{n b:Nat}{f:Array Value}{T:TypeId}(h:fn.results=#[.tmp d, .tmp e, .cell c t])(i:a.getD c undef= .pointer (some ⟨b,0,none⟩))(j:a1F P t n)(k:Bx w b f T)(g:f.size=n):(results fn a).run P w= .ok (.tuple #[a.getD d undef,a.getD e undef, .agg f]) w:=by
 have l:=a2g (P:=P) j k g;rw[Array.getD_eq_getD_getElem?]at i;simp[results,h,i,asAddr,l]
end
end Go.Rep
