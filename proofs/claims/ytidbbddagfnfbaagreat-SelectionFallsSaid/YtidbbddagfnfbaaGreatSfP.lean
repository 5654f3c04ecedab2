/- reference 13: Fit. Conditions: at most 8 rows and 4 columns, numbers of few digits. reference 23: Dot. Conditions: few numbers of at most 2^36 digits. reference 03: Div, Same. Conditions: at most 2^36 digits. reference 03: Same. Conditions: at most 2^36 digits. law 38: SelectionFalls. Conditions: none. Arguments, opened to lists: []int. Conditions: none. -/
import Derived.Test.YtidbbddagfnfbaaGreatSfN
import Derived.Test.YtidbbddagfnfbaaGreatSfO
import Derived.WalkKit
import Derived.ProofKit
import Derived.OpenShut
import Derived.ShutString
import Derived.ChangeOld
import Derived.Below
import Derived.Deep.Slices
import Derived.Deep.Fields
import Derived.ChangeSame
namespace Go.Lin
open Go.Lim Go.Rep
def rkN (us:List Bool) (j:Nat):Nat:=((List.range j).filter fun i=>us.getD i false).length
theorem b3s {us:List Bool} {j:Nat} (h:us.getD j false=true):rkN us (j+1)=rkN us j+1:=by
 unfold rkN;rw[List.range_succ,List.filter_append,show List.filter (fun i=>us.getD i false) [j]= [j]from by simp only[List.filter,h],List.length_append];rfl
theorem b6k {us:List Bool} {j:Nat} (h:us.getD j false=false):rkN us (j+1)=rkN us j:=by
 unfold rkN;rw[List.range_succ,List.filter_append,show List.filter (fun i=>us.getD i false) [j]= []from by simp only[List.filter,h],List.append_nil]
theorem b6l (us:List Bool) (j:Nat):rkN us j<=j:=by
 unfold rkN;exact Nat.le_trans (List.length_filter_le _ _) (by rw[List.length_range];exact Nat.le_refl _)
theorem b0x {p:List Nat} {c:Nat} (hp:p.Pairwise (· < ·)) (hc:∀j∈p,j<c):(List.range c).filter (fun i=>(Go.Rep.usedL p c).getD i false)=p:=by
 rw[<-a6z hp hc];refine List.filter_congr fun j hj=>?_;have hj:=List.mem_range.1 hj;simp[Go.Rep.usedL,List.getD_eq_getElem?_getD,hj]
theorem b8g {p:List Nat} {c:Nat} (hp:p.Pairwise (· < ·)) (hc:∀j∈p,j<c):rkN (Go.Rep.usedL p c) c=p.length:=by unfold rkN;rw[b0x hp hc]
theorem b9K {p:List Nat} {c j:Nat} (hp:p.Pairwise (· < ·)) (hc:∀j∈p,j<c) (hj:j<c) (hjp:j∈p):∃h:rkN (Go.Rep.usedL p c) j<p.length,p[rkN (Go.Rep.usedL p c) j]=j:=by
 have e:=b0x hp hc;obtain⟨d,rfl⟩:∃d,c=j+(d+1):=⟨c - j - 1,by omega⟩;rw[List.range_add,List.range_succ_eq_map,List.map_cons,List.filter_append]at e;have hu:(Go.Rep.usedL p (j+(d+1))).getD (j+0) false=true:=by
  simp[Go.Rep.usedL,List.getD_eq_getElem?_getD,hjp]
 rw[List.filter_cons_of_pos (p:=fun i=>(Go.Rep.usedL p (j+(d+1))).getD i false) hu]at e;have hlen:=congrArg List.length e;simp only[List.length_append,List.length_cons]at hlen;refine⟨by unfold rkN;omega,?_⟩;have h2:p[rkN (Go.Rep.usedL p (j+(d+1))) j]? =some j:=by
  have e2:=congrArg (fun l=>l[((List.range j).filter fun i=>(Go.Rep.usedL p (j+(d+1))).getD i false).length]?) e;simp only[List.getElem?_append_right (Nat.le_refl _),Nat.sub_self]at e2;unfold rkN;rw[<-e2];rfl
 exact(List.getElem?_eq_some_iff.1 h2).2
theorem b1f {L:List Rat} {i:Nat} (h:i<L.length) (h0:L[i]=0):a3g L (i+1)=a3g L i:=by
 unfold a3g;rw[List.take_succ_eq_append_getElem h,h0,show L.length - i=(L.length - (i+1))+1 by omega,List.replicate_succ,List.append_assoc];rfl
theorem b5w {x:Mat} {y:List Rat} {n c j:Nat} (hs:Shp n c x) (hj:j<c) (h:j<(a6F x y n c).length):
  ((usedL (a1b x c).2 c).getD j false=true->∃h2:rkN (usedL (a1b x c).2 c) j<(bU (pkL x (a1b x c).2) y n (a1b x c).2.length).length,(bU (pkL x (a1b x c).2) y n (a1b x c).2.length)[rkN (usedL (a1b x c).2 c) j]=(a6F x y n c)[j])/\((usedL (a1b x c).2 c).getD j false=false->(a6F x y n c)[j]=0):=by
 obtain⟨_,hg,_⟩:=a1o hs;have e:(a6F x y n c)[j]=b3w (a1b x c).2 (fn (bU (pkL x (a1b x c).2) y n (a1b x c).2.length)) j:=by simp[a6F]
 have hu:(usedL (a1b x c).2 c).getD j false=decide (j∈(a1b x c).2):=by simp[usedL,List.getD_eq_getElem?_getD,hj]
 have hlt:∀j∈(a1b x c).2,j<c:=fun j hj=>by obtain⟨k,hk,rfl⟩:=List.getElem_of_mem hj;exact hg.lt k hk
 rw[e,hu];constructor
 ·intro h1
  obtain⟨h2,h3⟩:=b9K hg.pw hlt hj (of_decide_eq_true h1);have h4:=a6l hg (fn (bU (pkL x (a1b x c).2) y n (a1b x c).2.length)) _ h2;rw[h3]at h4;refine⟨by rw[b2t];exact h2,?_⟩;rw[h4];unfold fn;rw[List.getD_eq_getElem?_getD,List.getElem?_eq_getElem (by rw[b2t];exact h2)];rfl
 ·intro h1
  exact a4Q _ (of_decide_eq_false h1)
end Go.Lin
namespace Go.Rep
open Go.RowKit Go.Lim
section
variable {P:Program} {ops:Array Oper} {Q:Exit->Act->World->Prop} {a:Act} {w:World}
theorem a4n {α:Type} {R:Mem->Value->α->Prop} {sz:Nat} {X:Nat->Bool} {base cap:Nat} {e:TypeId} {ao:Option Addr} {l:List α} {o:Oper} {K:Act->World->Prop} {E:Prop} {t:TypeId} {x y:Operand} (hg:o.guard=none) (hop:o.op= .store t x y) (hT:TyI P t sz) (hR:Elem R sz) (i:Nat) {A:Addr} (hx:a.eval x= .pointer (some A)) (hA:adr ao (i*sz)=A)
  (h:OL R sz X base e w ao cap l) (hi:i<l.length) (u:Value) (v:α) (hy:a.eval y=u) (hu:R (mk (un X ao) w) u v)
  (hK:∀w',OL R sz X base e w' ao cap (l.set i v)->ExtX (ob ao) w w'->K (a.put o.dst undef) w'):
  if Region.wanted o (yielded ops a.tmps)=true then Oper.wp P o a w K Q else E:=by
 have hw:Region.wanted o (yielded ops a.tmps)=true:=by simp[Region.wanted,hg]
 rw[if_pos hw];obtain⟨ti,ht,hts⟩:=hT;obtain⟨w',hr,h2,h3⟩:=h.run_store (P:=P) ht hts hR i hi u v hu;rw[hA]at hr;unfold Oper.wp execOp;rw[hop];simp[hx,hy,Instr.storeAt,Instr.sureAddr,hr,Result.andThen];exact hK _ h2 h3
end
end Go.Rep
namespace Go.Proofs.YtidbbddagfnfbaaGreat
open Go.RowKit Go.Rep Go.Lim Go.Lin
def FS (Z:Nat->Bool) (base g:Nat) (uo:Option Addr) (uc c n:Nat) (co lo:Option Addr) (rk:Nat) (C L:List Rat) (w:World):Prop:=
 Bx w g #[.int .i64 (rk:Int), .slice uo c uc, .slice co c c, .slice none 0 0, .bool false, .slice none 0 0, .slice none 0 0, .slice lo n n] 51/\OL QC 3 (un Z lo) base 45 w co c C/\OL QC 3 (un Z co) base 45 w lo n L
set_option maxRecDepth 100000 in
set_option maxHeartbeats 12800000 in
theorem b8h (X:Nat->Bool) (w:World) (u t:Value) (x:Mat) (y:List Rat) (n c B:Nat) (hX:HX X w) (hu:MV (mk X w) u x) (ht:RV (mk X w) t y) (hok:a6I x y=true) (hnx:x.length=n) (hcx:a0B x=c) (hn:n<=8) (hc:c<=4) (hxB:BM B x) (hyB:BR B y) (hB1:1<=B) (hB:B<=370):
  Calls Tryz.prog 23 #[u,t] w (b3e X w (b7S x y n c)):=by
 obtain⟨W,hW,hE,b0,hz⟩:=a1t w #[.int .i64 0, .slice none 0 0, .slice none 0 0, .slice none 0 0, .bool false, .slice none 0 0, .slice none 0 0, .slice none 0 0] 51;have hXW:HX (a0f X w.heap.size 1) W:=hX.boxes hz;have hle:Hid (∀w',Ext W w'->Le (mk X w) (mk (a0f X w.heap.size 1) w')):=hid fun w' h=>a0o (hE.trans h);obtain⟨b,hb⟩:∃b,w.heap.size=b:=⟨_,rfl⟩;rw[hb]at b0 hz hXW hle;have hbw:w.heap.size<=b:=by omega
 obtain⟨Z0,hZ0⟩:∃Z0,a0f X b 1=Z0:=⟨_,rfl⟩;rw[hZ0]at hXW hle;obtain⟨hf,h1,h64,h12,hyl⟩:=a2H.1 hok;obtain⟨hsh,h96,_,hpos,_⟩:=a0Q hf;rw[hnx]at h1;have hc1:=hpos (by omega);rw[hcx]at hc1;rw[hnx,hcx]at hsh;rw[hnx]at hyl;have hhb:=a8q hxB hB1;have hT:=(b0R hsh hhb hc (by omega)).2;obtain⟨_,hg,_,_⟩:=a1o hsh;have hm4:=Nat.le_trans (b5V hsh) hc;have hplt:∀j∈(a1b x c).2,j<c:=fun j hj=>by obtain⟨k,hk,rfl⟩:=List.getElem_of_mem hj;exact hg.lt k hk
 have hpr:=a9r Z0 W u t x y hXW (MV.mono _ _ _ _ (hle.out W (ExtX.refl _)) hu) (RV.mono _ _ _ _ (hle.out W (ExtX.refl _)) ht) (by omega);rw[hok]at hpr;have hal:=hid fun w' (hZ:HX Z0 w') (h:MV (mk Z0 w') u x)=>b0S Z0 w' u x n c hZ h hf hnx hcx h1 hT;have hpk:=hid fun Z w' (uo:Option Addr) (uc:Nat) (hZ:HX Z w') (h:MV (mk Z w') u x) (h2:Sl BlR 1 (mk Z w') uo (usedL (a1b x c).2 c))=>b3p Z w' u uo uc x (a1b x c).2 n c hZ h h2 hsh (by omega) (by omega) hg.pw hplt;have hus:=b7r hsh (a1b x c).2;have hub:=b9o hxB hB1 (p:=(a1b x c).2);have hsing:=hid fun(h:1<=(a1b x c).2.length)=>(b2s hsh hm4).1;have hcoef:=b4H (y:=y) hsh hc;have hcat:=hid fun j (hj:j<c) (h:j<(a6F x y n c).length)=>b5w (y:=y) hsh hj h;have hcoefl:=a3b x y n c;rw[hcoef]at hcat;have hcz:=hid fun(h:(a1b x c).2.length=0)=>(by
  have hnil:(a1b x c).2= []:=List.eq_nil_of_length_eq_zero h;refine a6o (n:=c) hcoefl List.length_replicate fun j hj=>?_;have h0:=(a6r (y:=y) hsh).2.2.2 j hj (by rw[hnil];simp)
  show fn (a1y x y n c) j=_
  rw[h0];simp[List.getD_eq_getElem?_getD,hj]:a1y x y n c=List.replicate c 0)
 have hlz:=hid fun(h:(a1b x c).2.length=0)=>(by
  have h2:=hus;rw[h]at h2 |-;exact b2u h2:a7S (pkL x (a1b x c).2) n (a1b x c).2.length=List.replicate n 0)
 have hrkc:=hid (b8g hg.pw hplt);have hcb:=b2N (y:=y) (c:=c) hhb hyB hn hc hB;have hrsb:=b2O hsh hxB hyB hcb hB1 hc hB;have hresl:(a2T x y (a1y x y n c)).length=n:=by rw[a4X (by rw[hyl,hnx])];exact hnx
 have hrs:=hid fun Z w' (v:Value) (hZ:HX Z w') (h:MV (mk Z w') u x) (h2:RV (mk Z w') t y) (h3:RC (mk Z w') v (a1y x y n c))=>b5i Z w' u t v x y (a1y x y n c) n c 8000000 hZ h h2 (h3.rv fun q hq=>Nat.le_trans (hcb q hq) (by decide)) hsh hyl hcoefl (by omega) (by omega) (fun r hr q hq=>Nat.le_trans (hxB r hr q hq) (by omega)) hcb (by decide) (by decide);have hdb:=a1Y (l:=a2T x y (a1y x y n c)) (m:=a2T x y (a1y x y n c)) hrsb hrsb (by decide) (by rw[hresl];omega) (by decide);have hdo:=hid fun Z w' (v:Value) (hZ:HX Z w') (h:RC (mk Z w') v (a2T x y (a1y x y n c)))=>a5b Z w' v v _ _ hZ (h.rv fun q hq=>Nat.le_trans (hrsb q hq) (by decide)) (h.rv fun q hq=>Nat.le_trans (hrsb q hq) (by decide)) (by rw[hresl];omega) rfl hdb.1 hdb.2;have hrl:=hid hresl;have hcl:=hid hcoefl;have hul:=hid (a3d (a1b x c).2 c);have hbul:=hid (b2t (u:=pkL x (a1b x c).2) (y:=y) (n:=n) (m:=(a1b x c).2.length));have hfin:Hid (∀w' uo uc co cc ro rc (s:Bool) a n' c' d k e lo lc,Ext w w'->c<=uc->Sl BlR 1 (mk X w') uo (usedL (a1b x c).2 c)->RC (mk X w') (.slice co c cc) (a1y x y n c)->RC (mk X w') (.slice ro n rc) (a2T x y (a1y x y n c))->QC (mk X w') (.agg #[.bool s, .slice a n' c', .slice d k e]) (a2d (a2T x y (a1y x y n c)) (a2T x y (a1y x y n c)))->RC (mk X w') (.slice lo n lc) (a7S (pkL x (a1b x c).2) n (a1b x c).2.length)->b3e X w (b7S x y n c) (.returned (.tuple #[.agg #[.int .i64 ((a1b x c).2.length:Int), .slice uo c uc, .slice co c cc, .slice ro n rc, .bool s, .slice a n' c', .slice d k e, .slice lo n lc], .int .i64 0])) w'):=hid fun w' uo uc co cc ro rc s a n' c' d k e lo lc h0 h1 h2 h3 h4 h5 h6=>
  ⟨h0,_,rfl,uo,uc,co,c,cc,ro,n,rc,s,a,n',c',d,k,e,lo,n,lc,by rw[show(b7S x y n c).used=usedL (a1b x c).2 c from rfl,a3d];rfl,by rw[show(b7S x y n c).used=usedL (a1b x c).2 c from rfl,a3d];exact h1,h2,h3,h4,h5,h6⟩
 obtain⟨F,hF⟩:∃F,b3e X w (b7S x y n c)=F:=⟨_,rfl⟩;rw[hF]at hfin |-;obtain⟨m,hm⟩:∃m,(a1b x c).2.length=m:=⟨_,rfl⟩;rw[hm]at hm4 hus hsing hcat hcz hlz hrkc hbul hfin;obtain⟨U,hU⟩:∃U,pkL x (a1b x c).2=U:=⟨_,rfl⟩;rw[hU]at hus hub hcat hlz hbul hfin hpk hsing;have hg2:=hid fun(h1:1<=m)=>(⟨b8n hus (by omega) h1 (by omega),b7p hus (by omega),b8n (a1R U n m) (by omega) (by omega) (by omega),b7p (a1R U n m) h1,b8n (a0S U n m) (by omega) h1 (by omega),b7p (a0S U n m) h1,b8n (a2A (a0S U n m)) (by omega) h1 (by omega),b7p (a2A (a0S U n m)) h1⟩:a0G U=true/\a0B U=m/\a0G (trL U n m)=true/\a0B (trL U n m)=n/\a0G (a1T U n m)=true/\a0B (a1T U n m)=m/\a0G (a2B (a1T U n m) m)=true/\a0B (a2B (a1T U n m) m)=m);have hhu:=a8q hub hB1;have htb:BM B (trL U n m):=a7D (b5S hhu);have hgb:=b0p (m:=m) hhu hn hB;have hib:=b2P (m:=m) hhu hn hm4 hB;have htw:=a4b (a1C (a0S U n m)) (a7L (a0S U n m) hgb) hm4 (by decide);have htd:=a4b (a0S U n m) hgb hm4 (by decide);have hwb:BM 68719476736 (a1B (a1T U n m) m):=fun r hr q hq=>Nat.le_trans (a7D (a7L (a0S U n m) hgb) r hr q hq) (by decide);have hub':=hid (show BM 68719476736 U from fun r hr q hq=>Nat.le_trans (hub r hr q hq) (by omega));have htb':=hid (show BM 68719476736 (trL U n m)from fun r hr q hq=>Nat.le_trans (htb r hr q hq) (by omega));have hgb':=hid (show BM 68719476736 (a1T U n m)from fun r hr q hq=>Nat.le_trans (a7D hgb r hr q hq) (by decide));have hib':=hid (show BM 68719476736 (a2B (a1T U n m) m)from fun r hr q hq=>Nat.le_trans (hib r hr q hq) (by decide));have hxyb:BR 5929 (a2Z (trL U n m) y):=fun q hq=>Nat.le_trans (b2Q (a1R U n m) htb hyB hB1 hB1 q hq) (by have:=Nat.mul_le_mul hn (show B+B+1<=741 by omega);omega);have hxyl:(a2Z (trL U n m) y).length=m:=by rw[a4O];exact(a1R U n m).1
 have htr:=hid fun(h1:1<=m) Z w' (v:Value) (hZ:HX Z w') (h:MC (mk Z w') v U)=>a5f Z w' v U n m hZ (h.mv hub'.out) (hg2.out h1).1 hus.1 (hg2.out h1).2.1;have hmu:=hid fun(h1:1<=m) Z w' (v u2:Value) (hZ:HX Z w') (ht:MC (mk Z w') v (trL U n m)) (h:MC (mk Z w') u2 U)=>b8e Z w' v u2 (trL U n m) U m n m B hZ (ht.mv htb'.out) (h.mv hub'.out) (hg2.out h1).2.2.1 (hg2.out h1).1 (a1R U n m).1 hus.1 (hg2.out h1).2.2.2.1 (hg2.out h1).2.1 htb hub hB1 (by omega);have hin:=hid fun(h1:1<=m) Z w' (v:Value) (hZ:HX Z w') (ht:MC (mk Z w') v (a1T U n m))=>a9E Z w' v (a1T U n m) m hZ (ht.mv hgb'.out) (hg2.out h1).2.2.2.2.1 (a0S U n m).1 (hg2.out h1).2.2.2.2.2.1 htd.2 htw.2 hwb;have hns:=hid fun(h1:1<=m) (h0:a8M (a1T U n m) m=0)=>hsing.out h1 ((c0x hm4 (a0S U n m)).2 h0);have hap1:=hid fun(h1:1<=m) Z w' (v:Value) (hZ:HX Z w') (h:MC (mk Z w') v (trL U n m)) (h2:RV (mk Z w') t y)=>a8K Z w' v t (trL U n m) y B hZ (h.mv htb'.out) h2 (hg2.out h1).2.2.1 (by rw[(hg2.out h1).2.2.2.1];exact hyl) htb hyB hB1 (by omega);have hap2:=hid fun(h1:1<=m) Z w' (v v2:Value) (r:List Rat) (hZ:HX Z w') (h:MC (mk Z w') v (a2B (a1T U n m) m)) (h2:RC (mk Z w') v2 r) (h3:r.length=m) (h4:BR 8000000 r)=>a8K Z w' v v2 (a2B (a1T U n m) m) r 8000000 hZ (h.mv hib'.out) (h2.rv fun q hq=>Nat.le_trans (h4 q hq) (by decide)) (hg2.out h1).2.2.2.2.2.2.1 (by rw[(hg2.out h1).2.2.2.2.2.2.2];exact h3) hib h4 (by decide) (by decide);have hlb:=hid fun r (hr:r∈U)=>b7H (m:=m) hub hn hm4 hB1 hB hr;have hIl:(a2B (a1T U n m) m).length=m:=(a2A (a0S U n m)).1;have hdo3:=hid fun Z w' (v v2:Value) (r:List Rat) (hZ:HX Z w') (hr:r∈U) (h:RC (mk Z w') v r) (h2:RC (mk Z w') v2 (a2Z (a2B (a1T U n m) m) r))=>a5b Z w' v v2 r (a2Z (a2B (a1T U n m) m) r) hZ (h.rv fun q hq=>Nat.le_trans (hub r hr q hq) (by omega)) (h2.rv fun q hq=>Nat.le_trans (hlb.out r hr q hq) (by decide)) (by rw[hus.2 r hr];omega) (by rw[a4O,hIl,hus.2 r hr]) (a1Y (B:=33000000) (fun q hq=>Nat.le_trans (hub r hr q hq) (by omega)) (hlb.out r hr) (by decide) (by rw[hus.2 r hr];omega) (by decide)).1 (a1Y (B:=33000000) (fun q hq=>Nat.le_trans (hub r hr q hq) (by omega)) (hlb.out r hr) (by decide) (by rw[hus.2 r hr];omega) (by decide)).2;have hrowB:=hid fun r (hr:r∈U)=>(fun q hq=>Nat.le_trans (hub r hr q hq) (by omega):BR 8000000 r);have hLr:=hid fun i (h1:i<U.length) (h:i<(a7S U n m).length)=>b5j h1 h;have hLl:=hid (show(a7S U n m).length=n by rw[a7H];exact hus.1);have hbUe:bU U y n m=a2Z (a2B (a1T U n m) m) (a2Z (trL U n m) y):=rfl;have hbUb:BR 68719476736 (bU U y n m):=fun q hq=>Nat.le_trans (b2Q (a2A (a0S U n m)) hib (fun q hq=>Nat.le_trans (hxyb q hq) (by decide)) (by decide) (C:=8000000) (by decide) q hq) (by have:=Nat.mul_le_mul hm4 (show 8000000+8000000+1<=16000001 by omega);omega);have hgle:a1T U n m=a9X (trL U n m) U n m:=rfl;rw[<-hgle]at hmu;have hxyb':=hid (show BR 8000000 (a2Z (trL U n m) y)from fun q hq=>Nat.le_trans (hxyb q hq) (by decide));have hxyl':=hid hxyl;unfold b3r at hin;obtain⟨us,hus'⟩:∃us,usedL (a1b x c).2 c=us:=⟨_,rfl⟩;unfold b9s at hal;rw[hus']at hal hpk hcat hrkc hul hfin;obtain⟨G,hG⟩:∃G,a1T U n m=G:=⟨_,rfl⟩;rw[hG]at hmu hin hns hap2 hdo3 hLr hbUe;obtain⟨I,hI⟩:∃I,a2B G m=I:=⟨_,rfl⟩;rw[hI]at hin hap2 hdo3 hLr hbUe;obtain⟨T,hTe⟩:∃T,trL U n m=T:=⟨_,rfl⟩;rw[hTe]at htr hmu hap1 hxyb' hxyl' hbUe;obtain⟨V,hVe⟩:∃V,a2Z T y=V:=⟨_,rfl⟩;rw[hVe]at hap1 hxyb' hxyl' hbUe;have hbUe':=hid hbUe;obtain⟨bu,hbu⟩:∃bu,bU U y n m=bu:=⟨_,rfl⟩;rw[hbu]at hcat hbul hbUb hbUe';have hbUb':=hid hbUb;obtain⟨L,hL⟩:∃L,a7S U n m=L:=⟨_,rfl⟩;rw[hL]at hlz hLr hLl hfin;obtain⟨Cf,hCf⟩:∃Cf,a1y x y n c=Cf:=⟨_,rfl⟩;rw[hCf]at hcat hcz hcl hrs hdo hrl hfin;obtain⟨Rs,hRs⟩:∃Rs,a2T x y Cf=Rs:=⟨_,rfl⟩;rw[hRs]at hrs hdo hrl hfin;have hUl:=hid hus.1;have hUr:=hid hus.2;have huW:=hid fun w' (h:Ext W w')=>MV.mono _ _ _ _ (hle.out w' h) hu;have htW:=hid fun w' (h:Ext W w')=>RV.mono _ _ _ _ (hle.out w' h) ht;obtain⟨ua,uca,rfl,huca,hua⟩:=hu;obtain⟨ta,tca,rfl,htca,hta⟩:=ht;rw[hnx]at hpr hal hpk hrs huW huca |-;rw[hyl]at hpr hap1 hrs htW htca |-;have hXZ0:Hid (∀k,X k=true->Z0 k=true):=hid fun k hk=>by rw[<-hZ0];simp[a0f,hk]
 have hb0:Hid (∀k,ob (some ⟨b,0,none⟩) k=true->Z0 k=true):=hid fun k hk=>by
  have hk2:b=k:=by simpa[ob]using hk
  rw[<-hZ0];exact a5j (by omega) (by omega)
 clear hok hf h64 h12 hpos hsh hhb hT hg hcb hrsb hresl hdb hF hm hU hG hI hTe hVe hbUe hbu hbUb hL hCf hRs hus' hZ0 hnx hcx hyl hxyb hxyl htb hgb hib htw htd hwb hsing hplt hcoef hcoefl hhu hub hg2 hgle hIl h96 hus htca huca hua hta;go_enter Tryz.func23,Tryz.ntmps23
 go_wp2_with fail
 refine hpr.mono ?_;rintro ee wa ⟨hEa,rfl⟩;clear hpr;go_wp2_with fail
 refine(hal.out wa (hXW.ext hEa) (huW.out wa hEa)).mono ?_;rintro ee w1 ⟨hEb,uo,uc,uv,rfl,huc,hus⟩;have hE1:=hEa.trans hEb;have hX1:HX Z0 w1:=hXW.ext hE1;clear hal;go_upto_region 4 with fail
 have hE0:Ext w1 w1.drew:=(ExtX.refl w1).drew;have hX0:HX Z0 w1.drew:=hX1.ext hE0
 (try simp only[Act.put])
 go_cut [9]from 38 to 46 (fun bv wx=>∃(g:Nat) (co lo:Option Addr),bv= .pointer (some ⟨g,0,none⟩)/\Bx wx g #[.int .i64 0, .slice uo c uc, .slice co c c, .slice none 0 0, .bool false, .slice none 0 0, .slice none 0 0, .slice lo n n] 51/\OL QC 3 (un (un Z0 (some ⟨g,0,none⟩)) lo) w1.drew.heap.size 45 wx co c (List.replicate c 0)/\OL QC 3 (un (un Z0 (some ⟨g,0,none⟩)) co) w1.drew.heap.size 45 wx lo n (List.replicate n 0)/\w1.heap.size<=g/\g<wx.heap.size/\Ext w1 wx)
 case first=>
  refine a0M 9 (fun _=>True) (by kernel_rfl) (by kernel_rfl) trivial (fun hHeld hOnce=>?_);refine a0a hOnce (i:=0) (oi:=⟨_,_,_,_,_,_⟩) (v:=?_) rfl (by kernel_rfl) (fun _ _ _ h=>h) (by assumption) (by rfl) (fun w hSw=>?_) ?_
  rotate_left
  ·(try dsimp only at hSw)
   go_simp
   all_goals with_reducible rfl
  (try simp only[Act.put,List.setIfInBounds_toArray,List.set_cons_zero,List.set_cons_succ])
  refine a0a hOnce (i:=1) (oi:=⟨_,_,_,_,_,_⟩) (v:=?_) rfl (by kernel_rfl) (fun _ _ _ h=>h) (by assumption) (by rfl) (fun w hSw=>?_) ?_
  rotate_left
  ·(try dsimp only at hSw)
   go_simp
   all_goals with_reducible rfl
  (try simp only[Act.put,List.setIfInBounds_toArray,List.set_cons_zero,List.set_cons_succ])
  refine a0a hOnce (i:=2) (oi:=⟨_,_,_,_,_,_⟩) (v:=?_) rfl (by kernel_rfl) (fun _ _ _ h=>h) (by assumption) (by rfl) (fun w hSw=>?_) ?_
  rotate_left
  ·(try dsimp only at hSw)
   go_simp
   all_goals with_reducible rfl
  (try simp only[Act.put,List.setIfInBounds_toArray,List.set_cons_zero,List.set_cons_succ])
  refine a0a hOnce (i:=4) (oi:=⟨_,_,_,_,_,_⟩) (v:=?_) rfl (by kernel_rfl) (fun _ _ _ h=>h) (by assumption) (by rfl) (fun w hSw=>?_) ?_
  rotate_left
  ·(try dsimp only at hSw)
   go_simp
   all_goals with_reducible rfl
  (try simp only[Act.put,List.setIfInBounds_toArray,List.set_cons_zero,List.set_cons_succ])
  refine a0a hOnce (i:=5) (oi:=⟨_,_,_,_,_,_⟩) (v:=?_) rfl (by kernel_rfl) (fun _ _ _ h=>h) (by assumption) (by rfl) (fun w hSw=>?_) ?_
  rotate_left
  ·(try dsimp only at hSw)
   go_simp
   all_goals with_reducible rfl
  (try simp only[Act.put,List.setIfInBounds_toArray,List.set_cons_zero,List.set_cons_succ])
  refine a5I (i:=3) (j:=6) (l:=8) (oi:=⟨_,_,_,_,_,_⟩) (oj:=⟨_,_,_,_,_,_⟩) (ol:=⟨_,_,_,_,_,_⟩) (by kernel_rfl) rfl rfl rfl (fun K hK=>?_) (fun K hK=>?_) (fun K hK=>?_)
  ·skip
   (refine a0O (R:=QC) rfl rfl a0D QC.elem (0:Rat) (fun _=>QC.zero _) Z0 (hX0.ext (ExtX.refl (Y:=noY) w1.drew)) w1.drew.heap.size (Nat.le_refl _) c rfl rfl rfl (by omega) (by omega) ?_;intro xo vA hA eA)
   refine hK.out _ _ trivial (fun hHeld=>?_);clear hK K
   (try simp only[Act.put,List.setIfInBounds_toArray,List.set_cons_zero,List.set_cons_succ])
   have nA:∀q,ob xo q=true->w1.drew.heap.size<=q:=fun q hq=>(hA.block hq).1;have hA:=hA.base_le (b':=w1.drew.heap.size) ((ExtX.refl (Y:=noY) w1.drew)).size;have EA:Ext w1.drew vA:=(ExtX.refl (Y:=noY) w1.drew).trans eA;refine a1D (i:=6) (j:=8) (oi:=⟨_,_,_,_,_,_⟩) (oj:=⟨_,_,_,_,_,_⟩) (by kernel_rfl) rfl rfl (fun K hK=>?_) (fun K hK=>?_)
   ·skip
    (refine a0O (R:=QC) rfl rfl a0D QC.elem (0:Rat) (fun _=>QC.zero _) (un Z0 xo) (a2O (hX0.ext EA) fun q hq=>(hA.block hq).2) vA.heap.size (Nat.le_refl _) n rfl rfl rfl (by omega) (by omega) ?_;intro yo vB hB eB)
    refine hK.out _ _ trivial (fun hHeld=>?_);clear hK K
    (try simp only[Act.put,List.setIfInBounds_toArray,List.set_cons_zero,List.set_cons_succ])
    have nB:∀q,ob yo q=true->vA.heap.size<=q:=fun q hq=>(hB.block hq).1;have hB:=hB.base_le (b':=w1.drew.heap.size) (EA).size;have hA:=a0T QC.elem hA eB nB;have EB:Ext w1.drew vB:=EA.trans eB;refine a0a hOnce (i:=7) (oi:=⟨_,_,_,_,_,_⟩) (v:=?_) rfl (by kernel_rfl) (fun _ _ _ h=>h) (by assumption) (by rfl) (fun w hSw=>?_) ?_
    rotate_left
    ·(try dsimp only at hSw)
     go_simp
     all_goals with_reducible rfl
    (try simp only[Act.put,List.setIfInBounds_toArray,List.set_cons_zero,List.set_cons_succ])
    refine a0m (i:=8) (o:=⟨_,_,_,_,_,_⟩) (by kernel_rfl) rfl (fun K hK=>?_);go_simp
    skip
    refine hK.out _ _ trivial (fun hHeld=>?_);clear hK K
    (try simp only[Act.put,List.setIfInBounds_toArray,List.set_cons_zero,List.set_cons_succ])
    have eG:Ext vB (vB.alloc (.cells #[.int .i64 0, .slice none 0 0, .slice none 0 0, .slice none 0 0, .bool false, .slice none 0 0, .slice none 0 0, .slice none 0 0] 51)):=(ExtX.refl _).alloc _;have bG:Bx (vB.alloc (.cells #[.int .i64 0, .slice none 0 0, .slice none 0 0, .slice none 0 0, .bool false, .slice none 0 0, .slice none 0 0, .slice none 0 0] 51)) vB.heap.size #[.int .i64 0, .slice none 0 0, .slice none 0 0, .slice none 0 0, .bool false, .slice none 0 0, .slice none 0 0, .slice none 0 0] 51:=Bx.new vB _ _;have zG:(vB.alloc (.cells #[.int .i64 0, .slice none 0 0, .slice none 0 0, .slice none 0 0, .bool false, .slice none 0 0, .slice none 0 0, .slice none 0 0] 51)).heap.size=vB.heap.size+1:=by simp
    obtain⟨vG,hvG⟩:∃vG,vB.alloc (.cells #[.int .i64 0, .slice none 0 0, .slice none 0 0, .slice none 0 0, .bool false, .slice none 0 0, .slice none 0 0, .slice none 0 0] 51)=vG:=⟨_,rfl⟩;rw[hvG]at eG bG zG |-;obtain⟨gA,hgA⟩:∃gA,vB.heap.size=gA:=⟨_,rfl⟩;have hgu:vB.heap.size<=gA:=by rw[<-hgA];exact Nat.le_refl _
    rw[hgA]at bG zG |-;have glA:gA<vG.heap.size:=by omega
    have nG:∀q,ob (some ⟨gA,0,none⟩) q=true->vB.heap.size<=q:=fun q hq=>(by simpa[ob]using hq:gA=q)▸hgu;have hgw:w1.heap.size<=gA:=Nat.le_trans (EB).size hgu;have hA:=a0T QC.elem hA eG nG;have hB:=a0T QC.elem hB eG nG;have EG:Ext w1.drew vG:=EB.trans eG;refine a0s (i:=9) (o:=⟨_,_,_,_,_,_⟩) (by kernel_rfl) rfl (by decide) (by kernel_rfl) (fun K hK=>?_)
    (refine a0z rfl rfl a7K rfl rfl bG rfl rfl (by intro v hv;simp at hv;rcases hv with rfl|rfl|rfl|rfl|rfl|rfl|rfl|rfl<;>rfl) ?_;intro w9 y1 y2)
    refine hK.out _ _ ?_;clear hK K
    (try simp only[Act.put])
    have hA9:OL QC 3 (un (un Z0 (some ⟨gA,0,none⟩)) yo) w1.drew.heap.size 45 w9 xo c (List.replicate c 0):=by
     have h:=hA.ext QC.elem (Z:=un (un Z0 yo) (some ⟨gA,0,none⟩)) y2 (fun q _ hq=>by simp[un,hq]) (fun _ _ h=>h)
     first|exact h|(rw[a0U]at h;exact h)
    have hB9:OL QC 3 (un (un Z0 (some ⟨gA,0,none⟩)) xo) w1.drew.heap.size 45 w9 yo n (List.replicate n 0):=by
     have h:=hB.ext QC.elem (Z:=un (un Z0 xo) (some ⟨gA,0,none⟩)) y2 (fun q _ hq=>by simp[un,hq]) (fun _ _ h=>h)
     first|exact h|(rw[a0U]at h;exact h)
    have hE9:Ext w1 w9:=ExtX.box (hE0.trans EG) y2 hgw;have hlt9:=Nat.lt_of_lt_of_le glA y2.size;go_wp2_with fail
    go_meet
    case rel=>exact⟨gA,xo,yo,rfl,y1,hA9,hB9,hgw,hlt9,hE9⟩
   ·skip
    go_simp
    skip
    refine hK.out _ _ trivial (fun hHeld=>?_);clear hK K
    (try simp only[Act.put,List.setIfInBounds_toArray,List.set_cons_zero,List.set_cons_succ])
    have eG:Ext vA (vA.alloc (.cells #[.int .i64 0, .slice none 0 0, .slice none 0 0, .slice none 0 0, .bool false, .slice none 0 0, .slice none 0 0, .slice none 0 0] 51)):=(ExtX.refl _).alloc _;have bG:Bx (vA.alloc (.cells #[.int .i64 0, .slice none 0 0, .slice none 0 0, .slice none 0 0, .bool false, .slice none 0 0, .slice none 0 0, .slice none 0 0] 51)) vA.heap.size #[.int .i64 0, .slice none 0 0, .slice none 0 0, .slice none 0 0, .bool false, .slice none 0 0, .slice none 0 0, .slice none 0 0] 51:=Bx.new vA _ _;have zG:(vA.alloc (.cells #[.int .i64 0, .slice none 0 0, .slice none 0 0, .slice none 0 0, .bool false, .slice none 0 0, .slice none 0 0, .slice none 0 0] 51)).heap.size=vA.heap.size+1:=by simp
    obtain⟨vG,hvG⟩:∃vG,vA.alloc (.cells #[.int .i64 0, .slice none 0 0, .slice none 0 0, .slice none 0 0, .bool false, .slice none 0 0, .slice none 0 0, .slice none 0 0] 51)=vG:=⟨_,rfl⟩;rw[hvG]at eG bG zG |-;obtain⟨gA,hgA⟩:∃gA,vA.heap.size=gA:=⟨_,rfl⟩;have hgu:vA.heap.size<=gA:=by rw[<-hgA];exact Nat.le_refl _
    rw[hgA]at bG zG |-;have glA:gA<vG.heap.size:=by omega
    have nG:∀q,ob (some ⟨gA,0,none⟩) q=true->vA.heap.size<=q:=fun q hq=>(by simpa[ob]using hq:gA=q)▸hgu;have hgw:w1.heap.size<=gA:=Nat.le_trans (EA).size hgu;have hA:=a0T QC.elem hA eG nG;have EG:Ext w1.drew vG:=EA.trans eG;refine a0m (i:=6) (o:=⟨_,_,_,_,_,_⟩) (by kernel_rfl) rfl (fun K hK=>?_)
    (refine a0O (R:=QC) rfl rfl a0D QC.elem (0:Rat) (fun _=>QC.zero _) (un (un Z0 xo) (some ⟨gA,0,none⟩)) (a1c (a2O (hX0.ext EG) fun q hq=>(hA.block hq).2) glA) vG.heap.size (Nat.le_refl _) n rfl rfl rfl (by omega) (by omega) ?_;intro yo vB hB eB)
    refine hK.out _ _ trivial (fun hHeld=>?_);clear hK K
    (try simp only[Act.put,List.setIfInBounds_toArray,List.set_cons_zero,List.set_cons_succ])
    have nB:∀q,ob yo q=true->vG.heap.size<=q:=fun q hq=>(hB.block hq).1;have hB:=hB.base_le (b':=w1.drew.heap.size) (EG).size;have hA:=a0T QC.elem hA eB nB;have bG:=bG.ext0 eB;have glA:=Nat.lt_of_lt_of_le glA eB.size;have EB:Ext w1.drew vB:=EG.trans eB;refine a0a hOnce (i:=7) (oi:=⟨_,_,_,_,_,_⟩) (v:=?_) rfl (by kernel_rfl) (fun _ _ _ h=>h) (by assumption) (by rfl) (fun w hSw=>?_) ?_
    rotate_left
    ·(try dsimp only at hSw)
     go_simp
     all_goals with_reducible rfl
    (try simp only[Act.put,List.setIfInBounds_toArray,List.set_cons_zero,List.set_cons_succ])
    refine a0s (i:=9) (o:=⟨_,_,_,_,_,_⟩) (by kernel_rfl) rfl (by decide) (by kernel_rfl) (fun K hK=>?_)
    (refine a0z rfl rfl a7K rfl rfl bG rfl rfl (by intro v hv;simp at hv;rcases hv with rfl|rfl|rfl|rfl|rfl|rfl|rfl|rfl<;>rfl) ?_;intro w9 y1 y2)
    refine hK.out _ _ ?_;clear hK K
    (try simp only[Act.put])
    have hA9:OL QC 3 (un (un Z0 (some ⟨gA,0,none⟩)) yo) w1.drew.heap.size 45 w9 xo c (List.replicate c 0):=by
     have h:=hA.ext QC.elem (Z:=un (un Z0 (some ⟨gA,0,none⟩)) yo) y2 (fun q _ hq=>by simp[un,hq]) (fun _ _ h=>h)
     first|exact h|(rw[a0U]at h;exact h)
    have hB9:OL QC 3 (un (un Z0 (some ⟨gA,0,none⟩)) xo) w1.drew.heap.size 45 w9 yo n (List.replicate n 0):=by
     have h:=hB.ext QC.elem (Z:=un (un Z0 xo) (some ⟨gA,0,none⟩)) y2 (fun q _ hq=>by simp[un,hq]) (fun _ _ h=>h)
     first|exact h|(rw[a0U]at h;exact h)
    have hE9:Ext w1 w9:=ExtX.box (hE0.trans EB) y2 hgw;have hlt9:=Nat.lt_of_lt_of_le glA y2.size;go_wp2_with fail
    go_meet
    case rel=>exact⟨gA,xo,yo,rfl,y1,hA9,hB9,hgw,hlt9,hE9⟩
  ·skip
   (refine a0O (R:=QC) rfl rfl a0D QC.elem (0:Rat) (fun _=>QC.zero _) Z0 (hX0.ext (ExtX.refl (Y:=noY) w1.drew)) w1.drew.heap.size (Nat.le_refl _) n rfl rfl rfl (by omega) (by omega) ?_;intro yo vB hB eB)
   refine hK.out _ _ trivial (fun hHeld=>?_);clear hK K
   (try simp only[Act.put,List.setIfInBounds_toArray,List.set_cons_zero,List.set_cons_succ])
   have nB:∀q,ob yo q=true->w1.drew.heap.size<=q:=fun q hq=>(hB.block hq).1;have hB:=hB.base_le (b':=w1.drew.heap.size) ((ExtX.refl (Y:=noY) w1.drew)).size;have EB:Ext w1.drew vB:=(ExtX.refl (Y:=noY) w1.drew).trans eB;refine a1D (i:=3) (j:=8) (oi:=⟨_,_,_,_,_,_⟩) (oj:=⟨_,_,_,_,_,_⟩) (by kernel_rfl) rfl rfl (fun K hK=>?_) (fun K hK=>?_)
   ·skip
    (refine a0O (R:=QC) rfl rfl a0D QC.elem (0:Rat) (fun _=>QC.zero _) (un Z0 yo) (a2O (hX0.ext EB) fun q hq=>(hB.block hq).2) vB.heap.size (Nat.le_refl _) c rfl rfl rfl (by omega) (by omega) ?_;intro xo vA hA eA)
    refine hK.out _ _ trivial (fun hHeld=>?_);clear hK K
    (try simp only[Act.put,List.setIfInBounds_toArray,List.set_cons_zero,List.set_cons_succ])
    have nA:∀q,ob xo q=true->vB.heap.size<=q:=fun q hq=>(hA.block hq).1;have hA:=hA.base_le (b':=w1.drew.heap.size) (EB).size;have hB:=a0T QC.elem hB eA nA;have EA:Ext w1.drew vA:=EB.trans eA;refine a0a hOnce (i:=7) (oi:=⟨_,_,_,_,_,_⟩) (v:=?_) rfl (by kernel_rfl) (fun _ _ _ h=>h) (by assumption) (by rfl) (fun w hSw=>?_) ?_
    rotate_left
    ·(try dsimp only at hSw)
     go_simp
     all_goals with_reducible rfl
    (try simp only[Act.put,List.setIfInBounds_toArray,List.set_cons_zero,List.set_cons_succ])
    refine a0m (i:=8) (o:=⟨_,_,_,_,_,_⟩) (by kernel_rfl) rfl (fun K hK=>?_);go_simp
    skip
    refine hK.out _ _ trivial (fun hHeld=>?_);clear hK K
    (try simp only[Act.put,List.setIfInBounds_toArray,List.set_cons_zero,List.set_cons_succ])
    have eG:Ext vA (vA.alloc (.cells #[.int .i64 0, .slice none 0 0, .slice none 0 0, .slice none 0 0, .bool false, .slice none 0 0, .slice none 0 0, .slice none 0 0] 51)):=(ExtX.refl _).alloc _;have bG:Bx (vA.alloc (.cells #[.int .i64 0, .slice none 0 0, .slice none 0 0, .slice none 0 0, .bool false, .slice none 0 0, .slice none 0 0, .slice none 0 0] 51)) vA.heap.size #[.int .i64 0, .slice none 0 0, .slice none 0 0, .slice none 0 0, .bool false, .slice none 0 0, .slice none 0 0, .slice none 0 0] 51:=Bx.new vA _ _;have zG:(vA.alloc (.cells #[.int .i64 0, .slice none 0 0, .slice none 0 0, .slice none 0 0, .bool false, .slice none 0 0, .slice none 0 0, .slice none 0 0] 51)).heap.size=vA.heap.size+1:=by simp
    obtain⟨vG,hvG⟩:∃vG,vA.alloc (.cells #[.int .i64 0, .slice none 0 0, .slice none 0 0, .slice none 0 0, .bool false, .slice none 0 0, .slice none 0 0, .slice none 0 0] 51)=vG:=⟨_,rfl⟩;rw[hvG]at eG bG zG |-;obtain⟨gA,hgA⟩:∃gA,vA.heap.size=gA:=⟨_,rfl⟩;have hgu:vA.heap.size<=gA:=by rw[<-hgA];exact Nat.le_refl _
    rw[hgA]at bG zG |-;have glA:gA<vG.heap.size:=by omega
    have nG:∀q,ob (some ⟨gA,0,none⟩) q=true->vA.heap.size<=q:=fun q hq=>(by simpa[ob]using hq:gA=q)▸hgu;have hgw:w1.heap.size<=gA:=Nat.le_trans (EA).size hgu;have hB:=a0T QC.elem hB eG nG;have hA:=a0T QC.elem hA eG nG;have EG:Ext w1.drew vG:=EA.trans eG;refine a0s (i:=9) (o:=⟨_,_,_,_,_,_⟩) (by kernel_rfl) rfl (by decide) (by kernel_rfl) (fun K hK=>?_)
    (refine a0z rfl rfl a7K rfl rfl bG rfl rfl (by intro v hv;simp at hv;rcases hv with rfl|rfl|rfl|rfl|rfl|rfl|rfl|rfl<;>rfl) ?_;intro w9 y1 y2)
    refine hK.out _ _ ?_;clear hK K
    (try simp only[Act.put])
    have hA9:OL QC 3 (un (un Z0 (some ⟨gA,0,none⟩)) yo) w1.drew.heap.size 45 w9 xo c (List.replicate c 0):=by
     have h:=hA.ext QC.elem (Z:=un (un Z0 yo) (some ⟨gA,0,none⟩)) y2 (fun q _ hq=>by simp[un,hq]) (fun _ _ h=>h)
     first|exact h|(rw[a0U]at h;exact h)
    have hB9:OL QC 3 (un (un Z0 (some ⟨gA,0,none⟩)) xo) w1.drew.heap.size 45 w9 yo n (List.replicate n 0):=by
     have h:=hB.ext QC.elem (Z:=un (un Z0 xo) (some ⟨gA,0,none⟩)) y2 (fun q _ hq=>by simp[un,hq]) (fun _ _ h=>h)
     first|exact h|(rw[a0U]at h;exact h)
    have hE9:Ext w1 w9:=ExtX.box (hE0.trans EG) y2 hgw;have hlt9:=Nat.lt_of_lt_of_le glA y2.size;go_wp2_with fail
    go_meet
    case rel=>exact⟨gA,xo,yo,rfl,y1,hA9,hB9,hgw,hlt9,hE9⟩
   ·skip
    go_simp
    skip
    refine hK.out _ _ trivial (fun hHeld=>?_);clear hK K
    (try simp only[Act.put,List.setIfInBounds_toArray,List.set_cons_zero,List.set_cons_succ])
    have eG:Ext vB (vB.alloc (.cells #[.int .i64 0, .slice none 0 0, .slice none 0 0, .slice none 0 0, .bool false, .slice none 0 0, .slice none 0 0, .slice none 0 0] 51)):=(ExtX.refl _).alloc _;have bG:Bx (vB.alloc (.cells #[.int .i64 0, .slice none 0 0, .slice none 0 0, .slice none 0 0, .bool false, .slice none 0 0, .slice none 0 0, .slice none 0 0] 51)) vB.heap.size #[.int .i64 0, .slice none 0 0, .slice none 0 0, .slice none 0 0, .bool false, .slice none 0 0, .slice none 0 0, .slice none 0 0] 51:=Bx.new vB _ _;have zG:(vB.alloc (.cells #[.int .i64 0, .slice none 0 0, .slice none 0 0, .slice none 0 0, .bool false, .slice none 0 0, .slice none 0 0, .slice none 0 0] 51)).heap.size=vB.heap.size+1:=by simp
    obtain⟨vG,hvG⟩:∃vG,vB.alloc (.cells #[.int .i64 0, .slice none 0 0, .slice none 0 0, .slice none 0 0, .bool false, .slice none 0 0, .slice none 0 0, .slice none 0 0] 51)=vG:=⟨_,rfl⟩;rw[hvG]at eG bG zG |-;obtain⟨gA,hgA⟩:∃gA,vB.heap.size=gA:=⟨_,rfl⟩;have hgu:vB.heap.size<=gA:=by rw[<-hgA];exact Nat.le_refl _
    rw[hgA]at bG zG |-;have glA:gA<vG.heap.size:=by omega
    have nG:∀q,ob (some ⟨gA,0,none⟩) q=true->vB.heap.size<=q:=fun q hq=>(by simpa[ob]using hq:gA=q)▸hgu;have hgw:w1.heap.size<=gA:=Nat.le_trans (EB).size hgu;have hB:=a0T QC.elem hB eG nG;have EG:Ext w1.drew vG:=EB.trans eG;refine a0m (i:=3) (o:=⟨_,_,_,_,_,_⟩) (by kernel_rfl) rfl (fun K hK=>?_)
    (refine a0O (R:=QC) rfl rfl a0D QC.elem (0:Rat) (fun _=>QC.zero _) (un (un Z0 yo) (some ⟨gA,0,none⟩)) (a1c (a2O (hX0.ext EG) fun q hq=>(hB.block hq).2) glA) vG.heap.size (Nat.le_refl _) c rfl rfl rfl (by omega) (by omega) ?_;intro xo vA hA eA)
    refine hK.out _ _ trivial (fun hHeld=>?_);clear hK K
    (try simp only[Act.put,List.setIfInBounds_toArray,List.set_cons_zero,List.set_cons_succ])
    have nA:∀q,ob xo q=true->vG.heap.size<=q:=fun q hq=>(hA.block hq).1;have hA:=hA.base_le (b':=w1.drew.heap.size) (EG).size;have hB:=a0T QC.elem hB eA nA;have bG:=bG.ext0 eA;have glA:=Nat.lt_of_lt_of_le glA eA.size;have EA:Ext w1.drew vA:=EG.trans eA;refine a0a hOnce (i:=7) (oi:=⟨_,_,_,_,_,_⟩) (v:=?_) rfl (by kernel_rfl) (fun _ _ _ h=>h) (by assumption) (by rfl) (fun w hSw=>?_) ?_
    rotate_left
    ·(try dsimp only at hSw)
     go_simp
     all_goals with_reducible rfl
    (try simp only[Act.put,List.setIfInBounds_toArray,List.set_cons_zero,List.set_cons_succ])
    refine a0s (i:=9) (o:=⟨_,_,_,_,_,_⟩) (by kernel_rfl) rfl (by decide) (by kernel_rfl) (fun K hK=>?_)
    (refine a0z rfl rfl a7K rfl rfl bG rfl rfl (by intro v hv;simp at hv;rcases hv with rfl|rfl|rfl|rfl|rfl|rfl|rfl|rfl<;>rfl) ?_;intro w9 y1 y2)
    refine hK.out _ _ ?_;clear hK K
    (try simp only[Act.put])
    have hA9:OL QC 3 (un (un Z0 (some ⟨gA,0,none⟩)) yo) w1.drew.heap.size 45 w9 xo c (List.replicate c 0):=by
     have h:=hA.ext QC.elem (Z:=un (un Z0 yo) (some ⟨gA,0,none⟩)) y2 (fun q _ hq=>by simp[un,hq]) (fun _ _ h=>h)
     first|exact h|(rw[a0U]at h;exact h)
    have hB9:OL QC 3 (un (un Z0 (some ⟨gA,0,none⟩)) xo) w1.drew.heap.size 45 w9 yo n (List.replicate n 0):=by
     have h:=hB.ext QC.elem (Z:=un (un Z0 (some ⟨gA,0,none⟩)) xo) y2 (fun q _ hq=>by simp[un,hq]) (fun _ _ h=>h)
     first|exact h|(rw[a0U]at h;exact h)
    have hE9:Ext w1 w9:=ExtX.box (hE0.trans EA) y2 hgw;have hlt9:=Nat.lt_of_lt_of_le glA y2.size;go_wp2_with fail
    go_meet
    case rel=>exact⟨gA,xo,yo,rfl,y1,hA9,hB9,hgw,hlt9,hE9⟩
  ·skip
   go_simp
   skip
   refine hK.out _ _ trivial (fun hHeld=>?_);clear hK K
   (try simp only[Act.put,List.setIfInBounds_toArray,List.set_cons_zero,List.set_cons_succ])
   have eG:Ext w1.drew (w1.alloc (.cells #[.int .i64 0, .slice none 0 0, .slice none 0 0, .slice none 0 0, .bool false, .slice none 0 0, .slice none 0 0, .slice none 0 0] 51)).drew:=⟨rfl,rfl,rfl,((ExtX.refl (Y:=noY) w1).alloc _).size,((ExtX.refl (Y:=noY) w1).alloc _).block⟩;have bG:Bx (w1.alloc (.cells #[.int .i64 0, .slice none 0 0, .slice none 0 0, .slice none 0 0, .bool false, .slice none 0 0, .slice none 0 0, .slice none 0 0] 51)).drew w1.heap.size #[.int .i64 0, .slice none 0 0, .slice none 0 0, .slice none 0 0, .bool false, .slice none 0 0, .slice none 0 0, .slice none 0 0] 51:=Bx.new w1 _ _;have zG:(w1.alloc (.cells #[.int .i64 0, .slice none 0 0, .slice none 0 0, .slice none 0 0, .bool false, .slice none 0 0, .slice none 0 0, .slice none 0 0] 51)).drew.heap.size=w1.heap.size+1:=by show(w1.alloc _).heap.size=_;simp
   obtain⟨vG,hvG⟩:∃vG,(w1.alloc (.cells #[.int .i64 0, .slice none 0 0, .slice none 0 0, .slice none 0 0, .bool false, .slice none 0 0, .slice none 0 0, .slice none 0 0] 51)).drew=vG:=⟨_,rfl⟩;rw[hvG]at eG bG zG |-;obtain⟨gA,hgA⟩:∃gA,w1.heap.size=gA:=⟨_,rfl⟩;have hgu:w1.drew.heap.size<=gA:=by rw[<-hgA];exact Nat.le_refl _
   rw[hgA]at bG zG |-;have glA:gA<vG.heap.size:=by omega
   have nG:∀q,ob (some ⟨gA,0,none⟩) q=true->w1.drew.heap.size<=q:=fun q hq=>(by simpa[ob]using hq:gA=q)▸hgu;have hgw:w1.heap.size<=gA:=Nat.le_trans ((ExtX.refl (Y:=noY) w1.drew)).size hgu;have EG:Ext w1.drew vG:=(ExtX.refl (Y:=noY) w1.drew).trans eG;refine a1D (i:=3) (j:=6) (oi:=⟨_,_,_,_,_,_⟩) (oj:=⟨_,_,_,_,_,_⟩) (by kernel_rfl) rfl rfl (fun K hK=>?_) (fun K hK=>?_)
   ·skip
    (refine a0O (R:=QC) rfl rfl a0D QC.elem (0:Rat) (fun _=>QC.zero _) (un Z0 (some ⟨gA,0,none⟩)) (a1c (hX0.ext EG) glA) vG.heap.size (Nat.le_refl _) c rfl rfl rfl (by omega) (by omega) ?_;intro xo vA hA eA)
    refine hK.out _ _ trivial (fun hHeld=>?_);clear hK K
    (try simp only[Act.put,List.setIfInBounds_toArray,List.set_cons_zero,List.set_cons_succ])
    have nA:∀q,ob xo q=true->vG.heap.size<=q:=fun q hq=>(hA.block hq).1;have hA:=hA.base_le (b':=w1.drew.heap.size) (EG).size;have bG:=bG.ext0 eA;have glA:=Nat.lt_of_lt_of_le glA eA.size;have EA:Ext w1.drew vA:=EG.trans eA;refine a0m (i:=6) (o:=⟨_,_,_,_,_,_⟩) (by kernel_rfl) rfl (fun K hK=>?_)
    (refine a0O (R:=QC) rfl rfl a0D QC.elem (0:Rat) (fun _=>QC.zero _) (un (un Z0 (some ⟨gA,0,none⟩)) xo) (a2O (a1c (hX0.ext EA) glA) fun q hq=>(hA.block hq).2) vA.heap.size (Nat.le_refl _) n rfl rfl rfl (by omega) (by omega) ?_;intro yo vB hB eB)
    refine hK.out _ _ trivial (fun hHeld=>?_);clear hK K
    (try simp only[Act.put,List.setIfInBounds_toArray,List.set_cons_zero,List.set_cons_succ])
    have nB:∀q,ob yo q=true->vA.heap.size<=q:=fun q hq=>(hB.block hq).1;have hB:=hB.base_le (b':=w1.drew.heap.size) (EA).size;have bG:=bG.ext0 eB;have glA:=Nat.lt_of_lt_of_le glA eB.size;have hA:=a0T QC.elem hA eB nB;have EB:Ext w1.drew vB:=EA.trans eB;refine a0a hOnce (i:=7) (oi:=⟨_,_,_,_,_,_⟩) (v:=?_) rfl (by kernel_rfl) (fun _ _ _ h=>h) (by assumption) (by rfl) (fun w hSw=>?_) ?_
    rotate_left
    ·(try dsimp only at hSw)
     go_simp
     all_goals with_reducible rfl
    (try simp only[Act.put,List.setIfInBounds_toArray,List.set_cons_zero,List.set_cons_succ])
    refine a0s (i:=9) (o:=⟨_,_,_,_,_,_⟩) (by kernel_rfl) rfl (by decide) (by kernel_rfl) (fun K hK=>?_)
    (refine a0z rfl rfl a7K rfl rfl bG rfl rfl (by intro v hv;simp at hv;rcases hv with rfl|rfl|rfl|rfl|rfl|rfl|rfl|rfl<;>rfl) ?_;intro w9 y1 y2)
    refine hK.out _ _ ?_;clear hK K
    (try simp only[Act.put])
    have hA9:OL QC 3 (un (un Z0 (some ⟨gA,0,none⟩)) yo) w1.drew.heap.size 45 w9 xo c (List.replicate c 0):=by
     have h:=hA.ext QC.elem (Z:=un (un Z0 (some ⟨gA,0,none⟩)) yo) y2 (fun q _ hq=>by simp[un,hq]) (fun _ _ h=>h)
     first|exact h|(rw[a0U]at h;exact h)
    have hB9:OL QC 3 (un (un Z0 (some ⟨gA,0,none⟩)) xo) w1.drew.heap.size 45 w9 yo n (List.replicate n 0):=by
     have h:=hB.ext QC.elem (Z:=un (un Z0 (some ⟨gA,0,none⟩)) xo) y2 (fun q _ hq=>by simp[un,hq]) (fun _ _ h=>h)
     first|exact h|(rw[a0U]at h;exact h)
    have hE9:Ext w1 w9:=ExtX.box (hE0.trans EB) y2 hgw;have hlt9:=Nat.lt_of_lt_of_le glA y2.size;go_wp2_with fail
    go_meet
    case rel=>exact⟨gA,xo,yo,rfl,y1,hA9,hB9,hgw,hlt9,hE9⟩
   ·skip
    (refine a0O (R:=QC) rfl rfl a0D QC.elem (0:Rat) (fun _=>QC.zero _) (un Z0 (some ⟨gA,0,none⟩)) (a1c (hX0.ext EG) glA) vG.heap.size (Nat.le_refl _) n rfl rfl rfl (by omega) (by omega) ?_;intro yo vB hB eB)
    refine hK.out _ _ trivial (fun hHeld=>?_);clear hK K
    (try simp only[Act.put,List.setIfInBounds_toArray,List.set_cons_zero,List.set_cons_succ])
    have nB:∀q,ob yo q=true->vG.heap.size<=q:=fun q hq=>(hB.block hq).1;have hB:=hB.base_le (b':=w1.drew.heap.size) (EG).size;have bG:=bG.ext0 eB;have glA:=Nat.lt_of_lt_of_le glA eB.size;have EB:Ext w1.drew vB:=EG.trans eB;refine a0m (i:=3) (o:=⟨_,_,_,_,_,_⟩) (by kernel_rfl) rfl (fun K hK=>?_)
    (refine a0O (R:=QC) rfl rfl a0D QC.elem (0:Rat) (fun _=>QC.zero _) (un (un Z0 (some ⟨gA,0,none⟩)) yo) (a2O (a1c (hX0.ext EB) glA) fun q hq=>(hB.block hq).2) vB.heap.size (Nat.le_refl _) c rfl rfl rfl (by omega) (by omega) ?_;intro xo vA hA eA)
    refine hK.out _ _ trivial (fun hHeld=>?_);clear hK K
    (try simp only[Act.put,List.setIfInBounds_toArray,List.set_cons_zero,List.set_cons_succ])
    have nA:∀q,ob xo q=true->vB.heap.size<=q:=fun q hq=>(hA.block hq).1;have hA:=hA.base_le (b':=w1.drew.heap.size) (EB).size;have bG:=bG.ext0 eA;have glA:=Nat.lt_of_lt_of_le glA eA.size;have hB:=a0T QC.elem hB eA nA;have EA:Ext w1.drew vA:=EB.trans eA;refine a0a hOnce (i:=7) (oi:=⟨_,_,_,_,_,_⟩) (v:=?_) rfl (by kernel_rfl) (fun _ _ _ h=>h) (by assumption) (by rfl) (fun w hSw=>?_) ?_
    rotate_left
    ·(try dsimp only at hSw)
     go_simp
     all_goals with_reducible rfl
    (try simp only[Act.put,List.setIfInBounds_toArray,List.set_cons_zero,List.set_cons_succ])
    refine a0s (i:=9) (o:=⟨_,_,_,_,_,_⟩) (by kernel_rfl) rfl (by decide) (by kernel_rfl) (fun K hK=>?_)
    (refine a0z rfl rfl a7K rfl rfl bG rfl rfl (by intro v hv;simp at hv;rcases hv with rfl|rfl|rfl|rfl|rfl|rfl|rfl|rfl<;>rfl) ?_;intro w9 y1 y2)
    refine hK.out _ _ ?_;clear hK K
    (try simp only[Act.put])
    have hA9:OL QC 3 (un (un Z0 (some ⟨gA,0,none⟩)) yo) w1.drew.heap.size 45 w9 xo c (List.replicate c 0):=by
     have h:=hA.ext QC.elem (Z:=un (un Z0 (some ⟨gA,0,none⟩)) yo) y2 (fun q _ hq=>by simp[un,hq]) (fun _ _ h=>h)
     first|exact h|(rw[a0U]at h;exact h)
    have hB9:OL QC 3 (un (un Z0 (some ⟨gA,0,none⟩)) xo) w1.drew.heap.size 45 w9 yo n (List.replicate n 0):=by
     have h:=hB.ext QC.elem (Z:=un (un Z0 (some ⟨gA,0,none⟩)) xo) y2 (fun q _ hq=>by simp[un,hq]) (fun _ _ h=>h)
     first|exact h|(rw[a0U]at h;exact h)
    have hE9:Ext w1 w9:=ExtX.box (hE0.trans EA) y2 hgw;have hlt9:=Nat.lt_of_lt_of_le glA y2.size;go_wp2_with fail
    go_meet
    case rel=>exact⟨gA,xo,yo,rfl,y1,hA9,hB9,hgw,hlt9,hE9⟩
 case rest=>
  obtain⟨g,co,lo,rfl,bg,hC0,hL0,hgw,hglt,hEc⟩:=hcut;obtain⟨Z1,hZ1⟩:∃Z1,un Z0 (some ⟨g,0,none⟩)=Z1:=⟨_,rfl⟩;rw[hZ1]at hC0 hL0;have hgZ:∀k,ob (some ⟨g,0,none⟩) k=true->Z1 k=true:=fun k hk=>by rw[<-hZ1];exact a0q hk
  have hgg:Z1 g=true:=hgZ g (by simp[ob]);have hZ10:Hid (∀k,k<w1.heap.size->Z1 k=true->Z0 k=true):=hid fun k hk h=>by
   rw[<-hZ1]at h;by_cases h0:Z0 k=true
   ·exact h0
   ·have:g=k:=by simpa[un,h0,ob]using h
    omega
  have hXZ:Hid (∀k,X k=true->Z1 k=true):=hid fun k hk=>by rw[<-hZ1];exact a0k (hXZ0.out k hk)
  have hb3:Hid (∀k,ob (some ⟨b,0,none⟩) k=true->Z1 k=true):=hid fun k hk=>by rw[<-hZ1];exact a0k (hb0.out k hk)
  have hX1c:HX Z1 wc:=fun k hk=>by
   rw[<-hZ1]at hk;by_cases h0:Z0 k=true
   ·exact hX1.ext hEc k h0
   ·have:g=k:=by simpa[un,h0,ob]using hk
    omega
  have hcg:ob co g=false:=by
   cases hq:ob co g
   ·rfl
   ·have:=(a1q (hC0.1 g hq)).1;rw[hgg]at this;cases this
  have hlg:ob lo g=false:=by
   cases hq:ob lo g
   ·rfl
   ·have:=(a1q (hL0.1 g hq)).1;rw[hgg]at this;cases this
  have hhco:Hd co c:=by have:=hC0.hd;rwa[List.length_replicate]at this
  have hhlo:Hd lo n:=by have:=hL0.hd;rwa[List.length_replicate]at this
  have hbase:w1.drew.heap.size=w1.heap.size:=rfl;rw[hbase]at hC0 hL0;have hhuo:Hd uo c:=by have:=hus.hd;rwa[hul.out]at this
  have hcell:=hid fun j (hj:j<us.length) wr (h:Ext w1 wr)=>h.cell (a1e (hus.bl j hj));have iu:∀j,j<c->∀W,(Instr.indexAt 49 (.slice uo c uc) (.int .i64 (j:Int))).run Tryz.prog W= .ok (.pointer (some (adr uo j))) W:=fun j hj=>a0C b2T uo c uc .i64 j hhuo hj rfl;have iu':=hid iu;have hFS0:FS Z1 w1.heap.size g uo uc c n co lo (rkN us 0) (List.replicate c 0) (List.replicate n 0) wc:=⟨bg,hC0,hL0⟩;clear hC0 hL0 bg hX0 hE0 hZ1 hbase iu;go_wp2_with fail
  go_loopw [10] (fun kv wr=>∃j:Nat,kv= .int .i64 j/\j<=c/\FS Z1 w1.heap.size g uo uc c n co lo (rkN us j) (List.replicate c 0) (List.replicate n 0) wr/\HX Z1 wr/\Ext w1 wr) (fun kv _=>c - (intOf kv).toNat)
  case atStart=>exact⟨0,rfl,Nat.zero_le _,hFS0,hX1c,hEc⟩
  case round=>
   clear hFS0 hX1c hEc hglt;obtain⟨j,rfl,hj,⟨bx,hC1,hL1⟩,hXr,hEr⟩:=hrel;by_cases hlt:j<c
   ·have hju:j<us.length:=by rw[hul.out];exact hlt
    have kb:=hcell.out j hju wr hEr;have hgd:Hid (us.getD j false=us[j]):=hid (by simp[List.getD_eq_getElem?_getD,hju]);obtain⟨b1,hb1⟩:∃b1,us[j]=b1:=⟨_,rfl⟩;rw[hb1]at kb hgd;have iu:=iu'.out j hlt;have hrkl:=b6l us j;have p0:=bx.cell 0 rfl;clear hb1;cases b1
    ·have hno:=hid (b6k hgd.out)
     clear hgd;rw[<-hno.out]at bx;clear hno;go_wp2_with fail
     go_roundw
     case rel=>exact⟨j+1,by go_num,by omega,⟨bx,hC1,hL1⟩,hXr,hEr⟩
     case measure=>simp[intOf];omega
    ·have hyes:=hid (b3s hgd.out)
     obtain⟨r,hr⟩:∃r,rkN us j=r:=⟨_,rfl⟩;rw[hr]at hyes hrkl bx p0;clear hgd hr;go_wp2_with ((show wpList _ _ _ (⟨_, .store _ _ _,_,_,_,_⟩::_) _ _);refine a3R (v:= .int .i64 _) b0y rfl rfl rfl rfl bx (by simp) ?_;intro w5 v5 x5)
     have hE5:Ext w1 w5:=ExtX.box hEr x5 hgw;have hX5:HX Z1 w5:=fun q hq=>Nat.lt_of_lt_of_le (hXr q hq) x5.size;have hC5:=hC1.ext QC.elem (Z:=un Z1 lo) x5 (fun q _ hq=>a0k (hgZ q hq)) (fun _ _ h=>h);have hL5:=hL1.ext QC.elem (Z:=un Z1 co) x5 (fun q _ hq=>a0k (hgZ q hq)) (fun _ _ h=>h);have v6:Bx w5 g #[.int .i64 ((rkN us (j+1):Nat):Int), .slice uo c uc, .slice co c c, .slice none 0 0, .bool false, .slice none 0 0, .slice none 0 0, .slice lo n n] 51:=by
      rw[hyes.out];simpa using v5
     clear p0 v5;go_roundw
     case rel=>exact⟨j+1,by go_num,by omega,⟨v6,hC5,hL5⟩,hX5,hE5⟩
     case measure=>simp[intOf];omega
   ·have hjc:j=c:=by omega
    subst hjc;rw[hrkc.out]at bx;have hXc:HX (un Z1 co) wr:=a2O hXr fun k hk=>(hC1.block hk).2;have hX2:HX (un (un Z1 co) lo) wr:=a2O hXc fun k hk=>(hL1.block hk).2;have hcow:∀k,k<w1.heap.size->ob co k=false:=fun k hk=>hC1.ob_lt hk;have hlow:∀k,k<w1.heap.size->ob lo k=false:=fun k hk=>hL1.ob_lt hk;obtain⟨Z2,hZ2⟩:∃Z2,un (un Z1 co) lo=Z2:=⟨_,rfl⟩;rw[hZ2]at hX2;have hg2:Z2 g=true:=by rw[<-hZ2];exact a0k (a0k hgg)
    have hc2:∀k,ob co k=true->Z2 k=true:=fun k hk=>by rw[<-hZ2];exact a0k (a0q hk)
    have hl2:∀k,ob lo k=true->Z2 k=true:=fun k hk=>by rw[<-hZ2];exact a0q hk
    have hZ20:∀k,k<w1.heap.size->Z2 k=true->Z0 k=true:=fun k hk h=>by
     rw[<-hZ2]at h;refine hZ10.out k hk ?_;cases h0:Z1 k
     ·simp[un,h0,hcow k hk,hlow k hk]at h
     ·rfl
    have hZZ:=hid fun v (h:Ext w1 v)=>(b4N h hZ20:Le (mk Z0 w1) (mk Z2 v));have huZ:=hid fun v (h:Ext w1 v)=>MV.mono _ _ _ _ (hZZ.out v h) (huW.out w1 hE1);have htZ:=hid fun v (h:Ext w1 v)=>RV.mono _ _ _ _ (hZZ.out v h) (htW.out w1 hE1);have husZ:=hid fun v (h:Ext w1 v)=>hus.mono BlR.mono (hZZ.out v h);have hpk':=hid fun v (h:Ext w1 v) (hZ:HX Z2 v)=>hpk.out Z2 v uo uc hZ (huZ.out v h) (husZ.out v h);have hEr':=hEr;clear hpk hrkc;have p0:=bx.cell 0 rfl
    go_upto_if 62 with fail
    go_cut []from 60 to 138 (fun wx=>FS Z1 w1.heap.size g uo uc j n co lo m Cf L wx/\HX Z2 wx/\Ext w1 wx)
    case first=>
     by_cases hm0:m=0
     ·have hcz0:=hcz.out hm0
      have hlz0:=hlz.out hm0;rw[<-hcz0]at hC1;rw[<-hlz0]at hL1;subst hm0;go_wp2_with fail
      go_meet
      case rel=>exact⟨⟨bx,hC1,hL1⟩,hX2,hEr⟩
     ·have h1m:1<=m:=Nat.one_le_iff_ne_zero.2 hm0
      clear hcz hlz hm0;have hI0:0<m:=h1m;have hd0:decide ((0:Int)<(m:Int))=true:=decide_eq_true (by omega);go_wp2_with fail
      refine(hpk'.out wr hEr hX2).mono ?_;rintro ee w2 ⟨e2,u2,rfl,hu2⟩;have hX3:=hX2.ext e2;have hE2:=hEr.trans e2;clear p0 hpk';go_wp2_with fail
      refine(htr.out h1m Z2 w2 u2 hX3 hu2).mono ?_;rintro ee w3 ⟨e3,tv,rfl,htv⟩;have hX4:=hX3.ext e3;have hE3:=hE2.trans e3;have hu3:=mkx MC.mono hu2 e3;go_wp2_with fail
      refine(hmu.out h1m Z2 w3 tv u2 hX4 htv hu3).mono ?_;rintro ee w4 ⟨e4,gv,rfl,hgv⟩;have hX5:=hX4.ext e4;have hE4:=hE3.trans e4;go_wp2_with fail
      refine(hin.out h1m Z2 w4 gv hX5 hgv).mono ?_;rintro ee w5 ⟨e5,hor⟩;rcases hor with⟨hbad,_⟩|⟨_,iv,rfl,hiv⟩
      ·exact absurd hbad (hns.out h1m)
      have hX6:=hX5.ext e5;have hE5:=hE4.trans e5;have ht5:=mkx MC.mono htv (e4.trans e5);go_wp2_with fail
      refine(hap1.out h1m Z2 w5 tv hX6 ht5 (htZ.out w5 hE5)).mono ?_;rintro ee w6 ⟨e6,xy,rfl,hxy⟩;have hX7:=hX6.ext e6;have hE6:=hE5.trans e6;have hi6:=mkx MC.mono hiv e6;go_wp2_with fail
      refine(hap2.out h1m Z2 w6 iv xy V hX7 hi6 hxy hxyl'.out hxyb'.out).mono ?_;rintro ee w7 ⟨e7,bv,rfl,hbv⟩;rw[<-hbUe'.out]at hbv;have hX8:=hX7.ext e7;have hE7:=hE6.trans e7;have hi7:=mkx MC.mono hi6 e7;have e27:=e2.trans (e3.trans (e4.trans (e5.trans (e6.trans e7))));have hu7:=mkx MC.mono hu2 (e3.trans (e4.trans (e5.trans (e6.trans e7))));have bx7:=bx.ext0 e27;have hC7:=hC1.ext0 QC.elem e27;have hL7:=hL1.ext0 QC.elem e27;obtain⟨bo,bc,rfl,hbc,hbs⟩:=hbv;rw[hbul.out]at hbc |-;have hhb:Hd bo m:=by have:=hbs.hd;rw[hbul.out]at this;exact this
      have huv':=hid hu7;obtain⟨po,pc,rfl,hpc,hps⟩:=hu7;rw[hUl.out]at huv' hpc |-;have hhp:Hd po n:=by have:=hps.hd;rw[hUl.out]at this;exact this
      have hfz0:Hid (a3g Cf 0=List.replicate j 0):=hid (by rw[a7c,hcl.out]);have hfl0:Hid (a3g L 0=List.replicate n 0):=hid (by rw[a7c,hLl.out]);rw[<-hfz0.out]at hC7;clear htv hgv hiv hxy ht5 hi6 hu2 hu3 hap1 hmu htr hin hns bx hC1 hL1 hXc hcow hlow e2 e3 e4 e5 e6 e7 e27 hX2 hX3 hX4 hX5 hX6 hX7 hXr hE2 hE3 hE4 hE5 hE6;go_wp2_with fail
      go_loopw [22,23] (fun av jv wz=>∃q:Nat,jv= .int .i64 q/\av= .int .i64 (rkN us q:Int)/\q<=j/\FS Z1 w1.heap.size g uo uc j n co lo m (a3g Cf q) (List.replicate n 0) wz/\HX Z2 wz/\ExtX Z2 w7 wz/\Ext w1 wz) (fun _ jv _=>j - (intOf jv).toNat)
      case atStart=>exact⟨0,rfl,rfl,Nat.zero_le _,⟨bx7,hC7,hL7⟩,hX8,ExtX.refl _,hE7⟩
      case round=>
       clear bx7 hC7 hL7;obtain⟨q,rfl,rfl,hq,⟨bx,hC,hL⟩,hXw,hEk,hEw⟩:=hrel;by_cases hlq:q<j
       ·have hqu:q<us.length:=by rw[hul.out];exact hlq
        have hqC:q<Cf.length:=by rw[hcl.out];exact hlq
        have kb:=hcell.out q hqu wr hEw;have hgd:Hid (us.getD q false=us[q]):=hid (by simp[List.getD_eq_getElem?_getD,hqu]);obtain⟨b1,hb1⟩:∃b1,us[q]=b1:=⟨_,rfl⟩;rw[hb1]at kb hgd;have iu:=iu'.out q hlq;have hrkl:=b6l us q;obtain⟨hat1,hat2⟩:=hcat.out q hlq hqC;clear hb1;cases b1
        ·have hno:=hid (b6k hgd.out)
         have hsk:=hid (b1f hqC (hat2 hgd.out));clear hgd hat1 hat2;obtain⟨r,hr⟩:∃r,rkN us q=r:=⟨_,rfl⟩;rw[hr]at hno hrkl |-;rw[<-hsk.out]at hC;clear hr;go_wp2_with fail
         go_roundw
         case rel=>exact⟨q+1,by go_num,by rw[hno.out],by omega,⟨bx,hC,hL⟩,hXw,hEk,hEw⟩
         case measure=>simp[intOf];omega
        ·have hyes:=hid (b3s hgd.out)
         obtain⟨hrm,hbq⟩:=hat1 hgd.out;have hset:=hid (a8F hqC);have hqb:=hid hbq;obtain⟨r,hr⟩:∃r,rkN us q=r:=⟨_,rfl⟩;simp only[hr]at hyes hrkl hrm hqb |-;have hrm':r<m:=by rw[hbul.out]at hrm;exact hrm
         obtain⟨ge,oe,s1,a1,n1,c1,d1,k1,e1,hadr,hXe,hce,hqe⟩:=hbs.rat QC.shaped r hrm;rw[hqb.out]at hqe;obtain⟨v,hv⟩:∃v,Cf[q]=v:=⟨_,rfl⟩;rw[hv]at hqe hset;obtain⟨gt,ot,hgt⟩:∃gt ot,adr co (q*3)=⟨gt,ot,none⟩:=⟨_,_,rfl⟩;have hEd:Ext wr wr.drew:=(ExtX.refl wr).drew;have bxd:=bx.ext0 hEd;obtain⟨z1,z2,z3⟩:=hce.out Z2 wr hEk hXe;have hS:wr.drew.cell? ⟨g,2,none⟩=some (.slice co j j)/\wr.drew.cell? ⟨ge,oe,none⟩=some (.bool s1)/\wr.drew.cell? ⟨ge,oe+1,none⟩=some (.slice a1 n1 c1)/\wr.drew.cell? ⟨ge,oe+2,none⟩=some (.slice d1 k1 e1):=⟨bxd.cell 2 rfl,hEd.cell z1,hEd.cell z2,hEd.cell z3⟩;have i1:∀W,(Instr.indexAt 24 (.slice bo m bc) (.int .i64 (r:Int))).run Tryz.prog W= .ok (.pointer (some ⟨ge,oe,none⟩)) W:=by rw[<-hadr];exact a0h a0D bo m bc .i64 r hhb hrm'
         have i2:∀W,(Instr.indexAt 24 (.slice co j j) (.int .i64 (q:Int))).run Tryz.prog W= .ok (.pointer (some ⟨gt,ot,none⟩)) W:=by rw[<-hgt];exact a0h a0D co j j .i64 q hhco hlq
         have hud:QC (mk (un (un Z1 lo) co) wr.drew) (.agg #[.bool s1, .slice a1 n1 c1, .slice d1 k1 e1]) v:=by
          have h9:=mkx QC.mono (QC.mono _ _ _ _ (a0x hEk fun _ h=>h) hqe) hEd;rw[<-hZ2,a0U]at h9;rw[a0U]
          first|exact h9|(rw[a0U];exact h9)|(refine QC.mono _ _ _ _ (a1E fun k _ hk=>?_) h9;simpa[un,Bool.or_comm,Bool.or_assoc,Bool.or_left_comm]using hk)
         have hCd:=hC.ext0 QC.elem hEd;have hfq:q<(a3g Cf q).length:=by rw[a8E (by omega)];exact hqC
         clear hgd hat1 hat2 hbq hqb hr hce hqe hadr hv z1 z2 z3 hrm;go_wp2_with fail
         (try simp only[Act.put])
         refine a0M 8 (fun w'=>w'.cell? ⟨g,2,none⟩=some (.slice co j j)/\w'.cell? ⟨ge,oe,none⟩=some (.bool s1)/\w'.cell? ⟨ge,oe+1,none⟩=some (.slice a1 n1 c1)/\w'.cell? ⟨ge,oe+2,none⟩=some (.slice d1 k1 e1)) (by kernel_rfl) (by kernel_rfl) hS (fun hHeld hOnce=>?_);refine a0a hOnce (i:=0) (oi:=⟨_,_,_,_,_,_⟩) (v:=?_) rfl (by kernel_rfl) (fun _ _ _ h=>h) (by assumption) (by rfl) (fun w hSw=>?_) ?_
         rotate_left
         ·(try dsimp only at hSw)
          go_simp
          all_goals with_reducible rfl
         (try simp only[Act.put,List.setIfInBounds_toArray,List.set_cons_zero,List.set_cons_succ])
         refine a0a hOnce (i:=1) (oi:=⟨_,_,_,_,_,_⟩) (v:=?_) rfl (by kernel_rfl) (fun _ _ _ h=>h) (by assumption) (by rfl) (fun w hSw=>?_) ?_
         rotate_left
         ·(try dsimp only at hSw)
          go_simp
          all_goals with_reducible rfl
         (try simp only[Act.put,List.setIfInBounds_toArray,List.set_cons_zero,List.set_cons_succ])
         refine a0a hOnce (i:=2) (oi:=⟨_,_,_,_,_,_⟩) (v:=?_) rfl (by kernel_rfl) (fun _ _ _ h=>h) (by assumption) (by rfl) (fun w hSw=>?_) ?_
         rotate_left
         ·(try dsimp only at hSw)
          go_simp
          all_goals with_reducible rfl
         (try simp only[Act.put,List.setIfInBounds_toArray,List.set_cons_zero,List.set_cons_succ])
         refine a0a hOnce (i:=3) (oi:=⟨_,_,_,_,_,_⟩) (v:=?_) rfl (by kernel_rfl) (fun _ _ _ h=>h) (by assumption) (by rfl) (fun w hSw=>?_) ?_
         rotate_left
         ·(try dsimp only at hSw)
          go_simp
          all_goals with_reducible rfl
         (try simp only[Act.put,List.setIfInBounds_toArray,List.set_cons_zero,List.set_cons_succ])
         refine a0a hOnce (i:=4) (oi:=⟨_,_,_,_,_,_⟩) (v:=?_) rfl (by kernel_rfl) (fun _ _ _ h=>h) (by assumption) (by rfl) (fun w hSw=>?_) ?_
         rotate_left
         ·(try dsimp only at hSw)
          go_simp
          all_goals with_reducible rfl
         (try simp only[Act.put,List.setIfInBounds_toArray,List.set_cons_zero,List.set_cons_succ])
         refine a0a hOnce (i:=5) (oi:=⟨_,_,_,_,_,_⟩) (v:=?_) rfl (by kernel_rfl) (fun _ _ _ h=>h) (by assumption) (by rfl) (fun w hSw=>?_) ?_
         rotate_left
         ·(try dsimp only at hSw)
          go_simp
          all_goals with_reducible rfl
         (try simp only[Act.put,List.setIfInBounds_toArray,List.set_cons_zero,List.set_cons_succ])
         refine a0a hOnce (i:=6) (oi:=⟨_,_,_,_,_,_⟩) (v:=?_) rfl (by kernel_rfl) (fun _ _ _ h=>h) (by assumption) (by rfl) (fun w hSw=>?_) ?_
         rotate_left
         ·(try dsimp only at hSw)
          go_simp
          all_goals with_reducible rfl
         (try simp only[Act.put,List.setIfInBounds_toArray,List.set_cons_zero,List.set_cons_succ])
         refine a0a hOnce (i:=7) (oi:=⟨_,_,_,_,_,_⟩) (v:=?_) rfl (by kernel_rfl) (fun _ _ _ h=>h) (by assumption) (by rfl) (fun w hSw=>?_) ?_
         rotate_left
         ·(try dsimp only at hSw)
          go_simp
          all_goals with_reducible rfl
         (try simp only[Act.put,List.setIfInBounds_toArray,List.set_cons_zero,List.set_cons_succ])
         refine a0s (i:=8) (o:=⟨_,_,_,_,_,_⟩) (by kernel_rfl) rfl (by decide) (by kernel_rfl) (fun K hK=>?_)
         (refine a4n rfl rfl a6E QC.elem q rfl hgt hCd hfq (.agg #[.bool s1, .slice a1 n1 c1, .slice d1 k1 e1]) v rfl hud ?_;intro w9 hC9 hE9)
         refine hK.out _ _ ?_;clear hK K
         (try simp only[Act.put])
         rw[hset.out]at hC9;have hEz:=(ExtX.of hEd).trans hE9;have bx9:=bx.ext hEz hcg;have hL9:=hL.ext QC.elem (Z:=un Z1 co) hEz (fun k _ hk=>a0q hk) (fun _ _ h=>h);have hX9:HX Z2 w9:=fun k hk=>Nat.lt_of_lt_of_le (hXw k hk) hEz.size;have hEk9:=hEk.trans (hEz.weaken fun k _ hk=>by
          cases h0:ob co k
          ·rfl
          ·rw[hc2 k h0]at hk;cases hk)
         have hEw9:Ext w1 w9:=hEw.then_ hEz fun k hk _=>hC.ob_lt hk;clear hHeld hOnce hS i1 i2 hud hCd;go_wp2_with fail
         go_roundw
         case rel=>exact⟨q+1,by go_num,by rw[hyes.out];go_num,by omega,⟨bx9,hC9,hL9⟩,hX9,hEk9,hEw9⟩
         case measure=>simp[intOf];omega
       ·have hqj:q=j:=by omega
        subst hqj;have hff:a3g Cf q=Cf:=by rw[<-hcl.out];exact a7d Cf
        rw[hff]at hC;rw[<-hfl0.out]at hL;clear hcat hbs hcell hff;go_wp2_with fail
        go_loopw [24] (fun iv wz=>∃i:Nat,iv= .int .i64 i/\i<=n/\FS Z1 w1.heap.size g uo uc q n co lo m Cf (a3g L i) wz/\HX Z2 wz/\ExtX Z2 w7 wz/\Ext w1 wz) (fun iv _=>n - (intOf iv).toNat)
        case atStart=>exact⟨0,rfl,Nat.zero_le _,⟨bx,hC,hL⟩,hXw,hEk,hEw⟩
        case round=>
         clear bx hC hL hXw hEk hEw;obtain⟨i,rfl,hi,⟨bx,hC,hL⟩,hXw,hEk,hEw⟩:=hrel;by_cases hli:i<n
         ·have hiU:i<U.length:=by rw[hUl.out];exact hli
          have hiL:i<L.length:=by rw[hLl.out];exact hli
          obtain⟨ra,rc,hXb,hct,hclt,hqt⟩:=hps.row i hiU;have hrow:RC (mk Z2 w7) (.slice ra U[i].length rc) U[i]:=⟨ra,rc,rfl,hclt,hqt⟩;have hrU:=hid (List.getElem_mem hiU);have hrl:=hid (hUr.out U[i] hrU.out);have hLi:=hLr.out i hiU hiL;have hset:=hid (a8F hiL);rw[hrl.out]at hct hrow;obtain⟨row,hrw⟩:∃row,U[i]=row:=⟨_,rfl⟩;rw[hrw]at hrow hrl hLi hrU;rw[hLi]at hset;have k00:=hct.out Z2 wr hEk hXb;have irow:∀W,(Instr.indexAt 23 (.slice po n pc) (.int .i64 (i:Int))).run Tryz.prog W= .ok (.pointer (some (adr po i))) W:=a0C a0r po n pc .i64 i hhp hli rfl;have hrow':=RC.mono _ _ _ _ (a0x hEk fun _ h=>h) hrow;have hir:=MC.mono _ _ _ _ (a0x hEk fun _ h=>h) hi7;have ha3:=hap2.out h1m Z2 wr iv _ row hXw hir hrow' hrl.out (hrowB.out row hrU.out);clear hrw hLi hir;go_wp2_with fail
          refine ha3.mono ?_;rintro ee w8 ⟨e8,vv,rfl,hvv⟩;clear ha3;have hEd:Ext w8 w8.drew:=(ExtX.refl w8).drew;have e8d:=e8.trans hEd;have bx8:=bx.ext0 e8d;have hC8:=hC.ext0 QC.elem e8d;have hL8:=hL.ext0 QC.elem e8d;have hX8':=hXw.ext e8d;have hEk8:ExtX Z2 w7 w8.drew:=hEk.trans (ExtX.of e8d);have hE18:=hEw.trans e8d;have hrow8:=mkx RC.mono hrow' e8d;have hvv8:=mkx RC.mono hvv hEd;have hfq:i<(a3g L i).length:=by rw[a8E (by omega)];exact hiL
          obtain⟨gt,ot,hgt⟩:∃gt ot,adr lo (i*3)=⟨gt,ot,none⟩:=⟨_,_,rfl⟩;have i2:∀W,(Instr.indexAt 24 (.slice lo n n) (.int .i64 (i:Int))).run Tryz.prog W= .ok (.pointer (some ⟨gt,ot,none⟩)) W:=by rw[<-hgt];exact a0h a0D lo n n .i64 i hhlo hli
          have hS:Hid (∀w',Ext w8.drew w'->w'.cell? ⟨g,7,none⟩=some (.slice lo n n)/\w'.cell? (adr po i)=some (.slice ra m rc)):=hid fun w' h=>⟨(bx8.ext0 h).cell 7 rfl,hct.out Z2 w' (hEk8.trans (ExtX.of h)) hXb⟩;have hd8:=hdo3.out Z2 w8.drew _ vv row hX8' hrU.out hrow8 hvv8;clear k00 hrow' hrow hvv bx hC hL hXw hEk hEw;go_wp2_with fail
          (try simp only[Act.put])
          refine a0M 10 (fun w'=>w'.cell? ⟨g,7,none⟩=some (.slice lo n n)/\w'.cell? (adr po i)=some (.slice ra m rc)) (by kernel_rfl) (by kernel_rfl) (hS.out _ (ExtX.refl _)) (fun hHeld hOnce=>?_);refine a0a hOnce (i:=0) (oi:=⟨_,_,_,_,_,_⟩) (v:=?_) rfl (by kernel_rfl) (fun _ _ _ h=>h) (by assumption) (by rfl) (fun w hSw=>?_) ?_
          rotate_left
          ·(try dsimp only at hSw)
           go_simp
           all_goals with_reducible rfl
          (try simp only[Act.put,List.setIfInBounds_toArray,List.set_cons_zero,List.set_cons_succ])
          refine a0a hOnce (i:=1) (oi:=⟨_,_,_,_,_,_⟩) (v:=?_) rfl (by kernel_rfl) (fun _ _ _ h=>h) (by assumption) (by rfl) (fun w hSw=>?_) ?_
          rotate_left
          ·(try dsimp only at hSw)
           go_simp
           all_goals with_reducible rfl
          (try simp only[Act.put,List.setIfInBounds_toArray,List.set_cons_zero,List.set_cons_succ])
          refine a0a hOnce (i:=2) (oi:=⟨_,_,_,_,_,_⟩) (v:=?_) rfl (by kernel_rfl) (fun _ _ _ h=>h) (by assumption) (by rfl) (fun w hSw=>?_) ?_
          rotate_left
          ·(try dsimp only at hSw)
           go_simp
           all_goals with_reducible rfl
          (try simp only[Act.put,List.setIfInBounds_toArray,List.set_cons_zero,List.set_cons_succ])
          refine a0a hOnce (i:=3) (oi:=⟨_,_,_,_,_,_⟩) (v:=?_) rfl (by kernel_rfl) (fun _ _ _ h=>h) (by assumption) (by rfl) (fun w hSw=>?_) ?_
          rotate_left
          ·(try dsimp only at hSw)
           go_simp
           all_goals with_reducible rfl
          (try simp only[Act.put,List.setIfInBounds_toArray,List.set_cons_zero,List.set_cons_succ])
          refine a0a hOnce (i:=4) (oi:=⟨_,_,_,_,_,_⟩) (v:=?_) rfl (by kernel_rfl) (fun _ _ _ h=>h) (by assumption) (by rfl) (fun w hSw=>?_) ?_
          rotate_left
          ·(try dsimp only at hSw)
           go_simp
           all_goals with_reducible rfl
          (try simp only[Act.put,List.setIfInBounds_toArray,List.set_cons_zero,List.set_cons_succ])
          refine a0a hOnce (i:=5) (oi:=⟨_,_,_,_,_,_⟩) (v:=?_) rfl (by kernel_rfl) (fun _ _ _ h=>h) (by assumption) (by rfl) (fun w hSw=>?_) ?_
          rotate_left
          ·(try dsimp only at hSw)
           go_simp
           all_goals with_reducible rfl
          (try simp only[Act.put,List.setIfInBounds_toArray,List.set_cons_zero,List.set_cons_succ])
          refine a0a hOnce (i:=6) (oi:=⟨_,_,_,_,_,_⟩) (v:=?_) rfl (by kernel_rfl) (fun _ _ _ h=>h) (by assumption) (by rfl) (fun w hSw=>?_) ?_
          rotate_left
          ·(try dsimp only at hSw)
           go_simp
           all_goals with_reducible rfl
          (try simp only[Act.put,List.setIfInBounds_toArray,List.set_cons_zero,List.set_cons_succ])
          refine a0a hOnce (i:=7) (oi:=⟨_,_,_,_,_,_⟩) (v:=?_) rfl (by kernel_rfl) (fun _ _ _ h=>h) (by assumption) (by rfl) (fun w hSw=>?_) ?_
          rotate_left
          ·(try dsimp only at hSw)
           go_simp
           all_goals with_reducible rfl
          (try simp only[Act.put,List.setIfInBounds_toArray,List.set_cons_zero,List.set_cons_succ])
          refine a0m (i:=8) (o:=⟨_,_,_,_,_,_⟩) (by kernel_rfl) rfl (fun K hK=>?_);go_simp
          ((with_reducible refine hd8.mono ?_);rintro ee w9 ⟨e9,dv,rfl,hdv⟩)
          refine hK.out _ _ (hS.out _ e9) (fun hHeld=>?_);clear hK K
          (try simp only[Act.put,List.setIfInBounds_toArray,List.set_cons_zero,List.set_cons_succ])
          obtain⟨s6,a6,n6,c6,d6,k6,e6,rfl⟩:=hdv.shape;have hL9:=hL8.ext0 QC.elem e9;have hC9:=hC8.ext0 QC.elem e9;have bx9:=bx8.ext0 e9;have hE19:=hE18.trans e9;have hEk9:ExtX Z2 w7 w9:=hEk8.trans (ExtX.of e9);have hX9:=hX8'.ext e9;have hdv':QC (mk (un (un Z1 co) lo) w9) (.agg #[.bool s6, .slice a6 n6 c6, .slice d6 k6 e6]) (a2d row (a2Z I row)):=by rw[hZ2];exact hdv
          refine a0a hOnce (i:=9) (oi:=⟨_,_,_,_,_,_⟩) (v:=?_) rfl (by kernel_rfl) (fun _ _ _ h=>h) (by assumption) (by rfl) (fun w hSw=>?_) ?_
          rotate_left
          ·(try dsimp only at hSw)
           go_simp
           all_goals with_reducible rfl
          (try simp only[Act.put,List.setIfInBounds_toArray,List.set_cons_zero,List.set_cons_succ])
          refine a0s (i:=10) (o:=⟨_,_,_,_,_,_⟩) (by kernel_rfl) rfl (by decide) (by kernel_rfl) (fun K hK=>?_)
          (refine a4n rfl rfl a6E QC.elem i rfl hgt hL9 hfq (.agg #[.bool s6, .slice a6 n6 c6, .slice d6 k6 e6]) _ rfl hdv' ?_;intro wq hLq hEq)
          refine hK.out _ _ ?_;clear hK K
          (try simp only[Act.put])
          rw[hset.out]at hLq;have bxq:=bx9.ext hEq hlg;have hCq:=hC9.ext QC.elem (Z:=un Z1 lo) hEq (fun k _ hk=>a0q hk) (fun _ _ h=>h);have hXq:HX Z2 wq:=fun k hk=>Nat.lt_of_lt_of_le (hX9 k hk) hEq.size;have hEkq:=hEk9.trans (hEq.weaken fun k _ hk=>by
           cases h0:ob lo k
           ·rfl
           ·rw[hl2 k h0]at hk;cases hk)
          have hEwq:Ext w1 wq:=hE19.then_ hEq fun k hk _=>hL9.ob_lt hk;clear hHeld hOnce hS i2 hd8 hdv hdv';go_wp2_with fail
          go_roundw
          case rel=>exact⟨i+1,by go_num,by omega,⟨bxq,hCq,hLq⟩,hXq,hEkq,hEwq⟩
          case measure=>simp[intOf];omega
         ·have hin:i=n:=by omega
          subst hin;have hff:a3g L i=L:=by rw[<-hLl.out];exact a7d L
          rw[hff]at hL;go_wp2_with fail
          go_meet
          case rel=>exact⟨⟨bx,hC,hL⟩,hXw,hEw⟩
    case rest=>
     obtain⟨⟨bx,hC,hL⟩,hXw,hEw⟩:=hcut;clear hpk' hcz hlz hcat hap1 hap2 hmu htr hin hns hdo3 hlb hrowB hLr hcell iu' p0;obtain⟨Z3,hZ3⟩:∃Z3,un Z1 lo=Z3:=⟨_,rfl⟩;obtain⟨Z4,hZ4⟩:∃Z4,un Z1 co=Z4:=⟨_,rfl⟩;have h32:∀k,Z3 k=true->Z2 k=true:=fun k hk=>by
      rw[<-hZ3]at hk;rw[<-hZ2];rcases(by simpa[un]using hk:Z1 k=true\/ob lo k=true)with h|h
      ·exact a0k (a0k h)
      ·exact a0q h
     have hg3:∀k,ob (some ⟨g,0,none⟩) k=true->Z3 k=true:=fun k hk=>by rw[<-hZ3];exact a0k (hgZ k hk)
     have hg4:∀k,ob (some ⟨g,0,none⟩) k=true->Z4 k=true:=fun k hk=>by rw[<-hZ4];exact a0k (hgZ k hk)
     have hX3:HX Z3 wc:=fun k hk=>hXw k (h32 k hk);have hCs:=hC.sl QC.elem;have hLs:=hL.sl QC.elem;rw[hZ3]at hCs;rw[hZ4]at hLs;have hco:RC (mk Z3 wc) (.slice co j j) Cf:=⟨co,j,by rw[hcl.out],by rw[hcl.out];exact Nat.le_refl _,hCs⟩;have hlo:RC (mk Z4 wc) (.slice lo n n) L:=⟨lo,n,by rw[hLl.out],by rw[hLl.out];exact Nat.le_refl _,hLs⟩;have hux:=MV.mono _ _ _ _ (a1E fun k _ hk=>h32 k hk) (huZ.out wc hEw);have hty:=RV.mono _ _ _ _ (a1E fun k _ hk=>h32 k hk) (htZ.out wc hEw);have husd:=(husZ.out wc hEw).mono BlR.mono (a1E (X:=Z3) fun k _ hk=>h32 k hk);have hbg:b≠g:=by have:=hE1.size;omega
     have hwg:w.heap.size<=g:=by have:=hE1.size;omega
     have q2:=bx.cell 2 rfl;clear hCs hLs hC hL;go_wp2_with fail
     refine(hrs.out Z3 wc _ hX3 hux hty hco).mono ?_;rintro ee w2 ⟨e2,rv,rfl,hrv⟩;have hrv':=hid hrv;obtain⟨ro,rc,rfl,hrc,hrs'⟩:=hrv;rw[hrl.out]at hrv' hrc |-;have bx2:=bx.ext0 e2;have b2:=b0.ext0 (hE1.trans (hEw.trans e2));have hX32:=hX3.ext e2;clear q2 hrs' bx hrs;go_wp2_with ((show wpList _ _ _ (⟨_, .store _ _ _,_,_,_,_⟩::_) _ _);refine a3R (v:= .slice ro n rc) b5X rfl rfl rfl rfl bx2 (by simp) ?_;intro w3 v3 x3;have q3:=v3.cell 3 rfl)
     have hX33:HX Z3 w3:=fun k hk=>Nat.lt_of_lt_of_le (hX32 k hk) x3.size;have b3:=b2.ext x3 (a0b hbg);have hrv3:=RC.mono _ _ _ _ (a0x x3 hg3) hrv'.out;have hd3:=hdo.out Z3 w3 _ hX33 hrv3;refine hd3.mono ?_;rintro ee w4 ⟨e4,dv,rfl,hdv⟩;have hdv':=hid hdv;obtain⟨s',a',n',c',d',k',e',rfl⟩:=hdv.shape;have bx4:=v3.ext0 e4;have b4:=b3.ext0 e4;have hby:b<w4.heap.size:=a2h (b4.cell 0 rfl);clear q3 hd3 v3 hdv b0 b2 b3;go_wp2_with ((show wpList _ _ _ (⟨_, .store _ _ _,_,_,_,_⟩::_) _ _);first|(refine a0c a7K rfl rfl bb rfl rfl (by intro v hv;simp at hv;rcases hv with rfl|rfl|rfl|rfl|rfl|rfl|rfl|rfl<;>rfl) ?_;intro w6 v6 x6)|(refine a6A a0u rfl rfl bx4 (by simp) rfl (by intro v hv;simp at hv;rcases hv with rfl|rfl|rfl<;>rfl) ?_;intro w5 v5 x5;have bb:=b4.ext x5 (a0b hbg);have q0:=v5.cell 0 rfl;have q1:=v5.cell 1 rfl;have q2:=v5.cell 2 rfl;have q3:=v5.cell 3 rfl;have q4:=v5.cell 4 rfl;have q5:=v5.cell 5 rfl;have q6:=v5.cell 6 rfl;have q7:=v5.cell 7 rfl))
     have hEf:Ext w w5:=ExtX.box ((ExtX.box (hE.trans (hE1.trans (hEw.trans e2))) x3 hwg).trans e4) x5 hwg;have hd5:Le (mk Z3 w5) (mk X w6):=a4s x6 (fun k hk=>by rw[<-hZ3];exact a0k (hb3.out k hk)) (fun k hk=>by rw[<-hZ3];exact a0k (hXZ.out k hk));have hd6:Le (mk Z4 w5) (mk X w6):=a4s x6 (fun k hk=>by rw[<-hZ4];exact a0k (hb3.out k hk)) (fun k hk=>by rw[<-hZ4];exact a0k (hXZ.out k hk));have hm35:Le (mk Z3 w3) (mk Z3 w5):=(a0p e4).trans (a0x x5 hg3);have hm25:Le (mk Z3 w2) (mk Z3 w5):=(a0x x3 hg3).trans hm35;have hm45:Le (mk Z4 wc) (mk Z4 w5):=(a0p e2).trans ((a0x x3 hg4).trans ((a0p e4).trans (a0x x5 hg4)));have hmc5:Le (mk Z3 wc) (mk Z3 w5):=(a0p e2).trans hm25;exact bodyPost_ret (a1F rfl rfl a7K v6 rfl) rfl (hfin.out _ _ _ _ _ _ _ _ _ _ _ _ _ _ _ _ (ExtX.box hEf x6 hbw) huc (husd.mono BlR.mono (hmc5.trans hd5)) (RC.mono _ _ _ _ (hmc5.trans hd5) hco) (RC.mono _ _ _ _ (hm25.trans hd5) hrv'.out) (QC.mono _ _ _ _ ((a0x x5 hg3).trans hd5) hdv'.out) (RC.mono _ _ _ _ (hm45.trans hd6) hlo))
set_option maxRecDepth 100000 in
set_option maxHeartbeats 1600000 in
theorem b1g (X:Nat->Bool) (w:World) (u v:Value) (l m:List Rat) (hX:HX X w) (hu:RV (mk X w) u l) (hv:RV (mk X w) v m) (hn:l.length<=1000000) (hml:m.length=l.length) (hb1:∀k,k<=l.length->hq (a3L l m k)<=68719476736) (hb2:∀k,k<l.length->hq (l.getD k 0*m.getD k 0)<=68719476736):
  Calls Tryz.prog 25 #[u,v] w (a1Z X w QC (a2d l m)):=by
 obtain⟨ao,ca,rfl,hca,hsa⟩:=hu;obtain⟨bo,cb,rfl,hcb,hsb⟩:=hv;have hha:=hsa.hd;have hhb:=hsb.hd;obtain⟨W,hW,hE,b0,b1,hz⟩:=a1v w #[.bool false, .slice none 0 0, .slice none 0 0] #[.bool false, .slice none 0 0, .slice none 0 0] 45 45;have hXW:HX (a0f X w.heap.size 2) W:=hX.boxes hz;have h0:QC (mk (a0f X w.heap.size 2) W) (.agg #[.bool false, .slice none 0 0, .slice none 0 0]) (a3L l m 0):=QC.zero _;obtain⟨n,hln⟩:∃n,l.length=n:=⟨_,rfl⟩;rw[hln]at hn hml hb1 hb2 hca hha |-;rw[hml]at hcb hhb |-;have hln':=hid hln;have hml':=hid hml;have hb1':=hid hb1;have hb2':=hid hb2;have hdot:Hid (a3L l m n=a2d l m):=hid (by unfold a2d;rw[hln]);clear hln hml hb1 hb2;go_enter Tryz.func25,Tryz.ntmps25
 go_wp2_with fail
 obtain⟨b,hb⟩:∃b,w.heap.size=b:=⟨_,rfl⟩;have hle:Hid (∀wr,Ext w wr->Le (mk X w) (mk (a0f X b 2) wr)):=hid fun wr h=>by rw[<-hb];exact a0o h
 have hbw:w.heap.size<=b:=by omega
 rw[hb]at b0 b1 hXW h0 |-;clear hW;go_loopw [9] (fun k wr=>∃(i:Nat) (s:Bool) (a:Option Addr) (n' c':Nat) (d:Option Addr) (kk e:Nat),k= .int .i64 i/\i<=n/\Bx wr b #[.bool false, .slice none 0 0, .slice none 0 0] 45/\Bx wr (b+1) #[.bool s, .slice a n' c', .slice d kk e] 45/\QC (mk (a0f X b 2) wr) (.agg #[.bool s, .slice a n' c', .slice d kk e]) (a3L l m i)/\HX (a0f X b 2) wr/\Ext w wr) (fun k _=>n - (intOf k).toNat)
 case atStart=>exact⟨0,_,_,_,_,_,_,_,rfl,Nat.zero_le _,b0,b1,h0,hXW,hE⟩
 case round=>
  obtain⟨i,s,a,n',c',d,kk,e,rfl,hi,b0,b1,hq,hXr,hEr⟩:=hrel;by_cases hlt:i<n
  ·have hil:i<l.length:=by rw[hln'.out];exact hlt
   have him:i<m.length:=by rw[hml'.out];exact hlt
   have hsr:=hsa.mono QV.mono (hle.out wr hEr);have hsr2:=hsb.mono QV.mono (hle.out wr hEr);obtain⟨g1,o1,s1,p1,n1,q1,d1,k1,e1,hg1,hX1,hc1,hq1⟩:=hsr.rat QV.shaped i hil;obtain⟨g2,o2,s2,p2,n2,q2,d2,k2,e2,hg2,hX2,hc2,hq2⟩:=hsr2.rat QV.shaped i him;have gl:Hid (l.getD i 0=l[i]):=hid (by simp[List.getD_eq_getElem?_getD,hil]);have gm:Hid (m.getD i 0=m[i]):=hid (by simp[List.getD_eq_getElem?_getD,him]);have hst:Hid (a3L l m i+l[i]*m[i]=a3L l m (i+1)):=hid (by rw[<-gl.out,<-gm.out];rfl);have hbo:=hid (hb1'.out i hi);have hbp:=hid (hb2'.out i hlt);rw[gl.out,gm.out]at hbp;obtain⟨x,hx⟩:∃x,l[i]=x:=⟨_,rfl⟩;obtain⟨y,hy⟩:∃y,m[i]=y:=⟨_,rfl⟩;rw[hx,hy]at hst hbp;rw[hx]at hq1;rw[hy]at hq2;have i1:∀W,(Instr.indexAt 24 (.slice ao n ca) (.int .i64 (i:Int))).run Tryz.prog W= .ok (.pointer (some ⟨g1,o1,none⟩)) W:=by rw[<-hg1];exact a0h a0D ao n ca .i64 i hha (by omega)
   have i2:∀W,(Instr.indexAt 24 (.slice bo n cb) (.int .i64 (i:Int))).run Tryz.prog W= .ok (.pointer (some ⟨g2,o2,none⟩)) W:=by rw[<-hg2];exact a0h a0D bo n cb .i64 i hhb (by omega)
   obtain⟨D,hD⟩:∃D,a3L l m i=D:=⟨_,rfl⟩;obtain⟨D2,hD2⟩:∃D2,a3L l m (i+1)=D2:=⟨_,rfl⟩;rw[hD]at hq hst hbo;rw[hD2]at hst;have hD2':=hid hD2;clear hx hy hg1 hg2 hD hD2;have hE5d:Ext wr wr.drew:=(ExtX.refl wr).drew;have b05:=b0.ext0 hE5d;have b15:=b1.ext0 hE5d;have k00:=b15.cell 0 rfl;have k01:=b15.cell 1 rfl;have k02:=b15.cell 2 rfl;obtain⟨k10,k11,k12⟩:=hc1.out noY wr.drew hE5d rfl;obtain⟨k20,k21,k22⟩:=hc2.out noY wr.drew hE5d rfl;have hXd:=hXr.ext hE5d;have hx5:QV (mk (a0f X b 2) wr.drew) (.agg #[.bool s1, .slice p1 n1 q1, .slice d1 k1 e1]) x:=mkx QV.mono hq1 hE5d;have hy5:QV (mk (a0f X b 2) wr.drew) (.agg #[.bool s2, .slice p2 n2 q2, .slice d2 k2 e2]) y:=mkx QV.mono hq2 hE5d;have hq5:QV (mk (a0f X b 2) wr.drew) (.agg #[.bool s, .slice a n' c', .slice d kk e]) D:=(mkx QC.mono hq hE5d).qv hbo.out;clear hc1 hc2;go_wp2_with fail
   go_region_with (first|(go_at_call 52;(with_reducible refine(b1E (a0f X b 2) wr.drew _ _ _ _ hXd hx5 hy5).mono ?_);rintro ee w6 ⟨t1,u6,rfl,hu6⟩;obtain⟨s6,a6,n6,c6,d6,k6,e6,rfl⟩:=hu6.shape;have hX6:=hXd.ext t1;have hq6:=mkx QV.mono hq5 t1;have hm6:=hu6.qv hbp.out;have b16:=b15.ext0 t1;have m0:=b16.cell 0 rfl;have m1:=b16.cell 1 rfl;have m2:=b16.cell 2 rfl)|(go_at_call 51;(with_reducible refine(b3V (a0f X b 2) w6 _ _ _ _ hX6 hq6 hm6).mono ?_);rintro ee w7 ⟨t7,u7,rfl,hu7⟩;obtain⟨s7,a7,n7,c7,d7,k7,e7,rfl⟩:=hu7.shape;rw[hst.out]at hu7;have b17:=b16.ext0 t7;have g0:=b17.cell 0 rfl;have g1':=b17.cell 1 rfl;have g2':=b17.cell 2 rfl;have f0:=b17.frozen 0;have f1:=b17.frozen 1;have f2:=b17.frozen 2))
   all_goals
    obtain⟨z1,z2⟩:=b17.set3 (.bool s7) (.slice a7 n7 c7) (.slice d7 k7 e7);have h8:=QC.mono _ _ _ _ (a0i (lo:=b) (nb:=2) z2 (by omega) (by omega)) hu7;have b08:=((b05.ext0 t1).ext0 t7).ext z2 (a0b (by omega));have hE8:Ext w _:=ExtX.box (hEr.trans (hE5d.trans (t1.trans t7))) z2 (by omega);have hX8:=(hX6.ext t7).ext z2;rw[<-hD2'.out]at h8;clear k00 k01 k02 k10 k11 k12 k20 k21 k22 m0 m1 m2 g0 g1' g2' f0 f1 f2 i1 i2;go_wp2_with fail
    go_roundw
    case rel=>exact⟨i+1,_,_,_,_,_,_,_,by go_num,by omega,b08,z1,h8,hX8,hE8⟩
    case measure=>simp[intOf];omega
  ·have hin:i=n:=by omega
   subst hin;rw[hdot.out]at hq;have k00:=b1.cell 0 rfl;have k01:=b1.cell 1 rfl;have k02:=b1.cell 2 rfl;go_wp2_with ((with_reducible show wpList _ _ _ (⟨_, .store _ _ _,_,_,_,_⟩::_) _ _);refine a0c a0u rfl rfl b0 rfl rfl (a2g _ _ _ _ _ _ _) ?_;intro w7 r1 r2)
   have h7:=QC.mono _ _ _ _ a0l (QC.mono _ _ _ _ (a0i r2 (by omega) (by omega)) hq);exact bodyPost_ret (a0e rfl rfl a0u r1 rfl) rfl ⟨ExtX.box hEr r2 (by omega),_,rfl,h7⟩
set_option maxRecDepth 100000 in
theorem b6m (X:Nat->Bool) (w:World) (u v:Value) (x y:Rat) (hu:QC (mk X w) u x) (hv:QC (mk X w) v y) (hx:hq x<=68719476736):Calls Tryz.prog 24 #[u,v] w (b1A w (decide (x=y))):=by
 replace hx:=hid hx
 obtain⟨s1,a1,n1,c1,d1,k1,e1,rfl⟩:=hu.shape;obtain⟨s2,a2,n2,c2,d2,k2,e2,rfl⟩:=hv.shape;obtain⟨W,hW,hE,b0,b1,hz⟩:=a1v w #[.bool s1, .slice a1 n1 c1, .slice d1 k1 e1] #[.bool s2, .slice a2 n2 c2, .slice d2 k2 e2] 45 45;have hu1:=mkx QC.mono hu hE;have hv1:=mkx QC.mono hv hE;obtain⟨b,hb⟩:∃b,w.heap.size=b:=⟨_,rfl⟩;rw[hb]at b0 b1 hz;have k00:=b0.cell 0 rfl;have k01:=b0.cell 1 rfl;have k02:=b0.cell 2 rfl;have k10:=b1.cell 0 rfl;have k11:=b1.cell 1 rfl;have k12:=b1.cell 2 rfl;clear hu hv;obtain⟨hxz,_,hxd⟩:=hu1.num;obtain⟨hyz,_,hyd⟩:=hv1.num;have hl1:=hid (Nat.le_trans (a0A x) (Nat.le_trans hx.out (by decide:(68719476736:Nat)<=1099511627776)));have hl2:=hid (Nat.le_trans (b8A x) (Nat.le_trans hx.out (by decide:(68719476736:Nat)<=1099511627776)));by_cases h1:x.num=y.num
 ·have hr:Hid (decide (dn x=dn y)=decide (x=y)):=hid (by
   rw[Bool.eq_iff_iff,decide_eq_true_eq,decide_eq_true_eq];constructor
   ·intro h
    refine Rat.ext h1 ?_;have:=a3H x;have:=a3H y;unfold dn at h;have:=x.den_nz;have:=y.den_nz;split at h<;>split at h<;>omega
   ·rintro rfl;rfl)
  have hd:Hid (decide (x.num=y.num)=true):=hid (decide_eq_true h1);clear h1;go_enter Tryz.func24,Tryz.ntmps24
  go_wp2_with fail
  refine(b5I X W _ _ _ _ hxz hyz hl1.out).mono ?_;rintro e w5 ⟨hE5,rfl⟩;rw[hd.out];have j02:=(b0.ext0 hE5).cell 2 rfl;have j12:=(b1.ext0 hE5).cell 2 rfl;clear k00 k01 k02 k10 k11 k12;go_wp2_with fail
  refine(b5G X w5 _ _ _ _ (mkx NC.mono hxd hE5) (mkx NC.mono hyd hE5) hl2.out).mono ?_;rintro e w6 ⟨rfl,m,rfl⟩;go_wp2_with fail
  go_ret
  exact⟨(hE.trans hE5).drewN m,a0n hr.out⟩
 ·have hr:Hid (false=decide (x=y)):=hid (decide_eq_false (by rintro rfl;exact h1 rfl)).symm
  have hd:Hid (decide (x.num=y.num)=false):=hid (decide_eq_false h1);clear h1;go_enter Tryz.func24,Tryz.ntmps24
  go_wp2_with fail
  refine(b5I X W _ _ _ _ hxz hyz hl1.out).mono ?_;rintro e w5 ⟨hE5,rfl⟩;rw[hd.out];clear k00 k01 k02 k10 k11 k12;go_wp2_with fail
  go_ret
  exact⟨hE.trans hE5,a0n hr.out⟩
end Go.Proofs.YtidbbddagfnfbaaGreat
namespace Go.Lin
open Go.Lim Go.Rep
theorem a7Q {x:Mat} {y:List Rat} {n c k:Nat} {q:Rat} {m:Nat} {t:List (List Int)} (hk:k<=c) (h:a5R (a4Z x y n) (a1g c k 0) q m t):b2z x y n c k q:=by
 rcases h with⟨h,_⟩|⟨_,h1,h2,_⟩
 ·have h1:=a2p c k 0
  have h2:=b5B c k hk;rw[h]at h1;simp at h1;omega
 ·exact⟨h1,h2⟩
theorem b8i {x y:Rat} (h:x<=y):(x - y).num.sign<=0:=by
 have h0:x - y<=0:=by grind
 rcases Int.lt_trichotomy (x - y).num 0 with h1|h1|h1
 ·rw[Int.sign_eq_neg_one_of_neg h1];decide
 ·rw[h1];decide
 ·have h2:0<=x - y:=Rat.num_nonneg.1 (by omega)
  rw[Rat.le_antisymm h0 h2]at h1;exact absurd h1 (by decide)
end Go.Lin
namespace Go.Proofs.YtidbbddagfnfbaaGreat
open Go.RowKit Go.Rep Go.Lim Go.Lin
theorem b9L {tb:Nat} {w w1 w2:World} (h:w.heap.size=tb) (hE:Ext w w1) (h2:ExtX (tbm tb) w1 w2):Ext w w2:=hE.then_ h2 fun i hi _=>a5J (by omega)
set_option maxRecDepth 100000 in
set_option maxHeartbeats 3200000 in
theorem b3t (lo:Option Addr) (l:List Int) (cl:Nat) (w:World) (hl:Sl (a0w .i64) 1 w.cell? lo l) (hcl:l.length<=cl) (hlb:l.length<=9223372036854775807):
  Calls Tryz.prog 4 #[.slice lo l.length cl] w (b1A w true):=by
 go_enter Tryz.func4,Tryz.ntmps4
 go_wp2_with fail
 refine(b5g lo l cl w hl hcl hlb).mono ?_;rintro e w1 ⟨rfl,hE1,ht1,hsz1⟩;obtain⟨tb,htb⟩:∃tb,w.heap.size=tb:=⟨_,rfl⟩;have hX1:HX (tbm tb) w1:=fun k hk=>by
  have:k=tb:=by simpa[tbm]using hk
  omega
 have hfin:=hid (fun w2 (h:ExtX (tbm tb) w1 w2)=>b9L htb hE1 h);rw[htb]at ht1 |-;obtain⟨X,hX⟩:∃X,tbm tb=X:=⟨_,rfl⟩;rw[hX]at ht1 hX1;clear hE1 hsz1 htb hl;go_wp2_with fail
 refine(a9A X tb 6 4 w1 ht1 hX1 (by decide) (by decide) (by decide) (by decide)).mono ?_;rintro e w2 ⟨hE2,ht2,vx,vy,x,y,c,rfl,hx,hy,hn1,hn6,hc1,hc4,hrow,hyl,hxB,hyB⟩;rw[hX]at hE2 hfin;have hX2:=hX1.ext hE2;have hsh:Shp x.length c x:=⟨rfl,hrow⟩;have hcol:a0B x=c:=by rw[a1S (by omega)];exact hrow _ (List.getElem_mem _)
 have hls:a6I x y=true:=a2H.2 ⟨b8n hsh (by omega) hc1 (by omega),hn1,by omega,by omega,hyl⟩;have hxB4:BM 4 x:=fun r hr q hq=>Nat.le_trans (hxB r hr q hq) (by decide);have hbest:=b0v X w2 vx vy x y x.length c 4 64 hX2 hx hy (b6f.2 hls) hsh (by omega) hc4 hxB4 hyB (by decide) (by decide) (by decide) (by decide);have hfit:=hid (fun w' (h:Ext w2 w')=>b8h X w' vx vy x y x.length c 4 (hX2.ext h) (mkx MV.mono hx h) (mkx RV.mono hy h) hls rfl hcol (by omega) hc4 hxB4 hyB (by decide) (by decide));obtain⟨db1,db2⟩:=a1Y (l:=y) (m:=y) hyB hyB (by decide) (by omega) (by decide);have hdot:=hid (fun w' (h:Ext w2 w')=>b1g X w' vy vy y y (hX2.ext h) (mkx RV.mono hy h) (mkx RV.mono hy h) (by omega) rfl db1 db2);have hfall:=hid (fun k (R R':Rat) m m' t t' (hk:k<c) (h1:a5R (a4Z x y x.length) (a1g c k 0) R m t) (h2:a5R (a4Z x y x.length) (a1g c (k+1) 0) R' m' t')=>b8i (b2A hsh hyl hk (a7Q (by omega) h1) (a7Q (by omega) h2)));have hz0:=hid (fun(R:Rat) m t (h:a5R (a4Z x y x.length) (a1g c 0 0) R m t)=>b4L hsh hyl (a7Q (Nat.zero_le _) h));have hzc:=hid (fun(R:Rat) m t (h:a5R (a4Z x y x.length) (a1g c c 0) R m t)=>b7x hsh (a7Q (Nat.le_refl _) h));obtain⟨xo,xc,rfl,hxc,hxs⟩:=hx;obtain⟨a0,c0,hX0,hc0,hcl0,hq0⟩:=hxs.row 0 (by omega);have hxh:=hxs.hd;rw[hrow (x[0]'(by omega)) (List.getElem_mem _)]at hc0;have hk0:=hid (fun w' (h:Ext w2 w')=>hc0.out noY w' h rfl);obtain⟨f,hf⟩:∃f,a4Z x y x.length=f:=⟨_,rfl⟩;rw[hf]at hbest hfall hz0 hzc;obtain⟨n,hn⟩:∃n,x.length=n:=⟨_,rfl⟩;rw[hn]at hbest hfit hxh hzc hn1 hxc |-;obtain⟨D,hD⟩:∃D,a2d y y=D:=⟨_,rfl⟩;rw[hD]at hdot hz0;obtain⟨RS,hRS⟩:∃RS,a2d (a2T x y (a1y x y n c)) (a2T x y (a1y x y n c))=RS:=⟨_,rfl⟩;rw[hRS]at hzc;have hrs:Hid ((b7S x y n c).rss=RS):=hid hRS;obtain⟨F,hF⟩:∃F,b7S x y n c=F:=⟨_,rfl⟩;rw[hF]at hfit hrs;clear hF hRS hD hf hls hcol hsh hxB hyB hxB4 db1 db2 hy hc0 hq0 hrow hyl hxs hX0 ht1 ht2 hX hX1 hcl0;go_wp2_with fail
 refine hbest.mono ?_;rintro e w3 ⟨hE3,ao,cap,L,rfl,hcap,hL,hSl,hok⟩;have k03:=hk0.out w3 hE3;have hSd:Hd ao (c+1):=by have:=hSl.hd;rw[hL]at this;exact this
 obtain⟨K,hK⟩:∃K,c+1=K:=⟨_,rfl⟩;rw[hK]at hcap hL hSd |-;have hne:((K:Int) !=(c:Int)+1)=false:=a7U (by omega);have hL':=hid hL;have hX3:=hX2.ext hE3;clear hbest hL;go_wp2_with (with_reducible refine a0t a0r (by omega) (by assumption) ?_)
 clear k03 hne;go_loopw [8] (fun o wr=>∃i:Nat,o= .int .i64 i/\1<=i/\i<=K/\Ext w3 wr) (fun o _=>K - (intOf o).toNat)
 case atStart=>exact⟨1,rfl,Nat.le_refl _,by omega,ExtX.refl _⟩
 case round=>
  obtain⟨i,rfl,hi1,hiK,hE⟩:=hrel;have hXr:=hX3.ext hE;have hSr:=hSl.mono a5r.mono (a0p hE);by_cases hlt:i<K
  ·obtain⟨j,hj⟩:∃j,i=j+1:=⟨i - 1,by omega⟩
   have hiL:i<L.length:=by rw[hL'.out];exact hlt
   have hjL:j<L.length:=by omega
   obtain⟨g,o,s1,a1,n1,c1,d1,k1,e1,so,sc,hadr,hcell,hq1,-,-⟩:=hSr.size i hiL;obtain⟨g2,o2,s2,a2,n2,c2,d2,k2,e2,so2,sc2,hadr2,hcell2,hq2,-,-⟩:=hSr.size j hjL;obtain⟨-,hI1,hb1⟩:=hok i hiL;obtain⟨-,hI2,hb2⟩:=hok j hjL;subst hj;have hsg:=hfall.out j _ _ _ _ _ _ (by omega) hI2 hI1;obtain⟨q1,hq1e⟩:∃q,L[j+1].q=q:=⟨_,rfl⟩;obtain⟨q2,hq2e⟩:∃q,L[j].q=q:=⟨_,rfl⟩;rw[hq1e]at hq1 hb1 hsg;rw[hq2e]at hq2 hb2 hsg;obtain⟨i,hji⟩:∃i,j+1=i:=⟨_,rfl⟩;rw[hji]at hadr hlt hi1 hiK |-;have hdr:Ext wr wr.drew:=(ExtX.refl wr).drew;have hcmp:=hid (b1F X wr.drew _ _ q1 q2 (hXr.ext hdr) ((mkx QC.mono hq1 hdr).qv (Nat.le_trans hb1 (by decide))) ((mkx QC.mono hq2 hdr).qv (Nat.le_trans hb2 (by decide))) (Nat.le_trans (a9N q1 q2) (by omega)));obtain⟨sg,hsge⟩:∃sg,(q1 - q2).num.sign=sg:=⟨_,rfl⟩;rw[hsge]at hcmp hsg;have hsgd:decide ((0:Int)<sg)=false:=decide_eq_false (by omega);have hS:Hid (∀w',Ext wr w'->w'.cell? ⟨g,o+1,none⟩=some (.bool s1)/\w'.cell? ⟨g,o+1+1,none⟩=some (.slice a1 n1 c1)/\w'.cell? ⟨g,o+1+2,none⟩=some (.slice d1 k1 e1)/\w'.cell? ⟨g2,o2+1,none⟩=some (.bool s2)/\w'.cell? ⟨g2,o2+1+1,none⟩=some (.slice a2 n2 c2)/\w'.cell? ⟨g2,o2+1+2,none⟩=some (.slice d2 k2 e2)):=hid fun w' h=>by
    obtain⟨_,x1,x2,x3,_⟩:=hcell.out w' h;obtain⟨_,y1,y2,y3,_⟩:=hcell2.out w' h;exact⟨x1,x2,x3,y1,y2,y3⟩
   have i1:∀W,(Instr.indexAt 36 (.slice ao K cap) (.int .i64 (i:Int))).run Tryz.prog W= .ok (.pointer (some ⟨g,o,none⟩)) W:=by rw[<-hadr];exact a0h a6C ao K cap .i64 i hSd hlt
   have i2:∀W,(Instr.indexAt 36 (.slice ao K cap) (.int .i64 ((i:Int) - 1))).run Tryz.prog W= .ok (.pointer (some ⟨g2,o2,none⟩)) W:=by
    rw[<-hadr2,show((i:Int) - 1)=(j:Int)by omega];exact a0h a6C ao K cap .i64 j hSd (by omega)
   have ewr:IntKind.i64.wrap ((i:Int) - 1)=(i:Int) - 1:=IntWalk.i64_in _ (by omega);clear hI1 hI2 hq1 hq2 hb1 hb2 hcell hcell2 hadr hadr2 hq1e hq2e hsge hSr hiL hjL hok hSl;have hji':=hid hji;clear hji;go_upto_region 9 with fail
   refine a0M 12 (fun w'=>w'.cell? ⟨g,o+1,none⟩=some (.bool s1)/\w'.cell? ⟨g,o+1+1,none⟩=some (.slice a1 n1 c1)/\w'.cell? ⟨g,o+1+2,none⟩=some (.slice d1 k1 e1)/\w'.cell? ⟨g2,o2+1,none⟩=some (.bool s2)/\w'.cell? ⟨g2,o2+1+1,none⟩=some (.slice a2 n2 c2)/\w'.cell? ⟨g2,o2+1+2,none⟩=some (.slice d2 k2 e2)) (by kernel_rfl) (by kernel_rfl) (hS.out _ hdr) (fun hHeld hOnce=>?_);refine a0a hOnce (i:=0) (oi:=⟨_,_,_,_,_,_⟩) (v:=?_) rfl (by kernel_rfl) (fun _ _ _ h=>h) (by assumption) (by rfl) (fun w hSw=>?_) ?_
   rotate_left
   ·(try dsimp only at hSw)
    go_simp
    all_goals with_reducible rfl
   (try simp only[Act.put,List.setIfInBounds_toArray,List.set_cons_zero,List.set_cons_succ])
   refine a0a hOnce (i:=1) (oi:=⟨_,_,_,_,_,_⟩) (v:=?_) rfl (by kernel_rfl) (fun _ _ _ h=>h) (by assumption) (by rfl) (fun w hSw=>?_) ?_
   rotate_left
   ·(try dsimp only at hSw)
    go_simp
    all_goals with_reducible rfl
   (try simp only[Act.put,List.setIfInBounds_toArray,List.set_cons_zero,List.set_cons_succ])
   refine a0a hOnce (i:=2) (oi:=⟨_,_,_,_,_,_⟩) (v:=?_) rfl (by kernel_rfl) (fun _ _ _ h=>h) (by assumption) (by rfl) (fun w hSw=>?_) ?_
   rotate_left
   ·(try dsimp only at hSw)
    go_simp
    all_goals with_reducible rfl
   (try simp only[Act.put,List.setIfInBounds_toArray,List.set_cons_zero,List.set_cons_succ])
   refine a0a hOnce (i:=3) (oi:=⟨_,_,_,_,_,_⟩) (v:=?_) rfl (by kernel_rfl) (fun _ _ _ h=>h) (by assumption) (by rfl) (fun w hSw=>?_) ?_
   rotate_left
   ·(try dsimp only at hSw)
    go_simp
    all_goals with_reducible rfl
   (try simp only[Act.put,List.setIfInBounds_toArray,List.set_cons_zero,List.set_cons_succ])
   refine a0a hOnce (i:=4) (oi:=⟨_,_,_,_,_,_⟩) (v:=?_) rfl (by kernel_rfl) (fun _ _ _ h=>h) (by assumption) (by rfl) (fun w hSw=>?_) ?_
   rotate_left
   ·(try dsimp only at hSw)
    go_simp
    all_goals with_reducible rfl
   (try simp only[Act.put,List.setIfInBounds_toArray,List.set_cons_zero,List.set_cons_succ])
   refine a0a hOnce (i:=5) (oi:=⟨_,_,_,_,_,_⟩) (v:=?_) rfl (by kernel_rfl) (fun _ _ _ h=>h) (by assumption) (by rfl) (fun w hSw=>?_) ?_
   rotate_left
   ·(try dsimp only at hSw)
    go_simp
    all_goals with_reducible rfl
   (try simp only[Act.put,List.setIfInBounds_toArray,List.set_cons_zero,List.set_cons_succ])
   refine a0a hOnce (i:=6) (oi:=⟨_,_,_,_,_,_⟩) (v:=?_) rfl (by kernel_rfl) (fun _ _ _ h=>h) (by assumption) (by rfl) (fun w hSw=>?_) ?_
   rotate_left
   ·(try dsimp only at hSw)
    go_simp
    all_goals with_reducible rfl
   (try simp only[Act.put,List.setIfInBounds_toArray,List.set_cons_zero,List.set_cons_succ])
   refine a0a hOnce (i:=7) (oi:=⟨_,_,_,_,_,_⟩) (v:=?_) rfl (by kernel_rfl) (fun _ _ _ h=>h) (by assumption) (by rfl) (fun w hSw=>?_) ?_
   rotate_left
   ·(try dsimp only at hSw)
    go_simp
    all_goals with_reducible rfl
   (try simp only[Act.put,List.setIfInBounds_toArray,List.set_cons_zero,List.set_cons_succ])
   refine a0a hOnce (i:=8) (oi:=⟨_,_,_,_,_,_⟩) (v:=?_) rfl (by kernel_rfl) (fun _ _ _ h=>h) (by assumption) (by rfl) (fun w hSw=>?_) ?_
   rotate_left
   ·(try dsimp only at hSw)
    go_simp
    all_goals with_reducible rfl
   (try simp only[Act.put,List.setIfInBounds_toArray,List.set_cons_zero,List.set_cons_succ])
   refine a0a hOnce (i:=9) (oi:=⟨_,_,_,_,_,_⟩) (v:=?_) rfl (by kernel_rfl) (fun _ _ _ h=>h) (by assumption) (by rfl) (fun w hSw=>?_) ?_
   rotate_left
   ·(try dsimp only at hSw)
    go_simp
    all_goals with_reducible rfl
   (try simp only[Act.put,List.setIfInBounds_toArray,List.set_cons_zero,List.set_cons_succ])
   refine a0a hOnce (i:=10) (oi:=⟨_,_,_,_,_,_⟩) (v:=?_) rfl (by kernel_rfl) (fun _ _ _ h=>h) (by assumption) (by rfl) (fun w hSw=>?_) ?_
   rotate_left
   ·(try dsimp only at hSw)
    go_simp
    all_goals with_reducible rfl
   (try simp only[Act.put,List.setIfInBounds_toArray,List.set_cons_zero,List.set_cons_succ])
   refine a0m (i:=11) (o:=⟨_,_,_,_,_,_⟩) (by kernel_rfl) rfl (fun K hK=>?_);go_simp
   ((with_reducible refine hcmp.out.mono ?_);rintro ee wa ⟨ga,rfl⟩)
   refine hK.out _ _ (hS.out _ (hdr.trans ga)) (fun hHeld=>?_);clear hK K
   (try simp only[Act.put,List.setIfInBounds_toArray,List.set_cons_zero,List.set_cons_succ])
   refine a0s (i:=12) (o:=⟨_,_,_,_,_,_⟩) (by kernel_rfl) rfl (by decide) (by kernel_rfl) (fun K hK=>?_);go_simp
   refine hK.out _ _ ?_;clear hK K;have hE9:=hE.trans (hdr.trans ga);clear hHeld hS hcmp;go_wp2_with fail
   go_roundw
   case rel=>exact⟨i+1,by go_num,by omega,by omega,hE9⟩
   case measure=>simp[intOf];omega
  ·have hie:i=K:=by omega
   subst hie;have hcL:c<L.length:=by rw[hL'.out];omega
   have h0L:0<L.length:=by omega
   obtain⟨g,o,s1,a1,n1,c1,d1,k1,e1,so,sc,hadr,hcell,hq1,-,-⟩:=hSr.size c hcL;obtain⟨g2,o2,s2,a2,n2,c2,d2,k2,e2,so2,sc2,hadr2,hcell2,hq2,-,-⟩:=hSr.size 0 h0L;obtain⟨-,hI1,hb1⟩:=hok c hcL;obtain⟨-,hI2,hb2⟩:=hok 0 h0L;have hv1:=hzc.out _ _ _ hI1;have hv2:=hz0.out _ _ _ hI2;rw[hv1]at hq1 hb1;rw[hv2]at hq2 hb2;have i1:∀W,(Instr.indexAt 36 (.slice ao i cap) (.int .i64 ((i:Int) - 1))).run Tryz.prog W= .ok (.pointer (some ⟨g,o,none⟩)) W:=by
    rw[<-hadr,show((i:Int) - 1)=(c:Int)by omega];exact a0h a6C ao i cap .i64 c hSd (by omega)
   have i2:∀W,(Instr.indexAt 36 (.slice ao i cap) (.int .i64 0)).run Tryz.prog W= .ok (.pointer (some ⟨g2,o2,none⟩)) W:=by
    rw[<-hadr2];exact a0h a6C ao i cap .i64 0 hSd (by omega)
   have ewr:IntKind.i64.wrap ((i:Int) - 1)=(i:Int) - 1:=IntWalk.i64_in _ (by omega);have hfr:=hid (hfit.out wr (hE3.trans hE));have hcell':=hid (fun w' (h:Ext wr w')=>(by
    obtain⟨_,x1,x2,x3,_⟩:=hcell.out w' h;obtain⟨_,y1,y2,y3,_⟩:=hcell2.out w' h;exact⟨x1,x2,x3,y1,y2,y3⟩:w'.cell? ⟨g,o+1,none⟩=some (.bool s1)/\w'.cell? ⟨g,o+1+1,none⟩=some (.slice a1 n1 c1)/\w'.cell? ⟨g,o+1+2,none⟩=some (.slice d1 k1 e1)/\w'.cell? ⟨g2,o2+1,none⟩=some (.bool s2)/\w'.cell? ⟨g2,o2+1+1,none⟩=some (.slice a2 n2 c2)/\w'.cell? ⟨g2,o2+1+2,none⟩=some (.slice d2 k2 e2)))
   clear hI1 hI2 hv1 hv2 hcell hcell2 hadr hadr2 hok hSl hSr hfit hfall hcL h0L hzc hz0;go_wp2_with fail
   refine hfr.out.mono ?_;rintro e w4 ⟨hE4,fv,rfl,hfv⟩;obtain⟨uo,uc,co,cl',cc,ro,rl,rc,s3,a3,n3,c3,d3,k3,e3,fo,ll,lc,rfl,-,-,-,-,hrs4,-⟩:=hfv;rw[hrs.out]at hrs4;obtain⟨ul,hul⟩:∃ul,F.used.length=ul:=⟨_,rfl⟩;obtain⟨rk,hrk⟩:∃rk,F.rank=rk:=⟨_,rfl⟩;rw[hul,hrk];have bf:=Bx.new w4 #[.int .i64 0, .slice none 0 0, .slice none 0 0, .slice none 0 0, .bool false, .slice none 0 0, .slice none 0 0, .slice none 0 0] 51;clear hul hrk hfr;go_upto_region 12 with((with_reducible show wpList _ _ _ (⟨_, .store 51 _ _,_,_,_,_⟩::_) _ _);refine a0c a7K rfl rfl bf rfl rfl (by intro v hv;simp at hv;rcases hv with rfl|rfl|rfl|rfl|rfl|rfl|rfl|rfl<;>rfl) ?_;intro w5 x1 y1;have hE5:Ext w4 w5:=ExtX.box ((ExtX.refl w4).alloc _) y1 (Nat.le_refl _))
   obtain⟨b,hb⟩:∃b,w4.heap.size=b:=⟨_,rfl⟩;rw[hb]at x1 |-;have hE45:=hE4.trans hE5;have hdr:Ext w5 w5.drew:=(ExtX.refl w5).drew;have hE5d:=hE45.trans hdr;have hX5:HX X w5.drew:=(hXr.ext hE45).ext hdr;have hS:Hid (∀w',Ext w5.drew w'->w'.cell? ⟨g,o+1,none⟩=some (.bool s1)/\w'.cell? ⟨g,o+1+1,none⟩=some (.slice a1 n1 c1)/\w'.cell? ⟨g,o+1+2,none⟩=some (.slice d1 k1 e1)/\w'.cell? ⟨g2,o2+1,none⟩=some (.bool s2)/\w'.cell? ⟨g2,o2+1+1,none⟩=some (.slice a2 n2 c2)/\w'.cell? ⟨g2,o2+1+2,none⟩=some (.slice d2 k2 e2)/\w'.cell? ⟨b,4,none⟩=some (.bool s3)/\w'.cell? ⟨b,4+1,none⟩=some (.slice a3 n3 c3)/\w'.cell? ⟨b,4+2,none⟩=some (.slice d3 k3 e3)):=hid fun w' h=>by
    obtain⟨z1,z2,z3,z4,z5,z6⟩:=hcell'.out w' (hE5d.trans h);have x2:=x1.ext0 (hdr.trans h);exact⟨z1,z2,z3,z4,z5,z6,x2.cell 4 rfl,x2.cell 5 rfl,x2.cell 6 rfl⟩
   have hs1:=hid (b6m X w5.drew _ _ RS RS (mkx QC.mono hq1 hE5d) (mkx QC.mono hrs4 (hE5.trans hdr)) (Nat.le_trans hb1 (by decide)));rw[decide_eq_true rfl]at hs1;have hdo:=hid (fun w' (h:Ext w5.drew w')=>hdot.out w' (hE3.trans (hE.trans (hE5d.trans h))));have hs2:=hid (fun w' (h:Ext w5.drew w') u (hu:QC (mk X w') u D)=>b6m X w' _ u D D (mkx QC.mono hq2 (hE5d.trans h)) hu (Nat.le_trans hb2 (by decide)));simp only[decide_true]at hs2;clear y1 bf hb x1 hq1 hq2 hrs4 hdot hcell' hb1 hb2
   (try simp only[Act.put])
   refine a0M 27 (fun w'=>w'.cell? ⟨g,o+1,none⟩=some (.bool s1)/\w'.cell? ⟨g,o+1+1,none⟩=some (.slice a1 n1 c1)/\w'.cell? ⟨g,o+1+2,none⟩=some (.slice d1 k1 e1)/\w'.cell? ⟨g2,o2+1,none⟩=some (.bool s2)/\w'.cell? ⟨g2,o2+1+1,none⟩=some (.slice a2 n2 c2)/\w'.cell? ⟨g2,o2+1+2,none⟩=some (.slice d2 k2 e2)/\w'.cell? ⟨b,4,none⟩=some (.bool s3)/\w'.cell? ⟨b,4+1,none⟩=some (.slice a3 n3 c3)/\w'.cell? ⟨b,4+2,none⟩=some (.slice d3 k3 e3)) (by kernel_rfl) (by kernel_rfl) (hS.out _ (ExtX.refl _)) (fun hHeld hOnce=>?_);refine a0a hOnce (i:=0) (oi:=⟨_,_,_,_,_,_⟩) (v:=?_) rfl (by kernel_rfl) (fun _ _ _ h=>h) (by assumption) (by rfl) (fun w hSw=>?_) ?_
   rotate_left
   ·(try dsimp only at hSw)
    go_simp
    all_goals with_reducible rfl
   (try simp only[Act.put,List.setIfInBounds_toArray,List.set_cons_zero,List.set_cons_succ])
   refine a0a hOnce (i:=1) (oi:=⟨_,_,_,_,_,_⟩) (v:=?_) rfl (by kernel_rfl) (fun _ _ _ h=>h) (by assumption) (by rfl) (fun w hSw=>?_) ?_
   rotate_left
   ·(try dsimp only at hSw)
    go_simp
    all_goals with_reducible rfl
   (try simp only[Act.put,List.setIfInBounds_toArray,List.set_cons_zero,List.set_cons_succ])
   refine a0a hOnce (i:=2) (oi:=⟨_,_,_,_,_,_⟩) (v:=?_) rfl (by kernel_rfl) (fun _ _ _ h=>h) (by assumption) (by rfl) (fun w hSw=>?_) ?_
   rotate_left
   ·(try dsimp only at hSw)
    go_simp
    all_goals with_reducible rfl
   (try simp only[Act.put,List.setIfInBounds_toArray,List.set_cons_zero,List.set_cons_succ])
   refine a0a hOnce (i:=3) (oi:=⟨_,_,_,_,_,_⟩) (v:=?_) rfl (by kernel_rfl) (fun _ _ _ h=>h) (by assumption) (by rfl) (fun w hSw=>?_) ?_
   rotate_left
   ·(try dsimp only at hSw)
    go_simp
    all_goals with_reducible rfl
   (try simp only[Act.put,List.setIfInBounds_toArray,List.set_cons_zero,List.set_cons_succ])
   refine a0a hOnce (i:=4) (oi:=⟨_,_,_,_,_,_⟩) (v:=?_) rfl (by kernel_rfl) (fun _ _ _ h=>h) (by assumption) (by rfl) (fun w hSw=>?_) ?_
   rotate_left
   ·(try dsimp only at hSw)
    go_simp
    all_goals with_reducible rfl
   (try simp only[Act.put,List.setIfInBounds_toArray,List.set_cons_zero,List.set_cons_succ])
   refine a0a hOnce (i:=5) (oi:=⟨_,_,_,_,_,_⟩) (v:=?_) rfl (by kernel_rfl) (fun _ _ _ h=>h) (by assumption) (by rfl) (fun w hSw=>?_) ?_
   rotate_left
   ·(try dsimp only at hSw)
    go_simp
    all_goals with_reducible rfl
   (try simp only[Act.put,List.setIfInBounds_toArray,List.set_cons_zero,List.set_cons_succ])
   refine a0a hOnce (i:=6) (oi:=⟨_,_,_,_,_,_⟩) (v:=?_) rfl (by kernel_rfl) (fun _ _ _ h=>h) (by assumption) (by rfl) (fun w hSw=>?_) ?_
   rotate_left
   ·(try dsimp only at hSw)
    go_simp
    all_goals with_reducible rfl
   (try simp only[Act.put,List.setIfInBounds_toArray,List.set_cons_zero,List.set_cons_succ])
   refine a0a hOnce (i:=7) (oi:=⟨_,_,_,_,_,_⟩) (v:=?_) rfl (by kernel_rfl) (fun _ _ _ h=>h) (by assumption) (by rfl) (fun w hSw=>?_) ?_
   rotate_left
   ·(try dsimp only at hSw)
    go_simp
    all_goals with_reducible rfl
   (try simp only[Act.put,List.setIfInBounds_toArray,List.set_cons_zero,List.set_cons_succ])
   refine a0a hOnce (i:=8) (oi:=⟨_,_,_,_,_,_⟩) (v:=?_) rfl (by kernel_rfl) (fun _ _ _ h=>h) (by assumption) (by rfl) (fun w hSw=>?_) ?_
   rotate_left
   ·(try dsimp only at hSw)
    go_simp
    all_goals with_reducible rfl
   (try simp only[Act.put,List.setIfInBounds_toArray,List.set_cons_zero,List.set_cons_succ])
   refine a0a hOnce (i:=9) (oi:=⟨_,_,_,_,_,_⟩) (v:=?_) rfl (by kernel_rfl) (fun _ _ _ h=>h) (by assumption) (by rfl) (fun w hSw=>?_) ?_
   rotate_left
   ·(try dsimp only at hSw)
    go_simp
    all_goals with_reducible rfl
   (try simp only[Act.put,List.setIfInBounds_toArray,List.set_cons_zero,List.set_cons_succ])
   refine a0a hOnce (i:=10) (oi:=⟨_,_,_,_,_,_⟩) (v:=?_) rfl (by kernel_rfl) (fun _ _ _ h=>h) (by assumption) (by rfl) (fun w hSw=>?_) ?_
   rotate_left
   ·(try dsimp only at hSw)
    go_simp
    all_goals with_reducible rfl
   (try simp only[Act.put,List.setIfInBounds_toArray,List.set_cons_zero,List.set_cons_succ])
   refine a0a hOnce (i:=11) (oi:=⟨_,_,_,_,_,_⟩) (v:=?_) rfl (by kernel_rfl) (fun _ _ _ h=>h) (by assumption) (by rfl) (fun w hSw=>?_) ?_
   rotate_left
   ·(try dsimp only at hSw)
    go_simp
    all_goals with_reducible rfl
   (try simp only[Act.put,List.setIfInBounds_toArray,List.set_cons_zero,List.set_cons_succ])
   refine a0m (i:=12) (o:=⟨_,_,_,_,_,_⟩) (by kernel_rfl) rfl (fun K hK=>?_);go_simp
   ((with_reducible refine hs1.out.mono ?_);rintro ee wa ⟨ga,rfl⟩)
   refine hK.out _ _ (hS.out _ ga) (fun hHeld=>?_);clear hK K
   (try simp only[Act.put,List.setIfInBounds_toArray,List.set_cons_zero,List.set_cons_succ])
   refine a0a hOnce (i:=13) (oi:=⟨_,_,_,_,_,_⟩) (v:=?_) rfl (by kernel_rfl) (fun _ _ _ h=>h) (by assumption) (by rfl) (fun w hSw=>?_) ?_
   rotate_left
   ·(try dsimp only at hSw)
    go_simp
    all_goals with_reducible rfl
   (try simp only[Act.put,List.setIfInBounds_toArray,List.set_cons_zero,List.set_cons_succ])
   refine a0a hOnce (i:=14) (oi:=⟨_,_,_,_,_,_⟩) (v:=?_) rfl (by kernel_rfl) (fun _ _ _ h=>h) (by assumption) (by rfl) (fun w hSw=>?_) ?_
   rotate_left
   ·(try dsimp only at hSw)
    go_simp
    all_goals with_reducible rfl
   (try simp only[Act.put,List.setIfInBounds_toArray,List.set_cons_zero,List.set_cons_succ])
   refine a0a hOnce (i:=15) (oi:=⟨_,_,_,_,_,_⟩) (v:=?_) rfl (by kernel_rfl) (fun _ _ _ h=>h) (by assumption) (by rfl) (fun w hSw=>?_) ?_
   rotate_left
   ·(try dsimp only at hSw)
    go_simp
    all_goals with_reducible rfl
   (try simp only[Act.put,List.setIfInBounds_toArray,List.set_cons_zero,List.set_cons_succ])
   refine a0a hOnce (i:=16) (oi:=⟨_,_,_,_,_,_⟩) (v:=?_) rfl (by kernel_rfl) (fun _ _ _ h=>h) (by assumption) (by rfl) (fun w hSw=>?_) ?_
   rotate_left
   ·(try dsimp only at hSw)
    go_simp
    all_goals with_reducible rfl
   (try simp only[Act.put,List.setIfInBounds_toArray,List.set_cons_zero,List.set_cons_succ])
   refine a0a hOnce (i:=17) (oi:=⟨_,_,_,_,_,_⟩) (v:=?_) rfl (by kernel_rfl) (fun _ _ _ h=>h) (by assumption) (by rfl) (fun w hSw=>?_) ?_
   rotate_left
   ·(try dsimp only at hSw)
    go_simp
    all_goals with_reducible rfl
   (try simp only[Act.put,List.setIfInBounds_toArray,List.set_cons_zero,List.set_cons_succ])
   refine a0a hOnce (i:=18) (oi:=⟨_,_,_,_,_,_⟩) (v:=?_) rfl (by kernel_rfl) (fun _ _ _ h=>h) (by assumption) (by rfl) (fun w hSw=>?_) ?_
   rotate_left
   ·(try dsimp only at hSw)
    go_simp
    all_goals with_reducible rfl
   (try simp only[Act.put,List.setIfInBounds_toArray,List.set_cons_zero,List.set_cons_succ])
   refine a0a hOnce (i:=19) (oi:=⟨_,_,_,_,_,_⟩) (v:=?_) rfl (by kernel_rfl) (fun _ _ _ h=>h) (by assumption) (by rfl) (fun w hSw=>?_) ?_
   rotate_left
   ·(try dsimp only at hSw)
    go_simp
    all_goals with_reducible rfl
   (try simp only[Act.put,List.setIfInBounds_toArray,List.set_cons_zero,List.set_cons_succ])
   refine a0a hOnce (i:=20) (oi:=⟨_,_,_,_,_,_⟩) (v:=?_) rfl (by kernel_rfl) (fun _ _ _ h=>h) (by assumption) (by rfl) (fun w hSw=>?_) ?_
   rotate_left
   ·(try dsimp only at hSw)
    go_simp
    all_goals with_reducible rfl
   (try simp only[Act.put,List.setIfInBounds_toArray,List.set_cons_zero,List.set_cons_succ])
   refine a0m (i:=21) (o:=⟨_,_,_,_,_,_⟩) (by kernel_rfl) rfl (fun K hK=>?_);go_simp
   ((with_reducible refine(hdo.out wa ga).mono ?_);rintro ee wb ⟨gb,ub,rfl,hub⟩;obtain⟨s6,a6,n6,c6,d6,k6,e6,rfl⟩:=hub.shape)
   refine hK.out _ _ (hS.out _ (ga.trans gb)) (fun hHeld=>?_);clear hK K
   (try simp only[Act.put,List.setIfInBounds_toArray,List.set_cons_zero,List.set_cons_succ])
   refine a0m (i:=22) (o:=⟨_,_,_,_,_,_⟩) (by kernel_rfl) rfl (fun K hK=>?_);go_simp
   ((with_reducible refine(hs2.out wb (ga.trans gb) _ hub).mono ?_);rintro ee wc ⟨gc,rfl⟩)
   refine hK.out _ _ (hS.out _ (ga.trans (gb.trans gc))) (fun hHeld=>?_);clear hK K
   (try simp only[Act.put,List.setIfInBounds_toArray,List.set_cons_zero,List.set_cons_succ])
   refine a0a hOnce (i:=23) (oi:=⟨_,_,_,_,_,_⟩) (v:=?_) rfl (by kernel_rfl) (fun _ _ _ h=>h) (by assumption) (by rfl) (fun w hSw=>?_) ?_
   rotate_left
   ·(try dsimp only at hSw)
    go_simp
    all_goals with_reducible rfl
   (try simp only[Act.put,List.setIfInBounds_toArray,List.set_cons_zero,List.set_cons_succ])
   refine a0a hOnce (i:=24) (oi:=⟨_,_,_,_,_,_⟩) (v:=?_) rfl (by kernel_rfl) (fun _ _ _ h=>h) (by assumption) (by rfl) (fun w hSw=>?_) ?_
   rotate_left
   ·(try dsimp only at hSw)
    go_simp
    all_goals with_reducible rfl
   (try simp only[Act.put,List.setIfInBounds_toArray,List.set_cons_zero,List.set_cons_succ])
   refine a0m (i:=25) (o:=⟨_,_,_,_,_,_⟩) (by kernel_rfl) rfl (fun K hK=>?_);go_simp
   ((with_reducible refine(a9y wc).mono ?_);rintro ee wd ⟨gd,rfl⟩)
   refine hK.out _ _ (hS.out _ (ga.trans (gb.trans (gc.trans gd)))) (fun hHeld=>?_);clear hK K
   (try simp only[Act.put,List.setIfInBounds_toArray,List.set_cons_zero,List.set_cons_succ])
   refine a0a hOnce (i:=26) (oi:=⟨_,_,_,_,_,_⟩) (v:=?_) rfl (by kernel_rfl) (fun _ _ _ h=>h) (by assumption) (by rfl) (fun w hSw=>?_) ?_
   rotate_left
   ·(try dsimp only at hSw)
    go_simp
    all_goals with_reducible rfl
   (try simp only[Act.put,List.setIfInBounds_toArray,List.set_cons_zero,List.set_cons_succ])
   refine a0s (i:=27) (o:=⟨_,_,_,_,_,_⟩) (by kernel_rfl) rfl (by decide) (by kernel_rfl) (fun K hK=>?_);go_simp
   refine hK.out _ _ ?_;clear hK K;have hE9:=hfin.out wd (hE2.then_ (hE3.trans (hE.trans (hE5d.trans (ga.trans (gb.trans (gc.trans gd)))))) (fun _ _ _=>rfl));clear hHeld hS hs1 hs2 hdo;go_wp2_with fail
   go_ret
   exact⟨hE9,rfl⟩
open Go.ChangeShapes Go.WideShapes Go.ChangeAt Go.Deep
section
variable {H:Type} {enc:TypeId×Value->H} {w:World} {base:Nat} {spare:Nat->Bool} {held:Bool}
theorem a1z {x:Addr} {v:Value} (h:w.cell? (x.add 0)=some v):(∀j,x.add j=adr (some x) j)/\∃b off,x=⟨b,off,none⟩:=by
 have hs:=World.cell?_spot h;obtain⟨b,off,spot⟩:=x;have hspot:spot=none:=by simpa[Addr.add]using hs
 subst hspot;exact⟨fun j=>by rw[Addr.add_lit];simp[adr],b,off,rfl⟩
end
end Go.Proofs.YtidbbddagfnfbaaGreat
