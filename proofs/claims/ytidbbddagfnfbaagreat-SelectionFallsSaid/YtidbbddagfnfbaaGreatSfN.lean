/- selection: what the callback of Best keeps. Conditions: at most 8 rows and 4 columns, numbers of few digits. selection: Best. Conditions: at most 8 rows and 4 columns, numbers of few digits. law 38: the example of the chapter. Conditions: none. reference 38: SameInts. Conditions: lengths far below any machine's. law 38: awake. Conditions: none. The tape of choices: rational numbers, rows of them. What is drawn is some number of few digits. Conditions: none beyond small ranges. The tape of choices: rows of rational numbers. Conditions: none beyond small ranges. The tape of choices: numbers that may not be valid, rows of them. What is drawn is some number of few digits. Conditions: none beyond small ranges. The tape of choices: points. What is drawn is some list of rows of few digits. Conditions: none beyond small ranges. The tape of choices: a design, rows and responses. Conditions: none beyond small ranges. reference 13: pick. Conditions: few rows and columns. leastsq: Residuals; reference 13: Residuals. Conditions: numbers of few digits. -/
import Derived.Test.YtidbbddagfnfbaaGreatSfM
import Derived.Deep.RegionHeld3
namespace Go.Rep
open Go.RowKit Go.Lim
section
variable {P:Program} {ops:Array Oper} {Q:Exit->Act->World->Prop} {a:Act} {w:World}
theorem a5c {o:Oper} {K:Act->World->Prop} {E:Prop} {t:TypeId} {x y:Operand} {n b i:Nat} {cs vs:Array Value} {T:TypeId} (hg:o.guard=none) (hop:o.op= .store t x y) (hT:a1A P t n) (hx:a.eval x= .pointer (some ⟨b,i,none⟩)) (hy:a.eval y= .agg vs) (hb:Bx w b cs T) (hcs:i+n<=cs.size) (hvs:vs.size=n) (hone:∀v∈vs.toList,v.oneCell'=true)
  (hK:∀w',Bx w' b (cs.toList.take i++vs.toList++cs.toList.drop (i+n)).toArray T->ExtX (ob (some ⟨b,0,none⟩)) w w'->K (a.put o.dst undef) w'):
  if Region.wanted o (yielded ops a.tmps)=true then Oper.wp P o a w K Q else E:=by
 have hw:Region.wanted o (yielded ops a.tmps)=true:=by simp[Region.wanted,hg]
 rw[if_pos hw];obtain⟨fs,ti,h1,h2,h3⟩:=hT;have hst:=run_storeCells_at P b i T vs.toList 0 cs w hb (by simp[hvs];omega) hone;have hr:(storeVar t ⟨b,i,none⟩ (.agg vs)).run P w= .ok () (w.setRow b (cs.toList.take (i+0)++vs.toList++cs.toList.drop (i+0+vs.toList.length)).toArray):=by
  simp[storeVar,sizeOf,typeInfo,h2,h3,Value.cells,hvs];simp only[Nat.add_zero,Array.length_toList,hvs,List.append_assoc]at hst |-;exact hst
 unfold Oper.wp execOp;rw[hop];simp[hx,hy,Instr.storeAt,Instr.sureAddr,hr,Result.andThen];refine hK _ ?_ ?_
 ·unfold Bx
  have:=setRow_heap w b cs (cs.toList.take (i+0)++vs.toList++cs.toList.drop (i+0+vs.toList.length)).toArray T (0,0) hb;simp only[Nat.add_zero,Array.length_toList,hvs,List.append_assoc]at this |-;exact this
 ·exact⟨rfl,rfl,rfl,by simp,fun k _ hk=>setRow_other w b k _ (fun ek=>by subst ek;simp[ob]at hk)⟩
end
end Go.Rep
namespace Go.Lin
open Go.Lim Go.Rep
theorem b7X {x:Mat} {y:List Rat} {n c B:Nat} {S:List Int} (hsh:Shp n c x) (hy:y.length=n) (hn:n<=8) (hxB:BM B x) (hyB:BR B y) (hB1:1<=B) (hB:B<=370) (hsb:∀v∈S,0<=v/\v<(c:Int)) (hsl:S.length<=4):hq (a4Z x y n S)<=600000000:=by
 have hps:=a3c hsh S;have hpb:=b3f hsh hxB hsb;have h1:=b2N (a8q hpb hB1) hyB hn hsl hB;have h2:=b2O hps hpb hyB h1 hB1 hsl hB;exact b9n h2 (by rw[a4X (by rw[hy,hps.1]),hps.1];exact hn)
end Go.Lin
namespace Go.Proofs.YtidbbddagfnfbaaGreat
open Go.RowKit Go.Rep Go.Lim Go.Lin
theorem b1c (x y:Rat):(b3Q x y= -1/\x<y)\/(b3Q x y=0/\x=y)\/(b3Q x y=1/\y<x):=by
 unfold b3Q;by_cases h:x<y
 ·exact .inl ⟨by rw[if_pos h],h⟩
 ·by_cases h2:y<x
  ·exact .inr (.inr ⟨by rw[if_neg h,if_pos h2],h2⟩)
  ·exact .inr (.inl ⟨by rw[if_neg h,if_neg h2],Rat.le_antisymm (Rat.not_lt.1 h2) (Rat.not_lt.1 h)⟩)
theorem b5p:(Tryz.prog.info? 46).map (fun i=>(i.zero,i.size,i.bytes))=some (some (.slice none 0 0),1,24):=by kernel_rfl
theorem a7N:TyI Tryz.prog 46 1:=let ⟨i,h,_,h2,_⟩:=info_parts b5p;⟨i,h,h2⟩
def hSb (X:Nat->Bool) (bs B0:Nat):Nat->Bool:=fun k=>X k||(k==bs)||a4f B0 k
abbrev a5d (p:Nat) (s:Bool) (a:Option Addr) (n c:Nat) (d:Option Addr) (k e:Nat) (so:Option Addr) (tl sc cnt:Nat):Array Value:=#[.int .i64 (p:Int), .bool s, .slice a n c, .slice d k e, .bool false, .slice none 0 0, .slice none 0 0, .slice so tl sc, .int .i64 (cnt:Int), .bool true]
structure SelB (X:Nat->Bool) (w0:World) (bs B0 p:Nat) (f:List Int->Rat) (done:List (List Int)) (q:Rat) (cnt:Nat) (t:List (List Int)) (so:Option Addr) (sc:Nat) (s:Bool) (a:Option Addr) (n c:Nat) (d:Option Addr) (k e:Nat) (W:World):Prop where
 inv:a5R f done q cnt t
 hqq:hq q<=600000000
 ext:Ext w0 W
 box:Bx W bs (a5d p s a n c d k e so t.length sc cnt) 48
 rss:QC (mk (un (hSb X bs B0) so) W) (.agg #[.bool s, .slice a n c, .slice d k e]) q
 sub:OL (SlV (a0w .i64) 1) 1 (hSb X bs B0) w0.heap.size 22 W so sc t
def a5e (X:Nat->Bool) (w0:World) (bs B0 p:Nat) (f:List Int->Rat) (done:List (List Int)) (W:World):Prop:=
 ∃q cnt t so sc s a n c d k e,SelB X w0 bs B0 p f done q cnt t so sc s a n c d k e W
theorem a9x {X:Nat->Bool} {bs B0 k:Nat} (h:a4f B0 k=true):hSb X bs B0 k=true:=by simp[hSb,h]
theorem a4m {X:Nat->Bool} {bs B0 k:Nat} (h:ob (some ⟨bs,0,none⟩) k=true):hSb X bs B0 k=true:=by
 have:bs=k:=by simpa[ob]using h
 simp[hSb,this]
theorem b7Y {X:Nat->Bool} {bs B0 k:Nat} (h:X k=true):hSb X bs B0 k=true:=by simp[hSb,h]
theorem b9C {X:Nat->Bool} {w0:World} {bs B0 k:Nat} (h1:w0.heap.size<=bs) (h2:w0.heap.size<=B0) (hk:k<w0.heap.size) (h:hSb X bs B0 k=true):X k=true:=by
 simp only[hSb,a4f,Bool.or_eq_true,beq_iff_eq,Bool.and_eq_true,decide_eq_true_eq]at h;rcases h with(h|h)|h
 ·exact h
 ·omega
 ·omega
theorem a5e.own {X:Nat->Bool} {w0 W W':World} {bs B0 p:Nat} {f:List Int->Rat} {done:List (List Int)} (h:a5e X w0 bs B0 p f done W) (hE:ExtX (a4f B0) W W') (h0:w0.heap.size<=B0) (g1:bs<B0):a5e X w0 bs B0 p f done W':=by
 obtain⟨q,cnt,t,so,sc,s,a,n,c,d,k,e,h1,h2,h3,h4,h5,h6⟩:=h;have no:∀j,j<B0->a4f B0 j=false:=fun j hj=>by simp[a4f];omega
 exact⟨q,cnt,t,so,sc,s,a,n,c,d,k,e,h1,h2,h3.then_ hE fun i hi _=>no i (by omega),h4.ext hE (no _ g1),QC.mono _ _ _ _ (a0x hE fun k hk=>a0k (a9x hk)) h5,h6.ext (SlV.elem (a0w.elem _)) hE (fun k _ hk=>a9x hk) (fun _ _ h=>h)⟩
theorem b3k {X:Nat->Bool} {w0 W wA wD:World} {bs B0 p:Nat} {f:List Int->Rat} {done:List (List Int)} {q:Rat} {cnt:Nat} {t:List (List Int)} {so:Option Addr} {sc:Nat} {s:Bool} {a:Option Addr} {n c:Nat} {d:Option Addr} {k e:Nat} (hI:a5R f done q cnt t) (hq6:hq q<=600000000) (hE:Ext w0 wA) (hK:b0t B0 W wA) (hD:ExtX (ob (some ⟨bs,0,none⟩)) wA wD) (hb:Bx wD bs (a5d p s a n c d k e so t.length sc cnt) 48)
  (hr:QC (mk (un (hSb X bs B0) so) wA) (.agg #[.bool s, .slice a n c, .slice d k e]) q) (ho:OL (SlV (a0w .i64) 1) 1 (hSb X bs B0) w0.heap.size 22 wA so sc t) (l1:w0.heap.size<=bs) (g1:bs<B0) (hB0:B0+6<=wA.heap.size):a5e X w0 bs B0 p f done wD/\b0t B0 W wD:=
 ⟨⟨q,cnt,t,so,sc,s,a,n,c,d,k,e,hI,hq6,ExtX.box hE hD l1,hb,QC.mono _ _ _ _ (a0x hD fun _ hk=>a0k (a4m hk)) hr,ho.ext (SlV.elem (a0w.elem _)) hD (fun _ _ hk=>a4m hk) (fun _ _ h=>h)⟩,hK.trans (a2Q hD (fun _ hk=>b3j hk g1) hB0)⟩
theorem a8I {Y:Nat->Bool} {W w8 w9:World} {bo:Option Addr} {bc:Nat} {s:List Int} {T:TypeId} (hXY:HX Y W) (h8:W.heap.size<=w8.heap.size) (hbc:s.length<=bc) (hC:OL (a0w .i64) 1 noY w8.heap.size T w9 bo bc s):SlV (a0w .i64) 1 (mk Y w9) (.slice bo s.length bc) s:=
 ⟨bo,bc,rfl,hbc,hC.rehide (a0w.elem _) b3a fun k hk=>by
  have h1:=(hC.block hk).1;cases hh:Y k
  ·rfl
  ·have:=hXY k hh;omega⟩
theorem b7Z {X:Nat->Bool} {w0 W w8 w9 wL wE:World} {bs B0 p:Nat} {f:List Int->Rat} {done:List (List Int)} {r:Rat} {so:Option Addr} {s6:Bool} {a6:Option Addr} {n6 c6:Nat} {d6:Option Addr} {k6 e6:Nat} {bo:Option Addr} {bc:Nat} {s:List Int} {T:TypeId} (hI:a5R f (done++[s]) r 1 [s]) (hq6:hq r<=600000000) (h08:Ext w0 w8) (hK8:b0t B0 W w8) (hXY:HX (hSb X bs B0) w8) (h89:Ext w8 w9)
  (hr:QC (mk (un (hSb X bs B0) so) w8) (.agg #[.bool s6, .slice a6 n6 c6, .slice d6 k6 e6]) r) (hbc:s.length<=bc) (hC:OL (a0w .i64) 1 noY w8.heap.size T w9 bo bc s) (P1:ExtX (ob (some ⟨bs,0,none⟩)) w9 wL) (P2:ExtX (ob (some ⟨bs,0,none⟩)) (wL.alloc (.cells #[.slice bo s.length bc] 22)) wE)
  (hb:Bx wE bs (a5d p s6 a6 n6 c6 d6 k6 e6 (some ⟨wL.heap.size,0,none⟩) 1 1 1) 48) (l1:w0.heap.size<=bs) (g1:bs<B0) (hB0:B0+6<=w8.heap.size):a5e X w0 bs B0 p f (done++[s]) wE/\b0t B0 W wE:=by
 have hA:ExtX (ob (some ⟨bs,0,none⟩)) w9 (wL.alloc (.cells #[.slice bo s.length bc] 22)):=P1.trans (ExtX.of ((ExtX.refl wL).alloc _));have hAE:=hA.trans P2;have hY9:=a8I hXY (Nat.le_refl _) hbc hC;have hYL:SlV (a0w .i64) 1 (mk (hSb X bs B0) wL) (.slice bo s.length bc) s:=SlV.mono (a0w.mono _) _ _ _ _ _ (a0x P1 fun _ hk=>a4m hk) hY9;have hXL:HX (hSb X bs B0) wL:=(hXY.ext h89).ext P1;have hOL:OL (SlV (a0w .i64) 1) 1 (hSb X bs B0) w0.heap.size 22 (wL.alloc (.cells #[.slice bo s.length bc] 22)) (some ⟨wL.heap.size,0,none⟩) 1 [s]:=
  OL.lit (l:=[s]) (SlV.elem (a0w.elem _)) hXL (Nat.le_trans (h08.trans h89).size P1.size) [.slice bo s.length bc] #[.slice bo s.length bc] rfl rfl (fun i hi _=>by
   have:i=0:=by simpa using hi
   subst this;exact hYL) (by simp)
 refine⟨⟨r,1,[s],some ⟨wL.heap.size,0,none⟩,1,s6,a6,n6,c6,d6,k6,e6,hI,hq6,ExtX.box (h08.trans h89) hAE l1,hb,QC.mono _ _ _ _ (a1f hAE (fun _ _ hk=>a0k (a4m hk)) fun k hk hz=>?_) (mkx QC.mono hr h89),hOL.ext (SlV.elem (a0w.elem _)) P2 (fun _ _ hk=>a4m hk) (fun _ _ h=>h)⟩,(hK8.trans (a2Q h89 (fun k hk=>by simp[noY]at hk) hB0)).trans (a2Q hAE (fun _ hk=>b3j hk g1) (Nat.le_trans hB0 h89.size))⟩;rcases Bool.or_eq_true _ _|>.mp (show(hSb X bs B0 k||ob (some ⟨wL.heap.size,0,none⟩) k)=true from hz)with h|h
 ·exact a0k h
 ·have e:wL.heap.size=k:=by simpa[ob]using h
  have:=P1.size;omega
set_option maxRecDepth 100000 in
set_option maxHeartbeats 1600000 in
theorem b3l (X:Nat->Bool) (w0:World) (bm bs B0 p kc:Nat) (N:Int) (xo:Option Addr) (xl xc:Nat) (yo:Option Addr) (yl yc:Nat) (sm:Bool) (am:Option Addr) (nm cm:Nat) (dm:Option Addr) (km em:Nat) (x:Mat) (y:List Rat) (n c B:Nat) (done:List (List Int)) (s:List Int) (W:World)
  (hX:HX X w0) (hbm:Bx w0 bm #[.int .i64 N, .slice xo xl xc, .slice yo yl yc, .bool sm, .slice am nm cm, .slice dm km em] 117) (hm:a6v (mk X w0) (.agg #[.int .i64 N, .slice xo xl xc, .slice yo yl yc, .bool sm, .slice am nm cm, .slice dm km em]) (gmM x y c n)) (l1:w0.heap.size<=bs) (l2:w0.heap.size<=B0) (g1:bs<B0)
  (hsh:Shp n c x) (hy:y.length=n) (hn:n<=8) (hc:c<=4) (hxB:BM B x) (hyB:BR B y) (hB1:1<=B) (hB:B<=370) (hsb:∀v∈s,0<=v/\v<(c:Int)) (hsl4:s.length<=4) (hdl:done.length<=4096)
  (hi:a5e X w0 bs B0 p (a4Z x y n) done W) (hsl:Sl (a0w .i64) 1 W.cell? (some ⟨B0+3,0,none⟩) s) (hB0:B0+6<=W.heap.size):
  Calls Tryz.prog 79 #[.slice (some ⟨B0+3,0,none⟩) s.length kc, .pointer (some ⟨bm,0,none⟩), .pointer (some ⟨bs,0,none⟩)] W (fun e W'=>e= .returned (.tuple #[])/\a5e X w0 bs B0 p (a4Z x y n) (done++[s]) W'/\b0t B0 W W'):=by
 obtain⟨q,cnt,t,so,sc,s1,a1,n1,c1,d1,k1,e1,hinv,hqq,hE,hbx,hrs,hsu⟩:=hi;obtain⟨t64,tcnt,tdone⟩:=hinv.len;have hXY:HX (hSb X bs B0) W:=fun k hk=>by
  simp only[hSb,a4f,Bool.or_eq_true,beq_iff_eq,Bool.and_eq_true,decide_eq_true_eq]at hk;have:=hE.size;rcases hk with(h|h)|h
  ·have:=hX k h;omega
  ·omega
  ·omega
 have hXo:HX (un (hSb X bs B0) so) W:=hsu.unX hXY;have hlo:Le (mk X w0) (mk (un (hSb X bs B0) so) W):=b4N hE fun k hk hz=>by
  rcases Bool.or_eq_true _ _|>.mp (show(hSb X bs B0 k||ob so k)=true from hz)with h|h
  ·exact b9C l1 l2 hk h
  ·rw[hsu.ob_lt hk]at h;cases h
 have hmW:=a6v.mono _ _ _ _ hlo hm;have hbW:=hbm.ext0 hE;have hcall:=hid (b5m (un (hSb X bs B0) so) W _ x y n c B (some ⟨B0+3,0,none⟩) s kc hXo hmW hsl hsh hy hn hc hxB hyB hB1 hB hsb hsl4);have hfq:=b7X hsh hy hn hxB hyB hB1 hB hsb hsl4;have hdd:Hid ((done++[s]).length=done.length+1):=hid (by simp);obtain⟨r,hr⟩:∃r,a4Z x y n s=r:=⟨_,rfl⟩;rw[hr]at hcall hfq;have hr':=hid hr;obtain⟨f,hf⟩:∃f,a4Z x y n=f:=⟨_,rfl⟩;rw[hf]at hinv hr' |-;have hsl':=hid hsl;clear hmW hm hxB hyB hsh hy hr hf hlo hsl;go_enter Tryz.func79,Tryz.ntmps79
 go_wp2_with ((with_reducible show wpList _ _ _ (⟨_, .load 117 _,_,_,_,_⟩::_) _ _);refine a3X b0s rfl hbW rfl ?_)
 refine hcall.out.mono ?_;rintro e w5 ⟨hE5,u5,rfl,hu5⟩;obtain⟨s6,a6,n6,c6,d6,k6,e6,rfl⟩:=hu5.shape;have bN:=Bx.new w5 #[.bool false, .slice none 0 0, .slice none 0 0] 45;clear hcall hbW hbm;have hb5:=hbx.ext0 hE5;obtain⟨tl,htl⟩:∃tl,t.length=tl:=⟨_,rfl⟩;rw[htl]at hbx hb5 t64 tcnt;go_wp2_with ((with_reducible show wpList _ _ _ (⟨_, .store 45 _ _,_,_,_,_⟩::_) _ _);refine a0c a0u rfl rfl bN rfl rfl (a2g _ _ _ _ _ _ _) ?_;intro w7 r1 r2;have hE7:Ext w5 w7:=ExtX.box ((ExtX.refl w5).alloc _) r2 (Nat.le_refl _);have b7:=hb5.ext0 hE7;have q0:=r1.cell 0 rfl;have q1:=r1.cell 1 rfl;have q2:=r1.cell 2 rfl;have z1:w7.cell? ⟨bs,1,none⟩=some (.bool s1):=b7.cell 1 rfl;have z2:w7.cell? ⟨bs,1+1,none⟩=some (.slice a1 n1 c1):=b7.cell 2 rfl;have z3:w7.cell? ⟨bs,1+2,none⟩=some (.slice d1 k1 e1):=b7.cell 3 rfl)
 have hE57:=hE5.trans hE7;have hqc:=hid (b3R (un (hSb X bs B0) so) w7 _ _ r q (hXo.ext hE57) ((mkx QC.mono hu5 hE7).qv (Nat.le_trans hfq (by decide))) ((mkx QC.mono hrs hE57).qv (Nat.le_trans hqq (by decide))));refine hqc.out.mono ?_;rintro e w8 ⟨hE8,rfl⟩;have hE78:=hE57.trans hE8;have b8:=b7.ext0 hE8;obtain⟨g4,hg4⟩:∃g4,w5.heap.size=g4:=⟨_,rfl⟩;rw[hg4]at r1;rw[hg4];have r8:=r1.ext0 hE8;have hgb0:ob (some ⟨bs,0,none⟩) g4=false:=a0b (by have:=hbx.lt;have:=hE5.size;omega);have z8:w8.cell? ⟨bs,8,none⟩=some (.int .i64 (cnt:Int)):=b8.cell 8 rfl;have hu8:=mkx QC.mono hu5 (hE7.trans hE8);have hrs8:=mkx QC.mono hrs hE78;have hsu8:=hsu.ext0 (SlV.elem (a0w.elem _)) hE78;have hK8:=a2Q hE78 (fun k hk=>by simp[noY]at hk) hB0;have hE08:=hE.trans hE78;have hsz8:B0+6<=w8.heap.size:=Nat.le_trans hB0 hE78.size;have hXY8:=hXY.ext hE78;have hsl8:=hid (by rw[a2v];exact(b6e hsl'.out (hE78.trans ((ExtX.refl w8).drew))):Sl (a0w .i64) 1 (mk noY w8.drew) (some ⟨B0+3,0,none⟩) s);obtain⟨cc,hcc⟩:∃cc,b3Q r q=cc:=⟨_,rfl⟩;have hcs:=b1c r q;rw[hcc];rw[hcc]at hcs;clear hcc hqc b7 hb5 hbx hrs hsu hu5 r1 r2 q0 q1 q2 z1 z2 z3 bN hE hE57 hE8 hE7 hE5 hE78 hg4 hXo hXY hsl';by_cases hA:cnt=0\/r<q
 ·have hnew:=hid (hinv.new s (by rw[hr'.out];exact hA))
  rw[hr'.out]at hnew;have hgb:ob (some ⟨bs,0,none⟩) g4=false:=hgb0;have hgo:cnt=0\/(((cnt:Int)==0)=false/\cc= -1):=by
   rcases hA with h|h
   ·exact .inl h
   ·by_cases h0:cnt=0
    ·exact .inl h0
    ·refine .inr ⟨a2I (by omega),?_⟩
     rcases hcs with⟨h1,_⟩|⟨_,h1⟩|⟨_,h1⟩
     ·exact h1
     ·rw[h1]at h;exact absurd h Rat.lt_irrefl
     ·exact absurd h (Rat.not_lt.2 (Rat.le_of_lt h1))
  clear hA hcs hinv;have y0:=r8.cell 0 rfl;have y1:=r8.cell 1 rfl;have y2:=r8.cell 2 rfl;have hS0:w8.drew.cell? ⟨g4,0,none⟩=some (.bool s6)/\w8.drew.cell? ⟨g4,1,none⟩=some (.slice a6 n6 c6)/\w8.drew.cell? ⟨g4,2,none⟩=some (.slice d6 k6 e6):=⟨y0,y1,y2⟩;rcases hgo with rfl|⟨hz,rfl⟩
  all_goals
   go_upto_region 3 with fail
   refine a0M 9 (fun w'=>w'.cell? ⟨g4,0,none⟩=some (.bool s6)/\w'.cell? ⟨g4,1,none⟩=some (.slice a6 n6 c6)/\w'.cell? ⟨g4,2,none⟩=some (.slice d6 k6 e6)) (by kernel_rfl) (by kernel_rfl) hS0 (fun hHeld hOnce=>?_);refine a0a hOnce (i:=0) (oi:=⟨_,_,_,_,_,_⟩) (v:=?_) rfl (by kernel_rfl) (fun _ _ _ h=>h) (by assumption) (by rfl) (fun w hSw=>?_) ?_
   rotate_left
   ·(try dsimp only at hSw)
    go_simp
    all_goals with_reducible rfl
   (try simp only[Act.put,List.setIfInBounds_toArray,List.set_cons_zero,List.set_cons_succ])
   refine a0a hOnce (i:=1) (oi:=⟨_,_,_,_,_,_⟩) (v:=?_) rfl (by kernel_rfl) (fun _ _ _ h=>h) (by assumption) (by rfl) (fun w hSw=>?_) ?_
   rotate_left
   ·(try dsimp only at hSw)
    go_simp
    all_goals with_reducible rfl
   (try simp only[Act.put,List.setIfInBounds_toArray,List.set_cons_zero,List.set_cons_succ])
   refine a0a hOnce (i:=4) (oi:=⟨_,_,_,_,_,_⟩) (v:=?_) rfl (by kernel_rfl) (fun _ _ _ h=>h) (by assumption) (by rfl) (fun w hSw=>?_) ?_
   rotate_left
   ·(try dsimp only at hSw)
    go_simp
    all_goals with_reducible rfl
   (try simp only[Act.put,List.setIfInBounds_toArray,List.set_cons_zero,List.set_cons_succ])
   refine a0m (i:=2) (o:=⟨_,_,_,_,_,_⟩) (by kernel_rfl) rfl (fun K hK=>?_);go_simp
   go_at_call 82;refine(a6B noY (some ⟨B0+3,0,none⟩) s kc w8.drew hsl8.out (by omega) (b1h _)).mono ?_;rintro ee w9 ⟨hE9,bo,bc,rfl,hbc,hC⟩
   refine hK.out _ _ ⟨hE9.cell hHeld.1,hE9.cell hHeld.2.1,hE9.cell hHeld.2.2⟩ (fun hHeld=>?_);clear hK K
   (try simp only[Act.put,List.setIfInBounds_toArray,List.set_cons_zero,List.set_cons_succ])
   have b9:=(b8.ext0 ((ExtX.refl w8).drew)).ext0 hE9;have hfin:=hid (fun wL wE P1 P2 hb=>b7Z (p:=p) (wL:=wL) (wE:=wE) hnew.out hfq hE08.drew (hK8.trans (a2Q ((ExtX.refl (Y:=noY) w8).drew) (fun k hk=>by simp[noY]at hk) hsz8)) (hXY8.ext ((ExtX.refl (Y:=noY) w8).drew)) hE9 (mkx QC.mono hu8 ((ExtX.refl w8).drew)) hbc hC P1 P2 hb l1 g1 hsz8);refine a1D (i:=3) (j:=5) (oi:=⟨_,_,_,_,_,_⟩) (oj:=⟨_,_,_,_,_,_⟩) (by kernel_rfl) rfl rfl (fun K hK=>?_) (fun K hK=>?_)
   ·skip
    go_simp
    skip
    refine hK.out _ _ ⟨((ExtX.refl (Y:=noY) w9).alloc _).cell hHeld.1,((ExtX.refl (Y:=noY) w9).alloc _).cell hHeld.2.1,((ExtX.refl (Y:=noY) w9).alloc _).cell hHeld.2.2⟩ (fun hHeld=>?_);clear hK K
    (try simp only[Act.put,List.setIfInBounds_toArray,List.set_cons_zero,List.set_cons_succ])
    have bA:=b9.ext0 ((ExtX.refl (Y:=noY) w9).alloc (.cells #[.slice bo s.length bc] 22));refine a0m (i:=5) (o:=⟨_,_,_,_,_,_⟩) (by kernel_rfl) rfl (fun K hK=>?_);refine a5c rfl rfl a0u rfl rfl bA (by show 1+3<=10;omega) rfl (a2g _ _ _ _ _ _ _) ?_;intro v1 x1 x2;refine hK.out _ _ ⟨x2.cellY hHeld.1 hgb,x2.cellY hHeld.2.1 hgb,x2.cellY hHeld.2.2 hgb⟩ (fun hHeld=>?_);clear hK K
    (try simp only[Act.put])
    have x1':Bx v1 bs (a5d p s6 a6 n6 c6 d6 k6 e6 so tl sc _) 48:=x1;refine a0a hOnce (i:=6) (oi:=⟨_,_,_,_,_,_⟩) (v:=?_) rfl (by kernel_rfl) (fun _ _ _ h=>h) (by assumption) (by rfl) (fun w hSw=>?_) ?_
    rotate_left
    ·(try dsimp only at hSw)
     go_simp
     all_goals with_reducible rfl
    (try simp only[Act.put,List.setIfInBounds_toArray,List.set_cons_zero,List.set_cons_succ])
    refine a0m (i:=7) (o:=⟨_,_,_,_,_,_⟩) (by kernel_rfl) rfl (fun K hK=>?_);refine a1j (i:=8) rfl rfl b0y rfl rfl rfl rfl x1' (by show 8<10;omega) ?_;intro v2 x3 x4;refine hK.out _ _ ⟨x4.cellY hHeld.1 hgb,x4.cellY hHeld.2.1 hgb,x4.cellY hHeld.2.2 hgb⟩ (fun hHeld=>?_);clear hK K
    (try simp only[Act.put])
    have x3':Bx v2 bs (a5d p s6 a6 n6 c6 d6 k6 e6 so tl sc 1) 48:=x3;refine a0a hOnce (i:=8) (oi:=⟨_,_,_,_,_,_⟩) (v:=?_) rfl (by kernel_rfl) (fun _ _ _ h=>h) (by assumption) (by rfl) (fun w hSw=>?_) ?_
    rotate_left
    ·(try dsimp only at hSw)
     go_simp
     all_goals with_reducible rfl
    (try simp only[Act.put,List.setIfInBounds_toArray,List.set_cons_zero,List.set_cons_succ])
    refine a0s (i:=9) (o:=⟨_,_,_,_,_,_⟩) (by kernel_rfl) rfl (by decide) (by kernel_rfl) (fun K hK=>?_);refine a1j (i:=7) rfl rfl a7N rfl rfl rfl rfl x3' (by show 7<10;omega) ?_;intro v3 x5 x6;refine hK.out _ _ ?_;clear hK K
    (try simp only[Act.put])
    have x5':Bx v3 bs (a5d p s6 a6 n6 c6 d6 k6 e6 (some ⟨w9.heap.size,0,none⟩) 1 1 1) 48:=x5;have hend:=hid (hfin.out w9 v3 (ExtX.refl _) (x2.trans (x4.trans x6)) x5');clear hfin x1 x1' x3 x3' x5 x5';go_wp2_with fail
    go_end0
    exact⟨rfl,hend.out⟩
   ·skip
    refine a5c rfl rfl a0u rfl rfl b9 (by show 1+3<=10;omega) rfl (a2g _ _ _ _ _ _ _) ?_;intro v1 x1 x2;refine hK.out _ _ ⟨x2.cellY hHeld.1 hgb,x2.cellY hHeld.2.1 hgb,x2.cellY hHeld.2.2 hgb⟩ (fun hHeld=>?_);clear hK K
    (try simp only[Act.put])
    have x1':Bx v1 bs (a5d p s6 a6 n6 c6 d6 k6 e6 so tl sc _) 48:=x1;refine a0a hOnce (i:=6) (oi:=⟨_,_,_,_,_,_⟩) (v:=?_) rfl (by kernel_rfl) (fun _ _ _ h=>h) (by assumption) (by rfl) (fun w hSw=>?_) ?_
    rotate_left
    ·(try dsimp only at hSw)
     go_simp
     all_goals with_reducible rfl
    (try simp only[Act.put,List.setIfInBounds_toArray,List.set_cons_zero,List.set_cons_succ])
    refine a1D (i:=3) (j:=7) (oi:=⟨_,_,_,_,_,_⟩) (oj:=⟨_,_,_,_,_,_⟩) (by kernel_rfl) rfl rfl (fun K hK=>?_) (fun K hK=>?_)
    ·skip
     go_simp
     skip
     refine hK.out _ _ ⟨((ExtX.refl (Y:=noY) v1).alloc _).cell hHeld.1,((ExtX.refl (Y:=noY) v1).alloc _).cell hHeld.2.1,((ExtX.refl (Y:=noY) v1).alloc _).cell hHeld.2.2⟩ (fun hHeld=>?_);clear hK K
     (try simp only[Act.put,List.setIfInBounds_toArray,List.set_cons_zero,List.set_cons_succ])
     have bA:=x1'.ext0 ((ExtX.refl (Y:=noY) v1).alloc (.cells #[.slice bo s.length bc] 22));refine a0m (i:=7) (o:=⟨_,_,_,_,_,_⟩) (by kernel_rfl) rfl (fun K hK=>?_);refine a1j (i:=8) rfl rfl b0y rfl rfl rfl rfl bA (by show 8<10;omega) ?_;intro v2 x3 x4;refine hK.out _ _ ⟨x4.cellY hHeld.1 hgb,x4.cellY hHeld.2.1 hgb,x4.cellY hHeld.2.2 hgb⟩ (fun hHeld=>?_);clear hK K
     (try simp only[Act.put])
     have x3':Bx v2 bs (a5d p s6 a6 n6 c6 d6 k6 e6 so tl sc 1) 48:=x3;refine a0a hOnce (i:=8) (oi:=⟨_,_,_,_,_,_⟩) (v:=?_) rfl (by kernel_rfl) (fun _ _ _ h=>h) (by assumption) (by rfl) (fun w hSw=>?_) ?_
     rotate_left
     ·(try dsimp only at hSw)
      go_simp
      all_goals with_reducible rfl
     (try simp only[Act.put,List.setIfInBounds_toArray,List.set_cons_zero,List.set_cons_succ])
     refine a0s (i:=9) (o:=⟨_,_,_,_,_,_⟩) (by kernel_rfl) rfl (by decide) (by kernel_rfl) (fun K hK=>?_);refine a1j (i:=7) rfl rfl a7N rfl rfl rfl rfl x3' (by show 7<10;omega) ?_;intro v3 x5 x6;refine hK.out _ _ ?_;clear hK K
     (try simp only[Act.put])
     have x5':Bx v3 bs (a5d p s6 a6 n6 c6 d6 k6 e6 (some ⟨v1.heap.size,0,none⟩) 1 1 1) 48:=x5;have hend:=hid (hfin.out v1 v3 x2 (x4.trans x6) x5');clear hfin x1 x1' x3 x3' x5 x5';go_wp2_with fail
     go_end0
     exact⟨rfl,hend.out⟩
    ·skip
     refine a1j (i:=8) rfl rfl b0y rfl rfl rfl rfl x1' (by show 8<10;omega) ?_;intro v2 x3 x4;refine hK.out _ _ ⟨x4.cellY hHeld.1 hgb,x4.cellY hHeld.2.1 hgb,x4.cellY hHeld.2.2 hgb⟩ (fun hHeld=>?_);clear hK K
     (try simp only[Act.put])
     have x3':Bx v2 bs (a5d p s6 a6 n6 c6 d6 k6 e6 so tl sc 1) 48:=x3;refine a0m (i:=3) (o:=⟨_,_,_,_,_,_⟩) (by kernel_rfl) rfl (fun K hK=>?_);go_simp
     skip
     refine hK.out _ _ ⟨((ExtX.refl (Y:=noY) v2).alloc _).cell hHeld.1,((ExtX.refl (Y:=noY) v2).alloc _).cell hHeld.2.1,((ExtX.refl (Y:=noY) v2).alloc _).cell hHeld.2.2⟩ (fun hHeld=>?_);clear hK K
     (try simp only[Act.put,List.setIfInBounds_toArray,List.set_cons_zero,List.set_cons_succ])
     have bA:=x3'.ext0 ((ExtX.refl (Y:=noY) v2).alloc (.cells #[.slice bo s.length bc] 22));refine a0a hOnce (i:=8) (oi:=⟨_,_,_,_,_,_⟩) (v:=?_) rfl (by kernel_rfl) (fun _ _ _ h=>h) (by assumption) (by rfl) (fun w hSw=>?_) ?_
     rotate_left
     ·(try dsimp only at hSw)
      go_simp
      all_goals with_reducible rfl
     (try simp only[Act.put,List.setIfInBounds_toArray,List.set_cons_zero,List.set_cons_succ])
     refine a0s (i:=9) (o:=⟨_,_,_,_,_,_⟩) (by kernel_rfl) rfl (by decide) (by kernel_rfl) (fun K hK=>?_);refine a1j (i:=7) rfl rfl a7N rfl rfl rfl rfl bA (by show 7<10;omega) ?_;intro v3 x5 x6;refine hK.out _ _ ?_;clear hK K
     (try simp only[Act.put])
     have x5':Bx v3 bs (a5d p s6 a6 n6 c6 d6 k6 e6 (some ⟨v2.heap.size,0,none⟩) 1 1 1) 48:=x5;have hend:=hid (hfin.out v2 v3 (x2.trans x4) x6 x5');clear hfin x1 x1' x3 x3' x5 x5';go_wp2_with fail
     go_end0
     exact⟨rfl,hend.out⟩
 ·have h0:0<cnt:=by
   by_cases h:cnt=0
   ·exact absurd (.inl h) hA
   ·omega
  have hz:((cnt:Int)==0)=false:=a2I (by omega);have hnr:¬r<q:=fun h=>hA (.inr h);rcases hcs with⟨_,h⟩|⟨rfl,h⟩|⟨rfl,h⟩
  ·exact absurd h hnr
  ·have htie:=hinv.tie s h0 (by rw[hr'.out];exact h)
   obtain⟨y1,y2⟩:=a0K b8 (.int .i64 ((cnt:Int)+1)) (i:=8) (by show 8<10;omega);have hcn:((cnt:Int)+1)=((cnt+1:Nat):Int):=by omega
   have y1':Bx (w8.setCell ⟨bs,8,none⟩ (.int .i64 ((cnt:Int)+1))) bs (a5d p s1 a1 n1 c1 d1 k1 e1 so tl sc (cnt+1)) 48:=by
    have:Bx (w8.setCell ⟨bs,8,none⟩ (.int .i64 ((cnt:Int)+1))) bs #[.int .i64 (p:Int), .bool s1, .slice a1 n1 c1, .slice d1 k1 e1, .bool false, .slice none 0 0, .slice none 0 0, .slice so tl sc, .int .i64 ((cnt:Int)+1), .bool true] 48:=y1;rw[hcn]at this |-;exact this
   have f8:=b8.frozen 8;obtain⟨w9,hw9⟩:∃w9,w8.setCell ⟨bs,8,none⟩ (.int .i64 ((cnt:Int)+1))=w9:=⟨_,rfl⟩;rw[hw9]at y1' y2;have z7:w9.cell? ⟨bs,7,none⟩=some (.slice so tl sc):=y1'.cell 7 rfl;have h09:Ext w0 w9:=ExtX.box hE08 y2 l1;have hrs9:QC (mk (un (hSb X bs B0) so) w9) (.agg #[.bool s1, .slice a1 n1 c1, .slice d1 k1 e1]) q:=QC.mono _ _ _ _ (a0x y2 fun _ hk=>a0k (a4m hk)) hrs8;have hsu9:=hsu8.ext (SlV.elem (a0w.elem _)) y2 (fun _ _ hk=>a4m hk) (fun _ _ h=>h);have hK9:=hK8.trans (a2Q y2 (fun _ hk=>b3j hk g1) hsz8);have hsz9:B0+6<=w9.heap.size:=Nat.le_trans hsz8 y2.size;have hXY9:HX (hSb X bs B0) w9:=hXY8.ext y2;have hcn2:cnt<=4096:=Nat.le_trans tdone hdl;have hrest:=hid (And.intro htie hcn);clear hA hinv hnr h hgb0 y1 hcn htie hu8 r8;by_cases h64:tl<64
   ·rw[htl,if_pos h64]at hrest
    have hs9:=hid (by rw[a2v];exact b6e (by rw[<-a2v];exact b5o (by rw[<-a2v];exact hsl8.out) y2 (by omega)) ((ExtX.refl (Y:=noY) w9).drew):Sl (a0w .i64) 1 (mk noY w9.drew) (some ⟨B0+3,0,none⟩) s);have hlen:(t++[s]).length=tl+1:=by rw[List.length_append,htl];rfl
    have hobs:ob so bs=false:=hsu9.not_ob (by simp[hSb]);have hend:=hid (fun(w10 w11 w12:World) so2 sc2 (hE10:Ext w9 w10) (hE11:ExtX (ob so) w10 w11) (hor:so2=so\/∃g,so2=some ⟨g,0,none⟩/\w10.heap.size<=g) (hO:OL (SlV (a0w .i64) 1) 1 (hSb X bs B0) w0.heap.size 22 w11 so2 sc2 (t++[s])) (hD:ExtX (ob (some ⟨bs,0,none⟩)) w11 w12) (hb:Bx w12 bs (a5d p s1 a1 n1 c1 d1 k1 e1 so2 (tl+1) sc2 (cnt+1)) 48)=>
     b3k (X:=X) (p:=p) hrest.out.1 hqq ((h09.trans hE10).own (hsu9.ext0 (SlV.elem (a0w.elem _)) hE10) (Nat.le_refl _) hE11) ((hK9.trans (a2Q hE10 (fun k hk=>by simp[noY]at hk) hsz9)).trans (a2Q hE11 (fun k hk=>by
      cases hh:a4f B0 k
      ·rfl
      ·rw[hsu9.not_ob (a9x hh)]at hk;cases hk) (Nat.le_trans hsz9 hE10.size))) hD (by rw[hlen];exact hb) (QC.mono _ _ _ _ (a2U hE11 hor) (mkx QC.mono hrs9 hE10)) hO l1 g1 (Nat.le_trans (Nat.le_trans hsz9 hE10.size) hE11.size))
    have hO9:=hid (fun w10 (h:Ext w9 w10)=>hsu9.ext0 (SlV.elem (a0w.elem _)) h);have hS0:w9.drew.cell? ⟨bs,7,none⟩=some (.slice so tl sc):=z7;have hcr:=hid (fun(w10:World) (T:TypeId) bo bc (hbc:s.length<=bc) (h:OL (a0w .i64) 1 noY w9.drew.heap.size T w10 bo bc s)=>a8I (hsu9.unX hXY9) (Nat.le_refl _) hbc h);have hb9:=hid (fun w10 (h:Ext w9 w10)=>y1'.ext0 h);have hdr:Ext w9 w9.drew:=(ExtX.refl w9).drew;clear hrest hsl8 y2 hrs9 hsu9 hK9 hrs8 hsu8 hK8 y1';go_upto_region 7 with((with_reducible show wpList _ _ _ (⟨_, .store 3 _ _,_,_,_,_⟩::_) _ _);refine a9t b0y rfl rfl rfl rfl z8 f8 ?_;rw[hw9])
    refine a0M 7 (fun w'=>w'.cell? ⟨bs,7,none⟩=some (.slice so tl sc)) (by kernel_rfl) (by kernel_rfl) hS0 (fun hHeld hOnce=>?_);refine a0a hOnce (i:=0) (oi:=⟨_,_,_,_,_,_⟩) (v:=?_) rfl (by kernel_rfl) (fun _ _ _ h=>h) (by assumption) (by rfl) (fun w hSw=>?_) ?_
    rotate_left
    ·(try dsimp only at hSw)
     go_simp
     all_goals with_reducible rfl
    (try simp only[Act.put,List.setIfInBounds_toArray,List.set_cons_zero,List.set_cons_succ])
    refine a0a hOnce (i:=1) (oi:=⟨_,_,_,_,_,_⟩) (v:=?_) rfl (by kernel_rfl) (fun _ _ _ h=>h) (by assumption) (by rfl) (fun w hSw=>?_) ?_
    rotate_left
    ·(try dsimp only at hSw)
     go_simp
     all_goals with_reducible rfl
    (try simp only[Act.put,List.setIfInBounds_toArray,List.set_cons_zero,List.set_cons_succ])
    refine a0a hOnce (i:=2) (oi:=⟨_,_,_,_,_,_⟩) (v:=?_) rfl (by kernel_rfl) (fun _ _ _ h=>h) (by assumption) (by rfl) (fun w hSw=>?_) ?_
    rotate_left
    ·(try dsimp only at hSw)
     go_simp
     all_goals with_reducible rfl
    (try simp only[Act.put,List.setIfInBounds_toArray,List.set_cons_zero,List.set_cons_succ])
    refine a0m (i:=3) (o:=⟨_,_,_,_,_,_⟩) (by kernel_rfl) rfl (fun K hK=>?_);go_simp
    go_at_call 82;refine(a6B noY (some ⟨B0+3,0,none⟩) s kc w9.drew hs9.out (by omega) (b1h _)).mono ?_;rintro ee w10 ⟨hE10,bo,bc,rfl,hbc,hC⟩
    refine hK.out _ _ (hE10.cell hHeld) (fun hHeld=>?_);clear hK K
    (try simp only[Act.put,List.setIfInBounds_toArray,List.set_cons_zero,List.set_cons_succ])
    have hE9A:=hdr.trans hE10;refine a0m (i:=4) (o:=⟨_,_,_,_,_,_⟩) (by kernel_rfl) rfl (fun K hK=>?_);go_simp
    skip
    refine hK.out _ _ (((ExtX.refl (Y:=noY) w10).alloc _).cell hHeld) (fun hHeld=>?_);clear hK K
    (try simp only[Act.put,List.setIfInBounds_toArray,List.set_cons_zero,List.set_cons_succ])
    refine a0m (i:=5) (o:=⟨_,_,_,_,_,_⟩) (by kernel_rfl) rfl (fun K hK=>?_);refine a1K rfl rfl b6d rfl (SlV.elem (a0w.elem _)) (Nat.le_trans h09.size hE9A.size) (hXY9.ext hE9A) tl htl rfl rfl (hO9.out w10 hE9A) (.slice bo s.length bc) s rfl (hcr.out w10 _ bo bc hbc hC) (by omega) (by omega) ?_;intro so2 sc2 w11 hO11 hE11 hor;refine hK.out _ _ (hE11.cellY ((hb9.out w10 hE9A).cell 7 rfl) hobs) (fun hHeld=>?_);clear hK K
    (try simp only[Act.put,List.setIfInBounds_toArray,List.set_cons_zero,List.set_cons_succ])
    refine a0a hOnce (i:=6) (oi:=⟨_,_,_,_,_,_⟩) (v:=?_) rfl (by kernel_rfl) (fun _ _ _ h=>h) (by assumption) (by rfl) (fun w hSw=>?_) ?_
    rotate_left
    ·(try dsimp only at hSw)
     go_simp
     all_goals with_reducible rfl
    (try simp only[Act.put,List.setIfInBounds_toArray,List.set_cons_zero,List.set_cons_succ])
    have b11:=(hb9.out w10 hE9A).ext hE11 hobs;refine a0s (i:=7) (o:=⟨_,_,_,_,_,_⟩) (by kernel_rfl) rfl (by decide) (by kernel_rfl) (fun K hK=>?_);refine a1j (i:=7) rfl rfl a7N rfl rfl rfl rfl b11 (by show 7<10;omega) ?_;intro w12 x1 x2;refine hK.out _ _ ?_;clear hK K
    (try simp only[Act.put])
    have x1':Bx w12 bs (a5d p s1 a1 n1 c1 d1 k1 e1 so2 (tl+1) sc2 (cnt+1)) 48:=x1;have hfin:=hid (hend.out w10 w11 w12 so2 sc2 hE9A hE11 hor hO11 x2 x1');clear hend x1 x1' b11;go_wp2_with fail
    go_end0
    exact⟨rfl,hfin.out⟩
   ·rw[htl,if_neg h64]at hrest
    have hend:=hid (b3k (X:=X) (p:=p) hrest.out.1 hqq hE08 hK8 y2 (by rw[htl];exact y1') hrs8 hsu8 l1 g1 hsz8);clear hrest y1' y2;go_wp2_with ((with_reducible show wpList _ _ _ (⟨_, .store 3 _ _,_,_,_,_⟩::_) _ _);refine a9t b0y rfl rfl rfl rfl z8 f8 ?_;rw[hw9])
    go_end0
    exact⟨rfl,hend.out⟩
  ·have hend:=hid ((⟨⟨q,cnt,t,so,sc,s1,a1,n1,c1,d1,k1,e1,hinv.more s h0 (by rw[hr'.out];exact h),hqq,hE08,by rw[htl];exact b8,hrs8,hsu8⟩,hK8⟩:a5e X w0 bs B0 p f (done++[s]) w8/\b0t B0 W w8))
   clear hA hnr h;go_wp2_with fail
   go_end0
   exact⟨rfl,hend.out⟩
end Go.Proofs.YtidbbddagfnfbaaGreat
namespace Go.Lin
open Go.Lim Go.Rep
theorem a8J {x:Mat} {y:List Rat}:b7y x y=true↔(1<=x.length/\x.length<=64/\y.length=x.length)/\a6f x 1 12=true:=by
 unfold b7y;rw[Bool.and_eq_true,decide_eq_true_eq]
theorem b6f {x:Mat} {y:List Rat}:b7y x y=true↔a6I x y=true:=by
 rw[a8J,a2H,a3Z,a1G];constructor
 ·rintro ⟨⟨h1,h2,h3⟩,h4⟩
  refine⟨⟨by omega,fun i hi=>?_⟩,h1,h2,?_,h3⟩
  ·have:=h4 i hi;omega
  ·have:=h4 0 (by omega);omega
 ·rintro ⟨⟨h0,h4⟩,h1,h2,h5,h3⟩
  exact⟨⟨h1,h2,h3⟩,fun i hi=>by have:=h4 i hi;omega⟩
structure SizeT where
 p:Nat
 q:Rat
 cnt:Nat
 t:List (List Int)
def c0s (f:List Int->Rat) (c p:Nat) (z:SizeT):Prop:=z.p=p/\a5R f (a1g c p 0) z.q z.cnt z.t/\hq z.q<=600000000
end Go.Lin
namespace Go.Rep
open Go.RowKit Go.Lim Go.Lin
def a5r (h:Mem) (u:Value) (z:SizeT):Prop:=
 ∃s a n c d k e s2 a2 n2 c2 d2 k2 e2 so sc,u= .agg #[.int .i64 (z.p:Int), .bool s, .slice a n c, .slice d k e, .bool s2, .slice a2 n2 c2, .slice d2 k2 e2, .slice so z.t.length sc, .int .i64 (z.cnt:Int), .bool true]/\QC h (.agg #[.bool s, .slice a n c, .slice d k e]) z.q/\QC h (.agg #[.bool s2, .slice a2 n2 c2, .slice d2 k2 e2]) z.q/\z.t.length<=sc/\Sl (SlV (a0w .i64) 1) 1 h so z.t
theorem a5r.mono:a3v a5r:=by
 rintro h h' u z hl ⟨s,a,n,c,d,k,e,s2,a2,n2,c2,d2,k2,e2,so,sc,rfl,h1,h2,h3,h4⟩;exact⟨s,a,n,c,d,k,e,s2,a2,n2,c2,d2,k2,e2,so,sc,rfl,QC.mono _ _ _ _ hl h1,QC.mono _ _ _ _ hl h2,h3,h4.mono (SlV.mono (a0w.mono _) _) hl⟩
theorem a5r.elem:Elem a5r 10:=
 ⟨a5r.mono,by rintro h u x ⟨s,a,n,c,d,k,e,s2,a2,n2,c2,d2,k2,e2,so,sc,rfl,_⟩;rfl,by
  rintro h u x ⟨s,a,n,c,d,k,e,s2,a2,n2,c2,d2,k2,e2,so,sc,rfl,_⟩ v hv;simp[a0j,Value.cells]at hv;rcases hv with rfl|rfl|rfl|rfl|rfl|rfl|rfl|rfl|rfl|rfl<;>rfl,by decide⟩
end Go.Rep
namespace Go.Proofs.YtidbbddagfnfbaaGreat
open Go.RowKit Go.Rep Go.Lim Go.Lin
theorem a6C:SliceT Tryz.prog 36 48 10 160 (.agg #[.int .i64 0, .bool false, .slice none 0 0, .slice none 0 0, .bool false, .slice none 0 0, .slice none 0 0, .slice none 0 0, .int .i64 0, .bool false]):=⟨Tryz.underlying36,by kernel_rfl⟩
theorem b6g:a1A Tryz.prog 48 10:=by
 obtain⟨ti,h1,_,h2,_⟩:=info_parts a6C.info;exact⟨_,ti,Tryz.underlying48,h1,h2⟩
def b9D (X:Nat->Bool) (w:World) (f:List Int->Rat) (c:Nat) (e:Ending) (w':World):Prop:=Ext w w'/\∃ao cap L,e= .returned (.tuple #[.slice ao (c+1) cap, .int .i64 0])/\c+1<=cap/\L.length=c+1/\Sl a5r 10 (mk X w') ao L/\∀p (h:p<L.length),c0s f c p L[p]
set_option maxRecDepth 100000 in
set_option maxHeartbeats 1600000 in
theorem b0v (X:Nat->Bool) (w:World) (u v:Value) (x:Mat) (y:List Rat) (n c B:Nat) (bud:Int) (hX:HX X w) (hu:MV (mk X w) u x) (hv:RV (mk X w) v y) (hok:b7y x y=true) (hsh:Shp n c x) (hn:n<=8) (hc:c<=4) (hxB:BM B x) (hyB:BR B y) (hB1:1<=B) (hB:B<=370) (hb1:1<=bud) (hb2:bud<=1048576):
  Calls Tryz.prog 21 #[u,v, .int .i64 bud] w (b9D X w (a4Z x y n) c):=by
 obtain⟨⟨h1,h64,hyx⟩,hsm⟩:=a8J.1 hok;have hls:=b6f.1 hok;have hy:y.length=n:=by rw[hyx,hsh.1]
 have hcc:a0B x=c:=by
  have h0:0<x.length:=by omega
  rw[<-(a3Z.1 hsm 0 h0).1];exact hsh.2 _ (List.getElem_mem _)
 have hde:=a9l X w u v x y hu hv (by omega) (by omega);rw[hok]at hde;have hga:=b0Y X w u v x y n c B hX hu hv hls hsh.1 hcc hn hc hxB hyB hB1 hB;have hcb:=hid (fun(Y:Nat->Bool) (w0:World) bm bs B0 p kc N xo xl xc yo yl yc sm am nm cm dm km em done (s:List Int) W h1 h2 h3 h4 h5 h6 hsb hsl=>b3l Y w0 bm bs B0 p kc N xo xl xc yo yl yc sm am nm cm dm km em x y n c B done s W h1 h2 h3 h4 h5 h6 hsh hy hn hc hxB hyB hB1 hB hsb hsl);obtain⟨ua,uc,rfl,huc,hus⟩:=hu;obtain⟨va,vc,rfl,hvc,hvs⟩:=hv;have hhu:=hus.hd;obtain⟨a0,c0,hX0,hc0,hcl0,hq0⟩:=hus.row 0 (by omega);rw[hsh.2 (x[0]'(by omega)) (List.getElem_mem _)]at hc0 hcl0;obtain⟨f,hf⟩:∃f,a4Z x y n=f:=⟨_,rfl⟩;rw[hf]at hcb |-;obtain⟨xn,hxn⟩:∃xn,x.length=xn:=⟨_,rfl⟩;obtain⟨yn,hyn⟩:∃yn,y.length=yn:=⟨_,rfl⟩;rw[hxn]at hde hga hhu h1 |-;rw[hyn]at hde hga |-;have hcl:Hid (∀p,p<=c->(a1g c p 0).length<=4096):=hid fun p hp=>by
  have h1:=a2p c p 0;have h2:=b9B (n:=c) (k:=p) (by omega) (by omega);rw[h1];exact Nat.le_trans (b0u c p) (Nat.le_trans (Nat.pow_le_pow_left hc p) (Nat.le_trans (Nat.pow_le_pow_right (by decide) (show p<=4 by omega)) (by decide)))
 have hhu':Hd ua xn:=hhu;clear hxn hyn hok hsm hls hy hcc hxB hyB hus hvs hq0 h64 hyx hsh;go_enter Tryz.func21,Tryz.ntmps21
 go_wp2_with fail
 refine hde.mono ?_;rintro e w1 ⟨rfl,rfl⟩;go_wp2_with fail
 refine hga.mono ?_;rintro e w2 ⟨hE2,um,rfl,hm⟩;have hm':=hid hm;obtain⟨mo,ml,mc,yo,yl,yc,sm,am,nm,cm,dm,km,em,rfl,_,_,_⟩:=hm;obtain⟨N,hN⟩:∃N,(gmM x y c n).n=N:=⟨_,rfl⟩;rw[hN]at hm';rw[hN];have bM:=Bx.new w2 #[.int .i64 0, .slice none 0 0, .slice none 0 0, .bool false, .slice none 0 0, .slice none 0 0] 117;clear hde hga;go_wp2_with ((with_reducible show wpList _ _ _ (⟨_, .store 117 _ _,_,_,_,_⟩::_) _ _);refine a0c b0s rfl rfl bM rfl rfl (c0m _ _ _ _ _ _ _ _ _ _ _ _ _ _) ?_;intro w3 m1 m2;have hE3:Ext w2 w3:=ExtX.box ((ExtX.refl w2).alloc _) m2 (Nat.le_refl _))
 have hm3:=a6v.mono _ _ _ _ (a0p hE3) hm'.out;have hE03:=hE2.trans hE3;obtain⟨bm,hbm⟩:∃bm,w2.heap.size=bm:=⟨_,rfl⟩;rw[hbm]at m1;rw[hbm];have hX3:=hX.ext hE03;clear m2 bM hbm hN hm';have hst:=hid (fun(wr:World) (oo:Option Addr) (h:Ext w3 wr) (hb:∀j,j<w3.heap.size->ob oo j=false)=>a6b a6v.mono hm3 h hb);have hbml:bm<w3.heap.size:=m1.lt;have hbx3:=hid (fun wr (h:Ext w3 wr)=>m1.ext0 h);clear hm3 m1;go_wp2_with fail
 go_loopw [9,10] (fun o cx wr=>∃(p:Nat) (oo:Option Addr) (co:Nat) (L:List SizeT),cx= .int .i64 p/\o= .slice oo p co/\p<=c+1/\L.length=p/\OL a5r 10 X w3.heap.size 48 wr oo co L/\(∀j (h:j<L.length),c0s f c j L[j])/\Ext w3 wr) (fun _ cx _=>c+1 - (intOf cx).toNat)
 case atStart=>exact⟨0,none,0,[],rfl,rfl,Nat.zero_le _,rfl,OL.nil _ _ _ _ _ _,fun j h=>absurd h (by simp),ExtX.refl _⟩
 case round=>
  obtain⟨p,oo,co,L,rfl,rfl,hp,hL,hO,hLo,hE⟩:=hrel;have hXr:HX X wr:=hX3.ext hE;have k00:=hc0.out noY wr (hE03.trans hE) rfl;by_cases hlt:p<=c
  ·have hL':=hid hL
   have hLo':=hid hLo;have hXo:=hO.unX hXr;have hmr:=hst.out wr oo hE (fun j hj=>hO.ob_lt hj);have hbr:=hbx3.out wr hE;have bS:=Bx.new wr #[.int .i64 0, .bool false, .slice none 0 0, .slice none 0 0, .bool false, .slice none 0 0, .slice none 0 0, .slice none 0 0, .int .i64 0, .bool false] 48;clear hL hLo;go_wp2_with (first|(with_reducible refine a0t a0r (by omega) (by assumption) ?_)|((with_reducible show wpList _ _ _ (⟨_, .store 48 _ _,_,_,_,_⟩::_) _ _);refine a0c b6g rfl rfl bS rfl rfl (by intro v hv;simp at hv;rcases hv with rfl|rfl|rfl|rfl|rfl|rfl|rfl|rfl|rfl|rfl<;>rfl) ?_;intro w4 r1 r2;have hE4:Ext wr w4:=ExtX.box ((ExtX.refl wr).alloc _) r2 (Nat.le_refl _);have k04:=hE4.cell k00))
   have hlt4:wr.heap.size<w4.heap.size:=r1.lt;obtain⟨g,hg⟩:∃g,wr.heap.size=g:=⟨_,rfl⟩;rw[hg]at r1 hlt4;have hg':=hid hg;have hsub:=hid (a9u 79 c p #[.pointer (some ⟨bm,0,none⟩), .pointer (some ⟨g,0,none⟩)] (fun done W=>a5e (un X oo) wr g w4.heap.size p f done W) w4 (fun _ _=>rfl) (by omega) (by omega)
    (fun done W W' hi hE=>hi.own hE hE4.size hlt4)
    (fun done s W hi hss hsl hB9=>by
     obtain⟨rest,hrest⟩:=hss;have hmem:s∈a1g c p 0:=by rw[<-hrest];simp
     obtain⟨m1,m2,_⟩:=a2q c p 0 s hmem;have hdl:done.length<=4096:=by
      have h:=hcl.out p hlt;rw[<-hrest]at h;simp at h;omega
     exact hcb.out (un X oo) wr bm g w4.heap.size p p N mo ml mc yo yl yc sm am nm cm dm km em done s W hXo hbr hmr (Nat.le_of_eq hg'.out) hE4.size hlt4 (fun v hv=>by have:=m2 v hv;omega) (by omega) hdl hi hsl hB9)
    ⟨0,0,[],none,0,false,none,0,0,none,0,0,a5R.zero f 0,by rw[a0Y];decide,hE4,r1,QC.zero _,OL.nil _ _ _ _ _ _⟩)
   rw[hg];clear hmr hbr r1 r2 bS hcb hst hbx3 hcl hg;refine hsub.out.mono ?_;rintro e w5 ⟨rfl,q,cnt,t,so,sc,s1,a1,n1,c1,d1,k1,e1,hI,hqq,hE5,hb5,hr5,ho5⟩;clear hsub k00 k04 hE4;have k05:=hc0.out noY w5 ((hE03.trans hE).trans hE5) rfl;have hXm:HX (un (un (un X oo) so) (some ⟨g,0,none⟩)) w5:=a1c (a2O (HX.ext hXo hE5) fun k hk=>(ho5.block hk).2) hb5.lt;have hm1:∀k,un (un (un X oo) so) (some ⟨g,0,none⟩) k=true->un (hSb (un X oo) g w4.heap.size) so k=true:=fun k hk=>by
    rcases Bool.or_eq_true _ _|>.mp (show(un (un X oo) so k||ob (some ⟨g,0,none⟩) k)=true from hk)with h|h
    ·rcases Bool.or_eq_true _ _|>.mp (show(un X oo k||ob so k)=true from h)with h|h
     ·exact a0k (b7Y h)
     ·exact a0q h
    ·exact a0k (a4m h)
   have hec:=hid (b5Z (un (un (un X oo) so) (some ⟨g,0,none⟩)) w5 _ q hXm ((QC.mono _ _ _ _ (a1E fun k _ hk=>hm1 k hk) hr5).qv (Nat.le_trans hqq (by decide))));have z1:w5.cell? ⟨g,1,none⟩=some (.bool s1):=hb5.cell 1 rfl;have z2:w5.cell? ⟨g,1+1,none⟩=some (.slice a1 n1 c1):=hb5.cell 2 rfl;have z3:w5.cell? ⟨g,1+2,none⟩=some (.slice d1 k1 e1):=hb5.cell 3 rfl;clear hm1;go_wp2_with fail
   refine hec.out.mono ?_;rintro e w6 ⟨hE6,u6,rfl,hu6⟩;obtain⟨s6,a6,n6,c6,d6,k6,e6,rfl⟩:=hu6.shape;have b6:=hb5.ext0 hE6;clear hec z1 z2 z3 k05;obtain⟨tl,htl⟩:∃tl,t.length=tl:=⟨_,rfl⟩;have hlen:Hid ((L++[(⟨p,q,cnt,t⟩:SizeT)]).length=p+1):=hid (by rw[List.length_append,hL'.out];rfl);have hnew:Hid (∀j (h:j<(L++[(⟨p,q,cnt,t⟩:SizeT)]).length),c0s f c j (L++[(⟨p,q,cnt,t⟩:SizeT)])[j]):=hid fun j h=>by
    have hl:=hL'.out;by_cases hj:j<L.length
    ·rw[List.getElem_append_left hj];exact hLo'.out j hj
    ·have h2:=hlen.out
     have hjp:j=p:=by omega
     subst hjp;rw[List.getElem_append_right (by omega)];simp only[hl,Nat.sub_self,List.getElem_cons_zero];exact⟨rfl,hI,hqq⟩
   have hfin:=hid (fun(w7:World) (x2:ExtX (ob (some ⟨g,0,none⟩)) w6 w7)=>
    (⟨ExtX.box (hE5.trans hE6) x2 (Nat.le_of_eq hg'.out),s1,a1,n1,c1,d1,k1,e1,s6,a6,n6,c6,d6,k6,e6,so,sc,by rw[<-htl],QC.mono _ _ _ _ (a1E fun k _ hk=>a0k (b7Y hk)) (QC.mono _ _ _ _ (a0x x2 fun _ hk=>a0k (a4m hk)) (mkx QC.mono hr5 hE6)),QC.mono _ _ _ _ (a1E fun k _ hk=>a0k (a0k hk)) (QC.mono _ _ _ _ (a0x x2 fun _ hk=>a0q hk) hu6),ho5.lenCap,((((ho5.sl (SlV.elem (a0w.elem _))).mono (SlV.mono (a0w.mono _) _) (a0p hE6)).mono (SlV.mono (a0w.mono _) _) (a0x x2 fun _ hk=>a4m hk)).mono (SlV.mono (a0w.mono _) _) (a1E fun k _ hk=>b7Y hk))⟩:
     Ext wr w7/\a5r (mk (un X oo) w7) (.agg #[.int .i64 (p:Int), .bool s1, .slice a1 n1 c1, .slice d1 k1 e1, .bool s6, .slice a6 n6 c6, .slice d6 k6 e6, .slice so tl sc, .int .i64 (cnt:Int), .bool true]) ⟨p,q,cnt,t⟩))
   rw[htl]at b6;clear hr5 hu6 ho5 hb5 hI hqq htl hE6 hE5 hXm;go_wp2_with (first
    |((with_reducible show wpList _ _ _ (⟨_, .store 45 _ _,_,_,_,_⟩::_) _ _);refine a6A a0u rfl rfl b6 (by show 4+3<=10;omega) rfl (a2g _ _ _ _ _ _ _) ?_;intro w7 x1 x2;have x1':Bx w7 g #[.int .i64 (p:Int), .bool s1, .slice a1 n1 c1, .slice d1 k1 e1, .bool s6, .slice a6 n6 c6, .slice d6 k6 e6, .slice so tl sc, .int .i64 (cnt:Int), .bool true] 48:=x1;obtain⟨hE7,hS7⟩:=hfin.out w7 x2;have hO7:=hO.ext0 a5r.elem hE7;have hX7:=hXr.ext hE7;have hb7:=Nat.le_trans hE.size hE7.size)
    |((with_reducible show wpList _ _ _ (⟨_, .load 48 _,_,_,_,_⟩::_) _ _);refine a3X b6g rfl x1' rfl ?_)
    |(at_builtin;refine a0v (l:=L) a6C rfl a5r.elem hb7 hX7 p hL'.out rfl rfl hO7 (.agg #[.int .i64 (p:Int), .bool s1, .slice a1 n1 c1, .slice d1 k1 e1, .bool s6, .slice a6 n6 c6, .slice d6 k6 e6, .slice so tl sc, .int .i64 (cnt:Int), .bool true]) ⟨p,q,cnt,t⟩ rfl hS7 (by omega) (by omega) ?_;intro oo2 co2 w8 hO8 hE8 hor))
   have hE9:=(hE.trans hE7).own hO7 (Nat.le_refl _) hE8;go_roundw
   case rel=>exact⟨p+1,oo2,co2,_,by go_num,by go_num,by omega,hlen.out,hO8,hnew.out,hE9⟩
   case measure=>simp[intOf];omega
  ·have hpc:p=c+1:=by omega
   subst hpc;have hcap:=hO.lenCap;rw[hL]at hcap;have hout:=hid ((⟨hE03.trans hE,oo,co,L,rfl,hcap,hL,hO.sl a5r.elem,hLo⟩:b9D X w1 f c (.returned (.tuple #[.slice oo (c+1) co, .int .i64 0])) wr));clear hcap hL hLo hO;go_wp2_with (with_reducible refine a0t a0r (by omega) (by assumption) ?_)
   go_ret2
   exact hout.out
end Go.Proofs.YtidbbddagfnfbaaGreat
namespace Go.Lin
open Go.Lim Go.Rep
def X38:Mat:=[[1,2],[2,1],[2,2]]
def Y38:List Rat:=[1,2,2]
theorem b6h (x:Mat) (y:List Rat) (n:Nat) (s:List Int):0<=a4Z x y n s:=by
 unfold a4Z;rw[a3Q rfl];exact b7k _ _
theorem b3m:Shp 3 2 X38:=⟨rfl,by intro r hr;simp[X38]at hr;rcases hr with rfl|rfl|rfl<;>rfl⟩
theorem b6i:BM 2 X38:=by
 intro r hr q hq;have:(X38.all fun r=>r.all fun q=>decide (Go.Lim.hq q<=2))=true:=by decide+kernel
 rw[List.all_eq_true]at this;have:=this r hr;rw[List.all_eq_true]at this;simpa using this q hq
theorem b6j:BR 2 Y38:=by
 intro q hq;have:(Y38.all fun q=>decide (Go.Lim.hq q<=2))=true:=by decide+kernel
 rw[List.all_eq_true]at this;simpa using this q hq
theorem b9E:a4Z X38 Y38 3 [0]=0:=by
 refine Rat.le_antisymm ?_ (b6h _ _ _ _);have h:=a8A (x:=a0Z X38 [0]) (y:=Y38) (n:=3) (c:=1) (a3c b3m [0]) rfl [1];have e:a2d (a2T (a0Z X38 [0]) Y38 [1]) (a2T (a0Z X38 [0]) Y38 [1])=0:=by decide+kernel
 rw[e]at h;exact h
theorem c0t {q:Rat} {n:Nat} {t:List (List Int)} (h:a5R (a4Z X38 Y38 3) (a1g 2 1 0) q n t):q=0/\∃r,t= [0]::r:=by
 have hc:a1g 2 1 0= [[0],[1]]:=by decide
 rw[hc]at h;rcases h with⟨h,_⟩|⟨_,⟨s,_,hq⟩,h2,_,h4⟩
 ·cases h
 ·have h1:=h2 [0] (by simp)
  rw[b9E]at h1;have h0:0<=q:=by rw[hq];exact b6h _ _ _ _
  have hq0:q=0:=Rat.le_antisymm h1 h0;refine⟨hq0,?_⟩;rw[hq0]at h4;have e:([[0],[1]]:List (List Int)).filter (fun s=>decide (a4Z X38 Y38 3 s=0))= [0]::([[1]]:List (List Int)).filter (fun s=>decide (a4Z X38 Y38 3 s=0)):=by
   rw[List.filter_cons,if_pos (by simp[b9E])]
  rw[e]at h4;exact⟨_,by rw[h4,List.take_succ_cons]⟩
end Go.Lin
namespace Go.Proofs.YtidbbddagfnfbaaGreat
open Go.RowKit Go.Rep Go.Lim
theorem a7O {a b:List Int} (hl:a.length=b.length) (h:∀i (hi:i<a.length) (hj:i<b.length),a[i]=b[i]):a=b:=List.ext_getElem hl h
theorem b1d (X:Nat->Bool) (ao bo:Option Addr) (a b:List Int) (ca cb:Nat) (w:World) (hsa:Sl (a0w .i64) 1 (mk X w) ao a) (hsb:Sl (a0w .i64) 1 (mk X w) bo b) (hla:a.length<=1099511627776):
  Calls Tryz.prog 72 #[.slice ao a.length ca, .slice bo b.length cb] w fun e w'=>e= .returned (.bool (a==b))/\∃m,w'=w.drewN m:=by
 have hha:=hsa.hd;have hhb:=hsb.hd;by_cases hlen:a.length=b.length
 ·have hbl:b.length<=a.length:=by omega
  have hab:a.length<=b.length:=by omega
  have hne:((a.length:Int) !=b.length)=false:=a7U (by omega);have hlen':=hid hlen;clear hlen;go_enter Tryz.func72,Tryz.ntmps72
  go_wp2_with fail
  go_loopw [13] (fun c wr=>∃i:Nat,c= .int .i64 i/\i<=a.length/\Hid (∀p,p<i->∀(hp:p<a.length) (hq:p<b.length),a[p]=b[p])/\∃m,wr=w.drewN m) (fun c _=>a.length - (intOf c).toNat)
  case atStart=>exact⟨0,rfl,Nat.zero_le _,fun p hp=>by omega,0,rfl⟩
  case round=>
   obtain⟨i,rfl,hi,hok,hDr⟩:=hrel;have hDq:Hid (∃m,wr=w.drewN m):=hid hDr;have hE:Ext w wr:=by
    obtain⟨m,hm⟩:=hDr;rw[hm];exact(ExtX.refl w).drewN m
   clear hDr;by_cases hlt:i<a.length
   ·have hlt2:i<b.length:=by omega
    have c1:=(hsa.mono (a0w.mono _) (a0p hE)).int i hlt;have c2:=(hsb.mono (a0w.mono _) (a0p hE)).int i hlt2;have i1:∀W,(Instr.indexAt 22 (.slice ao a.length ca) (.int .i64 (i:Int))).run Tryz.prog W= .ok (.pointer (some (adr ao i))) W:=a0C a4o ao a.length ca .i64 i hha (by omega) rfl;have i2:∀W,(Instr.indexAt 22 (.slice bo b.length cb) (.int .i64 (i:Int))).run Tryz.prog W= .ok (.pointer (some (adr bo i))) W:=a0C a4o bo b.length cb .i64 i hhb (by omega) rfl;obtain⟨x,hx⟩:∃x,a[i]=x:=⟨_,rfl⟩;obtain⟨y,hy⟩:∃y,b[i]=y:=⟨_,rfl⟩;rw[hx]at c1;rw[hy]at c2;have hx':=hid hx;have hy':=hid hy;clear hx hy;by_cases hxy:x=y
    ·have hn:Hid (∀(hp:i<a.length) (hq:i<b.length),a[i]=b[i]):=hid fun _ _=>by rw[hx'.out,hy'.out,hxy]
     have hb:(x !=y)=false:=a7U (by omega);clear hxy;go_wp2_with fail
     go_quiet (fail)
     go_wp2_with fail
     go_roundw
     case rel=>exact⟨i+1,by go_num,by omega,a4F hok.out hn.out,b9r hDq _⟩
     case measure=>simp[intOf];omega
    ·have hv:Hid ((a==b)=false):=hid (by
      cases h:a==b
      ·rfl
      ·have:=eq_of_beq h;subst this;exact absurd (hx'.out.symm.trans hy'.out) hxy)
     have hb:(x !=y)=true:=a7R (by omega);clear hxy;go_wp2_with fail
     go_quiet (fail)
     go_wp2_with fail
     go_ret
     exact⟨a0n hv.out.symm,b9r hDq _⟩
   ·have hv:Hid ((a==b)=true):=hid (by rw[a7O hlen'.out fun p hp hq=>hok.out p (by omega) hp hq];simp)
    go_wp2_with fail
    go_ret
    exact⟨a0n hv.out.symm,hDq.out⟩
 ·have hne:((a.length:Int) !=b.length)=true:=a7R (by omega)
  have hv:Hid ((a==b)=false):=hid (by
   cases h:a==b
   ·rfl
   ·have:=eq_of_beq h;subst this;exact absurd rfl hlen)
  clear hlen;go_enter Tryz.func72,Tryz.ntmps72
  go_wp2_with fail
  go_ret
  exact⟨a0n hv.out.symm,0,rfl⟩
end Go.Proofs.YtidbbddagfnfbaaGreat
namespace Go.Rep
open Go.RowKit Go.Lim Go.Lin
theorem Sl.size {X:Nat->Bool} {w:World} {ao:Option Addr} {l:List SizeT} (s:Sl a5r 10 (mk X w) ao l) (i:Nat) (hi:i<l.length):
  ∃g o sg a n c d k e so sc,adr ao (i*10)=⟨g,o,none⟩/\Hid (∀W',Ext w W'->W'.cell? ⟨g,o,none⟩=some (.int .i64 (l[i].p:Int))/\W'.cell? ⟨g,o+1,none⟩=some (.bool sg)/\W'.cell? ⟨g,o+1+1,none⟩=some (.slice a n c)/\W'.cell? ⟨g,o+1+2,none⟩=some (.slice d k e)/\W'.cell? ⟨g,o+7,none⟩=some (.slice so l[i].t.length sc)/\W'.cell? ⟨g,o+8,none⟩=some (.int .i64 (l[i].cnt:Int)))/\
   QC (mk X w) (.agg #[.bool sg, .slice a n c, .slice d k e]) l[i].q/\l[i].t.length<=sc/\Sl (SlV (a0w .i64) 1) 1 (mk X w) so l[i].t:=by
 obtain⟨u,h1,h2,sg,a,n,c,d,k,e,s2,a2,n2,c2,d2,k2,e2,so,sc,rfl,h3,h4,h5,h6⟩:=s.2 i hi;have q0:=h2 0 (by show 0<10;omega);have q1:=h2 1 (by show 1<10;omega);have q2:=h2 2 (by show 2<10;omega);have q3:=h2 3 (by show 3<10;omega);have q7:=h2 7 (by show 7<10;omega);have q8:=h2 8 (by show 8<10;omega);exact⟨(adr ao (i*10)).block,(adr ao (i*10)).off,sg,a,n,c,d,k,e,so,sc,rfl,hid fun W' hE=>⟨hE.cell (a1e q0),hE.cell (a1e q1),hE.cell (a1e q2),hE.cell (a1e q3),hE.cell (a1e q7),hE.cell (a1e q8)⟩,h3,h5,h6⟩
theorem b5q {X:Nat->Bool} {w:World} {e:TypeId} (hX:HX X w) {u v t:Value} {x y z:List Rat} (hu:RC (mk X w) u x) (hv:RC (mk X w) v y) (ht:RC (mk X w) t z) {arr:Array Value} (harr:arr=(a0j u++a0j v++a0j t).toArray):MC (mk X (w.alloc (.cells arr e))) (.slice (some ⟨w.heap.size,0,none⟩) 3 3) [x,y,z]:=by
 have:=OL.lit (w:=w) (base:=w.heap.size) (e:=e) RC.elem hX (Nat.le_refl _) [u,v,t] [x,y,z] arr (by rw[harr];simp) rfl (fun i hi hi'=>by
  match i,hi with
  |0,_=>exact hu
  |1,_=>exact hv
  |2,_=>exact ht) (by simp)
 exact⟨_,_,rfl,Nat.le_refl _,this.sl RC.elem⟩
theorem a7P {X:Nat->Bool} {w:World} {e:TypeId} (hX:HX X w) {u v:Value} {x y:Rat} (hu:QC (mk X w) u x) (hv:QC (mk X w) v y) {arr:Array Value} (harr:arr=(a0j u++a0j v).toArray):RC (mk X (w.alloc (.cells arr e))) (.slice (some ⟨w.heap.size,0,none⟩) 2 2) [x,y]:=by
 have:=OL.lit (w:=w) (base:=w.heap.size) (e:=e) QC.elem hX (Nat.le_refl _) [u,v] [x,y] arr (by rw[harr];simp) rfl (fun i hi hi'=>by
  match i,hi with
  |0,_=>exact hu
  |1,_=>exact hv) (by simp)
 exact⟨_,_,rfl,Nat.le_refl _,this.sl QC.elem⟩
theorem b5r {X:Nat->Bool} {w:World} {e:TypeId} (hX:HX X w) {u v t:Value} {x y z:Rat} (hu:QC (mk X w) u x) (hv:QC (mk X w) v y) (ht:QC (mk X w) t z) {arr:Array Value} (harr:arr=(a0j u++a0j v++a0j t).toArray):RC (mk X (w.alloc (.cells arr e))) (.slice (some ⟨w.heap.size,0,none⟩) 3 3) [x,y,z]:=by
 have:=OL.lit (w:=w) (base:=w.heap.size) (e:=e) QC.elem hX (Nat.le_refl _) [u,v,t] [x,y,z] arr (by rw[harr];simp) rfl (fun i hi hi'=>by
  match i,hi with
  |0,_=>exact hu
  |1,_=>exact hv
  |2,_=>exact ht) (by simp)
 exact⟨_,_,rfl,Nat.le_refl _,this.sl QC.elem⟩
end Go.Rep
namespace Go.Proofs.YtidbbddagfnfbaaGreat
open Go.RowKit Go.Rep Go.Lim Go.Lin
theorem c0u (w:World) {s1:Bool} {a1:Option Addr} {n1 c1:Nat} {d1:Option Addr} {k1 e1:Nat} {s2:Bool} {a2:Option Addr} {n2 c2:Nat} {d2:Option Addr} {k2 e2:Nat} (h1:QC (mk noY w) (.agg #[.bool s1, .slice a1 n1 c1, .slice d1 k1 e1]) 1) (h2:QC (mk noY w) (.agg #[.bool s2, .slice a2 n2 c2, .slice d2 k2 e2]) 2):
  ∃W,((((w.alloc (.cells #[.bool s1, .slice a1 n1 c1, .slice d1 k1 e1, .bool s2, .slice a2 n2 c2, .slice d2 k2 e2] 45)).alloc (.cells #[.bool s2, .slice a2 n2 c2, .slice d2 k2 e2, .bool s1, .slice a1 n1 c1, .slice d1 k1 e1] 45)).alloc (.cells #[.bool s2, .slice a2 n2 c2, .slice d2 k2 e2, .bool s2, .slice a2 n2 c2, .slice d2 k2 e2] 45)).alloc (.cells #[.slice (some ⟨w.heap.size,0,none⟩) 2 2, .slice (some ⟨w.heap.size+1,0,none⟩) 2 2, .slice (some ⟨w.heap.size+1+1,0,none⟩) 2 2] 24)).alloc (.cells #[.bool s1, .slice a1 n1 c1, .slice d1 k1 e1, .bool s2, .slice a2 n2 c2, .slice d2 k2 e2, .bool s2, .slice a2 n2 c2, .slice d2 k2 e2] 45)=W/\
   Ext w W/\MC (mk noY W) (.slice (some ⟨w.heap.size+1+1+1,0,none⟩) 3 3) X38/\RC (mk noY W) (.slice (some ⟨w.heap.size+1+1+1+1,0,none⟩) 3 3) Y38:=by
 have ra:=a7P (e:=45) (arr:=#[.bool s1, .slice a1 n1 c1, .slice d1 k1 e1, .bool s2, .slice a2 n2 c2, .slice d2 k2 e2]) (b1h w) h1 h2 rfl;obtain⟨wa,hwa,ea,_,za⟩:=a1t w #[.bool s1, .slice a1 n1 c1, .slice d1 k1 e1, .bool s2, .slice a2 n2 c2, .slice d2 k2 e2] 45;rw[hwa]at ra |-;have rb:=a7P (e:=45) (arr:=#[.bool s2, .slice a2 n2 c2, .slice d2 k2 e2, .bool s1, .slice a1 n1 c1, .slice d1 k1 e1]) (b1h wa) (mkx QC.mono h2 ea) (mkx QC.mono h1 ea) rfl;obtain⟨wb,hwb,eb,_,zb⟩:=a1t wa #[.bool s2, .slice a2 n2 c2, .slice d2 k2 e2, .bool s1, .slice a1 n1 c1, .slice d1 k1 e1] 45;rw[hwb]at rb |-;have e2':=ea.trans eb;have rc:=a7P (e:=45) (arr:=#[.bool s2, .slice a2 n2 c2, .slice d2 k2 e2, .bool s2, .slice a2 n2 c2, .slice d2 k2 e2]) (b1h wb) (mkx QC.mono h2 e2') (mkx QC.mono h2 e2') rfl;obtain⟨wc,hwc,ec,_,zc⟩:=a1t wb #[.bool s2, .slice a2 n2 c2, .slice d2 k2 e2, .bool s2, .slice a2 n2 c2, .slice d2 k2 e2] 45;rw[hwc]at rc |-;rw[za]at rb zb;rw[zb]at rc zc;have mm:=b5q (e:=24) (arr:=#[.slice (some ⟨w.heap.size,0,none⟩) 2 2, .slice (some ⟨w.heap.size+1,0,none⟩) 2 2, .slice (some ⟨w.heap.size+1+1,0,none⟩) 2 2]) (b1h wc) (mkx RC.mono ra (eb.trans ec)) (mkx RC.mono rb ec) rc rfl;obtain⟨wd,hwd,ed,_,zd⟩:=a1t wc #[.slice (some ⟨w.heap.size,0,none⟩) 2 2, .slice (some ⟨w.heap.size+1,0,none⟩) 2 2, .slice (some ⟨w.heap.size+1+1,0,none⟩) 2 2] 24;rw[hwd]at mm |-;have e4':=(e2'.trans ec).trans ed;have ry:=b5r (e:=45) (arr:=#[.bool s1, .slice a1 n1 c1, .slice d1 k1 e1, .bool s2, .slice a2 n2 c2, .slice d2 k2 e2, .bool s2, .slice a2 n2 c2, .slice d2 k2 e2]) (b1h wd) (mkx QC.mono h1 e4') (mkx QC.mono h2 e4') (mkx QC.mono h2 e4') rfl;obtain⟨we,hwe,ee,_,ze⟩:=a1t wd #[.bool s1, .slice a1 n1 c1, .slice d1 k1 e1, .bool s2, .slice a2 n2 c2, .slice d2 k2 e2, .bool s2, .slice a2 n2 c2, .slice d2 k2 e2] 45;rw[hwe]at ry;rw[zc]at mm zd;rw[zd]at ry;exact⟨we,hwe,e4'.trans ee,mkx MC.mono mm ee,ry⟩
set_option maxRecDepth 100000 in
set_option maxHeartbeats 1600000 in
theorem a9y (w:World):Calls Tryz.prog 15 #[] w (b1A w true):=by
 go_enter Tryz.func15,Tryz.ntmps15
 go_wp2_with fail
 refine(a4I noY w 1 (b1h w) (by decide) (by decide)).mono ?_;rintro ee w1 ⟨hE1,u1,rfl,hu1⟩;obtain⟨s1,a1,n1,c1,d1,k1,e1,rfl⟩:=hu1.shape;go_wp2_with fail
 refine(a4I noY w1 2 (b1h w1) (by decide) (by decide)).mono ?_;rintro ee w2 ⟨hE2,u2,rfl,hu2⟩;obtain⟨s2,a2,n2,c2,d2,k2,e2,rfl⟩:=hu2.shape;obtain⟨W,hW,hE,b0,b1,hz⟩:=a1v w2 #[.bool false, .slice none 0 0, .slice none 0 0] #[.bool false, .slice none 0 0, .slice none 0 0] 45 45;subst hW;have hz:=hid hz;go_wp2_with ((with_reducible show wpList _ _ _ (⟨_, .store 45 _ _,_,_,_,_⟩::_) _ _);first|(refine a0c a0u rfl rfl b0 rfl rfl (a2g _ _ _ _ _ _ _) ?_;intro w3 p1 p2;have b1':=b1.ext p2 (a0b (by omega)))|(refine a0c a0u rfl rfl b1' rfl rfl (a2g _ _ _ _ _ _ _) ?_;intro w4 p3 p4;have q0:=p1.ext p4 (a0b (by omega));have z0:=q0.cell 0 rfl;have z1:=q0.cell 1 rfl;have z2:=q0.cell 2 rfl;have z3:=p3.cell 0 rfl;have z4:=p3.cell 1 rfl;have z5:=p3.cell 2 rfl;have hz:=hid (fun w' (h:Ext w4 w')=>(⟨h.cell z0,h.cell z1,h.cell z2,h.cell z3,h.cell z4,h.cell z5⟩:w'.cell? ⟨w2.heap.size,0,none⟩=some (.bool s1)/\w'.cell? ⟨w2.heap.size,1,none⟩=some (.slice a1 n1 c1)/\w'.cell? ⟨w2.heap.size,2,none⟩=some (.slice d1 k1 e1)/\w'.cell? ⟨w2.heap.size+1,0,none⟩=some (.bool s2)/\w'.cell? ⟨w2.heap.size+1,1,none⟩=some (.slice a2 n2 c2)/\w'.cell? ⟨w2.heap.size+1,2,none⟩=some (.slice d2 k2 e2)));have y1:=fun o=>hz.out (w4.alloc o) ((ExtX.refl _).alloc _);have y2:=fun o o'=>hz.out ((w4.alloc o).alloc o') (((ExtX.refl _).alloc _).alloc _);have y4:=fun o o' o3 o4=>hz.out ((((w4.alloc o).alloc o').alloc o3).alloc o4) (((((ExtX.refl _).alloc _).alloc _).alloc _).alloc _)))
 have hE4:Ext w2 w4:=ExtX.box (ExtX.box hE p2 (Nat.le_refl _)) p4 (by omega);obtain⟨w5,hw5,hE5,hMX,hRY⟩:=c0u w4 (mkx QC.mono hu1 (hE2.trans hE4)) (mkx QC.mono hu2 hE4);rw[hw5];have hb:=b0v noY w5 _ _ X38 Y38 3 2 2 100 (b1h w5) (hMX.mv (fun r hr q hq=>Nat.le_trans (b6i r hr q hq) (by decide))) (hRY.rv (fun q hq=>Nat.le_trans (b6j q hq) (by decide))) (by decide+kernel) b3m (by decide) (by decide) b6i b6j (by decide) (by decide) (by decide) (by decide);have hE05:=hE1.trans (hE2.trans (hE4.trans hE5));clear y1 y2 y4 hz z0 z1 z2 z3 z4 z5 q0 p1 p2 p3 p4 b0 b1 b1' hw5;refine hb.mono ?_;rintro e w6 ⟨hE6,ao,cap,L,rfl,hcap,hL,hSl,hok⟩;have hl1:1<L.length:=by omega
 obtain⟨g,o,sg,a,n,c,d,k,e,so,sc,hadr,hcells,hq,hsc,hst⟩:=hSl.size 1 hl1;obtain⟨hp,hI,_⟩:=hok 1 hl1;obtain⟨hq0,r,ht⟩:=c0t hI;have hd:Hd ao 3:=by have:=hSl.hd;rw[hL]at this;exact this
 have i1:∀W,(Instr.indexAt 36 (.slice ao 3 cap) (.int .i64 1)).run Tryz.prog W= .ok (.pointer (some ⟨g,o,none⟩)) W:=by rw[<-hadr];exact a0h a6C ao 3 cap .i64 1 hd (by omega)
 rw[hp,ht]at hcells;rw[hq0]at hq;rw[ht]at hst;obtain⟨ta,tc,ht1,ht2,ht3⟩:=hst.slice 0 (by simp);have hts:=hst.hd;have htl:Hid (([0]::r:List (List Int)).length=r.length+1):=hid rfl;rw[htl.out]at hcells hts;obtain⟨tl,htl2⟩:∃tl,r.length+1=tl:=⟨_,rfl⟩;rw[htl2]at hcells hts;have htp:0<tl:=by omega
 have hdp:decide ((0:Int)<(tl:Int))=true:=decide_eq_true (by omega);have hsi:=a6T noY w6 _ 0 (b1h w6) (hq.qv (by rw[a0Y];decide));rw[show((0:Rat).num.sign)=0 from rfl]at hsi;obtain⟨j0,j1,j2,j3,j7,_⟩:=hcells.out w6 (ExtX.refl _);have j0':w6.cell? ⟨g,o,none⟩=some (.int .i64 1):=j0;clear hok hI hSl hL hb hMX hRY hp ht hadr htl2 j0;go_wp2_with fail
 refine hsi.mono ?_;rintro e w7 ⟨hE7,rfl⟩;obtain⟨_,_,_,_,y7,_⟩:=hcells.out w7 hE7;have yt:w7.cell? (adr so 0)=some (.slice ta 1 tc):=hE7.cell ht1;have i2:∀W,(Instr.indexAt 46 (.slice so tl sc) (.int .i64 0)).run Tryz.prog W= .ok (.pointer (some (adr so 0))) W:=a0C b6d so tl sc .i64 0 hts htp rfl;have hlit:Sl (a0w .i64) 1 (mk noY (w7.alloc (.cells #[.int .i64 0] 3))) (some ⟨w7.heap.size,0,none⟩) [0]:=(OL.lit (w:=w7) (base:=w7.heap.size) (e:=3) (l:=[0]) (a0w.elem .i64) (b1h w7) (Nat.le_refl _) [.int .i64 0] #[.int .i64 0] rfl rfl (fun i hi _=>by
  have:i=0:=by simpa using hi
  subst this;rfl) (by simp)).sl (a0w.elem _)
 have hEl:Ext w7 (w7.alloc (.cells #[.int .i64 0] 3)):=(ExtX.refl _).alloc _;have hsa:Calls Tryz.prog 72 #[.slice ta 1 tc, .slice (some ⟨w7.heap.size,0,none⟩) 1 1] (w7.alloc (.cells #[.int .i64 0] 3)) (fun e w'=>e= .returned (.bool ([0]==([0]:List Int)))/\∃m,w'=(w7.alloc (.cells #[.int .i64 0] 3)).drewN m):=b1d noY ta (some ⟨w7.heap.size,0,none⟩) [0] [0] tc 1 _ (ht3.mono (a0w.mono _) (a0p (hE7.trans hEl))) hlit (by decide);have hbt:(([0]:List Int)==[0])=true:=by decide
 rw[hbt]at hsa;clear hsi j1 j2 j3 j7 j0' hlit hbt ht1 ht2 ht3 hq;go_wp2_with fail
 refine hsa.mono ?_;rintro e w8 ⟨rfl,m,rfl⟩;have hE8:=(hE05.trans (hE6.trans (hE7.trans hEl))).drewN m;clear hsa;go_wp2_with fail
 go_ret
 exact⟨hE8,rfl⟩
def c0v (X:Nat->Bool) (tb:Nat) (R:Mem->Value->Rat->Prop) (k:Nat) (w:World) (e:Ending) (w':World):Prop:=ExtX (tbm tb) w w'/\a0V X tb w'/\∃u q,e= .returned u/\R (mk X w') u q/\hq q<=k
theorem a0V.box {X:Nat->Bool} {tb nb:Nat} {w W:World} (h:a0V X tb w) (hE:Ext w W):a0V (a0f X w.heap.size nb) tb W:=by
 have hlt:=h.lt;obtain⟨hX,lo,l,cap,at_,h1,h2,h3,h4⟩:=h;exact⟨b1y hX,lo,l,cap,at_,by rw[hE.block tb hlt rfl];exact h1,h2,h3,h4.mono (a0w.mono _) (a0o hE)⟩
theorem a0V.unbox {X:Nat->Bool} {tb b nb:Nat} {w:World} (h:a0V (a0f X b nb) tb w) (hX:X tb=true):a0V X tb w:=by
 obtain⟨_,lo,l,cap,at_,h1,h2,h3,h4⟩:=h;exact⟨hX,lo,l,cap,at_,h1,h2,h3,h4.mono (a0w.mono _) a0l⟩
theorem a0V.store {X:Nat->Bool} {tb b nb:Nat} {w w':World} (h:a0V (a0f X b nb) tb w) (hE:ExtX (ob (some ⟨b,0,Option.none⟩)) w w') (hb:0<nb) (ht:tb≠b):a0V (a0f X b nb) tb w':=
 h.extY hE (fun k hk=>by
  have:k=b:=by
   have:=hk;simp[ob]at this;omega
  subst this;simp[a0f];omega) (a0b ht)
theorem _root_.Go.Rep.ExtX.tbox {tb b:Nat} {w w4 w7:World} (h:ExtX (tbm tb) w w4) (hE:ExtX (ob (some ⟨b,0,none⟩)) w4 w7) (hb:w.heap.size<=b):ExtX (tbm tb) w w7:=h.then_ hE (fun i hi _=>a0b (by omega))
theorem b9F {n:Nat} (h:n<4294967296):lg n<=1:=by
 by_cases h0:n=0
 ·subst h0;simp[a5T]
 ·rw[a2V (by omega) h];exact Nat.le_refl _
theorem lgI {a:Int} (h1: -100000<=a) (h2:a<=100000):lg a.natAbs<=1:=b9F (by omega)
theorem b3n {a k:Int} (h1: -100000<=a) (h2:a<=100000) (h3: -100000<=k) (h4:k<=100000):hq ((a:Rat)/(k:Rat))<=2:=by
 have:=hq_div (a:Rat) (k:Rat);have:=a6Q a 1 (lgI h1 h2) (by omega);have:=a6Q k 1 (lgI h3 h4) (by omega);omega
set_option maxRecDepth 100000 in
theorem b5s (X:Nat->Bool) (tb:Nat) (w:World) (ht:a0V X tb w) (hX:HX X w):Calls Tryz.prog 33 #[.pointer (some ⟨tb,0,none⟩)] w (c0v X tb QC 2 w):=by
 have htb:=ht.lt;have htX:=ht.1;obtain⟨W,hW,hE,b0,hz⟩:=a1t w #[.bool false, .slice none 0 0, .slice none 0 0] 45;have hXW:HX (a0f X w.heap.size 1) W:=hX.boxes hz;have htW:a0V (a0f X w.heap.size 1) tb W:=ht.box hE;obtain⟨b,hb⟩:∃b,w.heap.size=b:=⟨_,rfl⟩;have hbw:w.heap.size<=b:=by omega
 have htb':tb≠b:=by omega
 have hbt:b≠tb:=by omega
 rw[hb]at b0 hz hXW htW;have hEb:ExtX (tbm tb) w W:=ExtX.of hE;clear hE;go_enter Tryz.func33,Tryz.ntmps33
 go_wp2_with fail
 refine(a2l (a0f X b 1) tb 8 _ htW (by omega)).mono ?_;rintro e w1 ⟨hE1,ht1,m,rfl,hm⟩;have b1:=b0.ext hE1 (a5J hbt);have hX1:=hXW.ext hE1;have hF1:=hEb.trans hE1;clear b0 hXW htW hEb hE1;by_cases h6:m=6
 ·subst h6
  go_wp2_with fail
  refine(a2l (a0f X b 1) tb 13 _ ht1 (by omega)).mono ?_;rintro e w2 ⟨hE2,ht2,m2,rfl,hm2⟩;have hm2':m2<13:=by omega
  have b2:=b1.ext hE2 (a5J hbt);have hX2:=hX1.ext hE2;have hF2:=hF1.trans hE2;go_wp2_with fail
  refine(a2l (a0f X b 1) tb 6 _ ht2 (by omega)).mono ?_;rintro e w3 ⟨hE3,ht3,m3,rfl,hm3⟩;have hm3':m3<6:=by omega
  have b3:=b2.ext hE3 (a5J hbt);have hX3:=hX2.ext hE3;have hF3:=hF2.trans hE3;go_wp2_with fail
  refine(a6U (a0f X b 1) w3 _ _ hX3 (by omega) (by omega) (by omega) (by omega) (by omega) (Nat.le_trans (lgI (by omega) (by omega)) (by omega)) (Nat.le_trans (lgI (by omega) (by omega)) (by omega))).mono ?_;rintro e w4 ⟨hE4,u4,rfl,hu4⟩;obtain⟨s6,a6,n6,c6,d6,k6,e6,rfl⟩:=hu4.shape;have b4:=b3.ext0 hE4;have ht4:=ht3.ext hE4;have hF4:=hF3.trans (ExtX.of hE4);go_wp2_with ((with_reducible show wpList _ _ _ (⟨_, .store _ _ _,_,_,_,_⟩::_) _ _);refine a0c a0u rfl rfl b4 rfl rfl (a2g _ _ _ _ _ _ _) ?_;intro w7 r1 r2)
  have h7:=QC.mono _ _ _ _ a0l (QC.mono _ _ _ _ (a0i r2 (by omega) (by omega)) hu4);exact bodyPost_ret (a0e rfl rfl a0u r1 rfl) rfl ⟨hF4.tbox r2 hbw,(ht4.store r2 (by omega) htb').unbox htX,_,_,rfl,h7,b3n (by omega) (by omega) (by omega) (by omega)⟩
 ·by_cases h7:m=7
  ·subst h7
   go_wp2_with fail
   refine(a2l (a0f X b 1) tb 2001 _ ht1 (by omega)).mono ?_;rintro e w2 ⟨hE2,ht2,m2,rfl,hm2⟩;have hm2':m2<2001:=by omega
   have b2:=b1.ext hE2 (a5J hbt);have hX2:=hX1.ext hE2;have hF2:=hF1.trans hE2;go_wp2_with fail
   refine(b5h (a0f X b 1) tb [1,1,7] _ _ _ w2 1 7 ht2 hX2 rfl rfl (by simp) (by simp) (hid (by simp))).mono ?_;rintro e w3 ⟨hE3,ht3,m3,rfl,hm3,hm3'⟩;have b3:=b2.ext hE3 (a5J hbt);have hX3:=hX2.ext hE3;have hF3:=hF2.trans hE3;go_wp2_with fail
   refine(a6U (a0f X b 1) w3 _ _ hX3 (by omega) (by omega) (by omega) (by omega) (by omega) (Nat.le_trans (lgI (by omega) (by omega)) (by omega)) (Nat.le_trans (lgI (by omega) (by omega)) (by omega))).mono ?_;rintro e w4 ⟨hE4,u4,rfl,hu4⟩;obtain⟨s6,a6,n6,c6,d6,k6,e6,rfl⟩:=hu4.shape;have b4:=b3.ext0 hE4;have ht4:=ht3.ext hE4;have hF4:=hF3.trans (ExtX.of hE4);go_wp2_with ((with_reducible show wpList _ _ _ (⟨_, .store _ _ _,_,_,_,_⟩::_) _ _);refine a0c a0u rfl rfl b4 rfl rfl (a2g _ _ _ _ _ _ _) ?_;intro w7 r1 r2)
   have h7:=QC.mono _ _ _ _ a0l (QC.mono _ _ _ _ (a0i r2 (by omega) (by omega)) hu4);exact bodyPost_ret (a0e rfl rfl a0u r1 rfl) rfl ⟨hF4.tbox r2 hbw,(ht4.store r2 (by omega) htb').unbox htX,_,_,rfl,h7,b3n (by omega) (by omega) (by omega) (by omega)⟩
  ·have t6:((m:Int)==6)=false:=a2I (by omega)
   have t7:((m:Int)==7)=false:=a2I (by omega);go_wp2_with fail
   refine(a2l (a0f X b 1) tb 9 _ ht1 (by omega)).mono ?_;rintro e w2 ⟨hE2,ht2,m2,rfl,hm2⟩;have hm2':m2<9:=by omega
   have b2:=b1.ext hE2 (a5J hbt);have hX2:=hX1.ext hE2;have hF2:=hF1.trans hE2;go_wp2_with fail
   refine(a4I (a0f X b 1) w2 _ hX2 (by omega) (by omega)).mono ?_;rintro e w4 ⟨hE4,u4,rfl,hu4⟩;obtain⟨s6,a6,n6,c6,d6,k6,e6,rfl⟩:=hu4.shape;have b4:=b2.ext0 hE4;have ht4:=ht2.ext hE4;have hF4:=hF2.trans (ExtX.of hE4);go_wp2_with ((with_reducible show wpList _ _ _ (⟨_, .store _ _ _,_,_,_,_⟩::_) _ _);refine a0c a0u rfl rfl b4 rfl rfl (a2g _ _ _ _ _ _ _) ?_;intro w7 r1 r2)
   have h7:=QC.mono _ _ _ _ a0l (QC.mono _ _ _ _ (a0i r2 (by omega) (by omega)) hu4);exact bodyPost_ret (a0e rfl rfl a0u r1 rfl) rfl ⟨hF4.tbox r2 hbw,(ht4.store r2 (by omega) htb').unbox htX,_,_,rfl,h7,Nat.le_trans (a6Q _ 1 (lgI (by omega) (by omega)) (by omega)) (by omega)⟩
def b8a (X:Nat->Bool) (tb:Nat) (R:Mem->Value->Rat->Prop) (k n:Nat) (w:World) (e:Ending) (w':World):Prop:=ExtX (tbm tb) w w'/\∃(ao:Option Addr) (l:List Rat) (cap:Nat),e= .returned (.slice ao n cap)/\l.length=n/\n<=cap/\BR k l/\a0V (un X ao) tb w'/\OL R 3 X w.heap.size 45 w' ao cap l
theorem b0w (X:Nat->Bool) (tb n:Nat) (w:World) (ht:a0V X tb w) (hX:HX X w) (hn:n<=1000):
  Calls Tryz.prog 57 #[.pointer (some ⟨tb,0,none⟩), .int .i64 (n:Int)] w (b8a X tb QC 2 n w):=by
 have hsub:=a6x ht.1;go_enter Tryz.func57,Tryz.ntmps57
 go_wp2_with fail
 go_loopw [5,6] (fun s c wr=>∃(i:Nat) (oo:Option Addr) (co:Nat) (l:List Rat),c= .int .i64 i/\s= .slice oo i co/\l.length=i/\i<=n/\BR 2 l/\OL QC 3 X w.heap.size 45 wr oo co l/\a0V (un X oo) tb wr/\ExtX (tbm tb) w wr) (fun _ c _=>n - (intOf c).toNat)
 case atStart=>exact⟨0,none,0,[],rfl,rfl,rfl,Nat.zero_le _,fun x hx=>by simp at hx,OL.nil _ _ _ _ _ _,ht.none,ExtX.refl _⟩
 case round=>
  obtain⟨i,oo,co,l,rfl,rfl,hli,hin,hB,hO,htr,hE⟩:=hrel;have hXr:HX X wr:=hX.ext hE;by_cases hlt:i<n
  ·have hXu:HX (un X oo) wr:=hO.unX hXr
   have hln:=hid hli;clear hli;go_wp2_with fail
   refine(b5s (un X oo) tb _ htr hXu).mono ?_;rintro e w2 ⟨hE2,ht2,u6,q,rfl,hu6,hq6⟩;obtain⟨s6,a6,n6,c6,d6,k6,e6,rfl⟩:=hu6.shape;have hO2:=hO.ext QC.elem hE2 (fun k _ hk=>hsub k hk) (fun _ _ h=>h);have hX2:HX X w2:=hXr.ext hE2;have hE3:=hE.trans hE2;have hbase:=hE3.size;clear hO htr hE hE2 hXr hXu;go_wp2_with (at_builtin;refine a0v (l:=l) a0D rfl QC.elem (by omega) hX2 i hln.out rfl rfl hO2 (.agg #[.bool s6, .slice a6 n6 c6, .slice d6 k6 e6]) q rfl hu6 (by omega) (by omega) ?_;intro oo2 co2 w7 hO7 hE7 hor)
   have hE8:=hE3.own hO2 (Nat.le_refl _) hE7;have ht3:=ht2.unstep (hO2.not_ob ht.1) hE7 hor;have hB2:BR 2 (l++[q]):=fun x hx=>by
    rcases List.mem_append.1 hx with h|h
    ·exact hB x h
    ·rw[List.mem_singleton.1 h];exact hq6
   have hl2:(l++[q]).length=i+1:=by rw[List.length_append,hln.out];rfl
   go_roundw
   case rel=>exact⟨i+1,oo2,co2,_,by go_num,by go_num,hl2,by omega,hB2,hO7,ht3,hE8⟩
   case measure=>simp[intOf];omega
  ·have hil:i=n:=by omega
   subst hil;have hc:=hO.lenCap;rw[hli]at hc;go_wp2_with fail
   go_ret
   exact⟨hE,oo,l,co,rfl,hli,hc,hB,htr,hO⟩
end Go.Proofs.YtidbbddagfnfbaaGreat
namespace Go.Rep
open Go.RowKit Go.Lim
theorem b1e {P:Program} {ops:Array Oper} {Q:Exit->Act->World->Prop} {rest:List Oper} {a:Act} {w:World} {α:Type} {R:Mem->Value->α->Prop} {sz:Nat} {X:Nat->Bool} {e:TypeId} {d:Option Tmp} {ty:TypeId} {ps:String} {af:Array Edge}
  {t by_:Nat} {z:Value} {s x:Operand} {ax:Option Addr} {cs:Nat} (T:SliceT P t e sz by_ z) (hzs:z.cells.size=sz) (hR:Elem R sz) (base:Nat) (hbase:base<=w.heap.size) (hX:∀k,X k=true->k<w.heap.size)
  (xs:List α) (n:Nat) (hn:xs.length=n) (hs:a.eval s= .slice none 0 0) (hx:a.eval x= .slice ax n cs) (hxs:Sl R sz (mk X w) ax xs) (hroom:n*by_<=140737488355328) (hmax:n<=9223372036854775807)
  (K:∀ao' cap' w',OL R sz X base e w' ao' cap' xs->n<=cap'->Ext w w'->wpList P ops Q rest (a.put d (.slice ao' n cap')) w'):
  wpList P ops Q (⟨d, .call {callee:= .builtin .append,args:=#[s,x],argTypes:=#[t,t]},ty,ps,af,none⟩::rest) a w:=by
 subst hn;have h0:Sl R sz (mk (un X none) w) ax xs:=by
  have:un X none=X:=by funext k;simp[un,ob]
  rw[this];exact hxs
 refine a3U (l:=[]) T hzs hR hbase hX xs hs hx (OL.nil _ _ _ _ _ _) h0 (by simpa using hroom) (by simpa using hmax) fun ao' cap' w' hO hE _=>?_;rw[List.nil_append]at hO |-;exact K ao' cap' w' hO hO.lenCap (hE.weaken fun _ _ _=>rfl)
theorem Sl.rowsF {R:Mem->Value->Rat->Prop} {h:Mem} {ao:Option Addr} {m:List (List Rat)} (s:Sl (SlV R 3) 1 h ao m):∃f:Nat->Option Addr×Nat,∀i (hi:i<m.length),h (adr ao i)=some (.slice (f i).1 m[i].length (f i).2)/\m[i].length<=(f i).2/\Sl R 3 h (f i).1 m[i]:=by
 have key:∀i,∃p:Option Addr×Nat,∀(hi:i<m.length),h (adr ao i)=some (.slice p.1 m[i].length p.2)/\m[i].length<=p.2/\Sl R 3 h p.1 m[i]:=fun i=>by
  by_cases hi:i<m.length
  ·obtain⟨u,h1,a,c,rfl,h2,h3⟩:=s.cell SlV.one i hi
   exact⟨(a,c),fun _=>⟨h1,h2,h3⟩⟩
  ·exact⟨(none,0),fun h=>absurd h hi⟩
 exact⟨fun i=>(key i).choose,fun i hi=>(key i).choose_spec hi⟩
theorem OL.rowsF {X:Nat->Bool} {base:Nat} {e:TypeId} {w:World} {ao:Option Addr} {cap:Nat} {m:List (List Rat)} (s:OL RC 1 X base e w ao cap m):∃f:Nat->Option Addr×Nat,∀i (hi:i<m.length),w.cell? (adr ao i)=some (.slice (f i).1 m[i].length (f i).2)/\m[i].length<=(f i).2/\Sl QC 3 (mk (un X ao) w) (f i).1 m[i]:=by
 have key:∀i,∃p:Option Addr×Nat,∀(hi:i<m.length),w.cell? (adr ao i)=some (.slice p.1 m[i].length p.2)/\m[i].length<=p.2/\Sl QC 3 (mk (un X ao) w) p.1 m[i]:=fun i=>by
  by_cases hi:i<m.length
  ·obtain⟨u,h1,_,h2⟩:=s.cell SlV.one i hi
   obtain⟨a,c,rfl,h3,h4⟩:=h2;exact⟨(a,c),fun _=>⟨h1,h3,h4⟩⟩
  ·exact⟨(none,0),fun h=>absurd h hi⟩
 exact⟨fun i=>(key i).choose,fun i hi=>(key i).choose_spec hi⟩
theorem b9G {ao:Option Addr} {n k:Nat} (hd:Hd ao n) (hn:0<n) {b:Nat} (hb:ob ao b=false):(adr ao k).block≠b:=by
 obtain⟨g,o,rfl⟩:=hd hn;intro h;have:g=b:=h;subst this;simp[ob]at hb
end Go.Rep
namespace Go.Proofs.YtidbbddagfnfbaaGreat
open Go.RowKit Go.Rep Go.Lim
def pB (k:Nat):Nat:=2^(k+1) - 2
def b3o (X:Nat->Bool) (tb:Nat) (n k:Nat) (w:World) (e:Ending) (w':World):Prop:=ExtX (tbm tb) w w'/\a0V X tb w'/\∃(vx vy:Value) (p:List (List Rat)) (y:List Rat) (d:Nat),e= .returned (.tuple #[vx,vy])/\MV (mk X w') vx p/\RV (mk X w') vy y/\1<=p.length/\p.length<=n/\1<=d/\d<=k/\(∀r∈p,r.length=d)/\y.length=p.length/\BM 2 p/\BR 4 y
def b9H (X:Nat->Bool) (oo:Option Addr) (tb d:Nat) (w:World) (v:Value) (w':World):Prop:=∃(po:Option Addr) (p:List Rat) (pc:Nat),v= .slice po d pc/\p.length=d/\BR 2 p/\a0V (un (un X oo) po) tb w'/\OL QC 3 (un X oo) w.heap.size 45 w' po pc p/\ExtX (tbm tb) w w'
theorem c0w {h:Mem} {ao:Option Addr} {l:List (List Rat)} (s:Sl RC 1 h ao l) (hb:BM 68719476736 l):Sl RV 1 h ao l:=
 ⟨s.1,fun i hi=>let ⟨u,h1,h2,h3⟩:=s.2 i hi;⟨u,h1,h2,RC.rv h3 (hb _ (List.getElem_mem _))⟩⟩
def twN (y:List Rat) (p:List (List Rat)) (j:Nat):List Rat:=(List.range y.length).map fun i=>if i<j then 2*(p.getD i []).getD 0 0 else y.getD i 0
theorem a9z (y:List Rat) (p:List (List Rat)) (j:Nat):(twN y p j).length=y.length:=by simp[twN]
theorem b5t (y:List Rat) (p:List (List Rat)):y=twN y p 0:=by
 refine List.ext_getElem (by simp[twN]) fun i h1 h2=>?_;simp[twN,List.getD_eq_getElem?_getD,h1]
theorem b8b (y:List Rat) (p:List (List Rat)) (j:Nat):(twN y p j).set j (2*(p.getD j []).getD 0 0)=twN y p (j+1):=by
 refine List.ext_getElem (by simp[twN]) fun i h1 h2=>?_;rw[List.getElem_set];simp only[twN,List.getElem_map,List.getElem_range];split
 ·subst_vars;simp
 ·by_cases h:i<j
  ·simp[h,show i<j+1 by omega]
  ·simp[h,show¬i<j+1 by omega]
theorem b9I {x:Rat} {B:Nat} (hx:hq x<=B):hq (2*x)<=B+2:=by
 have h2:=hq_mul 2 x;have h3:hq (2:Rat)<=1:=a6Q 2 1 (lgI (by omega) (by omega)) (by omega);omega
theorem b9J {y:List Rat} {p:List (List Rat)} (hy:BR 2 y) (hp:BM 2 p) (j:Nat):BR 4 (twN y p j):=by
 intro q hq';unfold twN at hq';obtain⟨i,hi,rfl⟩:=List.mem_map.1 hq';have hi:=List.mem_range.1 hi;split
 ·refine b9I ?_
  by_cases h:i<p.length
  ·rw[show p.getD i []=p[i]by simp[List.getD_eq_getElem?_getD,h]]
   by_cases h0:0<p[i].length
   ·rw[show p[i].getD 0 0=p[i][0]by simp[List.getD_eq_getElem?_getD,h0]]
    exact hp _ (List.getElem_mem _) _ (List.getElem_mem _)
   ·rw[show p[i].getD 0 0=0 by simp[List.getD_eq_getElem?_getD,List.getElem?_eq_none (show p[i].length<=0 by omega)],a0Y];decide
  ·rw[show p.getD i []= []by simp[List.getD_eq_getElem?_getD,List.getElem?_eq_none (show p.length<=i by omega)],show([]:List Rat).getD 0 0=0 from rfl,a0Y];decide
 ·rw[show y.getD i 0=y[i]by simp[List.getD_eq_getElem?_getD,hi]]
  exact Nat.le_trans (hy _ (List.getElem_mem _)) (by decide)
set_option maxRecDepth 100000 in
set_option maxHeartbeats 3200000 in
theorem a9A (X:Nat->Bool) (tb n k:Nat) (w:World) (ht:a0V X tb w) (hX:HX X w) (hn1:1<=n) (hn:n<=8) (hk1:1<=k) (hk:k<=8):
  Calls Tryz.prog 20 #[.pointer (some ⟨tb,0,none⟩), .int .i64 (n:Int), .int .i64 (k:Int)] w (b3o X tb n k w):=by
 have hsub:=a6x ht.1;have htX:=ht.1;go_enter Tryz.func20,Tryz.ntmps20
 go_wp2_with fail
 refine(a2l X tb k w ht (by omega)).mono ?_;rintro e w1 ⟨hE1,ht1,m,rfl,hm⟩;have hd1:(1+(m:Int))=((m+1:Nat):Int):=by omega
 have hdk:m+1<=k:=by omega
 obtain⟨d,hd⟩:∃d,m+1=d:=⟨_,rfl⟩;have hdp:1<=d:=by omega
 rw[hd]at hd1 hdk;clear hd hm;go_wp2_with fail
 refine(a6y X tb 2 w1 ht1 (by decide) (by decide)).mono ?_;rintro e w2 ⟨hE2,ht2,ones,rfl⟩;go_wp2_with fail
 refine(a2l X tb n w2 ht2 (by omega)).mono ?_;rintro e w3 ⟨hE3,ht3,m2,rfl,hm2⟩;have hN1:(1+(m2:Int))=((m2+1:Nat):Int):=by omega
 have hNn:m2+1<=n:=by omega
 obtain⟨N,hN⟩:∃N,m2+1=N:=⟨_,rfl⟩;have hNp:1<=N:=by omega
 rw[hN]at hN1 hNn;have hF3:=(hE1.trans hE2).trans hE3;have hX3:=hX.ext hF3;clear hN hm2 hE1 hE2 hE3 ht1 ht2 ht;go_wp2_with fail
 go_loopw [9,10] (fun s c wr=>∃(i j:Nat) (oo:Option Addr) (co:Nat) (l:List (List Rat)),c= .int .i64 i/\s= .slice oo j co/\l.length=j/\i+j=N/\(∀r∈l,r.length=d)/\BM 2 l/\OL RC 1 X w.heap.size 24 wr oo co l/\a0V (un X oo) tb wr/\ExtX (tbm tb) w wr) (fun _ c _=>(intOf c).toNat)
 case atStart=>exact⟨N,0,none,0,[],rfl,rfl,rfl,rfl,by simp,fun r hr=>by simp at hr,OL.nil _ _ _ _ _ _,by rw[show un X none=X by funext k;simp[un,ob]];exact ht3,hF3⟩
 case round=>
  clear hF3 ht3 hX3;obtain⟨i,j,oo,co,l,rfl,rfl,hlk,hij,hrl,hBM,hO,htr,hE⟩:=hrel;have hXr:HX X wr:=hX.ext hE;have hXu:HX (un X oo) wr:=hO.unX hXr;have hlk':=hid hlk;have hrl':=hid hrl;have hBM':=hid hBM;by_cases hlt:0<i
  ·obtain⟨i,rfl⟩:∃j,i=j+1:=⟨i - 1,by omega⟩
   obtain⟨wo,hwo⟩:∃wo,wo=wr:=⟨_,rfl⟩;subst hwo;clear hlk hrl hBM;go_upto_region 7 with fail
   go_cut [11]from 28 to 30 (fun v wx=>b9H X oo tb d wo v wx)
   case first=>
    go_wp2_with fail
    refine(b0w (un X oo) tb d wo htr hXu (by omega)).mono ?_;rintro e w2 ⟨hE2,po,p,pc,rfl,hpl,hpc,hpB,ht2,hP⟩;go_wp2_with fail
    all_goals go_meet
    all_goals case rel=>exact⟨po,p,pc,rfl,hpl,hpB,ht2,hP,hE2⟩
   case rest=>
   obtain⟨po,p,pc,rfl,hpl,hpB,ht2,hP,hE2⟩:=hcut
   go_step
   go_step
   go_cut [11]from 31 to 45 (fun v wx=>b9H X oo tb d wo v wx)
   case first=>
    by_cases hj0:0<j
    ·go_wp2_with fail
     refine(a6y (un (un X oo) po) tb 6 wc ht2 (by decide) (by decide)).mono ?_;rintro e w4 ⟨hE4,ht4,b2,rfl⟩;have hP4:=hP.ext QC.elem hE4 (fun k _ hk=>a0k (hsub k hk)) (fun _ _ h=>h);have hE24:=hE2.trans hE4;cases b2
     ·go_wp2_with fail
      all_goals go_meet
      all_goals case rel=>exact⟨po,p,pc,rfl,hpl,hpB,ht4,hP4,hE24⟩
     ·go_wp2_with fail
      refine(a2l (un (un X oo) po) tb j w4 ht4 (by omega)).mono ?_;rintro e w5 ⟨hE5,ht5,m4,rfl,hm4⟩;have hE25:=hE24.trans hE5;have hm4':m4<l.length:=by rw[hlk'.out];omega
      have hO5:=hO.ext RC.elem hE25 (fun k _ hk=>hsub k hk) (fun _ _ h=>h);have hXu5:=hXu.ext hE25;obtain⟨u4,hc4,_,hr4⟩:=hO5.cell SlV.one m4 hm4';obtain⟨a4,c4,rfl,hcl4,hs4⟩:=hr4;have hhd:=hO5.hd;rw[hlk'.out]at hhd;have hrd:=hrl'.out l[m4] (List.getElem_mem _);have hrB:=hBM'.out l[m4] (List.getElem_mem _);obtain⟨r,hr⟩:∃r,l[m4]=r:=⟨_,rfl⟩;rw[hr]at hc4 hcl4 hs4 hrd hrB;have hrd':=hid hrd;rw[hrd]at hc4 hcl4;have hm4k:m4<j:=by omega
      have ht5':a0V (un X oo) tb w5:=ht5.unX (a0k htX);have hs25:=hE25.size;clear hr hrd hm4' hP4 hP hO5 ht5 ht4 ht2 hE4 hE5 hE24 hE2;go_wp2_with (first|(with_reducible refine a0t a0r (by omega) (by assumption) ?_)|(at_builtin;refine b1e a0D rfl QC.elem w5.heap.size (Nat.le_refl _) hXu5 r d hrd'.out rfl rfl hs4 (by omega) (by omega) ?_;intro po5 pc5 w6 hO6 hc6 hE6))
      have ht6:=ht5'.old hE6 (fun j hj=>hO6.ob_lt hj);have hE26:=hE25.trans (ExtX.of hE6)
      all_goals go_meet
      all_goals case rel=>exact⟨po5,r,pc5,rfl,hrd'.out,hrB,ht6,hO6.base_le hs25,hE26⟩
    ·go_wp2_with fail
     all_goals go_meet
     all_goals case rel=>exact⟨po,p,pc,rfl,hpl,hpB,ht2,hP,hE2⟩
   case rest=>
   clear hpl hpB ht2 hP hE2;obtain⟨po,p,pc,rfl,hpl,hpB,ht2,hP,hE2⟩:=hcut;obtain⟨wq,hwq⟩:∃wq,wq=wc:=⟨_,rfl⟩;subst hwq;have hZ2:HX (un (un X oo) po) wq:=hP.unX (hXu.ext hE2);have hpt:ob po tb=false:=hP.not_ob (a0k htX);cases ones
   ·have hOK:=hO.ext RC.elem hE2 (fun k _ hk=>hsub k hk) (fun _ _ h=>h)
    have htK:a0V (un X oo) tb wq:=ht2.unX (a0k htX);have hFK:=hE.trans hE2;have hXK:=hX.ext hFK;have hpc:=hP.lenCap;have hRC:RC (mk (un X oo) wq) (.slice po d pc) p:=⟨po,pc,by rw[hpl],hpc,hP.sl QC.elem⟩;have hp2l:=hid hpl;have hb7:=hFK.size;clear hpl hpc hP ht2 hZ2;go_wp2_with (at_builtin;refine a0v (l:=l) a0r rfl RC.elem hb7 hXK j hlk'.out rfl rfl hOK (.slice po d pc) p rfl hRC (by omega) (by omega) ?_;intro oo2 co2 w7 hO7 hE7 hor)
    have hE8:=hFK.own hOK (Nat.le_refl _) hE7;have ht8:=htK.unstep (hOK.not_ob htX) hE7 hor;have hl8:(l++[p]).length=j+1:=by rw[List.length_append,hlk'.out];rfl
    have hr8:∀r∈l++[p],r.length=d:=fun r hr=>by
     rcases List.mem_append.1 hr with h|h
     ·exact hrl'.out r h
     ·rw[List.mem_singleton.1 h];exact hp2l.out
    have hB8:BM 2 (l++[p]):=fun r hr=>by
     rcases List.mem_append.1 hr with h|h
     ·exact hBM'.out r h
     ·rw[List.mem_singleton.1 h];exact hpB
    go_roundw
    case rel=>exact⟨i,j+1,oo2,co2,_,by go_num,by go_num,hl8,by omega,hr8,hB8,hO7,ht8,hE8⟩
    case measure=>simp[intOf]
   ·have h0:0<p.length:=by omega
    have hhp:Hd po d:=by have:=hP.hd;rw[hpl]at this;exact this
    obtain⟨g,o,hg⟩:∃g o,adr po (0*3)=⟨g,o,none⟩:=⟨_,_,rfl⟩;have i1:∀W,(Instr.indexAt 24 (.slice po d pc) (.int .i64 0)).run Tryz.prog W= .ok (.pointer (some ⟨g,o,none⟩)) W:=by rw[<-hg];exact a0h a0D po d pc .i64 0 hhp (by omega)
    have hg':=hid hg;have hpl':=hid hpl;clear hg hpl;go_wp2_with fail
    refine(a4I (un (un X oo) po) wq 1 hZ2 (by decide) (by decide)).mono ?_;rintro e w6 ⟨t1,u6,rfl,hu6⟩;obtain⟨s6,a6,n6,c6,d6,k6,e6,rfl⟩:=hu6.shape;have hP6:=hP.ext0 QC.elem t1;obtain⟨_,v0,v1,v2,_,⟨q0,f0⟩,⟨q1,f1⟩,⟨q2,f2⟩,_⟩:=hP6.cell3 0 h0 hg'.out;have hset:=hP6.set3 (P:=Tryz.prog) a6E QC.elem 0 h0 hg'.out (v0:= .bool s6) (v1:= .slice a6 n6 c6) (v2:= .slice d6 k6 e6) (x:=((1:Int):Rat)) hu6;go_upto_region 12 with fail
    obtain⟨r1,r2⟩:=hset;obtain⟨w7,hw7⟩:∃w7,(((w6.setCell ⟨g,o,none⟩ (.bool s6)).setCell ⟨g,o+1,none⟩ (.slice a6 n6 c6)).setCell ⟨g,o+2,none⟩ (.slice d6 k6 e6))=w7:=⟨_,rfl⟩;rw[hw7]at r1 r2 |-;have hE7:=(hE2.then_ t1 (fun _ _ _=>rfl)).own hP6 (Nat.le_refl _) r2;have hOK:=hO.ext RC.elem hE7 (fun k _ hk=>hsub k hk) (fun _ _ h=>h);have htK:a0V (un X oo) tb w7:=((ht2.ext t1).extY r2 (fun _ hk=>a0q hk) hpt).unX (a0k htX);have hFK:=hE.trans hE7;have hXK:=hX.ext hFK;have hpl7:(p.set 0 ((1:Int):Rat)).length=d:=by rw[List.length_set];exact hpl'.out
    have hpB7:BR 2 (p.set 0 ((1:Int):Rat)):=fun q hq'=>by
     rcases List.mem_or_eq_of_mem_set hq' with h|rfl
     ·exact hpB q h
     ·exact Nat.le_trans (a6Q 1 1 (lgI (by omega) (by omega)) (by omega)) (by decide)
    have hpc:=r1.lenCap;rw[hpl7]at hpc;obtain⟨r,hr⟩:∃r,p.set 0 ((1:Int):Rat)=r:=⟨_,rfl⟩;rw[hr]at r1 hpl7 hpB7;have hRC:RC (mk (un X oo) w7) (.slice po d pc) r:=⟨po,pc,by rw[hpl7],by rw[hpl7];exact hpc,r1.sl QC.elem⟩;have hp2l:=hid hpl7;have hb7:=hFK.size;clear hr hpl7 hpc hP ht2 hZ2 hP6 r1 r2 hw7 q0 f0 q1 f1 q2 f2 i1 hu6;go_wp2_with (at_builtin;refine a0v (l:=l) a0r rfl RC.elem hb7 hXK j hlk'.out rfl rfl hOK (.slice po d pc) r rfl hRC (by omega) (by omega) ?_;intro oo2 co2 w8 hO8 hE8 hor)
    have hE9:=hFK.own hOK (Nat.le_refl _) hE8;have ht8:=htK.unstep (hOK.not_ob htX) hE8 hor;have hl8:(l++[r]).length=j+1:=by rw[List.length_append,hlk'.out];rfl
    have hr8:∀x∈l++[r],x.length=d:=fun x hr=>by
     rcases List.mem_append.1 hr with h|h
     ·exact hrl'.out x h
     ·rw[List.mem_singleton.1 h];exact hp2l.out
    have hB8:BM 2 (l++[r]):=fun x hr=>by
     rcases List.mem_append.1 hr with h|h
     ·exact hBM'.out x h
     ·rw[List.mem_singleton.1 h];exact hpB7
    go_roundw
    case rel=>exact⟨i,j+1,oo2,co2,_,by go_num,by go_num,hl8,by omega,hr8,hB8,hO8,ht8,hE9⟩
    case measure=>simp[intOf]
  ·have hi0:i=0:=by omega
   subst hi0;obtain rfl:j=N:=by omega
   clear hij;have hOs:=hO.sl RC.elem;have hhd:=hO.hd;rw[hlk]at hhd;obtain⟨wo,hwo⟩:∃wo,wo=wr:=⟨_,rfl⟩;subst hwo;have hfin:=hid (fun(wz:World) (vy:Value) (y:List Rat) (hEz:ExtX (tbm tb) wo wz) (htz:a0V X tb wz) (hy:RV (mk X wz) vy y) (hyl:y.length=j) (hyB:BR 4 y)=>(⟨hE.trans hEz,htz, .slice oo j co,vy,l,y,d,rfl,⟨oo,co,by rw[hlk],hO.lenCap,c0w ((hO.ext RC.elem hEz (fun k _ hk=>hsub k hk) (fun _ _ h=>h)).sl RC.elem) (fun r hr q hq=>Nat.le_trans (hBM r hr q hq) (by decide))⟩,hy,by omega,by omega,hdp,hdk,hrl,by rw[hyl,hlk],hBM,hyB⟩:b3o X tb n k w (.returned (.tuple #[.slice oo j co,vy])) wz));clear hlk hrl hlt;go_wp2_with fail
   refine(b0w (un X oo) tb j wo htr hXu (by omega)).mono ?_;rintro e w2 ⟨hE2,yo,y,yc,rfl,hyl,hyc,hyB,ht2,hY⟩;go_wp2_with fail
   refine(a6y (un (un X oo) yo) tb 5 w2 ht2 (by decide) (by decide)).mono ?_;rintro e w3 ⟨hE3,ht3,b,rfl⟩;have hY3:=hY.ext QC.elem hE3 (fun k _ hk=>a0k (hsub k hk)) (fun _ _ h=>h);have hE23:=hE2.trans hE3;have hfi2:=hid (fun(wz:World) (z:List Rat) (hEz:ExtX (tbm tb) wo wz) (htz:a0V (un (un X oo) yo) tb wz) (hz:OL QC 3 (un X oo) wo.heap.size 45 wz yo yc z) (hzl:z.length=j) (hzB:BR 4 z)=>hfin.out wz (.slice yo j yc) z hEz ((htz.unX (a0k htX)).unX htX) ⟨yo,yc,by rw[hzl],by rw[hzl];exact hyc,((hz.sl QC.elem).mono QC.mono (a1E fun k _ hk=>a0k hk)).qv fun q hq=>Nat.le_trans (hzB q hq) (by decide)⟩ hzl hzB);have hyl':=hid hyl;clear hY ht2 hE2 hE3 hyl;cases b
   ·have hf:=hid (hfi2.out w3 y hE23 ht3 hY3 hyl'.out (fun q hq=>Nat.le_trans (hyB q hq) (by decide)))
    clear hfin hfi2;go_wp2_with fail
    go_ret2
    exact hf.out
   ·rw[b5t y l]at hY3
    clear hfin;have hobt:ob oo tb=false:=hO.not_ob htX;obtain⟨fr,hf⟩:=hO.rowsF;have hrf:=hid hf;clear hf;go_wp2_with fail
    go_loopw [62] (fun cc wx=>∃q:Nat,cc= .int .i64 q/\q<=j/\OL QC 3 (un X oo) wo.heap.size 45 wx yo yc (twN y l q)/\a0V (un (un X oo) yo) tb wx/\ExtX (tbm tb) wo wx) (fun cc _=>j - (intOf cc).toNat)
    case atStart=>exact⟨0,rfl,Nat.zero_le _,hY3,ht3,hE23⟩
    case round=>
     clear hY3 ht3 hE23;obtain⟨q,rfl,hqle,hY,htx,hEx⟩:=hrel;by_cases hlt:q<j
     ·have hql:q<l.length:=by rw[hlk'.out];exact hlt
      have hqy:q<(twN y l q).length:=by rw[a9z,hyl'.out];exact hlt
      have h1:=(hrf.out q hql).1;have hrd:=hid (hrl'.out _ (List.getElem_mem hql));have hrB:=hid (hBM'.out _ (List.getElem_mem hql));rw[hrd.out]at h1;have hs1:=(hrf.out q hql).2.2.mono QC.mono (a1f (Z:=un (un X oo) yo) hEx (fun k _ hk=>a0k (hsub k hk)) (fun k hk hz=>by simpa[un,hY.ob_lt hk]using hz));have hx0:Hid ((l.getD q []).getD 0 0=l[q][0]'(by rw[hrd.out];omega)):=hid (by
       have:0<l[q].length:=by rw[hrd.out];omega
       simp[List.getD_eq_getElem?_getD,hql,this])
      have hstep:=hid (b8b y l q);have h0r:0<l[q].length:=by rw[hrd.out];omega
      rw[hx0.out]at hstep;have hxB:Hid (hq (l[q][0]'h0r)<=2):=hid (hrB.out _ (List.getElem_mem h0r));obtain⟨⟨aa,ac⟩,hfa⟩:∃z,fr q=z:=⟨_,rfl⟩;rw[hfa]at h1 hs1
      dsimp only at h1 hs1
      obtain⟨g1,o1,s1,a1,n1,c1,d1,k1,e1,hg1,hX1,hc1,hq1⟩:=hs1.rat QC.shaped 0 h0r;obtain⟨x,hx⟩:∃x,l[q][0]'h0r=x:=⟨_,rfl⟩;rw[hx]at hstep hxB hq1;have hha:Hd aa d:=by have:=hs1.hd;rw[hrd.out]at this;exact this
      have hcr:=(hEx.cellY h1 (a5J (b9G hhd (by omega) hobt)));have hEd:Ext wr wr.drew:=(ExtX.refl wr).drew;have hZ:HX (un (un X oo) yo) wr:=hY.unX (hXu.ext hEx);have hZd:HX (un (un X oo) yo) wr.drew:=hZ.ext hEd;have hxv:=mkx QV.mono (hq1.qv (Nat.le_trans hxB.out (by decide))) hEd;have h2q:Hid (hq (((2:Int):Rat))<=1):=hid (a6Q 2 1 (lgI (by omega) (by omega)) (by omega));have h2e:Hid (((2:Int):Rat)=2):=hid rfl;have hmB:Hid (hq (((2:Int):Rat)*x)<=68719476736):=hid (by
       have:=hq_mul (((2:Int):Rat)) x;have:=h2q.out;have:=hxB.out;omega)
      have hS:Hid (∀w',Ext wr.drew w'->w'.cell? (adr oo q)=some (.slice aa d ac)/\w'.cell? ⟨g1,o1,none⟩=some (.bool s1)/\w'.cell? ⟨g1,o1+1,none⟩=some (.slice a1 n1 c1)/\w'.cell? ⟨g1,o1+2,none⟩=some (.slice d1 k1 e1)):=hid fun w' h=>⟨(hEd.trans h).cell hcr,hc1.out noY w' (hEd.trans h) rfl⟩;have hOd:=hY.ext0 QC.elem hEd;obtain⟨g,o,hg⟩:∃g o,adr yo (q*3)=⟨g,o,none⟩:=⟨_,_,rfl⟩;have hhy:Hd yo j:=by have:=hY.hd;rw[a9z,hyl'.out]at this;exact this
      have i1:∀W,(Instr.indexAt 23 (.slice oo j co) (.int .i64 (q:Int))).run Tryz.prog W= .ok (.pointer (some (adr oo q))) W:=a0C a0r oo j co .i64 q hhd hlt rfl;have i2:∀W,(Instr.indexAt 24 (.slice aa d ac) (.int .i64 0)).run Tryz.prog W= .ok (.pointer (some ⟨g1,o1,none⟩)) W:=by rw[<-hg1];exact a0h a0D aa d ac .i64 0 hha (by omega)
      have i3:∀W,(Instr.indexAt 24 (.slice yo j yc) (.int .i64 (q:Int))).run Tryz.prog W= .ok (.pointer (some ⟨g,o,none⟩)) W:=by rw[<-hg];exact a0h a0D yo j yc .i64 q hhy (by omega)
      have hg':=hid hg;have hyt:ob yo tb=false:=hY.not_ob (a0k htX);clear hx hfa h1 hs1 hx0 hcr hc1 hq1 hg hg1 hY hZ;go_wp2_with fail
      refine a0M 11 (fun w'=>w'.cell? (adr oo q)=some (.slice aa d ac)/\w'.cell? ⟨g1,o1,none⟩=some (.bool s1)/\w'.cell? ⟨g1,o1+1,none⟩=some (.slice a1 n1 c1)/\w'.cell? ⟨g1,o1+2,none⟩=some (.slice d1 k1 e1)) (by kernel_rfl) (by kernel_rfl) (hS.out _ (ExtX.refl _)) (fun hHeld hOnce=>?_);refine a0a hOnce (i:=0) (oi:=⟨_,_,_,_,_,_⟩) (v:=?_) rfl (by kernel_rfl) (fun _ _ _ h=>h) (by assumption) (by rfl) (fun w hSw=>?_) ?_
      rotate_left
      ·(try dsimp only at hSw)
       go_simp
       all_goals with_reducible rfl
      (try simp only[Act.put,List.setIfInBounds_toArray,List.set_cons_zero,List.set_cons_succ])
      refine a0a hOnce (i:=1) (oi:=⟨_,_,_,_,_,_⟩) (v:=?_) rfl (by kernel_rfl) (fun _ _ _ h=>h) (by assumption) (by rfl) (fun w hSw=>?_) ?_
      rotate_left
      ·(try dsimp only at hSw)
       go_simp
       all_goals with_reducible rfl
      (try simp only[Act.put,List.setIfInBounds_toArray,List.set_cons_zero,List.set_cons_succ])
      refine a0a hOnce (i:=3) (oi:=⟨_,_,_,_,_,_⟩) (v:=?_) rfl (by kernel_rfl) (fun _ _ _ h=>h) (by assumption) (by rfl) (fun w hSw=>?_) ?_
      rotate_left
      ·(try dsimp only at hSw)
       go_simp
       all_goals with_reducible rfl
      (try simp only[Act.put,List.setIfInBounds_toArray,List.set_cons_zero,List.set_cons_succ])
      refine a0a hOnce (i:=4) (oi:=⟨_,_,_,_,_,_⟩) (v:=?_) rfl (by kernel_rfl) (fun _ _ _ h=>h) (by assumption) (by rfl) (fun w hSw=>?_) ?_
      rotate_left
      ·(try dsimp only at hSw)
       go_simp
       all_goals with_reducible rfl
      (try simp only[Act.put,List.setIfInBounds_toArray,List.set_cons_zero,List.set_cons_succ])
      refine a0a hOnce (i:=5) (oi:=⟨_,_,_,_,_,_⟩) (v:=?_) rfl (by kernel_rfl) (fun _ _ _ h=>h) (by assumption) (by rfl) (fun w hSw=>?_) ?_
      rotate_left
      ·(try dsimp only at hSw)
       go_simp
       all_goals with_reducible rfl
      (try simp only[Act.put,List.setIfInBounds_toArray,List.set_cons_zero,List.set_cons_succ])
      refine a0a hOnce (i:=6) (oi:=⟨_,_,_,_,_,_⟩) (v:=?_) rfl (by kernel_rfl) (fun _ _ _ h=>h) (by assumption) (by rfl) (fun w hSw=>?_) ?_
      rotate_left
      ·(try dsimp only at hSw)
       go_simp
       all_goals with_reducible rfl
      (try simp only[Act.put,List.setIfInBounds_toArray,List.set_cons_zero,List.set_cons_succ])
      refine a0a hOnce (i:=7) (oi:=⟨_,_,_,_,_,_⟩) (v:=?_) rfl (by kernel_rfl) (fun _ _ _ h=>h) (by assumption) (by rfl) (fun w hSw=>?_) ?_
      rotate_left
      ·(try dsimp only at hSw)
       go_simp
       all_goals with_reducible rfl
      (try simp only[Act.put,List.setIfInBounds_toArray,List.set_cons_zero,List.set_cons_succ])
      refine a0a hOnce (i:=8) (oi:=⟨_,_,_,_,_,_⟩) (v:=?_) rfl (by kernel_rfl) (fun _ _ _ h=>h) (by assumption) (by rfl) (fun w hSw=>?_) ?_
      rotate_left
      ·(try dsimp only at hSw)
       go_simp
       all_goals with_reducible rfl
      (try simp only[Act.put,List.setIfInBounds_toArray,List.set_cons_zero,List.set_cons_succ])
      refine a0m (i:=2) (o:=⟨_,_,_,_,_,_⟩) (by kernel_rfl) rfl (fun K hK=>?_);go_simp
      ((with_reducible refine(a4I (un (un X oo) yo) wr.drew 2 hZd (by decide) (by decide)).mono ?_);rintro ee w6 ⟨t1,u6,rfl,hu6⟩;obtain⟨s6,a6,n6,c6,d6,k6,e6,rfl⟩:=hu6.shape)
      refine hK.out _ _ (hS.out _ t1) (fun hHeld=>?_);clear hK K
      (try simp only[Act.put,List.setIfInBounds_toArray,List.set_cons_zero,List.set_cons_succ])
      refine a0m (i:=9) (o:=⟨_,_,_,_,_,_⟩) (by kernel_rfl) rfl (fun K hK=>?_);go_simp
      ((with_reducible refine(b1E (un (un X oo) yo) w6 _ _ ((2:Int):Rat) x (hZd.ext t1) (hu6.qv (Nat.le_trans h2q.out (by decide))) (mkx QV.mono hxv t1)).mono ?_);rintro ee w7 ⟨t2,u7,rfl,hu7⟩;obtain⟨s7,a7,n7,c7,d7,k7,e7,rfl⟩:=hu7.shape)
      refine hK.out _ _ (hS.out _ (t1.trans t2)) (fun hHeld=>?_);clear hK K
      (try simp only[Act.put,List.setIfInBounds_toArray,List.set_cons_zero,List.set_cons_succ])
      have t12:=t1.trans t2;have hO7:=hOd.ext0 QC.elem t12;obtain⟨_,v0,v1,v2,_,⟨q0,f0⟩,⟨q1,f1⟩,⟨q2,f2⟩,_⟩:=hO7.cell3 q hqy hg'.out;rw[h2e.out]at hu7;have hset:=hO7.set3 (P:=Tryz.prog) a6E QC.elem q hqy hg'.out (v0:= .bool s7) (v1:= .slice a7 n7 c7) (v2:= .slice d7 k7 e7) (x:=2*x) hu7;refine a0a hOnce (i:=10) (oi:=⟨_,_,_,_,_,_⟩) (v:=?_) rfl (by kernel_rfl) (fun _ _ _ h=>h) (by assumption) (by rfl) (fun w hSw=>?_) ?_
      rotate_left
      ·(try dsimp only at hSw)
       go_simp
       all_goals with_reducible rfl
      (try simp only[Act.put,List.setIfInBounds_toArray,List.set_cons_zero,List.set_cons_succ])
      refine a0s (i:=11) (o:=⟨_,_,_,_,_,_⟩) (by kernel_rfl) rfl (by decide) (by kernel_rfl) (fun K hK=>?_);go_simp
      refine hK.out _ _ ?_;clear hK K;obtain⟨r1,r2⟩:=hset;rw[hstep.out]at r1;have hE9:=(hEx.then_ (hEd.trans t12) (fun _ _ _=>rfl)).own hO7 (Nat.le_refl _) r2;have ht9:=(htx.ext (hEd.trans t12)).extY r2 (fun _ hk=>a0q hk) hyt;clear i1 i2 i3 q0 q1 q2 f0 f1 f2;go_wp2_with fail
      go_roundw
      case rel=>exact⟨q+1,by go_num,by omega,r1,ht9,hE9⟩
      case measure=>simp[intOf];omega
     ·have hqj:q=j:=by omega
      have hf:=hid (hfi2.out wr _ hEx htx hY (by rw[a9z];exact hyl'.out) (b9J hyB hBM'.out q));clear hfi2;go_wp2_with fail
      go_ret2
      exact hf.out
open Go.Lin
set_option maxRecDepth 100000 in
set_option maxHeartbeats 3200000 in
theorem b3p (X:Nat->Bool) (w:World) (u:Value) (uo:Option Addr) (uc:Nat) (x:Mat) (p:List Nat) (n c:Nat) (hX:HX X w) (hu:MV (mk X w) u x) (hus:Sl BlR 1 (mk X w) uo (usedL p c)) (hsh:Shp n c x) (hn:n<=96) (hc:c<=96) (hp:p.Pairwise (· < ·)) (hpc:∀j∈p,j<c):
  Calls Tryz.prog 86 #[u, .slice uo c uc] w (a1Z X w MC (pkL x p)):=by
 obtain⟨M,hM⟩:∃M,pkL x p=M:=⟨_,rfl⟩;have hMl:Hid (M.length=n):=hid (by rw[<-hM,b2q];exact hsh.1);have hMi:Hid (∀i (h1:i<x.length) (h:i<M.length),pkR x[i] (usedL p c) c=M[i]):=hid fun i h1 h=>by subst hM;rw[b7R hp hpc];simp[pkL]
 obtain⟨us,hus2⟩:∃us,usedL p c=us:=⟨_,rfl⟩;have husl:Hid (us.length=c):=hid (by rw[<-hus2];exact a3d p c);obtain⟨ua,uca,rfl,huca,hua⟩:=hu;have hhu:=hua.hd;have hxl:=hid hsh.1;have hrw:=hid hsh.2;rw[hus2]at hMi hus;have hhs:=hus.hd;rw[husl.out]at hhs;rw[hsh.1]at hhu huca |-;rw[hM];clear hM hus2 hsh hp hpc;go_enter Tryz.func86,Tryz.ntmps86
 go_wp2_with fail
 go_loopw [5,6] (fun ov iv wr=>∃(i:Nat) (oo:Option Addr) (co:Nat),iv= .int .i64 i/\ov= .slice oo i co/\i<=n/\OL RC 1 X w.heap.size 24 wr oo co (M.take i)/\Ext w wr) (fun _ iv _=>n - (intOf iv).toNat)
 case atStart=>exact⟨0,none,0,rfl,rfl,Nat.zero_le _,OL.nil _ _ _ _ _ _,ExtX.refl _⟩
 case round=>
  obtain⟨i,oo,co,rfl,rfl,hi,hO,hE⟩:=hrel;have hXr:HX X wr:=hX.ext hE;have hXu:HX (un X oo) wr:=hO.unX hXr;have hbase:=hE.size;by_cases hlt:i<n
  ·have hix:i<x.length:=by rw[hxl.out];exact hlt
   have hiM:i<M.length:=by rw[hMl.out];exact hlt
   have htk:=hid (a0N M i hiM);have hln:=hid (a1a (l:=M) (i:=i) (by omega));have hsr:Sl RV 1 (mk (un X oo) wr) ua x:=hua.old RV.mono hE (fun j hj=>hO.ob_lt hj);obtain⟨a1,c1,hX1',hc1,hcl1,hq1⟩:=hsr.row i hix;have husr:Sl BlR 1 (mk (un X oo) wr) uo us:=hus.old BlR.mono hE (fun j hj=>hO.ob_lt hj);have hrl:=hrw.out x[i] (List.getElem_mem _);have hMi2:=hMi.out i hix hiM;obtain⟨r,hr⟩:∃r,x[i]=r:=⟨_,rfl⟩;rw[hr]at hc1 hcl1 hq1 hrl hMi2;have hrl':=hid hrl;rw[hrl]at hc1 hcl1;have hh1:Hd a1 c:=by have:=hq1.hd;rw[hrl]at this;exact this
   obtain⟨Mi,hMi3⟩:∃Mi,M[i]=Mi:=⟨_,rfl⟩;rw[hMi3]at htk hMi2;have hMi':=hid hMi2;clear hrl hr hMi2 hMi3 hsr;obtain⟨wo,hwo⟩:∃wo,wo=wr:=⟨_,rfl⟩;subst hwo;go_wp2_with fail
   go_loopw [7,8] (fun rv jv wx=>∃(j:Nat) (ro:Option Addr) (cr q:Nat),jv= .int .i64 j/\rv= .slice ro q cr/\j<=c/\q<=j/\Hid ((pkR r us j).length=q)/\OL QC 3 (un X oo) wo.heap.size 45 wx ro cr (pkR r us j)/\Ext wo wx) (fun _ jv _=>c - (intOf jv).toNat)
   case atStart=>exact⟨0,none,0,0,rfl,rfl,Nat.zero_le _,Nat.le_refl _,hid rfl,OL.nil _ _ _ _ _ _,ExtX.refl _⟩
   case round=>
    obtain⟨j,ro,cr,q,rfl,rfl,hj,hqj,hql,hL,hEx⟩:=hrel;have hXx:HX (un X oo) wr:=hXu.ext hEx;have hXz:HX (un (un X oo) ro) wr:=hL.unX hXx;by_cases hlj:j<c
    ·have hjr:j<r.length:=by rw[hrl'.out];exact hlj
     have hju:j<us.length:=by rw[husl.out];exact hlj
     have hbx:=hEx.size;have hq2:Sl QV 3 (mk (un (un X oo) ro) wr) a1 r:=hq1.old QV.mono hEx (fun k hk=>hL.ob_lt hk);have kb:=a1e ((husr.mono BlR.mono (a0p hEx)).bl j hju);have k00:=hc1.out noY wr hEx rfl;have hgd:Hid (us.getD j false=us[j]):=hid (by simp[List.getD_eq_getElem?_getD,hju]);have hgr:Hid (r.getD j 0=r[j]):=hid (by simp[List.getD_eq_getElem?_getD,hjr]);obtain⟨b,hb⟩:∃b,us[j]=b:=⟨_,rfl⟩;rw[hb]at kb hgd;have iu:∀W,(Instr.indexAt 49 (.slice uo c uc) (.int .i64 (j:Int))).run Tryz.prog W= .ok (.pointer (some (adr uo j))) W:=a0C b2T uo c uc .i64 j hhs (by omega) rfl;clear hb;cases b
     ·have hno:Hid (pkR r us (j+1)=pkR r us j):=hid (b9y hgd.out)
      go_wp2_with fail
      rw[<-hno.out]at hL hql;go_roundw
      case rel=>exact⟨j+1,ro,cr,q,by go_num,rfl,by omega,by omega,hql,hL,hEx⟩
      case measure=>simp[intOf];omega
     ·have hyes:Hid (pkR r us (j+1)=pkR r us j++[r[j]]):=hid (by rw[<-hgr.out];exact b7Q hgd.out)
      obtain⟨L,hLe⟩:∃L,pkR r us j=L:=⟨_,rfl⟩;rw[hLe]at hL hyes hql;obtain⟨v,hv⟩:∃v,r[j]=v:=⟨_,rfl⟩;have hv':=hid hv;rw[hv]at hyes;clear hLe hv;go_wp2_with (first|(with_reducible refine a0t a0r (by omega) (by assumption) ?_)|(with_reducible refine a2a a0D (by omega) (by assumption) ?_)|((with_reducible show wpList _ _ _ (⟨_, .load 45 _,_,_,_,_⟩::_) _ _);refine a0P a0u j hq2 hjr rfl (by simp) QV.agg ?_;intro u5 hu5;obtain⟨s5,a5,n5,c5,d5,m5,e5,rfl⟩:=hu5.shape))
      rw[hv'.out]at hu5;refine(a3t (un (un X oo) ro) wr _ v hXz hu5).mono ?_;rintro ee w6 ⟨hE6,u6,rfl,hu6⟩;obtain⟨s6,a6,n6,c6,d6,k6,e6,rfl⟩:=hu6.shape;have hL6:=hL.ext0 QC.elem hE6;have hb6:=(hEx.trans hE6).size;clear k00 kb iu hu5;go_wp2_with (at_builtin;refine a0v (l:=L) a0D rfl QC.elem hb6 (hXx.ext hE6) q hql.out rfl rfl hL6 (.agg #[.bool s6, .slice a6 n6 c6, .slice d6 k6 e6]) v rfl hu6 (by omega) (by omega) ?_;intro ro2 cr2 w7 hL7 hE7 hor)
      have hE8:=(hEx.trans hE6).own hL6 (Nat.le_refl _) hE7;rw[<-hyes.out]at hL7;have hql2:Hid ((pkR r us (j+1)).length=q+1):=hid (by rw[hyes.out,List.length_append,hql.out];rfl);go_roundw
      case rel=>exact⟨j+1,ro2,cr2,q+1,by go_num,by go_num,by omega,by omega,hql2,hL7,hE8⟩
      case measure=>simp[intOf];omega
    ·have hjc:j=c:=by omega
     subst hjc;rw[hMi'.out]at hL hql;have hO6:=hO.ext0 RC.elem hEx;have hb6:=(hE.trans hEx).size;have hLs:=hL.sl QC.elem;have hLc:=hL.lenCap;rw[hql.out]at hLc;have hrow:RC (mk (un X oo) wr) (.slice ro q cr) Mi:=⟨ro,cr,by rw[hql.out],by rw[hql.out];exact hLc,hLs⟩;clear hLs;go_wp2_with (at_builtin;refine a0v (l:=M.take i) a0r rfl RC.elem hb6 (hXr.ext hEx) i hln.out rfl rfl hO6 (.slice ro q cr) Mi rfl hrow (by omega) (by omega) ?_;intro oo2 co2 w7 hO7 hE7 hor)
     have hE8:=(hE.trans hEx).own hO6 (Nat.le_refl _) hE7;rw[htk.out]at hO7;go_roundw
     case rel=>exact⟨i+1,oo2,co2,by go_num,by go_num,by omega,hO7,hE8⟩
     case measure=>simp[intOf];omega
  ·have hil:i=n:=by omega
   subst hil;rw[List.take_of_length_le (by rw[hMl.out];exact Nat.le_refl _)]at hO;have hOs:=hO.sl RC.elem;have hOc:=hO.lenCap;go_wp2_with fail
   go_ret
   exact⟨hE,_,rfl,oo,co,by rw[hMl.out];rfl,hOc,hOs⟩
end Go.Proofs.YtidbbddagfnfbaaGreat
namespace Go.Lin
end Go.Lin
namespace Go.Proofs.YtidbbddagfnfbaaGreat
open Go.RowKit Go.Rep Go.Lim Go.Lin
end Go.Proofs.YtidbbddagfnfbaaGreat
