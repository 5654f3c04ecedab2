/- halfspace: the search for the depth, whole. Conditions: at most 64 vectors of at most 3 numbers of few digits. halfspace: Depth. Conditions: numbers of few digits. Simplices: how many contain a point. Conditions: none. Rows that a call makes one behind the other, by append. Conditions: none. What Solve and Null return, for law 06. Conditions: at most four rows and columns. reference 06: Columns, Formed. Conditions: lengths far below any machine's. copy into a row that a call has made itself. Conditions: none. matrix: Inverse. Conditions: few rows, numbers of few digits. matrix: Solve. Conditions: few rows, numbers of few digits. -/
import Derived.Test.YtoibhmjjhgaimaaGreatSaJ
import Derived.BigRegion
namespace Go.Rep
open Go.RowKit
theorem a2Z {P:Program} {w:World} {fn:Func} {tmps:Array Value} {c1 c2:Tmp} {t1 t2:TypeId} {A1 A2:Addr} {v1 v2:Value} (h:fn.results=#[.cell c1 t1, .cell c2 t2]) (hp1:tmps.getD c1 undef= .pointer (some A1)) (hp2:tmps.getD c2 undef= .pointer (some A2))
  (g1:∀w,(isAgg t1).run P w= .ok false w) (g2:∀w,(isAgg t2).run P w= .ok false w) (h1:w.cell? A1=some v1) (h2:w.cell? A2=some v2):(results fn tmps).run P w= .ok (.tuple #[v1,v2]) w:=by
 rw[Array.getD_eq_getD_getElem?]at hp1 hp2;simp[results,h,hp1,hp2,asAddr,loadVar,g1,g2,h1,h2]
theorem Sl.oldZ {α:Type} {R:Mem->Value->α->Prop} (hR:a4N R) {sz:Nat} {X Y:Nat->Bool} {w w':World} {oo ao:Option Addr} {l:List α} (s:Sl R sz (mk X w) ao l) (hE:ExtX Y w w') (hY:∀k,Y k=true->X k=true) (hb:∀j,j<w.heap.size->ob oo j=false):Sl R sz (mk (un X oo) w') ao l:=
 s.mono hR (a1g hE (fun k _ hk=>hY k hk) fun j hk hz=>by simpa[un,hb j hk]using hz)
end Go.Rep
namespace Go.Lin
open Go.Lim Go.Rep
theorem b8Q {sg:Int} (h:sg=1\/sg= -1) (v:List Rat):0<dot 1 (vec (sgL sg [1])) (vec v)↔(v.getD 0 0).num.sign=sg:=by
 rw[b3U,a6U];have e:vec [1] 0=1:=rfl;have e2:vec v 0=v.getD 0 0:=rfl;rw[e,e2];generalize v.getD 0 0=x;rcases h with rfl|rfl
 ·have h1:((1:Int):Rat)=1:=rfl
  rw[h1];rcases a1y x with⟨a,b⟩|⟨a,b⟩|⟨a,b⟩
  ·rw[b];exact⟨fun _=>rfl,fun _=>by grind⟩
  ·rw[b];exact⟨fun h=>by grind,fun h=>by omega⟩
  ·rw[b];exact⟨fun h=>by grind,fun h=>by omega⟩
 ·have h1:((-1:Int):Rat)= -1:=rfl
  rw[h1];rcases a1y x with⟨a,b⟩|⟨a,b⟩|⟨a,b⟩
  ·rw[b];exact⟨fun h=>by grind,fun h=>by omega⟩
  ·rw[b];exact⟨fun h=>by grind,fun h=>by omega⟩
  ·rw[b];exact⟨fun _=>rfl,fun _=>by grind⟩
end Go.Lin
namespace Go.Proofs.YtoibhmjjhgaimaaGreat
open Go.RowKit Go.Rep Go.Lim Go.Lin
theorem a4h:∀w,(isAgg 3).run Tryz.prog w= .ok false w:=fun w=>by simp[isAgg,Sem.run_bind,run_underlying Tryz.underlying3,Result.andThen]
theorem a8x:∀w,(isAgg 25).run Tryz.prog w= .ok false w:=fun w=>by simp[isAgg,Sem.run_bind,run_underlying Tryz.underlying25,Result.andThen]
theorem Bx.store {w:World} {b:Nat} {v0:Value} {T:TypeId} (h:Bx w b #[v0] T) (v:Value):Bx (w.setCell ⟨b,0,none⟩ v) b #[v] T/\ExtX (ob (some ⟨b,0,none⟩)) w (w.setCell ⟨b,0,none⟩ v):=by
 obtain⟨h1,h2⟩:=a0R h v (i:=0) (by simp);exact⟨by simpa using h1,h2⟩
set_option maxRecDepth 100000 in
set_option maxHeartbeats 6400000 in
theorem b6u (n:Nat):c0n n:=by
 induction n using Nat.strongRecOn with
 |_ n ih=>
 intro X w u z c B hX hu hs hn hc1 hc3 hzB hB1 hB;have hzl:z.length=n:=hs.1;obtain⟨W,hW,hEW,d0,d1,d2,d3,hz4⟩:=b3x w #[.int .i64 (c:Int)] #[.int .i64 0] #[.slice none 0 0] #[.slice none 0 0] 3 3 25 25;obtain⟨bd,hbd⟩:∃b,w.heap.size=b:=⟨_,rfl⟩;obtain⟨bc,hbc⟩:∃b,bd+1=b:=⟨_,rfl⟩;obtain⟨bs,hbs⟩:∃b,bc+1=b:=⟨_,rfl⟩;obtain⟨bo,hbo⟩:∃b,bs+1=b:=⟨_,rfl⟩;rw[hbd]at d0 d1 d2 d3 hz4;rw[hbc]at d1 d2 d3;rw[hbs]at d2 d3;rw[hbo]at d3;obtain⟨ua,uca,rfl,huca,hua⟩:=hu;have hhu:=hua.hd;rw[hzl]at huca hhu |-;have hzl':=hid hzl;have hs':=hid hs;have hzB':=hid hzB;have ih':=hid ih;have hoc:=hid (fun i (hi:i<z.length)=>a9X (z:=z) hi);obtain⟨Xo,hXo⟩:∃Xo,a0e X bd 4=Xo:=⟨_,rfl⟩;have hXW:HX Xo W:=by
  have:=hX.boxes (w':=W) (nb:=4) (by omega);rw[hbd,hXo]at this;exact this
 have hin4:∀k,bd<=k->k<bd+4->Xo k=true:=fun k h1 h2=>by rw[<-hXo];exact a8n h1 h2
 have hXbo:Xo bo=true:=hin4 bo (by omega) (by omega);have huW:Sl RV 1 (mk Xo W) ua z:=by
  have:=hua.mono RV.mono (a0q (nb:=4) hEW);rw[hbd,hXo]at this;exact this
 have hsubo:∀k,ob (some ⟨bo,0,none⟩) k=true->Xo k=true:=fun k hk=>by
  have:bo=k:=by simpa[ob]using hk
  rw[<-this];exact hXbo
 have hzc:z.length<=1000:=by omega
 have hzr:Hid (∀r∈z,r.length<=1000):=hid fun r hr=>by rw[hs.2 r hr];omega
 clear hs hzB ih hua hzl;go_enter Tryz.func222,Tryz.ntmps222
 go_wp2_with fail
 go_loopw [22] (fun cx wr=>∃(i:Nat) (oo:Option Addr) (oc:Nat) (O:List (List Rat)),cx= .int .i64 i/\i<=n/\O.length<=i/\Hid (O=a2d (z.take i))/\Bx wr bo #[.slice oo O.length oc] 25/\OL RV 1 Xo W.heap.size 45 wr oo oc O/\ExtX (ob (some ⟨bo,0,none⟩)) W wr) (fun cx _=>n - (intOf cx).toNat)
 case atStart=>exact⟨0,none,0,[],rfl,Nat.zero_le _,Nat.zero_le _,hid rfl,d3,OL.nil _ _ _ _ _ _,ExtX.refl _⟩
 case round=>
  obtain⟨i,oo,oc,O,rfl,hi,hOl,hOe,hb,hO,hE⟩:=hrel;have hXr:HX Xo wr:=hXW.ext hE;by_cases hlt:i<n
  ·have hiz:i<z.length:=by rw[hzl'.out];exact hlt
   have hsr:Sl RV 1 (mk (un Xo oo) wr) ua z:=huW.oldZ RV.mono hE hsubo (fun j hj=>hO.ob_lt hj);obtain⟨a1,c1,hX1,hc1',hcl1,hq1⟩:=hsr.row i hiz;have k00:=hc1'.out noY wr (ExtX.refl _) rfl;have hos:=hid (hoc.out i hiz);have hrl:=hzr.out z[i] (List.getElem_mem _);obtain⟨v,hv⟩:∃v,z[i]=v:=⟨_,rfl⟩;rw[hv]at k00 hos hrl hcl1 hq1;obtain⟨vl,hvl⟩:∃vl,v.length=vl:=⟨_,rfl⟩;have hvl':=hid hvl;have hvU:RV (mk (un Xo oo) wr) (.slice a1 vl c1) v:=⟨a1,c1,by rw[hvl],hcl1,hq1⟩;have hzv:=b3P (un Xo oo) wr (.slice a1 vl c1) v (hO.unX hXr) hvU hrl;rw[hvl]at k00;obtain⟨zb,hzb⟩:∃zb,a5e v=zb:=⟨_,rfl⟩;rw[hzb]at hzv hos;have kb:=hb.cell 0 rfl;obtain⟨ol,hol⟩:∃ol,O.length=ol:=⟨_,rfl⟩;have hol':=hid hol;rw[hol]at hb kb hOl;clear hc1' hv hzb hq1 hcl1 hvl hol hrl;cases zb
   ·have hF2:Hid (O++[v]=a2d (z.take (i+1))):=hid (by rw[hos.out,<-hOe.out];rfl)
    clear hos;go_wp2_with (with_reducible refine a0n a0o (by omega) (by assumption) ?_)
    refine hzv.mono ?_;rintro e w5 ⟨hE5,rfl⟩;have hO5:=hO.ext0 RV.elem hE5;have hb5:=hb.ext0 hE5;have kb5:=hb5.cell 0 rfl;have hv5:=mkx RV.mono hvU hE5;have hX5:HX Xo w5:=hXr.ext hE5;have hbs5:W.heap.size<=w5.heap.size:=Nat.le_trans hE.size hE5.size;clear hzv k00 kb;go_wp2_with (first|(at_builtin;refine a0r (l:=O) a0o rfl RV.elem hbs5 hX5 ol hol'.out rfl rfl hO5 (.slice a1 vl c1) v rfl hv5 (by omega) (by omega) ?_;intro oo2 oc2 w7 hO7 hE7 hor;have hb7:=hb5.ext hE7 (hO5.not_ob hXbo);have kb7:=hb7.cell 0 rfl;have fb7:=hb7.frozen 0;obtain⟨hb8,hE8⟩:=Bx.store hb7 (.slice oo2 (ol+1) oc2);have hO8:=hO7.ext RV.elem hE8 (fun k _ hk=>hsubo k hk) (fun _ _ h=>h))|((with_reducible show wpList _ _ _ (⟨_, .store 25 _ _,_,_,_,_⟩::_) _ _);refine a1r a4U rfl rfl rfl rfl kb7 fb7 ?_))
    have hE9:=((hE.then_ hE5 (fun _ _ _=>rfl)).own hO5 (Nat.le_refl _) hE7).trans hE8;have hl9:(O++[v]).length=ol+1:=by rw[List.length_append,hol'.out];rfl
    go_roundw
    case rel=>exact⟨i+1,oo2,oc2,O++[v],by go_num,by omega,by omega,hF2,by rw[hl9];exact hb8,hO8,hE9⟩
    case measure=>simp[intOf];omega
   ·have hF2:Hid (O=a2d (z.take (i+1))):=hid (by rw[hos.out,<-hOe.out];simp)
    clear hos;go_wp2_with (with_reducible refine a0n a0o (by omega) (by assumption) ?_)
    refine hzv.mono ?_;rintro e w5 ⟨hE5,rfl⟩;have hO5:=hO.ext0 RV.elem hE5;have hb5:=hb.ext0 hE5;have hE9:=hE.then_ hE5 (fun _ _ _=>rfl);rw[<-hol'.out]at hb5;clear hzv k00 kb;go_wp2_with fail
    go_roundw
    case rel=>exact⟨i+1,oo,oc,O,by go_num,by omega,by rw[hol'.out];omega,hF2,hb5,hO5,hE9⟩
    case measure=>simp[intOf];omega
  ·have hin:n=i:=by omega
   subst hin;have hOf:O=a2d z:=by rw[hOe.out,List.take_of_length_le (by rw[hzl'.out];exact Nat.le_refl _)]
   have hOs:Shp O.length c O:=by rw[hOf];exact b1Z hs'.out
   have hOz:∀v∈a0t O,nz c v:=by rw[hOf];exact b2Y hs'.out
   have hOB:BM B O:=by rw[hOf];exact BM.sub hzB'.out (b2i z)
   have hnone:=hid (fun(h:O= [])=>(by
    rw[hOf]at h;have:=b3a hs'.out h (b5Z (d:=c) (by omega));rwa[hzl'.out]at this:a0M c (a0t z) n/\Wit c (a0t z) n (a0t [a5R c])))
   have hback:=hid (fun cnt us (h1:a0M c (a0t O) cnt) (h2:Wit c (a0t O) cnt (a0t us))=>(by
    rw[hOf]at h1 h2;have:=c1z hs'.out h1 h2;rwa[hzl'.out,<-hOf]at this:a0M c (a0t z) (cnt+(n - O.length))/\Wit c (a0t z) (cnt+(n - O.length)) (a0t us)))
   have hXr:=hXW.ext hE;have e0:=d0.ext hE (a0b (by omega));have e1:=d1.ext hE (a0b (by omega));have e2:=d2.ext hE (a0b (by omega));have hEr:Ext w wr:=ExtX.box hEW hE (by omega);have hOc:=hO.lenCap;have hOS:=hO.sl RV.elem;obtain⟨ol,hol⟩:∃ol,O.length=ol:=⟨_,rfl⟩;have hol':=hid hol;rw[hol]at hOl hb hOs hback hOc;have kb:=hb.cell 0 rfl;have kd:=e0.cell 0 rfl;have hmf:∀(fn:Fn) (first cap:Array Value) (w:World),(Instr.makeFunc fn first cap).run Tryz.prog w= .ok (.func fn first cap) w:=fun _ _ _ _=>rfl;clear hoc hzr huW hE hO d0 d1 d2 d3 hOe hOf hi hlt hol hW;obtain⟨wq,hwq⟩:∃wq,wq=wr:=⟨_,rfl⟩;subst hwq;by_cases h0:ol=0
   ·subst h0
    obtain⟨g1,g2⟩:=hnone.out (List.eq_nil_of_length_eq_zero hol'.out);have hg1:=hid g1;have hg2:=hid g2;clear g1 g2;go_wp2_with fail
    refine(b3Q Xo wq c hXr (by omega) (by omega)).mono ?_;rintro e w5 ⟨hE5,u5,rfl,ao5,ca5,rfl,hca5,hs5⟩;have hur:RV (mk Xo w5) (.slice ao5 c ca5) (a5R c):=⟨ao5,ca5,by rw[a4d],by rw[a4d]at hca5 |-;exact hca5,hs5.qv fun q hq=>Nat.le_trans (b1o c q hq) (by decide)⟩;have hX5:HX Xo w5:=hXr.ext hE5;have hL:=a8w Xo w5 ao5 c ca5 (a5R c) 45 hX5 hur;have hEl:Ext w5 (w5.alloc (.cells #[.slice ao5 c ca5] 45)):=(ExtX.refl _).alloc _;obtain⟨g,hg⟩:∃g:Option Addr,some ⟨w5.heap.size,0,none⟩=g:=⟨_,rfl⟩;obtain⟨w6,hw6⟩:∃w6,w5.alloc (.cells #[.slice ao5 c ca5] 45)=w6:=⟨_,rfl⟩;rw[hg,hw6]at hL;rw[hw6]at hEl;have f1:=(e1.ext0 hE5).ext0 hEl;have f2:=(e2.ext0 hE5).ext0 hEl;have q1:=f1.cell 0 rfl;have q2:=f1.frozen 0;obtain⟨f3,hE7⟩:=Bx.store f1 (.int .i64 (n:Int));have f4:=f2.ext hE7 (a0b (by omega));have q3:=f4.cell 0 rfl;have q4:=f4.frozen 0;obtain⟨f5,hE8⟩:=Bx.store f4 (.slice g 1 1);have f6:=f3.ext hE8 (a0b (by omega));have hEf:Ext w _:=ExtX.box (ExtX.box ((hEr.trans hE5).trans hEl) hE7 (by omega)) hE8 (by omega);have hlen1:(a5R c).length=c:=a4d c;have hm6:MV (mk Xo w6) (.slice g 1 1) [a5R c]:=⟨g,1,rfl,Nat.le_refl _,hL.sl RV.elem⟩;have hm8:=MV.mono _ _ _ _ (a0u (X:=Xo) hE8 (fun k hk=>by
     have:bs=k:=by simpa[ob]using hk
     exact hin4 k (by omega) (by omega))) (MV.mono _ _ _ _ (a0u (X:=Xo) hE7 (fun k hk=>by
     have:bc=k:=by simpa[ob]using hk
     exact hin4 k (by omega) (by omega))) hm6)
    rw[<-hXo]at hm8;have hm9:=MV.mono _ _ _ _ a0k hm8;go_wp2_with (first|((with_reducible show wpList _ _ _ (⟨_, .store 3 _ _,_,_,_,_⟩::_) _ _);refine a1r a3R rfl rfl rfl rfl q1 q2 ?_)|((with_reducible show wpList _ _ _ (⟨_, .store 25 _ _,_,_,_,_⟩::_) _ _);refine a1r a4U rfl rfl rfl rfl q3 q4 ?_))
    exact bodyPost_ret (a2Z rfl rfl rfl a4h a8x (f6.cell 0 rfl) (f5.cell 0 rfl)) rfl ⟨hEf,n, .slice g 1 1,[a5R c],rfl,hm9,fun r hr=>by
     rw[List.mem_singleton.1 hr];exact fun q hq=>Nat.le_trans (b1o c q hq) (by decide),fun r hr=>by rw[List.mem_singleton.1 hr];exact hlen1,hg1.out,hg2.out⟩
   have h0':((ol:Int)==0)=false:=a1S (by omega);have hOne:O≠[]:=fun h=>h0 (by rw[<-hol'.out,h];rfl);have hpos:=b0J hOs hOz hOne;obtain⟨r,hr⟩:∃r,(a0N O c).2.length=r+1:=⟨_,(Nat.succ_pred_eq_of_pos hpos).symm⟩;have hrc:=a1L hOs;have hrn:=a3o hOs;have hT:a9C O c:=by
    rcases b3R hOs (a8p hOB hB1) hc3 with h|h
    ·exact h
    ·omega
   obtain⟨hOf,hOcol⟩:=a4v hOs (by omega) hc1 (by omega) (by omega);have hMO:MV (mk Xo wq) (.slice oo ol oc) O:=⟨oo,oc,by rw[hol'.out],by rw[hol'.out];exact hOc,hOS⟩;have hrk:=b8P Xo wq (.slice oo ol oc) O hXr hMO hOf (by rw[hOcol];exact hT.e);rw[hOcol,b3B,hr]at hrk;have hnu:=hid (fun w' (h:Ext wq w')=>b4f Xo w' (.slice oo ol oc) O ol c (hXr.ext h) (mkx MV.mono hMO h) hOf hol'.out hOcol hT);have hwrp:IntKind.i64.wrap ((ol:Int)+1)=((ol+1:Nat):Int):=by rw[IntWalk.i64_in _ (by omega)];omega
   clear hnone;go_wp2_with fail
   refine hrk.mono ?_;rintro e w5 ⟨hE5,rfl⟩;have hnu5:=hnu.out w5 hE5;have kb5:=(hb.ext0 hE5).cell 0 rfl;clear hrk;go_wp2_with fail
   refine hnu5.mono ?_;rintro e w6 ⟨hE6,u6,rfl,hu6⟩;have hN:=hu6.mv (m:=a0D O c) (fun r hr q hq=>Nat.le_trans (b2g (a6n (a8p hOB hB1) hOs (k:=3) (by omega)) r hr q hq) (by
    have e:35^3=42875:=by decide
    rw[e];omega))
   obtain⟨no,nc,rfl,hnc,hns⟩:=hN;have bx:=Bx.new w6 #[.slice none 0 0] 25;have bx0:=bx.cell 0 rfl;have bx1:=bx.frozen 0;obtain⟨bx2,hE7⟩:=Bx.store bx (.slice no (a0D O c).length nc);have hE67:Ext w6 _:=ExtX.box ((ExtX.refl w6).alloc _) hE7 (Nat.le_refl _);obtain⟨nl,hnl⟩:∃nl,(a0D O c).length=nl:=⟨_,rfl⟩;have hnl':=hid hnl;have hnlL:(a2q (ent (a0N O c).1) (a0N O c).2 c).length=nl:=hnl;rw[hnl]at hnc bx2 hE7 hE67;obtain⟨bu,hbu⟩:∃bu,w6.heap.size=bu:=⟨_,rfl⟩;rw[hbu]at bx0 bx1 bx2 hE7 hE67;obtain⟨w7,hw7⟩:∃w7,(w6.alloc (.cells #[.slice none 0 0] 25)).setCell ⟨bu,0,none⟩ (.slice no nl nc)=w7:=⟨_,rfl⟩;rw[hw7]at bx2 hE67;have hEq7:Ext wq w7:=hE5.trans (hE6.trans hE67);have kb7:=(hb.ext0 hEq7).cell 0 rfl;have f1:=e1.ext0 hEq7;have q1:=f1.cell 0 rfl;have q2:=f1.frozen 0;obtain⟨f3,hE8⟩:=Bx.store f1 (.int .i64 ((ol:Int)+1));obtain⟨w8,hw8⟩:∃w8,w7.setCell ⟨bc,0,none⟩ (.int .i64 ((ol:Int)+1))=w8:=⟨_,rfl⟩;rw[hw8]at f3 hE8;have f3:Bx w8 bc #[.int .i64 ((ol+1:Nat):Int)] 3:=f3;have hsz:=hEr.size;have hsz7:=hEq7.size;have hbu7:=bx2.lt;have hbq:wq.heap.size<=bu:=by rw[<-hbu];exact(hE5.trans hE6).size
   have hqb:=hb.lt;have f4:=(e0.ext0 hEq7).ext hE8 (a0b (by omega));have f5:=(e2.ext0 hEq7).ext hE8 (a0b (by omega));have f6:=(hb.ext0 hEq7).ext hE8 (a0b (by omega));have f7:=bx2.ext hE8 (a0b (by omega));have kd8:=f4.cell 0 rfl;have kb8:=f6.cell 0 rfl;have hsz8:=hE8.size;have hEw8:Ext w w8:=ExtX.box (hEr.trans hEq7) hE8 (by omega);by_cases hcc:c=1
   ·subst hcc
    have hr0:r=0:=by have:=b1s hOs hOz hOne;omega
    subst hr0;have hX8:HX Xo w8:=(hXr.ext hEq7).ext hE8;have htwo:∀k,a3g bc bs k=true->Xo k=true:=fun k hk=>by
     simp only[a3g,Bool.or_eq_true,beq_iff_eq]at hk;rcases hk with h|h
     ·exact hin4 k (by omega) (by omega)
     ·exact hin4 k (by omega) (by omega)
    have htb:a3g bc bs bo=false:=by
     have h1:¬bo=bc:=by omega
     have h2:¬bo=bs:=by omega
     simp[a3g,h1,h2]
    have hO8:Sl RV 1 (mk Xo w8) oo O:=(hOS.mono RV.mono (a0m hEq7)).mono RV.mono (a0u hE8 fun k hk=>by
     have:bc=k:=by simpa[ob]using hk
     exact hin4 k (by omega) (by omega))
    have hho:Hd oo ol:=by have:=hO8.hd;rw[hol'.out]at this;exact this
    have hlit:=(b4l Xo w8 [1,-1] 3 #[.int .i64 1, .int .i64 (-1)] rfl hX8 (by simp)).sl (a0x.elem _);have hEa:Ext w8 (w8.alloc (.cells #[.int .i64 1, .int .i64 (-1)] 3)):=(ExtX.refl _).alloc _;obtain⟨wl,hwl⟩:∃wl,w8.alloc (.cells #[.int .i64 1, .int .i64 (-1)] 3)=wl:=⟨_,rfl⟩;obtain⟨g4,hg4⟩:∃g4:Option Addr,some ⟨w8.heap.size,0,none⟩=g4:=⟨_,rfl⟩;obtain⟨LL,hLL⟩:∃LL:List Int,[1,-1]=LL:=⟨_,rfl⟩;have hLLl:Hid (LL.length=2):=hid (by rw[<-hLL];rfl);have hLLv:Hid (∀q (hq:q<LL.length),(q=0/\LL[q]=1)\/(q=1/\LL[q]= -1)):=hid fun q hq=>by
     subst hLL
     match q,hq with
     |0,_=>exact .inl ⟨rfl,rfl⟩
     |1,_=>exact .inr ⟨rfl,rfl⟩
    rw[hwl]at hEa hlit;rw[hg4,hLL]at hlit;have hhL:=hlit.hd;rw[hLLl.out]at hhL;have hXl:=hX8.ext hEa;have l1:=f3.ext0 hEa;have l2:=f5.ext0 hEa;have l3:=f6.ext0 hEa;have hOl8:=hO8.mono RV.mono (a0m hEa);have hEwl:=hEw8.trans hEa;have hstart:=hid (⟨.inl ⟨by rw[hol'.out],rfl⟩,fun r hr=>by simp at hr,fun r hr=>by simp at hr,fun h=>absurd h (Nat.lt_irrefl _),fun h=>by omega⟩:a3J 1 O (ol+1) []/\BM uB []/\(∀r∈([]:List (List Rat)),r.length=1)/\(0<0->Bd 1 O (ol+1) (vec (sgL 1 [1])))/\(1<0->Bd 1 O (ol+1) (vec (sgL (-1) [1]))));have hfinal:=hid (fun(cnt:Nat) (us:List (List Rat)) (h1:a3J 1 O cnt us) (h2:Bd 1 O cnt (vec (sgL 1 [1]))) (h3:Bd 1 O cnt (vec (sgL (-1) [1])))=>(by
     obtain⟨g1,g2⟩:=b6c hOs hOz hOne h1 h2 h3;exact hback.out cnt us g1 g2:a0M 1 (a0t z) (cnt+(n - ol))/\Wit 1 (a0t z) (cnt+(n - ol)) (a0t us)))
    have hOz':=hid hOz;have hOs':=hid hOs;have hOB':=hid hOB;have hlow:w.heap.size<=bc/\w.heap.size<=bs:=by omega
    have hn64:n<=64:=hn;rw[hnl];clear f1 f3 f4 f5 f6 f7 hMO hns bx bx2 hE7 hE67 hEq7 hnu hnu5 hb e0 e1 e2 hOS hOB hOz hOs hT hOf hOcol hu6 hnlL hnl hE5 hE6 hpos hrn hrc hLL hE8 hX8 hO8 hEa hback ih';go_wp2_with (first|((with_reducible show wpList _ _ _ (⟨_, .store 25 _ _,_,_,_,_⟩::_) _ _);refine a1r a4U rfl rfl rfl rfl bx0 bx1 ?_)|((with_reducible show wpList _ _ _ (⟨_, .store 3 _ _,_,_,_,_⟩::_) _ _);refine a1r a3R rfl rfl rfl rfl q1 q2 ?_))
    go_loopw [68] (fun cx wr=>∃(q cnt:Nat) (dv:Value) (us:List (List Rat)),cx= .int .i64 q/\q<=2/\cnt<=ol+1/\Bx wr bc #[.int .i64 (cnt:Int)] 3/\Bx wr bs #[dv] 25/\MV (mk Xo wr) dv us/\Hid (a3J 1 O cnt us/\BM uB us/\(∀r∈us,r.length=1)/\(0<q->Bd 1 O cnt (vec (sgL 1 [1])))/\(1<q->Bd 1 O cnt (vec (sgL (-1) [1]))))/\ExtX (a3g bc bs) wl wr) (fun cx _=>2 - (intOf cx).toNat)
    case atStart=>exact⟨0,ol+1,_,[],rfl,Nat.zero_le _,Nat.le_refl _,l1,l2,SlV.zero _ _ _,hstart,ExtX.refl _⟩
    case round=>
     obtain⟨q,cnt,dv,us,rfl,hq,hcl,t1,t2,hdv,hf,hE⟩:=hrel;clear l1 l2 hstart kb kd kb5 kb7 kb8 kd8 q1 q2 bx0 bx1;have l4:=l3.ext hE htb;have hXr2:HX Xo wr:=hXl.ext hE;have hEwr:Ext w wr:=hEwl.then_ hE fun i hi _=>by simp[a3g];omega
     by_cases hlt:q<2
     ·have hqL:q<LL.length:=by rw[hLLl.out];exact hlt
      have k00:=(hlit.mono (a0x.mono _) (a0u hE htwo)).int q hqL;have hsv:=hLLv.out q hqL;obtain⟨sg,hsg⟩:∃sg,LL[q]=sg:=⟨_,rfl⟩;rw[hsg]at k00 hsv;have hsg1:sg=1\/sg= -1:=by omega
      have hsgi: -9223372036854775808<=sg/\sg<=9223372036854775807:=by omega
      have hOr:=hOl8.mono RV.mono (a0u hE htwo);obtain⟨U,hU⟩:∃U,sgL sg [1]=U:=⟨_,rfl⟩;have hUe:Hid ([(sg:Rat)]=U):=hid (by rw[<-hU];simp[sgL]);have hUz:Hid (nz 1 (vec U)):=hid (by rw[<-hU];exact b7n hsg1 b1r);have hUs:Hid (∀v:List Rat,(0<dot 1 (vec U) (vec v)↔(v.getD 0 0).num.sign=sg)):=hid fun v=>by rw[<-hU];exact b8Q hsg1 v
      have hnext:Hid (∀(cnt':Nat) (us':List (List Rat)),cnt'<=cnt->a3J 1 O cnt' us'->BM uB us'->(∀r∈us',r.length=1)->Bd 1 O cnt' (vec U)->(a3J 1 O cnt' us'/\BM uB us'/\(∀r∈us',r.length=1)/\(0<q+1->Bd 1 O cnt' (vec (sgL 1 [1])))/\(1<q+1->Bd 1 O cnt' (vec (sgL (-1) [1]))))):=hid fun cnt' us' h1 h2 h3 h4 h5=>by
       obtain⟨_,_,_,f4,f5⟩:=hf.out;subst hU;refine⟨h2,h3,h4,fun _=>?_,fun hq1=>?_⟩
       ·rcases hsv with⟨rfl,rfl⟩|⟨rfl,rfl⟩
        ·exact h5
        ·exact(f4 (by decide)).le h1
       ·rcases hsv with⟨rfl,rfl⟩|⟨rfl,rfl⟩
        ·omega
        ·exact h5
      have kb:=l4.cell 0 rfl;obtain⟨wo,hwo⟩:∃wo,wo=wr:=⟨_,rfl⟩;subst hwo;clear hsv hU hsg;go_wp2_with (with_reducible refine a0n a1G (by omega) (by assumption) ?_)
      go_loopw [17,74] (fun nn cx wx=>∃(i P:Nat),cx= .int .i64 i/\i<=ol/\nn= .int .i64 (P:Int)/\P<=i/\Hid (P=a2P 1 U (O.take i))/\Ext wo wx) (fun _ cx _=>ol - (intOf cx).toNat)
      case atStart=>exact⟨0,0,rfl,Nat.zero_le _,rfl,Nat.zero_le _,hid rfl,ExtX.refl _⟩
      case round=>
       obtain⟨i,P,rfl,hi,rfl,hPi,hPe,hEi⟩:=hrel;clear k00 kb;have hXi:HX Xo wr:=hXr2.ext hEi;by_cases hli:i<ol
       ·have hiO:i<O.length:=by rw[hol'.out];exact hli
        obtain⟨a1,c1,hX1,hcc1,hcl1,hq1⟩:=(hOr.mono RV.mono (a0m hEi)).row i hiO;have k00:=hcc1.out noY wr (ExtX.refl _) rfl;have hvl:=hOs'.out.2 O[i] (List.getElem_mem _);have hps:=hid (a6V 1 U hiO);have hus:=hid (hUs.out O[i]);have h0v:0<O[i].length:=by rw[hvl];decide
        have hge:Hid (O[i].getD 0 0=O[i][0]):=hid (by simp[List.getD_eq_getElem?_getD,h0v]);rw[hvl]at k00 hcl1;have hh1:Hd a1 1:=by have:=hq1.hd;rw[hvl]at this;exact this
        rw[hge.out]at hus;clear hcc1 hvl;by_cases hsgn:O[i][0].num.sign=sg
        ·have hP2:Hid (P+1=a2P 1 U (O.take (i+1))):=hid (by rw[hps.out,if_pos (hus.out.2 hsgn),<-hPe.out])
         go_wp2_with (first|(with_reducible refine a0n a0o (by omega) (by assumption) ?_)|(with_reducible refine a1E a0J (by omega) (by assumption) ?_)|((with_reducible show wpList _ _ _ (⟨_, .load 32 _,_,_,_,_⟩::_) _ _);refine a0W a0w 0 hq1 h0v rfl (by simp) QV.agg ?_;intro u5 hu5;obtain⟨s5,a5,n5,c5,d5,m5,e5,rfl⟩:=hu5.shape))
         refine(a5P Xo _ _ _ hXi hu5).mono ?_;rintro e w7 ⟨hE7,rfl⟩;rw[hsgn];have hE9:=hEi.trans hE7;clear k00;go_wp2_with fail
         go_roundw
         case rel=>exact⟨i+1,P+1,by go_num,by omega,by go_num,by omega,hP2,hE9⟩
         case measure=>simp[intOf];omega
        ·have hP2:Hid (P=a2P 1 U (O.take (i+1))):=hid (by rw[hps.out,if_neg (fun h=>hsgn (hus.out.1 h)),<-hPe.out];rfl)
         go_wp2_with (first|(with_reducible refine a0n a0o (by omega) (by assumption) ?_)|(with_reducible refine a1E a0J (by omega) (by assumption) ?_)|((with_reducible show wpList _ _ _ (⟨_, .load 32 _,_,_,_,_⟩::_) _ _);refine a0W a0w 0 hq1 h0v rfl (by simp) QV.agg ?_;intro u5 hu5;obtain⟨s5,a5,n5,c5,d5,m5,e5,rfl⟩:=hu5.shape))
         refine(a5P Xo _ _ _ hXi hu5).mono ?_;rintro e w7 ⟨hE7,rfl⟩;have hbq:((O[i][0]).num.sign==sg)=false:=a1S hsgn;have hE9:=hEi.trans hE7;clear k00;go_wp2_with fail
         go_roundw
         case rel=>exact⟨i+1,P,by go_num,by omega,rfl,by omega,hP2,hE9⟩
         case measure=>simp[intOf];omega
       ·have hio:i=ol:=by omega
        have hPf:P=a2P 1 U O:=by rw[hPe.out,List.take_of_length_le (by rw[hol'.out,hio];exact Nat.le_refl _)]
        have hPf':=hid hPf;have t3:=t1.ext0 hEi;have t4:=t2.ext0 hEi;have k3:=t3.cell 0 rfl;have hd3:=mkx MV.mono hdv hEi;obtain⟨f1,f2,f3,_⟩:=hf.out;have hEz:ExtX (a3g bc bs) wl wr:=hE.then_ hEi (fun _ _ _=>rfl);by_cases hPc:P<cnt
        rotate_left 1
        ·have hN2:=hid (hnext.out cnt us (Nat.le_refl _) f1 f2 f3 (a8u (by rw[<-hPf];omega)))
         clear hPf f1 f2 f3;go_wp2_with fail
         go_roundw
         case rel=>exact⟨q+1,cnt,dv,us,by go_num,by omega,hcl,t3,t4,hd3,hN2,hEz⟩
         case measure=>simp[intOf];omega
        ·have hwit:=(b6W hUz.out (c0h hOz'.out hUz.out)).1
         rw[<-hPf]at hwit;have hUBr:BR 1 U:=fun q hq=>by
          rw[<-hUe.out]at hq;rw[List.mem_singleton.1 hq];rcases hsg1 with rfl|rfl<;>decide+kernel
         have hN2:=hid (hnext.out P [U] (by omega) (.inr hwit) (fun r hr=>by rw[List.mem_singleton.1 hr];exact fun q hq=>Nat.le_trans (hUBr q hq) (by decide)) (fun r hr=>by rw[List.mem_singleton.1 hr,<-hUe.out];rfl) (a8u (by rw[<-hPf];exact Nat.le_refl _)));clear hPf f1 f2 f3 hwit;go_wp2_with fail
         refine(b2e Xo wr sg hXi hsgi.1 hsgi.2).mono ?_;rintro e w5 ⟨hE5,u5,rfl,hu5⟩;obtain⟨s5,a5,n5,c5,d5,m5,e5,rfl⟩:=hu5.shape;have hX5:HX Xo w5:=hXi.ext hE5;have hL1:=(a6q Xo w5 s5 a5 n5 c5 d5 m5 e5 (sg:Rat) 32 hX5 hu5).sl QC.elem;have hEA:Ext w5 (w5.alloc (.cells #[.bool s5, .slice a5 n5 c5, .slice d5 m5 e5] 32)):=(ExtX.refl _).alloc _;obtain⟨wA,hwA⟩:∃wA,w5.alloc (.cells #[.bool s5, .slice a5 n5 c5, .slice d5 m5 e5] 32)=wA:=⟨_,rfl⟩;obtain⟨gA,hgA⟩:∃gA:Option Addr,some ⟨w5.heap.size,0,none⟩=gA:=⟨_,rfl⟩;rw[hwA,hgA,hUe.out]at hL1;rw[hwA]at hEA;have hXA:HX Xo wA:=hX5.ext hEA;have hUl1:U.length=1:=by rw[<-hUe.out];rfl
         have hL2:=a8w Xo wA gA 1 1 U 45 hXA ⟨gA,1,by rw[hUl1],by rw[hUl1];exact Nat.le_refl _,hL1.qv fun q hq=>Nat.le_trans (hUBr q hq) (by decide)⟩;have hEB:Ext wA (wA.alloc (.cells #[.slice gA 1 1] 45)):=(ExtX.refl _).alloc _;obtain⟨wB,hwB⟩:∃wB,wA.alloc (.cells #[.slice gA 1 1] 45)=wB:=⟨_,rfl⟩;obtain⟨gB,hgB⟩:∃gB:Option Addr,some ⟨wA.heap.size,0,none⟩=gB:=⟨_,rfl⟩;rw[hwB,hgB]at hL2;rw[hwB]at hEB;have hErB:Ext wr wB:=hE5.trans (hEA.trans hEB);have y1:=t3.ext0 hErB;have y2:=t4.ext0 hErB;have z1:=y1.cell 0 rfl;have z2:=y1.frozen 0;obtain⟨y3,hE6⟩:=Bx.store y1 (.int .i64 (P:Int));have y4:=y2.ext hE6 (a0b (by omega));have z3:=y4.cell 0 rfl;have z4:=y4.frozen 0;obtain⟨y5,hE7⟩:=Bx.store y4 (.slice gB 1 1);have y6:=y3.ext hE7 (a0b (by omega));have hEst:ExtX (a3g bc bs) wB _:=(hE6.weaken (Z:=a3g bc bs) fun k _ hk=>a0b fun e=>by subst e;simp[a3g]at hk).trans (hE7.weaken fun k _ hk=>a0b fun e=>by subst e;simp[a3g]at hk);have hm8:MV (mk Xo _) (.slice gB 1 1) [U]:=MV.mono _ _ _ _ (a0u hEst htwo) ⟨gB,1,rfl,Nat.le_refl _,hL2.sl RV.elem⟩;have hEf:=(hEz.then_ hErB (fun _ _ _=>rfl)).trans hEst;clear hL1 hL2 hu5 y1 y2 y3 y4 hE6 hE7 t3 t4 k3;go_wp2_with (first|((with_reducible show wpList _ _ _ (⟨_, .store 3 _ _,_,_,_,_⟩::_) _ _);refine a1r a3R rfl rfl rfl rfl z1 z2 ?_)|((with_reducible show wpList _ _ _ (⟨_, .store 25 _ _,_,_,_,_⟩::_) _ _);refine a1r a4U rfl rfl rfl rfl z3 z4 ?_))
         go_roundw
         case rel=>exact⟨q+1,P, .slice gB 1 1,[U],by go_num,by omega,by omega,y6,y5,hm8,hN2,hEf⟩
         case measure=>simp[intOf];omega
     ·have hq2:q=2:=by omega
      subst hq2;obtain⟨f1,f2,f3,f4,f5⟩:=hf.out;obtain⟨hfd,hfw⟩:=hfinal.out cnt us f1 (f4 (by decide)) (f5 (by decide));have hfd':=hid hfd;have hfw':=hid hfw;have hf2:=hid f2;have hf3:=hid f3;obtain⟨da,dca,hdve,_,_⟩:=id hdv;subst hdve;have hEd:Ext wr wr.drew:=(ExtX.refl wr).drew;have m1:=(t1.ext0 hEd).cell 0 rfl;have m2:=(t1.ext0 hEd).frozen 0;have m3:=(t2.ext0 hEd).cell 0 rfl;have m4:=(t2.ext0 hEd).frozen 0;have n1:=t1.cell 0 rfl;have n2:=t1.frozen 0;have n3:=t2.cell 0 rfl;have n4:=t2.frozen 0;have hwr2:IntKind.i64.wrap ((cnt:Int)+((n:Int) - (ol:Int)))=((cnt+(n - ol):Nat):Int):=by rw[IntWalk.i64_in _ (by omega)];omega
      obtain⟨y3,hE6⟩:=Bx.store t1 (.int .i64 ((cnt+(n - ol):Nat):Int));have y4:=t2.ext hE6 (a0b (by omega));have p1:=y4.cell 0 rfl;have p2:=y4.frozen 0;obtain⟨y5,hE7⟩:=Bx.store y4 (.slice da us.length dca);have y6:=y3.ext hE7 (a0b (by omega));have hEst:ExtX (a3g bc bs) wr _:=(hE6.weaken (Z:=a3g bc bs) fun k _ hk=>a0b fun e=>by subst e;simp[a3g]at hk).trans (hE7.weaken fun k _ hk=>a0b fun e=>by subst e;simp[a3g]at hk);have hm8:=MV.mono _ _ _ _ (a0u hEst htwo) hdv;rw[<-hXo]at hm8;have hm9:=MV.mono _ _ _ _ a0k hm8;have hEf:Ext w _:=(hEwr.then_ hEst fun i hi _=>by simp[a3g];omega).drew;clear hfd hfw f1 f2 f3 f4 f5 hf;go_wp2_with fail
      go_region
      all_goals
       have y7:=y6.ext0 ((ExtX.refl (Y:=noY) _).drew);have y8:=y5.ext0 ((ExtX.refl (Y:=noY) _).drew);clear m1 m2 m3 m4 n1 n2 n3 n4 p1 p2;go_wp2_with fail
       exact bodyPost_ret (a2Z rfl rfl rfl a4h a8x (y7.cell 0 rfl) (y8.cell 0 rfl)) rfl ⟨hEf,cnt+(n - ol),_,us,rfl,hm9,hf2.out,hf3.out,hfd'.out,hfw'.out⟩
   have hc1':((c:Int)==1)=false:=a1S (by omega);have hlay:Lay w.heap.size bo bu bc bd bs w8.heap.size:=by
    rw[hbd];constructor<;>omega
   have hle8:Le (mk Xo w7) (mk (b0b X bc bs w8.heap.size) w8):=a1g hE8 (fun k _ hk=>by
    have:bc=k:=by simpa[ob]using hk
    exact hin4 k (by omega) (by omega)) fun k hk hz=>by
    simp only[b0b,a3g,a6Y,Bool.or_eq_true,Bool.and_eq_true,beq_iff_eq,decide_eq_true_eq]at hz;rcases hz with(h|h|h)|h
    ·rw[<-hXo];exact b0U h
    ·exact hin4 k (by omega) (by omega)
    ·exact hin4 k (by omega) (by omega)
    ·omega
   have hst8:BSt X w bo bu bc bd bs w8.heap.size c oo ol oc (.slice no nl nc) O (a0D O c) (ol+1) (.slice none 0 0) [] w8:=
    ⟨hEw8,f6,f7,f3,f4,f5,MV.mono _ _ _ _ hle8 (mkx MV.mono hMO hEq7),MV.mono _ _ _ _ hle8 ⟨no,nc,by rw[hnl],by rw[hnl];exact hnc,hns.mono RV.mono (a0m hE67)⟩,SlV.zero _ _ _⟩
   have hinv0:b6o X w bo bu bc bd bs w8.heap.size c oo ol oc (.slice no nl nc) O (a0D O c) [] w8:=⟨ol+1,_,[],hst8, .inl ⟨by rw[hol'.out],rfl⟩,fun r hr=>by simp at hr,fun r hr=>by simp at hr,fun s hs=>by simp at hs⟩;have hcb:=a6Z 257 ol r #[.pointer (some ⟨bo,0,none⟩), .pointer (some ⟨bu,0,none⟩), .pointer (some ⟨bc,0,none⟩), .pointer (some ⟨bd,0,none⟩), .pointer (some ⟨bs,0,none⟩)] (b6o X w bo bu bc bd bs w8.heap.size c oo ol oc (.slice no nl nc) O (a0D O c)) w8 (fun _ _=>rfl) (by omega) (by omega)
    (fun done W W' hi hE=>hi.own hlay hE)
    (fun done s W hi hss hsl hB9=>by
     obtain⟨rest,hrest⟩:=hss;have hmem:s∈a0s ol r 0:=by rw[<-hrest];simp
     obtain⟨m1,m2,_⟩:=a1w ol r 0 s hmem;subst m1;exact b8O X w bo bu bc bd bs w8.heap.size ol c B oo oc _ O (a0D O c) done s W (fun m hm=>ih'.out m (by omega)) hOs (by omega) (by omega) hc3 hOB hB1 hB hOz hOne rfl hr hlay hX hi (fun x hx=>by have:=m2 x hx;rw[hol'.out];omega) hsl hB9) hinv0
   have hcb':=hid hcb;have hfinal:=hid (fun(cnt:Nat) (us:List (List Rat)) (h1:a3J c O cnt us) (h2:∀s∈a0s ol r 0,a2c c (a0t O) (a0t (a0D O c)) cnt (s.map Int.toNat))=>(by
    obtain⟨g1,g2⟩:=b2Z hOs hOz hOne hr h1 (fun I a b d=>a9m ol h2 I a b (by rw[<-hol'.out];exact d));exact hback.out cnt us g1 g2:a0M c (a0t z) (cnt+(n - ol))/\Wit c (a0t z) (cnt+(n - ol)) (a0t us)))
   have hlay':=hid hlay;have hr64:r<=64:=by omega
   have hcn:=hid (fun cnt us (h:a3J c O cnt us)=>(by
    have:=h.le;rw[hol'.out]at this;exact this:cnt<=ol+1))
   have hbu':=hid hbu;rw[hnl];clear hst8 hinv0 hcb f1 f3 f4 f5 f6 f7 hle8 hMO hns bx bx2 hE7 hE8 hE67 hEq7 hnu hnu5 hb e0 e1 e2 hOS hOB hOz hOs hT hOf hOcol hu6 hnlL hnl hE5 hE6 hpos hrn hrc;rcases Nat.eq_zero_or_pos r with rfl|hrp
   rotate_left 1
   have hr1:((r:Int)+1==1)=false:=a1S (by omega)
   all_goals
    go_wp2_with (first|((with_reducible show wpList _ _ _ (⟨_, .store 25 _ _,_,_,_,_⟩::_) _ _);refine a1r a4U rfl rfl rfl rfl bx0 bx1 ?_)|((with_reducible show wpList _ _ _ (⟨_, .store 3 _ _,_,_,_,_⟩::_) _ _);refine a1r a3R rfl rfl rfl rfl q1 q2 ?_))
    refine hcb'.out.mono ?_;rintro e w9 ⟨rfl,cnt,dv,us,hst,hSo,hUB,hUl,hTr⟩;obtain⟨hfd,hfw⟩:=hfinal.out cnt us hSo hTr;have hfd':=hid hfd;have hfw':=hid hfw;have hcl:=hcn.out cnt us hSo;obtain⟨da,dca,hdv,_,_⟩:=id hst.r3;subst hdv;have hstd:=hst.step ((ExtX.refl (Y:=noY) w9).drew);have m1:=hstd.b3.cell 0 rfl;have m2:=hstd.b3.frozen 0;have m3:=hstd.b5.cell 0 rfl;have m4:=hstd.b5.frozen 0;obtain⟨p1,p2,hst11,hE11⟩:=hst.put hlay'.out (cnt+(n - ol)) _ us hst.r3;have n1:=hst.b3.cell 0 rfl;have n2:=hst.b3.frozen 0;have n3:=hst.b5.cell 0 rfl;have n4:=hst.b5.frozen 0;have hwr2:IntKind.i64.wrap ((cnt:Int)+((n:Int) - (ol:Int)))=((cnt+(n - ol):Nat):Int):=by rw[IntWalk.i64_in _ (by omega)];omega
    clear hfd hfw hst hstd hTr hSo q1 q2 bx0 bx1 kb8 kd8 kb7 kb5 kb kd hw8 hw7;go_wp2_with fail
    go_region
    all_goals
     have hstF:=hst11.step ((ExtX.refl (Y:=noY) _).drew);have hmF:=MV.mono _ _ _ _ (a1U (X:=X) fun k _ hk=>by simp[b0b,hk]) hstF.r3;clear m1 m2 m3 m4 n1 n2 n3 n4 p1 p2;go_wp2_with fail
     exact bodyPost_ret (a2Z rfl rfl rfl a4h a8x (hstF.b3.cell 0 rfl) (hstF.b5.cell 0 rfl)) rfl ⟨hstF.ext,cnt+(n - ol),_,us,rfl,hmF,hUB,hUl,hfd'.out,hfw'.out⟩
end Go.Proofs.YtoibhmjjhgaimaaGreat
namespace Go.Lin
open Go.Lim Go.Rep
open Classical in
noncomputable def c1l (c:Nat) (z:List Vec):Nat:=if h:∃k,a0M c z k then h.choose else 0
theorem b8R {c k:Nat} {z:List Vec} (h:a0M c z k):c1l c z=k:=by
 unfold c1l;rw[dif_pos ⟨k,h⟩];exact(Exists.choose_spec (⟨k,h⟩:∃k,a0M c z k)).uniq h
def a2z (p:Mat) (y:List Rat):Bool:=a2k p&&decide (y.length=a0l p)
noncomputable def a6g (p:Mat) (y:List Rat):Nat:=if a2z p y then c1l (a0l p) (a0t (a1a (a0l p) p y))else 0
theorem b4o {p:Mat} {y:List Rat} (h:a2z p y=false):a6g p y=0:=by unfold a6g;rw[h];rfl
theorem a4w {p:Mat} {y:List Rat} {k:Nat} (h:a2z p y=true) (hk:a0M (a0l p) (a0t (a1a (a0l p) p y)) k):a6g p y=k:=by unfold a6g;rw[h,if_pos rfl];exact b8R hk
end Go.Lin
namespace Go.Proofs.YtoibhmjjhgaimaaGreat
open Go.RowKit Go.Rep Go.Lim Go.Lin
theorem a3u {p:Mat} {y:List Rat} (h:a2z p y=true):a2k p=true/\y.length=a0l p:=by
 unfold a2z at h;rw[Bool.and_eq_true,decide_eq_true_eq]at h;exact h
theorem a5S {p:Mat} {y:List Rat} {B:Nat} (h:a2z p y=true) (hpB:BM B p) (hyB:BR B y) (hB:1<=B):(∀r∈p,r.length=a0l p)/\p.length<=64/\1<=p.length/\1<=a0l p/\a0l p<=3/\Shp p.length (a0l p) (a1a (a0l p) p y)/\BM (2*B+1) (a1a (a0l p) p y):=by
 obtain⟨h1,h2⟩:=a3u h;obtain⟨g1,g2,g3,g4,_⟩:=a0L.1 h1;exact⟨a4u h1,g2,g1,g3,g4,b3b _ _ _,b5W hpB hyB hB⟩
set_option maxRecDepth 100000 in
theorem a7I (X:Nat->Bool) (w:World) (u v:Value) (p:Mat) (y:List Rat) (B:Nat) (hX:HX X w) (hu:MV (mk X w) u p) (hv:RV (mk X w) v y) (hp:p.length<=1000) (hpB:BM B p) (hyB:BR B y) (hB:1<=B) (hBB:B<=3000):
  Calls Tryz.prog 158 #[u,v] w (c0k w (a6g p y) (okE (a2z p y))):=by
 have hfit:=fun xo xl xc=>b3L X w u p xo xl xc hu (by omega);have hv0:=hv;obtain⟨va,vca,rfl,hvca,hva⟩:=hv;have hfi:Calls Tryz.prog 221 #[u, .slice va y.length vca] w (fun e w'=>w'=w/\e= .returned (.bool (a2z p y))):=hfit va y.length vca;clear hfit;cases hok:a2z p y
 ·rw[hok]at hfi
  have hv1:=hid (b4o hok);clear hok;go_enter Tryz.func158,Tryz.ntmps158
  go_wp2_with fail
  refine hfi.mono ?_;rintro e w1 ⟨rfl,rfl⟩;go_wp2_with fail
  go_ret2
  exact⟨ExtX.refl _,by rw[hv1.out];rfl⟩
 rw[hok]at hfi;obtain⟨f1,f2,f3,f4,f5,f6,f7⟩:=a5S hok hpB hyB hB;obtain⟨_,hyc⟩:=a3u hok;have hval:=hid (fun k h=>a4w (k:=k) hok h);have hcen:=b6h X w u (.slice va y.length vca) p y (a0l p) hX hu hv0 f1 hyc (by omega) hp;obtain⟨c,hc⟩:∃c,a0l p=c:=⟨_,rfl⟩;rw[hc]at f1 f4 f5 f6 f7 hval hcen hyc;obtain⟨M,hM⟩:∃M,a1a c p y=M:=⟨_,rfl⟩;rw[hM]at f6 f7 hval hcen;rw[hyc]at hfi hcen |-;have hbst:=hid (fun w' um (hX':HX X w') (hm:MV (mk X w') um M)=>b6u p.length X w' um M c (2*B+1) hX' hm f6 f2 f4 f5 f7 (by omega) (by omega));have f7':=hid f7;clear hok f1 f6 f7 hM hc hv0 hva hpB hyB hu hyc;go_enter Tryz.func158,Tryz.ntmps158
 go_wp2_with fail
 refine hfi.mono ?_;rintro e w1 ⟨rfl,rfl⟩;go_wp2_with fail
 refine hcen.mono ?_;rintro e w2 ⟨hE2,um,rfl,hm⟩;have hb:=hbst.out w2 um (hX.ext hE2) (hm.mv fun r hr q hq=>Nat.le_trans (f7'.out r hr q hq) (by omega));go_wp2_with fail
 refine hb.mono ?_;rintro e w3 ⟨hE3,k,dv,us,rfl,_,_,_,hk,_⟩;have hkv:=hid (hval.out k hk);clear hb hk;go_wp2_with fail
 go_ret2
 exact⟨hE2.trans hE3,by rw[hkv.out];rfl⟩
end Go.Proofs.YtoibhmjjhgaimaaGreat
namespace Go.Lim
theorem a5T:∀(m h:Nat) (lo:Int) (i:Nat),i<m->(a0s m (h+1) lo).countP (fun I=>decide (lo+i∈I))=ch (m - 1) h
 |0,_,_,_,hi=>by omega
 |m+1,h,lo,i,hi=>by
  have e:a0s (m+1) (h+1) lo=(a0s m h (lo+1)).map (lo:: ·)++a0s m (h+1) (lo+1):=rfl;rw[e,List.countP_append,List.countP_map]
  match i with
  |0=>
   have h1:(a0s m h (lo+1)).countP ((fun I=>decide (lo+((0:Nat):Int)∈I))∘(lo:: ·))=(a0s m h (lo+1)).length:=List.countP_eq_length.2 fun J _=>by simp
   have h2:(a0s m (h+1) (lo+1)).countP (fun I=>decide (lo+((0:Nat):Int)∈I))=0:=List.countP_eq_zero.2 fun J hJ=>by
    have:=(a1w m (h+1) (lo+1) J hJ).2.1;simp only[decide_eq_true_eq];intro hm;have:=this _ hm;omega
   rw[h1,h2,a0Y];rfl
  |i+1=>
   have e2:lo+((i+1:Nat):Int)=lo+1+(i:Int):=by omega
   have h1:((fun I=>decide (lo+((i+1:Nat):Int)∈I))∘(lo:: ·))=fun I:List Int=>decide (lo+1+(i:Int)∈I):=by
    funext J
    rw[e2]
    show decide (lo+1+(i:Int)∈lo::J)=_
    rw[decide_eq_decide,List.mem_cons];constructor
    ·rintro (h|h)
     ·omega
     ·exact h
    ·exact .inr
   rw[h1,e2,a5T m h (lo+1) i (by omega)];obtain⟨m,rfl⟩:∃n,m=n+1:=⟨m - 1,by omega⟩
   match h with
   |0=>
    rw[a2b];simp[a3W]
   |h+1=>
    rw[a5T (m+1) h (lo+1) i (by omega)];rfl
end Go.Lim
namespace Go.Lin
open Go.Lim Go.Rep
noncomputable def inS (p:Mat) (x:List Rat) (I:List Int):Bool:=decide (0<a6g (a0B p I) x)
noncomputable def a4i (p:Mat) (x:List Rat) (L:List (List Int)):Nat:=L.countP (inS p x)
theorem a7b (p:Mat) (x:List Rat) (L:List (List Int)):a4i p x L<=L.length:=List.countP_le_length
theorem b1u (p:Mat) (x:List Rat) (L:List (List Int)) (s:List Int):a4i p x (L++[s])=a4i p x L+if inS p x s then 1 else 0:=by
 unfold a4i;rw[List.countP_append,List.countP_singleton]
theorem b4p {c:Nat} {p:Mat} {x:List Rat} {I:List Int} (hb:∀i∈I,0<=i/\i<(p.length:Int)):a1a c (a0B p I) x=a0B (a1a c p x) I:=by
 unfold a1a a0B;rw[List.map_map];refine List.map_congr_left fun i hi=>?_;have h:=hb i hi;have hl:i.toNat<p.length:=by omega
 simp[List.getD_eq_getElem?_getD,hl]
theorem a8y {p:Mat} {I:List Int} (hp:a2k p=true) (hI:I.length=a0l p+1) (hb:∀i∈I,0<=i/\i<(p.length:Int)):a2k (a0B p I)=true/\a0l (a0B p I)=a0l p:=by
 have hm:=fun r hr=>a4u hp r (a2u hb r hr);obtain⟨g1,g2,g3,g4,g5⟩:=a0L.1 hp;have hl:=a1M p I;have h0:a0l (a0B p I)=a0l p:=by
  have:(a0B p I).getD 0 []=(a0B p I)[0]'(by omega):=by simp[List.getD_eq_getElem?_getD,show 0<(a0B p I).length by omega]
  unfold a0l at hm |-;rw[this];exact hm _ (List.getElem_mem _)
 exact⟨a0L.2 ⟨by omega,by omega,by omega,by omega,fun i hi=>by rw[h0];exact hm _ (List.getElem_mem hi)⟩,h0⟩
section
variable {p:Mat} {x:List Rat} (hp:a2k p=true) (hx:x.length=a0l p)
include hp hx
theorem a8z:∃k,a0M (a0l p) (a0t (a1a (a0l p) p x)) k/\a6g p x=k:=by
 obtain⟨g1,g2,g3,g4,g5⟩:=a0L.1 hp;obtain⟨k,hk⟩:=a7l (c:=a0l p) (by omega) (a0t (a1a (a0l p) p x));exact⟨k,hk,a4w (by unfold a2z;rw[hp,decide_eq_true hx];rfl) hk⟩
theorem b4q {I:List Int} (hI:I.length=a0l p+1) (hb:∀i∈I,0<=i/\i<(p.length:Int)):∃k,a0M (a0l p) (a2I (a0t (a1a (a0l p) p x)) (I.map Int.toNat)) k/\a6g (a0B p I) x=k:=by
 obtain⟨h1,h2⟩:=a8y hp hI hb;obtain⟨k,hk,hd⟩:=a8z h1 (x:=x) (by omega);rw[h2,b4p hb,a4e (by simpa[a1a]using hb)]at hk;exact⟨k,hk,hd⟩
theorem b8S (hn:a0l p+1<=p.length):0<a4i p x (a0s p.length (a0l p+1) 0)↔0<a6g p x:=by
 obtain⟨k,hk,hd⟩:=a8z hp hx;have hzl:(a0t (a1a (a0l p) p x)).length=p.length:=by simp[a0t,a1a]
 have hz:a0t (a1a (a0l p) p x)≠[]:=fun h=>by rw[h]at hzl;simp at hzl;omega
 have h0:=a7W hz hk;rw[hd];unfold a4i;rw[List.countP_pos_iff];constructor
 ·rintro ⟨I,hI,hin⟩
  apply Classical.byContradiction;intro hn;obtain⟨u,hu⟩:=h0.1 (by omega);obtain⟨m1,m2,m3⟩:=a1w _ _ _ I hI;have hb:∀i∈I,0<=i/\i<(p.length:Int):=fun i hi=>by have:=m2 i hi;omega
  obtain⟨l,hl,he⟩:=b4q hp hx m1 hb;have hne:a2I (a0t (a1a (a0l p) p x)) (I.map Int.toNat)≠[]:=fun h=>by
   have:=congrArg List.length h;simp[a2I]at this;rw[this]at m1;simp at m1
  have hl0:=(a7W hne hl).2 ⟨u,fun v hv=>by
   obtain⟨i,hi,rfl⟩:=List.mem_map.1 hv;obtain⟨j,hj,rfl⟩:=List.mem_map.1 hi;have:=hb j hj;have hjl:j.toNat<(a0t (a1a (a0l p) p x)).length:=by omega
   rw[b9t hjl];exact hu _ (List.getElem_mem _)⟩
  unfold inS at hin;rw[decide_eq_true_eq]at hin;omega
 ·intro hk0
  apply Classical.byContradiction;intro hno;have:=h0.2 (b2a (by omega) fun I h1 h2 h3=>by
   have hI:I.map Int.ofNat∈a0s p.length (a0l p+1) 0:=a5z _ _ _ _ (by simpa using h1) (fun y hy=>by
    obtain⟨i,hi,rfl⟩:=List.mem_map.1 hy;have:=h3 i hi;simp only[Int.ofNat_eq_natCast];omega) (by
    rw[List.pairwise_map];exact h2.imp fun h=>by simp only[Int.ofNat_eq_natCast];omega)
   obtain⟨m1,m2,m3⟩:=a1w _ _ _ _ hI;have hb:∀i∈I.map Int.ofNat,0<=i/\i<(p.length:Int):=fun i hi=>by have:=m2 i hi;omega
   obtain⟨l,hl,he⟩:=b4q hp hx m1 hb;have e:(I.map Int.ofNat).map Int.toNat=I:=by
    rw[List.map_map];exact(List.map_congr_left fun i _=>by simp).trans (List.map_id I)
   rw[e]at hl;have hl0:l=0:=by
    apply Classical.byContradiction;intro hl0;exact hno ⟨_,hI,by unfold inS;rw[decide_eq_true_eq];omega⟩
   have hne:a2I (a0t (a1a (a0l p) p x)) I≠[]:=fun h=>by
    have:=congrArg List.length h;simp[a2I]at this;rw[this]at h1;simp at h1
   exact(a7W hne hl).1 hl0)
  omega
end
theorem b6v {p:Mat} {x:List Rat} (hp:a2k p=true) (i:Nat) (hi:i<p.length) (hx:p[i]=x):(a0s (p.length - 1) (a0l p) 0).length<=a4i p x (a0s p.length (a0l p+1) 0):=by
 have hxl:x.length=a0l p:=by rw[<-hx];exact a4u hp _ (List.getElem_mem hi)
 rw[a0Y,<-a5T p.length (a0l p) 0 i hi];refine List.countP_mono_left fun I hI hin=>?_;rw[decide_eq_true_eq]at hin;obtain⟨m1,m2,m3⟩:=a1w _ _ _ I hI;have hb:∀i∈I,0<=i/\i<(p.length:Int):=fun i hi=>by have:=m2 i hi;omega
 obtain⟨h1,h2⟩:=a8y hp m1 hb;obtain⟨k,hk,hd⟩:=a8z h1 (x:=x) (by omega);have h3:=b3c hk;have h4:0<(a0B p I).countP fun r=>decide (r=x):=List.countP_pos_iff.2 ⟨x,by
  unfold a0B;refine List.mem_map.2 ⟨_,hin,?_⟩;rw[<-hx];simp[List.getD_eq_getElem?_getD,hi],by simp⟩
 unfold inS;rw[decide_eq_true_eq,hd];omega
end Go.Lin
namespace Go.Rep
open Go.RowKit Go.Lim Go.Lin
theorem c0p {X:Nat->Bool} {oo oo2:Option Addr} {w:World} (hor:oo2=oo\/∃g,oo2=some ⟨g,0,none⟩/\w.heap.size<=g):∀k,k<w.heap.size->un X oo2 k=true->un X oo k=true:=fun k hk h=>by
 rcases hor with rfl|⟨g,rfl,hg⟩
 ·exact h
 ·by_cases hx:X k=true
  ·exact a0v hx
  ·exfalso
   have:g=k:=by simpa[un,hx,ob]using h
   omega
def b2A (hs:List Hdr) (i:Nat):Option Addr:=(hs.getD i (none,0,0)).1
theorem a5B {hs:List Hdr} {i:Nat} (h:i<hs.length):b2A hs i=hs[i].1:=by simp[b2A,List.getD_eq_getElem?_getD,h]
structure CS (R:Mem->Value->Rat->Prop) (X:Nat->Bool) (base:Nat) (e1 e2:TypeId) (w:World) (oo:Option Addr) (co:Nat) (hs:List Hdr) (M:Mat) (i:Nat) (L:List Rat):Prop where
 outer:OL HdR 1 X base e1 w oo co hs
 len:hs.length=M.length
 done:∀k (_:k<i) (h1:k<hs.length) (h2:k<M.length),hs[k].2.1=M[k].length/\hs[k].2.1<=hs[k].2.2/\Sl R 3 (mk (un (un X oo) (b2A hs i)) w) hs[k].1 M[k]
 row:∀h1:i<hs.length,hs[i].2.1=L.length/\OL R 3 (un X oo) base e2 w (b2A hs i) hs[i].2.2 L
 rest:∀k,i<k->(h:k<hs.length)->hs[k]=(none,0,0)
section
variable {R:Mem->Value->Rat->Prop} {X:Nat->Bool} {base:Nat} {e1 e2:TypeId} {w w':World} {oo:Option Addr} {co:Nat} {hs:List Hdr} {M:Mat} {i:Nat} {L:List Rat}
theorem CS.start {n:Nat} (ho:OL HdR 1 X base e1 w oo co (List.replicate n (none,0,0))) (hM:M.length=n) (e2:TypeId):CS R X base e1 e2 w oo co (List.replicate n (none,0,0)) M 0 []:=by
 refine⟨ho,by rw[List.length_replicate,hM],fun k hk=>by omega,fun h1=>?_,fun k _ h=>by simp⟩;have hc:b2A (List.replicate n (none,0,0)) 0=none:=by rw[a5B h1];simp
 rw[hc];refine⟨by simp,?_⟩;have:((List.replicate n ((none,0,0):Hdr))[0]).2.2=0:=by simp
 rw[this];exact OL.nil _ _ _ _ _ _
theorem CS.ext0 (hR:Elem R 3) (h:CS R X base e1 e2 w oo co hs M i L) (hE:Ext w w'):CS R X base e1 e2 w' oo co hs M i L:=
 ⟨h.outer.ext0 HdR.elem hE,h.len,fun k hk h1 h2=>let ⟨a,b,c⟩:=h.done k hk h1 h2;⟨a,b,c.mono hR.mono (a0m hE)⟩,fun h1=>let ⟨a,b⟩:=h.row h1;⟨a,b.ext0 hR hE⟩,h.rest⟩
theorem CS.next (hR:Elem R 3) (h:CS R X base e1 e2 w oo co hs M i L) (hi:i<M.length) (hL:L=M[i]):CS R X base e1 e2 w oo co hs M (i+1) []:=by
 have hih:i<hs.length:=by rw[h.len];exact hi
 obtain⟨r1,r2⟩:=h.row hih;have hnone:∀h1:i+1<hs.length,hs[i+1]=(none,0,0):=fun h1=>h.rest (i+1) (by omega) h1;have hc:b2A hs (i+1)=none:=by
  by_cases h1:i+1<hs.length
  ·rw[a5B h1,hnone h1]
  ·simp[b2A,List.getD_eq_getElem?_getD,h1]
 have hun:un (un X oo) none=un X oo:=by funext k;simp[un,ob]
 refine⟨h.outer,h.len,fun k hk h1 h2=>?_,fun h1=>?_,fun k hk h1=>h.rest k (by omega) h1⟩
 ·rw[hc,hun]
  by_cases e:k=i
  ·subst e
   have e2:=a5B h1;rw[e2]at r2;refine⟨by rw[r1,hL],by rw[r1];exact r2.lenCap,?_⟩;rw[<-hL];exact r2.sl hR
  ·obtain⟨a,b,c⟩:=h.done k (by omega) h1 h2
   exact⟨a,b,c.mono hR.mono (a1U fun k _ hk=>a0v hk)⟩
 ·rw[hc]
  refine⟨by rw[hnone h1];rfl,?_⟩;have:hs[i+1].2.2=0:=by rw[hnone h1]
  rw[this];exact OL.nil _ _ _ _ _ _
theorem CS.mc (hR:Elem R 3) (h:CS R X base e1 e2 w oo co hs M M.length []):SlV (SlV R 3) 1 (_root_.Go.Rep.mk X w) (.slice oo M.length co) M:=by
 have hl:=h.len;refine⟨oo,co,rfl,by rw[<-hl];exact h.outer.lenCap,fun hp=>?_,fun k hk=>?_⟩
 ·have:=h.outer.hd;rw[hl]at this;exact this hp
 ·have hkh:k<hs.length:=by omega
  obtain⟨u,h1,h2,rfl⟩:=h.outer.cell HdR.one k hkh;obtain⟨a,b,c⟩:=h.done k hk hkh hk;refine⟨.slice hs[k].1 hs[k].2.1 hs[k].2.2,rfl,fun j hj=>?_,?_⟩
  ·have hj0:j=0:=by simp[Value.cells]at hj;omega
   subst hj0;unfold _root_.Go.Rep.mk;have hX:X (adr oo (k*1+0)).block=false:=by
    obtain⟨b,off,rfl⟩:=h.outer.hd (by omega);exact h.outer.1 _ (by simp[ob,adr])
   rw[hX];simpa[Value.cells]using h1
  ·rw[a]
   exact⟨_,_,rfl,by rw[<-a];exact b,c.mono hR.mono (a1U fun k _ hk=>a0v (a0v hk))⟩
theorem CS.outer7 (h:CS R X base e1 e2 w oo co hs M i L) (hi:i<hs.length) (hE:ExtX (ob (b2A hs i)) w w'):OL HdR 1 X base e1 w' oo co hs:=
 h.outer.frame HdR.pure hE (fun k hk=>by
  cases hc:ob (b2A hs i) k
  ·rfl
  ·have:=(a0P ((h.row hi).2.1 k hc)).2;rw[hk]at this;cases this) h.outer.1
theorem CS.push (hR:Elem R 3) (h:CS R X base e1 e2 w oo co hs M i L) (hi:i<hs.length) {v:Rat} {ai:Option Addr} {ci n:Nat} {w7 w8:World} (hn:n=L.length+1) (hR7:OL R 3 (un X oo) base e2 w7 ai ci (L++[v])) (hE7:ExtX (ob (b2A hs i)) w w7) (hor:ai=b2A hs i\/∃g,ai=some ⟨g,0,none⟩/\w.heap.size<=g)
  (hE8:ExtX (ob oo) w7 w8) (hO8:OL HdR 1 X base e1 w8 oo co (hs.set i (ai,n,ci))):CS R X base e1 e2 w8 oo co (hs.set i (ai,n,ci)) M i (L++[v]):=by
 subst hn;have hc:b2A (hs.set i (ai,L.length+1,ci)) i=ai:=by rw[a5B (by rw[List.length_set];exact hi)];simp
 refine⟨hO8,by rw[List.length_set];exact h.len,fun k hk h1 h2=>?_,fun h1=>?_,fun k hk h1=>?_⟩
 ·have hk1:k<hs.length:=by simpa using h1
  obtain⟨a,b,c⟩:=h.done k hk hk1 h2;rw[hc,List.getElem_set_ne (by omega)];refine⟨a,b,?_⟩;have c7:=c.mono hR.mono (a1g (Z:=un (un X oo) ai) hE7 (fun q _ hq=>a0y hq) (fun q hq hz=>c0p (X:=un X oo) hor q hq hz));exact c7.mono hR.mono (a1g hE8 (fun q _ hq=>a0v (a0y hq)) (fun _ _ h=>h))
 ·rw[hc]
  refine⟨by simp,?_⟩;have:(hs.set i (ai,L.length+1,ci))[i].2.2=ci:=by simp
  rw[this];exact hR7.ext hR hE8 (fun k _ hk=>a0y hk) (fun _ _ h=>h)
 ·rw[List.getElem_set_ne (by omega)]
  exact h.rest k hk (by simpa using h1)
end
end Go.Rep
namespace Go.Lin
open Go.Lim
theorem c1m {l:List Rat} {B:Nat} (h:∀x,x<l.length->hq (l.getD x 0)<=B):Go.Rep.BR B l:=fun q hq=>by
 obtain⟨x,hx,rfl⟩:=List.getElem_of_mem hq;have:=h x hx;rwa[List.getD_eq_getElem?_getD,List.getElem?_eq_getElem hx]at this
theorem c0q {l:List Rat} {B:Nat} (h:Go.Rep.BR B l) (hB:1<=B) (x:Nat):hq (l.getD x 0)<=B:=by
 by_cases hx:x<l.length
 ·rw[List.getD_eq_getElem?_getD,List.getElem?_eq_getElem hx];exact h _ (List.getElem_mem _)
 ·rw[List.getD_eq_getElem?_getD,List.getElem?_eq_none (by omega)]
  show hq 0<=B
  rw[a1p];exact hB
theorem b1v {m:Mat} {b:List Rat} {n c B:Nat} (hs:Shp n c m) (hm:HB B m) (hb:Go.Rep.BR B b):HB B (a3f m b n):=fun i j=>by
 have h1:=hm.pos;by_cases hi:i<n
 ·by_cases hj:j<c+1
  ·rw[a6Q hs i hi j hj];unfold a7T
   split
   ·exact c0q hb h1 i
   ·exact hm i j
  ·rw[a3E (a2h hs) (.inr (by omega)),a1p];exact h1
 ·rw[a3E (a2h (b:=b) hs) (.inl (by omega)),a1p];exact h1
theorem b8T (R:Mat) (p:List Nat) (c:Nat):(b8w R p c).length=c:=a9e _ _ _ _
theorem c0r {m:Mat} {b:List Rat} {n c B:Nat} (hs:Shp n c m) (hm:HB B m) (hb:Go.Rep.BR B b):Go.Rep.BR (35^n*B) (b8w (a0N (a3f m b n) (c+1)).1 (a0N (a3f m b n) (c+1)).2 c):=c1m fun x hx=>by
 obtain⟨_,h2,_⟩:=a0Z (a2h (b:=b) hs);have h5:=b7S (b1v hs hm hb) (a2h hs);rw[b8T]at hx;rw[b1i h2 x hx];unfold b7F;split
 ·exact h5 _ _
 ·rw[a1p];exact h5.pos
theorem a7J {m:Mat} {i j:Nat} (hi:i<m.length) (hj:j<m[i].length):m[i][j]=ent m i j:=by
 unfold ent;rw[show m.getD i []=m[i]by simp[List.getD_eq_getElem?_getD,hi],List.getD_eq_getElem?_getD,List.getElem?_eq_getElem hj];rfl
theorem b4r {m:Mat} {n c:Nat} (h:Shp n c m) (hc:n=0->c=0):a0l m=c:=by
 by_cases hn:0<n
 ·have h0:0<m.length:=by rw[h.1];exact hn
  rw[a2g h0];exact h.2 _ (List.getElem_mem _)
 ·have:m= []:=List.eq_nil_of_length_eq_zero (by rw[h.1];omega)
  subst this;rw[hc (by omega)];rfl
end Go.Lin
namespace Go.Proofs.YtoibhmjjhgaimaaGreat
open Go.RowKit Go.Rep Go.Lim Go.Lin
theorem b1w {R:Mem->Value->Rat->Prop} (X:Nat->Bool) (w:World) (u:Value) (m:List (List Rat)) (hu:SlV (SlV R 3) 1 (mk X w) u m):Calls Tryz.prog 150 #[u] w (fun e w'=>w'=w/\e= .returned (.int .i64 (a0l m:Int))):=by
 obtain⟨ao,ca,rfl,hca,hsa⟩:=hu;have hha:=hsa.hd;by_cases h:0<m.length
 ·obtain⟨a1,c1,hX1,hc1,hcl1,hq1⟩:=hsa.row 0 h
  have k00:=hc1.out noY w (ExtX.refl _) rfl;have hc:=hid (a2g h);have hI:((m.length:Int)==0)=false:=a1S (by omega);go_enter Tryz.func150,Tryz.ntmps150
  go_wp2_with (with_reducible refine a0n a0o (by omega) (by assumption) ?_)
  go_ret
  exact⟨rfl,a0U (by rw[hc.out])⟩
 ·have hc:Hid (a0l m=0):=hid (by
   have:m= []:=List.eq_nil_of_length_eq_zero (by omega);subst this;rfl)
  have hI:((m.length:Int)==0)=true:=a7w (by omega);go_enter Tryz.func150,Tryz.ntmps150
  go_wp2_with (with_reducible refine a0n a0o (by omega) (by assumption) ?_)
  go_ret
  exact⟨rfl,a0U (by rw[hc.out];rfl)⟩
set_option maxRecDepth 100000 in
theorem b8U {R:Mem->Value->Rat->Prop} (hR:a4N R) (X:Nat->Bool) (w:World) (u:Value) (m:List (List Rat)) (hu:SlV (SlV R 3) 1 (mk X w) u m) (hl:m.length<=1099511627776):Calls Tryz.prog 148 #[u] w (a7A w (a1h m)):=by
 obtain⟨ao,ca,rfl,hca,hsa⟩:=hu;have hha:=hsa.hd;by_cases h96:96<m.length
 ·have hv:Hid (false=a1h m):=hid (by
   symm;cases hf:a1h m
   ·rfl
   ·have:=(a1A.1 hf).1;omega)
  have hI:(96:Int)<(m.length:Int):=by omega
  go_enter Tryz.func148,Tryz.ntmps148
  go_wp2_with fail
  go_ret
  exact⟨ExtX.refl _,a0p hv.out⟩
 ·have hI:¬(96:Int)<(m.length:Int):=by omega
  obtain⟨n,hn⟩:∃n,m.length=n:=⟨_,rfl⟩;have hn':=hid hn;have hn6:n<=96:=by omega
  rw[hn]at hha hI |-;clear hn hl h96 hca;go_enter Tryz.func148,Tryz.ntmps148
  go_wp2_with fail
  go_loopw [3] (fun c wr=>∃(i:Nat),c= .int .i64 i/\i<=n/\Hid (∀q,q<i->∀hq:q<m.length,1<=m[q].length/\m[q].length<=96/\m[q].length=a0l m)/\Ext w wr) (fun c _=>n - (intOf c).toNat)
  case atStart=>exact⟨0,rfl,Nat.zero_le _,hid (fun q hq=>by omega),ExtX.refl _⟩
  case round=>
   obtain⟨i,rfl,hi,hok,hE⟩:=hrel;by_cases hlt:i<n
   ·have hil:i<m.length:=by rw[hn'.out];exact hlt
    have h0:0<m.length:=by omega
    have hsr:=hsa.mono (SlV.mono hR 3) (a0m hE);obtain⟨a1,c1,hX1,hc1,hcl1,hq1⟩:=hsr.row i hil;obtain⟨a2,c2,hX2,hc2,hcl2,hq2⟩:=hsr.row 0 h0;have k00:=hc1.out noY wr (ExtX.refl _) rfl;have k10:=hc2.out noY wr (ExtX.refl _) rfl;have i1:∀W,(Instr.indexAt 25 (.slice ao n ca) (.int .i64 (i:Int))).run Tryz.prog W= .ok (.pointer (some (adr ao i))) W:=a0A a0o ao n ca .i64 i hha (by omega) rfl;have i0:∀W,(Instr.indexAt 25 (.slice ao n ca) (.int .i64 0)).run Tryz.prog W= .ok (.pointer (some (adr ao 0))) W:=a0A a0o ao n ca .i64 0 hha (by omega) rfl;have hcol:=a2g h0;have hno:=hid (a5s i hil);rw[<-hcol]at k10;obtain⟨x,hx⟩:∃x,m[i].length=x:=⟨_,rfl⟩;obtain⟨y,hy⟩:∃y,a0l m=y:=⟨_,rfl⟩;rw[hx]at k00 hno;rw[hy]at k10 hno;have hst:Hid (1<=x/\x<=96/\x=y->∀hq:i<m.length,1<=m[i].length/\m[i].length<=96/\m[i].length=a0l m):=hid fun h hq=>by rw[hx,hy];exact h
    clear hx hy hcol hc1 hc2 hq1 hq2 hcl1 hcl2 h0 hil;by_cases hx0:x=0
    ·have d0:decide ((x:Int)<1)=true:=decide_eq_true (by omega)
     have hv:=hid (hno.out (by omega));clear hx0 hno hst;go_wp2_with fail
     go_region
     all_goals
      clear k00 k10 i1 i0;go_wp2_with fail
      go_ret
      exact⟨hE.trans (ExtX.refl wr).drew,a0p hv.out⟩
    ·have d0:decide ((x:Int)<1)=false:=decide_eq_false (by omega)
     by_cases hx1:96<x
     ·have d1:decide ((96:Int)<(x:Int))=true:=decide_eq_true (by omega)
      have hv:=hid (hno.out (by omega));clear hx0 hno hst;go_wp2_with fail
      go_region
      all_goals
       clear k00 k10 i1 i0;go_wp2_with fail
       go_ret
       exact⟨hE.trans (ExtX.refl wr).drew,a0p hv.out⟩
     ·have d1:decide ((96:Int)<(x:Int))=false:=decide_eq_false (by omega)
      by_cases hxy:x=y
      ·have d2:((x:Int) !=(y:Int))=false:=a6k (by omega)
       have hst2:=hid (hst.out ⟨by omega,by omega,hxy⟩);clear hx0 hxy hno hst hx1;go_wp2_with fail
       go_region
       all_goals
        clear k00 k10 i1 i0;go_wp2_with fail
        go_roundw
        case rel=>exact⟨i+1,by go_num,by omega,hid (a3V hok.out hst2.out),hE.trans (ExtX.refl wr).drew⟩
        case measure=>simp[intOf];omega
      ·have d2:((x:Int) !=(y:Int))=true:=a5C (by omega)
       have hv:=hid (hno.out (by omega));clear hx0 hxy hno hst hx1;go_wp2_with fail
       go_region
       all_goals
        clear k00 k10 i1 i0;go_wp2_with fail
        go_ret
        exact⟨hE.trans (ExtX.refl wr).drew,a0p hv.out⟩
   ·have hv:Hid (true=a1h m):=hid (by
     symm;exact a1A.2 ⟨by rw[hn'.out];omega,fun q hq=>hok.out q (by rw[hn'.out]at hq;omega) hq⟩)
    go_wp2_with fail
    go_ret
    exact⟨hE,a0p hv.out⟩
end Go.Proofs.YtoibhmjjhgaimaaGreat
namespace Go.Rep
open Go.RowKit Go.Lim
section
variable {P:Program} {ops:Array Oper} {Q:Exit->Act->World->Prop} {rest:List Oper} {a:Act} {w:World}
variable {α:Type} {R:Mem->Value->α->Prop} {sz:Nat} {X:Nat->Bool} {base:Nat} {e:TypeId} {ao:Option Addr} {cap:Nat} {l:List α}
variable {d:Option Tmp} {ty:TypeId} {ps:String} {af:Array Edge}
theorem OL.run_copy {t by_:Nat} {z:Value} (T:SliceT P t e sz by_ z) (hR:Elem R sz) (h:OL R sz X base e w ao cap l) (sa:Option Addr) (ca:Nat) (us':List Value) (xs:List α) (hat:At w sa us') (hlen:us'.length=xs.length)
  (hxs:∀i (hi:i<us'.length) (hi':i<xs.length),R (mk (un X ao) w) us'[i] xs[i]) (hk:xs.length<=l.length) (h0:0<xs.length) (ty:TypeId):
  ∃w',(Builtin.copy_ #[t,t] ty #[.slice ao l.length cap, .slice sa xs.length ca]).run P w= .ok (goInt xs.length) w'/\OL R sz X base e w' ao cap (xs++l.drop xs.length)/\ExtX (ob ao) w w':=by
 obtain⟨i,hi,hz,hsz,hby⟩:=info_parts T.info;have hus':∀u∈us',u.cells.size=sz:=by
  intro v hv;obtain⟨i,hi,rfl⟩:=List.getElem_of_mem hv;exact hR.size _ _ _ (hxs i hi (by omega))
 have hone':∀u∈us',∀c∈a0g u,c.oneCell'=true:=by
  intro v hv;obtain⟨i,hi,rfl⟩:=List.getElem_of_mem hv;exact hR.one _ _ _ (hxs i hi (by omega))
 have hone2:∀v∈us'.flatMap a0g,v.oneCell'=true:=by
  intro c hc;obtain⟨v,hv,hcv⟩:=List.mem_flatMap.1 hc;exact hone' v hv c hcv
 obtain⟨sb,so,rfl⟩:=hat.1 (by omega);have hnews:∀j u,(us'.flatMap a0g)[j]? =some u->w.cell? ((⟨sb,so,none⟩:Addr).add j)=some u:=by
  intro j u hj;rw[<-a8b rfl];exact hat.2 j u hj
 have hnl:(us'.flatMap a0g).length=xs.length*sz:=by rw[a0O us' hus',hlen]
 have hform:=h.form;obtain⟨hx,us,h1,h2,h22,h3,h5⟩:=h;rcases hform with⟨rfl,rfl,rfl⟩|⟨g,cur,rfl,h6,h7,h8,h9,h10⟩
 ·simp at hk;subst hk;simp at h0
 have hfit:0+(us'.flatMap a0g).length<=cur.size:=by
  rw[Nat.zero_add,hnl,h10];exact Nat.mul_le_mul_right _ (by omega)
 have hld:=run_loadCells_list (P:=P) w ⟨sb,so,none⟩ (us'.flatMap a0g) hnews;have hst:=run_storeCells_at P g 0 e (us'.flatMap a0g) 0 cur w h7 (by simpa using hfit) hone2;have hE:ExtX (ob (some ⟨g,0,none⟩)) w (w.setRow g (cur.toList.take (0+0)++us'.flatMap a0g++cur.toList.drop (0+0+(us'.flatMap a0g).length)).toArray):=
  ⟨rfl,rfl,rfl,by simp,fun k _ hk=>setRow_other w g k _ (fun ek=>by subst ek;simp[ob]at hk)⟩
 have hmin:Nat.min xs.length l.length=xs.length:=Nat.min_eq_left hk;have hdl:∀u∈us'++us.drop xs.length,u.cells.size=sz:=by
  intro u hu;rcases List.mem_append.1 hu with hu|hu
  ·exact hus' u hu
  ·exact h2 u (List.mem_of_mem_drop hu)
 have hlen2:(us'++us.drop xs.length).length=(xs++l.drop xs.length).length:=by simp[hlen,h1]
 refine⟨_,?_,⟨hx,us'++us.drop xs.length,hlen2,hdl,?_,⟨?_, .inr ⟨g,cap,_,by simp,h6,setRow_heap w g cur _ e _ h7,by simp;omega,h9,?_,?_⟩⟩,?_⟩,hE⟩
 ·have hld2:(loadCells ⟨sb,so,none⟩ (xs.length*i.size)).run P w= .ok (us'.flatMap a0g).toArray w:=by rw[hsz,<-hnl];exact hld
  simp[Builtin.copy_,run_underlying T.und,Builtin.lenOf,Builtin.firstCells,sizeOf,typeInfo,hi,hmin,hld2,hst]
 ·intro u hu c hc
  rcases List.mem_append.1 hu with hu|hu
  ·exact hone' u hu c hc
  ·exact h22 u (List.mem_of_mem_drop hu) c hc
 ·rw[a0O _ hdl,hlen2]
 ·simp only[List.size_toArray,List.length_append,List.length_take,List.length_drop,Array.length_toList,h10,Nat.add_zero,Nat.zero_add,hnl]
  have:=Nat.mul_le_mul_right sz (show xs.length<=cap by omega);omega
 ·rcases h3.2 with⟨hv,_⟩|⟨g',c',cur',hv,_,h7',_,_,_,h11⟩
  ·simp at hv
  simp at hv;obtain⟨rfl,rfl⟩:=hv;rw[h7]at h7';obtain rfl:cur=cur':=by simpa using h7'
  have hfu:us.flatMap a0g=(us.take xs.length).flatMap a0g++(us.drop xs.length).flatMap a0g:=by
   rw[<-List.flatMap_append,List.take_append_drop]
  have hft:((us.take xs.length).flatMap a0g).length=xs.length*sz:=by
   rw[a0O _ (fun u hu=>h2 u (List.mem_of_mem_take hu))];simp[h1,Nat.min_eq_left hk]
  have hdr:(us.drop xs.length).flatMap a0g=(cur.toList.take (l.length*sz)).drop (xs.length*sz):=by
   rw[h11,hfu,<-hft,List.drop_left]
  rw[List.flatMap_append,hdr];simp only[Nat.zero_add,List.take_zero,List.nil_append,hnl,List.length_append,List.length_drop,Nat.add_sub_cancel' hk];rw[List.take_append,List.take_of_length_le (by rw[hnl];exact Nat.mul_le_mul_right _ hk),hnl,List.drop_take]
 ·intro j hj hj'
  have hle:Le (mk (un X (some ⟨g,0,none⟩)) w) (mk (un X (some ⟨g,0,none⟩)) _):=a3P hE (.inl rfl);by_cases hlt:j<us'.length
  ·simpa[List.getElem_append_left hlt,List.getElem_append_left (show j<xs.length by omega)]using hR.mono _ _ _ _ hle (hxs j hlt (by omega))
  ·have hj2:xs.length+(j - xs.length)<us.length:=by simp at hj;omega
   have:=hR.mono _ _ _ _ hle (h5 (xs.length+(j - xs.length)) hj2 (by omega));have e1:xs.length+(j - xs.length)=j:=by omega
   simpa[List.getElem_append_right (show us'.length<=j by omega),List.getElem_append_right (show xs.length<=j by omega),hlen,e1]using this
theorem b4s {t by_:Nat} {z:Value} {s x:Operand} {sa:Option Addr} {ca n k:Nat} (T:SliceT P t e sz by_ z) (hR:Elem R sz) (xs:List α) (hs:a.eval s= .slice ao n cap) (hn:l.length=n) (hx:a.eval x= .slice sa k ca) (hkx:xs.length=k) (h:OL R sz X base e w ao cap l)
  (hxs:Sl R sz (mk (un X ao) w) sa xs) (hk:k<=n) (h0:0<k)
  (K:∀w',OL R sz X base e w' ao cap (xs++l.drop k)->ExtX (ob ao) w w'->wpList P ops Q rest (a.put d (.int .i64 (k:Int))) w'):
  wpList P ops Q (⟨d, .call {callee:= .builtin .copy,args:=#[s,x],argTypes:=#[t,t]},ty,ps,af,none⟩::rest) a w:=by
 refine wpList_plain rfl fun K' hK'=>?_;subst hn;subst hkx;obtain⟨us,h1,h2,h3⟩:=hxs.at_ hR;obtain⟨w',hr,h2,h3⟩:=h.run_copy (P:=P) T hR sa ca us xs h2 h1 h3 hk h0 ty;unfold Oper.wp execOp;simp only[resolve,invoke,builtin,Sem.run_bind,Sem.run_pure,Result.andThen_ok,List.map_toArray,List.map_cons,List.map_nil,hs,hx,hr];exact hK' _ _ (K w' h2 h3)
end
end Go.Rep
namespace Go.Lin
def c0s (r c:Nat):Mat:=List.replicate r (List.replicate c 0)
theorem b6w (r c:Nat):(c0s r c).length=r:=List.length_replicate
theorem b6x {r c i:Nat} (h:i<(c0s r c).length):(c0s r c)[i]=List.replicate c 0:=List.getElem_replicate h
end Go.Lin
namespace Go.Proofs.YtoibhmjjhgaimaaGreat
open Go.RowKit Go.Rep Go.Lim Go.Lin
def b1x (X:Nat->Bool) (w:World) (S:Mat×List Nat) (c:Nat) (e:Ending) (w':World):Prop:=Ext w w'/\((c∈S.2/\e= .returned (.tuple #[.slice none 0 0, .int .i64 11]))\/(c∉S.2/\∃u,e= .returned (.tuple #[u, .int .i64 0])/\RC (mk X w') u (b8w S.1 S.2 c)))
set_option maxRecDepth 100000 in
set_option maxHeartbeats 1600000 in
theorem b6y (X:Nat->Bool) (w:World) (u v:Value) (m:List (List Rat)) (b:List Rat) (n c:Nat) (hX:HX X w) (hu:MV (mk X w) u m) (hv:RV (mk X w) v b) (hf:a1h m=true) (hnn:m.length=n) (hcc:a0l m=c) (hbl:b.length=n) (hT:a9C (a3f m b n) (c+1)):Calls Tryz.prog 156 #[u,v] w (b1x X w (a0N (a3f m b n) (c+1)) c):=by
 obtain⟨hsh,h96,hc96,hpos,_⟩:=a1W hf;rw[hnn,hcc]at hsh;rw[hnn]at h96 hpos;rw[hcc]at hc96 hpos;have hfo:=a4r X w u m hu (by omega);rw[hf]at hfo;have hcol:=a2M X w u m hu;rw[hcc]at hcol;have hsh':=hid hsh;have hnn':=hid hnn;have hcc':=hid hcc;have hbl':=hid hbl;have hWs:=hid (a2h (b:=b) hsh);have hwg:Hid (∀i (h:i<(a3f m b n).length) (hi:i<m.length) (hb:i<b.length),(a3f m b n)[i]=m[i]++[b[i]]):=hid fun i h hi hb=>b3I h hi hb;have hWc:0<n->a0l (a3f m b n)=c+1:=fun h=>c1f (a2h (b:=b) hsh) h;obtain⟨W,hW⟩:∃W,a3f m b n=W:=⟨_,rfl⟩;rw[hW]at hWs hT hwg hWc |-;have hTt:=hid (b3K hWs.out (a0l W) hWc hT);have hRc:=hid (b3J hWs.out (a0l W) hWc);have hWcs:Hid (Shp n (a0l W) W):=hid ⟨hWs.out.1,fun r hr=>by
  have:=List.length_pos_of_mem hr;rw[hWc (by rw[<-hWs.out.1];exact this)];exact hWs.out.2 r hr⟩
 have hWc9:Hid (a0l W<=900):=hid (by
  by_cases h0:0<n
  ·rw[hWc h0];omega
  ·have:W= []:=List.eq_nil_of_length_eq_zero (by rw[hWs.out.1];omega)
   subst this;exact Nat.zero_le _)
 obtain⟨ua,uca,rfl,huca,hua⟩:=hu;have hu:MV (mk X w) (.slice ua m.length uca) m:=⟨ua,uca,rfl,huca,hua⟩;obtain⟨va,vca,rfl,hvca,hva⟩:=hv;have hhv:=hva.hd;rw[hnn]at hfo hcol hu |-;rw[hbl]at hvca hhv |-;have hw2:wrap64 ((c:Int)+1)=((c+1:Nat):Int):=by rw[IntWalk.wrap64_in _ (by omega)];omega
 have hneq:((n:Int) !=(n:Int))=false:=a6k rfl;clear hf hnn hcc hsh huca hua hW hT hWc hbl;go_enter Tryz.func156,Tryz.ntmps156
 go_wp2_with fail
 refine hfo.mono ?_;rintro e w1 ⟨rfl,rfl⟩;go_wp2_with fail
 refine hcol.mono ?_;rintro e w2 ⟨rfl,rfl⟩;go_wp2_with fail
 refine(b1b X w2 n (c+1) hX (by omega) (by omega)).mono ?_;rintro e w3 ⟨hE3,ao,cap,hs,rfl,hM3⟩;rw[List.length_replicate];have hlen:Hid (hs.length=n):=hid (by rw[hM3.len];simp);have hhO:Hd ao n:=by have:=hM3.outer.hd;rw[hlen.out]at this;exact this
 have hX3:=hX.ext hE3;have hZ3:=hM3.hz hX3;have hu3:=hM3.old MV.mono hu hE3 (Nat.le_refl _) (fun _ _ h=>h);have hv3:=hva.mono QV.mono (fun a v h=>((a1g (X:=X) (Z:=mz X ao hs) hE3 (fun k _ hk=>by simp[noY]at hk) fun k hk hz=>by
  rcases a1K.1 hz with a|a
  ·exact a
  ·have:=(hM3.mb_block (a2t.2 a)).1;omega) a v h))
 obtain⟨V,hV⟩:∃V,c0s n (c+1)=V:=⟨_,rfl⟩;have hVl:Hid (V.length=n):=hid (by rw[<-hV];exact b6w _ _);have hVg:Hid (∀i (h:i<V.length),V[i]=List.replicate (c+1) 0):=hid fun i h=>by subst hV;exact b6x h
 have hWV:Hid (W.length=V.length):=hid (by rw[hVl.out];exact hWs.out.1)
 change MO X w2.heap.size _ _ w3 ao cap hs (c0s n (c+1))at hM3
 rw[hV,<-a5v W V]at hM3;have hco:=a4s (mz X ao hs) w3 _ m n c hZ3 hu3 hsh'.out hcc'.out (by omega) (by omega);clear hfo hcol hu hu3 hV;go_wp2_with fail
 refine hco.mono ?_;rintro e w4 ⟨hE4,bo,capb,hs4,rfl,hM4⟩;have hmc4:=hM4.mc;rw[hnn'.out]at hmc4 |-;have hM34:=hM3.ext0 hE4;have hE04:=hE3.trans hE4;obtain⟨ba,bca,heq,hbca,hsb⟩:=hmc4;simp only[Value.slice.injEq]at heq;obtain⟨rfl,hx9,rfl⟩:=heq;clear hx9;have hhb:=hsb.hd;rw[hnn'.out]at hhb;obtain⟨Z,hZe⟩:∃Z,mz X ao hs=Z:=⟨_,rfl⟩;have hZ':=hid hZe;rw[hZe]at hsb hZ3 hv3;have hv4:=hv3.mono QV.mono (a0m hE4);clear hv3;clear hco hM3 hM4 hZe;go_wp2_with fail
 go_loopw [33] (fun k wr=>∃(i:Nat),k= .int .i64 i/\i<=n/\MO X w2.heap.size 45 32 wr ao cap hs (mix W V i)/\Sl RC 1 (mk Z wr) bo m/\Sl QV 3 (mk Z wr) va b/\Ext w2 wr) (fun k _=>n - (intOf k).toNat)
 case atStart=>exact⟨0,rfl,Nat.zero_le _,hM34,hsb,hv4,hE04⟩
 case round=>
  obtain⟨i,rfl,hi,hM,hsb,hva,hE⟩:=hrel;by_cases hlt:i<n
  ·have him:i<m.length:=by rw[hnn'.out];exact hlt
   obtain⟨a1,c1,hX1,hc1,hcl1,hq1⟩:=hsb.row i him;have k00:=hc1.out noY wr (ExtX.refl _) rfl;have hxl:Hid (m[i].length=c):=hid (hsh'.out.2 _ (List.getElem_mem _));have hiV:i<V.length:=by rw[hVl.out];exact hlt
   have hiW:i<W.length:=by rw[hWV.out];exact hiV
   have hib:i<b.length:=by rw[hbl'.out];exact hlt
   have hWi:=hid (hwg.out i hiW him hib);have hVi:=hid (hVg.out i hiV);obtain⟨x,hx⟩:∃x,m[i]=x:=⟨_,rfl⟩;rw[hx]at k00 hcl1 hq1 hxl hWi;rw[hxl.out]at k00 hcl1;have hh1:Hd a1 c:=by have:=hq1.hd;rw[hxl.out]at this;exact this
   have hih:i<hs.length:=by rw[hlen.out];exact hlt
   have hmi:i<(mix W V i).length:=by rw[a2o hWV.out];exact hiW
   have hmg:Hid ((mix W V i)[i]=List.replicate (c+1) 0):=hid (by rw[a1X hWV.out,if_neg (by omega)];exact hVi.out);have hms:Hid ((mix W V i).set i (x++[b[i]])=mix W V (i+1)):=hid (by rw[<-hWi.out];exact a6P hWV.out hiW);obtain⟨a,na,cr,hhd⟩:∃a na cr,hs[i]=(a,na,cr):=⟨_,_,_,rfl⟩;have hna:na=c+1:=by
    have:=hM.rlen i hih hmi;rw[hhd,hmg.out,List.length_replicate]at this;exact this
   have hR:=hM.row i hih hmi;rw[hmg.out]at hR;simp only[hhd]at hR;have hz1:=fun k (hk:ob a k=true)=>hM.mz_sub hih k (by rw[hhd];exact hk);have hsp:=fun k (hk:ob a k=true)=>hM.sep i hih k (by rw[hhd];exact hk);have hun:Hid (un (cut (mz X ao hs) a) a=Z):=hid (by rw[a6O hz1];exact hZ'.out);have hda:Hd a na:=by have:=hR.hd;rw[List.length_replicate,<-hna]at this;exact this
   have hna':=hid hna;have y1:wr.cell? (adr ao i)=some (.slice a na cr):=by
    have:=(hM.hdr i hih).1;rw[hhd]at this;exact this
   have haob:Hid (ob a (adr ao i).block=false):=hid (by
    cases hb:ob a (adr ao i).block
    ·rfl
    ·have h1:=(hsp _ hb).2
     obtain⟨b0,o0,rfl⟩:=hhO (by omega);simp[ob,adr]at h1)
   have hhd':=hid hhd;have hRl:Hid ((List.replicate (c+1) (0:Rat)).length=na):=hid (by rw[hna];exact List.length_replicate);have hqz:Sl QC 3 (mk (un (cut (mz X ao hs) a) a) wr) a1 x:=by rw[hun.out];exact hq1
   clear hc1 hx hhd hna;obtain⟨wo,hwo⟩:∃wo,wo=wr:=⟨_,rfl⟩;subst hwo;go_wp2_with (first|(with_reducible refine a0n a0o (by omega) (by assumption) ?_)|(refine b4s a0J QC.elem x rfl hRl.out rfl hxl.out hR hqz (by rw[hna'.out];omega) (by have:=hpos (by omega);omega) ?_;intro w5 hO5 hE5;have y5:=hE5.cellY y1 haob.out))
   have hxi:x++List.drop c (List.replicate (c+1) (0:Rat))=x++[0]:=by rw[List.drop_replicate,show c+1 - c=1 by omega];rfl
   rw[hxi]at hO5;have hzz:∀k,ob a k=true->Z k=true:=fun k hk=>by rw[<-hZ'.out];exact hz1 k hk
   have hxr:Hid ((x++[(0:Rat)]).length=na):=hid (by rw[List.length_append,hxl.out,hna'.out];rfl);have hM5:=hM.upd hih (l:=x++[(0:Rat)]) (show ExtX (ob hs[i].1) wo w5 by rw[hhd'.out];exact hE5) (fun hi'=>by rw[hmg.out,List.length_replicate,hxr.out,hna'.out]) (by rw[hhd'.out];exact hO5);have hsb5:=hsb.mono RC.mono (a0u hE5 hzz);have hE05:=hM.ext_from hE (Nat.le_refl _) (ExtX.row hih (show ExtX (ob hs[i].1) wo w5 by rw[hhd'.out];exact hE5));have hput:Hid ((x++[(0:Rat)]).set c b[i]=x++[b[i]]):=hid (by rw[List.set_append_right _ _ (by rw[hxl.out];exact Nat.le_refl _),hxl.out,Nat.sub_self];rfl);have hni:c<(x++[(0:Rat)]).length:=by rw[hxr.out,hna'.out];omega
   have hZ5:HX Z w5:=by
    have h1:=hM5.hz (hX.ext hE05);rw[hZ'.out]at h1;exact h1
   have hEd:Ext w5 w5.drew:=(ExtX.refl w5).drew;obtain⟨g4,o4,s4,a4,n4,c4,d4,k4,e4,hg4,hX4,hc4,hq4⟩:=hva.rat QV.shaped i hib;have hab4:Hid (ob a g4=false):=hid (by
    cases hb:ob a g4
    ·rfl
    ·have:=hzz g4 hb;rw[hX4]at this;simp at this)
   have hv5:=hva.mono QV.mono (a0u hE5 hzz);have hq5:QV (mk Z w5.drew) (.agg #[.bool s4, .slice a4 n4 c4, .slice d4 k4 e4]) b[i]:=mkx QV.mono (QV.mono _ _ _ _ (a0u hE5 hzz) hq4) hEd;obtain⟨v,hv⟩:∃v,b[i]=v:=⟨_,rfl⟩;rw[hv]at hput hq5 hms;obtain⟨L,hL⟩:∃L,x++[(0:Rat)]=L:=⟨_,rfl⟩;rw[hL]at hO5 hM5 hxr hput hni;obtain⟨L2,hL2⟩:∃L2,x++[v]=L2:=⟨_,rfl⟩;rw[hL2]at hput hms;have hL2l:Hid (L2.length=L.length):=hid (by rw[<-hput.out,List.length_set]);obtain⟨g,o,hg⟩:∃g o,adr a (c*3)=⟨g,o,none⟩:=⟨_,_,rfl⟩;have i2:∀W,(Instr.indexAt 45 (.slice a na cr) (.int .i64 (c:Int))).run Tryz.prog W= .ok (.pointer (some ⟨g,o,none⟩)) W:=by
    rw[<-hg];exact a0h a0J a na cr .i64 c hda (by rw[hna'.out];omega)
   have i3:∀W,(Instr.indexAt 45 (.slice va n vca) (.int .i64 (i:Int))).run Tryz.prog W= .ok (.pointer (some ⟨g4,o4,none⟩)) W:=by
    rw[<-hg4];exact a0h a0J va n vca .i64 i hhv (by omega)
   have i1:∀W,(Instr.indexAt 25 (.slice ao n cap) (.int .i64 (i:Int))).run Tryz.prog W= .ok (.pointer (some (adr ao i))) W:=a0A a0o ao n cap .i64 i hhO (by omega) rfl;have hg':=hid hg;have hS:Hid (∀Y W',ExtX Y w5.drew W'->Y (adr ao i).block=false->Y g4=false->W'.cell? (adr ao i)=some (.slice a na cr)/\W'.cell? ⟨g4,o4,none⟩=some (.bool s4)/\W'.cell? ⟨g4,o4+1,none⟩=some (.slice a4 n4 c4)/\W'.cell? ⟨g4,o4+2,none⟩=some (.slice d4 k4 e4)):=hid fun Y W' h hy1 hy2=>by
    have p:=hc4.out (ob a) w5.drew (hE5.trans (ExtX.of hEd)) hab4.out;exact⟨h.cellY (hEd.cell y5) hy1,h.cellY p.1 hy2,h.cellY p.2.1 hy2,h.cellY p.2.2 hy2⟩
   obtain⟨k20,k30,k31,k32⟩:=hS.out noY w5.drew (ExtX.refl _) rfl rfl;have hO5d:=hO5.ext0 QC.elem hEd;have h00:QV (mk Z w5.drew) (.agg #[.bool false, .slice none 0 0, .slice none 0 0]) 0:=(QC.zero _).qv (by rw[a1p];decide);have qf:=b9Z Z w5.drew _ _ _ 0 (hZ5.ext hEd) hq5 h00;rw[Rat.add_zero]at qf;have hun':Hid (un (cut (mz X ao hs) a) a=Z):=hun;clear hxi hL hL2 hg hg4 hc4 hq4 hv y1 y5 hR hqz hq1 k00 hM hsb hva;go_region_held3 (fun w'=>w'.cell? (adr ao i)=some (.slice a na cr)/\w'.cell? ⟨g4,o4,none⟩=some (.bool s4)/\w'.cell? ⟨g4,o4+1,none⟩=some (.slice a4 n4 c4)/\w'.cell? ⟨g4,o4+2,none⟩=some (.slice d4 k4 e4))
    (first|exact hS.out noY _ t1 rfl rfl|exact hS.out (ob a) _ ((ExtX.of t1).trans hset.2) haob.out hab4.out|go_keep)
    ((go_at_call 112;(with_reducible refine qf.mono ?_);rintro ee w6 ⟨t1,u6,rfl,hu6⟩;obtain⟨s6,a6,n6,c6,d6,k6,e6,rfl⟩:=hu6.shape;have hO6:=hO5d.ext0 QC.elem t1;obtain⟨_,v0,v1,v2,_,⟨g0,f0⟩,⟨g1,f1⟩,⟨g2,f2⟩,_⟩:=hO6.cell3 c hni hg'.out;have hset:=hO6.set3 a5N QC.elem c hni hg'.out (v0:= .bool s6) (v1:= .slice a6 n6 c6) (v2:= .slice d6 k6 e6) (x:=v) (by rw[hun'.out];exact hu6)))
   obtain⟨q1,q2⟩:=hset;rw[hput.out]at q1;obtain⟨w8,hw8⟩:∃w8,((w6.setCell ⟨g,o,none⟩ (.bool s6)).setCell ⟨g,o+1,none⟩ (.slice a6 n6 c6)).setCell ⟨g,o+2,none⟩ (.slice d6 k6 e6)=w8:=⟨_,rfl⟩;rw[hw8]at q1 q2 |-;have q2':ExtX (ob hs[i].1) w6 w8:=by rw[hhd'.out];exact q2
   have hM6:=hM5.ext0 (hEd.trans t1);have hM7:=hM6.upd hih (l:=L2) q2' (fun hi'=>by rw[List.getElem_set_self];exact hL2l.out) (by rw[hhd'.out];exact q1);rw[List.set_set,hms.out]at hM7;have hs8:=(hsb5.mono RC.mono (a0m (hEd.trans t1))).mono RC.mono (a0u q2 hzz);have hv8:=(hv5.mono QV.mono (a0m (hEd.trans t1))).mono QV.mono (a0u q2 hzz);have hE8:=hM6.ext_from (hE05.trans (hEd.trans t1)) (Nat.le_refl _) (ExtX.row hih q2');clear k20 k30 k31 k32 g0 g1 g2 f0 f1 f2 i1 i2 i3 hw8;go_wp2_with fail
   go_roundw
   case rel=>exact⟨i+1,by go_num,by omega,hM7,hs8,hv8,hE8⟩
   case measure=>simp[intOf];omega
  ·have hin:i=n:=by omega
   subst hin;rw[a5w (by rw[hWs.out.1];exact Nat.le_refl _) (by rw[hVl.out];exact Nat.le_refl _)]at hM;have hXr:=hX.ext hE;have hZr:=hM.hz hXr;obtain⟨wo,hwo⟩:∃wo,wo=wr:=⟨_,rfl⟩;subst hwo;go_wp2_with ((with_reducible show wpList _ _ _ (⟨_, .makeSlice _ _ _,_,_,_,_⟩::_) _ _);refine a1F (R:=QC) a0J QC.elem (0:Rat) (fun _=>QC.zero _) (mz X ao hs) hZr wo.heap.size (Nat.le_refl _) c rfl rfl rfl (by omega) (by omega) ?_;intro oo w5 hO5 hE5)
   have hw2o:=hE.size;have hob:=fun k (hk:ob oo k=true)=>hO5.block hk;have hoX:∀k,ob oo k=true->X k=false:=fun k hk=>by
    cases hx:X k
    ·rfl
    ·have:=(hob k hk).1;have:=hXr k hx;omega
   have hM5:MO (un X oo) w2.heap.size 45 32 w5 ao cap hs W:=hM.ext hE5 (fun k _ hk=>by simp[noY]at hk) (fun k hk hx=>by
    cases hb:ob oo k
    ·simpa[un,hb]using hx
    ·have:=(hob k hb).1;omega)
   have hX5:HX (un X oo) w5:=fun k hk=>by
    by_cases hx:X k=true
    ·exact hXr.ext hE5 k hx
    ·exact(hob k (by simpa[un,hx]using hk)).2
   have hE05:=hE.trans hE5;have hmr:=a6X (un X oo) w2.heap.size w5 ao cap i (a0l W) hs W hX5 hM5 hWcs.out rfl (by omega) hWc9.out hTt.out;rw[hRc.out]at hmr;have hok:=a0Z hWs.out;obtain⟨⟨R,p⟩,hRp⟩:∃S,a0N W (c+1)=S:=⟨_,rfl⟩;rw[hRp]at hmr hok;have hRp':=hid hRp
   dsimp only at hok
   have hRs:=hid hok.1;have hRr:=hid hok.2.1;have hob':=hid hob;have hoX':=hid hoX;have hXr':=hid hXr;obtain⟨pl,hpl⟩:∃pl,p.length=pl:=⟨_,rfl⟩;have hpl':=hid hpl;have hpn:pl<=i:=by have:=hok.2.1.le;omega
   clear hok hM hM34 hsb hva hRp hob hoX hXr hX5;refine hmr.mono ?_;rintro ee w7 ⟨hE7,po,pc,hs',rfl,hmb,hM7,hP7⟩
   dsimp only at hM7 hP7 |-
   rw[hpl];have hE07:=hM5.ext_from hE05 (Nat.le_refl _) hE7;have hlen2:=hid (hM7.len.trans hRs.out.1);have hdP:Hd po pl:=by have:=hP7.hd;rw[hpl]at this;exact this
   have hpb:=hid (fun k (hk:ob po k=true)=>hP7.block hk);have hdO:Hd oo c:=by have:=hO5.hd;rw[List.length_replicate]at this;exact this
   obtain⟨M,hMe⟩:∃M,mz (un (un X oo) po) ao hs'=M:=⟨_,rfl⟩;have hM':=hid hMe;have hO7:OL QC 3 (cut M oo) wo.heap.size 32 w7 oo c (sN R p c 0):=hO5.ext QC.elem hE7 (fun k _ hk=>a1K.2 (.inr (a2t.1 hk))) (fun k hk hz=>by
    obtain⟨h1,h2⟩:=b1a hz;rw[<-hMe]at h1;rcases a1K.1 h1 with h|h
    ·by_cases hx:X k=true
     ·exact a1K.2 (.inl hx)
     ·have:ob po k=true:=by simpa[un,hx,h2]using h
      have:=(hpb.out k this).1;omega
    ·have h3:mb ao hs' k=true:=a2t.2 h
     rw[hmb]at h3;exact a1K.2 (.inr (a2t.1 h3)))
   have hoM:Hid (∀k,ob oo k=true->M k=true):=hid fun k hk=>by rw[<-hMe];exact a1K.2 (.inl (a0v (a0y hk)))
   clear hmr hM5 hO5 hmb hMe hpl;go_wp2_with fail
   go_loopw [62] (fun k wr=>∃(j:Nat),k= .int .i64 j/\j<=pl/\MO (un (un X oo) po) w2.heap.size 45 32 wr ao cap hs' R/\OL QC 3 (cut M oo) wo.heap.size 32 wr oo c (sN R p c j)/\OL (a0a .i64) 1 (mz (un X oo) ao hs) w5.heap.size 3 wr po pc p/\Hid (∀k (hk:k<p.length),k<j->p[k]≠c)/\Ext w2 wr) (fun k _=>pl - (intOf k).toNat)
   case atStart=>exact⟨0,rfl,Nat.zero_le _,hM7,hO7,hP7,hid (fun k _ h=>by omega),hE07⟩
   case round=>
    obtain⟨j,rfl,hj,hM,hO,hP,hne,hE⟩:=hrel;by_cases hlj:j<pl
    ·have hjp:j<p.length:=by rw[hpl'.out];exact hlj
     have hcl:=(hP.sl (a0a.elem _)).nat j hjp;have hpc1:Hid (p[j]<c+1):=hid (hRr.out.lt j hjp);have hgd:Hid (p.getD j 0=p[j]):=hid (by simp[List.getD_eq_getElem?_getD,hjp]);have hmem:Hid (p[j]∈p):=hid (List.getElem_mem _);obtain⟨q,hq⟩:∃q,p[j]=q:=⟨_,rfl⟩;rw[hq]at hcl hpc1 hgd hmem;have hq':=hid hq;clear hq;by_cases hqc:q=c
     ·have hb:((q:Int)==(c:Int))=true:=a7w (by omega)
      have hmem2:Hid (c∈p):=hid (hqc▸hmem.out);clear hqc;go_wp2_with (with_reducible refine a0n a1G (by omega) (by assumption) ?_)
      go_ret2
      unfold b1x;rw[hRp'.out];exact⟨hE, .inl ⟨hmem2.out,rfl⟩⟩
     ·have hb:((q:Int)==(c:Int))=false:=a1S (by omega)
      have hqc1:q<c:=by have:=hpc1.out;omega
      have hne2:Hid (∀k (hk:k<p.length),k<j+1->p[k]≠c):=hid fun k hk hkj=>by
       by_cases h:k=j
       ·subst h;rw[hq'.out];exact hqc
       ·exact hne.out k hk (by omega)
      have hjh:j<hs'.length:=by rw[hlen2.out];omega
      have hjR:j<R.length:=by rw[hRs.out.1];omega
      have hrl:=hid (hRs.out.2 R[j] (List.getElem_mem _));obtain⟨a,na,cr,hhd⟩:∃a na cr,hs'[j]=(a,na,cr):=⟨_,_,_,rfl⟩;have hna:na=c+1:=by
       have:=hM.rlen j hjh hjR;rw[hhd,hrl.out]at this;exact this
      have hR:=hM.row j hjh hjR;simp only[hhd]at hR;have hz1:=fun k (hk:ob a k=true)=>hM.mz_sub hjh k (by rw[hhd];exact hk);have hun:Hid (un (cut (mz (un (un X oo) po) ao hs') a) a=M):=hid (by rw[a6O hz1];exact hM'.out);have hda:Hd a na:=by have:=hR.hd;rw[hrl.out,<-hna]at this;exact this
      have y1:wr.cell? (adr ao j)=some (.slice a na cr):=by
       have:=(hM.hdr j hjh).1;rw[hhd]at this;exact this
      have hcR:c<R[j].length:=by rw[hrl.out];omega
      have hev:Hid (R[j][c]=ent R j c):=hid (by unfold ent;rw[a2p hjR];simp[List.getD_eq_getElem?_getD,hcR]);have hunO:Hid (un (cut M oo) oo=M):=hid (a6O hoM.out);have hqO:q<(sN R p c j).length:=by rw[a9e];exact hqc1
      have hsn:Hid ((sN R p c j).set q (ent R j c)=sN R p c (j+1)):=hid (by rw[<-hgd.out];rfl);have hna':=hid hna;have hcna:c<na:=by omega
      clear hhd hna hqc;go_wp2_with (first|(with_reducible refine a0n a1G (by omega) (by assumption) ?_)|(with_reducible refine a0n a0o (by omega) (by assumption) ?_)|(with_reducible refine a1E a0J (by omega) (by assumption) ?_)|((with_reducible show wpList _ _ _ (⟨_, .load 32 _,_,_,_,_⟩::_) _ _);refine a5x a0w c hR hcR rfl (by simp) QC.agg ?_;intro u6 hu6;rw[hev.out,hun.out]at hu6;obtain⟨s6,a6,n6,c6,d6,k6,e6,rfl⟩:=hu6.shape)|((with_reducible show wpList _ _ _ (⟨_, .store 32 _ _,_,_,_,_⟩::_) _ _);refine a1O a5N QC.elem q rfl (by simp) hO hqO _ (ent R j c) rfl (by rw[hunO.out];exact hu6) ?_;intro w8 hO8 hE8))
      rw[hsn.out]at hO8;have hM8:=hM.ext (X':=un (un X oo) po) hE8 (fun k _ hk=>a0v (a0y hk)) (fun _ _ h=>h);have hP8:=hP.frame (a0a.pure _) hE8 (fun k hk=>by
       cases hb:ob oo k
       ·rfl
       ·have:=(hpb.out k hk).1;have:=(hob'.out k hb).2;omega) hP.1
      have hE9:=hE.then_ hE8 fun k hk _=>by
       cases hb:ob oo k
       ·rfl
       ·have:=(hob'.out k hb).1;omega
      clear y1 hcl;go_roundw
      case rel=>exact⟨j+1,by go_num,by omega,hM8,hO8,hP8,hne2,hE9⟩
      case measure=>simp[intOf];omega
    ·have hjl:j=pl:=by omega
     subst hjl;have hnp:c∉p:=fun hm=>by
      obtain⟨k,hk,hkc⟩:=List.getElem_of_mem hm;exact hne.out k hk (by rw[<-hpl'.out];exact hk) hkc
     have hs:=(hO.sl QC.elem).mono QC.mono (a1U (X:=X) fun k _ hk=>a5t (by rw[<-hM'.out];exact a1K.2 (.inl (a0v (a0v hk)))) (by
      cases hb:ob oo k
      ·rfl
      ·have:=hoX'.out k hb;rw[hk]at this;simp at this))
     have hlc:=hO.lenCap;go_wp2_with fail
     go_ret2
     rw[<-hpl'.out]at hs hlc;unfold b1x;rw[hRp'.out];exact⟨hE, .inr ⟨hnp, .slice oo c c,rfl,oo,c,by show Value.slice oo c c=Value.slice oo (sN R p c p.length).length c;rw[a9e],hlc,hs⟩⟩
end Go.Proofs.YtoibhmjjhgaimaaGreat
