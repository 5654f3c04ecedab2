/- Arguments, opened: made.Data. Conditions: none. reference 13: SameMoments of equal moments. Conditions: numbers of few digits. A drawn region: two lists are copied and lengthened by an element made before, one behind the other, a box may be made anywhere: one proof per operation. Conditions: none. Facts of the whole program that each row asks for. Conditions: none. Two lists copied and lengthened in a drawn region: what holds of the memory on the way. Conditions: none. -/
import Derived.Test.YtkddecjkfdogiaaGreatLkR
import Derived.Lib.SmallJoins
import Derived.Test.YtkddecjkfdogiaaGreatRows
import Derived.WalkKit
import Derived.JoinedOf
namespace Go.Proofs.YtkddecjkfdogiaaGreat
open Go.ChangeShapes Go.WideShapes Go.ChangeAt Go.RowKit Go.Rep Go.Deep Go.Lim
section
variable {H:Type} {enc:TypeId×Value->H} {w:World} {base:Nat} {spare:Nat->Bool} {held:Bool}
theorem a9v {l:List Value} (h:l.length=4):∃a b c d,l= [a,b,c,d]:=by
 match l,h with
 | [a,b,c,d],_=>exact⟨a,b,c,d,rfl⟩
theorem b4n {fuel:Nat} {cs:List Value} {x:DataW H×List MemPlace} (hl:cs.length=4) (h:DataW.trod enc Tryz.prog w base spare held fuel 69 cs=some x):
  ∃(N K:Int) (ones:Bool) (a:Option Addr) (l:List Int) (cap:Nat),cs= [.int .i64 N, .int .i64 K, .bool ones, .slice a l.length cap]/\l.length<=cap/\Sl (a1P .i64) 1 (mk noY w) a l/\∀x∈l,-9223372036854775808<=x/\x<=9223372036854775807:=by
 obtain⟨y0,y1,y2,y3,n,_,_,h0,h1,h2,h3⟩:=Go.Joins.trod_struct4 Tryz.underlying69 h;obtain⟨c0,c1,c2,c3,rfl⟩:=a9v hl;have e1:Tryz.prog.cellsOf 3=1:=by kernel_rfl
 have e2:Tryz.prog.cellsOf 4=1:=by kernel_rfl
 have e3:Tryz.prog.cellsOf 22=1:=by kernel_rfl
 have g0:DataW.trod enc Tryz.prog w base spare held n 3 (([c0,c1,c2,c3].drop 0).take (Tryz.prog.cellsOf 3))=some y0:=h0;have g1:DataW.trod enc Tryz.prog w base spare held n 3 (([c0,c1,c2,c3].drop 1).take (Tryz.prog.cellsOf 3))=some y1:=h1;have g2:DataW.trod enc Tryz.prog w base spare held n 4 (([c0,c1,c2,c3].drop 2).take (Tryz.prog.cellsOf 4))=some y2:=h2;have g3:DataW.trod enc Tryz.prog w base spare held n 22 (([c0,c1,c2,c3].drop 3).take (Tryz.prog.cellsOf 22))=some y3:=h3;rw[e1]at g0 g1;rw[e2]at g2;rw[e3]at g3;obtain⟨N,hN,_,_⟩:=DataW.trod_int Tryz.underlying3 g0;obtain⟨K,hK,_,_⟩:=DataW.trod_int Tryz.underlying3 g1;obtain⟨b,hb,_⟩:=DataW.trod_bool Tryz.underlying4 g2;obtain⟨a,l,cap,hs,q1,_,q3,q4⟩:=b0T g3;have hN2:c0= .int .i64 N:=by simpa using hN
 have hK2:c1= .int .i64 K:=by simpa using hK
 have hb2:c2= .bool b:=by simpa using hb
 clear hN hK hb;subst hN2 hK2 hb2 hs;exact⟨N,K,b,a,l,cap,rfl,q1,q3,q4⟩
set_option maxRecDepth 100000 in
theorem b4o {r:Reach} {b0:Nat} {v:Value} {d:DataW H} {ps:List MemPlace} (hval:Value.okWide Tryz.prog w r b0 69 v) (h:DataW.Trod enc Tryz.prog w base spare held 69 v d ps):
  ∃(N K:Int) (ones:Bool) (a:Option Addr) (l:List Int) (cap:Nat),v= .agg #[.int .i64 N, .int .i64 K, .bool ones, .slice a l.length cap]/\l.length<=cap/\Sl (a1P .i64) 1 (mk noY w) a l/\∀x∈l,-9223372036854775808<=x/\x<=9223372036854775807:=by
 obtain⟨cs,rfl,hcs⟩:=okWide_struct Tryz.underlying69 hval;obtain⟨fuel,g⟩:=h;have e0:Tryz.prog.cellsOf 69=4:=by kernel_rfl
 rw[e0]at hcs;have g2:DataW.trod enc Tryz.prog w base spare held fuel 69 cs.toList=some (d,ps):=by simpa only[Value.cells]using g
 obtain⟨N,K,ones,a,l,cap,he,h1,h2,h3⟩:=b4n (cs:=cs.toList) (by rw[Array.length_toList];exact hcs) g2;have he:cs.toList= [.int .i64 N, .int .i64 K, .bool ones, .slice a l.length cap]:=he;exact⟨N,K,ones,a,l,cap,congrArg Value.agg (Array.toList_inj.1 he),h1,h2,h3⟩
end
end Go.Proofs.YtkddecjkfdogiaaGreat
namespace Go.Proofs.YtkddecjkfdogiaaGreat
open Go.RowKit Go.Rep Go.Lim Go.Lin
set_option maxRecDepth 100000 in
set_option maxHeartbeats 1600000 in
theorem a8Q (X:Nat->Bool) (w:World) (u v:Value) (m:Mom) (hu:a2x (mk X w) u m) (hv:a2x (mk X w) v m) (hB:BMo 68719476736 m) (hla:m.xx.length<=1099511627776) (hrl:∀r∈m.xx,r.length<=1099511627776) (hly:m.xy.length<=1099511627776):
  Calls Tryz.prog 53 #[u,v] w (a9V w true):=by
 obtain⟨xo,xl,xc,yo,yl,yc,s,a,n,c,d,k,e,rfl,h1,h2,h3⟩:=hu;obtain⟨xo2,xl2,xc2,yo2,yl2,yc2,s2,a2,n2,c2,d2,k2,e2,rfl,g1,g2,g3⟩:=hv;obtain⟨N,hN⟩:∃N,m.n=N:=⟨_,rfl⟩;rw[hN];obtain⟨W,hW,hE,b0,b1,hz⟩:=a1Y w #[.int .i64 N, .slice xo xl xc, .slice yo yl yc, .bool s, .slice a n c, .slice d k e] #[.int .i64 N, .slice xo2 xl2 xc2, .slice yo2 yl2 yc2, .bool s2, .slice a2 n2 c2, .slice d2 k2 e2] 83 83;obtain⟨b,hb⟩:∃b,w.heap.size=b:=⟨_,rfl⟩;rw[hb]at b0 b1;have hls:=hid fun w' (h:Ext w w')=>a7O X w' _ _ _ _ (mkx MC.mono h1 h) (mkx MC.mono g1 h) hB.1 hla hrl;have hl:=hid fun w' (h:Ext w w')=>a3D X w' _ _ _ _ (mkx RC.mono h2 h) (mkx RC.mono g2 h) hB.2.1 hly;have hs:=hid fun w' (h:Ext w w')=>a8N X w' _ _ _ _ (mkx QC.mono h3 h) (mkx QC.mono g3 h) hB.2.2;simp only[decide_true]at hls hl hs;clear hN hB hla hrl hly h1 h2 h3 g1 g2 g3;have p00:=b0.cell 0 rfl;have p10:=b1.cell 0 rfl;have p01:=b0.cell 1 rfl;have p11:=b1.cell 1 rfl;go_enter Tryz.func53,Tryz.ntmps53
 go_wp2_with fail
 refine(hls.out W hE).mono ?_;rintro ee w1 ⟨e1,rfl⟩;have b2:=b0.ext0 e1;have b3:=b1.ext0 e1;have hE1:=hE.trans e1;have p02:=b2.cell 2 rfl;have p12:=b3.cell 2 rfl;clear p00 p10 p01 p11 hls;go_wp2_with fail
 refine(hl.out w1 hE1).mono ?_;rintro ee w2 ⟨e2,rfl⟩;have b4:=b2.ext0 e2;have b5:=b3.ext0 e2;have hE2:=hE1.trans e2;have p03:=b4.cell 3 rfl;have p04:=b4.cell 4 rfl;have p05:=b4.cell 5 rfl;have p13:=b5.cell 3 rfl;have p14:=b5.cell 4 rfl;have p15:=b5.cell 5 rfl;clear p02 p12 hl;go_wp2_with fail
 refine(hs.out w2 hE2).mono ?_;rintro ee w3 ⟨e3,rfl⟩;clear p03 p04 p05 p13 p14 p15 hs;go_wp2_with fail
 go_ret
 exact⟨hE2.trans e3,rfl⟩
end Go.Proofs.YtkddecjkfdogiaaGreat
namespace Go
section
variable {P:Program} {ops:Array Oper} {Q:Exit->Act->World->Prop} {md:Region.Mode} {S:World->Prop} {n:Nat}
def b4t (p:Nat) (b3 b8 b14:Bool):Array Bool:=#[true,decide (1<=p),true,b3,decide (2<=p),true,decide (3<=p),true,b8,decide (4<=p),false,false,false,false,b14,false,false]
def a7S (p:Nat) (b3 b8 b14:Bool) (i:Nat):Bool:=
 (i==1&&p==0)||(i==3&&(!b3&&decide (p<=1)))||(i==4&&(p==1&&b3))||(i==6&&p==2)||(i==8&&(!b8&&decide (p<=3)))||(i==9&&(p==3&&b8))||(i==14&& !b14)
def a6u (md:Region.Mode) (ops:Array Oper):Bool:=
 [0,1,2,3].all fun p=>[true,false].all fun b3=>[true,false].all fun b8=>[true,false].all fun b14=>
  (decide (2<=p)&& !b3)||(!(Region.ready md ops (b4t p b3 b8 b14)).isEmpty&&(Region.ready md ops (b4t p b3 b8 b14)).all fun i=>a7S p b3 b8 b14 i)
theorem a6v (h:a6u md ops=true) {p:Nat} (hp:p<4) {b3 b8 b14:Bool} (h3:2<=p->b3=true):
  Region.ready md ops (b4t p b3 b8 b14)≠[]/\∀i∈Region.ready md ops (b4t p b3 b8 b14),a7S p b3 b8 b14 i=true:=by
 unfold a6u at h;have hp':p∈[0,1,2,3]:=by simp;omega
 have hb:∀b:Bool,b∈[true,false]:=by decide
 have h1:=List.all_eq_true.1 (List.all_eq_true.1 (List.all_eq_true.1 (List.all_eq_true.1 h p hp') b3 (hb _)) b8 (hb _)) b14 (hb _);rw[Bool.or_eq_true]at h1;rcases h1 with h1|h1
 ·obtain⟨h1,h2⟩:=(Bool.and_eq_true _ _).mp h1
  have:=h3 (of_decide_eq_true h1);rw[this]at h2;cases h2
 ·obtain⟨h1,h2⟩:=(Bool.and_eq_true _ _).mp h1
  exact⟨fun h0=>(by rw[h0]at h1;cases h1),fun i hi=>List.all_eq_true.1 h2 i hi⟩
theorem a1O {i:Nat} {o:Oper} {K:Act->World->Prop} {a:Act} {w:World} (ho:ops[i]? =some o)
  (h:∀K':Act->World->Prop,Shut (∀a w,K a w->K' a w)->if Region.wanted o (yielded ops a.tmps)=true then Oper.wp P o a w K' Q else K' (a.put o.dst undef) w):wpOp P ops Q i K a w:=wpOp_step ho fun K' hK=>h K' hK
theorem a9w {I:Nat->Bool->Bool->Bool->Act->World->Prop} (hops:a6u md ops=true)
  (h1:∀b3 b8 b14 a w,I 0 b3 b8 b14 a w->wpOp P ops Q 1 (fun a' w'=>S w'/\I 1 b3 b8 b14 a' w') a w)
  (h3:∀p b8 b14 a w,p<=1->I p false b8 b14 a w->wpOp P ops Q 3 (fun a' w'=>S w'/\I p true b8 b14 a' w') a w)
  (h4:∀b8 b14 a w,I 1 true b8 b14 a w->wpOp P ops Q 4 (fun a' w'=>S w'/\I 2 true b8 b14 a' w') a w)
  (h6:∀b8 b14 a w,I 2 true b8 b14 a w->wpOp P ops Q 6 (fun a' w'=>S w'/\I 3 true b8 b14 a' w') a w)
  (h8:∀p b3 b14 a w,p<=3->I p b3 false b14 a w->wpOp P ops Q 8 (fun a' w'=>S w'/\I p b3 true b14 a' w') a w)
  (h9:∀b14 a w,I 3 true true b14 a w->wpOp P ops Q 9 (fun a' w'=>S w'/\I 4 true true b14 a' w') a w)
  (hr:Region.ready md ops (b4t 4 true true false)= [10,14])
  (h14:∀p b3 b8 a w,I p b3 b8 false a w->wpOp P ops Q 14 (fun a' w'=>S w'/\I p b3 b8 true a' w') a w)
  (hx1:∀a w,I 4 true true true a w->a1y P md ops Q S n 6 #[true,true,true,true,true,true,true,true,true,true,false,false,false,false,true,false,false] a w)
  (hx0:∀a w,I 4 true true false a w->wpOp P ops Q 10 (fun a' w'=>S w'/\a1y P md ops Q S n 6 #[true,true,true,true,true,true,true,true,true,true,true,false,false,false,false,false,false] a' w') a w):
  ∀(fuel p:Nat) (b3 b8 b14:Bool) (a:Act) (w:World),p<=4->(2<=p->b3=true)->(4<=p->b8=true)->fuel=6+(4 - p)+cond b3 0 1+cond b8 0 1+cond b14 0 1->I p b3 b8 b14 a w->a1y P md ops Q S n fuel (b4t p b3 b8 b14) a w:=by
 intro fuel
 induction fuel with
 |zero=>intro p b3 b8 b14 a w _ _ _ hf;omega
 |succ fuel ih=>
  intro p b3 b8 b14 a w hp c3 c8 hf hI;by_cases hp4:p=4
  ·subst hp4
   obtain rfl:=c3 (by omega);obtain rfl:=c8 (by omega);cases b14
   ·obtain rfl:fuel=6:=by simpa using hf
    refine⟨fun h0=>(by rw[hr]at h0;cases h0),fun i hi=>?_⟩;rw[hr]at hi;rcases List.mem_cons.1 hi with rfl|hi
    ·exact wpOp_mono (fun a' w' h=>⟨fun _=>h.1,h.2⟩) (hx0 a w hI)
    ·obtain rfl:i=14:=by simpa using hi
     exact wpOp_mono (fun a' w' h=>⟨fun _=>h.1,ih 4 true true true a' w' (by omega) (fun _=>rfl) (fun _=>rfl) (by simp) h.2⟩) (h14 4 true true a w hI)
   ·obtain rfl:fuel=5:=by simpa using hf
    exact hx1 a w hI
  ·obtain⟨hne,hnx⟩:=a6v hops (show p<4 by omega) (b8:=b8) (b14:=b14) c3
   refine⟨fun h0=>absurd h0 hne,fun i hi=>?_⟩;have hi:=hnx i hi;unfold a7S at hi;simp only[Bool.or_eq_true,Bool.and_eq_true,beq_iff_eq,Bool.not_eq_true',decide_eq_true_eq]at hi;rcases hi with(((((⟨rfl,rfl⟩|⟨rfl,rfl,hp1⟩)|⟨rfl,rfl,rfl⟩)|⟨rfl,rfl⟩)|⟨rfl,rfl,hp3⟩)|⟨rfl,rfl,rfl⟩)|⟨rfl,rfl⟩
   ·exact wpOp_mono (fun a' w' h=>⟨fun _=>h.1,ih 1 b3 b8 b14 a' w' (by omega) (by omega) (by omega) (by omega) h.2⟩) (h1 b3 b8 b14 a w hI)
   ·exact wpOp_mono (fun a' w' h=>⟨fun _=>h.1,ih p true b8 b14 a' w' (by omega) (fun _=>rfl) (by omega) (by simp at hf |-;omega) h.2⟩) (h3 p b8 b14 a w hp1 hI)
   ·exact wpOp_mono (fun a' w' h=>⟨fun _=>h.1,ih 2 true b8 b14 a' w' (by omega) (fun _=>rfl) (by omega) (by simp at hf |-;omega) h.2⟩) (h4 b8 b14 a w hI)
   ·obtain rfl:=c3 (by omega)
    exact wpOp_mono (fun a' w' h=>⟨fun _=>h.1,ih 3 true b8 b14 a' w' (by omega) (fun _=>rfl) (by omega) (by simp at hf |-;omega) h.2⟩) (h6 b8 b14 a w hI)
   ·exact wpOp_mono (fun a' w' h=>⟨fun _=>h.1,ih p b3 true b14 a' w' (by omega) c3 (fun _=>rfl) (by simp at hf |-;omega) h.2⟩) (h8 p b3 b14 a w hp3 hI)
   ·obtain rfl:=c3 (by omega)
    exact wpOp_mono (fun a' w' h=>⟨fun _=>h.1,ih 4 true true b14 a' w' (by omega) (fun _=>rfl) (fun _=>rfl) (by simp at hf |-;omega) h.2⟩) (h9 b14 a w hI)
   ·exact wpOp_mono (fun a' w' h=>⟨fun _=>h.1,ih p b3 b8 true a' w' (by omega) c3 c8 (by simp at hf |-;omega) h.2⟩) (h14 p b3 b8 a w hI)
end
end Go
namespace Go.Proofs.YtkddecjkfdogiaaGreat.seat
open Go.RowKit
theorem and_t {a b:Bool} (h1:a=true) (h2:b=true):(a&&b)=true:=by rw[h1,h2];rfl
theorem laid:laidOutB Tryz.pinned.checked.prog=true:=by kernel_rfl
theorem maps:mapsRowed Tryz.pinned.checked.prog=true:=by kernel_rfl
theorem stops:(Program.stops Tryz.pinned.checked.prog==[])=true:=by kernel_rfl
theorem knobs:(Program.stopKnobs Tryz.pinned.checked.prog==[])=true:=by kernel_rfl
theorem heard:Program.stopsHeard Tryz.pinned.checked.prog=true:=by kernel_rfl
theorem enter:Program.mayEnter Tryz.pinned.checked.prog=true:=by kernel_rfl
theorem lifts:(Rows.certifyMcdsRow.lifted==Program.liftsFinal Tryz.pinned.checked.prog)=true:=by kernel_rfl
theorem make:(Program.make Tryz.pinned.checked.prog==some Rows.certifyMcdsRow.make)=true:=by kernel_rfl
theorem plain:(Rows.certifyMcdsRow.plainKeys==Program.plainKeys Tryz.pinned.checked.prog)=true:=by kernel_rfl
end Go.Proofs.YtkddecjkfdogiaaGreat.seat
namespace Go.Rep
open Go.RowKit Go.Lim Go.Lin
theorem a8R {ao ao':Option Addr} {w:World} {g:Nat} (h:ao'=ao\/∃g,ao'=some ⟨g,0,none⟩/\w.heap.size<=g) (h0:ob ao g=false) (hg:g<w.heap.size):ob ao' g=false:=by
 rcases h with rfl|⟨g',rfl,h⟩
 ·exact h0
 ·exact a0e (by omega)
def a7T (W0 w:World) (ao:Option Addr) (b:Bool) (f:Addr->Value) (v:Value) (cs:Array Value) (T:TypeId):Prop:=b=true->∃g,v=f ⟨g,0,none⟩/\Bx w g cs T/\W0.heap.size<=g/\ob ao g=false
theorem a7T.ext {W0 w w':World} {ao ao':Option Addr} {b:Bool} {f:Addr->Value} {v:Value} {cs:Array Value} {T:TypeId} (h:a7T W0 w ao b f v cs T) (hE:ExtX (ob ao) w w') (hor:ao'=ao\/∃g,ao'=some ⟨g,0,none⟩/\w.heap.size<=g):a7T W0 w' ao' b f v cs T:=fun hb=>by
 obtain⟨g,h1,h2,h3,h4⟩:=h hb;exact⟨g,h1,h2.ext hE h4,h3,a8R hor h4 h2.lt⟩
theorem a7T.ext0 {W0 w w':World} {ao:Option Addr} {b:Bool} {f:Addr->Value} {v:Value} {cs:Array Value} {T:TypeId} (h:a7T W0 w ao b f v cs T) (hE:Ext w w'):a7T W0 w' ao b f v cs T:=h.ext (ExtX.of hE) (.inl rfl)
theorem a7T.none {W0 w:World} {ao:Option Addr} {b:Bool} {f:Addr->Value} {v:Value} {cs:Array Value} {T:TypeId} (h:a7T W0 w ao b f v cs T):a7T W0 w none b f v cs T:=fun hb=>by
 obtain⟨g,h1,h2,h3,_⟩:=h hb;exact⟨g,h1,h2,h3,rfl⟩
theorem a7T.no {W0 w:World} {ao:Option Addr} {f:Addr->Value} {v:Value} {cs:Array Value} {T:TypeId}:a7T W0 w ao false f v cs T:=fun hb=>by cases hb
def b0Y (W0 w:World) (ao:Option Addr) (b:Bool) (v:Value) (X:Nat->Bool) (cs:Array Value) (T:TypeId):Prop:=(b=false->X=noY)/\(b=true->∃g,v= .pointer (some ⟨g,0,none⟩)/\X=un noY (some ⟨g,0,none⟩)/\Bx w g cs T/\W0.heap.size<=g/\ob ao g=false)
theorem b0Y.ext {W0 w w':World} {ao ao':Option Addr} {b:Bool} {v:Value} {X:Nat->Bool} {cs:Array Value} {T:TypeId} (h:b0Y W0 w ao b v X cs T) (hE:ExtX (ob ao) w w') (hor:ao'=ao\/∃g,ao'=some ⟨g,0,none⟩/\w.heap.size<=g):b0Y W0 w' ao' b v X cs T:=⟨h.1,fun hb=>by
 obtain⟨g,h1,h5,h2,h3,h4⟩:=h.2 hb;exact⟨g,h1,h5,h2.ext hE h4,h3,a8R hor h4 h2.lt⟩⟩
theorem b0Y.ext0 {W0 w w':World} {ao:Option Addr} {b:Bool} {v:Value} {X:Nat->Bool} {cs:Array Value} {T:TypeId} (h:b0Y W0 w ao b v X cs T) (hE:Ext w w'):b0Y W0 w' ao b v X cs T:=h.ext (ExtX.of hE) (.inl rfl)
theorem b0Y.none {W0 w:World} {ao:Option Addr} {b:Bool} {v:Value} {X:Nat->Bool} {cs:Array Value} {T:TypeId} (h:b0Y W0 w ao b v X cs T):b0Y W0 w none b v X cs T:=⟨h.1,fun hb=>by
 obtain⟨g,h1,h5,h2,h3,_⟩:=h.2 hb;exact⟨g,h1,h5,h2,h3,rfl⟩⟩
structure Two4 (W0:World) (T1 T2:TypeId) (x:List (List Rat)) (row:List Rat) (y:List Rat) (z:Rat) (n:Nat) (p:Nat) (X:Nat->Bool) (ao:Option Addr) (v1 v4 v6 v9:Value) (w:World):Prop where
 ext:Ext W0 w
 hx0:∀k,k<W0.heap.size->X k=true->noY k=true
 hxw:∀k,X k=true->k<w.heap.size
 c0:p=0->ao=none
 c1:p=1->∃c,v1= .slice ao n c/\OL RC 1 X W0.heap.size T1 w ao c x
 c2:2<=p->∃w4,Ext W0 w4/\Ext w4 w/\MC (mk X w4) v4 (x++[row])/\(p=2->ao=none)/\(p=3->∃c,v6= .slice ao n c/\OL QC 3 X w4.heap.size T2 w ao c y)/\(4<=p->ao=none/\RC (mk X w) v9 (y++[z]))
section
variable {W0:World} {T1 T2:TypeId} {x:List (List Rat)} {row:List Rat} {y:List Rat} {z:Rat} {n p:Nat} {X:Nat->Bool} {ao:Option Addr} {v1 v4 v6 v9:Value} {w w':World}
theorem Two4.step (h:Two4 W0 T1 T2 x row y z n p X ao v1 v4 v6 v9 w) (hE:Ext w w'):Two4 W0 T1 T2 x row y z n p X ao v1 v4 v6 v9 w':=
 ⟨h.ext.trans hE,h.hx0,fun k hk=>Nat.lt_of_lt_of_le (h.hxw k hk) hE.size,h.c0,fun hp=>by
  obtain⟨c,h1,h2⟩:=h.c1 hp;exact⟨c,h1,h2.ext0 RC.elem hE⟩,fun hp=>by
  obtain⟨w4,h1,h2,h3,h4,h5,h6⟩:=h.c2 hp;refine⟨w4,h1,h2.trans hE,h3,h4,fun hp=>?_,fun hp=>?_⟩
  ·obtain⟨c,k1,k2⟩:=h5 hp
   exact⟨c,k1,k2.ext0 QC.elem hE⟩
  ·exact⟨(h6 hp).1,mkx RC.mono (h6 hp).2 hE⟩⟩
theorem b2U {g k:Nat} (h:un noY (some ⟨g,0,none⟩) k=true):k=g:=by
 rcases a5r h with h|h
 ·cases h
 ·have:g=k:=by simpa[ob]using h
  exact this.symm
theorem Two4.box (h:Two4 W0 T1 T2 x row y z n p noY ao v1 v4 v6 v9 w) {w':World} (hE:Ext w w') (hs:w.heap.size<w'.heap.size):Two4 W0 T1 T2 x row y z n p (un noY (some ⟨w.heap.size,0,none⟩)) ao v1 v4 v6 v9 w':=by
 have hlt:∀k,k<w.heap.size->un noY (some ⟨w.heap.size,0,none⟩) k=true->noY k=true:=fun k hk h2=>by
  have:=b2U h2;omega
 exact⟨h.ext.trans hE,fun k hk h2=>hlt k (Nat.lt_of_lt_of_le hk h.ext.size) h2,fun k hk=>by have:=b2U hk;omega,h.c0,fun hp=>by
  obtain⟨c,h1,h2⟩:=h.c1 hp;exact⟨c,h1,h2.ext RC.elem hE (fun _ _ hk=>hk) hlt⟩,fun hp=>by
  obtain⟨w4,h1,h2,h3,h4,h5,h6⟩:=h.c2 hp;refine⟨w4,h1,h2.trans hE,MC.mono _ _ _ _ (a1m fun k hk h9=>hlt k (Nat.lt_of_lt_of_le hk h2.size) h9) h3,h4,fun hp=>?_,fun hp=>?_⟩
  ·obtain⟨c,k1,k2⟩:=h5 hp
   exact⟨c,k1,k2.ext QC.elem hE (fun _ _ hk=>hk) hlt⟩
  ·exact⟨(h6 hp).1,RC.mono _ _ _ _ (a0R hE (fun _ _ hk=>hk) hlt) (h6 hp).2⟩⟩
theorem Two4.fresh (h:Two4 W0 T1 T2 x row y z n p X ao v1 v4 v6 v9 w):ob ao w.heap.size=false:=by
 by_cases h0:p=0
 ·rw[h.c0 h0];rfl
 by_cases h1:p=1
 ·obtain⟨c,_,h2⟩:=h.c1 h1
  exact h2.ob_ge (Nat.le_refl _)
 obtain⟨w4,_,_,_,k4,k5,k6⟩:=h.c2 (by omega);by_cases h2:p=2
 ·rw[k4 h2];rfl
 by_cases h3:p=3
 ·obtain⟨c,_,h3⟩:=k5 h3
  exact h3.ob_ge (Nat.le_refl _)
 ·rw[(k6 (by omega)).1];rfl
theorem a4T (h:Ext W0 w) (hE:ExtX (ob none) w w'):Ext W0 w':=h.then_ hE fun _ _ _=>rfl
theorem Two4.le0 (h:Two4 W0 T1 T2 x row y z n p X none v1 v4 v6 v9 w):Le (_root_.Go.Rep.mk noY W0) (_root_.Go.Rep.mk (un X none) w):=
 a0R h.ext (fun _ _ h=>h) fun b hb' h2=>by
  rcases a5r h2 with h2|h2
  ·exact h.hx0 b hb' h2
  ·cases h2
theorem Two4.le1 (h:Two4 W0 T1 T2 x row y z n p X ao v1 v4 v6 v9 w) {base:Nat} {α:Type} {R:Mem->Value->α->Prop} {sz c:Nat} {e:TypeId} {l:List α} (hb:W0.heap.size<=base) (ho:OL R sz X base e w ao c l):Le (_root_.Go.Rep.mk noY W0) (_root_.Go.Rep.mk (un X ao) w):=
 a0R h.ext (fun _ _ h=>h) fun b hb' h2=>by
  rcases a5r h2 with h2|h2
  ·exact h.hx0 b hb' h2
  ·rw[ho.ob_lt (by omega)]at h2;cases h2
theorem Two4.one (h:Two4 W0 T1 T2 x row y z n 0 X ao v1 v4 v6 v9 w) {ao':Option Addr} {c:Nat} (ho:OL RC 1 X W0.heap.size T1 w' ao' c x) (hE:ExtX (ob none) w w'):Two4 W0 T1 T2 x row y z n 1 X ao' (.slice ao' n c) v4 v6 v9 w':=
 ⟨a4T h.ext hE,h.hx0,fun k hk=>Nat.lt_of_lt_of_le (h.hxw k hk) hE.size,fun hp=>by omega,fun _=>⟨c,rfl,ho⟩,fun hp=>by omega⟩
theorem Two4.two (h:Two4 W0 T1 T2 x row y z n 1 X ao v1 v4 v6 v9 w) (hn:x.length=n) {ao':Option Addr} {c:Nat} (ho:OL RC 1 X W0.heap.size T1 w' ao' c (x++[row])) (hE:ExtX (ob ao) w w'):Two4 W0 T1 T2 x row y z n 2 X none v1 (.slice ao' (n+1) c) v6 v9 w':=by
 obtain⟨c0,_,h2⟩:=h.c1 rfl;have hE0:Ext W0 w':=h.ext.then_ hE fun i hi _=>h2.ob_lt hi;exact⟨hE0,h.hx0,fun k hk=>Nat.lt_of_lt_of_le (h.hxw k hk) hE.size,fun _=>rfl,fun hp=>by omega,fun _=>⟨w',hE0,ExtX.refl _,⟨ao',c,by rw[List.length_append,hn];rfl,ho.lenCap,ho.sl RC.elem⟩,fun _=>rfl,fun hp=>by omega,fun hp=>by omega⟩⟩
theorem Two4.three (h:Two4 W0 T1 T2 x row y z n 2 X ao v1 v4 v6 v9 w) {w4:World} (hE4:Ext W0 w4) (hE5:Ext w4 w) (hm:MC (_root_.Go.Rep.mk X w4) v4 (x++[row])) {ao':Option Addr} {c:Nat} (ho:OL QC 3 X w4.heap.size T2 w' ao' c y) (hE:ExtX (ob none) w w'):Two4 W0 T1 T2 x row y z n 3 X ao' v1 v4 (.slice ao' n c) v9 w':=
 ⟨a4T h.ext hE,h.hx0,fun k hk=>Nat.lt_of_lt_of_le (h.hxw k hk) hE.size,fun hp=>by omega,fun hp=>by omega,fun _=>⟨w4,hE4,a4T hE5 hE,hm,fun hp=>by omega,fun _=>⟨c,rfl,ho⟩,fun hp=>by omega⟩⟩
theorem Two4.four (h:Two4 W0 T1 T2 x row y z n 3 X ao v1 v4 v6 v9 w) (hn:y.length=n) {w4:World} (hE4:Ext W0 w4) (hE5:Ext w4 w) (hm:MC (_root_.Go.Rep.mk X w4) v4 (x++[row])) {c0:Nat} (hl:OL QC 3 X w4.heap.size T2 w ao c0 y) {ao':Option Addr} {c:Nat} (ho:OL QC 3 X w4.heap.size T2 w' ao' c (y++[z])) (hE:ExtX (ob ao) w w'):Two4 W0 T1 T2 x row y z n 4 X none v1 v4 v6 (.slice ao' (n+1) c) w':=
 ⟨h.ext.then_ hE fun i hi _=>hl.ob_lt (Nat.lt_of_lt_of_le hi hE4.size),h.hx0,fun k hk=>Nat.lt_of_lt_of_le (h.hxw k hk) hE.size,fun _=>rfl,fun hp=>by omega,fun _=>⟨w4,hE4,hE5.then_ hE fun i hi _=>hl.ob_lt hi,hm,fun _=>rfl,fun hp=>by omega,fun _=>⟨rfl,⟨ao',c,by rw[List.length_append,hn];rfl,ho.lenCap,ho.sl QC.elem⟩⟩⟩⟩
end
end Go.Rep
namespace Go
def a6w (a:Act) (v1 v3 v4 v6 v8 v9 v14:Value):Act:=((((((a.put (some 54) v1).put (some 56) v3).put (some 57) v4).put (some 59) v6).put (some 61) v8).put (some 62) v9).put (some 17) v14
section
variable (a:Act) (v1 v3 v4 v6 v8 v9 v14 x:Value)
end
theorem b0U {P:Program} {ops:Array Oper} {Q:Exit->Act->World->Prop} {md:Region.Mode} {S:World->Prop} {n f:Nat} {l:Array Bool} {a:Act} {w:World} (h:∀a0,a0=a->a1y P md ops Q S n f l a0 w):a1y P md ops Q S n f l a w:=h a rfl
end Go
