/- Parts of a proof: each theorem states what it proves, and its conditions. -/
import Derived.Test.YtjmnhbebpffoaaaGreatIwI
import Derived.Deep.DrawnRows
import Derived.Deep.LoopGhost
import Derived.BigQuiet
set_option maxRecDepth 100000
set_option maxHeartbeats 1600000
namespace Go.Proofs.YtjmnhbebpffoaaaGreat
open Go.RowKit
section
variable {P:Program} {ops:Array Oper} {Q:Exit->Act->World->Prop} {a:Act} {w:World}
variable {α:Type} {R:Mem->Value->α->Prop} {sz:Nat} {X:Nat->Bool} {base:Nat} {e:TypeId} {ao:Option Addr} {cap:Nat} {l:List α}
theorem a1T{o:Oper}{K:Act->World->Prop}{E:Prop}{t j:Nat}{z:Value}{s x:Operand}{r:Option Addr}{C:Nat}(J:o.guard=none)(y:o.op=Op.call {callee:=Callee.builtin Builtin.append,args:=#[s,x],argTypes:=#[t,t]})(T:SliceT P t e sz j z)(B:z.cells.size=sz)(D:Elem R sz)(d:base<=w.heap.size)(I:∀k,X k=true->k<w.heap.size)(i:List α)(n m:Nat)(M:l.length=n)(L:i.length=m)(O:a.eval s=.slice ao n cap)(U:a.eval x=.slice r m C)(h:OL R sz X base e w ao cap l)(A:Sl R sz (mk (un X ao) w) r i)(f:(n+m)*j<=140737488355328)(p:n+m<=9223372036854775807)(H:∀c b q,OL R sz X base e q c b (l++i)->ExtX (ob ao) w q->(c=ao\/∃g,c=some ⟨g,0,none⟩/\w.heap.size<=g)->K (a.put o.dst (.slice c (n+m) b)) q):if Region.wanted o (yielded ops a.tmps)=true then Oper.wp P o a w K Q else E:=by
 have S:Region.wanted o (yielded ops a.tmps)=true:=by simp[Region.wanted,J]
 rw[if_pos S];subst M L;obtain⟨V,F,u,v⟩:=A.at_ D;obtain⟨c,b,q,N,u,v,G⟩:=h.run_append (P:=P) T B D d I r C V i u F v f p o.type;unfold Oper.wp execOp;rw[y];simp only[resolve,invoke,builtin,Sem.run_bind,Sem.run_pure,Result.andThen_ok,List.map_toArray,List.map_cons,List.map_nil,O,U];rw[N];have:=H c b q u v G;rw[show(l++i).length=l.length+i.length from by simp];exact this
end
theorem b9E{α:Type}{R:Mem->Value->α->Prop}{sz:Nat}{Y:Nat->Bool}{w:World}{g:Nat}{u:Value}{T:TypeId}{y:α}(b:Bx w g u.cells T)(a:Y g=false)(h:R (mk Y w) u y)(f:u.cells.size=sz):Sl R sz (mk Y w) (some ⟨g,0,none⟩) [y]:=
 ⟨fun _=>⟨g,0,rfl⟩,fun i d=>by
  have:i=0:=by simpa using d
  subst this;refine⟨u,f,fun j e=>?_,h⟩;have c:=b.cell j (Array.getElem?_eq_getElem e);simp only[adr,Option.getD_some,Nat.zero_mul,Nat.zero_add];simp[mk,a,c]⟩
theorem b5A(s:List Rat)(a b:Nat):a8p s a b=(s.take b).drop a:=by unfold a8p;rw[List.drop_take]
theorem b7Y{l:List Rat}{x:Rat}:x∈srt l↔x∈l:=(a8f l).mem_iff
theorem b3D{B:Nat}{l:List Rat}(h:BR B l):BR B (srt l):=fun x a=>h x (b7Y.1 a)
theorem b3E{B:Nat}{s:List Rat}(h:BR B s)(a b:Nat):BR B (a8p s a b):=fun x c=>h x (List.mem_of_mem_drop (List.mem_of_mem_take c))
theorem b3F{B n:Nat}{l:List Rat}(h:BR B l)(e:l.length<=n):∀k,k<=l.length->hq (sm k (fn l))<=1+n*(B+1):=fun k d=>by
 have:=b1E (n:=k) (B:=B) (f:=fn l) fun i c=>by
  have a:i<l.length:=by omega
  rw[show fn l i=l[i]by simp[fn,List.getD_eq_getElem?_getD,a]];exact h _ (c1E a)
 have b:k*(B+1)<=n*(B+1):=Nat.mul_le_mul_right _ (by omega);omega
theorem a4L(X:Nat->Bool)(ao:Option Addr)(l:List Rat)(n cap:Nat)(w:World)(j:l.length=n)(k:Sl QV 3 (mk X w) ao l)(m:n<=1000000)(i:HX X w):Calls Tryz.prog 62 #[.slice ao n cap] w (fun e d=>Ext w d/\∃b c,e=.returned (.slice b n c)/\OL QV 3 X w.heap.size 47 d b c l):=by
 subst j;go_enter Tryz.func62,Tryz.ntmps62
 go_wp2_with (at_builtin;refine a9W a0x rfl QV.elem i l rfl rfl rfl k (by omega) (by omega) ?_;intro f g o h a)
 go_ret
 exact⟨a,f,g,rfl,h⟩
theorem b7Z(X:Nat->Bool)(w:World)(u v:Value)(l:List Rat)(z:Rat)(hX:HX X w)(hu:RV (mk X w) u l)(hv:QV (mk X w) v z)(hl:l.length<=1000):Calls Tryz.prog 49 #[u,v] w (a2b X w RV (l++[z])):=by
 obtain⟨ao,ca,rfl,hca,hsa⟩:=hu;obtain⟨n,hn⟩:=c1F l.length;rw[hn]at hca hl |-;have hn':=hid hn;obtain⟨s1,a1,n1,c1,d1,k1,e1,rfl⟩:=hv.shape;obtain⟨W,hW,hE,b0,hz⟩:=a0Y w #[.bool s1,.slice a1 n1 c1,.slice d1 k1 e1] 47;obtain⟨b,hb⟩:=c1F w.heap.size;rw[hb]at b0 hz;have hEd:=c1L W;have hEw:=hE.trans hEd;have hsd:=hid (hsa.mono QV.mono (a0k hEw));have hvd:=hid (mkx QV.mono hv hEw);have hXd:HX X W.drew:=hX.ext hEw;have bd:=b0.ext0 hEd;have hwS:W.drew.cell? ⟨b,0,none⟩=some (.bool s1)/\W.drew.cell? ⟨b,1,none⟩=some (.slice a1 n1 c1)/\W.drew.cell? ⟨b,2,none⟩=some (.slice d1 k1 e1):=⟨bd.cell 0 rfl,bd.cell 1 rfl,bd.cell 2 rfl⟩;clear hn hsa hv b0 bd;go_enter Tryz.func49,Tryz.ntmps49
 go_upto_region 1 with fail
 refine a0n 5 (fun w'=>w'.cell? ⟨b,0,none⟩=some (.bool s1)/\w'.cell? ⟨b,1,none⟩=some (.slice a1 n1 c1)/\w'.cell? ⟨b,2,none⟩=some (.slice d1 k1 e1)) (by kernel_rfl) (by kernel_rfl) hwS (fun hHeld hOnce=>?_);clear hwS;obtain⟨W3,hW3⟩:=c1F W.drew;rw[hW3]at hHeld hEw hsd hvd hXd |-;have hblt:b<W3.heap.size:=a1Z hHeld.1;clear hW3 hW hEd;refine kt 0 hOnce ?_;refine kt 2 hOnce ?_;refine a1E (i:=1) (j:=3) (oi:=⟨_,_,_,_,_,_⟩) (oj:=⟨_,_,_,_,_,_⟩) (by kernel_rfl) rfl rfl (fun K hK=>?pa) (fun K hK=>?pb)
 case' pa=>
  go_simp
  (refine(a4L X ao l n ca W3 hn'.out hsd.out (by omega) hXd).mono ?_;rintro e w4 ⟨hE4,bo,bc,rfl,hO4⟩)
  refine kcn hK ⟨hE4.cell hHeld.1,hE4.cell hHeld.2.1,hE4.cell hHeld.2.2⟩ (fun hHeld=>?_);clear hK K;obtain⟨w5,hw5,hE5,bz,hz5⟩:=a0Y w4 #[.bool s1,.slice a1 n1 c1,.slice d1 k1 e1] 47;refine ks 3 (fun K hK=>?_);go_simp
  skip
  refine kcn hK ⟨hE5.cell hHeld.1,hE5.cell hHeld.2.1,hE5.cell hHeld.2.2⟩ (fun hHeld=>?_);clear hK K;have hO5:=hO4.ext0 QV.elem hE5;have hE35:=hE4.trans hE5;have hg:∀k,ob bo k=true->k≠w4.heap.size:=fun k hk=>Nat.ne_of_lt (hO4.block hk).2;have hgx:X w4.heap.size=false:=by
   cases h:X w4.heap.size with
   |false=>rfl
   |true=>exact absurd ((hXd.ext hE4) _ h) (Nat.lt_irrefl _)
  obtain⟨g,hgg⟩:=c1F w4.heap.size;rw[hgg]at bz hg hgx
  (try rw[hgg])
  clear hw5 hgg hz5
 case' pb=>
  obtain⟨w4,hw4,hE4,bz0,hz4⟩:=a0Y W3 #[.bool s1,.slice a1 n1 c1,.slice d1 k1 e1] 47;go_simp
  skip
  refine kcn hK ⟨hE4.cell hHeld.1,hE4.cell hHeld.2.1,hE4.cell hHeld.2.2⟩ (fun hHeld=>?_);clear hK K;clear hw4;refine ks 1 (fun K hK=>?_);go_simp
  (refine(a4L X ao l n ca w4 hn'.out (hsd.out.mono QV.mono (a0k hE4)) (by omega) (hXd.ext hE4)).mono ?_;rintro e w5 ⟨hE5,bo,bc,rfl,hO5'⟩)
  refine kcn hK ⟨hE5.cell hHeld.1,hE5.cell hHeld.2.1,hE5.cell hHeld.2.2⟩ (fun hHeld=>?_);clear hK K;have bz:=bz0.ext0 hE5;have hO5:=hO5'.base_le (b':=W3.heap.size) hE4.size;have hE35:=hE4.trans hE5;have hg:∀k,ob bo k=true->k≠W3.heap.size:=fun k hk=>by have:=(hO5'.block hk).1;omega
  have hgx:X W3.heap.size=false:=by
   cases h:X W3.heap.size with
   |false=>rfl
   |true=>exact absurd (hXd _ h) (Nat.lt_irrefl _)
  obtain⟨g,hgg⟩:=c1F W3.heap.size;rw[hgg]at bz hg hgx
  (try rw[hgg])
  clear hgg hz4 hO5' bz0
 all_goals
  have hbf:ob bo b=false:=hO5.ob_lt hblt;have hgu:un X bo g=false:=by
   simp only[un,hgx,Bool.false_or];cases h:ob bo g with
   |false=>rfl
   |true=>exact absurd rfl (hg g h)
  have hv5:=a2j QV.mono hvd.out hE35 (fun k hk=>hO5.ob_lt (base:=W3.heap.size) hk);have hsz:=b9E (Y:=un X bo) (u:= .agg #[.bool s1,.slice a1 n1 c1,.slice d1 k1 e1]) bz hgu hv5 rfl;refine ks 4 (fun K hK=>?_)
  (refine a1T (l:=l) rfl rfl a0x rfl QV.elem hE35.size (hXd.ext hE35) [z] n 1 hn'.out rfl rfl rfl hO5 hsz (by omega) (by omega) ?_;intro bo2 bc2 w6 hO6 hE6 hor)
  refine kcn hK ⟨hE6.cellY hHeld.1 hbf,hE6.cellY hHeld.2.1 hbf,hE6.cellY hHeld.2.2 hbf⟩ (fun hHeld=>?_);clear hK K;refine kl 5 (fun K hK=>?_);go_simp
  refine hK.out _ _ ?_;clear hK K;have hE36:=hE35.own hO5 (c1B _) hE6;have hln:(l++[z]).length=n+1:=by simp[hn'.out]
  have hcc:=hO6.lenCap;rw[hln]at hcc;have hsl:=hO6.sl QV.elem;go_wp2_with fail
  go_ret
  exact⟨hEw.trans hE36,_,rfl,bo2,bc2,by rw[hln];rfl,by rw[hln];exact hcc,hsl⟩
theorem b0Y(X:Nat->Bool)(w:World)(u:Value)(k t:Int)(l:List Rat)(B:Nat)(hX:HX X w)(hu:RV (mk X w) u l)(hk:a5n k t)(hf:a6H k t l.length)(hl:l.length<=20)(hB:BR B l)(hBB:B<=1000000000):Calls Tryz.prog 48 #[.agg #[.int .i64 k,.int .i64 t],u] w (a2b X w QC (a5o k t l)):=by
 have hr:=c0E hk hf;obtain⟨W,hW,hE,b0,b1,hz⟩:=a1K w #[.int .i64 k,.int .i64 t] #[.bool false,.slice none 0 0,.slice none 0 0] 52 47;have hXW:HX (a0f X w.heap.size 2) W:=hX.boxes hz;have hu1:=RV.mono _ _ _ _ (a0i (nb:=2) hE) hu;obtain⟨b,hb⟩:=c1F w.heap.size;rw[hb]at b0 b1 hz hXW hu1;obtain⟨Z,hZ⟩:=c1F (a0f X b 2);rw[hZ]at hXW hu1;have hso:=hid fun w' (h:Ext W w')=>b3C Z w' u l (hXW.ext h) (mkx RV.mono hu1 h) hl (fun q hq=>c1A (hB q hq) (by omega));have hra:=b9B W k t l.length (by omega) hk hf;have hwb:=b3E (b3D hB) (rkA k t l.length) (rkB k t l.length);have hwl:=b5o (s:=srt l) (a:=rkA k t l.length) (b:=rkB k t l.length) (by rw[a8g];exact hr.2);have hws:=hid (b5A (srt l) (rkA k t l.length) (rkB k t l.length));have hsb:=hid (b3F (n:=20) hwb (by omega));have hes:Hid (b1F (a8p (srt l) (rkA k t l.length) (rkB k t l.length))/(((rkB k t l.length - rkA k t l.length:Nat):Int):Rat)=a5o k t l):=hid rfl;obtain⟨q,hq⟩:=c1F (a5o k t l);rw[hq]at hes |-;have hsl:=hid (a8g l);obtain⟨wl,hwl'⟩:∃wl,a8p (srt l) (rkA k t l.length) (rkB k t l.length)=wl:=⟨_,rfl⟩;rw[hwl']at hwl hws hsb hes hwb;obtain⟨S,hS⟩:=c1F (srt l);rw[hS]at hsl hws hso;obtain⟨A,hA⟩:=c1F (rkA k t l.length);obtain⟨C,hC⟩:=c1F (rkB k t l.length);rw[hA,hC]at hr hra hwl hws hes;obtain⟨ao,ca,rfl,hca,hsa⟩:=hu;obtain⟨n,hn⟩:=c1F l.length;rw[hn]at hr hra hso hsl hca hl |-;have hwl2:=hid hwl;have e1:IntKind.i64.wrap ((A:Int)+1 - 1)=(A:Int):=by rw[IntWalk.i64_in _ (by omega)];omega
 have e2:IntKind.i64.wrap ((C:Int) - ((A:Int)+1))=(C:Int) - ((A:Int)+1):=IntWalk.i64_in _ (by omega);have e3:IntKind.i64.wrap ((C:Int) - ((A:Int)+1)+1)=((C - A:Nat):Int):=by rw[IntWalk.i64_in _ (by omega)];omega
 have k0:=b0.cell 0 rfl;have k1:=b0.cell 1 rfl;have hwb':=hid hwb;clear hn hS hA hC hwl' hwl hq hu1 hsa hwb hB hf hk;go_enter Tryz.func48,Tryz.ntmps48
 go_upto_region 2 with(first|(go_at_call 93;refine hra.mono ?_;rintro ee w1 ⟨hE1,rfl⟩))
 have hso1:=hso.out w1 hE1;clear hso hra k0 k1;go_wp2_with (first|(go_at_call 43;refine hso1.mono ?_;rintro ee w2 ⟨hE2,oo,co,rfl,hO⟩;have hcc:=hO.lenCap;rw[hsl.out]at hcc;have f1:∀W,(Instr.sliceAt 24 (.slice oo n co) (some (.int .i64 (A:Int))) (some (.int .i64 (C:Int))) none).run Tryz.prog W=.ok (.slice (a1b oo A co 3) (C - A) (co - A)) W:=a5S a0x n co .i64 .i64 A C (by omega) (by omega)))
 have hXW2:=(hXW.ext hE1).ext hE2;have hsl3:=(hO.sl QC.elem).sub A C co (by omega) (by omega) (by rw[hsl.out];omega);rw[<-hws.out]at hsl3;have hrv:RV (mk Z w2) (.slice (a1b oo A co 3) (C - A) (co - A)) wl:=⟨_,_,by rw[hwl2.out],by rw[hwl2.out];omega,hsl3.qv (fun q hq=>c1A (hwb'.out q hq) (by omega))⟩;have hsm:=b5z Z w2 _ wl hXW2 hrv (by rw[hwl2.out];omega) (fun j hj=>c1A (hsb.out j hj) (by omega));rw[show sm wl.length (fn wl)=b1F wl from rfl]at hsm;have hsq:Hid (hq (b1F wl)<=68719476736):=hid (c1A (hsb.out wl.length (c1B _)) (by omega));have hkq:Hid (hq ((((C - A:Nat):Int)):Rat)<=68719476736):=hid (c1A (a4y _ 1 (by
  rw[Int.natAbs_natCast,a2c (by omega) (by omega)];exact c1B _) (c1B _)) (by decide))
 obtain⟨D,hD⟩:=c1F (b1F wl);rw[hD]at hsm hsq hes;clear hrv hsl3 hO f1 hD hwb' hsb hws;go_wp2_with (first
  |(go_at_call 94;refine hsm.mono ?_;rintro ee w3 ⟨hE3,u3,rfl,hu3⟩;obtain⟨s3,a3,n3,c3,d3,k3,e3',rfl⟩:=hu3.shape)
  |(go_at_call 34;(with_reducible refine(a8G Z w3 ((C - A:Nat):Int) (hXW2.ext hE3) (by omega) (by omega)).mono ?_);rintro ee w4 ⟨hE4,u4,rfl,hu4⟩;obtain⟨s4,a4,n4,c4,d4,k4,e4,rfl⟩:=hu4.shape)
  |(go_at_call 36;(with_reducible refine(b5x Z w4 _ _ _ _ ((hXW2.ext hE3).ext hE4) ((mkx QC.mono hu3 hE4).qv hsq.out) (hu4.qv hkq.out)).mono ?_);rintro ee w5 ⟨hE5,u5,rfl,hu5⟩;rw[hes.out]at hu5;obtain⟨s5,a5,n5,c5,d5,k5,e5,rfl⟩:=hu5.shape;have b15:=b1.ext0 (hE1.trans (hE2.trans (hE3.trans (hE4.trans hE5)))))
  |((with_reducible refine c1J ?_);refine a0a a0p rfl rfl b15 rfl rfl a1s ?_;intro w6 r1 r2))
 rw[<-hZ]at hu5;have h6:=QC.mono _ _ _ _ a0l (QC.mono _ _ _ _ (a0h r2 (by omega) (by omega)) hu5);exact bodyPost_ret (a0d rfl rfl a0p r1 rfl) rfl ⟨ExtX.box (hE.trans (hE1.trans (hE2.trans (hE3.trans (hE4.trans hE5))))) r2 (by omega),_,rfl,h6⟩
theorem a9X(X:Nat->Bool)(ao:Option Addr)(l:List (List Rat))(n cap:Nat)(w:World)(j:l.length=n)(k:Sl RV 1 (mk X w) ao l)(m:n<=1000000)(i:HX X w):Calls Tryz.prog 61 #[.slice ao n cap] w (fun e d=>Ext w d/\∃b c,e=.returned (.slice b n c)/\OL RV 1 X w.heap.size 24 d b c l):=by
 subst j;go_enter Tryz.func61,Tryz.ntmps61
 go_wp2_with (at_builtin;refine a9W a0o rfl RV.elem i l rfl rfl rfl k (by omega) (by omega) ?_;intro f g o h a)
 go_ret
 exact⟨a,f,g,rfl,h⟩
theorem b8a(X:Nat->Bool)(w:World)(u:Value)(l:List (List Rat))(n i:Nat)(U:HX X w)(hu:MV (mk X w) u l)(z:l.length=n)(F:n<=64)(V:i<n):Calls Tryz.prog 28 #[u,.int .i64 (i:Int)] w (a2b X w MV (a1P l i)):=by
 obtain⟨ao,c,rfl,s,p⟩:=hu;rw[z]at s |-;have M:Hid ((l.take i).length=i):=hid (by rw[List.length_take];omega);have hd:Hid ((l.drop (i+1)).length=n - (i+1)):=hid (by rw[List.length_drop,z]);have N:=hid (p.take i);have B:Hid (Sl RV 1 (mk X w) (a1b ao (i+1) c 1) (l.drop (i+1))):=hid (by
  have:=p.sub (i+1) l.length c (by omega) (by omega) (c1B _);rwa[List.take_length]at this)
 have ew:IntKind.i64.wrap ((i:Int)+1)=(i:Int)+1:=IntWalk.i64_in _ (by omega);have f1:∀W,(Instr.sliceAt 23 (.slice ao n c) none (some (.int .i64 (i:Int))) none).run Tryz.prog W=.ok (.slice ao i c) W:=a2G a0o n c .i64 i (by omega);have Q:∀W,(Instr.sliceAt 23 (.slice ao n c) (some (.int .i64 ((i:Int)+1))) none none).run Tryz.prog W=.ok (.slice (a1b ao (i+1) c 1) (n - (i+1)) (c - (i+1))) W:=a2l a0o n c .i64 (i+1) (by omega) s;have h:Hid (i+(n - (i+1))=n - 1):=hid (by omega);have o:Hid (l.take i++l.drop (i+1)=a1P l i):=hid rfl;obtain⟨C,r⟩:=c1F (a1b ao (i+1) c 1);rw[r]at B Q;obtain⟨R,v⟩:=c1F (l.take i);obtain⟨S,x⟩:=c1F (l.drop (i+1));obtain⟨A,y⟩:=c1F (n - (i+1));rw[y]at hd h Q;rw[v]at M N o;rw[x]at hd B o;have L:Hid ((a1P l i).length=n - 1):=hid (by rw[a3G (by omega),z]);have Z:A<=64/\i<=64:=by omega
 have d:=c1L w;have q:=U.ext d;have J:=a9X X ao R i c w.drew M.out (N.out.mono RV.mono (a0k d)) (by omega) q;have P:=hid (B.out.mono RV.mono (a0k d));clear r v x y p N B z V F;go_enter Tryz.func28,Tryz.ntmps28
 go_upto_region 1 with fail
 refine a0n 9 (fun _=>True) (by kernel_rfl) (by kernel_rfl) trivial (fun b a=>?_);refine kt 0 a ?_;refine kt 1 a ?_;refine kt 2 a ?_;refine kt 4 a ?_;refine kt 5 a ?_;refine kt 6 a ?_;refine kt 7 a ?_;refine ks 3 (fun K g=>?_);go_simp
 (refine J.mono ?_;rintro e w4 ⟨f,T,bc,rfl,k⟩)
 refine kcn g trivial (fun b=>?_);clear g K;have I:=q.ext f;have O:Sl RV 1 (mk (un X T) w4) C S:=P.out.old RV.mono f (fun j Y=>k.ob_lt Y);refine ks 8 (fun K g=>?_)
 (refine a1T (l:=R) rfl rfl a0o rfl RV.elem f.size I S i A M.out hd.out rfl rfl k O (by omega) (by omega) ?_;intro E D w6 m G a0)
 refine kcn g trivial (fun b=>?_);clear g K;refine kl 9 (fun K g=>?_);go_simp
 refine g.out _ _ ?_;clear g K;have H:Ext w w6:=(d.trans f).own k (by have:=d.size;exact c1B _) G;rw[o.out]at m;clear b a;go_wp2_with fail
 go_ret
 exact⟨H,_,rfl,E,D,by rw[L.out,h.out];rfl,m.lenCap,m.sl RV.elem⟩
theorem b9F(X:Nat->Bool)(w:World)(u:Value)(l:List Rat)(n i:Nat)(U:HX X w)(hu:RV (mk X w) u l)(z:l.length=n)(F:n<=64)(V:i<n):Calls Tryz.prog 29 #[u,.int .i64 (i:Int)] w (a2b X w RV (a1P l i)):=by
 obtain⟨ao,c,rfl,s,p⟩:=hu;rw[z]at s |-;have M:Hid ((l.take i).length=i):=hid (by rw[List.length_take];omega);have hd:Hid ((l.drop (i+1)).length=n - (i+1)):=hid (by rw[List.length_drop,z]);have N:=hid (p.take i);have B:Hid (Sl QV 3 (mk X w) (a1b ao (i+1) c 3) (l.drop (i+1))):=hid (by
  have:=p.sub (i+1) l.length c (by omega) (by omega) (c1B _);rwa[List.take_length]at this)
 have ew:IntKind.i64.wrap ((i:Int)+1)=(i:Int)+1:=IntWalk.i64_in _ (by omega);have f1:∀W,(Instr.sliceAt 24 (.slice ao n c) none (some (.int .i64 (i:Int))) none).run Tryz.prog W=.ok (.slice ao i c) W:=a2G a0x n c .i64 i (by omega);have Q:∀W,(Instr.sliceAt 24 (.slice ao n c) (some (.int .i64 ((i:Int)+1))) none none).run Tryz.prog W=.ok (.slice (a1b ao (i+1) c 3) (n - (i+1)) (c - (i+1))) W:=a2l a0x n c .i64 (i+1) (by omega) s;have h:Hid (i+(n - (i+1))=n - 1):=hid (by omega);have o:Hid (l.take i++l.drop (i+1)=a1P l i):=hid rfl;obtain⟨C,r⟩:=c1F (a1b ao (i+1) c 3);rw[r]at B Q;obtain⟨R,v⟩:=c1F (l.take i);obtain⟨S,x⟩:=c1F (l.drop (i+1));obtain⟨A,y⟩:=c1F (n - (i+1));rw[y]at hd h Q;rw[v]at M N o;rw[x]at hd B o;have L:Hid ((a1P l i).length=n - 1):=hid (by rw[a3G (by omega),z]);have Z:A<=64/\i<=64:=by omega
 have d:=c1L w;have q:=U.ext d;have J:=a4L X ao R i c w.drew M.out (N.out.mono QV.mono (a0k d)) (by omega) q;have P:=hid (B.out.mono QV.mono (a0k d));clear r v x y p N B z V F;go_enter Tryz.func29,Tryz.ntmps29
 go_upto_region 1 with fail
 refine a0n 9 (fun _=>True) (by kernel_rfl) (by kernel_rfl) trivial (fun b a=>?_);refine kt 0 a ?_;refine kt 1 a ?_;refine kt 2 a ?_;refine kt 4 a ?_;refine kt 5 a ?_;refine kt 6 a ?_;refine kt 7 a ?_;refine ks 3 (fun K g=>?_);go_simp
 (refine J.mono ?_;rintro e w4 ⟨f,T,bc,rfl,k⟩)
 refine kcn g trivial (fun b=>?_);clear g K;have I:=q.ext f;have O:Sl QV 3 (mk (un X T) w4) C S:=P.out.old QV.mono f (fun j Y=>k.ob_lt Y);refine ks 8 (fun K g=>?_)
 (refine a1T (l:=R) rfl rfl a0x rfl QV.elem f.size I S i A M.out hd.out rfl rfl k O (by omega) (by omega) ?_;intro E D w6 m G a0)
 refine kcn g trivial (fun b=>?_);clear g K;refine kl 9 (fun K g=>?_);go_simp
 refine g.out _ _ ?_;clear g K;have H:Ext w w6:=(d.trans f).own k (by have:=d.size;exact c1B _) G;rw[o.out]at m;clear b a;go_wp2_with fail
 go_ret
 exact⟨H,_,rfl,E,D,by rw[L.out,h.out];rfl,m.lenCap,m.sl QV.elem⟩
theorem b0Z{m:Mat}{i j:Nat}(a:i<m.length)(b:j<m[i].length):m[i][j]=ent m i j:=by
 unfold ent;rw[show m.getD i []=m[i]by simp[List.getD_eq_getElem?_getD,a],List.getD_eq_getElem?_getD,List.getElem?_eq_getElem b];rfl
theorem a8X{m:Mat}{n c:Nat}(h:Shp n c m)(b:n=0->c=0):colsL m=c:=by
 by_cases d:0<n
 ·have a:0<m.length:=by rw[h.1];exact d
  rw[a1i a];exact h.2 _ (c1E _)
 ·have:m= []:=List.eq_nil_of_length_eq_zero (by rw[h.1];omega)
  subst this;rw[b (by omega)];rfl
theorem a4s{R:Mem->Value->Rat->Prop}(X:Nat->Bool)(w:World)(u:Value)(m:List (List Rat))(l:SlV (SlV R 3) 1 (mk X w) u m):Calls Tryz.prog 117 #[u] w (fun e o=>o=w/\e=.returned (.int .i64 (colsL m:Int))):=by
 obtain⟨ao,r,rfl,i,a⟩:=l;have j:=a.hd;by_cases h:0<m.length
 ·obtain⟨p,q,g,c,d,k⟩:=a.row 0 h
  have n:=c.out noY w (ExtX.refl _) rfl;have b:=hid (a1i h);have f:((m.length:Int)==0)=false:=a2C (by omega);go_enter Tryz.func117,Tryz.ntmps117
  go_wp2_with (with_reducible refine a0v a0o ?_)
  go_ret
  exact⟨rfl,a0N (by rw[b.out])⟩
 ·have b:Hid (colsL m=0):=hid (by
   have:m= []:=List.eq_nil_of_length_eq_zero (by omega);subst this;rfl)
  have f:((m.length:Int)==0)=true:=a6u (by omega);go_enter Tryz.func117,Tryz.ntmps117
  go_wp2_with (with_reducible refine a0v a0o ?_)
  go_ret
  exact⟨rfl,a0N (by rw[b.out];rfl)⟩
theorem a4l{R:Mem->Value->Rat->Prop}(Y:a3K R)(X:Nat->Bool)(w:World)(u:Value)(m:List (List Rat))(hu:SlV (SlV R 3) 1 (mk X w) u m)(hl:m.length<=1099511627776):Calls Tryz.prog 115 #[u] w (a7U w (a0A m)):=by
 obtain⟨ao,F,rfl,K,B⟩:=hu;have k:=B.hd;by_cases J:96<m.length
 ·have f:Hid (false=a0A m):=hid (by
   symm;cases hf:a0A m
   ·rfl
   ·have:=(a1O.1 hf).1;omega)
  have S:(96:Int)<(m.length:Int):=by omega
  go_enter Tryz.func115,Tryz.ntmps115
  go_wp2_with fail
  go_ret
  exact⟨ExtX.refl _,a0m f.out⟩
 ·have S:¬(96:Int)<(m.length:Int):=by omega
  obtain⟨n,M⟩:=c1F m.length;have o:=hid M;have a3:n<=96:=by omega
  rw[M]at k S |-;clear M hl J K;go_enter Tryz.func115,Tryz.ntmps115
  go_wp2_with fail
  go_loopw [3] (fun c wr=>∃(i:Nat),c=.int .i64 i/\i<=n/\Hid (∀q,q<i->∀hq:q<m.length,1<=m[q].length/\m[q].length<=96/\m[q].length=colsL m)/\Ext w wr) (fun c _=>n - (intOf c).toNat)
  case atStart=>exact⟨0,rfl,Nat.zero_le _,hid (fun q hq=>by omega),ExtX.refl _⟩
  case round=>
   obtain⟨i,rfl,hi,A,r⟩:=hrel;by_cases L:i<n
   ·have l:i<m.length:=by rw[o.out];exact L
    have I:0<m.length:=by omega
    have C:=B.mono (SlV.mono Y 3) (a0k r);obtain⟨a1,c1,Z,s,v,N⟩:=C.row i l;obtain⟨a2,c2,a0,t,z,O⟩:=C.row 0 I;have e:=s.out noY wr (ExtX.refl _) rfl;have b:=t.out noY wr (ExtX.refl _) rfl;have H:∀W,(Instr.indexAt 23 (.slice ao n F) (.int .i64 (i:Int))).run Tryz.prog W=.ok (.pointer (some (adr ao i))) W:=a0y a0o ao n F .i64 i k (by omega) rfl;have G:∀W,(Instr.indexAt 23 (.slice ao n F) (.int .i64 0)).run Tryz.prog W=.ok (.pointer (some (adr ao 0))) W:=a0y a0o ao n F .i64 0 k (by omega) rfl;have j:=a1i I;have a:=hid (a5e i l);rw[<-j]at b;obtain⟨x,P⟩:=c1F (m[i].length);obtain⟨y,Q⟩:=c1F (colsL m);rw[P]at e a;rw[Q]at b a;have d:Hid (1<=x/\x<=96/\x=y->∀hq:i<m.length,1<=m[i].length/\m[i].length<=96/\m[i].length=colsL m):=hid fun h hq=>by rw[P,Q];exact h
    clear P Q j s t N O v z I l;by_cases g:x=0
    ·have T:decide ((x:Int)<1)=true:=decide_eq_true (by omega)
     have f:=hid (a.out (by omega));clear g a d;go_wp2_with fail
     go_region
     all_goals
      clear e b H G;go_wp2_with fail
      go_ret
      exact⟨r.trans (ExtX.refl wr).drew,a0m f.out⟩
    ·have T:decide ((x:Int)<1)=false:=decide_eq_false (by omega)
     by_cases E:96<x
     ·have U:decide ((96:Int)<(x:Int))=true:=decide_eq_true (by omega)
      have f:=hid (a.out (by omega));clear g a d;go_wp2_with fail
      go_region
      all_goals
       clear e b H G;go_wp2_with fail
       go_ret
       exact⟨r.trans (ExtX.refl wr).drew,a0m f.out⟩
     ·have U:decide ((96:Int)<(x:Int))=false:=decide_eq_false (by omega)
      by_cases p:x=y
      ·have V:((x:Int) !=(y:Int))=false:=b0B (by omega)
       have D:=hid (d.out ⟨by omega,by omega,p⟩);clear g p a d E;go_wp2_with fail
       go_region
       all_goals
        clear e b H G;go_wp2_with fail
        go_roundw
        case rel=>exact⟨i+1,by go_num,by omega,hid (a5b A.out D.out),r.trans (ExtX.refl wr).drew⟩
        case measure=>simp[intOf];omega
      ·have V:((x:Int) !=(y:Int))=true:=a7c (by omega)
       have f:=hid (a.out (by omega));clear g p a d E;go_wp2_with fail
       go_region
       all_goals
        clear e b H G;go_wp2_with fail
        go_ret
        exact⟨r.trans (ExtX.refl wr).drew,a0m f.out⟩
   ·have f:Hid (true=a0A m):=hid (by
     symm;exact a1O.2 ⟨by rw[o.out];omega,fun q hq=>A.out q (by rw[o.out]at hq;omega) hq⟩)
    go_wp2_with fail
    go_ret
    exact⟨r,a0m f.out⟩
section
attribute [local go_sem↓] Go.wp_at_zero Go.wp_at_succ
def b6C(X:Nat->Bool)(w:World)(S:Sr)(e:Ending)(w':World):Prop:=Ext w w'/\∃oo co po pc uf,e=.returned (.tuple #[.slice oo S.1.length co,.slice po S.2.1.length pc,uf])/\S.1.length<=co/\S.2.1.length<=pc/\Sl RC 1 (mk X w') oo S.1/\Sl (a0c .i64) 1 (mk X w') po S.2.1/\QC (mk X w') uf S.2.2
theorem a4M(X:Nat->Bool)(w:World)(u:Value)(m:List (List Rat))(n c:Nat)(hX:HX X w)(hu:MV (mk X w) u m)(i0:Shp n c m)(hc:colsL m=c)(hn:n<=900)(E1:c<=900)(hT:a7f m c):Calls Tryz.prog 119 #[u] w (b6C X w (rN m c)):=by
 obtain⟨W,hW,g6,b0,hz⟩:=a0Y w #[.bool false,.slice none 0 0,.slice none 0 0] 47;have g8:HX (a0f X w.heap.size 1) W:=hX.boxes hz;have z4:MV (mk (a0f X w.heap.size 1) W) u m:=MV.mono _ _ _ _ (a0i g6) hu;have s3:=b7F (a0f X w.heap.size 1) W u m g8 z4 (by rw[i0.1];omega) (fun r hr=>by rw[i0.2 r hr];omega);have l4:=hid i0.1;have i4:=hid i0;have C0:Hid (n=0->c=0):=hid fun h=>by
  have:m= []:=List.eq_nil_of_length_eq_zero (by rw[l4.out];exact h);rw[<-hc,this];rfl
 obtain⟨B,t8,t9⟩:=hT;have u1:=hid t9;have A:=hid t8;have f6:Hid (∀w',Le (mk (a0f X w.heap.size 1) w') (mk X w')):=hid fun w'=>a0l;have g5:Hid (a0f X w.heap.size 1 w.heap.size=true):=hid (a3B (c1B _) (by omega));obtain⟨C,n1⟩:=c1F (a0f X w.heap.size 1);obtain⟨b,hb⟩:=c1F w.heap.size;rw[n1]at g8 s3 f6 g5;rw[hb]at b0 g5;have B4:W.heap.size=b+1:=by rw[<-hb];exact hz
 have n6:Hid (w.heap.size=b):=hid hb;clear hu z4 n1 hz hb i0 t9 t8;go_enter Tryz.func119,Tryz.ntmps119
 go_wp2_with fail
 refine s3.mono ?_;rintro e w1 ⟨a3,oo,J,rfl,b4⟩;have n3:HX (un C oo) w1:=b4.unX (g8.ext a3);clear hW;rw[l4.out];go_wp2_with fail
 refine(a3n (un C oo) w1 1 n3 (by decide) (by decide)).mono ?_;rintro e w2 ⟨b3,u2,rfl,t0⟩;obtain⟨s2,a2,n2,c2,d2,k2,e2,rfl⟩:=t0.shape;have bf:=Bx.new w2 #[.bool false,.slice none 0 0,.slice none 0 0] 47;go_wp2_with ((with_reducible refine c1J ?_);refine a0a a0p rfl rfl bf rfl rfl a1s ?_;intro w3 r1 r2)
 have f7:=c1M r2;have c0:=b4.ext0 RC.elem b3;obtain⟨G,q6⟩:=c1F w2.heap.size;obtain⟨base,b6⟩:=c1F W.heap.size;have C8:=a3.size;have C9:=b3.size;have A5:RS C w b G base 24 47 3 w3 oo J none 0 m [] 1:=by
  subst q6 b6;refine⟨c0.ext RC.elem f7 (fun k _ h=>by simp[noY]at h) (fun k hk hz=>?_),OL.nil _ _ _ _ _ _,⟨s2,a2,n2,c2,d2,k2,e2,r1,QC.mono _ _ _ _ (a1g f7 (fun k _ h=>by simp[noY]at h) fun k hk hz=>?_) t0⟩,g8.ext (a3.trans (b3.trans f7)),b0.ext0 (a3.trans (b3.trans f7)),g5.out,?_,g6.trans (a3.trans (b3.trans f7)),?_,?_⟩
  ·by_cases h:C k=true
   ·exact h
   ·have h':C k=false:=by simpa using h
    have:w2.heap.size=k:=by simpa[un,a9N,ob,h']using hz
    omega
  ·by_cases h:un C oo k=true
   ·exact h
   ·have h':un C oo k=false:=by simpa using h
    obtain⟨h1,h2⟩:=a0V h';have e1:ob (none:Option Addr) k=false:=rfl;have e2:ob (some ⟨w2.heap.size,0,none⟩) k=(w2.heap.size==k):=rfl;have:w2.heap.size=k:=by simpa[un,a6G,a9N,h1,h2,e1,e2]using hz
    omega
  ·omega
  ·have:=g6.size;omega
  ·have:=g6.size;omega
 have o1:n<=J:=by have:=b4.lenCap;rw[l4.out]at this;exact this
 have e4:Hd oo n:=by have:=b4.hd;rw[l4.out]at this;exact this
 rw[q6,n6.out];clear b4 c0 t0 bf r1 r2 a3 b3 f7 C8 C9 s3 b0 g8 n3 g6 q6 b6 B4;go_loopg [5,7] c (fun g p k wr=>∃(j:Nat) (F:Option Addr) (pc z:Nat) (M:Mat) (P:List Nat) (f:Rat),k=.int .i64 j/\p=.slice F z pc/\j+g=c/\Hid (P.length=z)/\Hid (rN m j=(M,P,f))/\RS C w b G base 24 47 3 wr oo J F pc M P f)
 case atStart=>exact⟨0,none,0,0,m,[],1,rfl,rfl,by omega,hid rfl,hid rfl,A5⟩
 case round=>
  obtain⟨j,F,pc,z,M,P,f,rfl,rfl,hj,e6,i5,L⟩:=hrel;have l5:=a6d i4.out j;rw[i5.out]at l5;have hM:=hid l5.shp;have f8:Hid (M.length=n):=hid hM.out.1;have C5:z<=n:=by have h1:P.length<=n:=l5.ref.le;rw[e6.out]at h1;exact h1
  have j5:=hid (u1.out j (by omega));rw[i5.out]at j5;have h7:colsL M=c:=a8X hM.out C0.out;have k6:=a4s (R:=QC) (un (a9N C G) F) wr (.slice oo n J) M ⟨oo,J,by rw[f8.out],by rw[f8.out];exact o1,L.rows.sl RC.elem⟩;rw[h7]at k6;clear l5 h7;by_cases r3:j<c
  ·go_wp2_with fail
   refine k6.mono ?_;rintro e w2 ⟨rfl,rfl⟩;clear k6;go_wp2_with fail
   go_loopw [9] (fun a wx=>∃(t:Nat),a=.int .i64 t/\z<=t/\t<=n/\Hid (∀i,z<=i->i<t->ent M i j=0)/\RS C w b G base 24 47 3 wx oo J F pc M P f) (fun a _=>n - (intOf a).toNat)
   case atStart=>exact⟨z,rfl,c1B _,C5,hid (fun i h1 h2=>by omega),L⟩
   case round=>
    clear L;obtain⟨t,rfl,E2,E3,m2,L⟩:=hrel;by_cases l8:t<n
    ·have i6:t<M.length:=by rw[f8.out];exact l8
     obtain⟨a1,c1,t5,A2,o2,r5⟩:=L.row t i6;have r8:Hid (M[t].length=c):=hid (hM.out.2 _ (c1E _));have x4:j<M[t].length:=by rw[r8.out];exact r3
     have d0:=hid (b0Z i6 x4);rw[r8.out]at t5 o2;have x3:Hd a1 c:=by have:=r5.hd;rw[r8.out]at this;exact this
     have a0:=hid (j5.out.1 t j);have q3:=L.hz;obtain⟨g9,o9,s5,a5,n5,c5,d5,k5,e5,x0,h5,v7,i7⟩:=r5.rat QC.shaped j x4;rw[d0.out]at i7;obtain⟨x,hx⟩:=c1F (ent M t j);rw[hx]at d0 a0 i7;have m1:=hid hx;obtain⟨z9,A0,A1⟩:=v7.out noY wr (ExtX.refl _) rfl;have i1:∀W,(Instr.indexAt 23 (.slice oo n J) (.int .i64 (t:Int))).run Tryz.prog W=.ok (.pointer (some (adr oo t))) W:=a0y a0o oo n J .i64 t e4 (by omega) rfl;have i2:∀W,(Instr.indexAt 24 (.slice a1 c c1) (.int .i64 (j:Int))).run Tryz.prog W=.ok (.pointer (some ⟨g9,o9,none⟩)) W:=by rw[<-x0];exact a0e a0x a1 c c1 .i64 j x3 (by omega)
     clear hx A2 v7 x0 h5;by_cases h0:x=0
     ·have y7:(x.num.sign==(0:Int))=true:=by rw[h0];rfl
      have z8:Hid (∀i,z<=i->i<t+1->ent M i j=0):=hid fun i h1 h2=>by
       by_cases e:i=t
       ·subst e;rw[m1.out];exact h0
       ·exact m2.out i h1 (by omega)
      clear h0;go_wp2_with fail
      refine(a6B (a6G C G F oo) wr _ x q3 (i7.qv (by have:=a0.out;have:=A.out;omega))).mono ?_;rintro e w5 ⟨j6,rfl⟩;have a4:=L.ext0 j6;clear t5 z9 A0 A1 i1 i2;go_wp2_with fail
      go_roundw
      case rel=>exact⟨t+1,by go_num,by omega,by omega,z8,a4⟩
      case measure=>simp[intOf];omega
     ·have y7:(x.num.sign==(0:Int))=false:=a2C (by intro h;exact h0 (Rat.num_eq_zero.1 (Int.sign_eq_zero_iff_zero.1 h)))
      have t4:=hid h0;have x6:((t:Int)==(n:Int))=false:=a2C (by omega);clear h0;go_wp2_with fail
      refine(a6B (a6G C G F oo) wr _ x q3 (i7.qv (by have:=a0.out;have:=A.out;omega))).mono ?_;rintro e w5 ⟨j6,rfl⟩;have a4:=L.ext0 j6;clear t5 z9 A0 A1 i1 i2 L j6 q3 r5 i7 x3
      go_upto_if 46 with(fail)
      have d1:z<M.length:=by rw[f8.out];omega
      have V:z<n:=by omega
      have z3:=hid (b3l i6 d1);have b1:Hid (rN m (j+1)=(out (pv (a1e M t z) z j) z j n,P++[j],(if t - z=0 then f else - f)*ent (a1e M t z) z j)):=hid (by
       have e1:z+(t - z)=t:=by omega
       have:=b9v i4.out i5.out e6.out (a:=t - z) (by rw[e1];exact m2.out) (by omega) (by rw[e1,m1.out];exact t4.out);rw[e1]at this;exact this)
      have b9:=hid (hM.out.swap l8 V);have f0:=hid (j5.out.1.swap hM.out l8 V);have l6:Hid (ent (a1e M t z) z j≠0):=hid (by rw[a3v hM.out l8 V,if_pos rfl,m1.out];exact t4.out);have q5:=hid j5.out.2;clear y7 x6 a0 t4 d0 o2;go_cut []from 14 to 122 (fun wx=>∃f1,Hid (f1=if t - z=0 then f else - f)/\RS C w b G base 24 47 3 wx oo J F pc (a1e M t z) P f1)
      case first=>
       by_cases s4:t=z
       ·have x7:((t:Int) !=(z:Int))=false:=b0B (by omega)
        have B0:RS C w b G base 24 47 3 w5 oo J F pc (a1e M t z) P f:=by rw[s4,a5A M z d1];exact a4
        have q7:Hid (f=if t - z=0 then f else - f):=hid (if_pos (by omega)).symm;clear s4 a4;go_wp2_with fail
        go_meet
        case rel=>exact⟨f,q7,B0⟩
       ·have x7:((t:Int) !=(z:Int))=true:=a7c (by omega)
        have q7:Hid (- f=if t - z=0 then f else - f):=hid (if_neg (by omega)).symm;obtain⟨ap,cp,y1,e3,E,H⟩:=a4.row z d1;obtain⟨ax,cx,y2,p3,v8,y4⟩:=a4.row t i6;obtain⟨b4,a3⟩:=a4.rows.set1 a3L RC.elem SlV.one t i6 (.slice ap M[z].length cp) M[z] ⟨ap,cp,rfl,E,H⟩;obtain⟨u3,k3,f3,D0⟩:=b4.cell SlV.one z (by simpa using d1);obtain⟨c0,b3⟩:=b4.set1 a3L RC.elem SlV.one z (by simpa using d1) (.slice ax M[t].length cx) M[t] ⟨ax,cx,rfl,v8,y4.mono QC.mono (a0s a3 fun k hk=>a0u hk)⟩;have u4:=(a3.trans b3).drew;have c0:=c0.ext0 RC.elem (ExtX.refl (Y:=noY) _).drew;rw[z3.out]at c0;have j9:=a4.setRows u4 c0;have i1:∀W,(Instr.indexAt 23 (.slice oo n J) (.int .i64 (t:Int))).run Tryz.prog W=.ok (.pointer (some (adr oo t))) W:=a0y a0o oo n J .i64 t e4 (by omega) rfl;have i2:∀W,(Instr.indexAt 23 (.slice oo n J) (.int .i64 (z:Int))).run Tryz.prog W=.ok (.pointer (some (adr oo z))) W:=a0y a0o oo n J .i64 z e4 (by omega) rfl;clear s4 D0 b4 c0 a3 b3 a4 H y4;go_wp2_with fail
        go_region
        obtain⟨w6,m0⟩:=c1F (((w5.setCell (adr oo t) (.slice ap M[z].length cp)).setCell (adr oo z) (.slice ax M[t].length cx)).drew);rw[m0]at j9 |-;obtain⟨sf,af,nf,cf,df,kf,ef,bF,g3⟩:=j9.fac;have z0:=bF.cell 0 rfl;have z1:=bF.cell 1 rfl;have z2:=bF.cell 2 rfl;have B3:=j9.hz;clear y1 y2 e3 p3 k3 f3 i1 i2 m0 u4;go_wp2_with fail
        refine(b7D (a6G C G F oo) w6 _ f B3 (g3.qv (by have:=q5.out;have:=A.out;omega))).mono ?_;rintro e w7 ⟨j7,u7,rfl,i8⟩;obtain⟨s7,a7,n7,c7,d7,k7,e7,rfl⟩:=i8.shape;have b2:=bF.ext0 j7;have A6:=j9.ext0 j7;clear z0 z1 z2 bF;go_wp2_with ((with_reducible refine c1J ?_);refine a0a a0p rfl rfl b2 rfl rfl a1s ?_;intro w8 r1 r2)
        have q0:=A6.setFac r2 r1 (QC.mono _ _ _ _ (a0s r2 fun k hk=>a0j (a0j (a0u hk))) i8)
        go_meet
        case rel=>exact⟨- f,q7,q0⟩
      case rest=>
       obtain⟨f1,v9,f9⟩:=hcut;rw[<-v9.out]at b1;have o3:Hid (hq f1<=B):=hid (by rw[v9.out];split;exact q5.out;rw[a5R];exact q5.out);obtain⟨w6,m0⟩:∃w6,w6=wc:=⟨_,rfl⟩;subst m0;obtain⟨M1,m6⟩:=c1F (a1e M t z);rw[m6]at b1 b9 f0 l6 f9;have u5:Hid (M1.length=n):=hid b9.out.1;have a6:z<M1.length:=by rw[u5.out];exact V
       have Q:Hid (M1[z].length=c):=hid (b9.out.2 _ (c1E _));have l3:j<M1[z].length:=by rw[Q.out];exact r3
       have d0:=hid (b0Z a6 l3);have a0:=hid (f0.out z j);have C4:Hid (M1.getD z []=M1[z]):=hid (a3q a6);obtain⟨y,hy⟩:=c1F (ent M1 z j);have o5:Hid (pv M1 z j=M1.set z (M1[z].map (· *(((1:Int):Rat)/y)))):=hid (by unfold pv;rw[C4.out,hy];rfl);rw[hy]at d0 a0 l6 b1;have f4:=hid (b9.out.pv V j);have m3:=hid (f0.out.pv b9.out V j);have h9:Hid (BR B M1[z]):=hid (a5H f0.out _ (c1E _));have i1:∀W,(Instr.indexAt 23 (.slice oo n J) (.int .i64 (z:Int))).run Tryz.prog W=.ok (.pointer (some (adr oo z))) W:=a0y a0o oo n J .i64 z e4 (by omega) rfl;have I:=c1L w6;clear a4 m6 hy m1 z3;go_upto_region 15 with(fail)
       go_cut []from 14 to 122 (fun wx=>RS C w b G base 24 47 3 wx oo J F pc M1 P (f1*y))
       case first=>
        obtain⟨ap,cp,y1,e3,E,H⟩:=f9.row z a6;obtain⟨g,o,s5,a5,n5,c5,d5,k5,e5,hg,v6,c6,b7⟩:=H.rat QC.shaped j l3;obtain⟨sf,af,nf,cf,df,kf,ef,bF,g3⟩:=f9.fac;rw[d0.out]at b7;rw[Q.out]at y1 E;have q8:Hd ap c:=by have:=H.hd;rw[Q.out]at this;exact this
        have i2:∀W,(Instr.indexAt 24 (.slice ap c cp) (.int .i64 (j:Int))).run Tryz.prog W=.ok (.pointer (some ⟨g,o,none⟩)) W:=by rw[<-hg];exact a0e a0x ap c cp .i64 j q8 (by omega)
        have j4:=bF.ext0 I;have z0:=j4.cell 0 rfl;have z1:=j4.cell 1 rfl;have z2:=j4.cell 2 rfl;obtain⟨k0,k1,k2⟩:=c6.out noY w6.drew I rfl;have j3:w6.drew.cell? (adr oo z)=some (.slice ap c cp):=y1;have c4:=f9.ext0 I;have b5:=c4.hz;have y3:QV (mk (a6G C G F oo) w6.drew) (.agg #[.bool sf,.slice af nf cf,.slice df kf ef]) f1:=g3.qv (by have:=o3.out;have:=A.out;omega);have d3:QV (mk (a6G C G F oo) w6.drew) (.agg #[.bool s5,.slice a5 n5 c5,.slice d5 k5 e5]) y:=b7.qv (by have:=a0.out;have:=A.out;omega);clear H hg c6 f9 y1 e3 bF;go_wp2_with fail
        go_region_with ((go_at_call 25;(with_reducible refine(a7Z (a6G C G F oo) w6.drew _ _ f1 y b5 y3 d3).mono ?_);rintro ee w7 ⟨t1,u7,rfl,i8⟩;obtain⟨s7,a7,n7,c7,d7,k7,e7,rfl⟩:=i8.shape;have b2:=j4.ext0 t1;have g0:=b2.cell 0 rfl;have g1:=b2.cell 1 rfl;have g2:=b2.cell 2 rfl;have h0:=b2.frozen 0;have h1:=b2.frozen 1;have h2:=b2.frozen 2))
        all_goals
         obtain⟨q1,q2⟩:=b2.set3 (.bool s7) (.slice a7 n7 c7) (.slice d7 k7 e7);have q0:=(c4.ext0 t1).setFac q2 q1 (QC.mono _ _ _ _ (a0s q2 fun k hk=>a0j (a0j (a0u hk))) i8);clear z0 z1 z2 k0 k1 k2 j3 g0 g1 g2 h0 h1 h2 i2;go_wp2_with fail
         go_meet
         case rel=>exact q0
       case rest=>
        have w4:Hid (hq (f1*y)<=2*B):=hid (by have:=hq_mul f1 y;have:=o3.out;have:=a0.out;omega);obtain⟨f2,w0⟩:=c1F (f1*y);rw[w0]at w4 hcut b1;clear f9 I w0;obtain⟨w7,D1⟩:∃w7,w7=wc:=⟨_,rfl⟩;subst D1;have j8:=hcut;have I:=c1L w7;clear hcut;go_upto_region 16 with(fail)
        go_cut []from 14 to 122 (fun wx=>RS C w b G base 24 47 3 wx oo J F pc (pv M1 z j) P f2)
        case first=>
         obtain⟨ap,cp,y1,e3,E,H⟩:=j8.row z a6;obtain⟨g,o,s5,a5,n5,c5,d5,k5,e5,hg,v6,c6,b7⟩:=H.rat QC.shaped j l3;rw[d0.out]at b7;have q8:Hd ap c:=by have:=H.hd;rw[Q.out]at this;exact this
         have i2:∀W,(Instr.indexAt 24 (.slice ap c cp) (.int .i64 (j:Int))).run Tryz.prog W=.ok (.pointer (some ⟨g,o,none⟩)) W:=by rw[<-hg];exact a0e a0x ap c cp .i64 j q8 (by omega)
         have r9:RV (mk (a6G C G F oo) w7.drew) (.slice ap c cp) M1[z]:=by
          rw[<-Q.out];exact⟨ap,cp,rfl,E,H.qv fun q hq=>c1A (h9.out q hq) (by have:=A.out;omega)⟩
         rw[Q.out]at y1 E;have hS:Hid (∀W',Ext w7.drew W'->W'.cell? (adr oo z)=some (.slice ap c cp)/\W'.cell? ⟨g,o,none⟩=some (.bool s5)/\W'.cell? ⟨g,o+1,none⟩=some (.slice a5 n5 c5)/\W'.cell? ⟨g,o+2,none⟩=some (.slice d5 k5 e5)):=hid fun W' h=>by
          obtain⟨k0,k1,k2⟩:=c6.out noY W' (I.trans h) rfl;exact⟨(I.trans h).cell y1,k0,k1,k2⟩
         obtain⟨j3,k0,k1,k2⟩:=hS.out w7.drew (ExtX.refl _);have c4:=j8.ext0 I;have b5:=c4.hz;have d3:QV (mk (a6G C G F oo) w7.drew) (.agg #[.bool s5,.slice a5 n5 c5,.slice d5 k5 e5]) y:=b7.qv (by have:=a0.out;have:=A.out;omega);have A3:Hid (hq (((1:Int):Rat))<=68719476736):=hid (by decide+kernel);have C6:Hid (hq (((1:Int):Rat)/y)<=68719476736):=hid (by have h3:=hq_div ((1:Int):Rat) y;have h4:hq (((1:Int):Rat))=1:=(by decide+kernel);have:=a0.out;have:=A.out;have:=a7o y;omega);have y6:Hid (M1[z].length<=1000000):=hid (by rw[Q.out];omega);clear H hg c6 j8 y1 e3;go_wp2_with fail
         refine a0n 17 (fun w'=>w'.cell? (adr oo z)=some (.slice ap c cp)/\w'.cell? ⟨g,o,none⟩=some (.bool s5)/\w'.cell? ⟨g,o+1,none⟩=some (.slice a5 n5 c5)/\w'.cell? ⟨g,o+2,none⟩=some (.slice d5 k5 e5)) (by kernel_rfl) (by kernel_rfl) (hS.out _ (ExtX.refl _)) (fun D s=>?_);clear j3 k0 k1 k2;refine kt 0 s ?_;refine kt 1 s ?_;refine kt 2 s ?_;refine kt 3 s ?_;refine kt 4 s ?_;refine kt 5 s ?_;refine kt 7 s ?_;refine kt 8 s ?_;refine kt 9 s ?_;refine kt 10 s ?_;refine kt 11 s ?_;refine kt 12 s ?_;refine kt 13 s ?_;refine ks 6 (fun K T=>?_);go_simp
         (go_at_call 21;(with_reducible refine(a3n (a6G C G F oo) w7.drew 1 b5 (by decide) (by decide)).mono ?_);rintro ee w8 ⟨t1,u8,rfl,z5⟩)
         refine kcn T (hS.out w8 t1) (fun D=>?_);clear T K;obtain⟨s8,a8,n8,c8,d8,k8,e8,rfl⟩:=z5.shape;have B1:=b5.ext t1;have D3:=mkx QV.mono d3 t1;have z6:=z5.qv A3.out;refine ks 14 (fun K T=>?_);go_simp
         (go_at_call 134;(with_reducible refine(b9k (a6G C G F oo) w8 _ _ _ y B1 z6 D3 l6.out).mono ?_);rintro ee w9 ⟨t2,u9,rfl,i9⟩)
         refine kcn T (hS.out w9 (t1.trans t2)) (fun D=>?_);clear T K;obtain⟨s9,a9,n9,c9,d9,k9,e9,rfl⟩:=i9.shape;have b8:=t1.trans t2;have h5:=b5.ext b8;have r7:=mkx RV.mono r9 b8;have j0:=i9.qv C6.out;refine ks 15 (fun K T=>?_);go_simp
         (go_at_call 162;(with_reducible refine(b6A (a6G C G F oo) w9 _ _ _ _ h5 r7 j0 y6.out).mono ?_);rintro ee j2 ⟨t3,D8,rfl,d6⟩)
         refine kcn T (hS.out j2 (b8.trans t3)) (fun D=>?_);clear T K;obtain⟨p1,p2,rfl,h6,o7⟩:=d6;have D7:=b8.trans t3;have g7:=c4.ext0 D7;obtain⟨_,_,p0,fz,_,_⟩:=g7.row z a6;refine kt 16 s ?_;refine kl 17 (fun K T=>?_);go_simp
         refine T.out _ _ ?_;clear T K;obtain⟨m9,m4⟩:=g7.rows.set1 a3L RC.elem SlV.one z a6 (.slice p1 M1[z].length p2) (M1[z].map (· *(((1:Int):Rat)/y))) ⟨p1,p2,by rw[List.length_map],h6,o7⟩;have U:=g7.setRows m4 m9;have c3:=U;rw[<-o5.out]at c3;clear p0 fz i2 m9 m4 U D s;go_wp2_with fail
         go_meet
         case rel=>exact c3
        case rest=>
         have p9:=hcut;clear hcut j8 I i1;obtain⟨w8,D2⟩:∃w8,w8=wc:=⟨_,rfl⟩;subst D2;obtain⟨N,m7⟩:=c1F (pv M1 z j);rw[m7]at p9 b1 f4 m3;have m8:Hid (N.length=n):=hid f4.out.1;have v4:RS C w b G base 24 47 3 w8 oo J F pc (out N z j 0) P f2:=by rw[b5l];exact p9
         have n4:=hid (a5H m3.out);have k4:Hid (∀wx,OL RC 1 (un (a9N C G) F) base 24 wx oo J (out N z j n)->base<=wx.heap.size):=hid fun wx h=>by
          obtain⟨b0,o0,k4⟩:=e4 (by omega);have:=h.block (k:=b0) (by rw[k4];simp[ob]);omega
         have i1:∀W,(Instr.indexAt 23 (.slice oo n J) (.int .i64 (z:Int))).run Tryz.prog W=.ok (.pointer (some (adr oo z))) W:=a0y a0o oo n J .i64 z e4 (by omega) rfl;clear m7 p9 l3 Q d0 a0 o5 h9 l6;go_wp2_with fail
         go_loopw [10] (fun a wx=>∃(i:Nat),a=.int .i64 i/\i<=n/\RS C w b G base 24 47 3 wx oo J F pc (out N z j i) P f2) (fun a _=>n - (intOf a).toNat)
         case atStart=>exact⟨0,rfl,Nat.zero_le _,v4⟩
         case round=>
          clear v4;obtain⟨i,rfl,hi,L⟩:=hrel;by_cases B9:i<n
          ·by_cases l2:i=z
           ·have x8:((i:Int) !=(z:Int))=false:=b0B (by omega)
            have A9:RS C w b G base 24 47 3 wr oo J F pc (out N z j (i+1)) P f2:=by subst l2;rw[<-b5m];exact L
            clear l2 L;go_wp2_with fail
            go_roundw
            case rel=>exact⟨i+1,by go_num,by omega,A9⟩
            case measure=>simp[intOf];omega
           ·have x8:((i:Int) !=(z:Int))=true:=a7c (by omega)
            have l0:i<N.length:=by rw[m8.out];exact B9
            have l7:z<N.length:=by rw[m8.out];exact V
            have l1:i<(out N z j i).length:=by rw[a4K];exact l0
            have r4:z<(out N z j i).length:=by rw[a4K];exact l7
            have x1:(out N z j i)[i]=N[i]:=by rw[a5J l1 l0,if_neg (by omega)]
            have x2:(out N z j i)[z]=N[z]:=by rw[a5J r4 l7,if_neg (by omega)]
            have S:=hid (b7K (m:=N) (t:=z) (col:=j) l0 l2);rw[a3q l7]at S;obtain⟨ai,ci,y1,e3,f5,g4⟩:=L.row i l1;obtain⟨ap,cp,y2,p3,E,H⟩:=L.row z r4;rw[x1]at y1 f5 g4;rw[x2]at y2 E H;have Z:Hid (N[i].length=c):=hid (f4.out.2 _ (c1E _));have d4:Hid (N[z].length=c):=hid (f4.out.2 _ (c1E _));have p4:=hid (n4.out N[i] (c1E _));have p5:=hid (n4.out N[z] (c1E _));have r0:j<N[i].length:=by rw[Z.out];exact r3
            obtain⟨g,o,s5,a5,n5,c5,d5,k5,e5,hg,v6,c6,b7⟩:=g4.rat QC.shaped j r0;have z7:N[i].getD j 0=N[i][j]:=by rw[List.getD_eq_getElem?_getD,List.getElem?_eq_getElem r0];rfl
            rw[z7]at S;have l9:=hid (p4.out N[i][j] (c1E _));obtain⟨v,hv⟩:=c1F (N[i][j]);rw[hv]at S b7 l9;clear hv z7 x1 x2;obtain⟨row,o6⟩:=c1F (N[i]);rw[o6]at S g4 y1 f5 Z p4;obtain⟨e0,y0⟩:=c1F (N[z]);rw[y0]at S H y2 E d4 p5;have B5:Hd ai c:=by have:=g4.hd;rw[Z.out]at this;exact this
            have I:=c1L wr;have i2:∀W,(Instr.indexAt 24 (.slice ai c ci) (.int .i64 (j:Int))).run Tryz.prog W=.ok (.pointer (some ⟨g,o,none⟩)) W:=by rw[<-hg];exact a0e a0x ai c ci .i64 j B5 (by omega)
            have i3:∀W,(Instr.indexAt 23 (.slice oo n J) (.int .i64 (i:Int))).run Tryz.prog W=.ok (.pointer (some (adr oo i))) W:=a0y a0o oo n J .i64 i e4 (by omega) rfl;have C7:RV (mk (a6G C G F oo) wr.drew) (.slice ai c ci) row:=by
             rw[<-Z.out];exact⟨ai,ci,rfl,f5,g4.qv fun q hq=>c1A (p4.out q hq) (by have:=A.out;omega)⟩
            have r9:RV (mk (a6G C G F oo) wr.drew) (.slice ap c cp) e0:=by
             rw[<-d4.out];exact⟨ap,cp,rfl,E,H.qv fun q hq=>c1A (p5.out q hq) (by have:=A.out;omega)⟩
            rw[Z.out]at y1;rw[d4.out]at y2;have hS:Hid (∀W',Ext wr.drew W'->W'.cell? (adr oo i)=some (.slice ai c ci)/\W'.cell? (adr oo z)=some (.slice ap c cp)/\W'.cell? ⟨g,o,none⟩=some (.bool s5)/\W'.cell? ⟨g,o+1,none⟩=some (.slice a5 n5 c5)/\W'.cell? ⟨g,o+2,none⟩=some (.slice d5 k5 e5)):=hid fun W' h=>by
             obtain⟨k0,k1,k2⟩:=c6.out noY W' (I.trans h) rfl;exact⟨(I.trans h).cell y1,(I.trans h).cell y2,k0,k1,k2⟩
            obtain⟨j3,E0,k0,k1,k2⟩:=hS.out wr.drew (ExtX.refl _);have c4:=L.ext0 I;have b5:=c4.hz;have d3:QV (mk (a6G C G F oo) wr.drew) (.agg #[.bool s5,.slice a5 n5 c5,.slice d5 k5 e5]) v:=b7.qv (by have:=l9.out;have:=A.out;omega);have C1:Hid (hq (-v)<=68719476736):=hid (by rw[a5R];have:=l9.out;have:=A.out;omega);have h8:Hid (BR 68719476736 (e0.map (· * -v))):=hid fun q hq=>by
             obtain⟨x,hx,rfl⟩:=List.mem_map.1 hq;have h1:=p5.out x hx;have h2:=hq_mul x (-v);rw[a5R]at h2;have:=l9.out;have:=A.out;omega
            have B7:Hid (e0.length<=1000000):=hid (by rw[d4.out];omega);have B8:Hid (row.length<=1000000):=hid (by rw[Z.out];omega);have x5:Hid ((e0.map (· * -v)).length=row.length):=hid (by rw[List.length_map,d4.out,Z.out]);have o4:=hid l1;obtain⟨PR,p8⟩:=c1F (e0.map (· * -v));have v3:=hid p8;rw[p8]at S h8 x5;obtain⟨NR,p7⟩:=c1F (List.zipWith (· + ·) row PR);have u6:=hid p7;rw[p7]at S;clear g4 H hg c6 L y1 e3 y2 p3 o6 y0 l2 l0 l7 r4 b7 l1 r0 f5 E p8 p7;go_wp2_with fail
            refine a0n 21 (fun w'=>w'.cell? (adr oo i)=some (.slice ai c ci)/\w'.cell? (adr oo z)=some (.slice ap c cp)/\w'.cell? ⟨g,o,none⟩=some (.bool s5)/\w'.cell? ⟨g,o+1,none⟩=some (.slice a5 n5 c5)/\w'.cell? ⟨g,o+2,none⟩=some (.slice d5 k5 e5)) (by kernel_rfl) (by kernel_rfl) (hS.out _ (ExtX.refl _)) (fun D s=>?_);clear j3 E0 k0 k1 k2;refine kt 0 s ?_;refine kt 1 s ?_;refine kt 2 s ?_;refine kt 3 s ?_;refine kt 4 s ?_;refine kt 5 s ?_;refine kt 6 s ?_;refine kt 7 s ?_;refine kt 8 s ?_;refine kt 9 s ?_;refine kt 10 s ?_;refine kt 11 s ?_;refine kt 12 s ?_;refine kt 13 s ?_;refine kt 14 s ?_;refine kt 15 s ?_;refine kt 16 s ?_;refine ks 17 (fun K T=>?_);go_simp
            (go_at_call 84;(with_reducible refine(b7D (a6G C G F oo) wr.drew _ v b5 d3).mono ?_);rintro ee w9 ⟨t1,u9,rfl,i9⟩)
            refine kcn T (hS.out w9 t1) (fun D=>?_);clear T K;obtain⟨s9,a9,n9,c9,d9,k9,e9,rfl⟩:=i9.shape;have h5:=b5.ext t1;have r7:=mkx RV.mono r9 t1;have j0:=i9.qv C1.out;refine ks 18 (fun K T=>?_);go_simp
            (go_at_call 162;(with_reducible refine(b6A (a6G C G F oo) w9 _ _ e0 (-v) h5 r7 j0 B7.out).mono ?_);rintro ee j2 ⟨t2,D8,rfl,d6⟩)
            refine kcn T (hS.out j2 (t1.trans t2)) (fun D=>?_);clear T K;rw[v3.out]at d6;have s6:=d6.rv h8.out;obtain⟨p1,p2,rfl,h6,o7⟩:=d6;have b8:=t1.trans t2;have v5:=b5.ext b8;have y5:=mkx RV.mono C7 b8;refine ks 19 (fun K T=>?_);go_simp
            (go_at_call 163;(with_reducible refine(c0w (a6G C G F oo) j2 _ _ row _ v5 y5 s6 B8.out x5.out).mono ?_);rintro ee D9 ⟨t3,E4,rfl,o8⟩)
            refine kcn T (hS.out D9 (b8.trans t3)) (fun D=>?_);clear T K;rw[u6.out]at o8;obtain⟨t6,t7,rfl,q4,y8⟩:=o8;have U:=c4.ext0 (b8.trans t3);obtain⟨_,_,p0,fz,_,_⟩:=U.row i o4.out;refine kt 20 s ?_;refine kl 21 (fun K T=>?_);go_simp
            refine T.out _ _ ?_;clear T K;obtain⟨n0,m5⟩:=U.rows.set1 a3L RC.elem SlV.one i o4.out (.slice t6 NR.length t7) NR ⟨t6,t7,rfl,q4,y8⟩;have c3:=U.setRows m5 n0;rw[S.out]at c3;clear p0 fz i2 i3 n0 m5 U D s;go_wp2_with fail
            go_roundw
            case rel=>exact⟨i+1,by go_num,by omega,c3⟩
            case measure=>simp[intOf];omega
          ·have q9:i=n:=by omega
           subst q9;have b6:=k4.out wr L.rows;have B2:∀k,un (a9N C G) oo k=true->k<wr.heap.size:=fun k hk=>L.hz k (by
            by_cases h:a9N C G k=true
            ·exact a0j (a0j h)
            ·exact a0u (by simpa[un,h]using hk))
           have hP:=L.piv;have x9:Hid ((P++[j]).length=z+1):=hid (by rw[List.length_append,e6.out];rfl);clear i1 k4;go_wp2_with (at_builtin;refine a0t (l:=P) a6e rfl (a0c.elem .i64) b6 B2 z e6.out rfl rfl hP (.int .i64 (j:Int)) j rfl rfl (by omega) (by omega) ?_;intro D5 D4 j2 A4 j7 C2)
           have A7:=L.push j7 A4 C2;go_roundg (c - (j+1))
           case measure=>omega
           case rel=>exact⟨j+1,D5,D4,z+1,_,_,_,by go_num,rfl,by omega,x9,b1,A7⟩
    ·have q9:t=n:=by omega
     subst q9;have x6:((t:Int)==(t:Int))=true:=a6u rfl;have y9:=hid (b7L i4.out i5.out e6.out m2.out);clear m2;go_wp2_with fail
     go_roundg (c - (j+1))
     case measure=>omega
     case rel=>exact⟨j+1,F,pc,z,M,P,f,by go_num,rfl,by omega,e6,y9,L⟩
  ·have B6:j=c:=by omega
   subst B6;go_wp2_with fail
   refine k6.mono ?_;rintro e w2 ⟨rfl,rfl⟩;obtain⟨sf,af,nf,cf,df,kf,ef,bF,g3⟩:=L.fac;have O:=L.res;have z0:=bF.cell 0 rfl;have z1:=bF.cell 1 rfl;have z2:=bF.cell 2 rfl;have g0:=O.cell 0 rfl;have g1:=O.cell 1 rfl;have g2:=O.cell 2 rfl;have h0:=O.frozen 0;have h1:=O.frozen 1;have h2:=O.frozen 2;obtain⟨q1,q2⟩:=O.set3 (.bool sf) (.slice af nf cf) (.slice df kf ef);have D6:=q1.ext0 (ExtX.refl (Y:=noY) _).drew;have j1:=q2.drew;have r6:QC (mk X _) (.agg #[.bool sf,.slice af nf cf,.slice df kf ef]) f:=QC.mono _ _ _ _ (f6.out _) (QC.mono _ _ _ _ (a0s j1 fun k hk=>b3m g5.out hk) (QC.mono _ _ _ _ (a1a fun k _ hk=>a0j (a0j (a0j hk))) g3));have p6:Ext w _:=ExtX.box L.ext j1 (by rw[n6.out];exact c1B _);have s1:Sl RC 1 (mk X _) oo M:=(((L.rows.sl RC.elem).mono RC.mono (a1a fun k _ hk=>a0j (a0j hk))).mono RC.mono (a0s j1 fun k hk=>b3m g5.out hk)).mono RC.mono (f6.out _);have s0:Sl (a0c .i64) 1 (mk X _) F P:=(((L.piv.sl (a0c.elem _)).mono (a0c.mono _) (a1a fun k _ hk=>a0j (a0j hk))).mono (a0c.mono _) (a0s j1 fun k hk=>b3m g5.out hk)).mono (a0c.mono _) (f6.out _);have C3:P.length<=pc:=L.piv.lenCap;clear O bF L g3 q1 q2 j1;go_wp2_with fail
   go_region
   go_wp2_with fail
   refine bodyPost_ret (a9P (P:=Tryz.prog) (c:=4) (d:=2) (e:=3) rfl rfl a0p D6 rfl) rfl ?_;have A8:∀w9,Ext w w9->Sl RC 1 (mk X w9) oo M->Sl (a0c .i64) 1 (mk X w9) F P->QC (mk X w9) (.agg #[.bool sf,.slice af nf cf,.slice df kf ef]) f->b6C X w (rN m j) (.returned (.tuple #[.slice oo n J,.slice F z pc,.agg #[.bool sf,.slice af nf cf,.slice df kf ef]])) w9:=fun w9 p6 s1 s0 r6=>by
    rw[i5.out];exact⟨p6,oo,J,F,pc,_,by rw[f8.out,e6.out],by rw[f8.out];exact o1,C3,s1,s0,r6⟩
   exact A8 _ p6 s1 s0 r6
end
noncomputable def a9q(m:Mat)(n:Nat):Rat:=if(rN m n).2.1.length<n then 0 else(rN m n).2.2
theorem b5B{n:Nat}{m:Mat}(e:n<=4)(g:Shp n n m):a9q m n=det n (ent m):=by
 have h:=a6d g n;obtain⟨d,b,i⟩:=h.re;have c:=b.det_same e;have a:=h.ref.det e;unfold a9q;by_cases f:(rN m n).2.1.length=n
 ·rw[if_pos f]at a
  rw[if_neg (by omega)];rw[a]at c;grind
 ·have:=h.ref.le
  rw[if_neg f]at a;rw[if_pos (by omega)];rw[a]at c;have:=b.ne;grind
theorem b3G{n:Nat}{m:Mat}(a:n<=4)(b:Shp n n m):a9q m n=b9i m n:=by rw[b5B a b,a7X a b]
def b9G(X:Nat->Bool)(w:World)(S:Mat×List Nat)(e:Ending)(w':World):Prop:=Ext w w'/\∃oo co po pc,e=.returned (.tuple #[.slice oo S.1.length co,.slice po S.2.length pc,.int .i64 0])/\S.1.length<=co/\S.2.length<=pc/\Sl RC 1 (mk X w') oo S.1/\Sl (a0c .i64) 1 (mk X w') po S.2
theorem b5C(X:Nat->Bool)(w:World)(u:Value)(m:List (List Rat))(n c:Nat)(F:HX X w)(A:MV (mk X w) u m)(q:a0A m=true)(i:m.length=n)(b:colsL m=c)(E:a7f m c):Calls Tryz.prog 116 #[u] w (b9G X w ((rN m c).1,(rN m c).2.1)):=by
 obtain⟨k,l,g,_,_⟩:=a0w q;rw[i,b]at k;rw[i]at l;rw[b]at g;have d:=a4l QV.mono X w u m A (by omega);rw[q]at d;have j:=hid (fun B (h:Ext w B)=>a4M X B u m n c (F.ext h) (mkx MV.mono A h) k b (by omega) (by omega) E);obtain⟨S,z⟩:=c1F (rN m c);rw[z]at j |-;clear q z;go_enter Tryz.func116,Tryz.ntmps116
 go_wp2_with fail
 refine d.mono ?_;rintro e J ⟨f,rfl⟩;have y:=j.out J f;clear d;go_wp2_with fail
 refine y.mono ?_;rintro e x ⟨o,oo,D,H,G,U,rfl,p,r,s,t,v⟩;obtain⟨T,L,Q,M,N,P,O,rfl⟩:=v.shape;have C:=Bx.new x #[.bool false,.slice none 0 0,.slice none 0 0] 47;clear y;go_wp2_with ((with_reducible refine c1J ?_);refine a0a a0p rfl rfl C rfl rfl a1s ?_;intro K R I)
 have a:=c1M I;go_ret3
 exact⟨f.trans (o.trans a),oo,D,H,G,rfl,p,r,s.mono RC.mono (a0k a),t.mono (a0c.mono _) (a0k a)⟩
theorem b8b(X:Nat->Bool)(w:World)(u:Value)(m:List (List Rat))(n:Nat)(hX:HX X w)(Y:MV (mk X w) u m)(G:a0A m=true)(r:m.length=n)(p:colsL m=n)(hT:a7f m n):Calls Tryz.prog 118 #[u] w (fun e k=>Ext w k/\∃u,e=.returned (.tuple #[u,.int .i64 0])/\QC (mk X k) u (a9q m n)):=by
 obtain⟨i,E,V,_,_⟩:=a0w G;rw[r,p]at i;rw[r]at E;obtain⟨W,hW,o,b0,hz⟩:=a0Y w #[.bool false,.slice none 0 0,.slice none 0 0] 47;have F:HX (a0f X w.heap.size 1) W:=hX.boxes hz;have j:MV (mk (a0f X w.heap.size 1) W) u m:=MV.mono _ _ _ _ (a0i o) Y;have g:=a4l QV.mono _ W u m j (by omega);rw[G]at g;have b:=hid (fun k (h:Ext W k)=>a4s _ k u m (mkx MV.mono j h));rw[p]at b;have s:=hid (fun k (h:Ext W k)=>a4M _ k u m n n (F.ext h) (mkx MV.mono j h) i p (by omega) (by omega) hT);have hdr:Hid (a9q m n=if(rN m n).2.1.length<n then 0 else(rN m n).2.2):=hid rfl;have c:=hid ((a6d i n).ref.le);obtain⟨S,U⟩:=c1F (rN m n);rw[U]at s hdr c;obtain⟨M,P,f⟩:=S
 dsimp only at hdr c
 obtain⟨ua,a1,rfl,Z,J⟩:=Y;rw[r]at g b s |-;clear G U i j J;go_enter Tryz.func118,Tryz.ntmps118
 go_wp2_with fail
 refine g.mono ?_;rintro e w1 ⟨a,rfl⟩;have R:=b.out w1 a;clear g;go_wp2_with fail
 refine R.mono ?_;rintro e w2 ⟨rfl,rfl⟩;have T:=s.out w2 a;clear R;go_wp2_with fail
 refine T.mono ?_;rintro e v ⟨l,oo,co,po,pc,uf,rfl,a0,y,H,I,t⟩
 dsimp only at y t |-
 obtain⟨s2,a2,n2,c2,d2,k2,e2,rfl⟩:=t.shape;have Q:=Bx.new v #[.bool false,.slice none 0 0,.slice none 0 0] 47;have O:=b0.ext0 (a.trans l);obtain⟨K,z⟩:=c1F P.length;rw[z]at hdr c |-;clear T H I y z;by_cases x:K<n
 ·have q:Hid (a9q m n=0):=hid (by rw[hdr.out,if_pos x])
  go_wp2_with ((with_reducible refine c1J ?_);first|(refine a0a a0p rfl rfl Q rfl rfl a1s ?_;intro N B A;have D:=O.ext0 (ExtX.box ((ExtX.refl v).alloc _) A (c1B _)))|(refine a0a a0p rfl rfl D rfl rfl a1s ?_;intro w5 L C))
  have d:=c1M A;exact bodyPost_ret (a0C rfl rfl a0p L rfl) rfl ⟨ExtX.box (o.trans (a.trans (l.trans d))) C (by omega),_,rfl,by rw[q.out];exact QC.zero _⟩
 ·have q:Hid (a9q m n=f):=hid (by rw[hdr.out,if_neg x])
  go_wp2_with ((with_reducible refine c1J ?_);first|(refine a0a a0p rfl rfl Q rfl rfl a1s ?_;intro N B A;have D:=O.ext0 (ExtX.box ((ExtX.refl v).alloc _) A (c1B _));have k0:=B.cell 0 rfl;have k1:=B.cell 1 rfl;have k2:=B.cell 2 rfl)|(refine a0a a0p rfl rfl D rfl rfl a1s ?_;intro w5 L C))
  have d:=c1M A;have h7:=QC.mono _ _ _ _ a0l (QC.mono _ _ _ _ (a0h C (c1B _) (by omega)) (mkx QC.mono t d));exact bodyPost_ret (a0C rfl rfl a0p L rfl) rfl ⟨ExtX.box (o.trans (a.trans (l.trans d))) C (by omega),_,rfl,by rw[q.out];exact h7⟩
theorem a6K{P:Program}{t e sz a:Nat}{z:Value}{ao:Option Addr}(T:SliceT P t e sz a z)(len cap i:Nat)(g j:IntKind)(h:i<=cap)(w:World):(Instr.sliceAt t (.slice ao len cap) none (some (.int g (i:Int))) (some (.int j (i:Int)))).run P w=.ok (.slice ao i i) w:=by
 obtain⟨ti,d,hz,f,c⟩:=info_parts T.info;have b:(i:Int)<=cap:=by omega
 cases ao<;>simp[Instr.sliceAt,Instr.slice,run_underlying T.und,Instr.sliceBounds,run_sliceBound,b,sizeOf,typeInfo,d,Addr.add_zero']
theorem a8Y:SliceT Tryz.prog 65 4 1 1 (.bool false):=⟨Tryz.underlying65,by kernel_rfl⟩
def b8B(l:List Nat)(v:Nat)(r:Int):Prop:=decide ((0:Int)<=r)=decide (v∈l)
theorem b1L(X:Nat->Bool)(w:World)(ao:Option Addr)(l:List Nat)(j v:Nat)(u:Sl (a0c .i64) 1 (mk X w) ao l)(z:l.length<=1099511627776):Calls Tryz.prog 194 #[.slice ao l.length j,.int .i64 (v:Int)] w (fun e A=>A=w/\∃r:Int,e=.returned (.int .i64 r)/\b8B l v r):=by
 have t:=u.hd;obtain⟨n,o⟩:=c1F l.length;have a:=hid o;rw[o]at z t |-;clear o;go_enter Tryz.func194,Tryz.ntmps194
 go_wp2_with fail
 go_loop [8] (fun c=>∃i:Nat,c=.int .i64 i/\i<=n/\Hid (∀q,q<i->∀hq:q<l.length,l[q]≠v)) (fun c=>n - (intOf c).toNat)
 case atStart=>exact⟨0,rfl,Nat.zero_le _,hid fun q hq=>by omega⟩
 case round=>
  obtain⟨i,rfl,B,b⟩:=hrel;by_cases m:i<n
  ·have k:i<l.length:=by rw[a.out];exact m
   have s:=u.nat i k;have C:∀W,(Instr.indexAt 22 (.slice ao n j) (.int .i64 (i:Int))).run Tryz.prog W=.ok (.pointer (some (adr ao i))) W:=a0y a6e ao n j .i64 i t (by omega) rfl;obtain⟨y,f⟩:=c1F (l[i]);rw[f]at s;by_cases g:y=v
   ·have x:((v:Int)==(y:Int))=true:=a6u (by omega)
    have p:b8B l v (i:Int):=(by
     unfold b8B;rw[decide_eq_true (by omega),decide_eq_true (by rw[<-g,<-f];exact c1E _)])
    clear g f;go_wp2_with fail
    go_ret
    exact⟨rfl,_,rfl,p⟩
   ·have x:((v:Int)==(y:Int))=false:=a2C (by omega)
    have d:Hid (∀q,q<i+1->∀hq:q<l.length,l[q]≠v):=hid fun q hq h=>by
     by_cases e:q=i
     ·subst e;rw[f];exact g
     ·exact b.out q (by omega) h
    clear g f;go_wp2_with fail
    go_round
    case rel=>exact⟨i+1,by go_num,by omega,d⟩
    case measure=>simp[intOf];omega
  ·have p:b8B l v (-1):=(by
    unfold b8B;rw[decide_eq_false (by omega),decide_eq_false fun h=>by
     obtain⟨q,hq,e⟩:=List.getElem_of_mem h;exact b.out q (by have:=a.out;omega) hq e])
   go_wp2_with fail
   go_ret
   exact⟨rfl,_,rfl,p⟩
theorem a8i(X:Nat->Bool)(w:World)(ao:Option Addr)(l:List Nat)(d v:Nat)(i:Sl (a0c .i64) 1 (mk X w) ao l)(g:l.length<=1099511627776):Calls Tryz.prog 154 #[.slice ao l.length d,.int .i64 (v:Int)] w (fun e j=>j=w/\e=.returned (.bool (decide (v∈l)))):=by
 have c:=b1L X w ao l d v i g;obtain⟨b,f⟩:=c1F (decide (v∈l));unfold b8B at c;rw[f]at c |-;clear f;go_enter Tryz.func154,Tryz.ntmps154
 go_wp2_with fail
 refine c.mono ?_;rintro e k ⟨rfl,r,rfl,a⟩;have h:=hid a.symm;clear c a;go_wp2_with fail
 go_ret
 exact⟨rfl,a0m h.out.symm⟩
theorem b1M{X:Nat->Bool}{oo a:Option Addr}{w:World}(b:a=oo\/∃g,a=some ⟨g,0,none⟩/\w.heap.size<=g):∀k,k<w.heap.size->un X a k=true->un X oo k=true:=fun k e h=>by
 rcases b with rfl|⟨g,rfl,d⟩
 ·exact h
 ·by_cases c:X k=true
  ·exact a0j c
  ·exfalso
   have:g=k:=by simpa[un,c,ob]using h
   omega
def b5D(X:Nat->Bool)(w:World)(p:List Nat)(c:Nat)(e:Ending)(w':World):Prop:=Ext w w'/\∃uo uc v,e=.returned (.tuple #[.slice uo c uc,v,.int .i64 0])/\c<=uc/\Sl BlR 1 (mk X w') uo (usedL p c)
theorem b3H(X:Nat->Bool)(w:World)(u:Value)(x:Mat)(n c:Nat)(hX:HX X w)(hu:MV (mk X w) u x)(hf:a0A x=true)(hnx:x.length=n)(hcx:colsL x=c)(hn1:1<=n)(hT:b2h x c)(hbm:BM 68719476736 (a0J x c).1):Calls Tryz.prog 109 #[u] w (b5D X w (a0J x c).2 c):=by
 obtain⟨hsh,h96,hc96,hpos,_⟩:=a0w hf;rw[hnx,hcx]at hsh;rw[hnx]at h96;rw[hcx]at hc96 hpos;have hc1:=hpos (by omega);have hre:=b1D X w u x hX hu hf (by rw[hcx];exact hT);rw[hcx]at hre;obtain⟨hs2,hg,_⟩:=a1f hsh;have hpl:=hg.le;obtain⟨R,hR⟩:=c1F ((a0J x c).1);obtain⟨p,hp⟩:=c1F ((a0J x c).2);rw[hR]at hs2 hbm;rw[hp]at hpl;rw[hR,hp]at hre;have hfR:a0A R=true:=b2X hs2 h96 hc1 hc96;have hcR:colsL R=c:=a9F hs2 hn1;have htr:=hid fun w' v (h:MC (mk X w') v R) (hX:HX X w')=>a2E X w' v R n c hX (h.mv hbm) hfR hs2.1 hcR;have hts:=hid (a1B R n c);obtain⟨T,hT2⟩:=c1F (trL R n c);rw[hT2]at htr hts;rw[hp];obtain⟨pl,hpl2⟩:=c1F p.length;have hpl':=hid hpl2;rw[hpl2]at hpl;clear hR hp hfR hcR hT2 hs2 hg hbm hT hsh hu hnx hcx hpl2;go_enter Tryz.func109,Tryz.ntmps109
 go_wp2_with fail
 refine hre.mono ?_;rintro e w1 ⟨hE1,r,v,rfl,hr,po,pc,rfl,hpc,hps⟩;have hX1:=hX.ext hE1;have ht1:=htr.out w1 r hr hX1;rw[hpl'.out]at hpc;obtain⟨ro,rc,rfl,_,_⟩:=hr;clear hre htr;rw[hpl'.out];go_wp2_with fail
 refine ht1.mono ?_;rintro e w2 ⟨hE2,tv,rfl,tvo,tc,rfl,htc,hts2⟩;have hX2:=hX1.ext hE2;have hps2:=hps.mono (a0c.mono _) (a0k hE2);have hE12:=hE1.trans hE2;have htl:=hid hts.out.1;rw[hts.out.1]at htc;have hht:=hts2.hd;rw[htl.out]at hht |-;clear ht1;go_wp2_with fail
 go_loopw [2,3,27] (fun o b k wr=>∃(j:Nat) (oo:Option Addr) (co:Nat) (bo:Option Addr) (cb:Nat) (hs:List Hdr),k=.int .i64 j/\o=.slice oo j co/\b=.slice bo j cb/\j<=c/\OL BlR 1 X w2.heap.size 4 wr oo co (usedL p j)/\hs.length=j/\OL HdR 1 (un X oo) w2.heap.size 24 wr bo cb hs/\Ext w2 wr) (fun _ _ k _=>c - (intOf k).toNat)
 case atStart=>exact⟨0,none,0,none,0,[],rfl,rfl,rfl,Nat.zero_le _,OL.nil _ _ _ _ _ _,rfl,OL.nil _ _ _ _ _ _,ExtX.refl _⟩
 case round=>
  obtain⟨j,oo,co,bo,cb,hs,rfl,rfl,rfl,hj,hO,hhs,hB,hE⟩:=hrel;have hXr:HX X wr:=hX2.ext hE;have hbase:=hE.size;by_cases hlt:j<c
  ·have hjT:j<T.length:=by rw[htl.out];exact hlt
   obtain⟨a1,c1,hX1',hc1',hcl1,hq1⟩:=hts2.row j hjT;have hrl:=hts.out.2 T[j] (c1E _);rw[hrl]at hc1' hcl1;have k00:=hc1'.out noY wr hE rfl;have hco:=a8i X wr po p pc j (hps2.mono (a0c.mono _) (a0k hE)) (by rw[hpl'.out];omega);rw[hpl'.out]at hco;have hus:=hid (a7z p j);have hul:=hid (a2k p j);obtain⟨bb,hbb⟩:=c1F (decide (j∈p));rw[hbb]at hco hus;have hht':=hht;clear hc1' hq1 hrl hbb;have hhs':=hid hhs;have f1:∀W,(Instr.sliceAt 24 (.slice a1 n c1) none (some (.int .i64 (pl:Int))) (some (.int .i64 (pl:Int)))).run Tryz.prog W=.ok (.slice a1 pl pl) W:=a6K a0x n c1 pl .i64 .i64 (by omega);clear hhs;go_wp2_with (with_reducible refine a0v a0o ?_)
   refine hco.mono ?_;rintro e w5 ⟨rfl,rfl⟩;clear hco k00;go_wp2_with (first
    |(at_builtin;refine a0t (l:=usedL p j) a8Y rfl BlR.elem hbase hXr j hul.out rfl rfl hO (.bool bb) bb rfl rfl (by omega) (by omega) ?_;intro oo2 co2 w7 hO7 hE7 hor;have hB7:=hB.ext HdR.elem (Z:=un X oo2) hE7 (fun k _ hk=>a0u hk) (b1M hor);have hE27:=hE.own hO (c1B _) hE7;have hb7:=hE27.size;have hX7:=hO7.unX (hX2.ext hE27))
    |(at_builtin;refine a0t (l:=hs) a0o rfl HdR.elem hb7 hX7 j hhs'.out rfl rfl hB7 (.slice a1 pl pl) (a1,pl,pl) rfl rfl (by omega) (by omega) ?_;intro bo2 cb2 w8 hB8 hE8 hor2))
   have hO8:=hO7.frame (fun _ _ _ _ h=>h) hE8 (fun k hk=>by
    cases hbk:ob bo k
    ·rfl
    ·have:=(a0V (hB7.1 k hbk)).2;rw[hk]at this;cases this) hO7.1
   have hE28:=hE27.own hB7 (c1B _) hE8;rw[<-hus.out]at hO8;have hl8:(hs++[(a1,pl,pl)]).length=j+1:=by rw[List.length_append,hhs'.out];rfl
   go_roundw
   case rel=>exact⟨j+1,oo2,co2,bo2,cb2,_,by go_num,by go_num,by go_num,by omega,hO8,hl8,hB8,hE28⟩
   case measure=>simp[intOf];omega
  ·have hjc:j=c:=by omega
   subst hjc;have hc:=hO.lenCap;rw[a2k]at hc;have hs:=hO.sl BlR.elem;go_wp2_with fail
   go_ret3
   exact⟨hE12.trans hE,_,_,_,rfl,hc,hs⟩
theorem a9Y{p:List Nat}{i j:Nat}(h:i<p.length):decide (j∈p.take (i+1))=(decide (j∈p.take i)||decide (p[i]=j)):=by
 have e:j∈p.take (i+1)↔(j∈p.take i\/p[i]=j):=by
  rw[<-List.take_append_getElem h,List.mem_append,List.mem_singleton];exact or_congr Iff.rfl eq_comm
 rw[<-Bool.decide_or];exact decide_eq_decide.2 e
theorem b1N(X:Nat->Bool)(w:World)(u:Value)(x:Mat)(n c:Nat)(hX:HX X w)(hu:MV (mk X w) u x)(hf:a0A x=true)(hnx:x.length=n)(hcx:colsL x=c)(hn1:1<=n)(hT:a7f x c):Calls Tryz.prog 64 #[u] w (b5D X w (a0J x c).2 c):=by
 obtain⟨hsh,h96,hc96,hpos,_⟩:=a0w hf;rw[hnx,hcx]at hsh;rw[hnx]at h96;rw[hcx]at hc96 hpos;have hc1:=hpos (by omega);have hre:=b5C X w u x n c hX hu hf hnx hcx hT;have hco:=hid fun w' (h:Ext w w')=>a4s X w' u x (mkx MV.mono hu h);rw[hcx]at hco;have hok:=a6d hsh c;have hs2:=hok.shp;have hpl:=hok.ref.le;rw[(b0p hsh).2];obtain⟨R,hR⟩:=c1F ((rN x c).1);obtain⟨p,hp⟩:=c1F ((rN x c).2.1);rw[hR]at hs2;rw[hp]at hpl;rw[hR,hp]at hre;rw[hp];obtain⟨pl,hpl2⟩:=c1F p.length;have hpl':=hid hpl2;rw[hpl2]at hpl;have hRs:=hid hs2;obtain⟨ua,uca,rfl,huca,hua⟩:=hu;clear hR hp hs2 hT hsh hnx hcx hpl2 hok hf huca hua;go_enter Tryz.func64,Tryz.ntmps64
 go_wp2_with fail
 refine hre.mono ?_;rintro e w1 ⟨hE1,ro,rc,po,pc,rfl,hrc,hpc,hrs,hps⟩;have hX1:=hX.ext hE1
 dsimp only at hrc hpc hrs hps |-
 rw[hpl'.out]at hpc |-;have hRl:=hid hRs.out.1;have hhr:=hrs.hd;have hhp:=hps.hd;rw[hRl.out]at hrc hhr |-;rw[hpl'.out]at hhp;clear hre;go_wp2_with fail
 go_loopw [8,9,10] (fun o b k wr=>∃(j:Nat) (oo:Option Addr) (co:Nat) (bo:Option Addr) (cb:Nat) (hs:List Hdr),k=.int .i64 j/\o=.slice oo j co/\b=.slice bo j cb/\j<=c/\OL BlR 1 X w1.heap.size 4 wr oo co (usedL p j)/\hs.length=j/\OL HdR 1 (un X oo) w1.heap.size 24 wr bo cb hs/\Ext w1 wr) (fun _ _ k _=>c - (intOf k).toNat)
 case atStart=>exact⟨0,none,0,none,0,[],rfl,rfl,rfl,Nat.zero_le _,OL.nil _ _ _ _ _ _,rfl,OL.nil _ _ _ _ _ _,ExtX.refl _⟩
 case round=>
  obtain⟨j,oo,co,bo,cb,hs,rfl,rfl,rfl,hj,hO,hhs,hB,hE⟩:=hrel;have hXr:HX X wr:=hX1.ext hE;have hbase:=hE.size;have hcr:=hco.out wr (hE1.trans hE);by_cases hlt:j<c
  ·have hus:=hid (a7z p j)
   have hul:=hid (a2k p j);have hhs':=hid hhs;clear hhs;have hXu:HX (un X oo) wr:=hO.unX hXr;have hXb:HX (un (un X oo) bo) wr:=hB.unX hXu;go_wp2_with fail
   refine hcr.mono ?_;rintro e w5 ⟨rfl,rfl⟩;clear hcr;obtain⟨wo,hwo⟩:∃wo,wo=w5:=⟨_,rfl⟩;subst hwo;go_wp2_with fail
   go_loopw [11,12,13] (fun o l k wr=>∃(i:Nat) (bb:Bool) (lo:Option Addr) (lc:Nat) (L:List Rat),k=.int .i64 i/\o=.bool bb/\l=.slice lo i lc/\i<=pl/\Hid (bb=decide (j∈p.take i))/\L.length=i/\OL QC 3 (un (un X oo) bo) wo.heap.size 47 wr lo lc L/\Ext wo wr) (fun _ _ k _=>pl - (intOf k).toNat)
   case atStart=>exact⟨0,false,none,0,[],rfl,rfl,rfl,Nat.zero_le _,hid (by simp),rfl,OL.nil _ _ _ _ _ _,ExtX.refl _⟩
   case round=>
    obtain⟨i,bb,lo,lc,L,rfl,rfl,rfl,hi,hbb,hLl,hL,hEi⟩:=hrel;have hXi:HX (un (un X oo) bo) wr:=hXb.ext hEi;have hbi:=hEi.size;by_cases hli:i<pl
    ·have hip:i<p.length:=by rw[hpl'.out];exact hli
     have hiR:i<R.length:=by rw[hRl.out];omega
     have hLl':=hid hLl;have hrl:=hRs.out.2 R[i] (c1E _);have hjr:j<R[i].length:=by rw[hrl];exact hlt
     have k00:=(hps.mono (a0c.mono _) (a0k (hE.trans hEi))).nat i hip;have hEl:Ext w1 wr:=hE.trans hEi;have hrs1:Sl RC 1 (mk (un (un (un X oo) bo) lo) wr) ro R:=hrs.mono RC.mono (a1g hEl (fun k _ hk=>by simp[noY]at hk) fun k hk hz=>by
      by_cases hx:X k=true
      ·exact hx
      ·exfalso
       have e1:ob oo k=false:=hO.ob_lt hk;have e2:ob bo k=false:=hB.ob_lt hk;have e3:ob lo k=false:=hL.ob_lt (c1C hk hE.size);simp[un,hx,e1,e2,e3]at hz)
     obtain⟨a1,c1,hX1',hc1',hcl1,hq1⟩:=hrs1.row i hiR;have k10:=hc1'.out noY wr (ExtX.refl _) rfl;rw[hrl]at k10;have hh1:Hd a1 c:=by have:=hq1.hd;rw[hrl]at this;exact this
     have hbn:=hid (a9Y (j:=j) hip);obtain⟨y,hy⟩:=c1F (p[i]);rw[hy]at k00 hbn;have ip:∀W,(Instr.indexAt 22 (.slice po pl pc) (.int .i64 (i:Int))).run Tryz.prog W=.ok (.pointer (some (adr po i))) W:=a0y a6e po pl pc .i64 i hhp (by omega) rfl;have ir:∀W,(Instr.indexAt 23 (.slice ro n rc) (.int .i64 (i:Int))).run Tryz.prog W=.ok (.pointer (some (adr ro i))) W:=a0y a0o ro n rc .i64 i hhr (by omega) rfl;have hdl:∀b2,Hid (b2=decide (j∈p.take (i+1)))->∀{lo2:Option Addr} {lc2:Nat} {w9:World},OL QC 3 (un (un X oo) bo) wo.heap.size 47 w9 lo2 lc2 (L++[R[i][j]])->Ext wo w9->∃(i':Nat) (bb:Bool) (lo:Option Addr) (lc:Nat) (L:List Rat),Value.int IntKind.i64 ((i+1:Nat):Int)=.int .i64 i'/\Value.bool b2=.bool bb/\Value.slice lo2 (i+1) lc2=.slice lo i' lc/\i'<=pl/\Hid (bb=decide (j∈p.take i'))/\L.length=i'/\OL QC 3 (un (un X oo) bo) wo.heap.size 47 w9 lo lc L/\Ext wo w9:=fun b2 hb2 lo2 lc2 w9 h1 h2=>⟨i+1,b2,lo2,lc2,_,rfl,rfl,rfl,by omega,hb2,by rw[List.length_append,hLl'.out];rfl,h1,h2⟩;clear hc1' hrl hy hLl;cases bb
     ·by_cases hyj:y=j
      ·have hd:((y:Int)==(j:Int))=true:=a6u (by omega)
       have hb2:Hid (true=decide (j∈p.take (i+1))):=hid (by rw[hbn.out,decide_eq_true hyj,Bool.or_true]);clear hyj;go_wp2_with (first|(with_reducible refine a1w a0x ?_)|((with_reducible refine c1K (t:=47) ?_);refine a0z a0p j hq1 hjr rfl (by simp) QC.agg ?_;intro u5 hu5;obtain⟨s5,a5,n5,c5,d5,m5,e5,rfl⟩:=hu5.shape)|(at_builtin;refine a0t (l:=L) a0x rfl QC.elem hbi hXi i hLl'.out rfl rfl hL (.agg #[.bool s5,.slice a5 n5 c5,.slice d5 m5 e5]) R[i][j] rfl hu5 (by omega) (by omega) ?_;intro lo2 lc2 w7 hL7 hE7 hor))
       go_roundw
       case rel=>exact hdl true hb2 hL7 (hEi.own hL (c1B _) hE7)
       case measure=>simp[intOf];omega
      ·have hd:((y:Int)==(j:Int))=false:=a2C (by omega)
       have hb2:Hid (false=decide (j∈p.take (i+1))):=hid (by rw[hbn.out,decide_eq_false hyj,<-hbb.out];rfl);clear hyj;go_wp2_with (first|(with_reducible refine a1w a0x ?_)|((with_reducible refine c1K (t:=47) ?_);refine a0z a0p j hq1 hjr rfl (by simp) QC.agg ?_;intro u5 hu5;obtain⟨s5,a5,n5,c5,d5,m5,e5,rfl⟩:=hu5.shape)|(at_builtin;refine a0t (l:=L) a0x rfl QC.elem hbi hXi i hLl'.out rfl rfl hL (.agg #[.bool s5,.slice a5 n5 c5,.slice d5 m5 e5]) R[i][j] rfl hu5 (by omega) (by omega) ?_;intro lo2 lc2 w7 hL7 hE7 hor))
       go_roundw
       case rel=>exact hdl false hb2 hL7 (hEi.own hL (c1B _) hE7)
       case measure=>simp[intOf];omega
     ·have hb2:Hid (true=decide (j∈p.take (i+1))):=hid (by rw[hbn.out,<-hbb.out];rfl)
      go_wp2_with (first|(with_reducible refine a1w a0x ?_)|((with_reducible refine c1K (t:=47) ?_);refine a0z a0p j hq1 hjr rfl (by simp) QC.agg ?_;intro u5 hu5;obtain⟨s5,a5,n5,c5,d5,m5,e5,rfl⟩:=hu5.shape)|(at_builtin;refine a0t (l:=L) a0x rfl QC.elem hbi hXi i hLl'.out rfl rfl hL (.agg #[.bool s5,.slice a5 n5 c5,.slice d5 m5 e5]) R[i][j] rfl hu5 (by omega) (by omega) ?_;intro lo2 lc2 w7 hL7 hE7 hor))
      go_roundw
      case rel=>exact hdl true hb2 hL7 (hEi.own hL (c1B _) hE7)
      case measure=>simp[intOf];omega
    ·have hip:i=pl:=by omega
     subst hip;have hbb2:=hid hbb.out;rw[c1D (by rw[hpl'.out];exact c1B _)]at hbb2;have hO2:=hO.ext0 BlR.elem hEi;have hB2:=hB.ext0 HdR.elem hEi;have hE2:=hE.trans hEi;have hX2:=hX1.ext hE2;have hb2:=hE2.size;clear hL hbb;go_wp2_with (first
      |(at_builtin;refine a0t (l:=usedL p j) a8Y rfl BlR.elem hb2 hX2 j hul.out rfl rfl hO2 (.bool bb) bb rfl rfl (by omega) (by omega) ?_;intro oo2 co2 w7 hO7 hE7 hor;have hB7:=hB2.ext HdR.elem (Z:=un X oo2) hE7 (fun k _ hk=>a0u hk) (b1M hor);have hE27:=hE2.own hO2 (c1B _) hE7;have hb7:=hE27.size;have hX7:=hO7.unX (hX1.ext hE27))
      |(at_builtin;refine a0t (l:=hs) a0o rfl HdR.elem hb7 hX7 j hhs'.out rfl rfl hB7 (.slice lo i lc) (lo,i,lc) rfl rfl (by omega) (by omega) ?_;intro bo2 cb2 w8 hB8 hE8 hor2))
     have hO8:=hO7.frame (fun _ _ _ _ h=>h) hE8 (fun k hk=>by
      cases hbk:ob bo k
      ·rfl
      ·have:=(a0V (hB7.1 k hbk)).2;rw[hk]at this;cases this) hO7.1
     have hE28:=hE27.own hB7 (c1B _) hE8;rw[hbb2.out,<-hus.out]at hO8;have hl8:(hs++[(lo,i,lc)]).length=j+1:=by rw[List.length_append,hhs'.out];rfl
     go_roundw
     case rel=>exact⟨j+1,oo2,co2,bo2,cb2,_,by go_num,by go_num,by go_num,by omega,hO8,hl8,hB8,hE28⟩
     case measure=>simp[intOf];omega
  ·have hjc:j=c:=by omega
   subst hjc;have hc:=hO.lenCap;rw[a2k]at hc;have hs:=hO.sl BlR.elem;go_wp2_with fail
   refine hcr.mono ?_;rintro e w5 ⟨rfl,rfl⟩;go_wp2_with fail
   go_ret3
   exact⟨hE1.trans hE,_,_,_,rfl,hc,hs⟩
end Go.Proofs.YtjmnhbebpffoaaaGreat
