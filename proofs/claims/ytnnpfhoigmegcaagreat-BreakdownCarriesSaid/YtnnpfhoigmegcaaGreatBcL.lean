/- Parts of a proof: each theorem states what it proves, and its conditions. -/
import Derived.Test.YtnnpfhoigmegcaaGreatBcK
import Derived.Deep.DrawnRows
import Derived.Deep.LoopGhost
import Derived.IntWalk
import Derived.WalkKit
import Derived.ProofKit
import Derived.OpenShut
import Derived.ShutString
import Derived.ChangeOld
import Derived.Below
import Derived.Deep.Slices
import Derived.Deep.Fields
import Derived.ChangeSame
import Derived.Test.YtnnpfhoigmegcaaGreatRows
import Derived.JoinedOf
set_option maxRecDepth 100000
set_option maxHeartbeats 6400000
namespace Go.Lin
open Go.Lim Go.Rep
theorem a9e{q:Rat}:0<q.num.sign↔0<q:=by
 have a:=a5n (q:=q);have b:=a6L (q:=q);have c:0<q.num.sign↔¬q.num.sign<0/\¬q.num.sign=0:=by omega
 rw[c,a,b];constructor
 ·intro h;have:=h.1;have:=h.2;grind
 ·intro h;exact⟨by grind,by grind⟩
theorem b3h{S:List Rat}{z x:Rat}{a n:Nat}(h:S.length=n)(g:a<=n):((S++[z]).take (a+1)++((S++[z]).drop a).take (n+1 - (a+1))).set a x=S.take a++x::S.drop a:=by
 refine List.ext_getElem (by simp;omega) fun j c f=>?_;simp only[List.length_set,List.length_append,List.length_take,List.length_drop,List.length_cons,List.length_nil]at c;rw[List.getElem_set];by_cases e:a=j
 ·subst e
  have b:(S.take a).length=a:=by rw[List.length_take];omega
  rw[if_pos rfl,List.getElem_append_right (by omega)];simp[b]
 ·rw[if_neg e]
  by_cases d:j<a
  ·rw[List.getElem_append_left (by simp;omega),List.getElem_append_left (by simp;omega),List.getElem_take,List.getElem_take,List.getElem_append_left (by omega)]
  ·rw[List.getElem_append_right (by simp;omega),List.getElem_append_right (by simp;omega),List.getElem_take,List.getElem_drop,List.getElem_append_left (by simp;omega),List.getElem_cons,dif_neg (by simp;omega),List.getElem_drop]
   congr 1
   simp only[List.length_take,List.length_append,List.length_singleton];omega
theorem b5w{S l:List Rat}{F:Nat->List Rat}{x:Rat}{i:Nat}(hF:∀i,srt (l.take i)=F i)(g:F i=S)(hi:i<l.length)(hx:l[i]=x)(a:Nat)(m:a<=S.length)(d:∀j (b:j<S.length),a<=j->x<S[j])(f:∀h:0<a,S[a - 1]'(by omega)<=x):S.take a++x::S.drop a=F (i+1):=by
 subst hx;obtain rfl:srt (l.take i)=S:=(hF i).trans g;rw[<-hF,List.take_succ_eq_append_getElem hi];refine(b4Q ⟨fun x hx=>?_,fun x hx=>?_⟩).symm
 ·obtain⟨j,b,rfl⟩:=List.getElem_of_mem hx
  simp only[List.length_take]at b;rw[List.getElem_take];have k:=List.pairwise_iff_getElem.1 (a5X (l.take i));have c:=f (by omega);by_cases e:j=a - 1
  ·subst e;exact c
  ·exact Rat.le_trans (k j (a - 1) (by omega) (by omega) (by omega)) c
 ·obtain⟨j,b,rfl⟩:=List.getElem_of_mem hx
  simp only[List.length_drop]at b;rw[List.getElem_drop];exact Rat.le_of_lt (d _ (by omega) (by omega))
end Go.Lin
namespace Go.Proofs.YtnnpfhoigmegcaaGreat
open Go.RowKit Go.Rep Go.Lim Go.Lin
theorem b1w(X:Nat->Bool)(w:World)(u:Value)(l:List Rat)(B:Nat)(hX:HX X w)(hu:RV (mk X w) u l)(hl:l.length<=1000)(hB:BR B l)(hBB:B<=34359738367):Calls Tryz.prog 192 #[u] w (fun e w'=>Ext w w'/\∃oo co,e= .returned (.slice oo l.length co)/\OL QC 3 X w.heap.size 41 w' oo co (srt l)):=by
 obtain⟨ao,ca,rfl,hca,hsa⟩:=hu;have hha:=hsa.hd;obtain⟨n,hn⟩:∃n,l.length=n:=⟨_,rfl⟩;have hn':=hid hn;rw[hn]at hl hca hha |-;have hsl:=hid fun i (h:i<=n)=>(by rw[a1W,List.length_take,hn];omega:(srt (l.take i)).length=i);have hsB:=hid fun i q (h:q∈srt (l.take i))=>hB q (List.mem_of_mem_take ((a1l _).mem_iff.1 h));have h0:srt (l.take 0)= []:=by simp[srt]
 have hall:=hid (show srt (l.take n)=srt l by rw[<-hn,List.take_length]);obtain⟨F,hFi⟩:∃F:Nat->List Rat,∀i,srt (l.take i)=F i:=⟨_,fun _=>rfl⟩;simp only[hFi]at hsl hsB h0 hall;have hFi':=hid hFi;have hB':=hid hB;clear hn hB hFi;go_enter Tryz.func192,Tryz.ntmps192
 go_wp2_with fail
 go_loopw [3,9] (fun o cc wr=>∃(i:Nat) (oo:Option Addr) (co:Nat),cc= .int .i64 i/\o= .slice oo i co/\i<=n/\OL QC 3 X w.heap.size 41 wr oo co (F i)/\Ext w wr) (fun _ cc _=>n - (intOf cc).toNat)
 case atStart=>exact⟨0,none,0,rfl,rfl,Nat.zero_le _,by rw[h0];exact OL.nil _ _ _ _ _ _,ExtX.refl _⟩
 case round=>
  clear h0;obtain⟨i,oo,co,rfl,rfl,hi,hO,hE⟩:=hrel;have hXr:HX X wr:=hX.ext hE;have hXu:HX (un X oo) wr:=hO.unX hXr;have hbase:=hE.size;by_cases hlt:i<n
  ·have hil:i<l.length:=by rw[hn'.out];exact hlt
   have hq2:Sl QV 3 (mk (un X oo) wr) ao l:=hsa.old QV.mono hE (fun j hj=>hO.ob_lt hj);have hSl:=hsl.out i hi;have hSB:=hid (hsB.out i);have hxB:=hB'.out _ (List.getElem_mem hil);have bx:=Bx.new wr #[.bool false, .slice none 0 0, .slice none 0 0] 41;obtain⟨x,hx⟩:∃x,l[i]=x:=⟨_,rfl⟩;have hx':=hid hx;obtain⟨S,hS⟩:∃S,F i=S:=⟨_,rfl⟩;have hpt:=hid (b5w hFi'.out hS hil hx);rw[hS]at hO hSl hSB;rw[hx]at hxB;have hSl':=hid hSl;clear hx hS hSl;go_wp2_with (first|(with_reducible refine a1E a1b (by omega) (by assumption) ?_)|((with_reducible show wpList _ _ _ (⟨_, .load 41 _,_,_,_,_⟩::_) _ _);refine a1g a0j i hq2 hil rfl (by simp) QV.agg ?_;intro u5 hu5;rw[hx'.out]at hu5;obtain⟨s5,a5,n5,c5,d5,k5,e5,rfl⟩:=hu5.shape)|((with_reducible show wpList _ _ _ (⟨_, .store 41 _ _,_,_,_,_⟩::_) _ _);refine a0a a0j rfl rfl bx rfl rfl (a1q _ _ _ _ _ _ _) ?_;intro w5 r1 r2;have k0:w5.cell? ⟨wr.heap.size,0,none⟩=some (.bool s5):=r1.cell 0 rfl;have k1:w5.cell? ⟨wr.heap.size,1,none⟩=some (.slice a5 n5 c5):=r1.cell 1 rfl;have k2:w5.cell? ⟨wr.heap.size,2,none⟩=some (.slice d5 k5 e5):=r1.cell 2 rfl))
   clear k0 k1 k2;obtain⟨g,hg⟩:∃g,wr.heap.size=g:=⟨_,rfl⟩;have hE5:Ext wr w5:=ExtX.box ((ExtX.refl wr).alloc _) r2 (Nat.le_refl _);have hgo:w.heap.size<=g:=by omega
   have hgoo:ob oo g=false:=by
    cases h:ob oo g
    ·rfl
    ·have:=(hO.block h).2;omega
   obtain⟨Z,hZ⟩:∃Z,un X (some ⟨g,0,none⟩)=Z:=⟨_,rfl⟩;have hZX:∀k,k<g->Z k=true->X k=true:=fun k hk h=>by
    rw[<-hZ]at h;cases hx:X k
    ·have:ob (some ⟨g,0,none⟩) k=true:=by simpa[un,hx]using h
     have:g=k:=by simpa[ob]using this
     omega
    ·rfl
   have hXZ:∀k,X k=true->Z k=true:=fun k h=>by rw[<-hZ];exact a0v h
   have hgZ:∀k,ob (some ⟨g,0,none⟩) k=true->Z k=true:=fun k h=>by rw[<-hZ];exact a0A h
   have hO5:OL QC 3 Z w.heap.size 41 w5 oo co S:=hO.ext QC.elem hE5 (fun k _ hk=>by simp[noY]at hk) (by rw[hg];exact hZX);have hZ5:HX Z w5:=fun k hk=>by
    rw[<-hZ]at hk;have hs5:=hE5.size;have hg5:=r1.lt;cases hx:X k
    ·have:ob (some ⟨g,0,none⟩) k=true:=by simpa[un,hx]using hk
     have:g=k:=by simpa[ob]using this
     omega
    ·have:=hXr k hx;omega
   have hx5:QV (mk (un Z oo) w5) (.agg #[.bool s5, .slice a5 n5 c5, .slice d5 k5 e5]) x:=QV.mono _ _ _ _ (a0Z hE5 (fun k _ hk=>by simp[noY]at hk) (fun k hk h=>by
    have hk':k<g:=by omega
    cases ho:ob oo k
    ·have:Z k=true:=by simpa[un,ho]using h
     exact a0v (hZX k hk' this)
    ·exact a0A ho)) hu5
   rw[hg]at r1;rw[hg];have hXo5:HX (un Z oo) w5:=hO5.unX hZ5;have hcl:=b3g (un Z oo) w5 _ x hXo5 hx5;clear hu5 bx r2 hq2 hZX hO;refine hcl.mono ?_;rintro e w6 ⟨hE6,u6,rfl,hu6⟩;obtain⟨s6,a6,n6,c6,d6,k6,e6,rfl⟩:=hu6.shape;have r6:=r1.ext0 hE6;have hO6:=hO5.ext0 QC.elem hE6;clear hcl r1 hx5 hO5;go_wp2_with ((with_reducible show wpList _ _ _ (⟨_, .store 41 _ _,_,_,_,_⟩::_) _ _);refine a0a a0j rfl rfl r6 rfl rfl (a1q _ _ _ _ _ _ _) ?_;intro w7 r7 y7)
   have hO7:OL QC 3 Z w.heap.size 41 w7 oo co S:=hO6.ext QC.elem y7 (fun k _ h=>hgZ k h) (fun k _ h=>h);have hu7:QC (mk (un Z oo) w7) (.agg #[.bool s6, .slice a6 n6 c6, .slice d6 k6 e6]) x:=QC.mono _ _ _ _ (a0E y7 (fun k h=>a0v (hgZ k h))) hu6;have hE7:Ext w w7:=hE.trans ((hE5.trans hE6).then_ y7 (fun k hk _=>by
    cases h:ob (some ⟨g,0,none⟩) k
    ·rfl
    ·have:g=k:=by simpa[ob]using h
     omega))
   have hX7:HX (un Z oo) w7:=(hXo5.ext hE6).ext y7;have hZ7:HX Z w7:=(hZ5.ext hE6).ext y7;have hgw7:=r7.lt;clear hO6 hu6 r6 y7 hE5 hE6 hXo5 hZ5 hE hXu hXr hg;go_wp2_with fail
   go_loopw [6] (fun o wq=>∃at_:Nat,o= .int .i64 at_/\at_<=i/\Hid (∀j (hj:j<S.length),at_<=j->x<S[j])/\Ext w7 wq) (fun o _=>(intOf o).toNat)
   case atStart=>exact⟨i,rfl,Nat.le_refl _,hid fun j hj h=>by have:=hSl'.out;omega,ExtX.refl _⟩
   case round=>
    obtain⟨at_,rfl,hat,hgt,hEq⟩:=hrel;have hOq:=hO7.ext0 QC.elem hEq;have huq:=mkx QC.mono hu7 hEq;have rq:=r7.ext0 hEq;have hXq:=hX7.ext hEq;have hEd:Ext wr wr.drew:=(ExtX.refl wr).drew;obtain⟨c,hc⟩:∃c:Bool,c=true↔∃h:0<at_/\at_ - 1<S.length,x<S[at_ - 1]:=by
     by_cases h:∃h:0<at_/\at_ - 1<S.length,x<S[at_ - 1]
     ·exact⟨true,by simp[h]⟩
     ·exact⟨false,by simp[h]⟩
    have hc':=hid hc;go_upto_region 7 with fail
    (try simp only[Act.put])
    go_cut [28]from 17 to 27 (fun q wx=>q= .bool c/\Ext wr wx)
    case first=>
     rcases Nat.eq_zero_or_pos at_ with hm|hm
     ·subst hm
      have hcf:c=false:=by
       cases hcc:c
       ·rfl
       ·obtain⟨⟨h1,_⟩,_⟩:=hc.1 hcc
        omega
      clear hc;refine a0K 11 (fun _=>True) (by kernel_rfl) (by kernel_rfl) trivial (fun hHeld hOnce=>?_);refine kt 0 hOnce ?_;refine kt 1 hOnce ?_;refine kt 2 hOnce ?_;refine ku 3 hOnce ?_;refine ku 4 hOnce ?_;refine ku 5 hOnce ?_;refine ku 6 hOnce ?_;refine ku 7 hOnce ?_;refine ku 8 hOnce ?_;refine ku 9 hOnce ?_;refine ku 10 hOnce ?_;refine kl 11 (fun K hK=>?_);go_simp
      refine hK.out _ _ ?_;clear hK K;go_wp2_with fail
      go_meet
      case rel=>exact⟨by rw[hcf],hEd⟩
     ·have hml:at_ - 1<S.length:=by rw[hSl'.out];omega
      obtain⟨g2,o2,s8,a8,n8,c8,d8,k8,e8,hg2,hy2,hc2,hq2⟩:=hOq.rat QC.shaped (at_ - 1) hml;have hhd:Hd oo i:=by have:=hOq.hd;rw[hSl'.out]at this;exact this
      have d0:decide ((0:Int)<(at_:Int))=true:=decide_eq_true (by omega);have ew:IntKind.i64.wrap ((at_:Int) - 1)=(at_:Int) - 1:=IntWalk.i64_in _ (by omega);have i2:∀W,(Instr.indexAt 26 (.slice oo i co) (.int .i64 ((at_:Int) - 1))).run Tryz.prog W= .ok (.pointer (some ⟨g2,o2,none⟩)) W:=by
       rw[<-hg2,show((at_:Int) - 1)=((at_ - 1:Nat):Int)by omega];exact a0o a1b oo i co .i64 (at_ - 1) hhd (by omega)
      have hS:Hid (∀w',Ext wr w'->w'.cell? ⟨g2,o2,none⟩=some (.bool s8)/\w'.cell? ⟨g2,o2+1,none⟩=some (.slice a8 n8 c8)/\w'.cell? ⟨g2,o2+2,none⟩=some (.slice d8 k8 e8)/\w'.cell? ⟨g,0,none⟩=some (.bool s6)/\w'.cell? ⟨g,1,none⟩=some (.slice a6 n6 c6)/\w'.cell? ⟨g,2,none⟩=some (.slice d6 k6 e6)):=hid fun w' h=>
       ⟨(hc2.out _ _ h rfl).1,(hc2.out _ _ h rfl).2.1,(hc2.out _ _ h rfl).2.2,(rq.ext0 h).cell 0 rfl,(rq.ext0 h).cell 1 rfl,(rq.ext0 h).cell 2 rfl⟩
      have hDB:hq S[at_ - 1]<=B:=hSB.out _ (List.getElem_mem hml);have hcm:=hid (a6R (un Z oo) wr.drew _ _ S[at_ - 1] x (hXq.ext hEd) ((mkx QC.mono hq2 hEd).qv (by omega)) ((mkx QC.mono huq hEd).qv (by omega)) (Nat.le_trans (a8t _ _) (by omega)));have hcs:Hid (decide ((0:Int)<(S[at_ - 1] - x).num.sign)=c):=hid (by
       rw[Bool.eq_iff_iff,decide_eq_true_eq,hc];rw[a9e];have e1:0<S[at_ - 1] - x↔x<S[at_ - 1]:=by constructor<;>intro h<;>grind
       rw[e1];exact⟨fun h=>⟨⟨hm,hml⟩,h⟩,fun⟨_,h⟩=>h⟩)
      obtain⟨sg,hsg⟩:∃sg,(S[at_ - 1] - x).num.sign=sg:=⟨_,rfl⟩;rw[hsg]at hcm hcs;clear hg2 hy2 hc2 hq2 hsg hc;refine a0K 11 (fun w'=>w'.cell? ⟨g2,o2,none⟩=some (.bool s8)/\w'.cell? ⟨g2,o2+1,none⟩=some (.slice a8 n8 c8)/\w'.cell? ⟨g2,o2+2,none⟩=some (.slice d8 k8 e8)/\w'.cell? ⟨g,0,none⟩=some (.bool s6)/\w'.cell? ⟨g,1,none⟩=some (.slice a6 n6 c6)/\w'.cell? ⟨g,2,none⟩=some (.slice d6 k6 e6)) (by kernel_rfl) (by kernel_rfl) (hS.out _ hEd) (fun hHeld hOnce=>?_);refine kt 0 hOnce ?_;refine kt 1 hOnce ?_;refine kt 2 hOnce ?_;refine kt 3 hOnce ?_;refine kt 4 hOnce ?_;refine kt 5 hOnce ?_;refine kt 6 hOnce ?_;refine kt 7 hOnce ?_;refine kt 8 hOnce ?_;refine ks 9 (fun K hK=>?_);go_simp
      ((with_reducible refine hcm.out.mono ?_);rintro ee wa ⟨ga,rfl⟩)
      refine kcn hK (hS.out _ (hEd.trans ga)) (fun hHeld=>?_);clear hK K;refine kt 10 hOnce ?_;refine kl 11 (fun K hK=>?_);go_simp
      refine hK.out _ _ ?_;clear hK K;go_wp2_with fail
      go_meet
      case rel=>exact⟨by rw[<-hcs.out],hEd.trans ga⟩
    case rest=>
     obtain⟨rfl,hEc⟩:=hcut;have hEwc:=hEq.trans hEc;clear hOq huq rq hXq hEd hEq;cases c with
     |true=>
      obtain⟨⟨h1,h2⟩,h3⟩:=hc'.out.1 rfl;have ew:IntKind.i64.wrap ((at_:Int) - 1)=(at_:Int) - 1:=IntWalk.i64_in _ (by omega);go_wp2_with fail
      go_roundw
      case rel=>exact⟨at_ - 1,by go_num,by omega,hid fun j hj h=>by
       by_cases e:j=at_ - 1
       ·subst e;exact h3
       ·exact hgt.out j hj (by omega),hEwc⟩
      case measure=>simp[intOf];omega
     |false=>
      have hnew:=hpt.out at_ (by rw[hSl'.out];exact hat) hgt.out (fun h=>by
       have h4:¬∃h:0<at_/\at_ - 1<S.length,x<S[at_ - 1]:=fun h=>by
        have:=hc'.out.2 h;exact absurd this (by decide)
       exact Rat.not_lt.1 fun h5=>h4 ⟨⟨h,by rw[hSl'.out];omega⟩,h5⟩)
      have hnew':=hid hnew;have hOc:=hO7.ext0 QC.elem hEwc;have huc:=mkx QC.mono hu7 hEwc;have rc:=r7.ext0 hEwc;have hZc:=hZ7.ext hEwc;have hE8:=hE7.trans hEwc;have hb8:=hE8.size;clear hnew hpt hgt hO7 hu7 r7 hX7 hZ7 hEwc hEc hc' hc;go_wp2_with (at_builtin;refine a1I (l:=S) a1b rfl QC.elem hb8 hZc i hSl'.out rfl rfl hOc (.agg #[.bool false, .slice none 0 0, .slice none 0 0]) 0 rfl (QC.zero _) (by omega) (by omega) ?_;intro oo2 co2 w9 hO9 hE9 hor)
      have hu9:QC (mk (un Z oo2) w9) (.agg #[.bool s6, .slice a6 n6 c6, .slice d6 k6 e6]) x:=QC.mono _ _ _ _ (a2f hE9 hor) huc;have hgo2:ob oo2 g=false:=by
       rcases hor with rfl|⟨g',rfl,hg'⟩
       ·exact hgoo
       ·have:=rc.lt
        simp[ob];omega
      have r9:=rc.ext hE9 hgoo;have hE10:=hE8.own hOc (Nat.le_refl _) hE9;have hlc:=hO9.lenCap;rw[List.length_append,hSl'.out]at hlc;have hlc':i+1<=co2:=hlc;have ew:IntKind.i64.wrap ((at_:Int)+1)=(at_:Int)+1:=IntWalk.i64_in _ (by omega);have f1:∀W,(Instr.sliceAt 26 (.slice oo2 (i+1) co2) (some (.int .i64 ((at_:Int)+1))) none none).run Tryz.prog W= .ok (.slice (a0z oo2 (at_+1) co2 3) (i+1 - (at_+1)) (co2 - (at_+1))) W:=a3C a1b (i+1) co2 .i64 (at_+1) (by omega) hlc';have f2:∀W,(Instr.sliceAt 26 (.slice oo2 (i+1) co2) (some (.int .i64 (at_:Int))) none none).run Tryz.prog W= .ok (.slice (a0z oo2 at_ co2 3) (i+1 - at_) (co2 - at_)) W:=a3C a1b (i+1) co2 .i64 at_ (by omega) hlc';have hEd:Ext w9 w9.drew:=(ExtX.refl w9).drew;have hO9d:=hO9.ext0 QC.elem hEd;have hln9:(S++[0]).length=i+1:=by rw[List.length_append,hSl'.out];rfl
      have hpl:=hid (b3h (S:=S) (z:=0) (x:=x) (a:=at_) (n:=i) hSl'.out hat);clear hO9 hlc hOc huc rc hor
      (try simp only[Act.put])
      refine a0K 7 (fun _=>True) (by kernel_rfl) (by kernel_rfl) trivial (fun hHeld hOnce=>?_);refine kt 0 hOnce ?_;refine kt 1 hOnce ?_;refine kt 2 hOnce ?_;refine kt 3 hOnce ?_;refine kt 4 hOnce ?_;refine kt 5 hOnce ?_;refine kt 6 hOnce ?_;refine kl 7 (fun K hK=>?_)
      (refine a8i rfl (by rfl) a1b QC.elem (at_+1) at_ (i+1) (i - at_) (i+1 - at_) hln9 (by omega) (by omega) (by omega) (by omega) rfl rfl hO9d ?_;intro w11 hO11 hE11)
      refine hK.out _ _ ?_;clear hK K
      (try simp only[Act.put])
      have hE11':=(hE10.trans hEd).own hO9d (Nat.le_refl _) hE11;have hu11:QC (mk (un Z oo2) w11) (.agg #[.bool s6, .slice a6 n6 c6, .slice d6 k6 e6]) x:=QC.mono _ _ _ _ (a0E hE11 (fun k h=>a0A h)) (mkx QC.mono hu9 hEd);have r11:=(r9.ext0 hEd).ext hE11 hgo2;have k0:w11.cell? ⟨g,0,none⟩=some (.bool s6):=r11.cell 0 rfl;have k1:w11.cell? ⟨g,1,none⟩=some (.slice a6 n6 c6):=r11.cell 1 rfl;have k2:w11.cell? ⟨g,2,none⟩=some (.slice d6 k6 e6):=r11.cell 2 rfl;have hl11:((S++[0]).take (at_+1)++((S++[0]).drop at_).take (i+1 - (at_+1))).length=i+1:=by simp[hSl'.out];omega
      have hhd:Hd oo2 (i+1):=by have:=hO11.hd;rwa[hl11]at this
      have hat2:at_<((S++[0]).take (at_+1)++((S++[0]).drop at_).take (i+1 - (at_+1))).length:=by rw[hl11];omega
      obtain⟨L,hL⟩:∃L,(S++[0]).take (at_+1)++((S++[0]).drop at_).take (i+1 - (at_+1))=L:=⟨_,rfl⟩;rw[hL]at hO11 hat2 hpl;clear hL hl11 hln9 f1 f2 hO9d hu9 r9;go_wp2_with (first|(with_reducible refine a1E a1b (by omega) (by assumption) ?_)|((with_reducible show wpList _ _ _ (⟨_, .store 41 _ _,_,_,_,_⟩::_) _ _);refine a1O a6S QC.elem at_ rfl (by simp) hO11 hat2 (.agg #[.bool s6, .slice a6 n6 c6, .slice d6 k6 e6]) x rfl hu11 ?_;intro w12 hO12 hE12))
      have hE12':=hE11'.own hO11 (Nat.le_refl _) hE12;rw[hpl.out,hnew'.out]at hO12;have hOf:OL QC 3 X w.heap.size 41 w12 oo2 co2 (F (i+1)):=hO12.ext QC.elem (ExtX.refl w12 (Y:=noY)) (fun k _ hk=>by simp[noY]at hk) (fun k _ h=>hXZ k h);go_roundw
      case rel=>exact⟨i+1,oo2,co2,by go_num,by go_num,by omega,hOf,hE12'⟩
      case measure=>simp[intOf];omega
  ·obtain rfl:i=n:=by omega
   rw[hall.out]at hO;go_wp2_with fail
   go_ret
   exact⟨hE,oo,co,rfl,hO⟩
end Go.Proofs.YtnnpfhoigmegcaaGreat
namespace Go.Lin
end Go.Lin
namespace Go.Proofs.YtnnpfhoigmegcaaGreat
open Go.RowKit Go.Rep Go.Lim Go.Lin
end Go.Proofs.YtnnpfhoigmegcaaGreat
namespace Go.Lin
end Go.Lin
namespace Go.Proofs.YtnnpfhoigmegcaaGreat
open Go.RowKit Go.Rep Go.Lim Go.Lin
end Go.Proofs.YtnnpfhoigmegcaaGreat
namespace Go.Lin
open Go.Lim Go.Rep
end Go.Lin
namespace Go.Proofs.YtnnpfhoigmegcaaGreat
open Go.RowKit Go.Rep Go.Lim Go.Lin
attribute [local go_sem↓] Go.wp_at_zero Go.wp_at_succ
end Go.Proofs.YtnnpfhoigmegcaaGreat
namespace Go.Lin
open Go.Lim
end Go.Lin
namespace Go.Proofs.YtnnpfhoigmegcaaGreat
open Go.RowKit Go.Rep Go.Lim Go.Lin
end Go.Proofs.YtnnpfhoigmegcaaGreat
namespace Go.Lin
end Go.Lin
namespace Go.Proofs.YtnnpfhoigmegcaaGreat
open Go.RowKit Go.Rep Go.Lim Go.Lin
end Go.Proofs.YtnnpfhoigmegcaaGreat
namespace Go.Lin
open Go.Lim
end Go.Lin
namespace Go.Proofs.YtnnpfhoigmegcaaGreat
open Go.RowKit Go.Rep Go.Lim Go.Lin
end Go.Proofs.YtnnpfhoigmegcaaGreat
namespace Go.Lin
open Go.Lim
theorem b4Z.le{m:Mat}{c a:Nat}(h:b4Z m c)(e:a<=c):b4Z m a:=let ⟨B,b,d⟩:=h;⟨B,b,fun j f=>d j (Nat.le_trans f e)⟩
end Go.Lin
namespace Go.Proofs.YtnnpfhoigmegcaaGreat
open Go.RowKit Go.Rep Go.Lim Go.Lin
end Go.Proofs.YtnnpfhoigmegcaaGreat
namespace Go.Lin
open Go.Lim
end Go.Lin
namespace Go.Proofs.YtnnpfhoigmegcaaGreat
open Go.RowKit Go.Rep Go.Lim Go.Lin
def mid(L:List Int)(H p j:Nat):List Int:=(List.range H).map fun q=>if q<p then L.getD q 0 else if q<j then L.getD p 0+1+((q:Int) - p)else L.getD q 0
theorem a8h(L:List Int)(H p j q:Nat)(hq:q<(mid L H p j).length):(mid L H p j)[q]=if q<p then L.getD q 0 else if q<j then L.getD p 0+1+((q:Int) - p)else L.getD q 0:=by simp[mid]
end Go.Proofs.YtnnpfhoigmegcaaGreat
namespace Go.Lin
open Go.Lim Go.Rep
end Go.Lin
namespace Go.Lim
end Go.Lim
namespace Go.Proofs.YtnnpfhoigmegcaaGreat
open Go.RowKit Go.Rep Go.Lim Go.Lin
theorem rof(X:Nat->Bool)(w:World)(v:Int)(n:HX X w)(i: -9223372036854775808<=v)(j:v<=9223372036854775807):Calls Tryz.prog 43 #[.int .i64 v] w (a1u X w QC v):=by
 obtain⟨W,y,m,h,hz⟩:=a0J w #[.bool false, .slice none 0 0, .slice none 0 0] 41;have c:HX (a0e X w.heap.size 1) W:=n.boxes hz;obtain⟨b,o⟩:∃b,w.heap.size=b:=⟨_,rfl⟩;have p:w.heap.size<=b:=by omega
 rw[o]at h hz c;have f:=hid i;have g:=hid j;clear i j;go_enter Tryz.func43,Tryz.ntmps43
 go_wp2_with fail
 refine(a5M (a0e X b 1) W v c f.out g.out).mono ?_;rintro u D ⟨a,C,rfl,d⟩;obtain⟨B,r,A,s,t,z,x,rfl⟩:=d.shape;have e:=h.ext0 a;go_wp2_with ((with_reducible show wpList _ _ _ (⟨_, .store _ _ _,_,_,_,_⟩::_) _ _);refine a0a a0j rfl rfl e rfl rfl (a1q _ _ _ _ _ _ _) ?_;intro E q k)
 have l:=QC.mono _ _ _ _ a0h (QC.mono _ _ _ _ (a0f k (by omega) (by omega)) d);exact bodyPost_ret (a0d rfl rfl a0j q rfl) rfl ⟨ExtX.box (m.trans a) k (by omega),_,rfl,l⟩
theorem b5x(X:Nat->Bool)(w:World)(u:Value)(l:List Rat)(B:Nat)(I:HX X w)(s:RV (mk X w) u l)(F:1<=l.length)(A:l.length<=20)(x:BR B l)(H:B<=1000000000):Calls Tryz.prog 287 #[u] w (a1u X w QC (a1n l/((l.length:Int):Rat))):=by
 obtain⟨W,V,z,v,hz⟩:=a0J w #[.bool false, .slice none 0 0, .slice none 0 0] 41;have f:HX (a0e X w.heap.size 1) W:=I.boxes hz;have a:=RV.mono _ _ _ _ (a0i (nb:=1) z) s;obtain⟨b,J⟩:∃b,w.heap.size=b:=⟨_,rfl⟩;have K:w.heap.size<=b:=by omega
 rw[J]at v hz f a;have h:=a4s (n:=20) x A;have g:=b6C (a0e X b 1) W u l f a (by omega) (fun k L=>Nat.le_trans (h k L) (by omega));rw[show sm l.length (fn l)=a1n l from rfl]at g;have o:Hid (hq (a1n l)<=68719476736):=hid (Nat.le_trans (h _ (Nat.le_refl _)) (by omega));have p:Hid (hq ((l.length:Int):Rat)<=68719476736):=hid (Nat.le_trans (a4U _ 1 (by
  rw[Int.natAbs_natCast,a1G (by omega) (by omega)];exact Nat.le_refl _) (Nat.le_refl _)) (by decide))
 have m:=hid (show∀n,l.length=n->∃ao r,u= .slice ao n r from fun n j=>by
  obtain⟨ao,r,e,_⟩:=s;exact⟨ao,r,by rw[e,j]⟩)
 obtain⟨n,j⟩:∃n,l.length=n:=⟨_,rfl⟩;obtain⟨ao,r,rfl⟩:=m.out n j;rw[j]at F A p |-;obtain⟨D,y⟩:∃D,a1n l=D:=⟨_,rfl⟩;rw[y]at g o |-;clear m j y h x s a;go_enter Tryz.func287,Tryz.ntmps287
 go_wp2_with fail
 refine g.mono ?_;rintro e P ⟨c,N,rfl,a⟩;clear g;go_wp2_with fail
 refine(rof (a0e X b 1) P (n:Int) (f.ext c) (by omega) (by omega)).mono ?_;rintro e Q ⟨d,O,rfl,t⟩;go_wp2_with fail
 refine(b2G (a0e X b 1) Q N O D _ ((f.ext c).ext d) ((mkx QC.mono a d).qv o.out) (t.qv p.out)).mono ?_;rintro e w3 ⟨i,u3,rfl,q⟩;obtain⟨s3,R,Z,S,T,Y,U,rfl⟩:=q.shape;have E:=v.ext0 (c.trans (d.trans i));go_wp2_with ((with_reducible show wpList _ _ _ (⟨_, .store 41 _ _,_,_,_,_⟩::_) _ _);refine a0a a0j rfl rfl E rfl rfl (a1q _ _ _ _ _ _ _) ?_;intro w6 M C)
 have G:=QC.mono _ _ _ _ a0h (QC.mono _ _ _ _ (a0f C (by omega) (by omega)) q);exact bodyPost_ret (a0d rfl rfl a0j M rfl) rfl ⟨ExtX.box (z.trans (c.trans (d.trans i))) C (by omega),_,rfl,G⟩
theorem b7v(X:Nat->Bool)(w:World)(u:Value)(k t:Int)(l:List Rat)(B:Nat)(hX:HX X w)(hu:RV (mk X w) u l)(hl:l.length<=20)(Q:BR B l)(R:B<=1000000000)(hk:a1B k t)(Z:a2J k t l.length):Calls Tryz.prog 212 #[.agg #[.int .i64 k, .int .i64 t],u] w (a1u X w QC (a5u k t l)):=by
 obtain⟨W,hW,hE,P,b1,hz⟩:=a0W w #[.int .i64 k, .int .i64 t] #[.bool false, .slice none 0 0, .slice none 0 0] 53 41;have y:HX (a0e X w.heap.size 2) W:=hX.boxes hz;have D:=RV.mono _ _ _ _ (a0i (nb:=2) hE) hu;obtain⟨b,hb⟩:∃b,w.heap.size=b:=⟨_,rfl⟩;have a1:w.heap.size<=b:=by omega
 rw[hb]at P b1 hz y D;obtain⟨r1,r2⟩:=a7R hk Z;have j:=b3f W k t l.length (by omega) hk Z;have o:=hid fun w' (h:Ext W w')=>b1w (a0e X b 2) w' u l B (y.ext h) (mkx RV.mono D h) (by omega) Q (by omega);have c:=hid (a4e (s:=srt l) (a:=rkA k t l.length) (b:=rkB k t l.length) (by rw[a1W];exact r2));have g:=hid (b2I (srt l) (rkA k t l.length) (rkB k t l.length));have p:=hid (b0P (b3G Q) (rkA k t l.length) (rkB k t l.length));have m:=hid (a1W l);have d:Hid (a1n (a5h (srt l) (rkA k t l.length) (rkB k t l.length))/(((rkB k t l.length - rkA k t l.length:Nat):Int):Rat)=a5u k t l):=hid rfl;have I:=hid (show∀n,l.length=n->∃ao N,u= .slice ao n N from fun n H=>by
  obtain⟨ao,N,e,_⟩:=hu;exact⟨ao,N,by rw[e,H]⟩)
 obtain⟨E,G⟩:∃E,a5u k t l=E:=⟨_,rfl⟩;rw[G]at d |-;obtain⟨O,L⟩:∃O,a5h (srt l) (rkA k t l.length) (rkB k t l.length)=O:=⟨_,rfl⟩;rw[L]at c g p d;obtain⟨S,hS⟩:∃S,srt l=S:=⟨_,rfl⟩;rw[hS]at o g m;obtain⟨A,hA⟩:∃A,rkA k t l.length=A:=⟨_,rfl⟩;obtain⟨C,T⟩:∃C,rkB k t l.length=C:=⟨_,rfl⟩;rw[hA,T]at r1 j c g d;rw[T]at r2;obtain⟨n,H⟩:∃n,l.length=n:=⟨_,rfl⟩;obtain⟨ao,N,rfl⟩:=I.out n H;rw[H]at r2 hl j o m;have k0:W.cell? ⟨b,0,none⟩=some (.int .i64 k):=P.cell 0 rfl;have k1:W.cell? ⟨b,1,none⟩=some (.int .i64 t):=P.cell 1 rfl;clear I H hA T hS L G Q hk Z hu D;go_enter Tryz.func212,Tryz.ntmps212
 go_wp2_with fail
 refine j.mono ?_;rintro e w1 ⟨i,rfl⟩;have r:=o.out w1 i;clear j o k0 k1;go_wp2_with fail
 refine r.mono ?_;rintro e w2 ⟨x,oo,v,rfl,U⟩;have Y:=U.lenCap;rw[m.out]at Y;have f1:∀W,(Instr.sliceAt 26 (.slice oo n v) (some (.int .i64 (A:Int))) (some (.int .i64 (C:Int))) none).run Tryz.prog W= .ok (.slice (a0z oo A v 3) (C - A) (v - A)) W:=a4v a1b n v .i64 .i64 A C (by omega) (by omega);have V:=(y.ext i).ext x;have f:=(U.sl QC.elem).sub A C v (by omega) (by omega) (by rw[m.out];omega);rw[<-g.out]at f;have J:RV (mk (a0e X b 2) w2) (.slice (a0z oo A v 3) (C - A) (v - A)) O:=⟨_,_,by rw[c.out],by rw[c.out];omega,f.qv (fun q hq=>Nat.le_trans (p.out q hq) (by omega))⟩;have z:=b5x (a0e X b 2) w2 _ O B V J (by rw[c.out];omega) (by rw[c.out];omega) p.out R;rw[c.out,d.out]at z;clear J f U r p d g;go_wp2_with fail
 refine z.mono ?_;rintro e w3 ⟨F,u3,rfl,K⟩;obtain⟨s3,a3,n3,c3,d3,k3,e3,rfl⟩:=K.shape;have b3:=b1.ext0 (i.trans (x.trans F));clear z f1;go_wp2_with ((with_reducible show wpList _ _ _ (⟨_, .store 41 _ _,_,_,_,_⟩::_) _ _);refine a0a a0j rfl rfl b3 rfl rfl (a1q _ _ _ _ _ _ _) ?_;intro w6 a0 M)
 have h6:=QC.mono _ _ _ _ a0h (QC.mono _ _ _ _ (a0f M (by omega) (by omega)) K);exact bodyPost_ret (a0d rfl rfl a0j a0 rfl) rfl ⟨ExtX.box (hE.trans (i.trans (x.trans F))) M (by omega),_,rfl,h6⟩
theorem b3i(w:World)(ao:Option Addr)(n q:Nat)(k t:Int)(z:1<=n)(r:n<=64)(m:a1B k t)(l:a2J k t n):Calls Tryz.prog 211 #[.agg #[.int .i64 k, .int .i64 t], .slice ao n q] w (fun e j=>Ext w j/\e= .returned (.int .i64 0)):=by
 obtain⟨W,A,s,h,hz⟩:=a0J w #[.int .i64 k, .int .i64 t] 53;obtain⟨b,u⟩:∃b,w.heap.size=b:=⟨_,rfl⟩;rw[u]at h hz;have o:W.cell? ⟨b,0,none⟩=some (.int .i64 k):=h.cell 0 rfl;have p:W.cell? ⟨b,1,none⟩=some (.int .i64 t):=h.cell 1 rfl;have c:=ris W k t;have g:=hid fun j=>b5u j k t (n:Int) (by omega) (by omega);rw[a1s.2 m]at c;have f:a2K k t (n:Int)=true:=a5i.2 l;rw[f]at g;clear m l f;go_enter Tryz.func211,Tryz.ntmps211
 go_wp2_with fail
 refine c.mono ?_;rintro e y ⟨a,rfl⟩;have v:=a.cell o;have x:=a.cell p;have d:=g.out y;clear c o p;go_wp2_with fail
 refine d.mono ?_;rintro e B ⟨i,rfl⟩;clear v x d;go_wp2_with fail
 go_ret
 exact⟨s.trans (a.trans i),rfl⟩
theorem b3j(X:Nat->Bool)(w:World)(u:Value)(k t:Int)(l:List Rat)(B:Nat)(K:HX X w)(D:RV (mk X w) u l)(I:1<=l.length)(N:l.length<=20)(A:BR B l)(s:B<=1000000000)(x:a1B k t)(v:a2J k t l.length):Calls Tryz.prog 128 #[.agg #[.int .i64 k, .int .i64 t],u] w (fun e g=>Ext w g/\∃u,e= .returned (.tuple #[u, .int .i64 0])/\QC (mk X g) u (a5u k t l)):=by
 obtain⟨W,Y,C,r,z,hz⟩:=a0W w #[.int .i64 k, .int .i64 t] #[.bool false, .slice none 0 0, .slice none 0 0] 53 41;have m:HX (a0e X w.heap.size 2) W:=K.boxes hz;have f:=RV.mono _ _ _ _ (a0i (nb:=2) C) D;obtain⟨b,L⟩:∃b,w.heap.size=b:=⟨_,rfl⟩;have M:w.heap.size<=b:=by omega
 rw[L]at r z hz m f;have hat:=hid fun g (h:Ext W g)=>b7v (a0e X b 2) g u k t l B (m.ext h) (mkx RV.mono f h) N A s x v;have n:=hid fun ao q (h:u= .slice ao l.length q)=>(by rw[h];exact b3i W ao l.length q k t I (by omega) x v:Calls Tryz.prog 211 #[.agg #[.int .i64 k, .int .i64 t],u] W (fun e g=>Ext W g/\e= .returned (.int .i64 0)));obtain⟨ao,q,e,_⟩:=D;have d:=n.out ao q e;obtain⟨E,j⟩:∃E,a5u k t l=E:=⟨_,rfl⟩;rw[j]at hat |-;have F:W.cell? ⟨b,0,none⟩=some (.int .i64 k):=r.cell 0 rfl;have G:W.cell? ⟨b,1,none⟩=some (.int .i64 t):=r.cell 1 rfl;clear n e j A x v f;go_enter Tryz.func128,Tryz.ntmps128
 go_wp2_with fail
 refine d.mono ?_;rintro e R ⟨a,rfl⟩;have O:=a.cell F;have P:=a.cell G;have c:=hat.out R a;clear d F G hat;go_wp2_with fail
 refine c.mono ?_;rintro e w2 ⟨i,u2,rfl,o⟩;obtain⟨s3,S,Z,T,U,Q,V,rfl⟩:=o.shape;have H:=z.ext0 (a.trans i);clear c O P;go_wp2_with ((with_reducible show wpList _ _ _ (⟨_, .store 41 _ _,_,_,_,_⟩::_) _ _);refine a0a a0j rfl rfl H rfl rfl (a1q _ _ _ _ _ _ _) ?_;intro w6 y p)
 have J:=QC.mono _ _ _ _ a0h (QC.mono _ _ _ _ (a0f p (by omega) (by omega)) o);exact bodyPost_ret (a0I rfl rfl a0j y rfl) rfl ⟨ExtX.box (C.trans (a.trans i)) p (by omega),_,rfl,J⟩
end Go.Proofs.YtnnpfhoigmegcaaGreat
namespace Go.Lin
open Go.Lim Go.Rep
theorem a9f{k t:Int}{l:List Rat}(d:BR 2 l)(o:l.length<=20)(f:a1B k t)(e:a2J k t l.length):hq (a5u k t l)<=1000:=by
 obtain⟨p,h⟩:=a7R f e;have g:=a4e (s:=srt l) (a:=rkA k t l.length) (b:=rkB k t l.length) (by rw[a1W];exact h);have c:=a4s (n:=20) (b0P (b3G d) (rkA k t l.length) (rkB k t l.length)) (by omega) _ (Nat.le_refl _);have i:=hq_div (a1n (a5h (srt l) (rkA k t l.length) (rkB k t l.length))) (((rkB k t l.length - rkA k t l.length:Nat):Int):Rat);have j:=a4U ((rkB k t l.length - rkA k t l.length:Nat):Int) 1 (by
  rw[Int.natAbs_natCast,a1G (by omega) (by omega)];exact Nat.le_refl _) (Nat.le_refl _)
 have m:hq (a1n (a5h (srt l) (rkA k t l.length) (rkB k t l.length)))<=1+20*(2+1):=c;unfold a5u;omega
theorem a8j{l:List Rat}{j:Nat}{z:Rat}(h:BR 2 l)(hz:hq z<=2):BR 2 (a1Z l j z):=fun q a=>by
 rcases a6H a with rfl|b
 ·exact hz
 ·exact h q b
theorem b6D{k t:Int}{n:Nat}(c:a1B k t)(b:a2J k t n)(e:1<=n)(d:n<=64):a9D k t (n:Int)=0/\b1z k t (n:Int)=(a8T k t n:Int):=by
 have a:a9D k t (n:Int)=0:=by
  unfold a9D;rw[if_neg (by rw[a1s.2 c];simp;omega),if_neg (by rw[a5i.2 b];decide)]
 refine⟨a,?_⟩;obtain⟨f,g⟩:=a7R c b;unfold b1z a8T;rw[a,if_pos rfl,show((n:Int)).toNat=n from rfl];omega
end Go.Lin
namespace Go.Proofs.YtnnpfhoigmegcaaGreat
open Go.RowKit Go.Rep Go.Lim Go.Lin
theorem b3k(X:Nat->Bool)(w:World)(u v:Value)(k t:Int)(l:List Rat)(n:Nat)(z:Rat)(hX:HX X w)(hu:RV (mk X w) u l)(hv:QV (mk X w) v z)(hl:l.length<=20)(hn:n<=l.length)(hB:BR 2 l)(hz:hq z<=2)(hk:a1B k t)(hf:a2J k t l.length):Calls Tryz.prog 55 #[.agg #[.int .i64 k, .int .i64 t],u, .int .i64 (n:Int),v] w (a1u X w QC (a2m (a5u k t (a1Z l n z)))):=by
 obtain⟨s1,a1,n1,c1,d1,k1,e1,rfl⟩:=hv.shape;obtain⟨W,hW,hE,b0,b1,b2,b4⟩:=a1F w #[.int .i64 k, .int .i64 t] #[.bool s1, .slice a1 n1 c1, .slice d1 k1 e1] #[.bool false, .slice none 0 0, .slice none 0 0] 53 41 41;have f:HX (a0e X w.heap.size 3) W:=hX.boxes b4;have H:=RV.mono _ _ _ _ (a0i (nb:=3) hE) hu;have K:=QV.mono _ _ _ _ (a0i (nb:=3) hE) hv;obtain⟨b,hb⟩:∃b,w.heap.size=b:=⟨_,rfl⟩;have c6:w.heap.size<=b:=by omega
 rw[hb]at b0 b1 b2 b4 f H K;obtain⟨Z,hZ⟩:∃Z,a0e X b 3=Z:=⟨_,rfl⟩;rw[hZ]at f H K;have i:=hid fun w' u' (L:List Rat) (h1:HX Z w') (h2:RV (mk Z w') u' L) (h3:L.length=l.length) (h4:BR 2 L)=>b3j Z w' u' k t L 2 h1 h2 (by rw[h3];exact hf.1) (by omega) h4 (by decide) hk (by rw[h3];exact hf);have D:=hid fun(j:Nat) (h:j<=l.length)=>a2u (l:=l) (j:=j) (z:=z) h;have G:=hid fun(j:Nat) (h:j<l.length)=>b2P (l:=l) (j:=j) (z:=z) h;have a7:=hid fun(j:Nat)=>a8j (j:=j) hB hz;have B:=hid (a9f (l:=a1Z l n z) (a8j hB hz) (by rw[a2u hn];exact hl) hk (by rw[a2u hn];exact hf));have a6:=hid (b0X l z);obtain⟨F,hF⟩:∃F:Nat->List Rat,(fun j=>a1Z l j z)=F:=⟨_,rfl⟩;have A:∀j,a1Z l j z=F j:=fun j=>by rw[<-hF]
 rw[A]at B a6 |-;simp only[A]at D G a7;obtain⟨E,y⟩:∃E,a5u k t (F n)=E:=⟨_,rfl⟩;have T:=hid y;rw[y]at B |-;obtain⟨ao,ca,rfl,b8,a9⟩:=H;obtain⟨m,hm⟩:∃m,l.length=m:=⟨_,rfl⟩;have c0:=hid hm;rw[hm]at b8 hl hn i D G |-;have P:W.cell? ⟨b,0,none⟩=some (.int .i64 k):=b0.cell 0 rfl;have d:W.cell? ⟨b,1,none⟩=some (.int .i64 t):=b0.cell 1 rfl;clear hF A y hm hB hz hk hf hu hv;go_enter Tryz.func55,Tryz.ntmps55
 go_wp2_with (at_builtin;refine b4T a1b rfl QV.elem f l rfl rfl c0.out.symm a9 (by omega) (by omega) ?_;intro N yc w1 Y S)
 clear a9 P d;have c9:=hid (f.ext S);rw[<-a6.out]at Y;go_loopw [10] (fun o wr=>∃j:Nat,o= .int .i64 j/\j<=n/\OL QV 3 Z W.heap.size 41 wr N yc (F j)/\ExtX (ob N) w1 wr) (fun o _=>n - (intOf o).toNat)
 case atStart=>exact⟨0,rfl,Nat.zero_le _,Y,ExtX.refl _⟩
 case round=>
  obtain⟨j,rfl,hj,O,V⟩:=hrel;have a:=D.out j (by omega);have r:∀q,q<W.heap.size->ob N q=false:=fun q hq=>O.ob_lt hq;have c:Ext W wr:=S.then_ V fun q hq _=>r q hq;by_cases c8:j<n
  ·have s:=b1.ext0 c
   have P:wr.cell? ⟨b+1,0,none⟩=some (.bool s1):=s.cell 0 rfl;have d:wr.cell? ⟨b+1,1,none⟩=some (.slice a1 n1 c1):=s.cell 1 rfl;have k2:wr.cell? ⟨b+1,2,none⟩=some (.slice d1 k1 e1):=s.cell 2 rfl;have c7:Hd N m:=by have:=O.hd;rwa[a]at this
   have b9:j<(F j).length:=by rw[a];omega
   have c3:QV (mk (un Z N) wr) (.agg #[.bool s1, .slice a1 n1 c1, .slice d1 k1 e1]) z:=a8x QV.mono K c r;have b3:=G.out j (by omega);clear a;go_wp2_with (first|(with_reducible refine a1E a1b (by omega) (by assumption) ?_)|((with_reducible show wpList _ _ _ (⟨_, .store 41 _ _,_,_,_,_⟩::_) _ _);refine a1O a6S QV.elem j rfl (by simp) O b9 (.agg #[.bool s1, .slice a1 n1 c1, .slice d1 k1 e1]) z rfl c3 ?_;intro w2 a0 p))
   rw[b3]at a0;go_roundw
   case rel=>exact⟨j+1,by go_num,by omega,a0,V.trans p⟩
   case measure=>simp[intOf];omega
  ·obtain rfl:j=n:=by omega
   have R:=b0.ext0 c;have P:wr.cell? ⟨b,0,none⟩=some (.int .i64 k):=R.cell 0 rfl;have d:wr.cell? ⟨b,1,none⟩=some (.int .i64 t):=R.cell 1 rfl;have a3:HX Z wr:=f.ext c;have C:=O.lenCap;rw[a]at C;have a8:RV (mk Z wr) (.slice N m yc) (F j):=⟨N,yc,by rw[a],by rw[a];exact C,O.sl QV.elem⟩;have M:=i.out wr _ (F j) a3 a8 a (a7.out j);rw[T.out]at M;clear i a8 O C a;go_wp2_with fail
   refine M.mono ?_;rintro e w2 ⟨p,u2,rfl,I⟩;obtain⟨s2,a2,n2,c2,d2,k2,e2,rfl⟩:=I.shape;have bx:=Bx.new w2 #[.bool false, .slice none 0 0, .slice none 0 0] 41;clear M P d;go_upto_region 7 with((with_reducible show wpList _ _ _ (⟨_, .store 41 _ _,_,_,_,_⟩::_) _ _);refine a0a a0j rfl rfl bx rfl rfl (a1q _ _ _ _ _ _ _) ?_;intro Q r1 r2)
   have x:Ext w2 Q:=ExtX.box ((ExtX.refl w2).alloc _) r2 (Nat.le_refl _);obtain⟨g,hg⟩:∃g,w2.heap.size=g:=⟨_,rfl⟩;rw[hg]at r1
   (try rw[hg])
   have P:Q.cell? ⟨g,0,none⟩=some (.bool s2):=r1.cell 0 rfl;have d:Q.cell? ⟨g,1,none⟩=some (.slice a2 n2 c2):=r1.cell 1 rfl;have c5:Q.cell? ⟨g,2,none⟩=some (.slice d2 k2 e2):=r1.cell 2 rfl;have b7:HX Z Q:=(a3.ext p).ext x;have a5:=b7q Z Q _ E b7 ((mkx QC.mono I x).qv (Nat.le_trans B.out (by decide)));clear I bx r2 hg;go_wp2_with fail
   refine a5.mono ?_;rintro e w4 ⟨b6,u4,rfl,J⟩;obtain⟨s4,a4,n4,c4,d4,k4,e4,rfl⟩:=J.shape;have U:Ext W w4:=c.trans (p.trans (x.trans b6));have b5:=b2.ext0 U;clear a5 P d c5;go_wp2_with ((with_reducible show wpList _ _ _ (⟨_, .store 41 _ _,_,_,_,_⟩::_) _ _);refine a0a a0j rfl rfl b5 rfl rfl (a1q _ _ _ _ _ _ _) ?_;intro w6 r3 r4)
   rw[<-hZ]at J;have h6:=QC.mono _ _ _ _ a0h (QC.mono _ _ _ _ (a0f r4 (by omega) (by omega)) J);exact bodyPost_ret (a0d rfl rfl a0j r3 rfl) rfl ⟨ExtX.box (hE.trans U) r4 (by omega),_,rfl,h6⟩
theorem a8k(lo:Option Addr)(l:List Int)(cl:Nat)(w:World)(hl:Sl (a0M .i64) 1 w.cell? lo l)(r1:l.length<=cl)(r2:l.length<=9223372036854775807):Calls Tryz.prog 8 #[.slice lo l.length cl] w (b3s w true):=by
 go_enter Tryz.func8,Tryz.ntmps8
 go_wp2_with fail
 refine(b1K lo l cl w hl r1 r2).mono ?_;rintro e w1 ⟨rfl,c7,e3,o0⟩;obtain⟨v,o2⟩:∃v,w.heap.size=v:=⟨_,rfl⟩;have Y:HX (tbm v) w1:=fun k C=>by
  have:k=v:=by simpa[tbm]using C
  omega
 have n1:=hid (fun w2 (h:ExtX (tbm v) w1 w2)=>b6B (w:=w) (by omega) c7 h);rw[o2]at e3 |-;clear c7 o0 o2 hl;go_wp2_with fail
 refine(a7s (tbm v) v 9 w1 e3 Y (by decide) (by decide)).mono ?_;rintro e w2 ⟨a2,ao,x,ca,rfl,m8,k2,k3,J,f6,hO⟩;have o1:=f6.unX e3.1;have Z:=Y.ext a2;have e4:BR 2 x:=fun q hq=>(J q hq).1;have o6:RV (mk (tbm v) w2) (.slice ao x.length ca) x:=⟨ao,ca,rfl,m8,(hO.sl QC.elem).qv fun q hq=>Nat.le_trans (e4 q hq) (by decide)⟩;have N:=hid fun k t j z (C:a1B k t) (L:a2J k t x.length) (hj:j+1<=a8T k t x.length)=>b2R (z:=z) C L k3 J hj;have O:=hid fun k t (C:a1B k t) (L:a2J k t x.length)=>b1c C L k3 J;have b4:=hid fun y b E H k t j z (T:HX y b) (hx:RV (mk y b) E x) (hz:QV (mk y b) H z) (R:hq z<=2) (hj:j<=x.length) (C:a1B k t) (L:a2J k t x.length)=>b3k y b E H k t x j z T hx hz (by omega) hj e4 R C L;have h9:=hid fun k t j z (R:hq z<=2) (hj:j<=x.length) (C:a1B k t) (L:a2J k t x.length)=>(a9f (l:=a1Z x j z) (a8j e4 R) (by rw[a2u hj];omega) C (by rw[a2u hj];exact L));obtain⟨n,hn⟩:∃n,x.length=n:=⟨_,rfl⟩;rw[hn]at k2 k3 N O b4 h9 m8 |-;have b0:=hid a2;have b7:=hid o6;rw[hn]at b7;clear hn e4 J hO f6 o6 a2 e3 Y;go_wp2_with fail
 refine(a7p (tbm v) v n w2 o1 Z k2 (by omega)).mono ?_;rintro e w3 ⟨a3,t8,k,t,rfl,C,L,t9⟩;have g7:=Z.ext a3;obtain⟨l1,l2⟩:=b6D C L k2 (by omega);obtain⟨m1,m2⟩:=a6J C L;have g1:=hid fun j z hj=>N.out k t j z C L hj;have g2:=hid (O.out k t C L);have g3:=hid fun y b E H j z T hx hz R hj=>b4.out y b E H k t j z T hx hz R hj C L;have g4:=hid fun j z R hj=>h9.out k t j z R hj C L;have V:=hid fun b=>a7t b k t (n:Int) (by omega) (by omega);rw[l1,l2]at V;obtain⟨M,T⟩:∃M,a8T k t n=M:=⟨_,rfl⟩;rw[T]at m1 m2 g1 g2 V;have bx:=Bx.new w3 #[.int .i64 0, .int .i64 0] 53;clear l1 l2 N O b4 h9 T C L o1;go_upto_region 4 with((with_reducible show wpList _ _ _ (⟨_, .store 53 _ _,_,_,_,_⟩::_) _ _);refine a0a a6D rfl rfl bx rfl rfl (by simp[Value.oneCell']) ?_;intro w4 r4 y4)
 have l8:Ext w3 w4:=ExtX.box ((ExtX.refl w3).alloc _) y4 (Nat.le_refl _);obtain⟨S,j4⟩:∃g,w3.heap.size=g:=⟨_,rfl⟩;rw[j4]at r4
 (try rw[j4])
 have k0:w4.cell? ⟨S,0,none⟩=some (.int .i64 k):=r4.cell 0 rfl;have k1:w4.cell? ⟨S,1,none⟩=some (.int .i64 t):=r4.cell 1 rfl;have b3:=V.out w4;clear bx y4 j4 V;go_wp2_with fail
 refine b3.mono ?_;rintro e w5 ⟨f8,rfl⟩;have g6:ExtX (tbm v) w2 w5:=a3.trans (.of (l8.trans f8));have r5:=r4.ext0 f8;have h0:=Z.ext g6;have d1:decide ((M:Int)<1)=false:=decide_eq_false (by omega);have d2:decide ((n:Int)<(M:Int))=false:=decide_eq_false (by omega);have f0:=a5M (tbm v) w5 1073741824 h0 (by decide) (by decide);clear b3 k0 k1 a3 l8 f8 r4;go_wp2_with fail
 refine f0.mono ?_;rintro e w6 ⟨a5,u6,rfl,j7⟩;obtain⟨s6,a6,n6,c6,d6,k6,e6,rfl⟩:=j7.shape;have bx:=Bx.new w6 #[.bool false, .slice none 0 0, .slice none 0 0] 41;clear f0;go_upto_region 8 with((with_reducible show wpList _ _ _ (⟨_, .store 41 _ _,_,_,_,_⟩::_) _ _);refine a0a a0j rfl rfl bx rfl rfl (a1q _ _ _ _ _ _ _) ?_;intro w7 r7 y7)
 have a7:Ext w6 w7:=ExtX.box ((ExtX.refl w6).alloc _) y7 (Nat.le_refl _);obtain⟨F,j0⟩:∃g,w6.heap.size=g:=⟨_,rfl⟩;rw[j0]at r7
 (try rw[j0])
 have o5:=mkx QC.mono j7 a7;have s7:=r5.ext0 (a5.trans a7);have m5:=(h0.ext a5).ext a7;have f1:=a5M (tbm v) w7 4096 m5 (by decide) (by decide);have t4:S<F:=by have:=(r5.ext0 a5).lt;omega
 clear bx y7 j0 j7;go_wp2_with fail
 refine f1.mono ?_;rintro e w8 ⟨c9,u8,rfl,j8⟩;obtain⟨s8,a8,n8,c8,d8,k8,e8,rfl⟩:=j8.shape;have bx:=Bx.new w8 #[.bool false, .slice none 0 0, .slice none 0 0] 41;clear f1;go_upto_region 9 with((with_reducible show wpList _ _ _ (⟨_, .store 41 _ _,_,_,_,_⟩::_) _ _);refine a0a a0j rfl rfl bx rfl rfl (a1q _ _ _ _ _ _ _) ?_;intro W r9 y9)
 have a9:Ext w8 W:=ExtX.box ((ExtX.refl w8).alloc _) y9 (Nat.le_refl _);obtain⟨g9,j1⟩:∃g,w8.heap.size=g:=⟨_,rfl⟩;rw[j1]at r9
 (try rw[j1])
 have a4:=(a5.trans a7).trans (c9.trans a9);have d9:=hid (g6.trans (.of a4));have f9:=r5.ext0 a4;have q9:=r7.ext0 (c9.trans a9);have e2:=mkx QC.mono o5 (c9.trans a9);have j5:=mkx QC.mono j8 a9;have h5:=h0.ext a4;clear bx y9 j1 o5 j8 s7 a5 a7 c9 a9 r7 m5 g6;have P:Hid (hq (((1073741824:Int)):Rat)<=2):=hid (by decide+kernel);have Q:Hid (hq (-(((1073741824:Int)):Rat))<=2):=hid (by decide+kernel);have k5:Hid (hq (((4096:Int)):Rat)<=2):=hid (by decide+kernel);have h8:Hid ((((1073741824:Int)):Rat)=1073741824):=hid rfl;have e1:Hid ((((4096:Int)):Rat)=4096):=hid rfl;obtain⟨m,n0⟩:∃m:Rat,(((1073741824:Int)):Rat)=m:=⟨_,rfl⟩;obtain⟨i,n3⟩:∃i:Rat,(((4096:Int)):Rat)=i:=⟨_,rfl⟩;rw[n0]at P Q h8 e2;rw[n3]at k5 e1 j5;rw[<-h8.out,<-e1.out]at g2;rw[<-e1.out]at g1;clear n0 n3 h8 e1;obtain⟨A1,c0⟩:∃A,a2m (a5u k t (a1Z x (M - 1) (-m)))=A:=⟨_,rfl⟩;obtain⟨A2,c3⟩:∃A,a2m (a5u k t (a1Z x (M - 1) m))=A:=⟨_,rfl⟩;obtain⟨A3,c4⟩:∃A,a2m (a5u k t (a1Z x M m))=A:=⟨_,rfl⟩;obtain⟨A4,c5⟩:∃A,a2m (a5u k t (a1Z x M (-m)))=A:=⟨_,rfl⟩;have c1:A1<i:=by rw[<-c0];exact g1.out (M - 1) (-m) (by omega)
 have c2:A2<i:=by rw[<-c3];exact g1.out (M - 1) m (by omega)
 have p8:i<A3\/i<A4:=by rw[<-c4,<-c5];exact g2.out
 have p1:=hid (show hq A1<=1000 from by rw[<-c0];exact Nat.le_trans a5o (g4.out (M - 1) (-m) Q.out (by omega)));have p2:=hid (show hq A2<=1000 from by rw[<-c3];exact Nat.le_trans a5o (g4.out (M - 1) m P.out (by omega)));have p3:=hid (show hq A3<=1000 from by rw[<-c4];exact Nat.le_trans a5o (g4.out M m P.out (by omega)));have p4:=hid (show hq A4<=1000 from by rw[<-c5];exact Nat.le_trans a5o (g4.out M (-m) Q.out (by omega)));have R1:=hid fun y b E H T hx hz=>(by have:=g3.out y b E H (M - 1) (-m) T hx hz Q.out (by omega);rw[c0]at this;exact this:Calls Tryz.prog 55 #[.agg #[.int .i64 k, .int .i64 t],E, .int .i64 ((M - 1:Nat):Int),H] b (a1u y b QC A1));have R2:=hid fun y b E H T hx hz=>(by have:=g3.out y b E H (M - 1) m T hx hz P.out (by omega);rw[c3]at this;exact this:Calls Tryz.prog 55 #[.agg #[.int .i64 k, .int .i64 t],E, .int .i64 ((M - 1:Nat):Int),H] b (a1u y b QC A2));have R3:=hid fun y b E H T hx hz=>(by have:=g3.out y b E H M m T hx hz P.out m2;rw[c4]at this;exact this:Calls Tryz.prog 55 #[.agg #[.int .i64 k, .int .i64 t],E, .int .i64 (M:Int),H] b (a1u y b QC A3));have R4:=hid fun y b E H T hx hz=>(by have:=g3.out y b E H M (-m) T hx hz Q.out m2;rw[c5]at this;exact this:Calls Tryz.prog 55 #[.agg #[.int .i64 k, .int .i64 t],E, .int .i64 (M:Int),H] b (a1u y b QC A4));have t7:IntKind.i64.wrap ((M:Int) - 1)=((M - 1:Nat):Int):=by rw[IntWalk.i64_in _ (by omega)];omega
 have f7:RV (mk (tbm v) W) (.slice ao n ca) x:=RV.mono _ _ _ _ (a0E d9.out fun _ h=>h) b7.out;have d:Ext W W.drew:=(ExtX.refl W).drew;have m6:=h5.ext d;have k4:=hid (mkx RV.mono f7 d);have i9:=hid ((mkx QC.mono e2 d).qv (Nat.le_trans P.out (by decide)));have m4:W.drew.cell? ⟨S,0,none⟩=some (.int .i64 k)/\W.drew.cell? ⟨S,1,none⟩=some (.int .i64 t)/\W.drew.cell? ⟨F,0,none⟩=some (.bool s6)/\W.drew.cell? ⟨F,1,none⟩=some (.slice a6 n6 c6)/\W.drew.cell? ⟨F,2,none⟩=some (.slice d6 k6 e6):=⟨d.cell (f9.cell 0 rfl),d.cell (f9.cell 1 rfl),d.cell (q9.cell 0 rfl),d.cell (q9.cell 1 rfl),d.cell (q9.cell 2 rfl)⟩;clear c0 c3 c4 c5 g1 g2 g3 g4 f7
 (try simp only[Act.put])
 refine a0K 16 (fun b=>b.cell? ⟨S,0,none⟩=some (.int .i64 k)/\b.cell? ⟨S,1,none⟩=some (.int .i64 t)/\b.cell? ⟨F,0,none⟩=some (.bool s6)/\b.cell? ⟨F,1,none⟩=some (.slice a6 n6 c6)/\b.cell? ⟨F,2,none⟩=some (.slice d6 k6 e6)) (by kernel_rfl) (by kernel_rfl) m4 (fun c a=>?_);refine kt 0 a ?_;refine kt 1 a ?_;refine kt 2 a ?_;refine kt 3 a ?_;refine kt 4 a ?_;refine kt 7 a ?_;refine kt 8 a ?_;refine kt 9 a ?_;refine kt 10 a ?_;refine kt 11 a ?_;refine a7Y [5,6,12] [⟨13,10,41,#[.bool false, .slice none 0 0, .slice none 0 0]⟩,⟨14,11,41,#[.bool false, .slice none 0 0, .slice none 0 0]⟩] (tbm v) 2 m6 c (fun _ _ h hE=>⟨hE.cell h.1,hE.cell h.2.1,hE.cell h.2.2.1,hE.cell h.2.2.2.1,hE.cell h.2.2.2.2⟩) ?_;refine a5j (fun M1 w1 u4 Y q7 c7 m0 q4 K f=>?_);simp only[a3o,Act.put,List.setIfInBounds_toArray,List.set_cons_zero,List.set_cons_succ];go_simp
 (with_reducible refine(b2b M1 w1 _ m Y (upx QV.mono m0 i9.out)).mono ?_);rintro ee b ⟨a1,u1,rfl,r6⟩
 refine f.out _ _ _ _ _ QC.mono a1 r6 (by simp only[a3o,Act.put,List.setIfInBounds_toArray,List.set_cons_zero,List.set_cons_succ]) ?_;clear f K Y q7 c7 m0 q4;refine a5j (fun M2 w2 u5 Z q8 a2 b0 e0 K f=>?_);simp only[a3o,Act.put,List.setIfInBounds_toArray,List.set_cons_zero,List.set_cons_succ];go_simp
 (with_reducible refine(R1.out M2 w2 _ u1 Z (upx RV.mono b0.1 k4.out) (b0.2.qv (Nat.le_trans Q.out (by decide)))).mono ?_);rintro ee b ⟨a1,u2,rfl,o3⟩;obtain⟨s9,p0,s4,p6,p9,s1,q1,rfl⟩:=o3.shape
 refine f.out _ _ _ _ _ QC.mono a1 o3 (by simp only[a3o,Act.put,List.setIfInBounds_toArray,List.set_cons_zero,List.set_cons_succ]) ?_;clear f K Z q8 a2 b0 e0;refine a5j (fun M3 w3 u7 g7 r0 a3 g0 q5 K f=>?_);simp only[a3o,Act.put,List.setIfInBounds_toArray,List.set_cons_zero,List.set_cons_succ];go_simp
 (with_reducible refine(R2.out M3 w3 _ _ g7 (upx RV.mono g0.1.1 k4.out) (upx QV.mono g0.1.1 i9.out)).mono ?_);rintro ee b ⟨a1,u3,rfl,o4⟩;obtain⟨t0,p5,s5,p7,q0,s2,q2,rfl⟩:=o4.shape
 refine f.out _ _ _ _ _ QC.mono a1 o4 (by simp only[a3o,Act.put,List.setIfInBounds_toArray,List.set_cons_zero,List.set_cons_succ]) ?_;clear f K g7 r0 a3 g0 q5;refine b5c (fun y wx gs q6 m7 l9 g5 X h7 n5=>?_);simp only[a3o,ptr,Act.put,List.setIfInBounds_toArray,List.set_cons_zero,List.set_cons_succ];obtain⟨ga,j2⟩:∃g,gs 0=g:=⟨_,rfl⟩;obtain⟨gb,j3⟩:∃g,gs 1=g:=⟨_,rfl⟩;obtain⟨xa,ma,la⟩:=h7 0 _ rfl;obtain⟨xb,mb,lb⟩:=h7 1 _ rfl;have h6:=n5 0 1 (by decide) (by simp);rw[j2]at xa ma la h6;rw[j3]at xb mb lb h6;simp only[j2,j3];have o7:=q9.lt;have s3:=r9.lt;have r3:W.drew.heap.size=W.heap.size:=rfl;have k9:∀g,g<W.heap.size->ob (some ⟨ga,0,none⟩) g=false:=fun g hg=>a0b (by omega);have k7:=k9 S (by omega);have e7:=k9 F o7;refine ks 15 (fun K f=>?_)
 (refine a4f rfl rfl a0j rfl rfl xa rfl rfl (a1q _ _ _ _ _ _ _) ?_;intro wy za ya)
 refine kcn f ⟨ya.cellY X.1 k7,ya.cellY X.2.1 k7,ya.cellY X.2.2.1 e7,ya.cellY X.2.2.2.1 e7,ya.cellY X.2.2.2.2 e7⟩ (fun c=>?_);clear f K;have o8:=xb.ext ya (a0b (by omega));refine kl 16 (fun K f=>?_)
 (refine a4f rfl rfl a0j rfl rfl o8 rfl rfl (a1q _ _ _ _ _ _ _) ?_;intro o zb yb)
 refine f.out _ _ ?_;clear f K
 (try simp only[Act.put])
 have l3:=za.ext yb (a0b (by omega));have mm:∀g,y g=true->∀k,ob (some ⟨g,0,none⟩) k=true->y k=true:=fun g hg k C=>by
  have:g=k:=by simpa[ob]using C
  rw[<-this];exact hg
 have b2:=(a0E ya (mm ga ma)).trans (a0E yb (mm gb mb));have D:Le (mk y o) (mk (tbm v) o):=a2T fun k _ h=>m7 k h;have qa:=QC.mono _ _ _ _ (b2.trans D) g5.1.2;have qb:=QC.mono _ _ _ _ (b2.trans D) g5.2;have p:Ext W o:=ExtX.box (ExtX.box (d.trans l9) ya la) yb lb;have l5:=f9.ext0 p;have l0:=q9.ext0 p;have a0:=r9.ext0 p;have U:=h5.ext p;have b8:RV (mk (tbm v) o) (.slice ao n ca) x:=RV.mono _ _ _ _ (a0E (d9.out.trans (.of p)) fun _ h=>h) b7.out;have m9:=mkx QC.mono e2 p;have u:=mkx QC.mono j5 p;have m3:=hid (d9.out.trans (.of p));clear c a m4 k4 i9 g5 X h7 n5 q6 m7 l9 xa xb o8 ma mb la lb ya yb b2 D j2 j3 mm za o7 s3 k7 e7 k9 R1 R2 h5 m6 d f9 q9 r9 e2 j5 d9 r3 h6;have B:=hid fun b E uy A (h:Ext o b) (hA:hq A<=1000) (h1:QC (mk (tbm v) b) E A) (h2:QC (mk (tbm v) b) uy i)=>a6R (tbm v) b E uy A i (U.ext h) (h1.qv (Nat.le_trans hA (by decide))) (h2.qv (Nat.le_trans k5.out (by decide))) (Nat.le_trans (a8t _ _) (by have:=k5.out;omega));have d:Ext o o.drew:=(ExtX.refl o).drew;have J:=hid fun b (h:Ext o b)=>(⟨(l5.ext0 h).cell 0 rfl,(l5.ext0 h).cell 1 rfl,(l0.ext0 h).cell 0 rfl,(l0.ext0 h).cell 1 rfl,(l0.ext0 h).cell 2 rfl,(a0.ext0 h).cell 0 rfl,(a0.ext0 h).cell 1 rfl,(a0.ext0 h).cell 2 rfl⟩:b.cell? ⟨S,0,none⟩=some (.int .i64 k)/\b.cell? ⟨S,1,none⟩=some (.int .i64 t)/\b.cell? ⟨F,0,none⟩=some (.bool s6)/\b.cell? ⟨F,1,none⟩=some (.slice a6 n6 c6)/\b.cell? ⟨F,2,none⟩=some (.slice d6 k6 e6)/\b.cell? ⟨g9,0,none⟩=some (.bool s8)/\b.cell? ⟨g9,1,none⟩=some (.slice a8 n8 c8)/\b.cell? ⟨g9,2,none⟩=some (.slice d8 k8 e8));have n2:=hid fun b (h:Ext o b)=>(mkx QC.mono m9 h).qv (Nat.le_trans P.out (by decide));go_upto_region 10 with fail
 (try simp only[Act.put])
 go_cut [12]from 55 to 73 (fun q wx=>q= .bool true/\Ext o wx)
 case first=>
  have l4:=R3.out (tbm v) o.drew _ _ (U.ext d) (mkx RV.mono b8 d) (n2.out _ d);by_cases h3:i<A3
  ·have b5:Hid ((0:Int)<(A3 - i).num.sign):=hid (a9e.2 (by grind))
   refine a0K 19 (fun b=>b.cell? ⟨S,0,none⟩=some (.int .i64 k)/\b.cell? ⟨S,1,none⟩=some (.int .i64 t)/\b.cell? ⟨F,0,none⟩=some (.bool s6)/\b.cell? ⟨F,1,none⟩=some (.slice a6 n6 c6)/\b.cell? ⟨F,2,none⟩=some (.slice d6 k6 e6)/\b.cell? ⟨g9,0,none⟩=some (.bool s8)/\b.cell? ⟨g9,1,none⟩=some (.slice a8 n8 c8)/\b.cell? ⟨g9,2,none⟩=some (.slice d8 k8 e8)) (by kernel_rfl) (by kernel_rfl) (J.out _ d) (fun c a=>?_);refine kt 0 a ?_;refine kt 1 a ?_;refine kt 2 a ?_;refine kt 3 a ?_;refine kt 5 a ?_;refine ks 4 (fun K f=>?_);go_simp
   ((with_reducible refine l4.mono ?_);rintro ee wa ⟨r,ua,rfl,j9⟩)
   refine kcn f (J.out _ (d.trans r)) (fun c=>?_);clear f K;have b1:=B.out wa ua _ A3 (d.trans r) p3.out j9 (mkx QC.mono u (d.trans r));obtain⟨sg,G⟩:∃sg,(A3 - i).num.sign=sg:=⟨_,rfl⟩;rw[G]at b1 b5;have d3:decide ((0:Int)<sg)=true:=decide_eq_true b5.out;clear G;refine ks 6 (fun K f=>?_);go_simp
   ((with_reducible refine b1.mono ?_);rintro ee wb ⟨I,rfl⟩)
   refine kcn f (J.out _ ((d.trans r).trans I)) (fun c=>?_);clear f K;refine kt 7 a ?_;refine kt 8 a ?_;refine ku 9 a ?_;refine ku 10 a ?_;refine ku 11 a ?_;refine ku 12 a ?_;refine ku 13 a ?_;refine ku 14 a ?_;refine ku 15 a ?_;refine ku 16 a ?_;refine ku 17 a ?_;refine kt 18 a ?_;refine kl 19 (fun K f=>?_);go_simp
   refine f.out _ _ ?_;clear f K;go_wp2_with fail
   go_meet
   case rel=>exact⟨rfl,(d.trans r).trans I⟩
  ·have h4:i<A4:=by
    rcases p8 with h|h
    ·exact absurd h h3
    ·exact h
   have b5:Hid (¬(0:Int)<(A3 - i).num.sign):=hid (fun h=>h3 (by have:=a9e.1 h;grind));have f5:Hid ((0:Int)<(A4 - i).num.sign):=hid (a9e.2 (by grind));refine a0K 19 (fun b=>b.cell? ⟨S,0,none⟩=some (.int .i64 k)/\b.cell? ⟨S,1,none⟩=some (.int .i64 t)/\b.cell? ⟨F,0,none⟩=some (.bool s6)/\b.cell? ⟨F,1,none⟩=some (.slice a6 n6 c6)/\b.cell? ⟨F,2,none⟩=some (.slice d6 k6 e6)/\b.cell? ⟨g9,0,none⟩=some (.bool s8)/\b.cell? ⟨g9,1,none⟩=some (.slice a8 n8 c8)/\b.cell? ⟨g9,2,none⟩=some (.slice d8 k8 e8)) (by kernel_rfl) (by kernel_rfl) (J.out _ d) (fun c a=>?_);refine kt 0 a ?_;refine kt 1 a ?_;refine kt 2 a ?_;refine kt 3 a ?_;refine kt 5 a ?_;refine ks 4 (fun K f=>?_);go_simp
   ((with_reducible refine l4.mono ?_);rintro ee wa ⟨r,ua,rfl,j9⟩)
   refine kcn f (J.out _ (d.trans r)) (fun c=>?_);clear f K;have d0:=d.trans r;have b1:=B.out wa ua _ A3 d0 p3.out j9 (mkx QC.mono u d0);obtain⟨sg,G⟩:∃sg,(A3 - i).num.sign=sg:=⟨_,rfl⟩;rw[G]at b1 b5;have d3:decide ((0:Int)<sg)=false:=decide_eq_false b5.out;clear G;refine ks 6 (fun K f=>?_);go_simp
   ((with_reducible refine b1.mono ?_);rintro ee wb ⟨I,rfl⟩)
   refine kcn f (J.out _ (d0.trans I)) (fun c=>?_);clear f K;have d5:=d0.trans I;refine kt 7 a ?_;refine kt 8 a ?_;refine kt 9 a ?_;refine kt 10 a ?_;refine kt 11 a ?_;refine kt 12 a ?_;refine kt 15 a ?_;refine ks 13 (fun K f=>?_);go_simp
   ((with_reducible refine(b2b (tbm v) wb _ m (U.ext d5) (n2.out _ d5)).mono ?_);rintro ee wc ⟨l6,uc,rfl,r8⟩)
   refine kcn f (J.out _ (d5.trans l6)) (fun c=>?_);clear f K;have s:=d5.trans l6;have o9:=R4.out (tbm v) wc _ _ (U.ext s) (mkx RV.mono b8 s) (r8.qv (Nat.le_trans Q.out (by decide)));refine ks 14 (fun K f=>?_);go_simp
   ((with_reducible refine o9.mono ?_);rintro ee wd ⟨b9,ud,rfl,s0⟩)
   refine kcn f (J.out _ (s.trans b9)) (fun c=>?_);clear f K;have d7:=s.trans b9;have e9:=B.out wd ud _ A4 d7 p4.out s0 (mkx QC.mono u d7);obtain⟨t3,b6⟩:∃sg,(A4 - i).num.sign=sg:=⟨_,rfl⟩;rw[b6]at e9 f5;have d4:decide ((0:Int)<t3)=true:=decide_eq_true f5.out;clear b6;refine ks 16 (fun K f=>?_);go_simp
   ((with_reducible refine e9.mono ?_);rintro ee wf ⟨l7,rfl⟩)
   refine kcn f (J.out _ (d7.trans l7)) (fun c=>?_);clear f K;refine kt 17 a ?_;refine kt 18 a ?_;refine kl 19 (fun K f=>?_);go_simp
   refine f.out _ _ ?_;clear f K;go_wp2_with fail
   go_meet
   case rel=>exact⟨rfl,d7.trans l7⟩
 case rest=>
  obtain⟨rfl,s⟩:=hcut;have n7:Hid ((A1 - i).num.sign<0):=hid (a5n.2 (by grind));have n9:Hid ((A2 - i).num.sign<0):=hid (a5n.2 (by grind));have e0:=hid fun b (h:Ext o b)=>(⟨(l3.ext0 h).cell 0 rfl,(l3.ext0 h).cell 1 rfl,(l3.ext0 h).cell 2 rfl,(zb.ext0 h).cell 0 rfl,(zb.ext0 h).cell 1 rfl,(zb.ext0 h).cell 2 rfl,(a0.ext0 h).cell 0 rfl,(a0.ext0 h).cell 1 rfl,(a0.ext0 h).cell 2 rfl⟩:b.cell? ⟨ga,0,none⟩=some (.bool s9)/\b.cell? ⟨ga,1,none⟩=some (.slice p0 s4 p6)/\b.cell? ⟨ga,2,none⟩=some (.slice p9 s1 q1)/\b.cell? ⟨gb,0,none⟩=some (.bool t0)/\b.cell? ⟨gb,1,none⟩=some (.slice p5 s5 p7)/\b.cell? ⟨gb,2,none⟩=some (.slice q0 s2 q2)/\b.cell? ⟨g9,0,none⟩=some (.bool s8)/\b.cell? ⟨g9,1,none⟩=some (.slice a8 n8 c8)/\b.cell? ⟨g9,2,none⟩=some (.slice d8 k8 e8));have j6:=B.out wc _ _ A1 s p1.out (mkx QC.mono qa s) (mkx QC.mono u s);have n4:=hid fun b (h:Ext o b)=>B.out b _ _ A2 h p2.out (mkx QC.mono qb h) (mkx QC.mono u h);obtain⟨t1,f3⟩:∃sg,(A1 - i).num.sign=sg:=⟨_,rfl⟩;obtain⟨t2,f4⟩:∃sg,(A2 - i).num.sign=sg:=⟨_,rfl⟩;rw[f3]at j6 n7;rw[f4]at n4 n9;have t5:decide (t1<0)=true:=decide_eq_true n7.out;have t6:decide (t2<0)=true:=decide_eq_true n9.out;clear f3 f4 J R3 R4 B;obtain⟨i0,i1,i2,i3,i4,i5,i6,i7,i8⟩:=e0.out wc s;go_wp2_with fail
  refine j6.mono ?_;rintro e wa ⟨r,rfl⟩;have f2:=n4.out wa (s.trans r);clear i0 i1 i2 i3 i4 i5 i6 i7 i8 j6;obtain⟨i0,i1,i2,i3,i4,i5,i6,i7,i8⟩:=e0.out wa (s.trans r);go_wp2_with fail
  refine f2.mono ?_;rintro e wb ⟨I,rfl⟩;clear i0 i1 i2 i3 i4 i5 i6 i7 i8 f2;go_wp2_with fail
  refine(a8g wb).mono ?_;rintro e wd ⟨b9,rfl⟩;have q3:=n1.out _ (b0.out.trans (m3.out.trans (.of (((s.trans r).trans I).trans b9))));go_wp2_with fail
  go_ret
  exact⟨q3,rfl⟩
open Go.ChangeShapes Go.WideShapes Go.ChangeAt Go.Deep
section
variable {H:Type} {enc:TypeId×Value->H} {w:World} {base:Nat} {spare:Nat->Bool} {held:Bool}
theorem a1c{x:Addr}{v:Value}(h:w.cell? (x.add 0)=some v):(∀j,x.add j=adr (some x) j)/\∃b c,x=⟨b,c,none⟩:=by
 have e:=World.cell?_spot h;obtain⟨b,c,d⟩:=x;have a:d=none:=by simpa[Addr.add]using e
 subst a;exact⟨fun j=>by rw[Addr.add_lit];simp[adr],b,c,rfl⟩
end
end Go.Proofs.YtnnpfhoigmegcaaGreat
namespace Go.Proofs.YtnnpfhoigmegcaaGreat
open Go.ChangeShapes Go.WideShapes Go.ChangeAt Go.RowKit Go.Rep Go.Deep
theorem b5y{n:Int}(h:(Lit.int .i64 n).wf=true): -9223372036854775808<=n/\n<=9223372036854775807:=by
 unfold Lit.wf at h;simpa[IntKind.min,IntKind.max,IntKind.signed,IntKind.bits]using h
section
variable {H:Type} {enc:TypeId×Value->H} {P:Program} {w:World} {base:Nat} {spare:Nat->Bool} {held:Bool}
theorem b5z{g:Nat}{v:Value}{x:DataW H×List MemPlace}(h:DataW.trod enc Tryz.prog w base spare held g 22 [v]=some x):∃(a:Option Addr) (l:List Int) (f:Nat),v= .slice a l.length f/\l.length<=f/\l.length<=9223372036854775807/\Sl (a0M .i64) 1 (mk noY w) a l/\∀x∈l,-9223372036854775808<=x/\x<=9223372036854775807:=by
 rw[a4u];rcases open_ints Tryz.underlying22 Tryz.underlying3 (by kernel_rfl) h with⟨e,_⟩|⟨x,len,c,n,e,_,D,z,hz,_,d,p⟩
 ·refine⟨none,[],0,by simpa using e,by simp,by simp,Sl.nil _ _ _ _,by simp⟩
 ·have B:len<=n.length:=by
   rw[hz];split<;>omega
  have m:(n.take len).length=len:=by simp;omega
  have t:c<=9223372036854775807:=by simpa[maxLen]using z
  refine⟨some x,n.take len,c,by rw[m];simpa using e,by omega,by omega,⟨fun C=>?_,fun i hi=>?_⟩,fun y A=>b5y (p y (List.mem_of_mem_take A))⟩
  ·obtain⟨_,b,q,hx⟩:=a1c (d 0 (by omega))
   exact⟨b,q,by rw[hx]⟩
  ·have k:i<n.length:=by omega
   refine⟨.int .i64 (n.take len)[i],rfl,fun j s=>?_,rfl⟩;have o:j=0:=by simp[Value.cells]at s;exact s
   subst o;have r:=d i k;have u:=(a1c (d 0 (by omega))).1 i;rw[u]at r;simp only[Nat.mul_one,Nat.add_zero,List.getElem_take];rw[r];simp[List.getD_eq_getElem?_getD,k,Value.cells]
end
end Go.Proofs.YtnnpfhoigmegcaaGreat
namespace Go.Proofs.YtnnpfhoigmegcaaGreat.seat
open Go.RowKit
theorem and_t{a b:Bool}(c:a=true)(d:b=true):(a&&b)=true:=by rw[c,d];rfl
theorem laid:laidOutB Tryz.pinned.checked.prog=true:=by kernel_rfl
theorem maps:mapsRowed Tryz.pinned.checked.prog=true:=by kernel_rfl
theorem stops:(Program.stops Tryz.pinned.checked.prog==[])=true:=by kernel_rfl
theorem knobs:(Program.stopKnobs Tryz.pinned.checked.prog==[])=true:=by kernel_rfl
theorem heard:Program.stopsHeard Tryz.pinned.checked.prog=true:=by kernel_rfl
theorem enter:Program.mayEnter Tryz.pinned.checked.prog=true:=by kernel_rfl
theorem lifts:(Rows.certifyFitsRow.lifted==Program.liftsFinal Tryz.pinned.checked.prog)=true:=by kernel_rfl
theorem make:(Program.make Tryz.pinned.checked.prog==some Rows.certifyFitsRow.make)=true:=by kernel_rfl
theorem plain:(Rows.certifyFitsRow.plainKeys==Program.plainKeys Tryz.pinned.checked.prog)=true:=by kernel_rfl
end Go.Proofs.YtnnpfhoigmegcaaGreat.seat
