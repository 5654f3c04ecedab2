/- Parts of a proof: each theorem states what it proves, and its conditions. -/
import Derived.Test.YtgbbpgflopajaaaGreatSpL
import Derived.BigRegion
set_option maxRecDepth 100000
set_option maxHeartbeats 6400000
namespace Go.Proofs.YtgbbpgflopajaaaGreat
open Go.RowKit Go.Rep Go.Lim
theorem a8t(X:Nat->Bool)(ao:Option Addr)(l:List Int)(p:Nat)(n:Int)(w:World)(hs:Sl (a0u .i64) 1 (mk X w) ao l)(C:l.length<=1099511627776):Calls Tryz.prog 115 #[.slice ao l.length p, .int .i64 n] w fun e w'=>w=w'/\e= .returned (.bool (b7L l n)):=by
 have B:=hs.hd;go_enter Tryz.func115,Tryz.ntmps115
 go_wp2_with fail
 go_loop [9] (fun c=>∃i:Nat,c= .int .i64 i/\i<=l.length/\Hid (∀j,j<i->a9F l n j=true)) (fun c=>l.length - (intOf c).toNat)
 case atStart=>exact⟨0,rfl,Nat.zero_le _,fun j t=>by omega⟩
 case round=>
  obtain⟨i,rfl,hi,k⟩:=hrel;by_cases g:i<l.length
  ·have s:=hs.int i g
   have q:=hs.int (i - 1) (by omega);have e1:=b2D g;have e2:=b2D (l:=l) (i:=i - 1) (by omega);obtain⟨x,hx⟩:∃x,l[i]=x:=⟨_,rfl⟩;obtain⟨y,r⟩:∃y,l[i - 1]'(by omega)=y:=⟨_,rfl⟩;rw[hx]at s e1;rw[r]at q e2;have m:=hid (b4S (n:=n) e1 e2);clear e1 e2 hx r;have d:Hid (a9F l n i=false->b7L l n=false):=hid fun h=>a6C i g h;by_cases u:x<0
   ·have b:b7L l n=false:=d.out (by rw[m.out];simp;omega)
    have a:=hid b;clear b;go_wp2_with (with_reducible refine a0s a2J (by omega) (by assumption) ?_)
    go_ret
    exact⟨rfl,a0n a.out.symm⟩
   by_cases v:n<=x
   ·have b:b7L l n=false:=d.out (by rw[m.out];simp;omega)
    have a:=hid b;clear b;go_wp2_with (with_reducible refine a0s a2J (by omega) (by assumption) ?_)
    go_ret
    exact⟨rfl,a0n a.out.symm⟩
   by_cases z:0<i
   ·by_cases A:x<=y
    ·have b:b7L l n=false:=d.out (by rw[m.out];simp;omega)
     have a:=hid b;clear b;go_wp2_with (with_reducible refine a0s a2J (by omega) (by assumption) ?_)
     go_ret
     exact⟨rfl,a0n a.out.symm⟩
    ·have o:a9F l n i=true:=by rw[m.out];simp;omega
     have f:=hid o;clear o;go_wp2_with (with_reducible refine a0s a2J (by omega) (by assumption) ?_)
     go_round
     case rel=>exact⟨i+1,by go_num,by omega,a3p k.out f.out⟩
     case measure=>simp[intOf];omega
   ·have o:a9F l n i=true:=by rw[m.out];simp;omega
    have f:=hid o;clear o;go_wp2_with (with_reducible refine a0s a2J (by omega) (by assumption) ?_)
    go_round
    case rel=>exact⟨i+1,by go_num,by omega,a3p k.out f.out⟩
    case measure=>simp[intOf];omega
  ·have b:Hid (b7L l n=true):=hid (a7m fun j t=>k.out j (by omega))
   go_wp2_with fail
   go_ret
   exact⟨rfl,a0n b.out.symm⟩
def tbm(tb:Nat):Nat->Bool:=fun k=>k==tb
theorem b6h(a:Nat):tbm a a=true:=by simp[tbm]
theorem a6l{a k:Nat}(h:k≠a):tbm a k=false:=by simpa[tbm]using h
def a0Z(X:Nat->Bool)(tb:Nat)(w:World):Prop:=
 X tb=true/\∃(lo:Option Addr) (l:List Int) (cap at_:Nat),w.heap[tb]? =some (.cells #[.slice lo l.length cap, .int .i64 (at_:Int)] 106 (0,0))/\l.length<=400/\at_<=l.length/\Sl (a0u .i64) 1 (mk X w) lo l
theorem a7d{X:Nat->Bool}{a:Nat}(h:X a=true):∀k,tbm a k=true->X k=true:=fun k b=>by
 have:k=a:=by simpa[tbm]using b
 rw[this];exact h
theorem a0Z.lt{X:Nat->Bool}{a:Nat}{w:World}(h:a0Z X a w):a<w.heap.size:=by
 obtain⟨_,lo,l,c,at_,b,_⟩:=h;by_cases d:a<w.heap.size
 ·exact d
 ·rw[Array.getElem?_eq_none (by omega)]at b;simp at b
theorem a0Z.ext{X:Nat->Bool}{c:Nat}{w w':World}(h:a0Z X c w)(d:Ext w w'):a0Z X c w':=by
 have b:=h.lt;obtain⟨j,lo,l,a,at_,e,f,g,i⟩:=h;exact⟨j,lo,l,a,at_,by rw[d.block c b rfl];exact e,f,g,i.mono (a0u.mono _) (a0m d)⟩
theorem a0Z.extY{X Y:Nat->Bool}{a:Nat}{w w':World}(h:a0Z X a w)(d:ExtX Y w w')(m:∀k,Y k=true->X k=true)(n:Y a=false):a0Z X a w':=by
 have c:=h.lt;obtain⟨j,lo,l,b,at_,e,f,g,i⟩:=h;exact⟨j,lo,l,b,at_,by rw[d.block a c n];exact e,f,g,i.mono (a0u.mono _) (a0v d m)⟩
def b8V(X:Nat->Bool)(tb:Nat)(w:World)(n:Int)(e:Ending)(w':World):Prop:=
 ExtX (tbm tb) w w'/\a0Z X tb w'/\∃m:Nat,e= .returned (.int .i64 (m:Int))/\((m:Int)<n\/m=0)
theorem b6i(v n:Int)(w:World)(k:1<=n)(l:n<=1099511627776):Calls Tryz.prog 97 #[.int .i64 v, .int .i64 n] w (fun e w'=>e= .returned (.int .i64 (v%n))/\w'=w):=by
 have i:(n==0)=false:=a2H (by omega);have g: -n<v.tmod n:=Int.lt_tmod_of_pos v (by omega);have f:v.tmod n<n:=Int.tmod_lt_of_pos v (by omega);have d:(v.tmod n<0->v.tmod n+n=v%n)/\(0<=v.tmod n->v.tmod n=v%n):=by
  have h:=Int.tmod_eq_emod (a:=v) (b:=n);have j:=Int.emod_nonneg v (show n≠0 by omega);have e1:=Int.emod_lt_of_pos v (show 0<n by omega);split at h<;>omega
 have c:=hid d;clear d;go_enter Tryz.func97,Tryz.ntmps97
 go_wp2_with fail
 ·go_ret
  exact⟨a0O (c.out.1 (by assumption)),rfl⟩
 ·go_ret
  exact⟨a0O (c.out.2 (by assumption)),rfl⟩
theorem a0Z.cells{X:Nat->Bool}{b:Nat}{w:World}(h:a0Z X b w):∃(lo:Option Addr) (l:List Int) (c at_:Nat),w.cell? ⟨b,0,none⟩=some (.slice lo l.length c)/\w.cell? ⟨b,1,none⟩=some (.int .i64 (at_:Int))/\w.frozen? ⟨b,1,none⟩=false/\l.length<=400/\at_<=l.length/\Sl (a0u .i64) 1 (mk X w) lo l/\ ∀a:Nat,a<=l.length->a0Z X b (w.setCell ⟨b,1,none⟩ (.int .i64 (a:Int)))/\ExtX (tbm b) w (w.setCell ⟨b,1,none⟩ (.int .i64 (a:Int)))/\ (w.setCell ⟨b,1,none⟩ (.int .i64 (a:Int))).cell? ⟨b,0,none⟩=some (.slice lo l.length c)/\(w.setCell ⟨b,1,none⟩ (.int .i64 (a:Int))).cell? ⟨b,1,none⟩=some (.int .i64 (a:Int)):=by
 have p:=h.lt;obtain⟨m,lo,l,c,at_,d,g,n,i⟩:=h;refine⟨lo,l,c,at_,by simp[World.cell?,d],by simp[World.cell?,d],by simp[World.frozen?,d],g,n,i,fun a o=>?_⟩;have j:ExtX (tbm b) w (w.setCell ⟨b,1,none⟩ (.int .i64 (a:Int))):=
  ⟨rfl,rfl,rfl,by simp[World.setCell],fun k r q=>Below.heap_setCell _ _ _ _ (fun e=>by subst e;simp[tbm]at q)⟩
 have f:(w.setCell ⟨b,1,none⟩ (.int .i64 (a:Int))).heap[b]? =some (.cells #[.slice lo l.length c, .int .i64 (a:Int)] 106 (0,0)):=by
  simp only[World.setCell,Array.getElem?_modify,d];simp
 exact⟨⟨m,lo,l,c,a,f,g,o,i.mono (a0u.mono _) (a0v j (a7d m))⟩,j,by unfold World.cell?;rw[f];rfl,by unfold World.cell?;rw[f];rfl⟩
theorem a0Z.drewN{X:Nat->Bool}{a:Nat}{w:World}(h:a0Z X a w)(n:Nat):a0Z X a (w.drewN n):=h
theorem a2z(X:Nat->Bool)(b:Nat)(n:Int)(w:World)(k:a0Z X b w)(J:n<=1099511627776):Calls Tryz.prog 37 #[.pointer (some ⟨b,0,none⟩), .int .i64 n] w (b8V X b w n):=by
 obtain⟨lo,l,d,at_,E,F,H,I,hat,hs,c⟩:=k.cells;have A:=hs.hd;by_cases y:n<1
 ·have hd:decide (n<1)=true:=decide_eq_true y
  go_enter Tryz.func37,Tryz.ntmps37
  go_wp2_with fail
  go_quiet (fail)
  go_wp2_with fail
  go_ret
  exact⟨(ExtX.refl _).drewN _,k.drewN _,0,rfl, .inr rfl⟩
 have hd:decide (n<1)=false:=decide_eq_false y;by_cases z:at_<l.length
 ·obtain⟨f,a,u,v⟩:=c (at_+1) (by omega)
  have e:=(hs.mono (a0u.mono _) (a0v a (a7d k.1))).int at_ z;obtain⟨x,hx⟩:∃x,l[at_]=x:=⟨_,rfl⟩;rw[hx]at e;clear hx c;have e1:((at_+1:Nat):Int)=(at_:Int)+1:=by omega
  rw[e1]at u v e f a;have B:∀N,((w.drewN N).setCell ⟨b,1,none⟩ (.int .i64 ((at_:Int)+1))).cell? ⟨b,0,none⟩=some (.slice lo l.length d):=fun _=>u;have C:∀N,((w.drewN N).setCell ⟨b,1,none⟩ (.int .i64 ((at_:Int)+1))).cell? ⟨b,1,none⟩=some (.int .i64 ((at_:Int)+1)):=fun _=>v;have D:∀N,((w.drewN N).setCell ⟨b,1,none⟩ (.int .i64 ((at_:Int)+1))).cell? (adr lo at_)=some (.int .i64 x):=fun _=>e;have G:IntKind.i64.wrap ((at_:Int)+1 - 1)=(at_:Int):=by rw[IntWalk.i64_in _ (by omega)];omega
  have j:∀N,a0Z X b ((w.drewN N).setCell ⟨b,1,none⟩ (.int .i64 ((at_:Int)+1))):=fun _=>f;have g:∀N,ExtX (tbm b) w ((w.drewN N).setCell ⟨b,1,none⟩ (.int .i64 ((at_:Int)+1))):=fun _=>⟨a.os,a.tape,a.output,a.size,a.block⟩;have t:=hid j;have o:=hid g;clear e1 f a u v j g;have p:decide ((l.length:Int)<=(at_:Int))=false:=decide_eq_false (by omega);have K:∀W,(Instr.indexAt 22 (.slice lo l.length d) (.int .i64 (at_:Int))).run Tryz.prog W= .ok (.pointer (some (adr lo at_))) W:=a0x a2J lo l.length d .i64 at_ A z rfl;go_enter Tryz.func37,Tryz.ntmps37
  go_wp2_with fail
  go_quiet (fail)
  go_wp2_with fail
  have h:=Int.emod_nonneg x (show n≠0 by omega);have i:=Int.emod_lt_of_pos x (show 0<n by omega);obtain⟨m,q⟩:=Int.eq_ofNat_of_zero_le h;have r:=hid q;have s:Hid ((m:Int)<n):=hid (by rw[<-q];exact i);clear q h i
  go_quiet ((go_at_call 97;exact Calls.quiet_of_same (b6i x n _ (by omega) (by omega))))
  go_wp2_with fail
  go_ret
  exact⟨(o.out _).drewN _,(t.out _).drewN _,m,a0O r.out, .inl s.out⟩
 ·have p:decide ((l.length:Int)<=(at_:Int))=true:=decide_eq_true (by omega)
  go_enter Tryz.func37,Tryz.ntmps37
  go_wp2_with fail
  go_quiet (fail)
  go_wp2_with fail
  go_ret
  exact⟨(ExtX.refl _).drewN _,k.drewN _,0,rfl, .inr rfl⟩
def b6j(X:Nat->Bool)(tb:Nat)(w:World)(e:Ending)(w':World):Prop:=ExtX (tbm tb) w w'/\a0Z X tb w'/\∃b:Bool,e= .returned (.bool b)
def b3Z(X:Nat->Bool)(tb:Nat)(w:World)(lo hi:Int)(e:Ending)(w':World):Prop:=ExtX (tbm tb) w w'/\a0Z X tb w'/\∃m:Int,e= .returned (.int .i64 m)/\lo<=m/\m<=hi
theorem a7e(X:Nat->Bool)(a:Nat)(n:Int)(w:World)(f:a0Z X a w)(g: -1000<=n)(d:n<=1099511627776):Calls Tryz.prog 32 #[.pointer (some ⟨a,0,none⟩), .int .i64 n] w (b6j X a w):=by
 go_enter Tryz.func32,Tryz.ntmps32
 go_wp2_with fail
 refine(a2z X a n _ f d).mono ?_;rintro e i ⟨c,b,m,rfl,h⟩;go_wp2_with fail
 go_ret
 exact⟨c,b,_,rfl⟩
theorem b6k(X:Nat->Bool)(d:Nat)(lo:Option Addr)(l:List Int)(f:Nat)(w:World)(a b:Int)(k:a0Z X d w)(hs:Sl (a0u .i64) 1 (mk X w) lo l)(o:0<l.length)(q:l.length<=1000)(g:Hid (∀x∈l,a<=x/\x<=b)):Calls Tryz.prog 87 #[.pointer (some ⟨d,0,none⟩), .slice lo l.length f] w (b3Z X d w a b):=by
 have p:=hs.hd;go_enter Tryz.func87,Tryz.ntmps87
 go_wp2_with fail
 refine(a2z X d _ _ k (by omega)).mono ?_;rintro e s ⟨j,i,m,rfl,r⟩;have c:m<l.length:=by omega
 have n:=(hs.mono (a0u.mono _) (a0v j (a7d k.1))).int m c;have h:=g.out l[m] (List.getElem_mem c);obtain⟨x,hx⟩:∃x,l[m]=x:=⟨_,rfl⟩;rw[hx]at n h;clear hx;go_wp2_with (with_reducible refine a0s a2J (by omega) (by assumption) ?_)
 go_ret
 exact⟨j,i,x,rfl,h.1,h.2⟩
theorem b6l(lo:Option Addr)(l:List Int)(a:Nat)(w:World)(hs:Sl (a0u .i64) 1 w.cell? lo l)(h:l.length<=a)(j:l.length<=9223372036854775807):Calls Tryz.prog 12 #[.slice lo l.length a] w (fun e w'=>e= .returned (.pointer (some ⟨w.heap.size,0,none⟩))/\Ext w w'/\a0Z (tbm w.heap.size) w.heap.size w'/\w'.heap.size=w.heap.size+1):=by
 have b:∀(l:List Int),l.length<=400->Sl (a0u .i64) 1 w.cell? lo l->a0Z (tbm w.heap.size) w.heap.size (w.alloc (.cells #[.slice lo l.length a, .int .i64 0] 106)):=by
  intro l h hs;refine⟨b6h _,lo,l,a,0,heap_alloc_new w _,h,Nat.zero_le _,?_⟩;rw[<-a2m]at hs;refine hs.mono (a0u.mono _) (a1i ((ExtX.refl (Y:=noY) w).alloc _) (fun k _ g=>by simp[noY]at g) fun k g hz=>?_);have:k=w.heap.size:=by simpa[tbm]using hz
  omega
 have f:∀u v,Ext w (w.alloc (.cells #[u,v] 106)):=fun u v=>(ExtX.refl w).alloc _;by_cases i:400<l.length
 ·have d:=hid (b (l.take 400) (by simp;omega) (hs.take 400))
  have c:(l.take 400).length=400:=by simp;omega
  rw[c]at d;clear b c;go_enter Tryz.func12,Tryz.ntmps12
  go_wp2_with fail
  go_ret
  exact⟨rfl,f _ _,d.out,by simp⟩
 ·have d:=hid (b l (by omega) hs)
  clear b;go_enter Tryz.func12,Tryz.ntmps12
  go_wp2_with fail
  go_ret
  exact⟨rfl,f _ _,d.out,by simp⟩
theorem b4a(l:List Int):(l.map (Value.int .i64)).flatMap a0j=l.map (Value.int .i64):=by
 induction l with
 |nil=>rfl
 |cons x l ih=>simp only[List.map_cons,List.flatMap_cons,ih];rfl
theorem c0A(X:Nat->Bool)(w:World)(l:List Int)(e:TypeId)(arr:Array Value)(a:arr=(l.map (Value.int .i64)).toArray)(b:∀k,X k=true->k<w.heap.size)(d:l.length<=1000):OL (a0u .i64) 1 X w.heap.size e (w.alloc (.cells arr e)) (some ⟨w.heap.size,0,none⟩) l.length l:=by
 refine OL.lit (a0u.elem .i64) b (Nat.le_refl _) (l.map (Value.int .i64)) l arr ?_ (by simp) (fun i hi c=>by simp[a0u]) (by omega);rw[a,b4a]
theorem b6m(X:Nat->Bool)(f:Nat)(l:List Int)(arr:Array Value)(e:TypeId)(len:Nat)(w:World)(a b:Int)(p:a0Z X f w)(o:∀k,X k=true->k<w.heap.size)(c:arr=(l.map (Value.int .i64)).toArray)(d:len=l.length)(n:0<l.length)(m:l.length<=1000)(h:Hid (∀x∈l,a<=x/\x<=b)):Calls Tryz.prog 87 #[.pointer (some ⟨f,0,none⟩), .slice (some ⟨w.heap.size,0,none⟩) len len] (w.alloc (.cells arr e)) (b3Z X f w a b):=by
 subst d;have j:Ext w (w.alloc (.cells arr e)):=(ExtX.refl w).alloc _;refine(b6k X f _ l _ _ a b (p.ext j) (OL.sl (a0u.elem .i64) (c0A X w l e arr c o m)) n m h).mono ?_;rintro q w' ⟨g,i,r⟩;exact⟨(ExtX.of j).trans g,i,r⟩
theorem a0Z.unstep{X:Nat->Bool}{b:Nat}{w w':World}{oo a:Option Addr}(h:a0Z (un X oo) b w)(f:ob oo b=false)(e:ExtX (ob oo) w w')(o:a=oo\/∃g,a=some ⟨g,0,none⟩/\w.heap.size<=g):a0Z (un X a) b w':=by
 have d:=h.lt;obtain⟨n,lo,l,c,at_,i,j,k,m⟩:=h;refine⟨?_,lo,l,c,at_,by rw[e.block b d f];exact i,j,k,m.unstep (a0u.mono _) e o⟩;have:X b=true:=by simpa[un,f]using n
 exact a0i this
theorem a0Z.unX{X:Nat->Bool}{b:Nat}{w:World}{oo:Option Addr}(h:a0Z (un X oo) b w)(g:X b=true):a0Z X b w:=by
 obtain⟨_,lo,l,a,at_,c,d,e,f⟩:=h;exact⟨g,lo,l,a,at_,c,d,e,f.unX (a0u.mono _)⟩
theorem a8m(X:Nat->Bool):un X none=X:=by funext k;simp[un,ob]
theorem a0Z.none{X:Nat->Bool}{a:Nat}{w:World}(h:a0Z X a w):a0Z (un X none) a w:=by rw[a8m];exact h
theorem a0Z.old{X:Nat->Bool}{c:Nat}{w w':World}{oo:Option Addr}(h:a0Z X c w)(d:Ext w w')(m:∀j,j<w.heap.size->ob oo j=false):a0Z (un X oo) c w':=by
 have b:=h.lt;obtain⟨k,lo,l,a,at_,e,f,g,i⟩:=h;exact⟨a0i k,lo,l,a,at_,by rw[d.block c b rfl];exact e,f,g,i.old (a0u.mono _) d m⟩
theorem _root_.Go.Rep.OL.not_ob{α:Type}{R:Mem->Value->α->Prop}{sz base a:Nat}{e:TypeId}{ao:Option Addr}{l:List α}{X:Nat->Bool}{w:World}(d:OL R sz X base e w ao a l){k:Nat}(b:X k=true):ob ao k=false:=by
 have h:∀k,ob ao k=true->X k=false:=d.1;cases c:ob ao k
 ·rfl
 ·rw[h k c]at b;simp at b
end Go.Proofs.YtgbbpgflopajaaaGreat
namespace Go.Lin
open Go.Lim Go.Rep
end Go.Lin
namespace Go.Proofs.YtgbbpgflopajaaaGreat
open Go.RowKit Go.Rep Go.Lim Go.Lin
end Go.Proofs.YtgbbpgflopajaaaGreat
namespace Go.Rep
open Go.RowKit
end Go.Rep
namespace Go.Lin
open Go.Lim Go.Rep
end Go.Lin
namespace Go.Proofs.YtgbbpgflopajaaaGreat
open Go.RowKit Go.Rep Go.Lim Go.Lin
theorem Bx.store{w:World}{b:Nat}{v0:Value}{T:TypeId}(h:Bx w b #[v0] T)(v:Value):Bx (w.setCell ⟨b,0,none⟩ v) b #[v] T/\ExtX (ob (some ⟨b,0,none⟩)) w (w.setCell ⟨b,0,none⟩ v):=by
 obtain⟨a,c⟩:=a0P h v (i:=0) (by simp);exact⟨by simpa using a,c⟩
end Go.Proofs.YtgbbpgflopajaaaGreat
namespace Go.Lin
open Go.Lim Go.Rep
open Classical in
noncomputable def c2g(c:Nat)(z:List Vec):Nat:=if h:∃k,a4w c z k then h.choose else 0
def c1w(p:Mat)(y:List Rat):Bool:=c1P p&&decide (y.length=colsL p)
noncomputable def c2h(p:Mat)(y:List Rat):Nat:=if c1w p y then c2g (colsL p) (a5o (c1m (colsL p) p y))else 0
end Go.Lin
namespace Go.Proofs.YtgbbpgflopajaaaGreat
open Go.RowKit Go.Rep Go.Lim Go.Lin
theorem b7k(X:Nat->Bool)(w:World)(u:Value)(x:Rat)(v:HX X w)(h:QV (mk X w) u x):Calls Tryz.prog 78 #[u] w (a1Y X w QC x):=by
 obtain⟨D,p,B,q,r,A,e1,rfl⟩:=h.shape;obtain⟨W,I,n,f,m,hz⟩:=a1x w #[.bool D, .slice p B q, .slice r A e1] #[.bool false, .slice none 0 0, .slice none 0 0] 38 38;have d:HX (a0e X w.heap.size 2) W:=v.boxes hz;have e:=QV.mono _ _ _ _ (a0l (nb:=2) n) h;obtain⟨b,y⟩:∃b,w.heap.size=b:=⟨_,rfl⟩;have z:w.heap.size<=b:=by omega
 rw[y]at f m hz d e;have j:=f.cell 0 rfl;have k:=f.cell 1 rfl;have l:=f.cell 2 rfl;have s:QV (mk (a0e X b 2) W) (.agg #[.bool false, .slice none 0 0, .slice none 0 0]) 0:=(QC.zero _).qv (by decide+kernel);have i:x+0=x:=by grind
 clear h;go_enter Tryz.func78,Tryz.ntmps78
 go_wp2_with fail
 refine(b1G (a0e X b 2) W _ _ x 0 d e s).mono ?_;rintro H N ⟨c,M,rfl,a⟩;rw[i]at a;obtain⟨L,E,K,F,G,J,e5,rfl⟩:=a.shape;have g:=m.ext0 c;clear j k l;go_wp2_with ((with_reducible show wpList _ _ _ (⟨_, .store 38 _ _,_,_,_,_⟩::_) _ _);refine a0a a0o rfl rfl g rfl rfl (a1z _ _ _ _ _ _ _) ?_;intro O C o)
 have t:=QC.mono _ _ _ _ a0k (QC.mono _ _ _ _ (a0g o (by omega) (by omega)) a);exact bodyPost_ret (a0d rfl rfl a0o C rfl) rfl ⟨ExtX.box (n.trans c) o (by omega),_,rfl,t⟩
theorem b4b(X:Nat->Bool)(w:World)(u:Value)(m:Mom)(L:Option Addr)(K:Nat)(F:HX X w)(I:b3J (mk X w) u m):Calls Tryz.prog 118 #[u, .slice L 0 K] w (a1Y X w QC m.yy):=by
 obtain⟨P,O,M,S,R,Q,s,a,A,p,d,k,q,rfl,C,D,r⟩:=I;obtain⟨N,v⟩:∃N,m.n=N:=⟨_,rfl⟩;rw[v];obtain⟨W,Z,t,j,o,hz⟩:=a1x w #[.int .i64 N, .slice P O M, .slice S R Q, .bool s, .slice a A p, .slice d k q] #[.bool false, .slice none 0 0, .slice none 0 0] 144 38;have g:HX (a0e X w.heap.size 2) W:=F.boxes hz;have c:Hid (∀w',Ext W w'->Le (mk X w) (mk (a0e X w.heap.size 2) w')):=hid fun w' h=>a0l (t.trans h);obtain⟨b,G⟩:∃b,w.heap.size=b:=⟨_,rfl⟩;have H:w.heap.size<=b:=by omega
 rw[G]at j o hz g c;have hq:=QV.mono _ _ _ _ (c.out W (ExtX.refl _)) r;have x:=b7k (a0e X b 2) W _ m.yy g hq;obtain⟨y,z⟩:∃y,m.yy=y:=⟨_,rfl⟩;rw[z]at x |-;have k3:W.cell? ⟨b,3,none⟩=some (.bool s):=j.cell 3 rfl;have k4:W.cell? ⟨b,3+1,none⟩=some (.slice a A p):=j.cell 4 rfl;have k5:W.cell? ⟨b,3+2,none⟩=some (.slice d k q):=j.cell 5 rfl;clear z C D r hq v c;go_enter Tryz.func118,Tryz.ntmps118
 go_wp2_with fail
 refine x.mono ?_;rintro e w1 ⟨f,u1,rfl,i⟩;obtain⟨s6,T,n6,U,V,k6,Y,rfl⟩:=i.shape;have l:=o.ext0 f;go_wp2_with ((with_reducible show wpList _ _ _ (⟨_, .store 38 _ _,_,_,_,_⟩::_) _ _);refine a0a a0o rfl rfl l rfl rfl (a1z _ _ _ _ _ _ _) ?_;intro w7 J B)
 have E:=QC.mono _ _ _ _ a0k (QC.mono _ _ _ _ (a0g B (by omega) (by omega)) i);exact bodyPost_ret (a0d rfl rfl a0o J rfl) rfl ⟨ExtX.box (t.trans f) B (by omega),_,rfl,E⟩
end Go.Proofs.YtgbbpgflopajaaaGreat
namespace Go
section
variable {P:Program} {ops:Array Oper} {Q:Exit->Act->World->Prop} {md:Region.Mode} {S:World->Prop} {n:Nat}
def c1a(l:Array Bool):Nat:=l.toList.count false
def c2i{T:Type}[DecidableEq T](md:Region.Mode)(ops:Array Oper)(all:List T)(L:T->Array Bool)(next:T->Nat->Option T)(fin:T->Bool):Bool:=
 all.all fun s=>fin s||(!(Region.ready md ops (L s)).isEmpty&&(Region.ready md ops (L s)).all fun i=>match next s i with
  |some t=>decide (t∈all)&&decide (L t=(L s).setIfInBounds i true)&&decide (c1a (L t)+1=c1a (L s))
  |none=>false)
theorem a3z{i:Nat}{o:Oper}{K:Act->World->Prop}{a:Act}{w:World}(d:ops[i]? =some o)(h:∀b:Act->World->Prop,Shut (∀a w,K a w->b a w)->if Region.wanted o (yielded ops a.tmps)=true then Oper.wp P o a w b Q else b (a.put o.dst undef) w):wpOp P ops Q i K a w:=wpOp_step d fun b c=>h b c
theorem b2i{T:Type}[DecidableEq T]{I:T->Act->World->Prop}(all:List T)(L:T->Array Bool)(next:T->Nat->Option T)(fin:T->Bool)(hc:c2i md ops all L next fin=true)(hstep:∀s i t a w,s∈all->next s i=some t->I s a w->wpOp P ops Q i (fun a' w'=>S w'/\I t a' w') a w)(hexit:∀s a w,s∈all->fin s=true->I s a w->a1B P md ops Q S n (c1a (L s)) (L s) a w):∀(fuel:Nat) (s:T) (a:Act) (w:World),s∈all->c1a (L s)=fuel->I s a w->a1B P md ops Q S n fuel (L s) a w:=by
 intro fuel
 induction fuel with
 |zero=>
  intro s a w hs hf hI;have h:=List.all_eq_true.1 hc s hs;cases hfin:fin s
  ·rw[hfin,Bool.false_or]at h
   obtain⟨h1,h2⟩:=(Bool.and_eq_true _ _).mp h;cases hr:Region.ready md ops (L s)with
   |nil=>rw[hr]at h1;cases h1
   |cons i r=>
    have h3:=List.all_eq_true.1 h2 i (by rw[hr];exact List.mem_cons_self);cases hn:next s i with
    |none=>rw[hn]at h3;cases h3
    |some t=>
     rw[hn]at h3;obtain⟨_,h5⟩:=(Bool.and_eq_true _ _).mp h3;have:=of_decide_eq_true h5;omega
  ·have:=hexit s a w hs hfin hI
   rwa[hf]at this
 |succ fuel ih=>
  intro s a w hs hf hI;have h:=List.all_eq_true.1 hc s hs;cases hfin:fin s
  ·rw[hfin,Bool.false_or]at h
   obtain⟨h1,h2⟩:=(Bool.and_eq_true _ _).mp h;refine⟨fun h0=>(by rw[h0]at h1;cases h1),fun i hi=>?_⟩;have h3:=List.all_eq_true.1 h2 i hi;cases hn:next s i with
   |none=>rw[hn]at h3;cases h3
   |some t=>
    rw[hn]at h3;obtain⟨h4,h5⟩:=(Bool.and_eq_true _ _).mp h3;obtain⟨h6,h7⟩:=(Bool.and_eq_true _ _).mp h4;have e1:=of_decide_eq_true h5;have e2:=of_decide_eq_true h6;have e3:=of_decide_eq_true h7;refine wpOp_mono (fun a' w' h=>⟨fun _=>h.1,?_⟩) (hstep s i t a w hs hn hI);rw[<-e3];exact ih t a' w' e2 (by omega) h.2
  ·have:=hexit s a w hs hfin hI
   rwa[hf]at this
end
end Go
namespace Go.Proofs.YtgbbpgflopajaaaGreat
open Go.RowKit Go.Rep Go.Lim Go.Lin
theorem a5z(X:Nat->Bool)(w:World)(u v:Value)(l m:List Rat)(hX:HX X w)(hu:RV (mk X w) u l)(hv:RV (mk X w) v m)(hn:l.length<=1000000)(r:m.length=l.length)(C:∀k,k<=l.length->hq (a2U l m k)<=68719476736)(E:∀k,k<l.length->hq (l.getD k 0*m.getD k 0)<=68719476736):Calls Tryz.prog 134 #[u,v] w (a1Y X w QC (a1Z l m)):=by
 obtain⟨ao,ca,rfl,c9,b2⟩:=hu;obtain⟨bo,cb,rfl,d0,b3⟩:=hv;have Z:=b2.hd;have a0:=b3.hd;obtain⟨W,hW,hE,I,g,hz⟩:=a1x w #[.bool false, .slice none 0 0, .slice none 0 0] #[.bool false, .slice none 0 0, .slice none 0 0] 38 38;have B:HX (a0e X w.heap.size 2) W:=hX.boxes hz;have h0:QC (mk (a0e X w.heap.size 2) W) (.agg #[.bool false, .slice none 0 0, .slice none 0 0]) (a2U l m 0):=QC.zero _;obtain⟨n,q⟩:∃n,l.length=n:=⟨_,rfl⟩;rw[q]at hn r C E c9 Z |-;rw[r]at d0 a0 |-;have a4:=hid q;have a5:=hid r;have P:=hid C;have Q:=hid E;have U:Hid (a2U l m n=a1Z l m):=hid (by unfold a1Z;rw[q]);clear q r C E;go_enter Tryz.func134,Tryz.ntmps134
 go_wp2_with ((with_reducible show wpList _ _ _ (⟨_, .store _ _ _,_,_,_,_⟩::_) _ _);refine a0a a0o rfl rfl g rfl rfl (a1z _ _ _ _ _ _ _) ?_;intro W2 g J)
 obtain⟨b,hb⟩:∃b,w.heap.size=b:=⟨_,rfl⟩;have a3:Hid (∀wr,Ext w wr->Le (mk X w) (mk (a0e X b 2) wr)):=hid fun wr h=>by rw[<-hb];exact a0l h
 have f8:w.heap.size<=b:=by omega
 have c3:Ext w W2:=ExtX.box hE J (by omega);have K:=I.ext J (a0b (by omega));have z:=B.ext J;have L:QC (mk (a0e X w.heap.size 2) W2) (.agg #[.bool false, .slice none 0 0, .slice none 0 0]) (a2U l m 0):=QC.zero _;rw[hb]at K g z L;rw[hb]at I B h0 |-;clear hW I B h0 hE;go_loopw [6] (fun k wr=>∃(i:Nat) (s:Bool) (a:Option Addr) (n' c':Nat) (d:Option Addr) (kk e:Nat),k= .int .i64 i/\i<=n/\Bx wr b #[.bool false, .slice none 0 0, .slice none 0 0] 38/\Bx wr (b+1) #[.bool s, .slice a n' c', .slice d kk e] 38/\QC (mk (a0e X b 2) wr) (.agg #[.bool s, .slice a n' c', .slice d kk e]) (a2U l m i)/\HX (a0e X b 2) wr/\Ext w wr) (fun k _=>n - (intOf k).toNat)
 case atStart=>exact⟨0,_,_,_,_,_,_,_,rfl,Nat.zero_le _,K,g,L,z,c3⟩
 case round=>
  obtain⟨i,s,a,n',c',d,kk,e,rfl,hi,I,g,hq,c8,p⟩:=hrel;by_cases G:i<n
  ·have a1:i<l.length:=by rw[a4.out];exact G
   have a2:i<m.length:=by rw[a5.out];exact G
   have d9:=b2.mono QV.mono (a3.out wr p);have b4:=b3.mono QV.mono (a3.out wr p);obtain⟨g1,o1,s1,p1,n1,q1,d1,k1,e1,V,f6,S,a8⟩:=d9.rat QV.shaped i a1;obtain⟨g2,o2,s2,p2,n2,q2,d2,k2,e2,Y,f7,T,a9⟩:=b4.rat QV.shaped i a2;have gl:Hid (l.getD i 0=l[i]):=hid (by simp[List.getD_eq_getElem?_getD,a1]);have gm:Hid (m.getD i 0=m[i]):=hid (by simp[List.getD_eq_getElem?_getD,a2]);have t:Hid (a2U l m i+l[i]*m[i]=a2U l m (i+1)):=hid (by rw[<-gl.out,<-gm.out];rfl);have R:=hid (P.out i hi);have F:=hid (Q.out i G);rw[gl.out,gm.out]at F;obtain⟨x,hx⟩:∃x,l[i]=x:=⟨_,rfl⟩;obtain⟨y,hy⟩:∃y,m[i]=y:=⟨_,rfl⟩;rw[hx,hy]at t F;rw[hx]at a8;rw[hy]at a9;have i1:∀W,(Instr.indexAt 25 (.slice ao n ca) (.int .i64 (i:Int))).run Tryz.prog W= .ok (.pointer (some ⟨g1,o1,none⟩)) W:=by rw[<-V];exact a0h a0w ao n ca .i64 i Z (by omega)
   have i2:∀W,(Instr.indexAt 25 (.slice bo n cb) (.int .i64 (i:Int))).run Tryz.prog W= .ok (.pointer (some ⟨g2,o2,none⟩)) W:=by rw[<-Y];exact a0h a0w bo n cb .i64 i a0 (by omega)
   obtain⟨D,hD⟩:∃D,a2U l m i=D:=⟨_,rfl⟩;obtain⟨D2,A⟩:∃D2,a2U l m (i+1)=D2:=⟨_,rfl⟩;rw[hD]at hq t R;rw[A]at t;have M:=hid A;clear hx hy V Y hD A;have c:Ext wr wr.drew:=(ExtX.refl wr).drew;have b9:=I.ext0 c;have j:=g.ext0 c;have b6:=j.cell 0 rfl;have b7:=j.cell 1 rfl;have b8:=j.cell 2 rfl;obtain⟨e4,e8,e9⟩:=S.out noY wr.drew c rfl;obtain⟨f3,f4,f5⟩:=T.out noY wr.drew c rfl;have O:=c8.ext c;have e0:QV (mk (a0e X b 2) wr.drew) (.agg #[.bool s1, .slice p1 n1 q1, .slice d1 k1 e1]) x:=mkx QV.mono a8 c;have e3:QV (mk (a0e X b 2) wr.drew) (.agg #[.bool s2, .slice p2 n2 q2, .slice d2 k2 e2]) y:=mkx QV.mono a9 c;have d5:QV (mk (a0e X b 2) wr.drew) (.agg #[.bool s, .slice a n' c', .slice d kk e]) D:=(mkx QC.mono hq c).qv R.out;clear S T;go_wp2_with fail
   go_region_with (first|(go_at_call 52;(with_reducible refine(b1I (a0e X b 2) wr.drew _ _ _ _ O e0 e3).mono ?_);rintro ee w6 ⟨t1,u6,rfl,b5⟩;obtain⟨s6,a6,n6,c6,d6,k6,e6,rfl⟩:=b5.shape;have N:=O.ext t1;have d8:=mkx QV.mono d5 t1;have d4:=b5.qv F.out;have o:=j.ext0 t1;have m0:=o.cell 0 rfl;have m1:=o.cell 1 rfl;have m2:=o.cell 2 rfl)|(go_at_call 51;(with_reducible refine(b2R (a0e X b 2) w6 _ _ _ _ N d8 d4).mono ?_);rintro ee w7 ⟨t7,u7,rfl,H⟩;obtain⟨s7,a7,n7,c7,d7,k7,e7,rfl⟩:=H.shape;rw[t.out]at H;have f:=o.ext0 t7;have g0:=f.cell 0 rfl;have c1:=f.cell 1 rfl;have c2:=f.cell 2 rfl;have f0:=f.frozen 0;have f1:=f.frozen 1;have f2:=f.frozen 2))
   all_goals
    obtain⟨z1,z2⟩:=f.set3 (.bool s7) (.slice a7 n7 c7) (.slice d7 k7 e7);have h8:=QC.mono _ _ _ _ (a0g (lo:=b) (nb:=2) z2 (by omega) (by omega)) H;have c0:=((b9.ext0 t1).ext0 t7).ext z2 (a0b (by omega));have c4:Ext w _:=ExtX.box (p.trans (c.trans (t1.trans t7))) z2 (by omega);have c5:=(N.ext t7).ext z2;rw[<-M.out]at h8;clear b6 b7 b8 e4 e8 e9 f3 f4 f5 m0 m1 m2 g0 c1 c2 f0 f1 f2 i1 i2;go_wp2_with fail
    go_roundw
    case rel=>exact⟨i+1,_,_,_,_,_,_,_,by go_num,by omega,c0,z1,h8,c5,c4⟩
    case measure=>simp[intOf];omega
  ·have d3:i=n:=by omega
   subst d3;rw[U.out]at hq;have b6:=g.cell 0 rfl;have b7:=g.cell 1 rfl;have b8:=g.cell 2 rfl;go_wp2_with ((with_reducible show wpList _ _ _ (⟨_, .store _ _ _,_,_,_,_⟩::_) _ _);refine a0a a0o rfl rfl I rfl rfl (a1z _ _ _ _ _ _ _) ?_;intro w7 r1 J)
   have h7:=QC.mono _ _ _ _ a0k (QC.mono _ _ _ _ (a0g J (by omega) (by omega)) hq);exact bodyPost_ret (a0d rfl rfl a0o r1 rfl) rfl ⟨ExtX.box p J (by omega),_,rfl,h7⟩
theorem b6n(X:Nat->Bool)(w:World)(u v t:Value)(x:Mat)(y b:List Rat)(n c B:Nat)(hX:HX X w)(hu:MV (mk X w) u x)(hv:RV (mk X w) v y)(ht:RV (mk X w) t b)(d:Shp n c x)(hy:y.length=n)(hb:b.length=c)(hn:n<=96)(hc:c<=96)(b6:BM B x)(hbB:BR B b)(c5:1<=B)(c7:200*B<=68000000000):Calls Tryz.prog 198 #[u,v,t] w (a1Y X w RC (a2q x y b)):=by
 obtain⟨L,hL⟩:∃L,a2q x y b=L:=⟨_,rfl⟩;have F:Hid (L.length=n):=hid (by rw[<-hL,a2P (by rw[hy,d.1]),d.1]);have c9:Hid (∀i (h1:i<x.length) (h2:i<y.length) (h:i<L.length),L[i]=y[i] - a1Z x[i] b):=hid fun i h1 h2 h=>by subst hL;exact a5y h h1 h2
 have f9:L.length<=n:=by rw[F.out];exact Nat.le_refl _
 have g1:n<=L.length:=by rw[F.out];exact Nat.le_refl _
 obtain⟨J,uc,rfl,e9,b4⟩:=hu;obtain⟨va,vc,rfl,f0,b5⟩:=hv;have Z:=b4.hd;have a0:=b5.hd;have f1:=hid d.1;have f2:=hid hy;have d8:=hid hb;have e4:=hid d.2;have b7:=hid b6;have R:=hid hbB;rw[d.1]at Z e9 |-;rw[hy]at a0 f0 |-;rw[hL];clear hL d hy hb b6 hbB;go_enter Tryz.func198,Tryz.ntmps198
 go_wp2_with fail
 go_loopw [7,12] (fun o k wr=>∃(i:Nat) (oo:Option Addr) (co:Nat),k= .int .i64 i/\o= .slice oo i co/\i<=n/\OL QC 3 X w.heap.size 38 wr oo co (L.take i)/\Ext w wr) (fun _ k _=>n - (intOf k).toNat)
 case atStart=>exact⟨0,none,0,rfl,rfl,Nat.zero_le _,OL.nil _ _ _ _ _ _,ExtX.refl _⟩
 case round=>
  obtain⟨i,oo,co,rfl,rfl,hi,A,E⟩:=hrel;have P:HX X wr:=hX.ext E;have Q:HX (un X oo) wr:=A.unX P;have d7:=E.size;by_cases a7:i<n
  ·have a4:i<x.length:=by rw[f1.out];exact a7
   have a5:i<y.length:=by rw[f2.out];exact a7
   have a3:i<L.length:=by omega
   have a:Ext wr wr.drew:=(ExtX.refl wr).drew;have e7:Sl RV 1 (mk (un X oo) wr) J x:=b4.old RV.mono E (fun j hj=>A.ob_lt hj);have f3:Sl QV 3 (mk (un X oo) wr) va y:=b5.old QV.mono E (fun j hj=>A.ob_lt hj);have d9:RV (mk (un X oo) wr) t b:=a4F RV.mono ht E (fun j hj=>A.ob_lt hj);have b2:=hid (a0L L i a3);have e3:=hid (a0V (l:=L) (i:=i) (by omega));obtain⟨a1,c1,d0,q,C,b0⟩:=e7.row i a4;obtain⟨s,H,s2,a2,n2,c2,d2,k2,e2,V,d1,S,b1⟩:=f3.rat QV.shaped i a5;have a8:=(a1a d0).2;have a9:=(a1a d1).2;have g:=e4.out x[i] (List.getElem_mem _);have r:=a1A (b7.out x[i] (List.getElem_mem _)) R.out c5 (by rw[g];exact hc) c7;have T:Hid (hq (a1Z x[i] b)<=68719476736):=hid (r.1 _ (Nat.le_refl _));have e:=a6y (un X oo) wr.drew (.slice a1 x[i].length c1) t x[i] b (Q.ext a) (mkx RV.mono ⟨a1,c1,rfl,C,b0⟩ a) (mkx RV.mono d9 a) (by rw[g];omega) (by rw[g,d8.out]) r.1 r.2;have f:=c9.out i a4 a5 a3;have b8:=mkx QV.mono b1 a;obtain⟨D,hD⟩:∃D,a1Z x[i] b=D:=⟨_,rfl⟩;obtain⟨yi,c0⟩:∃yi,y[i]=yi:=⟨_,rfl⟩;obtain⟨z,hz⟩:∃z,L[i]=z:=⟨_,rfl⟩;rw[hD]at T e f;rw[c0]at b8 f;rw[hz]at f b2;rw[g]at q e;have U:=hid f;have d5:HX (un X oo) wr.drew:=Q;have i2:∀W,(Instr.indexAt 25 (.slice va n vc) (.int .i64 (i:Int))).run Tryz.prog W= .ok (.pointer (some ⟨s,H,none⟩)) W:=by rw[<-V];exact a0h a0w va n vc .i64 i a0 (by omega)
   have i1:∀W,(Instr.indexAt 53 (.slice J n uc) (.int .i64 (i:Int))).run Tryz.prog W= .ok (.pointer (some (adr J i))) W:=a0x a0p J n uc .i64 i Z (by omega) rfl;have O:Hid (∀Y W',ExtX Y wr.drew W'->Y s=false->Y (adr J i).block=false->W'.cell? ⟨s,H,none⟩=some (.bool s2)/\W'.cell? ⟨s,H+1,none⟩=some (.slice a2 n2 c2)/\W'.cell? ⟨s,H+2,none⟩=some (.slice d2 k2 e2)/\W'.cell? (adr J i)=some (.slice a1 c c1)):=hid fun Y W' h hg e0=>by
    have p2:=S.out Y W' ((ExtX.of a).trans h) hg;exact⟨p2.1,p2.2.1,p2.2.2,q.out Y W' ((ExtX.of a).trans h) e0⟩
   obtain⟨f4,f5,f6,f7⟩:=O.out noY wr.drew (ExtX.refl _) rfl rfl;have c3:=q.out noY wr (ExtX.refl _) rfl;clear q S V b0 b1 g C r f hD c0 hz;go_wp2_with fail
   go_region_held3 (fun w'=>w'.cell? ⟨s,H,none⟩=some (.bool s2)/\w'.cell? ⟨s,H+1,none⟩=some (.slice a2 n2 c2)/\w'.cell? ⟨s,H+2,none⟩=some (.slice d2 k2 e2))
    (first|exact(let p:=O.out noY _ m rfl rfl;⟨p.1,p.2.1,p.2.2.1⟩)|exact(let p:=O.out noY _ (m.trans I) rfl rfl;⟨p.1,p.2.1,p.2.2.1⟩)|exact(let p:=O.out noY _ (ExtX.alloc (m.trans I) _) rfl rfl;⟨p.1,p.2.1,p.2.2.1⟩)|exact(let p:=O.out (ob oo) _ ((ExtX.of (m.trans I)).trans K) a9 a8;⟨p.1,p.2.1,p.2.2.1⟩)|go_keep)
    (first|(go_at_call 199;(with_reducible refine e.mono ?_);rintro ee w6 ⟨m,u6,rfl,e8⟩;have b3:=e8.qv T.out;have b9:=mkx QV.mono b8 m;have d3:=d5.ext m)|(go_at_call 76;(with_reducible refine(b8d (un X oo) w6 _ _ _ _ d3 b9 b3).mono ?_);rintro ee w8 ⟨I,u7,rfl,G⟩;obtain⟨s6,a6,n6,c6,d6,k6,e6,rfl⟩:=G.shape;rw[<-U.out]at G;have M:=A.ext0 QC.elem (a.trans (m.trans I));have g0:=(a.trans (m.trans I)).size;have d4:=P.ext (a.trans (m.trans I)))|(refine a1D (l:=L.take i) rfl (by rfl) a0w rfl QC.elem (by omega) d4 i e3.out rfl rfl M (.agg #[.bool s6, .slice a6 n6 c6, .slice d6 k6 e6]) z rfl G (by omega) (by omega) ?_;intro f8 c4 w7 N K g3))
   have c8:=(E.trans (a.trans (m.trans I))).own M (Nat.le_refl _) K;rw[b2.out]at N;clear f4 f5 f6 f7 c3 i1 i2;go_wp2_with fail
   go_roundw
   case rel=>exact⟨i+1,f8,c4,by go_num,by go_num,by omega,N,c8⟩
   case measure=>simp[intOf];omega
  ·have e1:i=n:=by omega
   subst e1;rw[List.take_of_length_le (by omega)]at A;have hc:=A.lenCap;have hs:=A.sl QC.elem;go_wp2_with fail
   go_ret
   exact⟨E,_,rfl,oo,co,by rw[F.out];rfl,hc,hs⟩
theorem b6o(X:Nat->Bool)(w:World)(u v t:Value)(x:Mat)(y b:List Rat)(n c B:Nat)(hX:HX X w)(hu:MV (mk X w) u x)(hv:RV (mk X w) v y)(ht:RV (mk X w) t b)(d:Shp n c x)(hy:y.length=n)(hb:b.length=c)(hn:n<=96)(hc:c<=96)(b5:BM B x)(hbB:BR B b)(c4:1<=B)(c5:200*B<=68000000000):Calls Tryz.prog 135 #[u,v,t] w (a1Y X w RC (a2q x y b)):=by
 obtain⟨L,hL⟩:∃L,a2q x y b=L:=⟨_,rfl⟩;have E:Hid (L.length=n):=hid (by rw[<-hL,a2P (by rw[hy,d.1]),d.1]);have c8:Hid (∀i (h1:i<x.length) (h2:i<y.length) (h:i<L.length),L[i]=y[i] - a1Z x[i] b):=hid fun i h1 h2 h=>by subst hL;exact a5y h h1 h2
 have f8:L.length<=n:=by rw[E.out];exact Nat.le_refl _
 have g0:n<=L.length:=by rw[E.out];exact Nat.le_refl _
 obtain⟨I,uc,rfl,e8,b3⟩:=hu;obtain⟨va,vc,rfl,e9,b4⟩:=hv;have V:=b3.hd;have Z:=b4.hd;have f0:=hid d.1;have f1:=hid hy;have d7:=hid hb;have e3:=hid d.2;have b6:=hid b5;have Q:=hid hbB;rw[d.1]at V e8 |-;rw[hy]at Z e9 |-;rw[hL];clear hL d hy hb b5 hbB;go_enter Tryz.func135,Tryz.ntmps135
 go_wp2_with fail
 go_loopw [7,8] (fun o k wr=>∃(i:Nat) (oo:Option Addr) (co:Nat),k= .int .i64 i/\o= .slice oo i co/\i<=n/\OL QC 3 X w.heap.size 38 wr oo co (L.take i)/\Ext w wr) (fun _ k _=>n - (intOf k).toNat)
 case atStart=>exact⟨0,none,0,rfl,rfl,Nat.zero_le _,OL.nil _ _ _ _ _ _,ExtX.refl _⟩
 case round=>
  obtain⟨i,oo,co,rfl,rfl,hi,s,C⟩:=hrel;have O:HX X wr:=hX.ext C;have P:HX (un X oo) wr:=s.unX O;have d5:=C.size;by_cases a5:i<n
  ·have a3:i<x.length:=by rw[f0.out];exact a5
   have a4:i<y.length:=by rw[f1.out];exact a5
   have a0:i<L.length:=by omega
   have a:Ext wr wr.drew:=(ExtX.refl wr).drew;have e4:Sl RV 1 (mk (un X oo) wr) I x:=b3.old RV.mono C (fun j hj=>s.ob_lt hj);have f2:Sl QV 3 (mk (un X oo) wr) va y:=b4.old QV.mono C (fun j hj=>s.ob_lt hj);have d8:RV (mk (un X oo) wr) t b:=a4F RV.mono ht C (fun j hj=>s.ob_lt hj);have b1:=hid (a0L L i a0);have e1:=hid (a0V (l:=L) (i:=i) (by omega));obtain⟨a1,c1,c9,p,A,a9⟩:=e4.row i a3;obtain⟨r,G,s2,a2,n2,c2,d2,k2,e2,U,d0,R,b0⟩:=f2.rat QV.shaped i a4;have a7:=(a1a c9).2;have a8:=(a1a d0).2;have g:=e3.out x[i] (List.getElem_mem _);have q:=a1A (b6.out x[i] (List.getElem_mem _)) Q.out c4 (by rw[g];exact hc) c5;have S:Hid (hq (a1Z x[i] b)<=68719476736):=hid (q.1 _ (Nat.le_refl _));have e:=a5z (un X oo) wr.drew (.slice a1 x[i].length c1) t x[i] b (P.ext a) (mkx RV.mono ⟨a1,c1,rfl,A,a9⟩ a) (mkx RV.mono d8 a) (by rw[g];omega) (by rw[g,d7.out]) q.1 q.2;have f:=c8.out i a3 a4 a0;have b7:=mkx QV.mono b0 a;obtain⟨D,hD⟩:∃D,a1Z x[i] b=D:=⟨_,rfl⟩;obtain⟨yi,b9⟩:∃yi,y[i]=yi:=⟨_,rfl⟩;obtain⟨z,hz⟩:∃z,L[i]=z:=⟨_,rfl⟩;rw[hD]at S e f;rw[b9]at b7 f;rw[hz]at f b1;rw[g]at p e;have T:=hid f;have d4:HX (un X oo) wr.drew:=P;have i2:∀W,(Instr.indexAt 25 (.slice va n vc) (.int .i64 (i:Int))).run Tryz.prog W= .ok (.pointer (some ⟨r,G,none⟩)) W:=by rw[<-U];exact a0h a0w va n vc .i64 i Z (by omega)
   have i1:∀W,(Instr.indexAt 53 (.slice I n uc) (.int .i64 (i:Int))).run Tryz.prog W= .ok (.pointer (some (adr I i))) W:=a0x a0p I n uc .i64 i V (by omega) rfl;have N:Hid (∀Y W',ExtX Y wr.drew W'->Y r=false->Y (adr I i).block=false->W'.cell? ⟨r,G,none⟩=some (.bool s2)/\W'.cell? ⟨r,G+1,none⟩=some (.slice a2 n2 c2)/\W'.cell? ⟨r,G+2,none⟩=some (.slice d2 k2 e2)/\W'.cell? (adr I i)=some (.slice a1 c c1)):=hid fun Y W' h hg d9=>by
    have p2:=R.out Y W' ((ExtX.of a).trans h) hg;exact⟨p2.1,p2.2.1,p2.2.2,p.out Y W' ((ExtX.of a).trans h) d9⟩
   obtain⟨f3,f4,f5,f6⟩:=N.out noY wr.drew (ExtX.refl _) rfl rfl;have c0:=p.out noY wr (ExtX.refl _) rfl;clear p R U a9 b0 g A q f hD b9 hz;go_wp2_with fail
   go_region_held3 (fun w'=>w'.cell? ⟨r,G,none⟩=some (.bool s2)/\w'.cell? ⟨r,G+1,none⟩=some (.slice a2 n2 c2)/\w'.cell? ⟨r,G+2,none⟩=some (.slice d2 k2 e2)/\w'.cell? (adr I i)=some (.slice a1 c c1))
    (first|exact N.out noY _ m rfl rfl|exact N.out noY _ (m.trans H) rfl rfl|exact N.out noY _ (ExtX.alloc (m.trans H) _) rfl rfl|exact N.out (ob oo) _ ((ExtX.of (m.trans H)).trans J) a8 a7|go_keep)
    (first|(go_at_call 134;(with_reducible refine e.mono ?_);rintro ee w6 ⟨m,u6,rfl,e7⟩;have b2:=e7.qv S.out;have b8:=mkx QV.mono b7 m;have d1:=d4.ext m)|(go_at_call 49;(with_reducible refine(b2S (un X oo) w6 _ _ _ _ d1 b8 b2).mono ?_);rintro ee w8 ⟨H,u7,rfl,F⟩;obtain⟨s6,a6,n6,c6,d6,k6,e6,rfl⟩:=F.shape;rw[<-T.out]at F;have K:=s.ext0 QC.elem (a.trans (m.trans H));have f9:=(a.trans (m.trans H)).size;have d3:=O.ext (a.trans (m.trans H)))|(refine a1D (l:=L.take i) rfl (by rfl) a0w rfl QC.elem (by omega) d3 i e1.out rfl rfl K (.agg #[.bool s6, .slice a6 n6 c6, .slice d6 k6 e6]) z rfl F (by omega) (by omega) ?_;intro f7 c3 w7 M J g1))
   have c7:=(C.trans (a.trans (m.trans H))).own K (Nat.le_refl _) J;rw[b1.out]at M;clear f3 f4 f5 f6 c0 i1 i2;go_wp2_with fail
   go_roundw
   case rel=>exact⟨i+1,f7,c3,by go_num,by go_num,by omega,M,c7⟩
   case measure=>simp[intOf];omega
  ·have e0:i=n:=by omega
   subst e0;rw[List.take_of_length_le (by omega)]at s;have hc:=s.lenCap;have hs:=s.sl QC.elem;go_wp2_with fail
   go_ret
   exact⟨C,_,rfl,oo,co,by rw[E.out];rfl,hc,hs⟩
end Go.Proofs.YtgbbpgflopajaaaGreat
namespace Go.Rep
open Go.RowKit Go.Lim Go.Lin
theorem c0B{X:Nat->Bool}{oo a:Option Addr}{w:World}(b:a=oo\/∃g,a=some ⟨g,0,none⟩/\w.heap.size<=g):∀k,k<w.heap.size->un X a k=true->un X oo k=true:=fun k d h=>by
 rcases b with rfl|⟨g,rfl,c⟩
 ·exact h
 ·by_cases hx:X k=true
  ·exact a0i hx
  ·exfalso
   have:g=k:=by simpa[un,hx,ob]using h
   omega
def b2q(hs:List Hdr)(i:Nat):Option Addr:=(hs.getD i (none,0,0)).1
theorem a5A{hs:List Hdr}{i:Nat}(h:i<hs.length):b2q hs i=hs[i].1:=by simp[b2q,List.getD_eq_getElem?_getD,h]
structure CS (R:Mem->Value->Rat->Prop) (X:Nat->Bool) (base:Nat) (e1 e2:TypeId) (w:World) (oo:Option Addr) (co:Nat) (hs:List Hdr) (M:Mat) (i:Nat) (L:List Rat):Prop where
 outer:OL HdR 1 X base e1 w oo co hs
 len:hs.length=M.length
 done:∀k (_:k<i) (h1:k<hs.length) (h2:k<M.length),hs[k].2.1=M[k].length/\hs[k].2.1<=hs[k].2.2/\Sl R 3 (mk (un (un X oo) (b2q hs i)) w) hs[k].1 M[k]
 row:∀h1:i<hs.length,hs[i].2.1=L.length/\OL R 3 (un X oo) base e2 w (b2q hs i) hs[i].2.2 L
 rest:∀k,i<k->(h:k<hs.length)->hs[k]=(none,0,0)
section
variable {R:Mem->Value->Rat->Prop} {X:Nat->Bool} {base:Nat} {e1 e2:TypeId} {w w':World} {oo:Option Addr} {co:Nat} {hs:List Hdr} {M:Mat} {i:Nat} {L:List Rat}
theorem CS.start{n:Nat}(d:OL HdR 1 X base e1 w oo co (List.replicate n (none,0,0)))(b:M.length=n)(e2:TypeId):CS R X base e1 e2 w oo co (List.replicate n (none,0,0)) M 0 []:=by
 refine⟨d,by rw[List.length_replicate,b],fun k e=>by omega,fun a=>?_,fun k _ h=>by simp⟩;have c:b2q (List.replicate n (none,0,0)) 0=none:=by rw[a5A a];simp
 rw[c];refine⟨by simp,?_⟩;have:((List.replicate n ((none,0,0):Hdr))[0]).2.2=0:=by simp
 rw[this];exact OL.nil _ _ _ _ _ _
theorem CS.ext0(f:Elem R 3)(h:CS R X base e1 e2 w oo co hs M i L)(e:Ext w w'):CS R X base e1 e2 w' oo co hs M i L:=
 ⟨h.outer.ext0 HdR.elem e,h.len,fun k j d g=>let ⟨a,b,c⟩:=h.done k j d g;⟨a,b,c.mono f.mono (a0m e)⟩,fun d=>let ⟨a,b⟩:=h.row d;⟨a,b.ext0 f e⟩,h.rest⟩
theorem CS.next(o:Elem R 3)(h:CS R X base e1 e2 w oo co hs M i L)(hi:i<M.length)(n:L=M[i]):CS R X base e1 e2 w oo co hs M (i+1) []:=by
 have g:i<hs.length:=by rw[h.len];exact hi
 obtain⟨q,m⟩:=h.row g;have d:∀f:i+1<hs.length,hs[i+1]=(none,0,0):=fun f=>h.rest (i+1) (by omega) f;have p:b2q hs (i+1)=none:=by
  by_cases f:i+1<hs.length
  ·rw[a5A f,d f]
  ·simp[b2q,List.getD_eq_getElem?_getD,f]
 have l:un (un X oo) none=un X oo:=by funext k;simp[un,ob]
 refine⟨h.outer,h.len,fun k j f r=>?_,fun f=>?_,fun k j f=>h.rest k (by omega) f⟩
 ·rw[p,l]
  by_cases e:k=i
  ·subst e
   have e2:=a5A f;rw[e2]at m;refine⟨by rw[q,n],by rw[q];exact m.lenCap,?_⟩;rw[<-n];exact m.sl o
  ·obtain⟨a,b,c⟩:=h.done k (by omega) f r
   exact⟨a,b,c.mono o.mono (a1v fun k _ j=>a0i j)⟩
 ·rw[p]
  refine⟨by rw[d f];rfl,?_⟩;have:hs[i+1].2.2=0:=by rw[d f]
  rw[this];exact OL.nil _ _ _ _ _ _
theorem CS.mc(l:Elem R 3)(h:CS R X base e1 e2 w oo co hs M M.length []):SlV (SlV R 3) 1 (_root_.Go.Rep.mk X w) (.slice oo M.length co) M:=by
 have g:=h.len;refine⟨oo,co,rfl,by rw[<-g];exact h.outer.lenCap,fun o=>?_,fun k e=>?_⟩
 ·have:=h.outer.hd;rw[g]at this;exact this o
 ·have d:k<hs.length:=by omega
  obtain⟨u,i,q,rfl⟩:=h.outer.cell HdR.one k d;obtain⟨a,b,c⟩:=h.done k e d e;refine⟨.slice hs[k].1 hs[k].2.1 hs[k].2.2,rfl,fun j n=>?_,?_⟩
  ·have f:j=0:=by simp[Value.cells]at n;omega
   subst f;unfold _root_.Go.Rep.mk;have m:X (adr oo (k*1+0)).block=false:=by
    obtain⟨b,p,rfl⟩:=h.outer.hd (by omega);exact h.outer.1 _ (by simp[ob,adr])
   rw[m];simpa[Value.cells]using i
  ·rw[a]
   exact⟨_,_,rfl,by rw[<-a];exact b,c.mono l.mono (a1v fun k _ e=>a0i (a0i e))⟩
theorem CS.outer7(h:CS R X base e1 e2 w oo co hs M i L)(hi:i<hs.length)(a:ExtX (ob (b2q hs i)) w w'):OL HdR 1 X base e1 w' oo co hs:=
 h.outer.frame HdR.pure a (fun k c=>by
  cases b:ob (b2q hs i) k
  ·rfl
  ·have:=(a1a ((h.row hi).2.1 k b)).2;rw[c]at this;cases this) h.outer.1
theorem CS.push(p:Elem R 3)(h:CS R X base e1 e2 w oo co hs M i L)(hi:i<hs.length){v:Rat}{d:Option Addr}{e n:Nat}{u x:World}(B:n=L.length+1)(r:OL R 3 (un X oo) base e2 u d e (L++[v]))(m:ExtX (ob (b2q hs i)) w u)(t:d=b2q hs i\/∃g,d=some ⟨g,0,none⟩/\w.heap.size<=g)(f:ExtX (ob oo) u x)(o:OL HdR 1 X base e1 x oo co (hs.set i (d,n,e))):CS R X base e1 e2 x oo co (hs.set i (d,n,e)) M i (L++[v]):=by
 subst B;have y:b2q (hs.set i (d,L.length+1,e)) i=d:=by rw[a5A (by rw[List.length_set];exact hi)];simp
 refine⟨o,by rw[List.length_set];exact h.len,fun k j l A=>?_,fun l=>?_,fun k j l=>?_⟩
 ·have s:k<hs.length:=by simpa using l
  obtain⟨a,b,c⟩:=h.done k j s A;rw[y,List.getElem_set_ne (by omega)];refine⟨a,b,?_⟩;have z:=c.mono p.mono (a1i (Z:=un (un X oo) d) m (fun q _ hq=>a0r hq) (fun q hq hz=>c0B (X:=un X oo) t q hq hz));exact z.mono p.mono (a1i f (fun q _ hq=>a0i (a0r hq)) (fun _ _ h=>h))
 ·rw[y]
  refine⟨by simp,?_⟩;have:(hs.set i (d,L.length+1,e))[i].2.2=e:=by simp
  rw[this];exact r.ext p f (fun k _ j=>a0r j) (fun _ _ h=>h)
 ·rw[List.getElem_set_ne (by omega)]
  exact h.rest k j (by simpa using l)
end
end Go.Rep
namespace Go.Lin
theorem a7f{p:List Nat}{c:Nat}(b:p.Pairwise (· < ·))(a:∀j∈p,j<c):(List.range c).filter (fun j=>decide (j∈p))=p:=by
 refine b0J _ _ ?_ b fun x=>?_
 ·exact(List.pairwise_lt_range (n:=c)).filter _
 ·simp only[List.mem_filter,List.mem_range,decide_eq_true_eq]
  exact⟨fun h=>h.2,fun h=>⟨a x h,h⟩⟩
def pkR(r:List Rat)(us:List Bool)(j:Nat):List Rat:=((List.range j).filter fun i=>us.getD i false).map fun i=>r.getD i 0
theorem b4c{r:List Rat}{a:List Bool}{j:Nat}(h:a.getD j false=true):pkR r a (j+1)=pkR r a j++[r.getD j 0]:=by
 unfold pkR;rw[List.range_succ,List.filter_append,show List.filter (fun i=>a.getD i false) [j]= [j]from by simp only[List.filter,h],List.map_append];rfl
theorem b7l{r:List Rat}{a:List Bool}{j:Nat}(h:a.getD j false=false):pkR r a (j+1)=pkR r a j:=by
 unfold pkR;rw[List.range_succ,List.filter_append,show List.filter (fun i=>a.getD i false) [j]= []from by simp only[List.filter,h],List.append_nil]
theorem b4d{r:List Rat}{p:List Nat}{c:Nat}(d:p.Pairwise (· < ·))(b:∀j∈p,j<c):pkR r (Go.Rep.usedL p c) c=p.map fun j=>r.getD j 0:=by
 have e:(List.range c).filter (fun i=>(Go.Rep.usedL p c).getD i false)=p:=by
  rw[<-a7f d b];refine List.filter_congr fun j a=>?_;have a:=List.mem_range.1 a;simp[Go.Rep.usedL,List.getD_eq_getElem?_getD,a]
 unfold pkR;rw[e]
theorem b8W(r:List Rat)(a:List Bool)(j:Nat):(pkR r a j).length<=j:=by
 unfold pkR;rw[List.length_map];exact Nat.le_trans (List.length_filter_le _ _) (by rw[List.length_range];exact Nat.le_refl _)
end Go.Lin
namespace Go.Proofs.YtgbbpgflopajaaaGreat
open Go.RowKit Go.Rep Go.Lim Go.Lin
theorem b2j(X:Nat->Bool)(w:World)(u:Value)(uo:Option Addr)(uc:Nat)(x:Mat)(p:List Nat)(n c:Nat)(hX:HX X w)(hu:MV (mk X w) u x)(b5:Sl BlR 1 (mk X w) uo (usedL p c))(G:Shp n c x)(hn:n<=96)(hc:c<=96)(hp:p.Pairwise (· < ·))(d4:∀j∈p,j<c)(_hxB:BM 68719476736 x):Calls Tryz.prog 201 #[u, .slice uo c uc] w (a1Y X w MV (pkL x p)):=by
 obtain⟨M,hM⟩:∃M,pkL x p=M:=⟨_,rfl⟩;have a6:Hid (M.length=n):=hid (by rw[<-hM,b0a];exact G.1);have c2:Hid (∀i (h1:i<x.length) (h:i<M.length),pkR x[i] (usedL p c) c=M[i]):=hid fun i h1 h=>by subst hM;rw[b4d hp d4];simp[pkL]
 obtain⟨o,I⟩:∃o,usedL p c=o:=⟨_,rfl⟩;have Z:Hid (o.length=c):=hid (by rw[<-I];exact a2e p c);obtain⟨ua,h9,rfl,e3,e0⟩:=hu;have f5:=e0.hd;have g5:=hid G.1;have g1:=hid G.2;rw[I]at c2 b5;have c8:=b5.hd;rw[Z.out]at c8;rw[G.1]at f5 e3 |-;rw[hM];clear hM I G hp d4 _hxB;go_enter Tryz.func201,Tryz.ntmps201
 go_wp2_with ((with_reducible show wpList _ _ _ (⟨_, .makeSlice _ _ _,_,_,_,_⟩::_) _ _);refine a2u (R:=HdR) a0p HdR.elem (none,0,0) (fun _=>rfl) X hX w.heap.size (Nat.le_refl _) n rfl rfl rfl (by omega) (by omega) ?_;intro oo w1 c3 a4)
 have b7:=CS.start (R:=QV) c3 a6.out 38;have e9:=hX.ext a4;clear c3;go_loopw [15] (fun k wr=>∃(i:Nat) (hs:List Hdr),k= .int .i64 i/\i<=n/\hs.length=n/\CS QV X w.heap.size 25 38 wr oo n hs M i []/\Ext w wr) (fun k _=>n - (intOf k).toNat)
 case atStart=>exact⟨0,_,rfl,Nat.zero_le _,List.length_replicate,b7,a4⟩
 case round=>
  obtain⟨i,hs,rfl,hi,d,s,e⟩:=hrel;have f1:HX X wr:=hX.ext e;clear b7 a4 e9;by_cases b2:i<n
  ·have d0:i<x.length:=by rw[g5.out];exact b2
   have f2:HX (un X oo) wr:=s.outer.unX f1;have g9:=e;obtain⟨a1,c1,g8,a8,U,P⟩:=e0.row i d0;have F:=g1.out x[i] (List.getElem_mem _);have T:=hid fun h=>c2.out i d0 h;obtain⟨r,hr⟩:∃r,x[i]=r:=⟨_,rfl⟩;rw[hr]at a8 U P F T;have d7:=hid F;rw[F]at a8 U;have h5:Hd a1 c:=by have:=P.hd;rw[F]at this;exact this
   have g6:=a8.out noY wr e rfl;clear F hr;obtain⟨wo,g4⟩:∃wo,wo=wr:=⟨_,rfl⟩;subst g4;go_wp2_with (with_reducible refine a0s a0p (by omega) (by assumption) ?_)
   go_loopw [22] (fun k wx=>∃(j:Nat) (hs:List Hdr),k= .int .i64 j/\j<=c/\hs.length=n/\CS QV X w.heap.size 25 38 wx oo n hs M i (pkR r o j)/\Ext w wx) (fun k _=>c - (intOf k).toNat)
   case atStart=>exact⟨0,hs,rfl,Nat.zero_le _,d,s,e⟩
   case round=>
    clear s d g6 f2;obtain⟨j,hs,rfl,hj,d,s,e⟩:=hrel;have h4:HX X wr:=hX.ext e;by_cases d2:j<c
    ·have b1:j<r.length:=by rw[d7.out];exact d2
     have d1:j<o.length:=by rw[Z.out];exact d2
     have g:i<hs.length:=by rw[d];exact b2
     have Q:=P.mono QV.mono (a0m e);have kb:=a1h ((b5.mono BlR.mono (a0m e)).bl j d1);have bx:=Bx.new wr #[.bool false, .slice none 0 0, .slice none 0 0] 38;have a9:Hid (o.getD j false=o[j]):=hid (by simp[List.getD_eq_getElem?_getD,d1]);have f4:Hid (r.getD j 0=r[j]):=hid (by simp[List.getD_eq_getElem?_getD,b1]);obtain⟨b,hb⟩:∃b,o[j]=b:=⟨_,rfl⟩;rw[hb]at kb a9;have iu:∀W,(Instr.indexAt 81 (.slice uo c uc) (.int .i64 (j:Int))).run Tryz.prog W= .ok (.pointer (some (adr uo j))) W:=a0x a9n uo c uc .i64 j c8 (by omega) rfl;clear hb;cases b
     ·have f9:Hid (pkR r o (j+1)=pkR r o j):=hid (b7l a9.out)
      go_wp2_with (first|(with_reducible refine a1I a0w (by omega) (by assumption) ?_)|((with_reducible show wpList _ _ _ (⟨_, .load 38 _,_,_,_,_⟩::_) _ _);refine a0C a0o j Q b1 rfl (by simp) QV.agg ?_;intro u5 H;obtain⟨s5,a5,n5,c5,d5,m5,e5,rfl⟩:=H.shape)|((with_reducible show wpList _ _ _ (⟨_, .store 38 _ _,_,_,_,_⟩::_) _ _);refine a0a a0o rfl rfl bx rfl rfl (a1z _ _ _ _ _ _ _) ?_;intro w5 y1 y2;have t:Ext wr w5:=ExtX.box ((ExtX.refl wr).alloc _) y2 (Nat.le_refl _);have g7:=t.cell kb))
      have b8:=s.ext0 QV.elem t;rw[<-f9.out]at b8;go_roundw
      case rel=>exact⟨j+1,hs,by go_num,by omega,d,b8,e.trans t⟩
      case measure=>simp[intOf];omega
     ·have J:Hid (pkR r o (j+1)=pkR r o j++[r[j]]):=hid (by rw[<-f4.out];exact b4c a9.out)
      have m:=s.row g;have E:=hid (b8W r o j);obtain⟨L,hL⟩:∃L,pkR r o j=L:=⟨_,rfl⟩;rw[hL]at s J m E;obtain⟨q,hq⟩:∃q,L.length=q:=⟨_,rfl⟩;have d6:=hid hq;have C:=a5A g;obtain⟨h0,b0⟩:∃h0,hs[i]=h0:=⟨_,rfl⟩;rw[b0]at m C;obtain⟨z,N,ci⟩:=h0;obtain⟨b3,y⟩:=m
      dsimp only at b3 y C
      rw[C]at y;obtain rfl:N=q:=b3.trans hq;have h6:N<=j:=by rw[<-hq];exact E.out
      have D:=hid C;have c6:=hid b0;obtain⟨v,hv⟩:∃v,r[j]=v:=⟨_,rfl⟩;have g3:=hid hv;rw[hv]at J;have c7:Hd oo n:=by have:=s.outer.hd;rw[d]at this;exact this
      have d3:∀k,ob z k=true->k<wr.heap.size:=fun k V=>(y.block V).2;have d8:∀k,ob oo k=true->ob z k=false:=fun k V=>by
       cases hc:ob z k
       ·rfl
       ·have:=(a1a (y.1 k hc)).2;rw[V]at this;cases this
      have Q:Sl QV 3 (mk (un (un X oo) z) wr) a1 r:=P.mono QV.mono (a1i e (fun k _ V=>by simp[noY]at V) fun k V hz=>by
       by_cases hx:X k=true
       ·exact hx
       ·exfalso
        have e1:ob oo k=false:=s.outer.ob_lt V;have e2:ob z k=false:=y.ob_lt V;simp[un,hx,e1,e2]at hz)
      clear hq C b0 hv hL b3;go_wp2_with (first|(with_reducible refine a1I a0w (by omega) (by assumption) ?_)|((with_reducible show wpList _ _ _ (⟨_, .load 38 _,_,_,_,_⟩::_) _ _);refine a0C a0o j Q b1 rfl (by simp) QV.agg ?_;intro u5 H;rw[g3.out]at H;obtain⟨s5,a5,n5,c5,d5,m5,e5,rfl⟩:=H.shape)|((with_reducible show wpList _ _ _ (⟨_, .store 38 _ _,_,_,_,_⟩::_) _ _);refine a0a a0o rfl rfl bx rfl rfl (a1z _ _ _ _ _ _ _) ?_;intro w5 y1 y2;have t:Ext wr w5:=ExtX.box ((ExtX.refl wr).alloc _) y2 (Nat.le_refl _);have g7:=t.cell kb))
      have f:Ext wr w5.drew:=t.drew;have a3:=s.ext0 QV.elem f;have b4:=y.ext0 QV.elem f;obtain⟨A,f3⟩:∃A,wr.heap.size=A:=⟨_,rfl⟩;rw[f3]at y1;obtain⟨u0,q0,h8,d9⟩:=s.outer.cell HdR.one i g;rw[c6.out]at d9;obtain rfl:u0= .slice z N ci:=d9;have hS:Hid (∀Y w',ExtX Y w5.drew w'->(∀k,ob oo k=true->Y k=false)->Y A=false->w'.cell? (adr oo i)=some (.slice z N ci)/\w'.cell? ⟨A,0,none⟩=some (.bool s5)/\w'.cell? ⟨A,0+1,none⟩=some (.slice a5 n5 c5)/\w'.cell? ⟨A,0+2,none⟩=some (.slice d5 m5 e5)):=hid fun Y w' h h1 h2=>by
       have b6:=(y1.ext0 (ExtX.refl w5).drew).ext h h2;refine⟨((ExtX.of f).trans h).cellY q0 (h1 _ ?_),b6.cell 0 rfl,b6.cell 1 rfl,b6.cell 2 rfl⟩;obtain⟨b,h7,rfl⟩:=c7 (by omega);simp[ob,adr]
      have i9:∀W,(Instr.indexAt 53 (.slice oo n n) (.int .i64 (i:Int))).run Tryz.prog W= .ok (.pointer (some (adr oo i))) W:=a0x a0p oo n n .i64 i c7 (by omega) rfl;have c4:HX (un X oo) w5.drew:=a3.outer.unX (hX.ext (e.trans f));have h3:HX (un (un X oo) z) w5.drew:=b4.unX c4;have g2:=mkx QV.mono H f;clear kb bx Q;refine a0z 10 (fun w'=>w'.cell? (adr oo i)=some (.slice z N ci)/\w'.cell? ⟨A,0,none⟩=some (.bool s5)/\w'.cell? ⟨A,0+1,none⟩=some (.slice a5 n5 c5)/\w'.cell? ⟨A,0+2,none⟩=some (.slice d5 m5 e5)) (by kernel_rfl) (by kernel_rfl) (hS.out noY _ (ExtX.refl _) (fun _ _=>rfl) rfl) (fun B a=>?_);refine kt 0 a ?_;refine kt 1 a ?_;refine kt 2 a ?_;refine kt 3 a ?_;refine kt 4 a ?_;refine kt 5 a ?_;refine kt 6 a ?_;refine ks 7 (fun K S=>?_);go_simp
      skip
      refine kcn S (hS.out noY _ ((ExtX.refl _).alloc _) (fun _ _=>rfl) rfl) (fun B=>?_);clear S K;refine ks 8 (fun K S=>?_)
      (refine a1D (l:=L) rfl (by rfl) a0w rfl QV.elem (Nat.le_trans (e.trans f).size (Nat.le_refl _)) c4 N d6.out rfl rfl b4 (.agg #[.bool s5, .slice a5 n5 c5, .slice d5 m5 e5]) v rfl g2 (by omega) (by omega) ?_;intro a0 a2 w7 e8 O g0)
      refine kcn S (hS.out (ob z) w7 O d8 (by cases hc:ob z A;rfl;exact absurd (d3 A hc) (by omega))) (fun B=>?_);clear S K;have a7:=a3.outer7 g (by rw[D.out];exact O);obtain⟨_,p0,f0,_⟩:=a7.cell HdR.one i g;refine kt 9 a ?_;refine kl 10 (fun K S=>?_);go_simp
      refine S.out _ _ ?_;clear S K;obtain⟨e7,c0⟩:=a7.set1 a5i HdR.elem HdR.one i g (.slice a0 (N+1) a2) (a0,N+1,a2) rfl;have b9:=a3.push QV.elem (n:=N+1) g (by rw[d6.out]) e8 (by rw[D.out];exact O) (by rw[D.out];exact g0) c0 e7;have e6:=((e.trans f).own b4 (Nat.le_refl _) O).own a7 (Nat.le_refl _) c0;rw[<-J.out]at b9;have f8:(hs.set i (a0,N+1,a2)).length=n:=by rw[List.length_set];exact d
      clear p0 f0;go_wp2_with fail
      go_roundw
      case rel=>exact⟨j+1,_,by go_num,by omega,f8,b9,e6⟩
      case measure=>simp[intOf];omega
    ·have f7:j=c:=by omega
     subst f7;have c9:i<M.length:=by rw[a6.out];exact b2
     have e4:=s.next QV.elem c9 (T.out c9);go_wp2_with fail
     go_roundw
     case rel=>exact⟨i+1,hs,by go_num,by omega,d,e4,e⟩
     case measure=>simp[intOf];omega
  ·have f6:i=n:=by omega
   subst f6;have hl:=a6.out;subst hl;have hm:=s.mc QV.elem;go_wp2_with fail
   go_ret
   exact⟨e,_,rfl,hm⟩
end Go.Proofs.YtgbbpgflopajaaaGreat
namespace Go.Lin
open Go.Lim
def a2Q(L:List Rat)(i:Nat):List Rat:=L.take i++List.replicate (L.length - i) 0
theorem a5U(L:List Rat):a2Q L 0=List.replicate L.length 0:=by simp[a2Q]
theorem a5B{L:List Rat}{i:Nat}(h:i<=L.length):(a2Q L i).length=L.length:=by simp[a2Q];omega
theorem a5V(L:List Rat):a2Q L L.length=L:=by simp[a2Q]
theorem a7g{L:List Rat}{i:Nat}(h:i<L.length):(a2Q L i).set i L[i]=a2Q L (i+1):=by
 unfold a2Q;rw[List.set_append_right _ _ (by simp;omega),show L.length - i=(L.length - (i+1))+1 by omega,List.replicate_succ,show i - (L.take i).length=0 by simp;omega,List.set_cons_zero,<-List.take_append_getElem h,List.append_assoc];rfl
theorem b1t{u:Mat}{n m i:Nat}(hi:i<u.length)(h:i<(a3n u n m).length):(a3n u n m)[i]=a1Z u[i] (a2s (a2y (a1K u n m) m) u[i]):=a9h hi h
end Go.Lin
namespace Go.Proofs.YtgbbpgflopajaaaGreat
open Go.RowKit Go.Rep Go.Lim Go.Lin
theorem a9r(X:Nat->Bool)(w:World)(u:Value)(z:Mat)(n m B:Nat)(hX:HX X w)(hu:MV (mk X w) u z)(b:Shp n m z)(c5:1<=n)(hn:n<=8)(hm:m<=4)(hB:BM B z)(N:1<=B)(b4:B<=510/\n*(2*B+1)<=6540)(J:m≠0->¬a4x (a1K z n m) m):Calls Tryz.prog 200 #[u] w (a1Y X w RC (a3n z n m)):=by
 have c:Hid ((a3n z n m).length=n):=hid (by rw[a4s];exact b.1);have C:=hid fun i (a:i<z.length) (h:i<(a3n z n m).length)=>b1t a h;have Q:=hid fun(h0:m=0)=>(by subst h0;exact a9i b:a3n z n m=List.replicate n 0);have j4:=hid fun w' (h:Ext w w')=>mkx MV.mono hu h;obtain⟨ua,uc,rfl,g0,W⟩:=hu;have i3:=W.hd;rw[b.1]at j4 i3 g0 |-;have c8:=hid b.1;have j0:=hid b.2;have h0:0<z.length:=by rw[b.1];exact c5
 obtain⟨a0,c0,j6,e3,e6,i9⟩:=W.row 0 h0;rw[b.2 z[0] (List.getElem_mem _)]at e3;have x:=hid fun(a:1<=m)=>(⟨b1a b (by omega) a (by omega),a8i b c5,b1a (a1y z n m) (by omega) c5 (by omega),a8i (a1y z n m) a,b1a (a0F z n m) (by omega) a (by omega),a8i (a0F z n m) a,b1a (a1W (a0F z n m)) (by omega) a (by omega),a8i (a1W (a0F z n m)) a⟩:a0y z=true/\colsL z=m/\a0y (trL z n m)=true/\colsL (trL z n m)=n/\a0y (a1K z n m)=true/\colsL (a1K z n m)=m/\a0y (a2y (a1K z n m) m)=true/\colsL (a2y (a1K z n m) m)=m);have P:=a5v hB N;have U:BM B (trL z n m):=a5w (b0Q P);have b9:=hid (a8o (m:=m) P hn b4);have F:=hid (b0e (m:=m) P hn hm b4);have l:=hid fun r (K:r∈z)=>b0f (m:=m) hB hn hm N b4 K;have i6:=hid (a1y z n m).1;have i7:=hid (a0F z n m).1;have g:=hid (a1W (a0F z n m));have j3:=hid fun(a:1<=m)=>(a3y (a1m (a0F z n m)) (a6w (a0F z n m) b9.out) hm (by decide)).1;have V:=hid fun(a:1<=m) Z w' (v:Value) (hZ:HX Z w') (h:MV (mk Z w') v z)=>a2E Z w' v z n m hZ h (x.out a).1 b.1 (x.out a).2.1;have H:=hid fun(a:1<=m) Z w' (v u2:Value) (hZ:HX Z w') (ht:MV (mk Z w') v (trL z n m)) (h:MV (mk Z w') u2 z)=>c0k Z w' v u2 (trL z n m) z m n m B hZ ht h (x.out a).2.2.1 (x.out a).1 i6.out b.1 (x.out a).2.2.2.1 (x.out a).2.1 U hB N (by omega);have d:=hid fun(a:1<=m) Z w' (v:Value) (hZ:HX Z w') (ht:MV (mk Z w') v (a1K z n m))=>b2e Z w' v (a1K z n m) m hZ ht (x.out a).2.2.2.2.1 i7.out (x.out a).2.2.2.2.2.1 (j3.out a);obtain⟨T,hT⟩:∃T,trL z n m=T:=⟨_,rfl⟩;have c2:a1K z n m=a6q T z n m:=by rw[<-hT];rfl
 have a6:BM 68719476736 (a6q T z n m):=by rw[<-c2];exact fun r K q hq=>Nat.le_trans (a5w b9.out r K q hq) (by decide)
 rw[hT]at V H U;rw[c2]at d J C F l g x;obtain⟨G,hG⟩:∃G,a6q T z n m=G:=⟨_,rfl⟩;rw[hG]at d J C F l g x a6 H;obtain⟨I,hI⟩:∃I,a2y G m=I:=⟨_,rfl⟩;rw[hI]at C F l g x;unfold b7j at d;rw[hI]at d;have e2:=hid fun(Z:Nat->Bool) w' (v t:Value) (r:List Rat) (a:1<=m) (b6:HX Z w') (h2:MV (mk Z w') v I) (h3:RV (mk Z w') t r) (h4:r.length=m) (M:BR B r)=>b1c Z w' v t I r 8500000 b6 h2 h3 (x.out a).2.2.2.2.2.2.1 (by rw[h4,(x.out a).2.2.2.2.2.2.2]) F.out (fun q hq=>Nat.le_trans (M q hq) (by omega)) (by decide) (by decide);have e8:=hid fun(Z:Nat->Bool) w' (v t:Value) (r:List Rat) (b6:HX Z w') (h2:RV (mk Z w') v r) (h3:RV (mk Z w') t (a2s I r)) (h4:r.length=m) (M:r∈z) (h6:(a2s I r).length=r.length)=>a6y Z w' v t r (a2s I r) b6 h2 h3 (by omega) h6 (a1A (B:=34100000) (fun q hq=>Nat.le_trans (hB r M q hq) (by omega)) (l.out r M) (by decide) (by omega) (by decide)).1 (a1A (B:=34100000) (fun q hq=>Nat.le_trans (hB r M q hq) (by omega)) (l.out r M) (by decide) (by omega) (by decide)).2;have e9:=hid fun r (M:r∈z) (h4:r.length=m)=>(Nat.le_trans (a9l h4 (hB r M) (l.out r M) N (by decide)) (by have:=Nat.mul_le_mul hm (show B+34100000+1<=34100511 by omega);omega):hq (a1Z r (a2s I r))<=68719476736);have g6:BM 68719476736 I:=fun r K q hq=>Nat.le_trans (F.out r K q hq) (by decide);have g8:BM 68719476736 T:=fun r K q hq=>Nat.le_trans (U r K q hq) (by omega);obtain⟨L,hL⟩:∃L,a3n z n m=L:=⟨_,rfl⟩;rw[hL]at c C Q |-;have d6:Hid (a2Q L 0=List.replicate n 0):=hid (by rw[a5U,c.out]);have g3:=hid hB;clear hT c2 hG hI hL U P b9 hB b i9 e6 h0;go_enter Tryz.func200,Tryz.ntmps200
 go_wp2_with ((with_reducible show wpList _ _ _ (⟨_, .makeSlice _ _ _,_,_,_,_⟩::_) _ _);refine a2u (R:=QC) a0w QC.elem (0:Rat) (fun _=>QC.zero _) X hX w.heap.size (Nat.le_refl _) n rfl rfl rfl (by omega) (by omega) ?_;intro oo w1 f y)
 rw[<-d6.out]at f;have h7:=hX.ext y;have a2:=e3.out noY w1 y rfl;have d4:(0:Int)<=0/\(0:Int)<(n:Int):=by omega
 by_cases S:m=0
 ·have ht:((m:Int)==0)=true:=a7k (by omega)
  have hz:=Q.out S;rw[d6.out,<-hz]at f;have hc:=f.lenCap;have hs:=f.sl QC.elem;rw[c.out]at hc;clear Q hz S d4 V H d e2 e8 e9;go_wp2_with (with_reducible refine a0s a0p (by omega) (by assumption) ?_)
  go_ret
  exact⟨y,_,rfl,oo,n,by rw[c.out];rfl,by rw[c.out];exact hc,hs⟩
 ·have ht:((m:Int)==0)=false:=a2H (by omega)
  have a:1<=m:=by omega
  have D:HX (un X oo) w1:=f.unX h7;have c9:Hid (∀w',Ext w1 w'->MV (mk (un X oo) w') (.slice ua n uc) z):=hid fun w' h=>mkx MV.mono ⟨ua,uc,by rw[c8.out],by rw[c8.out];exact g0,W.old RV.mono y (fun j hj=>f.ob_lt hj)⟩ h;have b3:=V.out a (un X oo) w1 _ D (c9.out w1 (ExtX.refl _));have J:=J S;clear Q V S;go_wp2_with (with_reducible refine a0s a0p (by omega) (by assumption) ?_)
  refine b3.mono ?_;rintro e w2 ⟨O,tv,rfl,f8⟩;have b2:=H.out a (un X oo) w2 tv _ (D.ext O) (f8.mv g8) (c9.out w2 O);obtain⟨j9,tc,rfl,_,_⟩:=f8;clear b3 a2;go_wp2_with fail
  refine b2.mono ?_;rintro e w3 ⟨d0,gv,rfl,i2⟩;have a8:=d.out a (un X oo) w3 gv (D.ext (O.trans d0)) (i2.mv a6);clear b2;go_wp2_with fail
  refine a8.mono ?_;rintro e w4 ⟨g4,i8⟩;rcases i8 with⟨j1,_⟩|⟨_,iv,rfl,f1⟩
  ·exact absurd j1 J
  have a4:=O.trans (d0.trans g4);have d8:=f.ext0 QC.elem a4;have i4:=f1.mv g6;have a3:=y.trans a4;have j7:=hX.ext a3;clear d4 a8 H d f f1 c9;obtain⟨g2,g1,rfl,a9,f2⟩:=i4;rw[g.out.1]at a9 |-;have i5:MV (mk (un X oo) w4) (.slice g2 m g1) I:=⟨g2,g1,by rw[g.out.1],by rw[g.out.1];exact a9,f2⟩;go_wp2_with fail
  go_loopw [41] (fun k wr=>∃(i:Nat),k= .int .i64 i/\i<=n/\OL QC 3 X w.heap.size 38 wr oo n (a2Q L i)/\ExtX (ob oo) w4 wr/\Ext w wr) (fun k _=>n - (intOf k).toNat)
  case atStart=>exact⟨0,rfl,Nat.zero_le _,d8,ExtX.refl _,a3⟩
  case round=>
   obtain⟨i,rfl,hi,hO,d2,p⟩:=hrel;clear d8;have h9:HX X wr:=hX.ext p;by_cases f4:i<n
   ·have c4:i<z.length:=by rw[c8.out];exact f4
    have c3:i<L.length:=by rw[c.out];exact f4
    have e1:HX (un X oo) wr:=hO.unX h9;have j2:Sl RV 1 (mk (un X oo) wr) ua z:=W.old RV.mono p (fun j hj=>hO.ob_lt hj);obtain⟨a1,c1,j5,e4,a5,f6⟩:=j2.row i c4;have a2:=e4.out noY wr (ExtX.refl _) rfl;have o:=j0.out z[i] (List.getElem_mem _);have d5:=C.out i c4 c3;have Y:=List.getElem_mem c4;have c6:RV (mk (un X oo) wr) (.slice a1 m c1) z[i]:=⟨a1,c1,by rw[o],a5,f6⟩;have E:=e2.out (un X oo) wr _ _ z[i] a e1 (MV.mono _ _ _ _ (a0v d2 fun k hk=>a0r hk) i5) c6 o (g3.out z[i] Y);have s:=hid fun w' (v t:Value) (g9:HX (un X oo) w') (h2:RV (mk (un X oo) w') v z[i]) (h3:RV (mk (un X oo) w') t (a2s I z[i]))=>e8.out (un X oo) w' v t z[i] g9 h2 h3 o Y (by rw[a3i,g.out.1,o]);have f0:=hid (e9.out z[i] Y o);have b8:=hid (a7g c3);rw[d5]at b8;rw[o]at a2;have i1:i<(a2Q L i).length:=by rw[a5B (by omega)];exact c3
    have j8:Hd oo n:=by have:=hO.hd;rw[a5B (by omega),c.out]at this;exact this
    have b0:Hid (BR 68719476736 (a2s I z[i])):=hid fun q hq=>Nat.le_trans (l.out z[i] Y q hq) (by decide);have b1:Hid ((a2s I z[i]).length=m):=hid (by rw[a3i];exact g.out.1);obtain⟨v,hv⟩:∃v,a1Z z[i] (a2s I z[i])=v:=⟨_,rfl⟩;rw[hv]at s b8;obtain⟨ln,f3⟩:∃ln,a2s I z[i]=ln:=⟨_,rfl⟩;rw[f3]at E s b0 b1;obtain⟨r,K⟩:∃r,z[i]=r:=⟨_,rfl⟩;rw[K]at c6 s;clear hv f3 K e4 o d5 f6 a5 f0;go_wp2_with (with_reducible refine a0s a0p (by omega) (by assumption) ?_)
    refine E.mono ?_;rintro e w6 ⟨A,lv,rfl,f5⟩;have h8:=e1.ext A;have f7:=mkx RV.mono c6 A;have g7:=hO.ext0 QC.elem A;have b7:=s.out w6 _ lv h8 f7 (f5.rv b0.out);obtain⟨lo,lc,rfl,_,_⟩:=f5;rw[b1.out]at b7 |-;clear E a2;go_wp2_with fail
    refine b7.mono ?_;rintro e w7 ⟨b5,u7,rfl,f9⟩;obtain⟨s7,a7,n7,c7,d7,k7,e7,rfl⟩:=f9.shape;have d9:=g7.ext0 QC.elem b5;clear b7;go_wp2_with (first|(with_reducible refine a1I a0w (by omega) (by assumption) ?_)|((with_reducible show wpList _ _ _ (⟨_, .store 38 _ _,_,_,_,_⟩::_) _ _);refine a3D a6n QC.elem i rfl (by simp) d9 i1 (.agg #[.bool s7, .slice a7 n7 c7, .slice d7 k7 e7]) v rfl f9 ?_;intro w8 e0 d1))
    rw[b8.out]at e0;have g5:=(p.trans (A.trans b5)).own d9 (Nat.le_refl _) d1;have d3:=(d2.trans (ExtX.of (A.trans b5))).trans d1;go_roundw
    case rel=>exact⟨i+1,by go_num,by omega,e0,d3,g5⟩
    case measure=>simp[intOf];omega
   ·have d:i=n:=by omega
    subst d;have i0:a2Q L i=L:=by rw[<-c.out];exact a5V L
    rw[i0]at hO;have hc:=hO.lenCap;have hs:=hO.sl QC.elem;go_wp2_with fail
    go_ret
    exact⟨p,_,rfl,oo,i,by rw[c.out];rfl,hc,hs⟩
end Go.Proofs.YtgbbpgflopajaaaGreat
namespace Go.Lin
open Go.Lim Go.Rep
noncomputable def b0o(x:Mat)(y:List Rat)(n c:Nat):Fit:=⟨(a0J x c).2.length,usedL (a0J x c).2 c,a0S x y n c,a2q x y (a0S x y n c),a1Z (a2q x y (a0S x y n c)) (a2q x y (a0S x y n c)),a3n (pkL x (a0J x c).2) n (a0J x c).2.length⟩
theorem b1u{x:Mat}{y:List Rat}{n c:Nat}(hs:Shp n c x)(h:n<=8)(a:1<=c)(g:c<=4):a6r (gmM x y c n)=true/\(gmM x y c n).xx.length=c/\c∉(fmS (gmM x y c n)).2/\fmC (gmM x y c n)=a0S x y n c/\a8Y (gmM x y c n).xx c=(a0J x c).2.length:=by
 have b:(gmM x y c n).xx.length=c:=(a2Y x n c).1;have d:fmS (gmM x y c n)=lsS x y n c:=by unfold fmS lsS;rw[b];rfl
 have e:fmC (gmM x y c n)=a0S x y n c:=by unfold fmC a0S;rw[d,b]
 have f:colsL (gmM x y c n).xx=c:=a8i (a2Y x n c) a;refine⟨?_,b,by rw[d];exact(a4R hs).1,e,by rw[a8Z];exact congrArg List.length (c0n hs)⟩;unfold a6r;rw[b,f,show a0y (gmM x y c n).xx=true from b1a (a2Y x n c) (by omega) a (by omega),show(gmM x y c n).xy.length=c from a9Y x y n c];simp only[Bool.true_and,Bool.and_eq_true,decide_eq_true_eq];exact⟨⟨by show(0:Int)<=(n:Int);omega,by show(n:Int)<=1099511627776;omega⟩,trivial,trivial,by omega⟩
end Go.Lin
namespace Go.Proofs.YtgbbpgflopajaaaGreat
open Go.RowKit Go.Rep Go.Lim Go.Lin
theorem b6p:(Tryz.prog.info? 81).map (fun i=>(i.zero,i.size,i.bytes))=some (some (.slice none 0 0),1,24):=by kernel_rfl
theorem b8X:TyI Tryz.prog 81 1:=let ⟨i,h,_,a,_⟩:=info_parts b6p;⟨i,h,a⟩
theorem a3O{P:Program}{ops:Array Oper}{Q:Exit->Act->World->Prop}{g:List Oper}{a:Act}{w:World}{d:Option Tmp}{C:TypeId}{ps:String}{m:Array Edge}{t:TypeId}{x y:Operand}{n b o:Nat}{c e:Array Value}{T:TypeId}(s:a1F P t n)(hx:a.eval x= .pointer (some ⟨b,o,none⟩))(B:a.eval y= .agg e)(l:Bx w b c T)(u:o+n<=c.size)(f:e.size=n)(h:∀v∈e.toList,v.oneCell'=true)(K:∀w',Bx w' b (c.toList.take o++e.toList++c.toList.drop (o+n)).toArray T->ExtX (ob (some ⟨b,0,none⟩)) w w'->wpList P ops Q g (a.put d undef) w'):wpList P ops Q (⟨d, .store t x y,C,ps,m,none⟩::g) a w:=by
 refine wpList_plain rfl fun D j=>?_;obtain⟨E,G,F,q,r⟩:=s;have i:=run_storeCells_at P b o T e.toList 0 c w l (by simp[f];omega) h;have A:(storeVar t ⟨b,o,none⟩ (.agg e)).run P w= .ok () (w.setRow b (c.toList.take (o+0)++e.toList++c.toList.drop (o+0+e.toList.length)).toArray):=by
  simp[storeVar,sizeOf,typeInfo,q,r,Value.cells,f];simp only[Nat.add_zero,Array.length_toList,f,List.append_assoc]at i |-;exact i
 unfold Oper.wp;simp[execOp,hx,B,Instr.storeAt,Instr.sureAddr,A,Result.andThen];refine j _ _ (K _ ?_ ?_)
 ·unfold Bx
  have:=setRow_heap w b c (c.toList.take (o+0)++e.toList++c.toList.drop (o+0+e.toList.length)).toArray T (0,0) l;simp only[Nat.add_zero,Array.length_toList,f,List.append_assoc]at this |-;exact this
 ·exact⟨rfl,rfl,rfl,by simp,fun k _ z=>setRow_other w b k _ (fun p=>by subst p;simp[ob]at z)⟩
def a7J(X:Nat->Bool)(w:World)(f:Fit)(e:Ending)(w':World):Prop:=Ext w w'/\∃u,e= .returned (.tuple #[u, .int .i64 0])/\b1W (mk X w') u f
theorem b8Y(X:Nat->Bool)(w:World)(u t:Value)(x:Mat)(y:List Rat)(n c B:Nat)(hX:HX X w)(hu:MV (mk X w) u x)(ht:RV (mk X w) t y)(hok:a6x x y=true)(hnx:x.length=n)(hcx:colsL x=c)(hn:n<=8)(hc:c<=4)(hxB:BM B x)(hyB:BR B y)(hB1:1<=B)(hB:B<=510/\n*(2*B+1)<=6540):Calls Tryz.prog 105 #[u,t] w (a7J X w (b0o x y n c)):=by
 obtain⟨W,hW,hE,b0,hz⟩:=a0R w #[.int .i64 0, .slice none 0 0, .slice none 0 0, .slice none 0 0, .bool false, .slice none 0 0, .slice none 0 0, .slice none 0 0] 83;have hXW:HX (a0e X w.heap.size 1) W:=hX.boxes hz;have hle:Hid (∀w',Ext W w'->Le (mk X w) (mk (a0e X w.heap.size 1) w')):=hid fun w' h=>a0l (hE.trans h);obtain⟨b,hb⟩:∃b,w.heap.size=b:=⟨_,rfl⟩;rw[hb]at b0 hz hXW hle;have hbw:w.heap.size<=b:=by omega
 obtain⟨Z0,hZ0⟩:∃Z0,a0e X b 1=Z0:=⟨_,rfl⟩;rw[hZ0]at hXW hle;obtain⟨hf,h1,h64,h12,hyl⟩:=a2f.1 hok;obtain⟨hsh,h96,_,hpos,_⟩:=a0D hf;rw[hnx]at h1;have hc1:=hpos (by omega);rw[hcx]at hc1;have hsh':=hsh;rw[hnx,hcx]at hsh;rw[hnx]at hyl;have huW:=hid fun w' (h:Ext W w')=>MV.mono _ _ _ _ (hle.out w' h) hu;have htW:=hid fun w' (h:Ext W w')=>RV.mono _ _ _ _ (hle.out w' h) ht;have hga:=a7H Z0 W u t x y n c B hXW (huW.out W (ExtX.refl _)) (htW.out W (ExtX.refl _)) hok hnx hcx hn hc hxB hyB hB1 hB;obtain⟨f1,f2,f3,f4,f5⟩:=b1u (y:=y) hsh hn hc1 hc;have hhb:=a5v hxB hB1;have hT:=a7G hsh hhb hc (by omega);obtain⟨_,hg,_,_⟩:=a1d hsh;have hrb:BM 68719476736 (a0J x c).1:=by
  obtain⟨B',hb6,hbj⟩:=hT.2;rw[(b0M hsh).1];exact fun r hr q hq=>Nat.le_trans (a5w (hbj c (Nat.le_refl _)).1 r hr q hq) (by omega)
 have hcb:=a5S (c:=c) hhb hyB hn hc hB;have hrsb:=a7b hsh hxB hyB hcb hB1 hc hB;have hresl:(a2q x y (a0S x y n c)).length=n:=by rw[a2P (by rw[hyl,hnx])];exact hnx
 have hp4:=Nat.le_trans (b1k hsh) hc;have hbmM:BMo 6541 (gmM x y c n):=⟨a5w (b1n hhb hn hB),b1o hhb hyB hn hB,Nat.le_trans (a8n (B:=2*B) fun r _=>Nat.le_trans (hq_mul _ _) (by have:=b5W hyB hB1 r;omega)) (a4t hn hB)⟩;have hal:=hid fun Z w' (hZ:HX Z w') (h:MV (mk Z w') u x)=>b3T Z w' u x n c hZ h hf hnx hcx h1 hT.1 hrb;have hfm:=hid fun Z w' (v:Value) (hZ:HX Z w') (h:a5G (mk Z w') v (gmM x y c n))=>a9q Z w' v (gmM x y c n) hZ (h.mv ⟨fun r hr q hq=>Nat.le_trans (hbmM.1 r hr q hq) (by decide),fun q hq=>Nat.le_trans (hbmM.2.1 q hq) (by decide),Nat.le_trans hbmM.2.2 (by decide)⟩) (by rw[f2];exact hc) hbmM;have hrs:=hid fun Z w' (v:Value) (hZ:HX Z w') (h:MV (mk Z w') u x) (h2:RV (mk Z w') t y) (h3:RV (mk Z w') v (a0S x y n c))=>b6n Z w' u t v x y (a0S x y n c) n c 8500000 hZ h h2 h3 hsh hyl (a2Z _ _ _ _) (by omega) (by omega) (fun r hr q hq=>Nat.le_trans (hxB r hr q hq) (by omega)) hcb (by decide) (by decide);have hdb:=a1A (l:=a2q x y (a0S x y n c)) (m:=a2q x y (a0S x y n c)) hrsb hrsb (by decide) (by rw[hresl];omega) (by decide);have hdo:=hid fun Z w' (v:Value) (hZ:HX Z w') (h:RV (mk Z w') v (a2q x y (a0S x y n c)))=>a6y Z w' v v _ _ hZ h h (by rw[hresl];omega) rfl hdb.1 hdb.2;have hch:=hid fun Z w' (uo:Option Addr) (uc:Nat) (hZ:HX Z w') (h:MV (mk Z w') u x) (h2:Sl BlR 1 (mk Z w') uo (usedL (a0J x c).2 c))=>b2j Z w' u uo uc x (a0J x c).2 n c hZ h h2 hsh (by omega) (by omega) hg.pw (fun j hj=>by obtain⟨k,hk,rfl⟩:=List.getElem_of_mem hj;exact hg.lt k hk) (fun r hr q hq=>Nat.le_trans (hxB r hr q hq) (by omega));have hlv:=hid fun Z w' (v:Value) (hZ:HX Z w') (h:MV (mk Z w') v (pkL x (a0J x c).2))=>a9r Z w' v (pkL x (a0J x c).2) n (a0J x c).2.length B hZ h (b3D hsh _) h1 hn hp4 (b7g hxB hB1) hB1 hB (fun _=>(a8l hsh hp4).1);have hcbv:Hid (BR 68719476736 (a0S x y n c)):=hid fun q hq=>Nat.le_trans (hcb q hq) (by decide);have hrbv:Hid (BR 68719476736 (a2q x y (a0S x y n c))):=hid fun q hq=>Nat.le_trans (hrsb q hq) (by decide);have hcl:=hid (a2Z x y n c);have hrl:=hid hresl;have hfd:=hid (show b0o x y n c=⟨(a0J x c).2.length,usedL (a0J x c).2 c,a0S x y n c,a2q x y (a0S x y n c),a1Z (a2q x y (a0S x y n c)) (a2q x y (a0S x y n c)),a3n (pkL x (a0J x c).2) n (a0J x c).2.length⟩from rfl);unfold b2g at hfm;rw[f1,f2,f4,f5]at hfm;obtain⟨Fi,hFi⟩:∃Fi,b0o x y n c=Fi:=⟨_,rfl⟩;rw[hFi]at hfd |-;have hul:=hid (a2e (a0J x c).2 c);obtain⟨Cf,hCf⟩:∃Cf,a0S x y n c=Cf:=⟨_,rfl⟩;rw[hCf]at hfm hrs hdo hcbv hrbv hcl hrl hfd;obtain⟨Rs,hRs⟩:∃Rs,a2q x y Cf=Rs:=⟨_,rfl⟩;rw[hRs]at hrs hdo hrbv hrl hfd;obtain⟨Us,hUs⟩:∃Us,usedL (a0J x c).2 c=Us:=⟨_,rfl⟩;unfold b5Z at hal;rw[hUs]at hch hfd hal hul;obtain⟨p,hp⟩:∃p,(a0J x c).2=p:=⟨_,rfl⟩;rw[hp]at hch hfd hlv hfm;obtain⟨pl,hpl⟩:∃pl,p.length=pl:=⟨_,rfl⟩;rw[hpl]at hfd hlv hfm;obtain⟨M,hM⟩:∃M,gmM x y c n=M:=⟨_,rfl⟩;rw[hM]at hga hfm f3;clear hok hf h64 h12 hpos hsh hsh' f1 f2 f4 f5 hhb hT hg hrb hcb hrsb hresl hp4 hbmM hdb hFi hCf hRs hUs hp hpl hM hnx hcx hyl hu ht h96;have hfin:Hid (∀w' uo uc co cc ro rc (s:Bool) a n' c' d k e lo lc,Ext w w'->c<=uc->Sl BlR 1 (mk X w') uo Us->RC (mk X w') (.slice co c cc) Cf->RC (mk X w') (.slice ro n rc) Rs->QC (mk X w') (.agg #[.bool s, .slice a n' c', .slice d k e]) (a1Z Rs Rs)->∀ll,RC (mk X w') (.slice lo ll lc) (a3n (pkL x p) n pl)->a7J X w Fi (.returned (.tuple #[.agg #[.int .i64 (pl:Int), .slice uo c uc, .slice co c cc, .slice ro n rc, .bool s, .slice a n' c', .slice d k e, .slice lo ll lc], .int .i64 0])) w'):=hid fun w' uo uc co cc ro rc s a n' c' d k e lo lc h0 h1 h2 h3 h4 h5 ll h6=>by
  rw[hfd.out];exact⟨h0,_,rfl,uo,uc,co,c,cc,ro,n,rc,s,a,n',c',d,k,e,lo,ll,lc,by rw[hul.out],by rw[hul.out];exact h1,h2,h3,h4,h5,h6⟩
 obtain⟨F,hF⟩:∃F,a7J X w Fi=F:=⟨_,rfl⟩;rw[hF]at hfin |-;have hXZ0:Hid (∀k,X k=true->Z0 k=true):=hid fun k hk=>by rw[<-hZ0];simp[a0e,hk]
 have hb0:Hid (∀k,ob (some ⟨b,0,none⟩) k=true->Z0 k=true):=hid fun k hk=>by
  have hk2:b=k:=by simpa[ob]using hk
  rw[<-hZ0];exact a4N (by omega) (by omega)
 clear hF hfd hul hZ0;go_enter Tryz.func105,Tryz.ntmps105
 go_wp2_with fail
 refine hga.mono ?_;rintro ee w1 ⟨hE1,mv,rfl,hmv⟩;obtain⟨xo,xl,xc,yo,yl,yc,s,a,n',c',d,k,e,rfl,q1,q2,q3⟩:=hmv;have hmv:a5G (mk Z0 w1) _ M:=⟨xo,xl,xc,yo,yl,yc,s,a,n',c',d,k,e,rfl,q1,q2,q3⟩;have bm:=Bx.new w1 #[.int .i64 0, .slice none 0 0, .slice none 0 0, .bool false, .slice none 0 0, .slice none 0 0] 202;clear q1 q2 q3 hga;go_wp2_with (first
  |((with_reducible show wpList _ _ _ (⟨_, .store 202 _ _,_,_,_,_⟩::_) _ _);refine a0a a3N rfl rfl bm rfl rfl (by intro v hv;simp at hv;rcases hv with rfl|rfl|rfl|rfl|rfl|rfl<;>rfl) ?_;intro w2 m1 m2;have bf:=Bx.new w2 #[.int .i64 0, .slice none 0 0, .slice none 0 0, .slice none 0 0, .bool false, .slice none 0 0, .slice none 0 0, .slice none 0 0] 83)
  |((with_reducible show wpList _ _ _ (⟨_, .store 83 _ _,_,_,_,_⟩::_) _ _);refine a0a a4n rfl rfl bf rfl rfl (by intro v hv;simp at hv;rcases hv with rfl|rfl|rfl|rfl|rfl|rfl|rfl|rfl<;>rfl) ?_;intro w3 v1 v2))
 obtain⟨g,hg⟩:∃g,w1.heap.size=g:=⟨_,rfl⟩;have hgw:w1.heap.size<=g:=by omega
 have zG:(w1.alloc (.cells #[.int .i64 0, .slice none 0 0, .slice none 0 0, .bool false, .slice none 0 0, .slice none 0 0] 202)).heap.size=g+1:=by rw[<-hg];simp
 have eG:Ext w1 (w1.alloc (.cells #[.int .i64 0, .slice none 0 0, .slice none 0 0, .bool false, .slice none 0 0, .slice none 0 0] 202)):=(ExtX.refl _).alloc _;rw[hg]at m1 m2 |-;have hE2:Ext w1 w2:=ExtX.box eG m2 hgw;have hg2:g<w2.heap.size:=by have:=m2.size;omega
 obtain⟨h,hh⟩:∃h,w2.heap.size=h:=⟨_,rfl⟩;have zH:(w2.alloc (.cells #[.int .i64 0, .slice none 0 0, .slice none 0 0, .slice none 0 0, .bool false, .slice none 0 0, .slice none 0 0, .slice none 0 0] 83)).heap.size=h+1:=by rw[<-hh];simp
 have eH:Ext w2 (w2.alloc (.cells #[.int .i64 0, .slice none 0 0, .slice none 0 0, .slice none 0 0, .bool false, .slice none 0 0, .slice none 0 0, .slice none 0 0] 83)):=(ExtX.refl _).alloc _;rw[hh]at v1 v2 hg2 |-;have hgh:w1.heap.size<=h:=by omega
 have hE3:Ext w1 w3:=ExtX.box (hE2.trans eH) v2 hgh;have hh3:h<w3.heap.size:=by have:=v2.size;omega
 have m3:=(m1.ext0 eH).ext v2 (a0b (by omega));obtain⟨Z,hZ⟩:∃Z,un Z0 (some ⟨h,0,none⟩)=Z:=⟨_,rfl⟩;have hX3:HX Z w3:=by rw[<-hZ];exact a1e (hXW.ext (hE1.trans hE3)) hh3
 have hZb:Hid (∀k,ob (some ⟨h,0,none⟩) k=true->Z k=true):=hid fun k hk=>by rw[<-hZ];simp[un,hk]
 have hZ0:Hid (∀k,Z0 k=true->Z k=true):=hid fun k hk=>by rw[<-hZ];simp[un,hk]
 have hnx:Hid (∀a b,ExtX (ob (some ⟨h,0,none⟩)) a b->Le (mk Z a) (mk Z b)):=hid fun a b hab=>a2c hab hZb.out fun _ hk=>hk;have huZ:=hid fun w' (hw:Ext w1 w')=>MV.mono _ _ _ _ (hZ▸a0I hw hgh:Le (mk Z0 w1) (mk Z w')) (huW.out w1 hE1);have htZ:=hid fun w' (hw:Ext w1 w')=>RV.mono _ _ _ _ (hZ▸a0I hw hgh:Le (mk Z0 w1) (mk Z w')) (htW.out w1 hE1);have hmZ:=hid fun w' (hw:Ext w1 w')=>a5G.mono _ _ _ _ (hZ▸a0I hw hgh:Le (mk Z0 w1) (mk Z w')) hmv;have hxg:=hid fun w' (hw:w3.heap.size<=w'.heap.size)=>(fun k hk=>Nat.lt_of_lt_of_le (hX3 k hk) hw:HX Z w');have ha3:=hal.out Z w3 hX3 (huZ.out w3 hE3);clear hal hmv huW htW hZ zG zH eG eH bm bf m1 m2 v2 hE2;go_wp2_with fail
 refine ha3.mono ?_;rintro ee w4 ⟨e4,uo,uc,uv,rfl,huc,hus⟩;have v4:=v1.ext0 e4;have m4:=m3.ext0 e4;have hE4:=hE3.trans e4;have s4:=e4.size;clear ha3 v1 m3;go_wp2_with ((show wpList _ _ _ (⟨_, .store _ _ _,_,_,_,_⟩::_) _ _);refine a1M (v:= .slice uo c uc) b8X rfl rfl rfl rfl v4 (by decide) ?_;intro w5 v5 x5;have m5:=m4.ext x5 (a0b (by omega));have q0:=m5.cell 0 rfl;have q1:=m5.cell 1 rfl;have q2:=m5.cell 2 rfl;have q3:=m5.cell 3 rfl;have q4:=m5.cell 4 rfl;have q5:=m5.cell 5 rfl)
 have hE5:=ExtX.box hE4 x5 hgh;have hus:=hus.mono BlR.mono (hnx.out _ _ x5);have hf5:=hfm.out Z w5 _ (hxg.out w5 (Nat.le_trans s4 x5.size)) (hmZ.out w5 hE5);have s5:=Nat.le_trans s4 x5.size;clear hfm q0 q1 q2 q3 q4 q5 m4 m5 v4 hmZ e4 s4 hE4;refine hf5.mono ?_;rintro ee w6 ⟨e6,cv,cu,ck,cc0,rfl,hor⟩;rcases hor with⟨hbad,_⟩|⟨_,hbad,_⟩|⟨_,_,rfl,rfl,hcv,_⟩
 ·simp at hbad
 ·exact absurd hbad f3
 have v6:=v5.ext0 e6;have hE6:=hE5.trans e6;have s6:=Nat.le_trans s5 e6.size;have hus:=hus.mono BlR.mono (hnx.out _ _ (ExtX.of e6));have hcv':=hid hcv;obtain⟨co,cc,rfl,hcc,hcs⟩:=hcv;rw[hcl.out]at hcv' hcc |-;clear hf5 f3 v5 e6 s5 hE5 x5 hcs hcl;go_wp2_with ((show wpList _ _ _ (⟨_, .store _ _ _,_,_,_,_⟩::_) _ _);first
  |(refine a1M (v:= .slice co c cc) a9k rfl rfl rfl rfl v6 (by simp) ?_;intro w7 v7 x7)
  |(refine a1M (v:= .int .i64 (pl:Int)) a9B rfl rfl rfl rfl v7 (by simp) ?_;intro w8 v8 x8;have q2:=v8.cell 2 rfl))
 have w68:=x7.trans x8;have hE8:=ExtX.box (ExtX.box hE6 x7 hgh) x8 hgh;have s8:=Nat.le_trans s6 w68.size;have hus:=hus.mono BlR.mono (hnx.out _ _ w68);have hcv8:=RC.mono _ _ _ _ (hnx.out _ _ w68) hcv'.out;have hr8:=hrs.out Z w8 _ (hxg.out w8 s8) (huZ.out w8 hE8) (htZ.out w8 hE8) (hcv8.rv hcbv.out);clear hrs htZ hcv' x7 x8 v6 v7 w68 hcbv s6 hE6;go_wp2_with fail
 refine hr8.mono ?_;rintro ee w9 ⟨e9,rv,rfl,hrv⟩;have v9:=v8.ext0 e9;have hE9:=hE8.trans e9;have s9:=Nat.le_trans s8 e9.size;have hus:=hus.mono BlR.mono (hnx.out _ _ (ExtX.of e9));have hcv9:=RC.mono _ _ _ _ (hnx.out _ _ (ExtX.of e9)) hcv8;have hrv':=hid hrv;obtain⟨ro,rc,rfl,hrc,hrs⟩:=hrv;rw[hrl.out]at hrv' hrc |-;clear q2 hr8 v8 e9 s8 hE8 hrs hrl hcv8;go_wp2_with ((show wpList _ _ _ (⟨_, .store _ _ _,_,_,_,_⟩::_) _ _);refine a1M (v:= .slice ro n rc) a9k rfl rfl rfl rfl v9 (by simp) ?_;intro wa va xa;have q3:=va.cell 3 rfl)
 have hEa:=ExtX.box hE9 xa hgh;have sa:=Nat.le_trans s9 xa.size;have hus:=hus.mono BlR.mono (hnx.out _ _ xa);have hcva:=RC.mono _ _ _ _ (hnx.out _ _ xa) hcv9;have hrva:=RC.mono _ _ _ _ (hnx.out _ _ xa) hrv'.out;have hda:=hdo.out Z wa _ (hxg.out wa sa) (hrva.rv hrbv.out);clear hdo v9 xa s9 hE9 hrv' hcv9 hrbv;refine hda.mono ?_;rintro ee wb ⟨eb,dv,rfl,hdv⟩;have hdv':=hid hdv;obtain⟨s',a',n'',c'',d',k',e',rfl⟩:=hdv.shape;have vb:=va.ext0 eb;have hEb:=hEa.trans eb;have sb:=Nat.le_trans sa eb.size;have hus:=hus.mono BlR.mono (hnx.out _ _ (ExtX.of eb));have hcvb:=RC.mono _ _ _ _ (hnx.out _ _ (ExtX.of eb)) hcva;have hrvb:=RC.mono _ _ _ _ (hnx.out _ _ (ExtX.of eb)) hrva;clear q3 hda va eb sa hEa hdv hcva hrva;go_wp2_with ((show wpList _ _ _ (⟨_, .store _ _ _,_,_,_,_⟩::_) _ _);refine a3O a0o rfl rfl vb (by simp) rfl (by intro v hv;simp at hv;rcases hv with rfl|rfl|rfl<;>rfl) ?_;intro wc vc xc';have q1:=vc.cell 1 rfl)
 have hEc:=ExtX.box hEb xc' hgh;have sc:=Nat.le_trans sb xc'.size;have hus:=hus.mono BlR.mono (hnx.out _ _ xc');have hcvc:=RC.mono _ _ _ _ (hnx.out _ _ xc') hcvb;have hrvc:=RC.mono _ _ _ _ (hnx.out _ _ xc') hrvb;have hdvc:=QC.mono _ _ _ _ (hnx.out _ _ xc') hdv'.out;have hcc8:=hch.out Z wc uo uc (hxg.out wc sc) (huZ.out wc hEc) hus;clear hch vb xc' sb hEb hdv' hcvb hrvb huZ;refine hcc8.mono ?_;rintro ee wd ⟨ed,zv,rfl,hzv⟩;have hEd:=hEc.trans ed;have sd:=Nat.le_trans sc ed.size;have hlv8:=hlv.out Z wd zv (hxg.out wd sd) hzv;clear hcc8 hlv;go_wp2_with fail
 refine hlv8.mono ?_;rintro ee we ⟨ee',lv,rfl,hlvv⟩;have ece:=ed.trans ee';have ve:=vc.ext0 ece;have hEe:=hEd.trans ee';have hus:=hus.mono BlR.mono (hnx.out _ _ (ExtX.of ece));have hcve:=RC.mono _ _ _ _ (hnx.out _ _ (ExtX.of ece)) hcvc;have hrve:=RC.mono _ _ _ _ (hnx.out _ _ (ExtX.of ece)) hrvc;have hdve:=QC.mono _ _ _ _ (hnx.out _ _ (ExtX.of ece)) hdvc;have hlv':=hid hlvv;obtain⟨lo,lc,rfl,hlc,hls⟩:=hlvv;obtain⟨ll,hll⟩:∃ll,(a3n (pkL x p) n pl).length=ll:=⟨_,rfl⟩;rw[hll]at hlv' hlc |-;have hby:b<we.heap.size:=by have:=hEe.size;have:=hE1.size;omega
 have hbg:h≠b:=by have:=hE1.size;omega
 clear q1 hlv8 vc ed ee' sd sc hEc hEd ece hcvc hrvc hdvc hls hzv hxg;have be:=b0.ext0 (hE1.trans hEe);go_wp2_with ((show wpList _ _ _ (⟨_, .store _ _ _,_,_,_,_⟩::_) _ _);first|(refine a0a a4n rfl rfl bb rfl rfl (by intro v hv;simp at hv;rcases hv with rfl|rfl|rfl|rfl|rfl|rfl|rfl|rfl<;>rfl) ?_;intro wg vg xg)|(refine a1M (v:= .slice lo ll lc) a9k rfl rfl rfl rfl ve (by simp) ?_;intro wf vf xf;have bb:=be.ext xf (a0b (by omega));have q0:=vf.cell 0 rfl;have q1:=vf.cell 1 rfl;have q2:=vf.cell 2 rfl;have q3:=vf.cell 3 rfl;have q4:=vf.cell 4 rfl;have q5:=vf.cell 5 rfl;have q6:=vf.cell 6 rfl;have q7:=vf.cell 7 rfl))
 have hEf:Ext w wf:=hE.trans (hE1.trans (ExtX.box hEe xf hgh));have hdr:=a2c (X:=X) xg (fun k hk=>hZ0.out k (hb0.out k hk)) (fun k hk=>hZ0.out k (hXZ0.out k hk));have hd1:=hnx.out _ _ xf;have hus:=(hus.mono BlR.mono hd1).mono BlR.mono hdr;have hcvg:=RC.mono _ _ _ _ hdr (RC.mono _ _ _ _ hd1 hcve);have hrvg:=RC.mono _ _ _ _ hdr (RC.mono _ _ _ _ hd1 hrve);have hdvg:=QC.mono _ _ _ _ hdr (QC.mono _ _ _ _ hd1 hdve);have hlvg:=RC.mono _ _ _ _ hdr (RC.mono _ _ _ _ hd1 hlv'.out);exact bodyPost_ret (a0M rfl rfl a4n vg rfl) rfl (hfin.out _ _ _ _ _ _ _ _ _ _ _ _ _ _ _ _ (ExtX.box hEf xg hbw) huc hus hcvg hrvg hdvg _ hlvg)
end Go.Proofs.YtgbbpgflopajaaaGreat
namespace Go.Lin
open Go.Lim Go.Rep
theorem b7m{x:Mat}{y:List Rat}{n c B:Nat}(g:BM B x)(d:BR B y)(f:n<=8)(a:1<=B)(e:B<=510/\n*(2*B+1)<=6540):BMo 6541 (gmM x y c n):=by
 have b:=a5v g a;refine⟨a5w (b1n b f e),b1o b d f e,Nat.le_trans (a8n (B:=2*B) fun r _=>Nat.le_trans (hq_mul _ _) (by have:=b5W d a r;omega)) (a4t f e)⟩
theorem b0p{x:Mat}{n c B:Nat}(hs:Shp n c x)(e:BM B x){s:List Int}(f:∀v∈s,0<=v/\v<(c:Int)):BM B (a1f x s):=fun r g q hq=>by
 obtain⟨a,b,rfl⟩:=List.mem_map.1 g;obtain⟨i,hi,rfl⟩:=List.mem_map.1 hq;have j:=hs.2 a b;have h:=f i hi;have d:i.toNat<a.length:=by omega
 simp only[List.getD_eq_getElem?_getD,List.getElem?_eq_getElem d,Option.getD_some];exact e a b _ (List.getElem_mem _)
theorem b6q{x:Mat}{y:List Rat}{n c:Nat}(hs:Shp n c x){s:List Int}(a:∀v∈s,0<=v/\v<(c:Int)):(gmM (a1f x s) y s.length n).xx=a1f (a3d (gmM x y c n).xx s) s/\(gmM (a1f x s) y s.length n).xy=a3e (gmM x y c n).xy s/\(gmM (a1f x s) y s.length n).yy=(gmM x y c n).yy/\(gmM (a1f x s) y s.length n).n=(gmM x y c n).n:=
 ⟨(b8F hs a).symm,(b8G hs a).symm,rfl,rfl⟩
theorem c0C{x:Mat}{y:List Rat}{n c:Nat}(hs:Shp n c x)(a:y.length=n)(s:List Int)(b:fmC (gmM (a1f x s) y s.length n)=a0S (a1f x s) y n s.length):(gmM (a1f x s) y s.length n).yy - a1Z (fmC (gmM (a1f x s) y s.length n)) (gmM (a1f x s) y s.length n).xy=a6j x y n s:=by
 rw[b,b1m hs a,a4S (l:=y) a];rfl
end Go.Lin
namespace Go.Rep
open Go.RowKit
def zz(b:Bool)(g:Nat)(Z:Nat->Bool):Nat->Bool:=if b=true then un Z (some ⟨g,0,none⟩)else Z
theorem b8Z{Z:Nat->Bool}{b:Bool}{g:Nat}{w w':World}(a:Ext w w')(c:b=true->w.heap.size<=g):Le (mk Z w) (mk (zz b g Z) w'):=by
 cases b
 ·exact a0m a
 ·exact a0I a (c rfl)
theorem b4e{Z:Nat->Bool}{g:Nat}{w w':World}(a:Ext w w'):Le (mk (zz false g Z) w) (mk (zz true w.heap.size Z) w'):=a0I a (Nat.le_refl _)
theorem b9a{Z:Nat->Bool}{b:Bool}{g:Nat}{w:World}(h:HX Z w)(a:b=true->g<w.heap.size):HX (zz b g Z) w:=by
 cases b
 ·exact h
 ·exact a1e h (a rfl)
end Go.Rep
namespace Go.Proofs.YtgbbpgflopajaaaGreat
open Go.RowKit Go.Rep Go.Lim Go.Lin
abbrev TR:=Bool×Bool×Bool×Bool×Bool
def c1R:List TR:=[true,false].flatMap fun e=>[(false,false,false,false,e),(true,false,false,false,e),(false,true,false,false,e),(true,true,false,false,e),(false,true,true,false,e),(true,true,true,false,e),(true,true,true,true,e)]
def lR(s:TR):Array Bool:=#[true,true,true,true,true,true,true,s.1,true,true,true,s.2.1,true,s.2.2.1,s.2.2.2.1,s.2.2.2.2,false]
def c0D(s:TR)(i:Nat):Option TR:=
 if i=7/\s.1=false then some (true,s.2)else if i=11/\s.2.1=false then some (s.1,true,s.2.2)else if i=13/\s.2.1=true/\s.2.2.1=false then some (s.1,s.2.1,true,s.2.2.2)
 else if i=14/\s.2.2.2.1=false/\s.1=true/\s.2.2.1=true then some (s.1,s.2.1,s.2.2.1,true,s.2.2.2.2)else if i=15/\s.2.2.2.2=false then some (s.1,s.2.1,s.2.2.1,s.2.2.2.1,true)else none
def c2j(s:TR):Bool:=s.2.2.2.1&&s.2.2.2.2
def a9s(a:Act)(v7 v11 v13 v14 v15:Value):Act:=((((a.put (some 23) v7).put (some 27) v11).put (some 29) v13).put (some 30) v14).put (some 5) v15
theorem a9t:∀s∈c1R,s.2.2.2.1=true->s.1=true/\s.2.2.1=true:=by decide
theorem b2k{P:Program}{ops:Array Oper}{Q:Exit->Act->World->Prop}{md:Region.Mode}{S:World->Prop}{n f:Nat}{l:Array Bool}{a:Act}{w:World}(h:∀b,b=a->a1B P md ops Q S n f l b w):a1B P md ops Q S n f l a w:=h a rfl
abbrev c1S:Array Value:=#[.int .i64 0, .slice none 0 0, .slice none 0 0, .bool false, .slice none 0 0, .slice none 0 0]
theorem b4f(X:Nat->Bool)(w:World)(u:Value)(m F:Mom)(ro:Option Addr)(S:List Int)(rc:Nat)(q:Rat)(hX:HX X w)(hu:b3J (mk X w) u m)(hs:Sl (a0u .i64) 1 w.cell? ro S)(h5:1<=S.length)(d1:S.length<=4)(c7:∀v∈S,0<=v/\v<(m.xy.length:Int))(a4:∀v∈S,0<=v/\v<(m.xx.length:Int))(c9:∀r∈m.xx,r.length=m.xx.length)(e1:F.xx=a1f (a3d m.xx S) S)(e2:F.xy=a3e m.xy S)(e3:F.yy=m.yy)(e4:F.n=m.n)(hB:BMo 6541 F)(d4:a6r F=true)(d3:F.xx.length∉(fmS F).2)(hq:F.yy - a1Z (fmC F) F.xy=q):Calls Tryz.prog 118 #[u, .slice ro S.length rc] w (a1Y X w QC q):=by
 obtain⟨xo,xl,xc,yo,yl,yc,s,ya,n0,c0,d,k,e0,rfl,h1,h2,h3⟩:=hu;obtain⟨N,hN⟩:∃N,m.n=N:=⟨_,rfl⟩;rw[hN]at e4 |-;obtain⟨W,hW,hE,b0,b1,hz⟩:=a1x w #[.int .i64 N, .slice xo xl xc, .slice yo yl yc, .bool s, .slice ya n0 c0, .slice d k e0] #[.bool false, .slice none 0 0, .slice none 0 0] 144 38;have a3:HX (a0e X w.heap.size 2) W:=hX.boxes hz;have a7:Hid (∀w',Ext W w'->Le (mk X w) (mk (a0e X w.heap.size 2) w')):=hid fun w' h=>a0l (hE.trans h);obtain⟨b,hb⟩:∃b,w.heap.size=b:=⟨_,rfl⟩;have i7:w.heap.size<=b:=by omega
 rw[hb]at b0 b1 hz a3 a7;obtain⟨C,b5⟩:∃C,a0e X b 2=C:=⟨_,rfl⟩;have g7:=hid (fun k (h:X k=true)=>(by rw[<-b5];exact b2L h:C k=true));have g6:Hid (∀k,ob (some ⟨b+1,0,none⟩) k=true->C k=true):=hid fun k hk=>by
  have:b+1=k:=by simpa[ob]using hk
  rw[<-b5,<-this];exact a4N (by omega) (by omega)
 rw[b5]at a3 a7;have E:Ext W W.drew:=(ExtX.refl W).drew;obtain⟨A,b4⟩:∃A,W.drew=A:=⟨_,rfl⟩;rw[b4]at E;have a2:HX C A:=a3.ext E;have a5:=a7.out A E;have b8:Hid (∀(b:Bool) (g:Nat) w',Ext A w'->(b=true->A.heap.size<=g/\g<w'.heap.size)->Calls Tryz.prog 107 #[.slice yo yl yc, .slice ro S.length rc] w' (fun e M=>Ext w' M/\∃ao p,e= .returned (.slice ao S.length p)/\RV (mk (zz b g C) M) (.slice ao S.length p) F.xy)):=hid fun b g w' h T=>by
  refine(a7E (zz b g C) w' _ m.xy ro S rc (b9a (a2.ext h) fun hb=>(T hb).2) (RV.mono _ _ _ _ (b8Z h fun hb=>(T hb).1) (RV.mono _ _ _ _ a5 h2)) ((by rw[a2m];exact hs:Sl (a0u .i64) 1 (mk noY w) ro S).mono (a0u.mono _) (a0m (hE.trans (E.trans h)))) c7 (by omega)).mono ?_;rintro e M ⟨g1,ao,p,g2,g3⟩;have hc:=g3.lenCap;have hl:=a4i m.xy S;exact⟨g1,ao,p,g2,ao,p,by rw[e2,hl],by rw[e2];exact hc,by rw[e2];exact g3.sl QV.elem⟩
 have b9:Hid (∀(b:Bool) (g:Nat) w',Ext A w'->(b=true->A.heap.size<=g/\g<w'.heap.size)->Calls Tryz.prog 106 #[.slice xo xl xc, .slice ro S.length rc] w' (fun e M=>Ext w' M/\∃v,e= .returned v/\MV (mk (zz b g C) M) v (a3d m.xx S))):=hid fun b g w' h T=>by
  refine(b3p (zz b g C) w' _ m.xx ro S rc (b9a (a2.ext h) fun hb=>(T hb).2) (MV.mono _ _ _ _ (b8Z h fun hb=>(T hb).1) (MV.mono _ _ _ _ a5 h1)) (by rw[<-a2m]at hs |-;exact hs.mono (a0u.mono _) (a0m (hE.trans (E.trans h)))) a4 (by omega)).mono ?_;rintro e M ⟨g1,ao,p,g2,g3⟩;exact⟨g1,_,g2,ao,p,rfl,g3.lenCap,g3.sl RV.elem⟩
 have c1:Hid (∀(b:Bool) (g:Nat) w' v,Ext A w'->(b=true->A.heap.size<=g/\g<w'.heap.size)->MV (mk (zz b g C) w') v (a3d m.xx S)->Calls Tryz.prog 204 #[v, .slice ro S.length rc] w' (fun e M=>Ext w' M/\∃ao p,e= .returned (.slice ao S.length p)/\MV (mk (zz b g C) M) (.slice ao S.length p) F.xx)):=hid fun b g w' v h T hv=>by
  refine(a8V (zz b g C) w' v (a3d m.xx S) ro S rc (b9a (a2.ext h) fun hb=>(T hb).2) hv ((by rw[a2m];exact hs:Sl (a0u .i64) 1 (mk noY w) ro S).mono (a0u.mono _) (a0m (hE.trans (E.trans h)))) (fun r hr x hx=>by rw[c9 r (b3o a4 r hr)];exact a4 x hx) (by omega) (by rw[a5p];omega)).mono ?_;rintro e M ⟨g1,ao,p,g2,g3⟩;have hc:=g3.lenCap;have hl:=a3t (a3d m.xx S) S;have h6:=a5p m.xx S;rw[h6]at g2 hl;exact⟨g1,ao,p,g2,ao,p,by rw[e1,hl],by rw[e1];exact hc,by rw[e1];exact g3.sl RV.elem⟩
 have c2:=hid (fun(b:Bool) (g:Nat) w' (h:Ext A w') (T:b=true->A.heap.size<=g)=>QV.mono _ _ _ _ (b8Z h T) (QV.mono _ _ _ _ a5 h3));rw[<-e3]at c2;have i0:=hid (show F.xx.length<=4 by rw[e1,a3t,a5p];exact d1);have d0:=hid (fun(Y:Nat->Bool) w' (v:Value) (hY:HX Y w') (h:b3J (mk Y w') v F)=>a9q Y w' v F hY h i0.out hB);have d8:((S.length:Int)==0)=false:=a2H (by omega);have h0:=hid d3;have d5:=hid d4;have i1:=hid hq;unfold b2g at d0;obtain⟨kk,d2⟩:∃kk,S.length=kk:=⟨_,rfl⟩;rw[d2]at b8 b9 c1 d8 |-;have d9:=b0.cell 0 rfl;have e7:=b0.cell 1 rfl;have e8:=b0.cell 2 rfl;have e9:W.cell? ⟨b,3,none⟩=some (.bool s):=b0.cell 3 rfl;have f0:W.cell? ⟨b,3+1,none⟩=some (.slice ya n0 c0):=b0.cell 4 rfl;have f1:W.cell? ⟨b,3+2,none⟩=some (.slice d k e0):=b0.cell 5 rfl;have g8:=hid (fun w' (h:Ext A w')=>b1.ext0 (E.trans h));have g9:=hid (hE.trans E);have Z:=E;have f2:A.cell? ⟨b,0,none⟩=some (.int .i64 N):=Z.cell d9;have f3:A.cell? ⟨b,1,none⟩=some (.slice xo xl xc):=Z.cell e7;have f4:A.cell? ⟨b,2,none⟩=some (.slice yo yl yc):=Z.cell e8;have f5:A.cell? ⟨b,3,none⟩=some (.bool s):=Z.cell e9;have f6:A.cell? ⟨b,3+1,none⟩=some (.slice ya n0 c0):=Z.cell f0;have f8:A.cell? ⟨b,3+2,none⟩=some (.slice d k e0):=Z.cell f1;have y:=hid (fun w' (h:Ext A w')=>(⟨h.cell f2,h.cell f3,h.cell f4,h.cell f5,h.cell f6,h.cell f8⟩:w'.cell? ⟨b,0,none⟩=some (.int .i64 N)/\w'.cell? ⟨b,1,none⟩=some (.slice xo xl xc)/\w'.cell? ⟨b,2,none⟩=some (.slice yo yl yc)/\w'.cell? ⟨b,3,none⟩=some (.bool s)/\w'.cell? ⟨b,3+1,none⟩=some (.slice ya n0 c0)/\w'.cell? ⟨b,3+2,none⟩=some (.slice d k e0)));clear hs c7 a4 c9 e1 e2 e3 hB d4 d3 hq h1 h2 h3 a5 a7 b0 b1 d2 Z hE a3 hX h5 d1;go_enter Tryz.func118,Tryz.ntmps118
 go_upto_region 3 with fail
 refine a0z 16 (fun w'=>w'.cell? ⟨b,0,none⟩=some (.int .i64 N)/\w'.cell? ⟨b,1,none⟩=some (.slice xo xl xc)/\w'.cell? ⟨b,2,none⟩=some (.slice yo yl yc)/\w'.cell? ⟨b,3,none⟩=some (.bool s)/\w'.cell? ⟨b,3+1,none⟩=some (.slice ya n0 c0)/\w'.cell? ⟨b,3+2,none⟩=some (.slice d k e0)) (by kernel_rfl) (by kernel_rfl) (by rw[b4];exact y.out A (ExtX.refl _)) (fun b3 f=>?_);rw[b4]at b3 |-;clear d9 e7 e8 e9 f0 f1 f2 f3 f4 f5 f6 f8;refine kt 0 f ?_;refine kt 1 f ?_;refine kt 2 f ?_;refine kt 3 f ?_;refine kt 4 f ?_;refine kt 5 f ?_;refine kt 6 f ?_;refine kt 8 f ?_;refine kt 9 f ?_;refine kt 10 f ?_;refine kt 12 f ?_;refine b2k fun a0 b6=>?_;refine b2i (I:=fun s1 a w'=>∃v7 G H J L R Q P O g,a=a9s a0 v7 G H J L/\Ext A w'/\(s1.1=true->v7= .slice R kk Q/\RV (mk (zz s1.2.2.2.2 g C) w') v7 F.xy)/\(s1.2.1=true->MV (mk (zz s1.2.2.2.2 g C) w') G (a3d m.xx S))/\(s1.2.2.1=true->H= .slice P kk O/\MV (mk (zz s1.2.2.2.2 g C) w') H F.xx)/\(s1.2.2.2.1=true->J= .agg #[.int .i64 N,H,v7, .bool s, .slice ya n0 c0, .slice d k e0])/\(s1.2.2.2.2=true->L= .pointer (some ⟨g,0,none⟩)/\Bx w' g c1S 202/\A.heap.size<=g))
  c1R lR c0D c2j (by kernel_rfl) ?st ?ex 6 (false,false,false,false,false) a0 A (by decide) (by decide) ?hi
 case hi=>
  subst b6;exact⟨undef,undef,undef,undef,undef,none,0,none,0,0,by simp only[a9s,Act.put,List.setIfInBounds_toArray,List.set_cons_zero,List.set_cons_succ],ExtX.refl _,fun h=>(by cases h),fun h=>(by cases h),fun h=>(by cases h),fun h=>(by cases h),fun h=>(by cases h)⟩
 case st=>
  rintro ⟨b7,a8,f9,g0,U⟩ i t a w' hs ht ⟨v7,G,H,J,L,R,Q,P,O,g,rfl,l,f7,D,B,V,j⟩;have h4:=a9t _ hs
  dsimp only at f7 D B V j h4
  have T:U=true->A.heap.size<=g/\g<w'.heap.size:=fun h=>⟨(j h).2.2,(j h).2.1.lt⟩;subst b6;unfold c0D at ht
  dsimp only at ht
  split at ht
  ·rename_i hc
   obtain⟨rfl,rfl⟩:=hc;cases ht
   simp only[a9s,Act.put,List.setIfInBounds_toArray,List.set_cons_zero,List.set_cons_succ];refine a3z (o:=⟨_,_,_,_,_,_⟩) rfl (fun K hK=>?_);go_simp
   go_at_call 107
   (with_reducible refine(b8.out U g w' l T).mono ?_)
   rintro ee M ⟨c,i6,i5,rfl,hY⟩;refine hK.out _ _ ⟨y.out M (l.trans c),_,G,H,J,L,i6,i5,P,O,g,rfl,l.trans c,fun _=>⟨rfl,hY⟩,fun h=>MV.mono _ _ _ _ (a0m c) (D h),fun h=>⟨(B h).1,MV.mono _ _ _ _ (a0m c) (B h).2⟩,fun h=>absurd (h4 h).1 (by decide),fun h=>⟨(j h).1,(j h).2.1.ext0 c,(j h).2.2⟩⟩
  ·split at ht
   ·rename_i hc
    obtain⟨rfl,rfl⟩:=hc;cases ht
    simp only[a9s,Act.put,List.setIfInBounds_toArray,List.set_cons_zero,List.set_cons_succ];refine a3z (o:=⟨_,_,_,_,_,_⟩) rfl (fun K hK=>?_);go_simp
    go_at_call 106
    (with_reducible refine(b9.out U g w' l T).mono ?_)
    rintro ee M ⟨c,v2,rfl,hM⟩;refine hK.out _ _ ⟨y.out M (l.trans c),v7,v2,H,J,L,R,Q,P,O,g,rfl,l.trans c,fun h=>⟨(f7 h).1,RV.mono _ _ _ _ (a0m c) (f7 h).2⟩,fun _=>hM,fun h=>⟨(B h).1,MV.mono _ _ _ _ (a0m c) (B h).2⟩,V,fun h=>⟨(j h).1,(j h).2.1.ext0 c,(j h).2.2⟩⟩
   ·split at ht
    ·rename_i hc
     obtain⟨rfl,rfl,rfl⟩:=hc;cases ht
     simp only[a9s,Act.put,List.setIfInBounds_toArray,List.set_cons_zero,List.set_cons_succ];refine a3z (o:=⟨_,_,_,_,_,_⟩) rfl (fun K hK=>?_);go_simp
     go_at_call 204
     (with_reducible refine(c1.out U g w' G l T (D rfl)).mono ?_)
     rintro ee M ⟨c,i4,i3,rfl,hM⟩;refine hK.out _ _ ⟨y.out M (l.trans c),v7,G,_,J,L,R,Q,i4,i3,g,rfl,l.trans c,fun h=>⟨(f7 h).1,RV.mono _ _ _ _ (a0m c) (f7 h).2⟩,fun _=>MV.mono _ _ _ _ (a0m c) (D rfl),fun _=>⟨rfl,hM⟩,fun h=>absurd (h4 h).2 (by decide),fun h=>⟨(j h).1,(j h).2.1.ext0 c,(j h).2.2⟩⟩
    ·split at ht
     ·rename_i hc
      obtain⟨rfl,rfl,rfl,rfl⟩:=hc;cases ht
      obtain⟨rfl,hY⟩:=f7 rfl;obtain⟨rfl,hM⟩:=B rfl;simp only[a9s,Act.put,List.setIfInBounds_toArray,List.set_cons_zero,List.set_cons_succ];refine a3z (o:=⟨_,_,_,_,_,_⟩) rfl (fun K hK=>?_);go_simp
      refine hK.out _ _ ⟨y.out w' l,_,G,_,_,L,R,Q,P,O,g,rfl,l,fun _=>⟨rfl,hY⟩,D,fun _=>⟨rfl,hM⟩,fun _=>rfl,j⟩
     ·split at ht
      ·rename_i hc
       obtain⟨rfl,rfl⟩:=hc;cases ht
       simp only[a9s,Act.put,List.setIfInBounds_toArray,List.set_cons_zero,List.set_cons_succ];refine a3z (o:=⟨_,_,_,_,_,_⟩) rfl (fun K hK=>?_);go_simp
       have c:Ext w' (w'.alloc (.cells c1S 202)):=(ExtX.refl _).alloc _;refine hK.out _ _ ⟨y.out _ (l.trans c),v7,G,H,J, .pointer (some ⟨w'.heap.size,0,none⟩),R,Q,P,O,w'.heap.size,rfl,l.trans c,fun h=>⟨(f7 h).1,RV.mono _ _ _ _ (b4e c) (f7 h).2⟩,fun h=>MV.mono _ _ _ _ (b4e c) (D h),fun h=>⟨(B h).1,MV.mono _ _ _ _ (b4e c) (B h).2⟩,V,fun _=>⟨rfl,Bx.new w' _ _,l.size⟩⟩
      ·cases ht
 case ex=>
  rintro ⟨b7,a8,f9,g0,U⟩ a w' hs hf ⟨v7,G,H,J,L,R,Q,P,O,g,rfl,l,f7,D,B,V,j⟩;obtain⟨rfl,rfl⟩:=(Bool.and_eq_true _ _).mp hf;obtain⟨h7,c3⟩:=a9t _ hs rfl
  dsimp only at f7 D B V j h7 c3
  subst h7 c3 b6;obtain⟨rfl,hY⟩:=f7 rfl;obtain⟨rfl,hM⟩:=B rfl;obtain rfl:=V rfl;obtain⟨rfl,bg,T⟩:=j rfl;clear f7 D B V j hf;have c8:a8=true:=by
   revert hs;revert a8;decide
  subst c8;clear hs b8 b9 c1
  show a1B _ _ _ _ _ _ 1 #[true,true,true,true,true,true,true,true,true,true,true,true,true,true,true,true,false] _ _
  simp only[a9s,Act.put,List.setIfInBounds_toArray,List.set_cons_zero,List.set_cons_succ];refine kl 16 (fun K hK=>?_)
  (refine a0q rfl rfl a3N rfl rfl bg rfl rfl (c1s _ _ _ _ _ _ _ _ _ _ _ _ _ _) ?_;intro w9 y1 y2)
  refine hK.out _ _ ?_;clear hK K
  (try simp only[Act.put])
  have b2:Ext A w9:=ExtX.box l y2 T;have a1:Le (mk (un C (some ⟨g,0,none⟩)) w') (mk (un C (some ⟨g,0,none⟩)) w9):=a0v y2 (fun k hk=>a0r hk);have h9:b3J (mk (un C (some ⟨g,0,none⟩)) w9) (.agg #[.int .i64 N, .slice P kk O, .slice R kk Q, .bool s, .slice ya n0 c0, .slice d k e0]) F:=by
   rw[<-e4];exact⟨_,_,_,_,_,_,_,_,_,_,_,_,_,rfl,MV.mono _ _ _ _ a1 hM,RV.mono _ _ _ _ a1 hY,QV.mono _ _ _ _ a1 (c2.out true g w' l fun _=>T)⟩
  have g5:HX (un C (some ⟨g,0,none⟩)) w9:=a1e (a2.ext b2) y1.lt;have hf:=hid (d0.out _ w9 _ g5 h9);clear hM hY c2 a1 y2 bg;go_wp2_with ((with_reducible show wpList _ _ _ (⟨_, .load 202 _,_,_,_,_⟩::_) _ _);refine a2T a3N rfl y1 rfl ?_)
  refine hf.out.mono ?_;rintro e w5 ⟨c4,z,u5,k5,c5,rfl,d7⟩;have hr:QC (mk (un C (some ⟨g,0,none⟩)) w5) u5 q:=by
   rcases d7 with⟨h,_⟩|⟨_,h,_⟩|⟨_,_,_,_,_,h⟩
   ·rw[d5.out]at h;cases h
   ·exact absurd h h0.out
   ·rw[<-i1.out];exact h
  obtain⟨s6,a6,n6,c6,d6,k6,e6,rfl⟩:=hr.shape;have bN:=Bx.new w5 #[.bool false, .slice none 0 0, .slice none 0 0] 38;have U:=g8.out w5 (b2.trans c4);clear d7 hf y1;go_wp2_with ((with_reducible show wpList _ _ _ (⟨_, .store 38 _ _,_,_,_,_⟩::_) _ _);first|(refine a0a a0o rfl rfl bN rfl rfl (a1z _ _ _ _ _ _ _) ?_;intro w7 r1 r2;have a9:Ext w5 w7:=ExtX.box ((ExtX.refl w5).alloc _) r2 (Nat.le_refl _);have g4:=U.ext0 a9;have q0:=r1.cell 0 rfl;have q1:=r1.cell 1 rfl;have q2:=r1.cell 2 rfl)|(refine a0a a0o rfl rfl g4 rfl rfl (a1z _ _ _ _ _ _ _) ?_;intro w8 r3 r4))
  have i2:=mkx QC.mono hr a9;have h8:=QC.mono _ _ _ _ (a2c r4 (fun k hk=>a0i (g6.out k hk)) (fun k hk=>a0i (g7.out k hk))) i2;exact bodyPost_ret (a0d rfl rfl a0o r3 rfl) rfl ⟨ExtX.box (g9.out.trans (b2.trans (c4.trans a9))) r4 (by omega),_,rfl,h8⟩
theorem b1v(X:Nat->Bool)(w:World)(u:Value)(x:Mat)(y:List Rat)(n c B:Nat)(j:Option Addr)(S:List Int)(s:Nat)(z:HX X w)(L:a5G (mk X w) u (gmM x y c n))(hs:Sl (a0u .i64) 1 w.cell? j S)(a:Shp n c x)(p:y.length=n)(l:n<=8)(_:c<=4)(h:BM B x)(i:BR B y)(f:1<=B)(t:B<=510/\n*(2*B+1)<=6540)(b:∀v∈S,0<=v/\v<(c:Int))(g:S.length<=4):Calls Tryz.prog 118 #[u, .slice j S.length s] w (a1Y X w QC (a6j x y n S)):=by
 have d:=b7m (n:=n) (c:=c) h i l f t;have A:=L.mv ⟨fun r o q hq=>Nat.le_trans (d.1 r o q hq) (by decide),fun q hq=>Nat.le_trans (d.2.1 q hq) (by decide),Nat.le_trans d.2.2 (by decide)⟩;by_cases K:S.length=0
 ·obtain rfl:S= []:=List.eq_nil_of_length_eq_zero K
  have e:a6j x y n []=(gmM x y c n).yy:=by
   have e:a1Z (a0S (a1f x []) y n ([]:List Int).length) (gyL (a1f x []) y n ([]:List Int).length)=0:=by
    rw[a4S (a2Z (a1f x []) y n ([]:List Int).length)];rfl
   rw[b1m a p,e,a4S p]
   show _ - 0=sm n _
   grind
  rw[e];exact b4b X w u _ j s z A
 ·have m:=a3w a S
  obtain⟨C,D,E,F,M⟩:=b1u (y:=y) m l (by omega) g;obtain⟨G,H,I,J⟩:=b6q (y:=y) a b;have k:=a2Y x n c;refine b4f X w u (gmM x y c n) (gmM (a1f x S) y S.length n) j S s _ z A hs (by omega) g ?_ ?_ ?_ G H I J (b7m (b0p a h b) i l f t) C (by rw[D];exact E) (c0C a p S F)
  ·rw[show(gmM x y c n).xy.length=c from a9Y x y n c];exact b
  ·rw[show(gmM x y c n).xx.length=c from k.1];exact b
  ·intro r o
   rw[show(gmM x y c n).xx.length=c from k.1];exact k.2 r o
end Go.Proofs.YtgbbpgflopajaaaGreat
