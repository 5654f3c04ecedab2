/- leastsq: Gather. Conditions: at most 8 rows and 4 columns, numbers of few digits. leastsq: formed, with its closure; reference 13: formed. Conditions: lengths far below any machine's. matrix: dot. Conditions: few numbers of at most 2^36 digits. matrix: Rank, Det. Conditions: few rows and columns, numbers of few digits. copy into a row that a call has made itself. Conditions: none. -/
import Derived.Test.YtkddecjkfdogiaaGreatLkL
namespace Go.Rep
open Go.RowKit Go.Lim
theorem a1E {α:Type} {R:Mem->Value->α->Prop} {sz base:Nat} {e:TypeId} {Z:Nat->Bool} {w w':World} {ao zo:Option Addr} {cap:Nat} {l:List α} (hR:Elem R sz) (h:OL R sz Z base e w ao cap l) (hE:Ext w w') (hz:∀k,ob zo k=true->w.heap.size<=k):OL R sz (un Z zo) base e w' ao cap l:=
 h.ext hR hE (fun k _ hk=>by simp[noY]at hk) fun k hk hk2=>by
  by_cases h0:Z k=true
  ·exact h0
  ·have:=hz k (by simpa[un,h0]using hk2)
   omega
end Go.Rep
namespace Go.Proofs.YtkddecjkfdogiaaGreat
open Go.RowKit Go.Rep Go.Lim Go.Lin
def b5x (X:Nat->Bool) (w:World) (m:Mom) (e:Ending) (w':World):Prop:=Ext w w'/\∃u,e= .returned (.tuple #[u, .int .i64 0])/\a2x (mk X w') u m
set_option maxRecDepth 100000 in
set_option maxHeartbeats 12800000 in
theorem a4x (X:Nat->Bool) (w:World) (u t:Value) (x:Mat) (y:List Rat) (n c B:Nat) (hX:HX X w) (hu:MV (mk X w) u x) (ht:RV (mk X w) t y) (hok:a7I x y=true) (hnx:x.length=n) (hcx:colsL x=c) (hn:n<=8) (hc:c<=4) (hxB:BM B x) (hyB:BR B y) (hB1:1<=B) (hB:B<=370):
  Calls Tryz.prog 51 #[u,t] w (b5x X w (gmM x y c n)):=by
 obtain⟨W,hW,hE,b0,hz⟩:=a1L w #[.int .i64 0, .slice none 0 0, .slice none 0 0, .bool false, .slice none 0 0, .slice none 0 0] 83;have hXW:HX (a0i X w.heap.size 1) W:=hX.boxes hz;have hle:Hid (∀w',Ext W w'->Le (mk X w) (mk (a0i X w.heap.size 1) w')):=hid fun w' h=>a0s (hE.trans h);obtain⟨b,hb⟩:∃b,w.heap.size=b:=⟨_,rfl⟩;rw[hb]at b0 hz hXW hle;have hbw:w.heap.size<=b:=by omega
 obtain⟨Z0,hZ0⟩:∃Z0,a0i X b 1=Z0:=⟨_,rfl⟩;rw[hZ0]at hXW hle;obtain⟨hf,h1,h64,h12,hyl⟩:=a2N.1 hok;obtain⟨hsh,_,_,hpos,_⟩:=a0K hf;rw[hnx,hcx]at hsh;rw[hnx]at h1 hyl;have hc1:=hpos (by omega);rw[hcx]at hc1;have hpr:=a7J Z0 W u t x y hXW (MV.mono _ _ _ _ (hle.out W (ExtX.refl _)) hu) (RV.mono _ _ _ _ (hle.out W (ExtX.refl _)) ht) (by omega);rw[hok]at hpr;obtain⟨ua,uc,rfl,huc,hus⟩:=hu;obtain⟨ta,tc,rfl,htc,hts⟩:=ht;have hhu:=hus.hd;have hht:=hts.hd;obtain⟨a0,c0,hX0',hc0,hcl0,hq0⟩:=hus.row 0 (by omega);rw[hsh.2 x[0] (List.getElem_mem _)]at hc0;have hshh:=hid hsh;have hyl':=hid hyl;rw[hnx]at hpr hhu huc |-;rw[hyl]at hpr hht htc |-;clear hf h64 h12 hpos hq0 hcl0 hok hnx hcx hyl hsh;have hI:(0:Int)<=0/\(0:Int)<(n:Int):=by omega
 obtain⟨F,hF⟩:∃F,b5x X w (gmM x y c n)=F:=⟨_,rfl⟩;rw[hF];have hF':=hid hF;clear hF;go_enter Tryz.func51,Tryz.ntmps51
 go_wp2_with fail
 refine hpr.mono ?_;rintro ee w1 ⟨hE1,rfl⟩;have k00:=hc0.out noY w1 (hE.trans hE1) rfl;have hX1:HX Z0 w1:=hXW.ext hE1;clear hpr;go_upto_region 4 with((with_reducible refine a0t a0r (by omega) (by assumption) ?_))
 have hE0:Ext w1 w1.drew:=(ExtX.refl w1).drew;have hX0:HX Z0 w1.drew:=hX1.ext hE0;clear k00
 (try simp only[Act.put])
 go_cut [7]from 20 to 24 (fun bv wx=>∃(g:Nat) (xo yo:Option Addr),bv= .pointer (some ⟨g,0,none⟩)/\Bx wx g #[.int .i64 0, .slice xo c c, .slice yo c c, .bool false, .slice none 0 0, .slice none 0 0] 83/\OL HdR 1 (un (un Z0 (some ⟨g,0,none⟩)) yo) w1.drew.heap.size 45 wx xo c (List.replicate c (none,0,0))/\OL QC 3 (un (un Z0 (some ⟨g,0,none⟩)) xo) w1.drew.heap.size 32 wx yo c (List.replicate c 0)/\w1.heap.size<=g/\g<wx.heap.size/\Ext w1 wx)
 case first=>
  refine a0L 6 (fun _=>True) (by kernel_rfl) (by kernel_rfl) trivial (fun hHeld hOnce=>?_);refine a0a hOnce (i:=0) (oi:=⟨_,_,_,_,_,_⟩) (v:=?_) rfl (by kernel_rfl) (fun _ _ _ h=>h) (by assumption) (by rfl) (fun w hSw=>?_) ?_
  rotate_left
  ·(try dsimp only at hSw)
   go_simp
   all_goals with_reducible rfl
  (try simp only[Act.put,List.setIfInBounds_toArray,List.set_cons_zero,List.set_cons_succ])
  refine a0a hOnce (i:=2) (oi:=⟨_,_,_,_,_,_⟩) (v:=?_) rfl (by kernel_rfl) (fun _ _ _ h=>h) (by assumption) (by rfl) (fun w hSw=>?_) ?_
  rotate_left
  ·(try dsimp only at hSw)
   go_simp
   all_goals with_reducible rfl
  (try simp only[Act.put,List.setIfInBounds_toArray,List.set_cons_zero,List.set_cons_succ])
  refine a3v (i:=1) (j:=3) (l:=5) (oi:=⟨_,_,_,_,_,_⟩) (oj:=⟨_,_,_,_,_,_⟩) (ol:=⟨_,_,_,_,_,_⟩) (by kernel_rfl) rfl rfl rfl (fun K hK=>?_) (fun K hK=>?_) (fun K hK=>?_)
  ·skip
   (refine a1u (R:=HdR) rfl rfl a0r HdR.elem (none,0,0) (fun _=>rfl) Z0 (hX0.ext (ExtX.refl (Y:=noY) w1.drew)) w1.drew.heap.size (Nat.le_refl _) c rfl rfl rfl (by omega) (by omega) ?_;intro xo vA hA eA)
   refine hK.out _ _ trivial (fun hHeld=>?_);clear hK K
   (try simp only[Act.put,List.setIfInBounds_toArray,List.set_cons_zero,List.set_cons_succ])
   have nA:∀q,ob xo q=true->w1.drew.heap.size<=q:=fun q hq=>(hA.block hq).1;have hA:=hA.base_le (b':=w1.drew.heap.size) ((ExtX.refl (Y:=noY) w1.drew)).size;have EA:Ext w1.drew vA:=(ExtX.refl (Y:=noY) w1.drew).trans eA;refine a0F (i:=3) (j:=5) (oi:=⟨_,_,_,_,_,_⟩) (oj:=⟨_,_,_,_,_,_⟩) (by kernel_rfl) rfl rfl (fun K hK=>?_) (fun K hK=>?_)
   ·skip
    (refine a1u (R:=QC) rfl rfl a0E QC.elem (0:Rat) (fun _=>QC.zero _) (un Z0 xo) (a2a (hX0.ext EA) fun q hq=>(hA.block hq).2) vA.heap.size (Nat.le_refl _) c rfl rfl rfl (by omega) (by omega) ?_;intro yo vB hB eB)
    refine hK.out _ _ trivial (fun hHeld=>?_);clear hK K
    (try simp only[Act.put,List.setIfInBounds_toArray,List.set_cons_zero,List.set_cons_succ])
    have nB:∀q,ob yo q=true->vA.heap.size<=q:=fun q hq=>(hB.block hq).1;have hB:=hB.base_le (b':=w1.drew.heap.size) (EA).size;have hA:=a1E HdR.elem hA eB nB;have EB:Ext w1.drew vB:=EA.trans eB;refine a0a hOnce (i:=4) (oi:=⟨_,_,_,_,_,_⟩) (v:=?_) rfl (by kernel_rfl) (fun _ _ _ h=>h) (by assumption) (by rfl) (fun w hSw=>?_) ?_
    rotate_left
    ·(try dsimp only at hSw)
     go_simp
     all_goals with_reducible rfl
    (try simp only[Act.put,List.setIfInBounds_toArray,List.set_cons_zero,List.set_cons_succ])
    refine a0d (i:=5) (o:=⟨_,_,_,_,_,_⟩) (by kernel_rfl) rfl (fun K hK=>?_);go_simp
    skip
    refine hK.out _ _ trivial (fun hHeld=>?_);clear hK K
    (try simp only[Act.put,List.setIfInBounds_toArray,List.set_cons_zero,List.set_cons_succ])
    have eG:Ext vB (vB.alloc (.cells #[.int .i64 0, .slice none 0 0, .slice none 0 0, .bool false, .slice none 0 0, .slice none 0 0] 83)):=(ExtX.refl _).alloc _;have bG:Bx (vB.alloc (.cells #[.int .i64 0, .slice none 0 0, .slice none 0 0, .bool false, .slice none 0 0, .slice none 0 0] 83)) vB.heap.size #[.int .i64 0, .slice none 0 0, .slice none 0 0, .bool false, .slice none 0 0, .slice none 0 0] 83:=Bx.new vB _ _;have zG:(vB.alloc (.cells #[.int .i64 0, .slice none 0 0, .slice none 0 0, .bool false, .slice none 0 0, .slice none 0 0] 83)).heap.size=vB.heap.size+1:=by simp
    obtain⟨vG,hvG⟩:∃vG,vB.alloc (.cells #[.int .i64 0, .slice none 0 0, .slice none 0 0, .bool false, .slice none 0 0, .slice none 0 0] 83)=vG:=⟨_,rfl⟩;rw[hvG]at eG bG zG |-;obtain⟨gA,hgA⟩:∃gA,vB.heap.size=gA:=⟨_,rfl⟩;have hgu:vB.heap.size<=gA:=by rw[<-hgA];exact Nat.le_refl _
    rw[hgA]at bG zG |-;have glA:gA<vG.heap.size:=by omega
    have nG:∀q,ob (some ⟨gA,0,none⟩) q=true->vB.heap.size<=q:=fun q hq=>(by simpa[ob]using hq:gA=q)▸hgu;have hgw:w1.heap.size<=gA:=Nat.le_trans (EB).size hgu;have hA:=a1E HdR.elem hA eG nG;have hB:=a1E QC.elem hB eG nG;have EG:Ext w1.drew vG:=EB.trans eG;refine a0j (i:=6) (o:=⟨_,_,_,_,_,_⟩) (by kernel_rfl) rfl (by decide) (by kernel_rfl) (fun K hK=>?_)
    (refine a0B rfl rfl a1I rfl rfl bG rfl rfl (by intro v hv;simp at hv;rcases hv with rfl|rfl|rfl|rfl|rfl|rfl<;>rfl) ?_;intro w9 y1 y2)
    refine hK.out _ _ ?_;clear hK K
    (try simp only[Act.put])
    have hA9:OL HdR 1 (un (un Z0 (some ⟨gA,0,none⟩)) yo) w1.drew.heap.size 45 w9 xo c (List.replicate c (none,0,0)):=by
     have h:=hA.ext HdR.elem (Z:=un (un Z0 yo) (some ⟨gA,0,none⟩)) y2 (fun q _ hq=>by simp[un,hq]) (fun _ _ h=>h)
     first|exact h|(rw[a1H]at h;exact h)
    have hB9:OL QC 3 (un (un Z0 (some ⟨gA,0,none⟩)) xo) w1.drew.heap.size 32 w9 yo c (List.replicate c 0):=by
     have h:=hB.ext QC.elem (Z:=un (un Z0 xo) (some ⟨gA,0,none⟩)) y2 (fun q _ hq=>by simp[un,hq]) (fun _ _ h=>h)
     first|exact h|(rw[a1H]at h;exact h)
    have hE9:Ext w1 w9:=ExtX.box (hE0.trans EG) y2 hgw;have hlt9:=Nat.lt_of_lt_of_le glA y2.size;go_wp2_with fail
    go_meet
    case rel=>exact⟨gA,xo,yo,rfl,y1,hA9,hB9,hgw,hlt9,hE9⟩
   ·skip
    go_simp
    skip
    refine hK.out _ _ trivial (fun hHeld=>?_);clear hK K
    (try simp only[Act.put,List.setIfInBounds_toArray,List.set_cons_zero,List.set_cons_succ])
    have eG:Ext vA (vA.alloc (.cells #[.int .i64 0, .slice none 0 0, .slice none 0 0, .bool false, .slice none 0 0, .slice none 0 0] 83)):=(ExtX.refl _).alloc _;have bG:Bx (vA.alloc (.cells #[.int .i64 0, .slice none 0 0, .slice none 0 0, .bool false, .slice none 0 0, .slice none 0 0] 83)) vA.heap.size #[.int .i64 0, .slice none 0 0, .slice none 0 0, .bool false, .slice none 0 0, .slice none 0 0] 83:=Bx.new vA _ _;have zG:(vA.alloc (.cells #[.int .i64 0, .slice none 0 0, .slice none 0 0, .bool false, .slice none 0 0, .slice none 0 0] 83)).heap.size=vA.heap.size+1:=by simp
    obtain⟨vG,hvG⟩:∃vG,vA.alloc (.cells #[.int .i64 0, .slice none 0 0, .slice none 0 0, .bool false, .slice none 0 0, .slice none 0 0] 83)=vG:=⟨_,rfl⟩;rw[hvG]at eG bG zG |-;obtain⟨gA,hgA⟩:∃gA,vA.heap.size=gA:=⟨_,rfl⟩;have hgu:vA.heap.size<=gA:=by rw[<-hgA];exact Nat.le_refl _
    rw[hgA]at bG zG |-;have glA:gA<vG.heap.size:=by omega
    have nG:∀q,ob (some ⟨gA,0,none⟩) q=true->vA.heap.size<=q:=fun q hq=>(by simpa[ob]using hq:gA=q)▸hgu;have hgw:w1.heap.size<=gA:=Nat.le_trans (EA).size hgu;have hA:=a1E HdR.elem hA eG nG;have EG:Ext w1.drew vG:=EA.trans eG;refine a0d (i:=3) (o:=⟨_,_,_,_,_,_⟩) (by kernel_rfl) rfl (fun K hK=>?_)
    (refine a1u (R:=QC) rfl rfl a0E QC.elem (0:Rat) (fun _=>QC.zero _) (un (un Z0 xo) (some ⟨gA,0,none⟩)) (a1x (a2a (hX0.ext EG) fun q hq=>(hA.block hq).2) glA) vG.heap.size (Nat.le_refl _) c rfl rfl rfl (by omega) (by omega) ?_;intro yo vB hB eB)
    refine hK.out _ _ trivial (fun hHeld=>?_);clear hK K
    (try simp only[Act.put,List.setIfInBounds_toArray,List.set_cons_zero,List.set_cons_succ])
    have nB:∀q,ob yo q=true->vG.heap.size<=q:=fun q hq=>(hB.block hq).1;have hB:=hB.base_le (b':=w1.drew.heap.size) (EG).size;have hA:=a1E HdR.elem hA eB nB;have bG:=bG.ext0 eB;have glA:=Nat.lt_of_lt_of_le glA eB.size;have EB:Ext w1.drew vB:=EG.trans eB;refine a0a hOnce (i:=4) (oi:=⟨_,_,_,_,_,_⟩) (v:=?_) rfl (by kernel_rfl) (fun _ _ _ h=>h) (by assumption) (by rfl) (fun w hSw=>?_) ?_
    rotate_left
    ·(try dsimp only at hSw)
     go_simp
     all_goals with_reducible rfl
    (try simp only[Act.put,List.setIfInBounds_toArray,List.set_cons_zero,List.set_cons_succ])
    refine a0j (i:=6) (o:=⟨_,_,_,_,_,_⟩) (by kernel_rfl) rfl (by decide) (by kernel_rfl) (fun K hK=>?_)
    (refine a0B rfl rfl a1I rfl rfl bG rfl rfl (by intro v hv;simp at hv;rcases hv with rfl|rfl|rfl|rfl|rfl|rfl<;>rfl) ?_;intro w9 y1 y2)
    refine hK.out _ _ ?_;clear hK K
    (try simp only[Act.put])
    have hA9:OL HdR 1 (un (un Z0 (some ⟨gA,0,none⟩)) yo) w1.drew.heap.size 45 w9 xo c (List.replicate c (none,0,0)):=by
     have h:=hA.ext HdR.elem (Z:=un (un Z0 (some ⟨gA,0,none⟩)) yo) y2 (fun q _ hq=>by simp[un,hq]) (fun _ _ h=>h)
     first|exact h|(rw[a1H]at h;exact h)
    have hB9:OL QC 3 (un (un Z0 (some ⟨gA,0,none⟩)) xo) w1.drew.heap.size 32 w9 yo c (List.replicate c 0):=by
     have h:=hB.ext QC.elem (Z:=un (un Z0 xo) (some ⟨gA,0,none⟩)) y2 (fun q _ hq=>by simp[un,hq]) (fun _ _ h=>h)
     first|exact h|(rw[a1H]at h;exact h)
    have hE9:Ext w1 w9:=ExtX.box (hE0.trans EB) y2 hgw;have hlt9:=Nat.lt_of_lt_of_le glA y2.size;go_wp2_with fail
    go_meet
    case rel=>exact⟨gA,xo,yo,rfl,y1,hA9,hB9,hgw,hlt9,hE9⟩
  ·skip
   (refine a1u (R:=QC) rfl rfl a0E QC.elem (0:Rat) (fun _=>QC.zero _) Z0 (hX0.ext (ExtX.refl (Y:=noY) w1.drew)) w1.drew.heap.size (Nat.le_refl _) c rfl rfl rfl (by omega) (by omega) ?_;intro yo vB hB eB)
   refine hK.out _ _ trivial (fun hHeld=>?_);clear hK K
   (try simp only[Act.put,List.setIfInBounds_toArray,List.set_cons_zero,List.set_cons_succ])
   have nB:∀q,ob yo q=true->w1.drew.heap.size<=q:=fun q hq=>(hB.block hq).1;have hB:=hB.base_le (b':=w1.drew.heap.size) ((ExtX.refl (Y:=noY) w1.drew)).size;have EB:Ext w1.drew vB:=(ExtX.refl (Y:=noY) w1.drew).trans eB;refine a0F (i:=1) (j:=5) (oi:=⟨_,_,_,_,_,_⟩) (oj:=⟨_,_,_,_,_,_⟩) (by kernel_rfl) rfl rfl (fun K hK=>?_) (fun K hK=>?_)
   ·skip
    (refine a1u (R:=HdR) rfl rfl a0r HdR.elem (none,0,0) (fun _=>rfl) (un Z0 yo) (a2a (hX0.ext EB) fun q hq=>(hB.block hq).2) vB.heap.size (Nat.le_refl _) c rfl rfl rfl (by omega) (by omega) ?_;intro xo vA hA eA)
    refine hK.out _ _ trivial (fun hHeld=>?_);clear hK K
    (try simp only[Act.put,List.setIfInBounds_toArray,List.set_cons_zero,List.set_cons_succ])
    have nA:∀q,ob xo q=true->vB.heap.size<=q:=fun q hq=>(hA.block hq).1;have hA:=hA.base_le (b':=w1.drew.heap.size) (EB).size;have hB:=a1E QC.elem hB eA nA;have EA:Ext w1.drew vA:=EB.trans eA;refine a0a hOnce (i:=4) (oi:=⟨_,_,_,_,_,_⟩) (v:=?_) rfl (by kernel_rfl) (fun _ _ _ h=>h) (by assumption) (by rfl) (fun w hSw=>?_) ?_
    rotate_left
    ·(try dsimp only at hSw)
     go_simp
     all_goals with_reducible rfl
    (try simp only[Act.put,List.setIfInBounds_toArray,List.set_cons_zero,List.set_cons_succ])
    refine a0d (i:=5) (o:=⟨_,_,_,_,_,_⟩) (by kernel_rfl) rfl (fun K hK=>?_);go_simp
    skip
    refine hK.out _ _ trivial (fun hHeld=>?_);clear hK K
    (try simp only[Act.put,List.setIfInBounds_toArray,List.set_cons_zero,List.set_cons_succ])
    have eG:Ext vA (vA.alloc (.cells #[.int .i64 0, .slice none 0 0, .slice none 0 0, .bool false, .slice none 0 0, .slice none 0 0] 83)):=(ExtX.refl _).alloc _;have bG:Bx (vA.alloc (.cells #[.int .i64 0, .slice none 0 0, .slice none 0 0, .bool false, .slice none 0 0, .slice none 0 0] 83)) vA.heap.size #[.int .i64 0, .slice none 0 0, .slice none 0 0, .bool false, .slice none 0 0, .slice none 0 0] 83:=Bx.new vA _ _;have zG:(vA.alloc (.cells #[.int .i64 0, .slice none 0 0, .slice none 0 0, .bool false, .slice none 0 0, .slice none 0 0] 83)).heap.size=vA.heap.size+1:=by simp
    obtain⟨vG,hvG⟩:∃vG,vA.alloc (.cells #[.int .i64 0, .slice none 0 0, .slice none 0 0, .bool false, .slice none 0 0, .slice none 0 0] 83)=vG:=⟨_,rfl⟩;rw[hvG]at eG bG zG |-;obtain⟨gA,hgA⟩:∃gA,vA.heap.size=gA:=⟨_,rfl⟩;have hgu:vA.heap.size<=gA:=by rw[<-hgA];exact Nat.le_refl _
    rw[hgA]at bG zG |-;have glA:gA<vG.heap.size:=by omega
    have nG:∀q,ob (some ⟨gA,0,none⟩) q=true->vA.heap.size<=q:=fun q hq=>(by simpa[ob]using hq:gA=q)▸hgu;have hgw:w1.heap.size<=gA:=Nat.le_trans (EA).size hgu;have hB:=a1E QC.elem hB eG nG;have hA:=a1E HdR.elem hA eG nG;have EG:Ext w1.drew vG:=EA.trans eG;refine a0j (i:=6) (o:=⟨_,_,_,_,_,_⟩) (by kernel_rfl) rfl (by decide) (by kernel_rfl) (fun K hK=>?_)
    (refine a0B rfl rfl a1I rfl rfl bG rfl rfl (by intro v hv;simp at hv;rcases hv with rfl|rfl|rfl|rfl|rfl|rfl<;>rfl) ?_;intro w9 y1 y2)
    refine hK.out _ _ ?_;clear hK K
    (try simp only[Act.put])
    have hA9:OL HdR 1 (un (un Z0 (some ⟨gA,0,none⟩)) yo) w1.drew.heap.size 45 w9 xo c (List.replicate c (none,0,0)):=by
     have h:=hA.ext HdR.elem (Z:=un (un Z0 yo) (some ⟨gA,0,none⟩)) y2 (fun q _ hq=>by simp[un,hq]) (fun _ _ h=>h)
     first|exact h|(rw[a1H]at h;exact h)
    have hB9:OL QC 3 (un (un Z0 (some ⟨gA,0,none⟩)) xo) w1.drew.heap.size 32 w9 yo c (List.replicate c 0):=by
     have h:=hB.ext QC.elem (Z:=un (un Z0 xo) (some ⟨gA,0,none⟩)) y2 (fun q _ hq=>by simp[un,hq]) (fun _ _ h=>h)
     first|exact h|(rw[a1H]at h;exact h)
    have hE9:Ext w1 w9:=ExtX.box (hE0.trans EG) y2 hgw;have hlt9:=Nat.lt_of_lt_of_le glA y2.size;go_wp2_with fail
    go_meet
    case rel=>exact⟨gA,xo,yo,rfl,y1,hA9,hB9,hgw,hlt9,hE9⟩
   ·skip
    go_simp
    skip
    refine hK.out _ _ trivial (fun hHeld=>?_);clear hK K
    (try simp only[Act.put,List.setIfInBounds_toArray,List.set_cons_zero,List.set_cons_succ])
    have eG:Ext vB (vB.alloc (.cells #[.int .i64 0, .slice none 0 0, .slice none 0 0, .bool false, .slice none 0 0, .slice none 0 0] 83)):=(ExtX.refl _).alloc _;have bG:Bx (vB.alloc (.cells #[.int .i64 0, .slice none 0 0, .slice none 0 0, .bool false, .slice none 0 0, .slice none 0 0] 83)) vB.heap.size #[.int .i64 0, .slice none 0 0, .slice none 0 0, .bool false, .slice none 0 0, .slice none 0 0] 83:=Bx.new vB _ _;have zG:(vB.alloc (.cells #[.int .i64 0, .slice none 0 0, .slice none 0 0, .bool false, .slice none 0 0, .slice none 0 0] 83)).heap.size=vB.heap.size+1:=by simp
    obtain⟨vG,hvG⟩:∃vG,vB.alloc (.cells #[.int .i64 0, .slice none 0 0, .slice none 0 0, .bool false, .slice none 0 0, .slice none 0 0] 83)=vG:=⟨_,rfl⟩;rw[hvG]at eG bG zG |-;obtain⟨gA,hgA⟩:∃gA,vB.heap.size=gA:=⟨_,rfl⟩;have hgu:vB.heap.size<=gA:=by rw[<-hgA];exact Nat.le_refl _
    rw[hgA]at bG zG |-;have glA:gA<vG.heap.size:=by omega
    have nG:∀q,ob (some ⟨gA,0,none⟩) q=true->vB.heap.size<=q:=fun q hq=>(by simpa[ob]using hq:gA=q)▸hgu;have hgw:w1.heap.size<=gA:=Nat.le_trans (EB).size hgu;have hB:=a1E QC.elem hB eG nG;have EG:Ext w1.drew vG:=EB.trans eG;refine a0d (i:=1) (o:=⟨_,_,_,_,_,_⟩) (by kernel_rfl) rfl (fun K hK=>?_)
    (refine a1u (R:=HdR) rfl rfl a0r HdR.elem (none,0,0) (fun _=>rfl) (un (un Z0 yo) (some ⟨gA,0,none⟩)) (a1x (a2a (hX0.ext EG) fun q hq=>(hB.block hq).2) glA) vG.heap.size (Nat.le_refl _) c rfl rfl rfl (by omega) (by omega) ?_;intro xo vA hA eA)
    refine hK.out _ _ trivial (fun hHeld=>?_);clear hK K
    (try simp only[Act.put,List.setIfInBounds_toArray,List.set_cons_zero,List.set_cons_succ])
    have nA:∀q,ob xo q=true->vG.heap.size<=q:=fun q hq=>(hA.block hq).1;have hA:=hA.base_le (b':=w1.drew.heap.size) (EG).size;have hB:=a1E QC.elem hB eA nA;have bG:=bG.ext0 eA;have glA:=Nat.lt_of_lt_of_le glA eA.size;have EA:Ext w1.drew vA:=EG.trans eA;refine a0a hOnce (i:=4) (oi:=⟨_,_,_,_,_,_⟩) (v:=?_) rfl (by kernel_rfl) (fun _ _ _ h=>h) (by assumption) (by rfl) (fun w hSw=>?_) ?_
    rotate_left
    ·(try dsimp only at hSw)
     go_simp
     all_goals with_reducible rfl
    (try simp only[Act.put,List.setIfInBounds_toArray,List.set_cons_zero,List.set_cons_succ])
    refine a0j (i:=6) (o:=⟨_,_,_,_,_,_⟩) (by kernel_rfl) rfl (by decide) (by kernel_rfl) (fun K hK=>?_)
    (refine a0B rfl rfl a1I rfl rfl bG rfl rfl (by intro v hv;simp at hv;rcases hv with rfl|rfl|rfl|rfl|rfl|rfl<;>rfl) ?_;intro w9 y1 y2)
    refine hK.out _ _ ?_;clear hK K
    (try simp only[Act.put])
    have hA9:OL HdR 1 (un (un Z0 (some ⟨gA,0,none⟩)) yo) w1.drew.heap.size 45 w9 xo c (List.replicate c (none,0,0)):=by
     have h:=hA.ext HdR.elem (Z:=un (un Z0 yo) (some ⟨gA,0,none⟩)) y2 (fun q _ hq=>by simp[un,hq]) (fun _ _ h=>h)
     first|exact h|(rw[a1H]at h;exact h)
    have hB9:OL QC 3 (un (un Z0 (some ⟨gA,0,none⟩)) xo) w1.drew.heap.size 32 w9 yo c (List.replicate c 0):=by
     have h:=hB.ext QC.elem (Z:=un (un Z0 (some ⟨gA,0,none⟩)) xo) y2 (fun q _ hq=>by simp[un,hq]) (fun _ _ h=>h)
     first|exact h|(rw[a1H]at h;exact h)
    have hE9:Ext w1 w9:=ExtX.box (hE0.trans EA) y2 hgw;have hlt9:=Nat.lt_of_lt_of_le glA y2.size;go_wp2_with fail
    go_meet
    case rel=>exact⟨gA,xo,yo,rfl,y1,hA9,hB9,hgw,hlt9,hE9⟩
  ·skip
   go_simp
   skip
   refine hK.out _ _ trivial (fun hHeld=>?_);clear hK K
   (try simp only[Act.put,List.setIfInBounds_toArray,List.set_cons_zero,List.set_cons_succ])
   have eG:Ext w1.drew (w1.alloc (.cells #[.int .i64 0, .slice none 0 0, .slice none 0 0, .bool false, .slice none 0 0, .slice none 0 0] 83)).drew:=⟨rfl,rfl,rfl,((ExtX.refl (Y:=noY) w1).alloc _).size,((ExtX.refl (Y:=noY) w1).alloc _).block⟩;have bG:Bx (w1.alloc (.cells #[.int .i64 0, .slice none 0 0, .slice none 0 0, .bool false, .slice none 0 0, .slice none 0 0] 83)).drew w1.heap.size #[.int .i64 0, .slice none 0 0, .slice none 0 0, .bool false, .slice none 0 0, .slice none 0 0] 83:=Bx.new w1 _ _;have zG:(w1.alloc (.cells #[.int .i64 0, .slice none 0 0, .slice none 0 0, .bool false, .slice none 0 0, .slice none 0 0] 83)).drew.heap.size=w1.heap.size+1:=by show(w1.alloc _).heap.size=_;simp
   obtain⟨vG,hvG⟩:∃vG,(w1.alloc (.cells #[.int .i64 0, .slice none 0 0, .slice none 0 0, .bool false, .slice none 0 0, .slice none 0 0] 83)).drew=vG:=⟨_,rfl⟩;rw[hvG]at eG bG zG |-;obtain⟨gA,hgA⟩:∃gA,w1.heap.size=gA:=⟨_,rfl⟩;have hgu:w1.drew.heap.size<=gA:=by rw[<-hgA];exact Nat.le_refl _
   rw[hgA]at bG zG |-;have glA:gA<vG.heap.size:=by omega
   have nG:∀q,ob (some ⟨gA,0,none⟩) q=true->w1.drew.heap.size<=q:=fun q hq=>(by simpa[ob]using hq:gA=q)▸hgu;have hgw:w1.heap.size<=gA:=Nat.le_trans ((ExtX.refl (Y:=noY) w1.drew)).size hgu;have EG:Ext w1.drew vG:=(ExtX.refl (Y:=noY) w1.drew).trans eG;refine a0F (i:=1) (j:=3) (oi:=⟨_,_,_,_,_,_⟩) (oj:=⟨_,_,_,_,_,_⟩) (by kernel_rfl) rfl rfl (fun K hK=>?_) (fun K hK=>?_)
   ·skip
    (refine a1u (R:=HdR) rfl rfl a0r HdR.elem (none,0,0) (fun _=>rfl) (un Z0 (some ⟨gA,0,none⟩)) (a1x (hX0.ext EG) glA) vG.heap.size (Nat.le_refl _) c rfl rfl rfl (by omega) (by omega) ?_;intro xo vA hA eA)
    refine hK.out _ _ trivial (fun hHeld=>?_);clear hK K
    (try simp only[Act.put,List.setIfInBounds_toArray,List.set_cons_zero,List.set_cons_succ])
    have nA:∀q,ob xo q=true->vG.heap.size<=q:=fun q hq=>(hA.block hq).1;have hA:=hA.base_le (b':=w1.drew.heap.size) (EG).size;have bG:=bG.ext0 eA;have glA:=Nat.lt_of_lt_of_le glA eA.size;have EA:Ext w1.drew vA:=EG.trans eA;refine a0d (i:=3) (o:=⟨_,_,_,_,_,_⟩) (by kernel_rfl) rfl (fun K hK=>?_)
    (refine a1u (R:=QC) rfl rfl a0E QC.elem (0:Rat) (fun _=>QC.zero _) (un (un Z0 (some ⟨gA,0,none⟩)) xo) (a2a (a1x (hX0.ext EA) glA) fun q hq=>(hA.block hq).2) vA.heap.size (Nat.le_refl _) c rfl rfl rfl (by omega) (by omega) ?_;intro yo vB hB eB)
    refine hK.out _ _ trivial (fun hHeld=>?_);clear hK K
    (try simp only[Act.put,List.setIfInBounds_toArray,List.set_cons_zero,List.set_cons_succ])
    have nB:∀q,ob yo q=true->vA.heap.size<=q:=fun q hq=>(hB.block hq).1;have hB:=hB.base_le (b':=w1.drew.heap.size) (EA).size;have bG:=bG.ext0 eB;have glA:=Nat.lt_of_lt_of_le glA eB.size;have hA:=a1E HdR.elem hA eB nB;have EB:Ext w1.drew vB:=EA.trans eB;refine a0a hOnce (i:=4) (oi:=⟨_,_,_,_,_,_⟩) (v:=?_) rfl (by kernel_rfl) (fun _ _ _ h=>h) (by assumption) (by rfl) (fun w hSw=>?_) ?_
    rotate_left
    ·(try dsimp only at hSw)
     go_simp
     all_goals with_reducible rfl
    (try simp only[Act.put,List.setIfInBounds_toArray,List.set_cons_zero,List.set_cons_succ])
    refine a0j (i:=6) (o:=⟨_,_,_,_,_,_⟩) (by kernel_rfl) rfl (by decide) (by kernel_rfl) (fun K hK=>?_)
    (refine a0B rfl rfl a1I rfl rfl bG rfl rfl (by intro v hv;simp at hv;rcases hv with rfl|rfl|rfl|rfl|rfl|rfl<;>rfl) ?_;intro w9 y1 y2)
    refine hK.out _ _ ?_;clear hK K
    (try simp only[Act.put])
    have hA9:OL HdR 1 (un (un Z0 (some ⟨gA,0,none⟩)) yo) w1.drew.heap.size 45 w9 xo c (List.replicate c (none,0,0)):=by
     have h:=hA.ext HdR.elem (Z:=un (un Z0 (some ⟨gA,0,none⟩)) yo) y2 (fun q _ hq=>by simp[un,hq]) (fun _ _ h=>h)
     first|exact h|(rw[a1H]at h;exact h)
    have hB9:OL QC 3 (un (un Z0 (some ⟨gA,0,none⟩)) xo) w1.drew.heap.size 32 w9 yo c (List.replicate c 0):=by
     have h:=hB.ext QC.elem (Z:=un (un Z0 (some ⟨gA,0,none⟩)) xo) y2 (fun q _ hq=>by simp[un,hq]) (fun _ _ h=>h)
     first|exact h|(rw[a1H]at h;exact h)
    have hE9:Ext w1 w9:=ExtX.box (hE0.trans EB) y2 hgw;have hlt9:=Nat.lt_of_lt_of_le glA y2.size;go_wp2_with fail
    go_meet
    case rel=>exact⟨gA,xo,yo,rfl,y1,hA9,hB9,hgw,hlt9,hE9⟩
   ·skip
    (refine a1u (R:=QC) rfl rfl a0E QC.elem (0:Rat) (fun _=>QC.zero _) (un Z0 (some ⟨gA,0,none⟩)) (a1x (hX0.ext EG) glA) vG.heap.size (Nat.le_refl _) c rfl rfl rfl (by omega) (by omega) ?_;intro yo vB hB eB)
    refine hK.out _ _ trivial (fun hHeld=>?_);clear hK K
    (try simp only[Act.put,List.setIfInBounds_toArray,List.set_cons_zero,List.set_cons_succ])
    have nB:∀q,ob yo q=true->vG.heap.size<=q:=fun q hq=>(hB.block hq).1;have hB:=hB.base_le (b':=w1.drew.heap.size) (EG).size;have bG:=bG.ext0 eB;have glA:=Nat.lt_of_lt_of_le glA eB.size;have EB:Ext w1.drew vB:=EG.trans eB;refine a0d (i:=1) (o:=⟨_,_,_,_,_,_⟩) (by kernel_rfl) rfl (fun K hK=>?_)
    (refine a1u (R:=HdR) rfl rfl a0r HdR.elem (none,0,0) (fun _=>rfl) (un (un Z0 (some ⟨gA,0,none⟩)) yo) (a2a (a1x (hX0.ext EB) glA) fun q hq=>(hB.block hq).2) vB.heap.size (Nat.le_refl _) c rfl rfl rfl (by omega) (by omega) ?_;intro xo vA hA eA)
    refine hK.out _ _ trivial (fun hHeld=>?_);clear hK K
    (try simp only[Act.put,List.setIfInBounds_toArray,List.set_cons_zero,List.set_cons_succ])
    have nA:∀q,ob xo q=true->vB.heap.size<=q:=fun q hq=>(hA.block hq).1;have hA:=hA.base_le (b':=w1.drew.heap.size) (EB).size;have bG:=bG.ext0 eA;have glA:=Nat.lt_of_lt_of_le glA eA.size;have hB:=a1E QC.elem hB eA nA;have EA:Ext w1.drew vA:=EB.trans eA;refine a0a hOnce (i:=4) (oi:=⟨_,_,_,_,_,_⟩) (v:=?_) rfl (by kernel_rfl) (fun _ _ _ h=>h) (by assumption) (by rfl) (fun w hSw=>?_) ?_
    rotate_left
    ·(try dsimp only at hSw)
     go_simp
     all_goals with_reducible rfl
    (try simp only[Act.put,List.setIfInBounds_toArray,List.set_cons_zero,List.set_cons_succ])
    refine a0j (i:=6) (o:=⟨_,_,_,_,_,_⟩) (by kernel_rfl) rfl (by decide) (by kernel_rfl) (fun K hK=>?_)
    (refine a0B rfl rfl a1I rfl rfl bG rfl rfl (by intro v hv;simp at hv;rcases hv with rfl|rfl|rfl|rfl|rfl|rfl<;>rfl) ?_;intro w9 y1 y2)
    refine hK.out _ _ ?_;clear hK K
    (try simp only[Act.put])
    have hA9:OL HdR 1 (un (un Z0 (some ⟨gA,0,none⟩)) yo) w1.drew.heap.size 45 w9 xo c (List.replicate c (none,0,0)):=by
     have h:=hA.ext HdR.elem (Z:=un (un Z0 (some ⟨gA,0,none⟩)) yo) y2 (fun q _ hq=>by simp[un,hq]) (fun _ _ h=>h)
     first|exact h|(rw[a1H]at h;exact h)
    have hB9:OL QC 3 (un (un Z0 (some ⟨gA,0,none⟩)) xo) w1.drew.heap.size 32 w9 yo c (List.replicate c 0):=by
     have h:=hB.ext QC.elem (Z:=un (un Z0 (some ⟨gA,0,none⟩)) xo) y2 (fun q _ hq=>by simp[un,hq]) (fun _ _ h=>h)
     first|exact h|(rw[a1H]at h;exact h)
    have hE9:Ext w1 w9:=ExtX.box (hE0.trans EA) y2 hgw;have hlt9:=Nat.lt_of_lt_of_le glA y2.size;go_wp2_with fail
    go_meet
    case rel=>exact⟨gA,xo,yo,rfl,y1,hA9,hB9,hgw,hlt9,hE9⟩
 case rest=>
  obtain⟨g,xo,yo,rfl,bg,hA,hB2,hgw,hglt,hEc⟩:=hcut;obtain⟨Z1,hZ1⟩:∃Z1,un Z0 (some ⟨g,0,none⟩)=Z1:=⟨_,rfl⟩;rw[hZ1]at hA hB2;have hgZ:∀k,ob (some ⟨g,0,none⟩) k=true->Z1 k=true:=fun k hk=>by rw[<-hZ1];exact a0q hk
  have hgg:Z1 g=true:=hgZ g (by simp[ob]);have hZ10:Hid (∀k,k<w1.heap.size->Z1 k=true->Z0 k=true):=hid fun k hk h=>by
   rw[<-hZ1]at h;by_cases h0:Z0 k=true
   ·exact h0
   ·have:g=k:=by simpa[un,h0,ob]using h
    omega
  have hXZ:Hid (∀k,X k=true->Z1 k=true):=hid fun k hk=>by
   rw[<-hZ1,<-hZ0];exact a0p (by simp[a0i,hk])
  have hb3:Hid (∀k,ob (some ⟨b,0,none⟩) k=true->Z1 k=true):=hid fun k hk=>by
   have hk2:b=k:=by simpa[ob]using hk
   rw[<-hZ1,<-hZ0];exact a0p (a6b (by omega) (by omega))
  have hX1c:HX Z1 wc:=fun k hk=>by
   rw[<-hZ1]at hk;by_cases h0:Z0 k=true
   ·exact hX1.ext hEc k h0
   ·have:g=k:=by simpa[un,h0,ob]using hk
    omega
  have hM1:=MO.start hA 32;have hhx:Hd xo c:=by have:=hA.hd;rwa[List.length_replicate]at this
  have h0:List.replicate c ([]:List Rat)=(List.range c).map fun q=>if q<0 then List.replicate c 0 else[]:=(a6T c _ _).symm
  rw[h0]at hM1;have oxg:ob xo g=false:=by
   cases hq:ob xo g
   ·rfl
   ·have:=(a1v (hA.1 g hq)).1;rw[hgg]at this;cases this
  have oyg:ob yo g=false:=by
   cases hq:ob yo g
   ·rfl
   ·have:=(a1v (hB2.1 g hq)).1;rw[hgg]at this;cases this
  have hXy:HX (un Z1 yo) wc:=a2a hX1c fun q hq=>(hB2.block hq).2;have hfin:Hid (∀w' cs,Ext w w'->a2x (mk X w') (.agg cs) (gmM x y c n)->F (.returned (.tuple #[.agg cs, .int .i64 0])) w'):=hid fun w' cs h1 h2=>by
   rw[<-hF'.out];exact⟨h1,_,rfl,h2⟩
  have hE03:Ext w w1:=hE.trans hE1;have hbase:w1.drew.heap.size=w1.heap.size:=rfl;rw[hbase]at hM1 hB2 hA;have hlxy:Hid (∀wr,Ext w1 wr->Le (mk X w) (mk Z1 wr)):=hid fun wr h=>by
   have h2:=b5n (Z:=Z1) (h) (X:=Z0) fun k hk hz=>hZ10.out k hk hz;exact fun A U hh=>h2 A U (hle.out w1 hE1 A U hh)
  clear h0 hA hF' hZ1 hZ0 hX0 hE0 hbase;have g1:=bg.cell 1 rfl;go_wp2_with fail
  go_loopw [28] (fun k wr=>∃(i:Nat) (hs:List Hdr),k= .int .i64 i/\i<=c/\Hid (∀q (hq:q<hs.length),i<=q->hs[q].1=none)/\MO (un Z1 yo) w1.heap.size 45 32 wr xo c hs ((List.range c).map fun q=>if q<i then List.replicate c 0 else[])/\ExtX (ob xo) wc wr/\Ext w1 wr) (fun k _=>c - (intOf k).toNat)
  case atStart=>exact⟨0,_,rfl,Nat.zero_le _,hid (fun q hq _=>by simp),hM1,ExtX.refl _,hEc⟩
  case round=>
   clear g1;obtain⟨i,hs,rfl,hi,hnil,hM,hEx,hEr⟩:=hrel;have hXr:HX (un Z1 yo) wr:=hXy.ext hEx;have hlen:=hid hM.len;have hml:Hid (((List.range c).map fun q=>if q<i then List.replicate c (0:Rat)else[]).length=c):=hid (by simp);have bgr:=bg.ext hEx oxg;by_cases hlt:i<c
   ·have hih:i<hs.length:=by rw[hlen.out,hml.out];exact hlt
    have hps:=hid (a8x c i (List.replicate c (0:Rat)) [] hlt);have hn0:=hnil.out i hih (Nat.le_refl _);have hEd:Ext wr wr.drew:=(ExtX.refl _).drew;have hMd:=hM.ext0 hEd;have hXd:=hXr.ext hEd;have hXz:=hMd.hz hXd;have bgd:=bgr.ext0 hEd;have hS:Hid (∀w',Ext wr.drew w'->w'.cell? ⟨g,1,none⟩=some (.slice xo c c)):=hid fun w' h=>(bgd.ext0 h).cell 1 rfl;have ix:∀W,(Instr.indexAt 25 (.slice xo c c) (.int .i64 (i:Int))).run Tryz.prog W= .ok (.pointer (some (adr xo i))) W:=a0z a0r xo c c .i64 i hhx (by omega) rfl;go_wp2_with fail
    refine a0L 6 (fun w'=>w'.cell? ⟨g,1,none⟩=some (.slice xo c c)) (by kernel_rfl) (by kernel_rfl) (hS.out _ (ExtX.refl _)) (fun hHeld hOnce=>?_);refine a0a hOnce (i:=0) (oi:=⟨_,_,_,_,_,_⟩) (v:=?_) rfl (by kernel_rfl) (fun _ _ _ h=>h) (by assumption) (by rfl) (fun w hSw=>?_) ?_
    rotate_left
    ·(try dsimp only at hSw)
     go_simp
     all_goals with_reducible rfl
    (try simp only[Act.put,List.setIfInBounds_toArray,List.set_cons_zero,List.set_cons_succ])
    refine a0a hOnce (i:=1) (oi:=⟨_,_,_,_,_,_⟩) (v:=?_) rfl (by kernel_rfl) (fun _ _ _ h=>h) (by assumption) (by rfl) (fun w hSw=>?_) ?_
    rotate_left
    ·(try dsimp only at hSw)
     go_simp
     all_goals with_reducible rfl
    (try simp only[Act.put,List.setIfInBounds_toArray,List.set_cons_zero,List.set_cons_succ])
    refine a0a hOnce (i:=2) (oi:=⟨_,_,_,_,_,_⟩) (v:=?_) rfl (by kernel_rfl) (fun _ _ _ h=>h) (by assumption) (by rfl) (fun w hSw=>?_) ?_
    rotate_left
    ·(try dsimp only at hSw)
     go_simp
     all_goals with_reducible rfl
    (try simp only[Act.put,List.setIfInBounds_toArray,List.set_cons_zero,List.set_cons_succ])
    refine a0a hOnce (i:=3) (oi:=⟨_,_,_,_,_,_⟩) (v:=?_) rfl (by kernel_rfl) (fun _ _ _ h=>h) (by assumption) (by rfl) (fun w hSw=>?_) ?_
    rotate_left
    ·(try dsimp only at hSw)
     go_simp
     all_goals with_reducible rfl
    (try simp only[Act.put,List.setIfInBounds_toArray,List.set_cons_zero,List.set_cons_succ])
    refine a0d (i:=4) (o:=⟨_,_,_,_,_,_⟩) (by kernel_rfl) rfl (fun K hK=>?_)
    (refine a1u (R:=QC) rfl rfl a0E QC.elem (0:Rat) (fun _=>QC.zero _) (mz (un Z1 yo) xo hs) hXz wr.drew.heap.size (Nat.le_refl _) c rfl rfl rfl (by omega) (by omega) ?_;intro a1 w2 hO2 hE2)
    refine hK.out _ _ (hS.out _ hE2) (fun hHeld=>?_);clear hK K
    (try simp only[Act.put,List.setIfInBounds_toArray,List.set_cons_zero,List.set_cons_succ])
    refine a0a hOnce (i:=5) (oi:=⟨_,_,_,_,_,_⟩) (v:=?_) rfl (by kernel_rfl) (fun _ _ _ h=>h) (by assumption) (by rfl) (fun w hSw=>?_) ?_
    rotate_left
    ·(try dsimp only at hSw)
     go_simp
     all_goals with_reducible rfl
    (try simp only[Act.put,List.setIfInBounds_toArray,List.set_cons_zero,List.set_cons_succ])
    have hO2':=hMd.outer.ext0 HdR.elem hE2;obtain⟨_,p0,f0,_⟩:=hO2'.cell HdR.one i hih;refine a0j (i:=6) (o:=⟨_,_,_,_,_,_⟩) (by kernel_rfl) rfl (by decide) (by kernel_rfl) (fun K hK=>?_);go_simp
    refine hK.out _ _ ?_;clear hK K;obtain⟨hO3,hE3⟩:=hO2'.set1 a6E HdR.elem HdR.one i hih (.slice a1 c c) (a1,c,c) rfl;have hM3:=hMd.put (l:=List.replicate c 0) hih hn0 hE2 (fun k hk=>(hO2.block hk).1) (hO2.base_le (hEr.trans hEd).size) hXd hE3 (by simpa using hO3);rw[hps.out]at hM3;have hE4:Ext w1 _:=((hEr.trans hEd).trans hE2).own hO2' (Nat.le_refl _) hE3;have hEx4:=(hEx.trans (ExtX.of (hEd.trans hE2))).trans hE3;have hnil2:Hid (∀q (hq:q<(hs.set i (a1,(List.replicate c (0:Rat)).length,c)).length),i+1<=q->(hs.set i (a1,(List.replicate c (0:Rat)).length,c))[q].1=none):=hid fun q hq hiq=>by
     rw[List.getElem_set_ne (by omega)];exact hnil.out q (by simpa using hq) (by omega)
    clear p0 f0;go_wp2_with fail
    go_roundw
    case rel=>exact⟨i+1,_,by go_num,by omega,hnil2,hM3,hEx4,hE4⟩
    case measure=>simp[intOf];omega
   ·have hir:i=c:=by omega
    subst hir;rw[a6U]at hM;have hMC:=hM.mc;rw[List.length_replicate]at hMC;have hBy:=hB2.ext QC.elem (Z:=un Z1 xo) hEx (fun q _ hq=>a0q hq) (fun _ _ h=>h);have hBs:=hBy.sl QC.elem;have h00:a2x (mk Z1 wr) (.agg #[.int .i64 0, .slice xo i i, .slice yo i i, .bool false, .slice none 0 0, .slice none 0 0]) (gmM x y i 0):=by
     rw[b1W];exact⟨_,_,_,_,_,_,_,_,_,_,_,_,_,rfl,MC.mono _ _ _ _ (a1m fun k _ hk=>a0p hk) hMC,⟨yo,i,by simp,by simp,hBs.mono QC.mono (a1m fun k _ hk=>a0p hk)⟩,QC.zero _⟩
    have hX2:HX Z1 wr:=hX1c.ext hEx;clear hM hMC hBy hBs hEx;go_wp2_with fail
    go_loopw [40] (fun k wr=>∃(j:Nat) (N:Int) (xo2:Option Addr) (xl xc:Nat) (yo2:Option Addr) (yl yc:Nat) (s:Bool) (a:Option Addr) (n' c':Nat) (d:Option Addr) (k' e:Nat),k= .int .i64 j/\j<=n/\Bx wr g #[.int .i64 N, .slice xo2 xl xc, .slice yo2 yl yc, .bool s, .slice a n' c', .slice d k' e] 83/\a2x (mk Z1 wr) (.agg #[.int .i64 N, .slice xo2 xl xc, .slice yo2 yl yc, .bool s, .slice a n' c', .slice d k' e]) (gmM x y i j)/\HX Z1 wr/\Ext w1 wr) (fun k _=>n - (intOf k).toNat)
    case atStart=>exact⟨0,_,_,_,_,_,_,_,_,_,_,_,_,_,_,rfl,Nat.zero_le _,bgr,h00,hX2,hEr⟩
    case round=>
     clear h00 hX2 bgr hEr hB2 hM1;obtain⟨j,N,xo2,xl,xc,yo2,yl,yc,s,a,n',c',d,k',e,rfl,hj,bgr,hm,hX2,hEr⟩:=hrel;have hl1:=hlxy.out wr hEr;by_cases hlj:j<n
     ·have hjx:j<x.length:=by rw[hshh.out.1];exact hlj
      have hjy:j<y.length:=by rw[hyl'.out];exact hlj
      have hus1:=hus.mono RV.mono hl1;have hts1:=hts.mono QV.mono hl1;obtain⟨rx,rcx,_,hcx,hclx,hqx⟩:=hus1.row j hjx;have hrl:=hshh.out.2 x[j] (List.getElem_mem _);rw[hrl]at hcx hclx;obtain⟨gy,oy,sy,py,ny,qy,dy,ky,ey,hgy,hXy2,hcy,hqy⟩:=hts1.rat QV.shaped j hjy;have hsu:=hid (a8G (y:=y) hshh.out hlj);rw[<-b0t hjx,show y.getD j 0=y[j]by simp[List.getD_eq_getElem?_getD,hjy]]at hsu;have hhb:=a7D hxB hB1;have hbm:BMo 5929 (gmM x y i j):=⟨a6V (a8I hhb (by omega) hB),a8J hhb hyB (by omega) hB,Nat.le_trans (a9k (B:=2*B) fun r _=>Nat.le_trans (hq_mul _ _) (by have:=b2a hyB hB1 r;omega)) (a4l (by omega) hB)⟩;have hEd:Ext wr wr.drew:=(ExtX.refl _).drew;have hX2d:=hX2.ext hEd;have hrV:RV (mk Z1 wr.drew) (.slice rx i rcx) x[j]:=mkx RV.mono ⟨rx,rcx,by rw[hrl],by rw[hrl];exact hclx,hqx⟩ hEd;have hqd:=mkx QV.mono hqy hEd;have hmd:=(mkx a2x.mono hm hEd).mv ⟨fun r hr q hq=>Nat.le_trans (hbm.1 r hr q hq) (by decide),fun q hq=>Nat.le_trans (hbm.2.1 q hq) (by decide),Nat.le_trans hbm.2.2 (by decide)⟩;have hsh:=a5J Z1 wr.drew _ _ _ (gmM x y i j) x[j] y[j] 1 i 5929 hX2d hmd hrV hqd (a1B x j i) (a5k x y j i) hrl (by omega) (by show(-1:Int)<=(j:Int);omega) (by show(j:Int)<=1099511627777;omega) (.inl rfl) hbm (fun q hq=>Nat.le_trans (hxB _ (List.getElem_mem _) q hq) (by omega)) (Nat.le_trans (hyB _ (List.getElem_mem _)) (by omega)) (by decide);rw[hsu.out]at hsh;have bgd:=bgr.ext0 hEd;have k00:=hcx.out noY wr (ExtX.refl _) rfl;have hS:Hid (∀w',Ext wr.drew w'->w'.cell? ⟨g,0,none⟩=some (.int .i64 N)/\w'.cell? ⟨g,1,none⟩=some (.slice xo2 xl xc)/\w'.cell? ⟨g,2,none⟩=some (.slice yo2 yl yc)/\w'.cell? ⟨g,3,none⟩=some (.bool s)/\w'.cell? ⟨g,4,none⟩=some (.slice a n' c')/\w'.cell? ⟨g,5,none⟩=some (.slice d k' e)/\(w'.cell? ⟨gy,oy,none⟩=some (.bool sy)/\w'.cell? ⟨gy,oy+1,none⟩=some (.slice py ny qy)/\w'.cell? ⟨gy,oy+2,none⟩=some (.slice dy ky ey))):=hid fun w' h=>by
       have p1:=bgd.ext0 h;exact⟨p1.cell 0 rfl,p1.cell 1 rfl,p1.cell 2 rfl,p1.cell 3 rfl,p1.cell 4 rfl,p1.cell 5 rfl,hcy.out noY w' (hEd.trans h) rfl⟩
      have iy:∀W,(Instr.indexAt 45 (.slice ta n tc) (.int .i64 (j:Int))).run Tryz.prog W= .ok (.pointer (some ⟨gy,oy,none⟩)) W:=by rw[<-hgy];exact a0n a0E ta n tc .i64 j hht (by omega)
      clear hcx hqx hrl hgy hcy hqy hsu hhb hbm hrV hqd hmd hm;go_wp2_with (with_reducible refine a0t a0r (by omega) (by assumption) ?_)
      refine a0L 7 (fun w'=>w'.cell? ⟨g,0,none⟩=some (.int .i64 N)/\w'.cell? ⟨g,1,none⟩=some (.slice xo2 xl xc)/\w'.cell? ⟨g,2,none⟩=some (.slice yo2 yl yc)/\w'.cell? ⟨g,3,none⟩=some (.bool s)/\w'.cell? ⟨g,4,none⟩=some (.slice a n' c')/\w'.cell? ⟨g,5,none⟩=some (.slice d k' e)/\(w'.cell? ⟨gy,oy,none⟩=some (.bool sy)/\w'.cell? ⟨gy,oy+1,none⟩=some (.slice py ny qy)/\w'.cell? ⟨gy,oy+2,none⟩=some (.slice dy ky ey))) (by kernel_rfl) (by kernel_rfl) (hS.out _ (ExtX.refl _)) (fun hHeld hOnce=>?_);refine a0a hOnce (i:=0) (oi:=⟨_,_,_,_,_,_⟩) (v:=?_) rfl (by kernel_rfl) (fun _ _ _ h=>h) (by assumption) (by rfl) (fun w hSw=>?_) ?_
      rotate_left
      ·(try dsimp only at hSw)
       go_simp
       all_goals with_reducible rfl
      (try simp only[Act.put,List.setIfInBounds_toArray,List.set_cons_zero,List.set_cons_succ])
      refine a0a hOnce (i:=1) (oi:=⟨_,_,_,_,_,_⟩) (v:=?_) rfl (by kernel_rfl) (fun _ _ _ h=>h) (by assumption) (by rfl) (fun w hSw=>?_) ?_
      rotate_left
      ·(try dsimp only at hSw)
       go_simp
       all_goals with_reducible rfl
      (try simp only[Act.put,List.setIfInBounds_toArray,List.set_cons_zero,List.set_cons_succ])
      refine a0a hOnce (i:=2) (oi:=⟨_,_,_,_,_,_⟩) (v:=?_) rfl (by kernel_rfl) (fun _ _ _ h=>h) (by assumption) (by rfl) (fun w hSw=>?_) ?_
      rotate_left
      ·(try dsimp only at hSw)
       go_simp
       all_goals with_reducible rfl
      (try simp only[Act.put,List.setIfInBounds_toArray,List.set_cons_zero,List.set_cons_succ])
      refine a0a hOnce (i:=3) (oi:=⟨_,_,_,_,_,_⟩) (v:=?_) rfl (by kernel_rfl) (fun _ _ _ h=>h) (by assumption) (by rfl) (fun w hSw=>?_) ?_
      rotate_left
      ·(try dsimp only at hSw)
       go_simp
       all_goals with_reducible rfl
      (try simp only[Act.put,List.setIfInBounds_toArray,List.set_cons_zero,List.set_cons_succ])
      refine a0a hOnce (i:=4) (oi:=⟨_,_,_,_,_,_⟩) (v:=?_) rfl (by kernel_rfl) (fun _ _ _ h=>h) (by assumption) (by rfl) (fun w hSw=>?_) ?_
      rotate_left
      ·(try dsimp only at hSw)
       go_simp
       all_goals with_reducible rfl
      (try simp only[Act.put,List.setIfInBounds_toArray,List.set_cons_zero,List.set_cons_succ])
      refine a0a hOnce (i:=5) (oi:=⟨_,_,_,_,_,_⟩) (v:=?_) rfl (by kernel_rfl) (fun _ _ _ h=>h) (by assumption) (by rfl) (fun w hSw=>?_) ?_
      rotate_left
      ·(try dsimp only at hSw)
       go_simp
       all_goals with_reducible rfl
      (try simp only[Act.put,List.setIfInBounds_toArray,List.set_cons_zero,List.set_cons_succ])
      refine a0d (i:=6) (o:=⟨_,_,_,_,_,_⟩) (by kernel_rfl) rfl (fun K hK=>?_);go_simp
      (go_at_call 128;(with_reducible refine hsh.mono ?_);rintro ee w6 ⟨t1,u6,rfl,hu6⟩)
      refine hK.out _ _ (hS.out w6 t1) (fun hHeld=>?_);clear hK K
      (try simp only[Act.put,List.setIfInBounds_toArray,List.set_cons_zero,List.set_cons_succ])
      obtain⟨xo6,xl6,xc6,yo6,yl6,yc6,s6,a6,n6,c6,d6,k6,e6,rfl,hm1,hm2,hm3⟩:=hu6;have bg6:=bgd.ext0 t1;refine a0j (i:=7) (o:=⟨_,_,_,_,_,_⟩) (by kernel_rfl) rfl (by decide) (by kernel_rfl) (fun K hK=>?_)
      (refine a0B rfl rfl a1I rfl rfl bg6 rfl rfl (by intro v hv;simp at hv;rcases hv with rfl|rfl|rfl|rfl|rfl|rfl<;>rfl) ?_;intro w9 y1 y2)
      refine hK.out _ _ ?_;clear hK K
      (try simp only[Act.put])
      have hm9:a2x (mk Z1 w9) _ (gmM x y i (j+1)):=a2x.mono _ _ _ _ (a0O y2 hgZ) ⟨xo6,xl6,xc6,yo6,yl6,yc6,s6,a6,n6,c6,d6,k6,e6,rfl,hm1,hm2,hm3⟩;have hE9:Ext w1 w9:=ExtX.box (hEr.trans (hEd.trans t1)) y2 hgw;have hX9:HX Z1 w9:=fun q hq=>Nat.lt_of_lt_of_le (hX2 q hq) (Nat.le_trans (hEd.trans t1).size y2.size);clear k00 iy;go_wp2_with fail
      go_roundw
      case rel=>exact⟨j+1,_,_,_,_,_,_,_,_,_,_,_,_,_,_,by go_num,by omega,y1,hm9,hX9,hE9⟩
      case measure=>simp[intOf];omega
     ·have hjn:n=j:=by omega
      subst hjn;have q0:=bgr.cell 0 rfl;have q1:=bgr.cell 1 rfl;have q2:=bgr.cell 2 rfl;have q3:=bgr.cell 3 rfl;have q4:=bgr.cell 4 rfl;have q5:=bgr.cell 5 rfl;have br:=b0.ext0 (hE1.trans hEr);clear bgr;go_wp2_with ((with_reducible show wpList _ _ _ (⟨_, .store 83 _ _,_,_,_,_⟩::_) _ _);refine a0c a1I rfl rfl br rfl rfl (by intro v hv;simp at hv;rcases hv with rfl|rfl|rfl|rfl|rfl|rfl<;>rfl) ?_;intro w7 r1 r2)
      have hE7:Ext w w7:=ExtX.box (hE03.trans hEr) r2 (by omega);exact bodyPost_ret (a0P rfl rfl a1I r1 rfl) rfl (hfin.out w7 _ hE7 (a2x.mono _ _ _ _ (a4v r2 hb3.out hXZ.out) hm))
end Go.Proofs.YtkddecjkfdogiaaGreat
namespace Go.Lin
def a3b (m:Mom):Bool:=decide (0<=m.n/\m.n<=1099511627776)&&(a0x m.xx&&decide (m.xx.length=colsL m.xx/\m.xx.length=m.xy.length/\m.xy.length<=12))
def a7j (l:Mat) (k:Nat):Bool:=l.any fun r=>decide (r.length≠k)
theorem a9m {l:Mat} (h:a0x l=true):a7j l l.length=false↔l.length=colsL l:=by
 obtain⟨hs,_,_,_,hz⟩:=a0K h;unfold a7j;rw[List.any_eq_false];constructor
 ·intro h1
  by_cases h0:l.length=0
  ·rw[h0,hz h0]
  ·have:=h1 l[0] (List.getElem_mem (by omega))
   rw[hs.2 _ (List.getElem_mem _)]at this;have h2:colsL l=l.length:=by simpa using this
   exact h2.symm
 ·intro h1 r hr
  rw[hs.2 r hr];simp[h1.symm]
def IxF (l:Mat) (k:Nat) (r:Int):Prop:=decide ((0:Int)<=r)=a7j l k
end Go.Lin
namespace Go.Proofs.YtkddecjkfdogiaaGreat
open Go.RowKit Go.Rep Go.Lim Go.Lin
theorem b2d (w:World) (a:Option Addr) (n c k b:Nat) (xo:Option Addr) (xc:Nat) (hb:w.cell? ⟨b,1,none⟩=some (.slice xo k xc)):
  Calls Tryz.prog 195 #[.slice a n c, .pointer (some ⟨b,0,none⟩)] w (fun e w'=>w'=w/\e= .returned (.bool (decide (n≠k)))):=by
 by_cases h:n=k
 ·have hd:((n:Int) !=(k:Int))=false:=a8S (by omega)
  have hr:=hid (decide_eq_false (fun h2=>h2 h):decide (n≠k)=false);rw[hr.out];clear h;go_enter Tryz.func195,Tryz.ntmps195
  go_wp2_with fail
  go_ret
  exact⟨rfl,rfl⟩
 ·have hd:((n:Int) !=(k:Int))=true:=a7p (by omega)
  have hr:=hid (decide_eq_true h:decide (n≠k)=true);rw[hr.out];clear h;go_enter Tryz.func195,Tryz.ntmps195
  go_wp2_with fail
  go_ret
  exact⟨rfl,rfl⟩
set_option maxRecDepth 100000 in
theorem a9n {R:Mem->Value->Rat->Prop} (X:Nat->Bool) (w:World) (a:Option Addr) (l:List (List Rat)) (n c k b:Nat) (xo:Option Addr) (xc:Nat) (hs:Sl (SlV R 3) 1 (mk X w) a l) (hl:l.length=n) (hn:n<=1000000) (hb:w.cell? ⟨b,1,none⟩=some (.slice xo k xc)):
  Calls Tryz.prog 243 #[.slice a n c, .func (.func 195) #[] #[.pointer (some ⟨b,0,none⟩)]] w (fun e w'=>w'=w/\∃r:Int,e= .returned (.int .i64 r)/\IxF l k r):=by
 have hh:Hd a n:=by have:=hs.hd;rw[hl]at this;exact this
 have hl':=hid hl;clear hl;go_enter Tryz.func243,Tryz.ntmps243
 go_wp2_with fail
 go_loopw [8] (fun q wr=>∃(i:Nat),q= .int .i64 i/\i<=n/\Hid (∀q (hq:q<l.length),q<i->l[q].length=k)/\wr=w) (fun q _=>n - (intOf q).toNat)
 case atStart=>exact⟨0,rfl,Nat.zero_le _,hid (fun q hq h=>by omega),rfl⟩
 case round=>
  obtain⟨i,rfl,hi,hok,rfl⟩:=hrel;by_cases hlt:i<n
  ·have hil:i<l.length:=by rw[hl'.out];exact hlt
   obtain⟨a1,c1,hX1,hc1,hcl1,hq1⟩:=hs.row i hil;have k00:=hc1.out noY wr (ExtX.refl _) rfl;have hcall:=b2d wr a1 l[i].length c1 k b xo xc hb;by_cases h0:l[i].length=k
   ·have hd:Hid (decide (l[i].length≠k)=false):=hid (decide_eq_false (fun h=>h h0))
    rw[hd.out]at hcall;have hok2:Hid (∀q (hq:q<l.length),q<i+1->l[q].length=k):=hid fun q hq hqi=>by
     by_cases e:q=i
     ·subst e;exact h0
     ·exact hok.out q hq (by omega)
    obtain⟨y,hy⟩:∃y,l[i].length=y:=⟨_,rfl⟩;rw[hy]at k00 hcall;clear h0 hc1 hq1 hcl1 hy;go_wp2_with (with_reducible refine a0t a0r (by omega) (by assumption) ?_)
    refine hcall.mono ?_;rintro e w5 ⟨rfl,rfl⟩;clear k00;go_wp2_with fail
    go_roundw
    case rel=>exact⟨i+1,by go_num,by omega,hok2,trivial⟩
    case measure=>simp[intOf];omega
   ·have hd:Hid (decide (l[i].length≠k)=true):=hid (decide_eq_true h0)
    rw[hd.out]at hcall;have hf:IxF l k (i:Int):=by
     unfold IxF a7j;rw[decide_eq_true (by omega)];symm;rw[List.any_eq_true];exact⟨l[i],List.getElem_mem _,by simpa using h0⟩
    obtain⟨y,hy⟩:∃y,l[i].length=y:=⟨_,rfl⟩;rw[hy]at k00 hcall;clear h0 hc1 hq1 hcl1 hy;go_wp2_with (with_reducible refine a0t a0r (by omega) (by assumption) ?_)
    refine hcall.mono ?_;rintro e w5 ⟨rfl,rfl⟩;clear k00;go_wp2_with fail
    go_ret
    exact⟨rfl,_,rfl,hf⟩
  ·have hf:IxF l k (-1):=by
    unfold IxF a7j;rw[decide_eq_false (by omega)];symm;rw[List.any_eq_false];intro r hr;obtain⟨q,hq,rfl⟩:=List.getElem_of_mem hr;simp[hok.out q hq (by rw[hl'.out]at hq;omega)]
   go_wp2_with fail
   go_ret
   exact⟨rfl,_,rfl,hf⟩
set_option maxRecDepth 100000 in
theorem a6p {R:Mem->Value->Rat->Prop} (X:Nat->Bool) (w:World) (a:Option Addr) (l:List (List Rat)) (n c k b:Nat) (xo:Option Addr) (xc:Nat) (hs:Sl (SlV R 3) 1 (mk X w) a l) (hl:l.length=n) (hn:n<=1000000) (hb:w.cell? ⟨b,1,none⟩=some (.slice xo k xc)):
  Calls Tryz.prog 194 #[.slice a n c, .func (.func 195) #[] #[.pointer (some ⟨b,0,none⟩)]] w (fun e w'=>w'=w/\e= .returned (.bool (a7j l k))):=by
 have h0:=a9n X w a l n c k b xo xc hs hl hn hb;unfold IxF at h0;obtain⟨q,hq⟩:∃q,a7j l k=q:=⟨_,rfl⟩;rw[hq]at h0 |-;clear hq;go_enter Tryz.func194,Tryz.ntmps194
 go_wp2_with fail
 refine h0.mono ?_;rintro e w1 ⟨rfl,r,rfl,hr0⟩;have hr:=hid hr0.symm;clear h0 hr0;go_wp2_with fail
 go_ret
 exact⟨rfl,a0l hr.out.symm⟩
set_option maxRecDepth 100000 in
set_option maxHeartbeats 1600000 in
theorem a5l (X:Nat->Bool) (w:World) (u:Value) (m:Mom) (hX:HX X w) (hu:b0W (mk X w) u m) (hl:m.xx.length<=1000000):
  Calls Tryz.prog 129 #[u] w (a9V w (a3b m)):=by
 obtain⟨xo,xl,xc,yo,yl,yc,s,a,n,c,d,k,e,rfl,hx,hy,hq⟩:=hu;obtain⟨W,hW,hE,b0,hz⟩:=a1L w #[.int .i64 m.n, .slice xo xl xc, .slice yo yl yc, .bool s, .slice a n c, .slice d k e] 83;have hXW:HX X W:=hX.ext hE;have hxW:=mkx MV.mono hx hE;have hval:Hid (∀b,b=(decide (0<=m.n/\m.n<=1099511627776)&&(a0x m.xx&&decide (m.xx.length=colsL m.xx/\m.xx.length=m.xy.length/\m.xy.length<=12)))->b=a3b m):=hid fun b h=>h;obtain⟨xo',xc',he,hxc,hxs⟩:=hxW;simp only[Value.slice.injEq]at he;obtain⟨rfl,rfl,rfl⟩:=he;obtain⟨yo',yc',he,hyc,hys⟩:=hy;simp only[Value.slice.injEq]at he;obtain⟨rfl,rfl,rfl⟩:=he;have hxW:MV (mk X W) (.slice xo m.xx.length xc) m.xx:=⟨xo,xc,rfl,hxc,hxs⟩;obtain⟨b,hb⟩:∃b,w.heap.size=b:=⟨_,rfl⟩;rw[hb]at b0 hz;obtain⟨N,hN⟩:∃N,m.n=N:=⟨_,rfl⟩;obtain⟨M,hM⟩:∃M,a3b m=M:=⟨_,rfl⟩;rw[hN]at b0 hval hW |-;rw[hM]at hval |-;obtain⟨x,hxe⟩:∃x,m.xx=x:=⟨_,rfl⟩;rw[hxe]at b0 hval hW hxW hxs hl |-;obtain⟨L,hL⟩:∃L,m.xy.length=L:=⟨_,rfl⟩;rw[hL]at b0 hval hW |-;obtain⟨q,hqe⟩:∃q,x.length=q:=⟨_,rfl⟩;have hq':=hid hqe;have hcn:=hid fun w' (h:Ext W w')=>a6p (R:=QV) X w' xo x q xc q b xo xc (hxs.mono RV.mono (a0o h)) hqe (by omega) ((b0.ext0 h).cell 1 (by rw[hqe];rfl));have htr:=a2e X W (.slice xo x.length xc) x q (colsL x) hXW hxW;have htn:=a4J X W (.slice xo x.length xc) x hxW (by omega);have hac:=hid fun(h:a0x x=true)=>a9m h;rw[hqe]at b0 hval hW htr htn hl hac |-;obtain⟨B,hB⟩:∃B,a7j x q=B:=⟨_,rfl⟩;rw[hB]at hcn hac;obtain⟨C,hC⟩:∃C,colsL x=C:=⟨_,rfl⟩;rw[hC]at htr hval hac;clear hx hN hM hxe hL hqe hB hC hxs hxW hys hyc hxc hq;have k0:=b0.cell 0 rfl;have k1:=b0.cell 1 rfl;have k2:=b0.cell 2 rfl;cases hf:a0x x
 ·have htn2:=htn hf
  clear htr htn hcn hac;by_cases hn0:0<=N
  ·by_cases hn1:N<=1099511627776
   ·have hr:=hid (hval.out false (by rw[hf,Bool.false_and,Bool.and_false]))
    clear hval hf;go_enter Tryz.func129,Tryz.ntmps129
    go_wp2_with fail
    refine htn2.mono ?_;rintro e w1 ⟨rfl,rfl⟩;have hE1:Ext w w1:=hE;go_wp2_with fail
    go_ret
    exact⟨hE1,a0l hr.out⟩
   ·have hr:=hid (hval.out false (by rw[hf,Bool.false_and,Bool.and_false]))
    clear hval hf;go_enter Tryz.func129,Tryz.ntmps129
    go_wp2_with fail
    refine htn2.mono ?_;rintro e w1 ⟨rfl,rfl⟩;have hE1:Ext w w1:=hE;go_wp2_with fail
    go_ret
    exact⟨hE1,a0l hr.out⟩
  ·have hr:=hid (hval.out false (by rw[hf,Bool.false_and,Bool.and_false]))
   clear hval hf;go_enter Tryz.func129,Tryz.ntmps129
   go_wp2_with fail
   refine htn2.mono ?_;rintro e w1 ⟨rfl,rfl⟩;have hE1:Ext w w1:=hE;go_wp2_with fail
   go_ret
   exact⟨hE1,a0l hr.out⟩
 ·have htr2:=htr hf rfl rfl
  have hac2:=hac.out hf;clear htr hac;by_cases hlen:q=L
  ·cases B
   ·have hyes:=hac2.1 rfl
    clear hac2;by_cases hn0:0<=N
    ·by_cases hn1:N<=1099511627776
     ·by_cases hL12:L<=12
      ·have hr:=hid (hval.out true (by rw[hf,decide_eq_true ⟨hn0,hn1⟩,decide_eq_true ⟨hyes,hlen,hL12⟩];rfl))
       have hlt:((q:Int)==(L:Int))=true:=a7n (by omega);have hL2:(L:Int)<=12:=by omega
       clear hval hf htn hlen hyes;go_enter Tryz.func129,Tryz.ntmps129
       go_wp2_with fail
       refine htr2.mono ?_;rintro e w1 ⟨hE1',tv,rfl,_⟩;have hE1:Ext w w1:=hE.trans hE1';have b1:=b0.ext0 hE1';have j0:=b1.cell 0 rfl;have j1:=b1.cell 1 rfl;have j2:=b1.cell 2 rfl;have hc1:=hcn.out w1 hE1';go_wp2_with fail
       refine hc1.mono ?_;rintro e w2 ⟨rfl,rfl⟩;go_wp2_with fail
       go_ret
       exact⟨hE1,a0l hr.out⟩
      ·have hr:=hid (hval.out false (by rw[show decide (q=C/\q=L/\L<=12)=false from decide_eq_false (fun h=>hL12 h.2.2),Bool.and_false,Bool.and_false]))
       have hlt:((q:Int)==(L:Int))=true:=a7n (by omega);have hL2:¬(L:Int)<=12:=by omega
       clear hval hf htn hlen hyes;go_enter Tryz.func129,Tryz.ntmps129
       go_wp2_with fail
       refine htr2.mono ?_;rintro e w1 ⟨hE1',tv,rfl,_⟩;have hE1:Ext w w1:=hE.trans hE1';have b1:=b0.ext0 hE1';have j0:=b1.cell 0 rfl;have j1:=b1.cell 1 rfl;have j2:=b1.cell 2 rfl;have hc1:=hcn.out w1 hE1';go_wp2_with fail
       refine hc1.mono ?_;rintro e w2 ⟨rfl,rfl⟩;go_wp2_with fail
       go_ret
       exact⟨hE1,a0l (by rw[decide_eq_false (by omega)];exact hr.out)⟩
     ·have hr:=hid (hval.out false (by rw[decide_eq_false (fun h=>hn1 h.2),Bool.false_and]))
      have hlt:((q:Int)==(L:Int))=true:=a7n (by omega);clear hval hf htn hlen hyes;go_enter Tryz.func129,Tryz.ntmps129
      go_wp2_with fail
      refine htr2.mono ?_;rintro e w1 ⟨hE1',tv,rfl,_⟩;have hE1:Ext w w1:=hE.trans hE1';have b1:=b0.ext0 hE1';have j0:=b1.cell 0 rfl;have j1:=b1.cell 1 rfl;have j2:=b1.cell 2 rfl;have hc1:=hcn.out w1 hE1';go_wp2_with fail
      refine hc1.mono ?_;rintro e w2 ⟨rfl,rfl⟩;go_wp2_with fail
      go_ret
      exact⟨hE1,a0l hr.out⟩
    ·have hr:=hid (hval.out false (by rw[decide_eq_false (fun h=>hn0 h.1),Bool.false_and]))
     have hlt:((q:Int)==(L:Int))=true:=a7n (by omega);clear hval hf htn hlen hyes;go_enter Tryz.func129,Tryz.ntmps129
     go_wp2_with fail
     refine htr2.mono ?_;rintro e w1 ⟨hE1',tv,rfl,_⟩;have hE1:Ext w w1:=hE.trans hE1';have b1:=b0.ext0 hE1';have j0:=b1.cell 0 rfl;have j1:=b1.cell 1 rfl;have j2:=b1.cell 2 rfl;have hc1:=hcn.out w1 hE1';go_wp2_with fail
     refine hc1.mono ?_;rintro e w2 ⟨rfl,rfl⟩;go_wp2_with fail
     go_ret
     exact⟨hE1,a0l hr.out⟩
   ·have hno:¬q=C:=fun h=>by have:=hac2.2 h;cases this
    clear hac2;by_cases hn0:0<=N
    ·by_cases hn1:N<=1099511627776
     ·have hr:=hid (hval.out false (by rw[show decide (q=C/\q=L/\L<=12)=false from decide_eq_false (fun h=>hno h.1),Bool.and_false,Bool.and_false]))
      have hlt:((q:Int)==(L:Int))=true:=a7n (by omega);clear hval hf htn hlen hno;go_enter Tryz.func129,Tryz.ntmps129
      go_wp2_with fail
      refine htr2.mono ?_;rintro e w1 ⟨hE1',tv,rfl,_⟩;have hE1:Ext w w1:=hE.trans hE1';have b1:=b0.ext0 hE1';have j0:=b1.cell 0 rfl;have j1:=b1.cell 1 rfl;have j2:=b1.cell 2 rfl;have hc1:=hcn.out w1 hE1';go_wp2_with fail
      refine hc1.mono ?_;rintro e w2 ⟨rfl,rfl⟩;go_wp2_with fail
      go_ret
      exact⟨hE1,a0l hr.out⟩
     ·have hr:=hid (hval.out false (by rw[show decide (q=C/\q=L/\L<=12)=false from decide_eq_false (fun h=>hno h.1),Bool.and_false,Bool.and_false]))
      have hlt:((q:Int)==(L:Int))=true:=a7n (by omega);clear hval hf htn hlen hno;go_enter Tryz.func129,Tryz.ntmps129
      go_wp2_with fail
      refine htr2.mono ?_;rintro e w1 ⟨hE1',tv,rfl,_⟩;have hE1:Ext w w1:=hE.trans hE1';have b1:=b0.ext0 hE1';have j0:=b1.cell 0 rfl;have j1:=b1.cell 1 rfl;have j2:=b1.cell 2 rfl;have hc1:=hcn.out w1 hE1';go_wp2_with fail
      refine hc1.mono ?_;rintro e w2 ⟨rfl,rfl⟩;go_wp2_with fail
      go_ret
      exact⟨hE1,a0l hr.out⟩
    ·have hr:=hid (hval.out false (by rw[show decide (q=C/\q=L/\L<=12)=false from decide_eq_false (fun h=>hno h.1),Bool.and_false,Bool.and_false]))
     have hlt:((q:Int)==(L:Int))=true:=a7n (by omega);clear hval hf htn hlen hno;go_enter Tryz.func129,Tryz.ntmps129
     go_wp2_with fail
     refine htr2.mono ?_;rintro e w1 ⟨hE1',tv,rfl,_⟩;have hE1:Ext w w1:=hE.trans hE1';have b1:=b0.ext0 hE1';have j0:=b1.cell 0 rfl;have j1:=b1.cell 1 rfl;have j2:=b1.cell 2 rfl;have hc1:=hcn.out w1 hE1';go_wp2_with fail
     refine hc1.mono ?_;rintro e w2 ⟨rfl,rfl⟩;go_wp2_with fail
     go_ret
     exact⟨hE1,a0l hr.out⟩
  ·clear hcn hac2
   by_cases hn0:0<=N
   ·by_cases hn1:N<=1099511627776
    ·have hr:=hid (hval.out false (by rw[show decide (q=C/\q=L/\L<=12)=false from decide_eq_false (fun h=>hlen h.2.1),Bool.and_false,Bool.and_false]))
     have hlt:((q:Int)==(L:Int))=false:=a3E (by omega);clear hval hf htn hlen;go_enter Tryz.func129,Tryz.ntmps129
     go_wp2_with fail
     refine htr2.mono ?_;rintro e w1 ⟨hE1',tv,rfl,_⟩;have hE1:Ext w w1:=hE.trans hE1';have b1:=b0.ext0 hE1';have j0:=b1.cell 0 rfl;have j1:=b1.cell 1 rfl;have j2:=b1.cell 2 rfl;go_wp2_with fail
     go_ret
     exact⟨hE1,a0l hr.out⟩
    ·have hr:=hid (hval.out false (by rw[show decide (q=C/\q=L/\L<=12)=false from decide_eq_false (fun h=>hlen h.2.1),Bool.and_false,Bool.and_false]))
     have hlt:((q:Int)==(L:Int))=false:=a3E (by omega);clear hval hf htn hlen;go_enter Tryz.func129,Tryz.ntmps129
     go_wp2_with fail
     refine htr2.mono ?_;rintro e w1 ⟨hE1',tv,rfl,_⟩;have hE1:Ext w w1:=hE.trans hE1';have b1:=b0.ext0 hE1';have j0:=b1.cell 0 rfl;have j1:=b1.cell 1 rfl;have j2:=b1.cell 2 rfl;go_wp2_with fail
     go_ret
     exact⟨hE1,a0l hr.out⟩
   ·have hr:=hid (hval.out false (by rw[show decide (q=C/\q=L/\L<=12)=false from decide_eq_false (fun h=>hlen h.2.1),Bool.and_false,Bool.and_false]))
    have hlt:((q:Int)==(L:Int))=false:=a3E (by omega);clear hval hf htn hlen;go_enter Tryz.func129,Tryz.ntmps129
    go_wp2_with fail
    refine htr2.mono ?_;rintro e w1 ⟨hE1',tv,rfl,_⟩;have hE1:Ext w w1:=hE.trans hE1';have b1:=b0.ext0 hE1';have j0:=b1.cell 0 rfl;have j1:=b1.cell 1 rfl;have j2:=b1.cell 2 rfl;go_wp2_with fail
    go_ret
    exact⟨hE1,a0l hr.out⟩
set_option maxRecDepth 100000 in
set_option maxHeartbeats 1600000 in
theorem a4S (X:Nat->Bool) (w:World) (u v:Value) (l m:List Rat) (hX:HX X w) (hu:RV (mk X w) u l) (hv:RV (mk X w) v m) (hn:l.length<=1000000) (hml:m.length=l.length) (hb1:∀k,k<=l.length->hq (a4P l m k)<=68719476736) (hb2:∀k,k<l.length->hq (l.getD k 0*m.getD k 0)<=68719476736):
  Calls Tryz.prog 112 #[u,v] w (a2w X w QC (a3q l m)):=by
 obtain⟨ao,ca,rfl,hca,hsa⟩:=hu;obtain⟨bo,cb,rfl,hcb,hsb⟩:=hv;have hha:=hsa.hd;have hhb:=hsb.hd;obtain⟨W,hW,hE,b0,b1,hz⟩:=a1Y w #[.bool false, .slice none 0 0, .slice none 0 0] #[.bool false, .slice none 0 0, .slice none 0 0] 32 32;have hXW:HX (a0i X w.heap.size 2) W:=hX.boxes hz;have h0:QC (mk (a0i X w.heap.size 2) W) (.agg #[.bool false, .slice none 0 0, .slice none 0 0]) (a4P l m 0):=QC.zero _;obtain⟨n,hln⟩:∃n,l.length=n:=⟨_,rfl⟩;rw[hln]at hn hml hb1 hb2 hca hha |-;rw[hml]at hcb hhb |-;have hln':=hid hln;have hml':=hid hml;have hb1':=hid hb1;have hb2':=hid hb2;have hdot:Hid (a4P l m n=a3q l m):=hid (by unfold a3q;rw[hln]);clear hln hml hb1 hb2;go_enter Tryz.func112,Tryz.ntmps112
 go_wp2_with fail
 obtain⟨b,hb⟩:∃b,w.heap.size=b:=⟨_,rfl⟩;have hle:Hid (∀wr,Ext w wr->Le (mk X w) (mk (a0i X b 2) wr)):=hid fun wr h=>by rw[<-hb];exact a0s h
 have hbw:w.heap.size<=b:=by omega
 rw[hb]at b0 b1 hXW h0 |-;clear hW;go_loopw [10] (fun k wr=>∃(i:Nat) (s:Bool) (a:Option Addr) (n' c':Nat) (d:Option Addr) (kk e:Nat),k= .int .i64 i/\i<=n/\Bx wr b #[.bool false, .slice none 0 0, .slice none 0 0] 32/\Bx wr (b+1) #[.bool s, .slice a n' c', .slice d kk e] 32/\QC (mk (a0i X b 2) wr) (.agg #[.bool s, .slice a n' c', .slice d kk e]) (a4P l m i)/\HX (a0i X b 2) wr/\Ext w wr) (fun k _=>n - (intOf k).toNat)
 case atStart=>exact⟨0,_,_,_,_,_,_,_,rfl,Nat.zero_le _,b0,b1,h0,hXW,hE⟩
 case round=>
  obtain⟨i,s,a,n',c',d,kk,e,rfl,hi,b0,b1,hq,hXr,hEr⟩:=hrel;by_cases hlt:i<n
  ·have hil:i<l.length:=by rw[hln'.out];exact hlt
   have him:i<m.length:=by rw[hml'.out];exact hlt
   have hsr:=hsa.mono QV.mono (hle.out wr hEr);have hsr2:=hsb.mono QV.mono (hle.out wr hEr);obtain⟨g2,o2,s2,p2,n2,q2,d2,k2,e2,hg2,hX2,hc2,hq2⟩:=hsr2.rat QV.shaped i him;have gl:Hid (l.getD i 0=l[i]):=hid (by simp[List.getD_eq_getElem?_getD,hil]);have gm:Hid (m.getD i 0=m[i]):=hid (by simp[List.getD_eq_getElem?_getD,him]);have hst:Hid (a4P l m i+l[i]*m[i]=a4P l m (i+1)):=hid (by rw[<-gl.out,<-gm.out];rfl);have hbo:=hid (hb1'.out i hi);have hbp:=hid (hb2'.out i hlt);rw[gl.out,gm.out]at hbp;obtain⟨x,hx⟩:∃x,l[i]=x:=⟨_,rfl⟩;obtain⟨y,hy⟩:∃y,m[i]=y:=⟨_,rfl⟩;rw[hx,hy]at hst hbp;rw[hy]at hq2;have hx':=hid hx;have i2:∀W,(Instr.indexAt 45 (.slice bo n cb) (.int .i64 (i:Int))).run Tryz.prog W= .ok (.pointer (some ⟨g2,o2,none⟩)) W:=by rw[<-hg2];exact a0n a0E bo n cb .i64 i hhb (by omega)
   have bx:=Bx.new wr #[.bool false, .slice none 0 0, .slice none 0 0] 32;obtain⟨D,hD⟩:∃D,a4P l m i=D:=⟨_,rfl⟩;obtain⟨D2,hD2⟩:∃D2,a4P l m (i+1)=D2:=⟨_,rfl⟩;rw[hD]at hq hst hbo;rw[hD2]at hst;have hD2':=hid hD2;clear hx hy hg2 hD hD2;go_wp2_with (first|(with_reducible refine a2r a0E (by omega) (by assumption) ?_)|((with_reducible show wpList _ _ _ (⟨_, .load 32 _,_,_,_,_⟩::_) _ _);refine a1d a0w i hsr hil rfl (by simp) QV.agg ?_;intro u5 hu5;rw[hx'.out]at hu5;obtain⟨s5,a5,n5,c5,d5,k5,e5,rfl⟩:=hu5.shape)|((with_reducible show wpList _ _ _ (⟨_, .store _ _ _,_,_,_,_⟩::_) _ _);refine a0c a0w rfl rfl bx rfl rfl (a3n _ _ _ _ _ _ _) ?_;intro w5 r1 r2))
   have hE5:Ext wr w5:=ExtX.box ((ExtX.refl wr).alloc _) r2 (Nat.le_refl _);have hEd:Ext w5 w5.drew:=(ExtX.refl w5).drew;have hE5d:=hE5.trans hEd;have b05:=b0.ext0 hE5d;have b15:=b1.ext0 hE5d;have r5:=r1.ext0 hEd;obtain⟨bw,hbw⟩:∃bw,wr.heap.size=bw:=⟨_,rfl⟩;rw[hbw]at r5;have k00:=b15.cell 0 rfl;have k01:=b15.cell 1 rfl;have k02:=b15.cell 2 rfl;have k10:=r5.cell 0 rfl;have k11:=r5.cell 1 rfl;have k12:=r5.cell 2 rfl;obtain⟨k20,k21,k22⟩:=hc2.out noY w5.drew hE5d rfl;have hXd:=hXr.ext hE5d;have hx5:QV (mk (a0i X b 2) w5.drew) (.agg #[.bool s5, .slice a5 n5 c5, .slice d5 k5 e5]) x:=mkx QV.mono hu5 hE5d;have hy5:QV (mk (a0i X b 2) w5.drew) (.agg #[.bool s2, .slice p2 n2 q2, .slice d2 k2 e2]) y:=mkx QV.mono hq2 hE5d;have hq5:QV (mk (a0i X b 2) w5.drew) (.agg #[.bool s, .slice a n' c', .slice d kk e]) D:=(mkx QC.mono hq hE5d).qv hbo.out;clear bx r1 hc2;rw[hbw];go_wp2_with fail
   go_region_with (first|(go_at_call 147;(with_reducible refine(b2I (a0i X b 2) w5.drew _ _ _ _ hXd hx5 hy5).mono ?_);rintro ee w6 ⟨t1,u6,rfl,hu6⟩;obtain⟨s6,a6,n6,c6,d6,k6,e6,rfl⟩:=hu6.shape;have hX6:=hXd.ext t1;have hq6:=mkx QV.mono hq5 t1;have hm6:=hu6.qv hbp.out;have b16:=b15.ext0 t1;have m0:=b16.cell 0 rfl;have m1:=b16.cell 1 rfl;have m2:=b16.cell 2 rfl)|(go_at_call 146;(with_reducible refine(b2H (a0i X b 2) w6 _ _ _ _ hX6 hq6 hm6).mono ?_);rintro ee w7 ⟨t7,u7,rfl,hu7⟩;obtain⟨s7,a7,n7,c7,d7,k7,e7,rfl⟩:=hu7.shape;rw[hst.out]at hu7;have b17:=b16.ext0 t7;have g0:=b17.cell 0 rfl;have g1:=b17.cell 1 rfl;have g2':=b17.cell 2 rfl;have f0:=b17.frozen 0;have f1:=b17.frozen 1;have f2:=b17.frozen 2))
   all_goals
    obtain⟨z1,z2⟩:=b17.set3 (.bool s7) (.slice a7 n7 c7) (.slice d7 k7 e7);have h8:=QC.mono _ _ _ _ (a0h (lo:=b) (nb:=2) z2 (by omega) (by omega)) hu7;have b08:=((b05.ext0 t1).ext0 t7).ext z2 (a0e (by omega));have hE8:Ext w _:=ExtX.box (hEr.trans (hE5d.trans (t1.trans t7))) z2 (by omega);have hX8:=(hX6.ext t7).ext z2;rw[<-hD2'.out]at h8;clear k00 k01 k02 k10 k11 k12 k20 k21 k22 m0 m1 m2 g0 g1 g2' f0 f1 f2 i2;go_wp2_with fail
    go_roundw
    case rel=>exact⟨i+1,_,_,_,_,_,_,_,by go_num,by omega,b08,z1,h8,hX8,hE8⟩
    case measure=>simp[intOf];omega
  ·have hin:i=n:=by omega
   subst hin;rw[hdot.out]at hq;have k00:=b1.cell 0 rfl;have k01:=b1.cell 1 rfl;have k02:=b1.cell 2 rfl;go_wp2_with ((with_reducible show wpList _ _ _ (⟨_, .store _ _ _,_,_,_,_⟩::_) _ _);refine a0c a0w rfl rfl b0 rfl rfl (a3n _ _ _ _ _ _ _) ?_;intro w7 r1 r2)
   have h7:=QC.mono _ _ _ _ a0m (QC.mono _ _ _ _ (a0h r2 (by omega) (by omega)) hq);exact bodyPost_ret (a0f rfl rfl a0w r1 rfl) rfl ⟨ExtX.box hEr r2 (by omega),_,rfl,h7⟩
theorem b3Z (X:Nat->Bool) (w:World) (u:Value) (m:List (List Rat)) (hX:HX X w) (hu:MV (mk X w) u m) (hf:a0x m=true) (hT:b3A m (colsL m)):Calls Tryz.prog 131 #[u] w (fun e w'=>Ext w w'/\e= .returned (.tuple #[.int .i64 (a6Q m (colsL m):Int), .int .i64 0])):=by
 obtain⟨hsh,h96,hc96,_,_⟩:=a0K hf;have hfo:=a1M X w u m hu (by omega);rw[hf]at hfo;have hco:=a2K X w u m m.length (colsL m) hX hu hsh rfl (by omega) (by omega);have hrv:Hid ((eN m (colsL m)).2.1.length=a6Q m (colsL m)):=hid rfl;clear hf;go_enter Tryz.func131,Tryz.ntmps131
 go_wp2_with fail
 refine hfo.mono ?_;rintro e w1 ⟨rfl,rfl⟩;go_wp2_with fail
 refine hco.mono ?_;rintro e w2 ⟨hE2,ao,cap,hs,rfl,hM2⟩;go_wp2_with fail
 refine(a5j X _ w2 ao cap m.length (colsL m) hs m (hX.ext hE2) hM2 hsh rfl (by omega) (by omega) hT).mono ?_;rintro e w3 ⟨hE3,po,pc,hs',rfl,hmb,hM3,hP3⟩;have hEf:=hM2.ext_from hE2 (Nat.le_refl _) hE3;rw[hrv.out];go_wp2_with fail
 go_ret2
 exact⟨hEf,rfl⟩
end Go.Proofs.YtkddecjkfdogiaaGreat
namespace Go.Rep
open Go.RowKit Go.Lim
section
variable {P:Program} {ops:Array Oper} {Q:Exit->Act->World->Prop} {rest:List Oper} {a:Act} {w:World}
variable {α:Type} {R:Mem->Value->α->Prop} {sz:Nat} {X:Nat->Bool} {base:Nat} {e:TypeId} {ao:Option Addr} {cap:Nat} {l:List α}
variable {d:Option Tmp} {ty:TypeId} {ps:String} {af:Array Edge}
theorem OL.run_copy {t by_:Nat} {z:Value} (T:SliceT P t e sz by_ z) (hR:Elem R sz) (h:OL R sz X base e w ao cap l) (sa:Option Addr) (ca:Nat) (us':List Value) (xs:List α) (hat:At w sa us') (hlen:us'.length=xs.length)
  (hxs:∀i (hi:i<us'.length) (hi':i<xs.length),R (mk (un X ao) w) us'[i] xs[i]) (hk:xs.length<=l.length) (h0:0<xs.length) (ty:TypeId):
  ∃w',(Builtin.copy_ #[t,t] ty #[.slice ao l.length cap, .slice sa xs.length ca]).run P w= .ok (goInt xs.length) w'/\OL R sz X base e w' ao cap (xs++l.drop xs.length)/\ExtX (ob ao) w w':=by
 obtain⟨i,hi,hz,hsz,hby⟩:=info_parts T.info;have hus':∀u∈us',u.cells.size=sz:=by
  intro v hv;obtain⟨i,hi,rfl⟩:=List.getElem_of_mem hv;exact hR.size _ _ _ (hxs i hi (by omega))
 have hone':∀u∈us',∀c∈a0g u,c.oneCell'=true:=by
  intro v hv;obtain⟨i,hi,rfl⟩:=List.getElem_of_mem hv;exact hR.one _ _ _ (hxs i hi (by omega))
 have hone2:∀v∈us'.flatMap a0g,v.oneCell'=true:=by
  intro c hc;obtain⟨v,hv,hcv⟩:=List.mem_flatMap.1 hc;exact hone' v hv c hcv
 obtain⟨sb,so,rfl⟩:=hat.1 (by omega);have hnews:∀j u,(us'.flatMap a0g)[j]? =some u->w.cell? ((⟨sb,so,none⟩:Addr).add j)=some u:=by
  intro j u hj;rw[<-a7V rfl];exact hat.2 j u hj
 have hnl:(us'.flatMap a0g).length=xs.length*sz:=by rw[a0M us' hus',hlen]
 have hform:=h.form;obtain⟨hx,us,h1,h2,h22,h3,h5⟩:=h;rcases hform with⟨rfl,rfl,rfl⟩|⟨g,cur,rfl,h6,h7,h8,h9,h10⟩
 ·simp at hk;subst hk;simp at h0
 have hfit:0+(us'.flatMap a0g).length<=cur.size:=by
  rw[Nat.zero_add,hnl,h10];exact Nat.mul_le_mul_right _ (by omega)
 have hld:=run_loadCells_list (P:=P) w ⟨sb,so,none⟩ (us'.flatMap a0g) hnews;have hst:=run_storeCells_at P g 0 e (us'.flatMap a0g) 0 cur w h7 (by simpa using hfit) hone2;have hE:ExtX (ob (some ⟨g,0,none⟩)) w (w.setRow g (cur.toList.take (0+0)++us'.flatMap a0g++cur.toList.drop (0+0+(us'.flatMap a0g).length)).toArray):=
  ⟨rfl,rfl,rfl,by simp,fun k _ hk=>setRow_other w g k _ (fun ek=>by subst ek;simp[ob]at hk)⟩
 have hmin:Nat.min xs.length l.length=xs.length:=Nat.min_eq_left hk;have hdl:∀u∈us'++us.drop xs.length,u.cells.size=sz:=by
  intro u hu;rcases List.mem_append.1 hu with hu|hu
  ·exact hus' u hu
  ·exact h2 u (List.mem_of_mem_drop hu)
 have hlen2:(us'++us.drop xs.length).length=(xs++l.drop xs.length).length:=by simp[hlen,h1]
 refine⟨_,?_,⟨hx,us'++us.drop xs.length,hlen2,hdl,?_,⟨?_, .inr ⟨g,cap,_,by simp,h6,setRow_heap w g cur _ e _ h7,by simp;omega,h9,?_,?_⟩⟩,?_⟩,hE⟩
 ·have hld2:(loadCells ⟨sb,so,none⟩ (xs.length*i.size)).run P w= .ok (us'.flatMap a0g).toArray w:=by rw[hsz,<-hnl];exact hld
  simp[Builtin.copy_,run_underlying T.und,Builtin.lenOf,Builtin.firstCells,sizeOf,typeInfo,hi,hmin,hld2,hst]
 ·intro u hu c hc
  rcases List.mem_append.1 hu with hu|hu
  ·exact hone' u hu c hc
  ·exact h22 u (List.mem_of_mem_drop hu) c hc
 ·rw[a0M _ hdl,hlen2]
 ·simp only[List.size_toArray,List.length_append,List.length_take,List.length_drop,Array.length_toList,h10,Nat.add_zero,Nat.zero_add,hnl]
  have:=Nat.mul_le_mul_right sz (show xs.length<=cap by omega);omega
 ·rcases h3.2 with⟨hv,_⟩|⟨g',c',cur',hv,_,h7',_,_,_,h11⟩
  ·simp at hv
  simp at hv;obtain⟨rfl,rfl⟩:=hv;rw[h7]at h7';obtain rfl:cur=cur':=by simpa using h7'
  have hfu:us.flatMap a0g=(us.take xs.length).flatMap a0g++(us.drop xs.length).flatMap a0g:=by
   rw[<-List.flatMap_append,List.take_append_drop]
  have hft:((us.take xs.length).flatMap a0g).length=xs.length*sz:=by
   rw[a0M _ (fun u hu=>h2 u (List.mem_of_mem_take hu))];simp[h1,Nat.min_eq_left hk]
  have hdr:(us.drop xs.length).flatMap a0g=(cur.toList.take (l.length*sz)).drop (xs.length*sz):=by
   rw[h11,hfu,<-hft,List.drop_left]
  rw[List.flatMap_append,hdr];simp only[Nat.zero_add,List.take_zero,List.nil_append,hnl,List.length_append,List.length_drop,Nat.add_sub_cancel' hk];rw[List.take_append,List.take_of_length_le (by rw[hnl];exact Nat.mul_le_mul_right _ hk),hnl,List.drop_take]
 ·intro j hj hj'
  have hle:Le (mk (un X (some ⟨g,0,none⟩)) w) (mk (un X (some ⟨g,0,none⟩)) _):=a3R hE (.inl rfl);by_cases hlt:j<us'.length
  ·simpa[List.getElem_append_left hlt,List.getElem_append_left (show j<xs.length by omega)]using hR.mono _ _ _ _ hle (hxs j hlt (by omega))
  ·have hj2:xs.length+(j - xs.length)<us.length:=by simp at hj;omega
   have:=hR.mono _ _ _ _ hle (h5 (xs.length+(j - xs.length)) hj2 (by omega));have e1:xs.length+(j - xs.length)=j:=by omega
   simpa[List.getElem_append_right (show us'.length<=j by omega),List.getElem_append_right (show xs.length<=j by omega),hlen,e1]using this
theorem a7k {t by_:Nat} {z:Value} {s x:Operand} {sa:Option Addr} {ca n k:Nat} (T:SliceT P t e sz by_ z) (hR:Elem R sz) (xs:List α) (hs:a.eval s= .slice ao n cap) (hn:l.length=n) (hx:a.eval x= .slice sa k ca) (hkx:xs.length=k) (h:OL R sz X base e w ao cap l)
  (hxs:Sl R sz (mk (un X ao) w) sa xs) (hk:k<=n) (h0:0<k)
  (K:∀w',OL R sz X base e w' ao cap (xs++l.drop k)->ExtX (ob ao) w w'->wpList P ops Q rest (a.put d (.int .i64 (k:Int))) w'):
  wpList P ops Q (⟨d, .call {callee:= .builtin .copy,args:=#[s,x],argTypes:=#[t,t]},ty,ps,af,none⟩::rest) a w:=by
 refine wpList_plain rfl fun K' hK'=>?_;subst hn;subst hkx;obtain⟨us,h1,h2,h3⟩:=hxs.at_ hR;obtain⟨w',hr,h2,h3⟩:=h.run_copy (P:=P) T hR sa ca us xs h2 h1 h3 hk h0 ty;unfold Oper.wp execOp;simp only[resolve,invoke,builtin,Sem.run_bind,Sem.run_pure,Result.andThen_ok,List.map_toArray,List.map_cons,List.map_nil,hs,hx,hr];exact hK' _ _ (K w' h2 h3)
theorem a7K {o:Oper} {K:Act->World->Prop} {E:Prop} {t by_:Nat} {z:Value} {s x:Operand} {sa:Option Addr} {ca n k:Nat} (hg:o.guard=none) (hop:o.op=Op.call {callee:=Callee.builtin Builtin.copy,args:=#[s,x],argTypes:=#[t,t]}) (T:SliceT P t e sz by_ z) (hR:Elem R sz) (xs:List α) (hs:a.eval s= .slice ao n cap) (hn:l.length=n) (hx:a.eval x= .slice sa k ca) (hkx:xs.length=k) (h:OL R sz X base e w ao cap l)
  (hxs:Sl R sz (mk (un X ao) w) sa xs) (hk:k<=n) (h0:0<k)
  (hK:∀w',OL R sz X base e w' ao cap (xs++l.drop k)->ExtX (ob ao) w w'->K (a.put o.dst (.int .i64 (k:Int))) w'):
  if Region.wanted o (yielded ops a.tmps)=true then Oper.wp P o a w K Q else E:=by
 have hw:Region.wanted o (yielded ops a.tmps)=true:=by simp[Region.wanted,hg]
 rw[if_pos hw];subst hn;subst hkx;obtain⟨us,h1,h2,h3⟩:=hxs.at_ hR;obtain⟨w',hr,h2,h3⟩:=h.run_copy (P:=P) T hR sa ca us xs h2 h1 h3 hk h0 o.type;unfold Oper.wp execOp;rw[hop];simp only[resolve,invoke,builtin,Sem.run_bind,Sem.run_pure,Result.andThen_ok,List.map_toArray,List.map_cons,List.map_nil,hs,hx,hr];exact hK _ h2 h3
end
end Go.Rep
