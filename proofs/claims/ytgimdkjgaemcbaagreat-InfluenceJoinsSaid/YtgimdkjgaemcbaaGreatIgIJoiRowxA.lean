/- Parts of a proof: each theorem states what it proves, and its conditions. -/
import Derived.Test.YtgimdkjgaemcbaaGreatIgK
namespace Go
section
variable {P : Program} {ops : Array Oper} {Q : Exit -> Act -> World -> Prop} {md : Region.Mode} {S : World -> Prop} {n : Nat}
def cntF (l : Array Bool) : Nat := l.toList.count false
def invB {T : Type} [DecidableEq T] (md : Region.Mode) (ops : Array Oper) (all : List T) (L : T -> Array Bool) (next : T -> Nat -> Option T) (fin : T -> Bool) : Bool :=
  all.all fun s => fin s || (!(Region.ready md ops (L s)).isEmpty && (Region.ready md ops (L s)).all fun i => match next s i with
    | some t => decide (t ∈ all) && decide (L t = (L s).setIfInBounds i true) && decide (cntF (L t) + 1 = cntF (L s))
    | none => false)
theorem wpOp_stepJ {i : Nat} {o : Oper} {K : Act -> World -> Prop} {a : Act} {w : World} (ho : ops[i]? = some o)
    (h : ∀ K' : Act -> World -> Prop, Shut (∀ a w, K a w -> K' a w) -> if Region.wanted o (yielded ops a.tmps) = true then Oper.wp P o a w K' Q else K' (a.put o.dst undef) w) : wpOp P ops Q i K a w := wpOp_step ho fun K' hK => h K' hK
theorem wpAnyK_inv {T : Type} [DecidableEq T] {I : T -> Act -> World -> Prop} (all : List T) (L : T -> Array Bool) (next : T -> Nat -> Option T) (fin : T -> Bool) (hc : invB md ops all L next fin = true)
    (hstep : ∀ s i t a w, s ∈ all -> next s i = some t -> I s a w -> wpOp P ops Q i (fun a' w' => S w' /\ I t a' w') a w)
    (hexit : ∀ s a w, s ∈ all -> fin s = true -> I s a w -> wpAnyK P md ops Q S n (cntF (L s)) (L s) a w) :
    ∀ (fuel : Nat) (s : T) (a : Act) (w : World), s ∈ all -> cntF (L s) = fuel -> I s a w -> wpAnyK P md ops Q S n fuel (L s) a w := by
  intro fuel
  induction fuel with
  | zero =>
    intro s a w hs hf hI
    have h := List.all_eq_true.1 hc s hs
    cases hfin : fin s
    · rw [hfin, Bool.false_or] at h
      obtain ⟨h1, h2⟩ := (Bool.and_eq_true _ _).mp h
      cases hr : Region.ready md ops (L s) with
      | nil => rw [hr] at h1; cases h1
      | cons i r =>
        have h3 := List.all_eq_true.1 h2 i (by rw [hr]; exact List.mem_cons_self)
        cases hn : next s i with
        | none => rw [hn] at h3; cases h3
        | some t =>
          rw [hn] at h3
          obtain ⟨_, h5⟩ := (Bool.and_eq_true _ _).mp h3
          have := of_decide_eq_true h5
          omega
    · have := hexit s a w hs hfin hI
      rwa [hf] at this
  | succ fuel ih =>
    intro s a w hs hf hI
    have h := List.all_eq_true.1 hc s hs
    cases hfin : fin s
    · rw [hfin, Bool.false_or] at h
      obtain ⟨h1, h2⟩ := (Bool.and_eq_true _ _).mp h
      refine ⟨fun h0 => (by rw [h0] at h1; cases h1), fun i hi => ?_⟩
      have h3 := List.all_eq_true.1 h2 i hi
      cases hn : next s i with
      | none => rw [hn] at h3; cases h3
      | some t =>
        rw [hn] at h3
        obtain ⟨h4, h5⟩ := (Bool.and_eq_true _ _).mp h3
        obtain ⟨h6, h7⟩ := (Bool.and_eq_true _ _).mp h4
        have e1 := of_decide_eq_true h5
        have e2 := of_decide_eq_true h6
        have e3 := of_decide_eq_true h7
        refine wpOp_mono (fun a' w' h => ⟨fun _ => h.1, ?_⟩) (hstep s i t a w hs hn hI)
        rw [<- e3]
        exact ih t a' w' e2 (by omega) h.2
    · have := hexit s a w hs hfin hI
      rwa [hf] at this
end
end Go
namespace Go.Lin
open Go.Lim Go.Rep
def inB (p : Pc) (z : Rat) : Bool := (p.lo.isNone || decide ((p.lo.getD 0 - z).num.sign <= 0)) && (p.hi.isNone || decide ((z - p.hi.getD 0).num.sign <= 0))
theorem sgn_le {x y : Rat} : (x - y).num.sign <= 0 ↔ x <= y := by
  constructor
  · intro h
    have h1 : (x - y).num <= 0 := by
      apply Classical.byContradiction
      intro hn
      rw [Int.sign_eq_one_of_pos (by omega)] at h
      exact absurd h (by decide)
    have h2 : x - y <= 0 := by
      have := Rat.num_nonneg (q := -(x - y))
      have h3 : 0 <= -(x - y) := this.1 (by rw [Rat.neg_num]; omega)
      grind
    grind
  · intro h
    have h0 : x - y <= 0 := by grind
    rcases Int.lt_trichotomy (x - y).num 0 with h1 | h1 | h1
    · rw [Int.sign_eq_neg_one_of_neg h1]; decide
    · rw [h1]; decide
    · have h2 : 0 <= x - y := Rat.num_nonneg.1 (by omega)
      rw [Rat.le_antisymm h0 h2] at h1
      exact absurd h1 (by decide)
theorem inB_in {p : Pc} {z : Rat} (h : inB p z = true) : inP p z := by
  unfold inB at h
  simp only [Bool.and_eq_true, Bool.or_eq_true, decide_eq_true_eq, sgn_le] at h
  refine ⟨fun v hv => ?_, fun v hv => ?_⟩
  · rcases h.1 with h1 | h1
    · rw [hv] at h1; cases h1
    · rw [hv] at h1; exact h1
  · rcases h.2 with h1 | h1
    · rw [hv] at h1; cases h1
    · rw [hv] at h1; exact h1
end Go.Lin
namespace Go.Proofs.YtgimdkjgaemcbaaGreat
open Go.RowKit Go.Rep Go.Lim Go.Lin
abbrev TJj := Bool × Bool × Bool × Bool × Bool
def allJj : List TJj := [true, false].flatMap fun b10 => ([true, false].flatMap fun b2 => [true, false].map fun b4 => (b2, b4, false, false, b10)) ++ [(true, true, true, false, b10), (true, true, true, true, b10)]
def lJj (s : TJj) : Array Bool := #[true, true, s.1, true, s.2.1, s.2.2.1, s.2.2.2.1, false, false, false, s.2.2.2.2, false, false]
def nextJj (s : TJj) (i : Nat) : Option TJj :=
  if i = 2 /\ s.1 = false then some (true, s.2) else if i = 4 /\ s.2.1 = false then some (s.1, true, s.2.2)
  else if i = 5 /\ s.2.2.1 = false /\ s.1 = true /\ s.2.1 = true then some (s.1, s.2.1, true, s.2.2.2)
  else if i = 6 /\ s.2.2.2.1 = false /\ s.2.2.1 = true then some (s.1, s.2.1, s.2.2.1, true, s.2.2.2.2)
  else if i = 10 /\ s.2.2.2.2 = false then some (s.1, s.2.1, s.2.2.1, s.2.2.2.1, true) else none
def finJj (s : TJj) : Bool := s.2.2.2.1
def fiveJ (a : Act) (v2 v4 v5 v6 v10 : Value) : Act := ((((a.put (some 136) v2).put (some 138) v4).put (some 139) v5).put (some 140) v6).put (some 12) v10
theorem allJj_five : ∀ s ∈ allJj, (s.2.2.1 = true -> s.1 = true /\ s.2.1 = true) /\ (s.2.2.2.1 = true -> s.2.2.1 = true) := by decide
theorem act_startJ {P : Program} {ops : Array Oper} {Q : Exit -> Act -> World -> Prop} {md : Region.Mode} {S : World -> Prop} {n f : Nat} {l : Array Bool} {a : Act} {w : World} (h : ∀ a0, a0 = a -> wpAnyK P md ops Q S n f l a0 w) : wpAnyK P md ops Q S n f l a w := h a rfl
def getR (k : Nat) : Code -> Option Code
  | .region id ops m => if id = k then some (.region id ops m) else none
  | .loop c => getR k c
  | .seq a b => match getR k a with
    | some c => some c
    | none => getR k b
  | .block _ c => getR k c
  | .scope c => getR k c
  | .cond _ a b => match getR k a with
    | some c => some c
    | none => getR k b
  | _ => none
def nrm (Q0 : Act -> World -> Prop) : Exit -> Act -> World -> Prop := fun e a w => match e with
  | .normal => Q0 a w
  | _ => False
theorem wp_nrm {P : Program} {c : Code} {Q : Exit -> Act -> World -> Prop} {a : Act} {w : World} (h : Code.wp P c (nrm fun a w => Q .normal a w) a w) : Code.wp P c Q a w := Code.wp_mono (fun e a w q => by cases e <;> first | exact q | exact q.elim) h
noncomputable def regJ (k : Nat) : Code := (Tryz.f4.body.bind (getR k)).getD .skip
set_option maxRecDepth 1000000 in
set_option maxHeartbeats 6400000 in
theorem joins_r10 {Q0 : Act -> World -> Prop} {c0 c1 c2 c3 c4 c5 c7 c10 c11 c12 c13 c14 c15 c16 c17 c18 c19 c20 c21 c22 c23 c24 c25 c26 c27 c28 c29 c30 c31 c32 c33 c34 c35 c36 c37 c38 c39 c40 c41 c42 c43 c44 c45 c46 c47 c48 c49 c50 c51 c52 c53 c54 c55 c56 c57 c58 c59 c60 c61 c62 c63 c64 c65 c66 c67 c68 c69 c70 c71 c72 c73 c74 c75 c76 c77 c78 c79 c80 c81 c82 c83 c84 c85 c86 c87 c88 c89 c90 c91 c92 c93 c94 c95 c96 c97 c98 c99 c100 c101 c102 c103 c104 c105 c106 c107 c108 c109 c110 c111 c112 c113 c114 c115 c116 c117 c118 c119 c120 c121 c122 c123 c124 c125 c126 c127 c128 c129 c130 c131 c132 c133 c134 c135 c136 c137 c138 c139 c140 c141 c142 c143 c144 c145 c146 c147 c148 c149 c150 c151 c152 c153 c154 c155 c156 c157 c158 c159 c160 c161 c162 c163 c164 c165 c166 c167 c168 c169 c170 c171 c172 c173 c174 c175 c176 c177 c178 c179 c180 c181 : Value} (tb : Nat) (wr w6 : World) (L : List Pc) (N i : Nat) (co : Option Addr) (cc bp : Nat) (f : Rat -> Rat) (hsr : Sl LinR 14 (mk (tbm tb) wr) co L) (hN' : Hid (L.length = N)) (hil : i < L.length) (h0 : 0 < i) (hNn : N <= 100) (hhc : Hd co N) (hchn : Hid (Chn f L none)) (hgood : Hid (∀ p ∈ L, GoodP 1000000000 p)) (hXr : HX (tbm tb) wr)
    {sq1 : Bool} {aq1 : Option Addr} {nq1 cq1 : Nat} {dq1 : Option Addr} {kq1 eq1 : Nat} {sq2 : Bool} {aq2 : Option Addr} {nq2 cq2 : Nat} {dq2 : Option Addr} {kq2 eq2 : Nat} {sq3 : Bool} {aq3 : Option Addr} {nq3 cq3 : Nat} {dq3 : Option Addr} {kq3 eq3 : Nat} {sq4 : Bool} {aq4 : Option Addr} {nq4 cq4 : Nat} {dq4 : Option Addr} {kq4 eq4 : Nat} (r1 : Bx w6 bp #[.bool sq1, .slice aq1 nq1 cq1, .slice dq1 kq1 eq1, .bool sq2, .slice aq2 nq2 cq2, .slice dq2 kq2 eq2, .bool L[i].lo.isNone, .bool L[i].hi.isNone, .bool sq3, .slice aq3 nq3 cq3, .slice dq3 kq3 eq3, .bool sq4, .slice aq4 nq4 cq4, .slice dq4 kq4 eq4] 40) (hE6 : Ext wr w6)
    (qq1 : QC (mk (tbm tb) wr) (.agg #[.bool sq1, .slice aq1 nq1 cq1, .slice dq1 kq1 eq1]) (L[i].lo.getD 0)) (qq2 : QC (mk (tbm tb) wr) (.agg #[.bool sq2, .slice aq2 nq2 cq2, .slice dq2 kq2 eq2]) (L[i].hi.getD 0)) (qq3 : QC (mk (tbm tb) wr) (.agg #[.bool sq3, .slice aq3 nq3 cq3, .slice dq3 kq3 eq3]) L[i].a) (qq4 : QC (mk (tbm tb) wr) (.agg #[.bool sq4, .slice aq4 nq4 cq4, .slice dq4 kq4 eq4]) L[i].b)
    (hQ : ∀ (u62 u63 u64 u65 u66 u67 u68 u69 u70 u71 u72 u73 u74 u75 u76 u77 u78 u79 u80 u81 u82 u83 u84 u85 u86 u87 u88 u89 u90 u91 u92 u93 u94 u95 u96 u97 u98 u99 u100 u101 u102 u103 u104 u105 u106 u107 u108 u109 u110 u111 u112 u113 u114 u115 u116 u117 u118 u119 u120 u121 u122 u123 u124 : Value) (w' : World), Ext w6 w' -> Q0 ⟨#[c0, c1, c2, c3, c4, c5, (.slice co N cc), c7, (.int .i64 (i : Int)), (.pointer (some ⟨bp, 0, none⟩)), c10, c11, c12, c13, c14, c15, c16, c17, c18, c19, c20, c21, c22, c23, c24, c25, c26, c27, c28, c29, c30, c31, c32, c33, c34, c35, c36, c37, c38, c39, c40, c41, c42, c43, c44, c45, c46, c47, c48, c49, c50, c51, c52, c53, c54, c55, c56, c57, c58, c59, c60, c61, u62, u63, u64, u65, u66, u67, u68, u69, u70, u71, u72, u73, u74, u75, u76, u77, u78, u79, u80, u81, u82, u83, u84, u85, u86, u87, u88, u89, u90, u91, u92, u93, u94, u95, u96, u97, u98, u99, u100, u101, u102, u103, u104, u105, u106, u107, u108, u109, u110, u111, u112, u113, u114, u115, u116, u117, u118, u119, u120, u121, u122, u123, u124, (.bool false), c126, c127, c128, c129, c130, c131, c132, c133, c134, c135, c136, c137, c138, c139, c140, c141, c142, c143, c144, c145, c146, c147, c148, c149, c150, c151, c152, c153, c154, c155, c156, c157, c158, c159, c160, c161, c162, c163, c164, c165, c166, c167, c168, c169, c170, c171, c172, c173, c174, c175, c176, c177, c178, c179, c180, c181], []⟩ w') :
    Code.wp Tryz.prog (regJ 10) (nrm Q0) ⟨#[c0, c1, c2, c3, c4, c5, (.slice co N cc), c7, (.int .i64 (i : Int)), (.pointer (some ⟨bp, 0, none⟩)), c10, c11, c12, c13, c14, c15, c16, c17, c18, c19, c20, c21, c22, c23, c24, c25, c26, c27, c28, c29, c30, c31, c32, c33, c34, c35, c36, c37, c38, c39, c40, c41, c42, c43, c44, c45, c46, c47, c48, c49, c50, c51, c52, c53, c54, c55, c56, c57, c58, c59, c60, c61, c62, c63, c64, c65, c66, c67, c68, c69, c70, c71, c72, c73, c74, c75, c76, c77, c78, c79, c80, c81, c82, c83, c84, c85, c86, c87, c88, c89, c90, c91, c92, c93, c94, c95, c96, c97, c98, c99, c100, c101, c102, c103, c104, c105, c106, c107, c108, c109, c110, c111, c112, c113, c114, c115, c116, c117, c118, c119, c120, c121, c122, c123, c124, c125, c126, c127, c128, c129, c130, c131, c132, c133, c134, c135, c136, c137, c138, c139, c140, c141, c142, c143, c144, c145, c146, c147, c148, c149, c150, c151, c152, c153, c154, c155, c156, c157, c158, c159, c160, c161, c162, c163, c164, c165, c166, c167, c168, c169, c170, c171, c172, c173, c174, c175, c176, c177, c178, c179, c180, c181], []⟩ w6 := by
  conv => arg 2; whnf
  have hEd : Ext w6 w6.drew := (ExtX.refl w6).drew
  have hE6d := hE6.trans hEd
  have hiN : i < N := by rw [<- hN'.out]; exact hil
  have hi1 : i - 1 < L.length := by omega
  obtain ⟨vj, hj1, hj2, hj3, hj4⟩ := chn_pair hchn.out h0 hil
  obtain ⟨gr, oR, sr1, ar1, nr1, cr1, dr1, kr1, er1, sr2, ar2, nr2, cr2, dr2, kr2, er2, sr3, ar3, nr3, cr3, dr3, kr3, er3, sr4, ar4, nr4, cr4, dr4, kr4, er4, hgr, hyr, r01, r02, r03, r04, r05, qr1, qr2, qr3, qr4⟩ := hsr.lin (i - 1) hi1
  have ewi : IntKind.i64.wrap ((i : Int) - 1) = (i : Int) - 1 := IntWalk.i64_in _ (by omega)
  have ir : ∀ W, (Instr.indexAt 30 (.slice co N cc) (.int .i64 ((i : Int) - 1))).run Tryz.prog W = .ok (.pointer (some ⟨gr, oR, none⟩)) W := by
    rw [<- hgr, show ((i : Int) - 1) = ((i - 1 : Nat) : Int) by omega]; exact run_indexAt_adr slLin co N cc .i64 (i - 1) hhc (by omega)
  have hgi := hgood.out _ (List.getElem_mem hil)
  have hgj := hgood.out _ (List.getElem_mem hi1)
  have hqv : hq vj <= 1000000000 := by have := hgi.2.2.1; rw [hj2] at this; exact this
  have hwS : w6.drew.cell? ⟨bp, 0, none⟩ = some (.bool sq1) /\ w6.drew.cell? ⟨bp, 1, none⟩ = some (.slice aq1 nq1 cq1) /\ w6.drew.cell? ⟨bp, 2, none⟩ = some (.slice dq1 kq1 eq1) /\ w6.drew.cell? ⟨bp, 3, none⟩ = some (.bool sq2) /\ w6.drew.cell? ⟨bp, 4, none⟩ = some (.slice aq2 nq2 cq2) /\ w6.drew.cell? ⟨bp, 5, none⟩ = some (.slice dq2 kq2 eq2) /\ w6.drew.cell? ⟨bp, 6, none⟩ = some (.bool false) /\ w6.drew.cell? ⟨bp, 7, none⟩ = some (.bool (L[i]).hi.isNone) /\ w6.drew.cell? ⟨bp, 8, none⟩ = some (.bool sq3) /\ w6.drew.cell? ⟨bp, 9, none⟩ = some (.slice aq3 nq3 cq3) /\ w6.drew.cell? ⟨bp, 10, none⟩ = some (.slice dq3 kq3 eq3) /\ w6.drew.cell? ⟨bp, 11, none⟩ = some (.bool sq4) /\ w6.drew.cell? ⟨bp, 12, none⟩ = some (.slice aq4 nq4 cq4) /\ w6.drew.cell? ⟨bp, 13, none⟩ = some (.slice dq4 kq4 eq4) /\ w6.drew.cell? ⟨gr, oR, none⟩ = some (.bool sr1) /\ w6.drew.cell? ⟨gr, oR + 1, none⟩ = some (.slice ar1 nr1 cr1) /\ w6.drew.cell? ⟨gr, oR + 2, none⟩ = some (.slice dr1 kr1 er1) /\ w6.drew.cell? ⟨gr, oR + 3, none⟩ = some (.bool sr2) /\ w6.drew.cell? ⟨gr, oR + 4, none⟩ = some (.slice ar2 nr2 cr2) /\ w6.drew.cell? ⟨gr, oR + 5, none⟩ = some (.slice dr2 kr2 er2) /\ w6.drew.cell? ⟨gr, oR + 6, none⟩ = some (.bool (L[i - 1]).lo.isNone) /\ w6.drew.cell? ⟨gr, oR + 7, none⟩ = some (.bool false) /\ w6.drew.cell? ⟨gr, oR + 8, none⟩ = some (.bool sr3) /\ w6.drew.cell? ⟨gr, oR + 9, none⟩ = some (.slice ar3 nr3 cr3) /\ w6.drew.cell? ⟨gr, oR + 10, none⟩ = some (.slice dr3 kr3 er3) /\ w6.drew.cell? ⟨gr, oR + 11, none⟩ = some (.bool sr4) /\ w6.drew.cell? ⟨gr, oR + 12, none⟩ = some (.slice ar4 nr4 cr4) /\ w6.drew.cell? ⟨gr, oR + 13, none⟩ = some (.slice dr4 kr4 er4) := by
    have z1 := r01.out noY w6.drew hE6d rfl
    have z2 := r02.out noY w6.drew hE6d rfl
    have z3 := r03.out noY w6.drew hE6d rfl
    have z4 := r04.out noY w6.drew hE6d rfl
    have z5 := r05.out noY w6.drew hE6d rfl
    rw [hj1] at z3
    have y6 : w6.drew.cell? ⟨bp, 6, none⟩ = some (.bool (L[i]).lo.isNone) := hEd.cell (r1.cell 6 rfl)
    rw [hj2] at y6
    exact ⟨hEd.cell (r1.cell 0 rfl), hEd.cell (r1.cell 1 rfl), hEd.cell (r1.cell 2 rfl), hEd.cell (r1.cell 3 rfl), hEd.cell (r1.cell 4 rfl), hEd.cell (r1.cell 5 rfl), y6, hEd.cell (r1.cell 7 rfl), hEd.cell (r1.cell 8 rfl), hEd.cell (r1.cell 9 rfl), hEd.cell (r1.cell 10 rfl), hEd.cell (r1.cell 11 rfl), hEd.cell (r1.cell 12 rfl), hEd.cell (r1.cell 13 rfl), z1.1, z1.2.1, z1.2.2, z2.1, z2.2.1, z2.2.2, z3.1, z3.2, z4.1, z4.2.1, z4.2.2, z5.1, z5.2.1, z5.2.2⟩
  rw [hj1] at qr2
  rw [hj2] at qq1
  have hLq : LinR (mk (tbm tb) wr) (.agg #[.bool sq1, .slice aq1 nq1 cq1, .slice dq1 kq1 eq1, .bool sq2, .slice aq2 nq2 cq2, .slice dq2 kq2 eq2, .bool false, .bool (L[i]).hi.isNone, .bool sq3, .slice aq3 nq3 cq3, .slice dq3 kq3 eq3, .bool sq4, .slice aq4 nq4 cq4, .slice dq4 kq4 eq4]) L[i] := LinR.of (by rw [hj2]; exact qq1) qq2 qq3 qq4 (by rw [hj2]; rfl) rfl
  have hLr : LinR (mk (tbm tb) wr) (.agg #[.bool sr1, .slice ar1 nr1 cr1, .slice dr1 kr1 er1, .bool sr2, .slice ar2 nr2 cr2, .slice dr2 kr2 er2, .bool (L[i - 1]).lo.isNone, .bool false, .bool sr3, .slice ar3 nr3 cr3, .slice dr3 kr3 er3, .bool sr4, .slice ar4 nr4 cr4, .slice dr4 kr4 er4]) L[i - 1] := LinR.of qr1 (by rw [hj1]; exact qr2) qr3 qr4 rfl (by rw [hj1]; rfl)
  have c22 := hid fun w' (h : Ext wr w') => (by
    have := rqsame (tbm tb) w' _ _ vj vj (mkx QC.mono qr2 h) (mkx QC.mono qq1 h) (Nat.le_trans hqv (by decide))
    rw [decide_eq_true rfl] at this; exact this : Calls Tryz.prog 18 #[.agg #[.bool sr2, .slice ar2 nr2 cr2, .slice dr2 kr2 er2], .agg #[.bool sq1, .slice aq1 nq1 cq1, .slice dq1 kq1 eq1]] w' (BOut w' true))
  have hQv := qq1.qv (Nat.le_trans hqv (by decide))
  have c33 := hid fun w' (h : Ext wr w') => iat (tbm tb) w' _ _ L[i - 1] vj (hXr.ext h) (mkx LinR.mono hLr h) (mkx QV.mono hQv h) hgj hqv
  have c37 := hid fun w' (h : Ext wr w') => iat (tbm tb) w' _ _ L[i] vj (hXr.ext h) (mkx LinR.mono hLq h) (mkx QV.mono hQv h) hgi hqv
  have hqa : hq (L[i].a + L[i].b * vj) <= 68719476736 := by
    have h1 := hq_add L[i].a (L[i].b * vj)
    have h2 := hq_mul L[i].b vj
    have h3 := hgi.1
    have h4 := hgi.2.1
    omega
  rw [hj3] at c33
  have c38 := hid fun w' u v (hu : QC (mk (tbm tb) w') u (L[i].a + L[i].b * vj)) (hv : QC (mk (tbm tb) w') v (L[i].a + L[i].b * vj)) => (by
    have := rqsame (tbm tb) w' u v _ _ hu hv hqa
    rw [decide_eq_true rfl] at this; exact this : Calls Tryz.prog 18 #[u, v] w' (BOut w' true))
  have c50 := hid fun w' (h : Ext wr w') => rqsame (tbm tb) w' _ _ L[i].a L[i - 1].a (mkx QC.mono qq3 h) (mkx QC.mono qr3 h) (Nat.le_trans hgi.1 (by decide))
  have c60 := hid fun w' (h : Ext wr w') => rqsame (tbm tb) w' _ _ L[i].b L[i - 1].b (mkx QC.mono qq4 h) (mkx QC.mono qr4 h) (Nat.le_trans hgi.2.1 (by decide))
  obtain ⟨ba, hba⟩ : ∃ ba, decide (L[i].a = L[i - 1].a) = ba := ⟨_, rfl⟩
  have hbb : ba = true -> decide (L[i].b = L[i - 1].b) = false := fun h => by
    rw [<- hba] at h
    exact decide_eq_false fun h2 => hj4 ⟨of_decide_eq_true h, h2⟩
  rw [hba] at c50
  have hbb' := hid hbb
  obtain ⟨qhi, hqhi⟩ : ∃ b, (L[i]).hi.isNone = b := ⟨_, rfl⟩
  obtain ⟨rlo, hrlo⟩ : ∃ b, (L[i - 1]).lo.isNone = b := ⟨_, rfl⟩
  rw [hqhi, hrlo] at hwS
  rw [hqhi] at c37
  rw [hrlo] at c33
  have h0i : decide ((0 : Int) < (i : Int)) = true := decide_eq_true (by omega)
  clear r01 r02 r03 r04 r05 qr1 qr2 qr3 qr4 qq1 qq2 qq3 qq4 hgr hyr hj1 hj2 hj3 hj4 hba hbb hqhi hrlo hLq hLr hQv hgi hgj r1
  refine wp_region_K 63 (fun w' => w'.cell? ⟨bp, 0, none⟩ = some (.bool sq1) /\ w'.cell? ⟨bp, 1, none⟩ = some (.slice aq1 nq1 cq1) /\ w'.cell? ⟨bp, 2, none⟩ = some (.slice dq1 kq1 eq1) /\ w'.cell? ⟨bp, 3, none⟩ = some (.bool sq2) /\ w'.cell? ⟨bp, 4, none⟩ = some (.slice aq2 nq2 cq2) /\ w'.cell? ⟨bp, 5, none⟩ = some (.slice dq2 kq2 eq2) /\ w'.cell? ⟨bp, 6, none⟩ = some (.bool false) /\ w'.cell? ⟨bp, 7, none⟩ = some (.bool qhi) /\ w'.cell? ⟨bp, 8, none⟩ = some (.bool sq3) /\ w'.cell? ⟨bp, 9, none⟩ = some (.slice aq3 nq3 cq3) /\ w'.cell? ⟨bp, 10, none⟩ = some (.slice dq3 kq3 eq3) /\ w'.cell? ⟨bp, 11, none⟩ = some (.bool sq4) /\ w'.cell? ⟨bp, 12, none⟩ = some (.slice aq4 nq4 cq4) /\ w'.cell? ⟨bp, 13, none⟩ = some (.slice dq4 kq4 eq4) /\ w'.cell? ⟨gr, oR, none⟩ = some (.bool sr1) /\ w'.cell? ⟨gr, oR + 1, none⟩ = some (.slice ar1 nr1 cr1) /\ w'.cell? ⟨gr, oR + 2, none⟩ = some (.slice dr1 kr1 er1) /\ w'.cell? ⟨gr, oR + 3, none⟩ = some (.bool sr2) /\ w'.cell? ⟨gr, oR + 4, none⟩ = some (.slice ar2 nr2 cr2) /\ w'.cell? ⟨gr, oR + 5, none⟩ = some (.slice dr2 kr2 er2) /\ w'.cell? ⟨gr, oR + 6, none⟩ = some (.bool rlo) /\ w'.cell? ⟨gr, oR + 7, none⟩ = some (.bool false) /\ w'.cell? ⟨gr, oR + 8, none⟩ = some (.bool sr3) /\ w'.cell? ⟨gr, oR + 9, none⟩ = some (.slice ar3 nr3 cr3) /\ w'.cell? ⟨gr, oR + 10, none⟩ = some (.slice dr3 kr3 er3) /\ w'.cell? ⟨gr, oR + 11, none⟩ = some (.bool sr4) /\ w'.cell? ⟨gr, oR + 12, none⟩ = some (.slice ar4 nr4 cr4) /\ w'.cell? ⟨gr, oR + 13, none⟩ = some (.slice dr4 kr4 er4)) (by kernel_rfl) (by kernel_rfl) hwS (fun hHeld hOnce => ?_)
  refine kt 0 hOnce ?_
  refine kt 1 hOnce ?_
  refine kt 2 hOnce ?_
  refine kt 3 hOnce ?_
  refine kt 4 hOnce ?_
  refine kt 5 hOnce ?_
  refine kt 6 hOnce ?_
  refine kt 7 hOnce ?_
  refine kt 8 hOnce ?_
  refine kt 9 hOnce ?_
  refine kt 10 hOnce ?_
  refine kt 11 hOnce ?_
  refine kt 12 hOnce ?_
  refine kt 13 hOnce ?_
  refine kt 14 hOnce ?_
  refine kt 15 hOnce ?_
  refine kt 16 hOnce ?_
  refine kt 17 hOnce ?_
  refine kt 18 hOnce ?_
  refine kt 19 hOnce ?_
  refine kt 20 hOnce ?_
  refine kt 21 hOnce ?_
  refine ks 22 (fun K hK => ?_)
  go_simp
  ((with_reducible refine (c22.out w6.drew hE6d).mono ?_); rintro ee wa ⟨ga, rfl⟩)
  refine kcn hK ⟨ga.cell hHeld.1, ga.cell hHeld.2.1, ga.cell hHeld.2.2.1, ga.cell hHeld.2.2.2.1, ga.cell hHeld.2.2.2.2.1, ga.cell hHeld.2.2.2.2.2.1, ga.cell hHeld.2.2.2.2.2.2.1, ga.cell hHeld.2.2.2.2.2.2.2.1, ga.cell hHeld.2.2.2.2.2.2.2.2.1, ga.cell hHeld.2.2.2.2.2.2.2.2.2.1, ga.cell hHeld.2.2.2.2.2.2.2.2.2.2.1, ga.cell hHeld.2.2.2.2.2.2.2.2.2.2.2.1, ga.cell hHeld.2.2.2.2.2.2.2.2.2.2.2.2.1, ga.cell hHeld.2.2.2.2.2.2.2.2.2.2.2.2.2.1, ga.cell hHeld.2.2.2.2.2.2.2.2.2.2.2.2.2.2.1, ga.cell hHeld.2.2.2.2.2.2.2.2.2.2.2.2.2.2.2.1, ga.cell hHeld.2.2.2.2.2.2.2.2.2.2.2.2.2.2.2.2.1, ga.cell hHeld.2.2.2.2.2.2.2.2.2.2.2.2.2.2.2.2.2.1, ga.cell hHeld.2.2.2.2.2.2.2.2.2.2.2.2.2.2.2.2.2.2.1, ga.cell hHeld.2.2.2.2.2.2.2.2.2.2.2.2.2.2.2.2.2.2.2.1, ga.cell hHeld.2.2.2.2.2.2.2.2.2.2.2.2.2.2.2.2.2.2.2.2.1, ga.cell hHeld.2.2.2.2.2.2.2.2.2.2.2.2.2.2.2.2.2.2.2.2.2.1, ga.cell hHeld.2.2.2.2.2.2.2.2.2.2.2.2.2.2.2.2.2.2.2.2.2.2.1, ga.cell hHeld.2.2.2.2.2.2.2.2.2.2.2.2.2.2.2.2.2.2.2.2.2.2.2.1, ga.cell hHeld.2.2.2.2.2.2.2.2.2.2.2.2.2.2.2.2.2.2.2.2.2.2.2.2.1, ga.cell hHeld.2.2.2.2.2.2.2.2.2.2.2.2.2.2.2.2.2.2.2.2.2.2.2.2.2.1, ga.cell hHeld.2.2.2.2.2.2.2.2.2.2.2.2.2.2.2.2.2.2.2.2.2.2.2.2.2.2.1, ga.cell hHeld.2.2.2.2.2.2.2.2.2.2.2.2.2.2.2.2.2.2.2.2.2.2.2.2.2.2.2⟩ (fun hHeld => ?_)
  clear hK K
  have eA := hE6d.trans ga
  refine kt 23 hOnce ?_
  refine kt 24 hOnce ?_
  refine kt 25 hOnce ?_
  refine kt 26 hOnce ?_
  refine kt 27 hOnce ?_
  refine kt 28 hOnce ?_
  refine kt 29 hOnce ?_
  refine kt 30 hOnce ?_
  refine kt 31 hOnce ?_
  refine kt 32 hOnce ?_
  refine kt 34 hOnce ?_
  refine kt 35 hOnce ?_
  refine kt 36 hOnce ?_
  refine ks 33 (fun K hK => ?_)
  go_simp
  ((with_reducible refine (c33.out wa eA).mono ?_); rintro ee wb ⟨gb, ub, rfl, hub⟩; obtain ⟨sx, ax, nx, cx, dx, kx, ex, rfl⟩ := hub.shape)
  refine kcn hK ⟨gb.cell hHeld.1, gb.cell hHeld.2.1, gb.cell hHeld.2.2.1, gb.cell hHeld.2.2.2.1, gb.cell hHeld.2.2.2.2.1, gb.cell hHeld.2.2.2.2.2.1, gb.cell hHeld.2.2.2.2.2.2.1, gb.cell hHeld.2.2.2.2.2.2.2.1, gb.cell hHeld.2.2.2.2.2.2.2.2.1, gb.cell hHeld.2.2.2.2.2.2.2.2.2.1, gb.cell hHeld.2.2.2.2.2.2.2.2.2.2.1, gb.cell hHeld.2.2.2.2.2.2.2.2.2.2.2.1, gb.cell hHeld.2.2.2.2.2.2.2.2.2.2.2.2.1, gb.cell hHeld.2.2.2.2.2.2.2.2.2.2.2.2.2.1, gb.cell hHeld.2.2.2.2.2.2.2.2.2.2.2.2.2.2.1, gb.cell hHeld.2.2.2.2.2.2.2.2.2.2.2.2.2.2.2.1, gb.cell hHeld.2.2.2.2.2.2.2.2.2.2.2.2.2.2.2.2.1, gb.cell hHeld.2.2.2.2.2.2.2.2.2.2.2.2.2.2.2.2.2.1, gb.cell hHeld.2.2.2.2.2.2.2.2.2.2.2.2.2.2.2.2.2.2.1, gb.cell hHeld.2.2.2.2.2.2.2.2.2.2.2.2.2.2.2.2.2.2.2.1, gb.cell hHeld.2.2.2.2.2.2.2.2.2.2.2.2.2.2.2.2.2.2.2.2.1, gb.cell hHeld.2.2.2.2.2.2.2.2.2.2.2.2.2.2.2.2.2.2.2.2.2.1, gb.cell hHeld.2.2.2.2.2.2.2.2.2.2.2.2.2.2.2.2.2.2.2.2.2.2.1, gb.cell hHeld.2.2.2.2.2.2.2.2.2.2.2.2.2.2.2.2.2.2.2.2.2.2.2.1, gb.cell hHeld.2.2.2.2.2.2.2.2.2.2.2.2.2.2.2.2.2.2.2.2.2.2.2.2.1, gb.cell hHeld.2.2.2.2.2.2.2.2.2.2.2.2.2.2.2.2.2.2.2.2.2.2.2.2.2.1, gb.cell hHeld.2.2.2.2.2.2.2.2.2.2.2.2.2.2.2.2.2.2.2.2.2.2.2.2.2.2.1, gb.cell hHeld.2.2.2.2.2.2.2.2.2.2.2.2.2.2.2.2.2.2.2.2.2.2.2.2.2.2.2⟩ (fun hHeld => ?_)
  clear hK K
  have eB := eA.trans gb
  refine ks 37 (fun K hK => ?_)
  go_simp
  ((with_reducible refine (c37.out wb eB).mono ?_); rintro ee wc ⟨gc, uc, rfl, huc⟩; obtain ⟨sy, ay, ny, cy, dy, ky, ey, rfl⟩ := huc.shape)
  refine kcn hK ⟨gc.cell hHeld.1, gc.cell hHeld.2.1, gc.cell hHeld.2.2.1, gc.cell hHeld.2.2.2.1, gc.cell hHeld.2.2.2.2.1, gc.cell hHeld.2.2.2.2.2.1, gc.cell hHeld.2.2.2.2.2.2.1, gc.cell hHeld.2.2.2.2.2.2.2.1, gc.cell hHeld.2.2.2.2.2.2.2.2.1, gc.cell hHeld.2.2.2.2.2.2.2.2.2.1, gc.cell hHeld.2.2.2.2.2.2.2.2.2.2.1, gc.cell hHeld.2.2.2.2.2.2.2.2.2.2.2.1, gc.cell hHeld.2.2.2.2.2.2.2.2.2.2.2.2.1, gc.cell hHeld.2.2.2.2.2.2.2.2.2.2.2.2.2.1, gc.cell hHeld.2.2.2.2.2.2.2.2.2.2.2.2.2.2.1, gc.cell hHeld.2.2.2.2.2.2.2.2.2.2.2.2.2.2.2.1, gc.cell hHeld.2.2.2.2.2.2.2.2.2.2.2.2.2.2.2.2.1, gc.cell hHeld.2.2.2.2.2.2.2.2.2.2.2.2.2.2.2.2.2.1, gc.cell hHeld.2.2.2.2.2.2.2.2.2.2.2.2.2.2.2.2.2.2.1, gc.cell hHeld.2.2.2.2.2.2.2.2.2.2.2.2.2.2.2.2.2.2.2.1, gc.cell hHeld.2.2.2.2.2.2.2.2.2.2.2.2.2.2.2.2.2.2.2.2.1, gc.cell hHeld.2.2.2.2.2.2.2.2.2.2.2.2.2.2.2.2.2.2.2.2.2.1, gc.cell hHeld.2.2.2.2.2.2.2.2.2.2.2.2.2.2.2.2.2.2.2.2.2.2.1, gc.cell hHeld.2.2.2.2.2.2.2.2.2.2.2.2.2.2.2.2.2.2.2.2.2.2.2.1, gc.cell hHeld.2.2.2.2.2.2.2.2.2.2.2.2.2.2.2.2.2.2.2.2.2.2.2.2.1, gc.cell hHeld.2.2.2.2.2.2.2.2.2.2.2.2.2.2.2.2.2.2.2.2.2.2.2.2.2.1, gc.cell hHeld.2.2.2.2.2.2.2.2.2.2.2.2.2.2.2.2.2.2.2.2.2.2.2.2.2.2.1, gc.cell hHeld.2.2.2.2.2.2.2.2.2.2.2.2.2.2.2.2.2.2.2.2.2.2.2.2.2.2.2⟩ (fun hHeld => ?_)
  clear hK K
  have eC := eB.trans gc
  refine ks 38 (fun K hK => ?_)
  go_simp
  ((with_reducible refine (c38.out wc _ _ (mkx QC.mono hub gc) huc).mono ?_); rintro ee wd ⟨gd, rfl⟩)
  refine kcn hK ⟨gd.cell hHeld.1, gd.cell hHeld.2.1, gd.cell hHeld.2.2.1, gd.cell hHeld.2.2.2.1, gd.cell hHeld.2.2.2.2.1, gd.cell hHeld.2.2.2.2.2.1, gd.cell hHeld.2.2.2.2.2.2.1, gd.cell hHeld.2.2.2.2.2.2.2.1, gd.cell hHeld.2.2.2.2.2.2.2.2.1, gd.cell hHeld.2.2.2.2.2.2.2.2.2.1, gd.cell hHeld.2.2.2.2.2.2.2.2.2.2.1, gd.cell hHeld.2.2.2.2.2.2.2.2.2.2.2.1, gd.cell hHeld.2.2.2.2.2.2.2.2.2.2.2.2.1, gd.cell hHeld.2.2.2.2.2.2.2.2.2.2.2.2.2.1, gd.cell hHeld.2.2.2.2.2.2.2.2.2.2.2.2.2.2.1, gd.cell hHeld.2.2.2.2.2.2.2.2.2.2.2.2.2.2.2.1, gd.cell hHeld.2.2.2.2.2.2.2.2.2.2.2.2.2.2.2.2.1, gd.cell hHeld.2.2.2.2.2.2.2.2.2.2.2.2.2.2.2.2.2.1, gd.cell hHeld.2.2.2.2.2.2.2.2.2.2.2.2.2.2.2.2.2.2.1, gd.cell hHeld.2.2.2.2.2.2.2.2.2.2.2.2.2.2.2.2.2.2.2.1, gd.cell hHeld.2.2.2.2.2.2.2.2.2.2.2.2.2.2.2.2.2.2.2.2.1, gd.cell hHeld.2.2.2.2.2.2.2.2.2.2.2.2.2.2.2.2.2.2.2.2.2.1, gd.cell hHeld.2.2.2.2.2.2.2.2.2.2.2.2.2.2.2.2.2.2.2.2.2.2.1, gd.cell hHeld.2.2.2.2.2.2.2.2.2.2.2.2.2.2.2.2.2.2.2.2.2.2.2.1, gd.cell hHeld.2.2.2.2.2.2.2.2.2.2.2.2.2.2.2.2.2.2.2.2.2.2.2.2.1, gd.cell hHeld.2.2.2.2.2.2.2.2.2.2.2.2.2.2.2.2.2.2.2.2.2.2.2.2.2.1, gd.cell hHeld.2.2.2.2.2.2.2.2.2.2.2.2.2.2.2.2.2.2.2.2.2.2.2.2.2.2.1, gd.cell hHeld.2.2.2.2.2.2.2.2.2.2.2.2.2.2.2.2.2.2.2.2.2.2.2.2.2.2.2⟩ (fun hHeld => ?_)
  clear hK K
  have eD := eC.trans gd
  refine kt 39 hOnce ?_
  refine kt 40 hOnce ?_
  refine kt 41 hOnce ?_
  refine kt 42 hOnce ?_
  refine kt 43 hOnce ?_
  refine kt 44 hOnce ?_
  refine kt 45 hOnce ?_
  refine kt 46 hOnce ?_
  refine kt 47 hOnce ?_
  refine kt 48 hOnce ?_
  refine kt 49 hOnce ?_
  refine ks 50 (fun K hK => ?_)
  go_simp
  ((with_reducible refine (c50.out wd eD).mono ?_); rintro ee we ⟨ge, rfl⟩)
  refine kcn hK ⟨ge.cell hHeld.1, ge.cell hHeld.2.1, ge.cell hHeld.2.2.1, ge.cell hHeld.2.2.2.1, ge.cell hHeld.2.2.2.2.1, ge.cell hHeld.2.2.2.2.2.1, ge.cell hHeld.2.2.2.2.2.2.1, ge.cell hHeld.2.2.2.2.2.2.2.1, ge.cell hHeld.2.2.2.2.2.2.2.2.1, ge.cell hHeld.2.2.2.2.2.2.2.2.2.1, ge.cell hHeld.2.2.2.2.2.2.2.2.2.2.1, ge.cell hHeld.2.2.2.2.2.2.2.2.2.2.2.1, ge.cell hHeld.2.2.2.2.2.2.2.2.2.2.2.2.1, ge.cell hHeld.2.2.2.2.2.2.2.2.2.2.2.2.2.1, ge.cell hHeld.2.2.2.2.2.2.2.2.2.2.2.2.2.2.1, ge.cell hHeld.2.2.2.2.2.2.2.2.2.2.2.2.2.2.2.1, ge.cell hHeld.2.2.2.2.2.2.2.2.2.2.2.2.2.2.2.2.1, ge.cell hHeld.2.2.2.2.2.2.2.2.2.2.2.2.2.2.2.2.2.1, ge.cell hHeld.2.2.2.2.2.2.2.2.2.2.2.2.2.2.2.2.2.2.1, ge.cell hHeld.2.2.2.2.2.2.2.2.2.2.2.2.2.2.2.2.2.2.2.1, ge.cell hHeld.2.2.2.2.2.2.2.2.2.2.2.2.2.2.2.2.2.2.2.2.1, ge.cell hHeld.2.2.2.2.2.2.2.2.2.2.2.2.2.2.2.2.2.2.2.2.2.1, ge.cell hHeld.2.2.2.2.2.2.2.2.2.2.2.2.2.2.2.2.2.2.2.2.2.2.1, ge.cell hHeld.2.2.2.2.2.2.2.2.2.2.2.2.2.2.2.2.2.2.2.2.2.2.2.1, ge.cell hHeld.2.2.2.2.2.2.2.2.2.2.2.2.2.2.2.2.2.2.2.2.2.2.2.2.1, ge.cell hHeld.2.2.2.2.2.2.2.2.2.2.2.2.2.2.2.2.2.2.2.2.2.2.2.2.2.1, ge.cell hHeld.2.2.2.2.2.2.2.2.2.2.2.2.2.2.2.2.2.2.2.2.2.2.2.2.2.2.1, ge.cell hHeld.2.2.2.2.2.2.2.2.2.2.2.2.2.2.2.2.2.2.2.2.2.2.2.2.2.2.2⟩ (fun hHeld => ?_)
  clear hK K
  have eE := eD.trans ge
  cases ba with
  | false =>
    refine kt 51 hOnce ?_
    refine ku 52 hOnce ?_
    refine ku 53 hOnce ?_
    refine ku 54 hOnce ?_
    refine ku 55 hOnce ?_
    refine ku 56 hOnce ?_
    refine ku 57 hOnce ?_
    refine ku 58 hOnce ?_
    refine ku 59 hOnce ?_
    refine ku 60 hOnce ?_
    refine kt 61 hOnce ?_
    refine kt 62 hOnce ?_
    refine kl 63 (fun K hK => ?_)
    go_simp
    refine hK.out _ _ ?_
    clear hK K
    exact hQ _ _ _ _ _ _ _ _ _ _ _ _ _ _ _ _ _ _ _ _ _ _ _ _ _ _ _ _ _ _ _ _ _ _ _ _ _ _ _ _ _ _ _ _ _ _ _ _ _ _ _ _ _ _ _ _ _ _ _ _ _ _ _ _ (hEd.trans (ga.trans (gb.trans (gc.trans (gd.trans ge)))))
  | true =>
    have hb0 := hbb'.out rfl
    rw [hb0] at c60
    refine kt 51 hOnce ?_
    refine kt 52 hOnce ?_
    refine kt 53 hOnce ?_
    refine kt 54 hOnce ?_
    refine kt 55 hOnce ?_
    refine kt 56 hOnce ?_
    refine kt 57 hOnce ?_
    refine kt 58 hOnce ?_
    refine kt 59 hOnce ?_
    refine ks 60 (fun K hK => ?_)
    go_simp
    ((with_reducible refine (c60.out we eE).mono ?_); rintro ee wf ⟨gf, rfl⟩)
    refine kcn hK ⟨gf.cell hHeld.1, gf.cell hHeld.2.1, gf.cell hHeld.2.2.1, gf.cell hHeld.2.2.2.1, gf.cell hHeld.2.2.2.2.1, gf.cell hHeld.2.2.2.2.2.1, gf.cell hHeld.2.2.2.2.2.2.1, gf.cell hHeld.2.2.2.2.2.2.2.1, gf.cell hHeld.2.2.2.2.2.2.2.2.1, gf.cell hHeld.2.2.2.2.2.2.2.2.2.1, gf.cell hHeld.2.2.2.2.2.2.2.2.2.2.1, gf.cell hHeld.2.2.2.2.2.2.2.2.2.2.2.1, gf.cell hHeld.2.2.2.2.2.2.2.2.2.2.2.2.1, gf.cell hHeld.2.2.2.2.2.2.2.2.2.2.2.2.2.1, gf.cell hHeld.2.2.2.2.2.2.2.2.2.2.2.2.2.2.1, gf.cell hHeld.2.2.2.2.2.2.2.2.2.2.2.2.2.2.2.1, gf.cell hHeld.2.2.2.2.2.2.2.2.2.2.2.2.2.2.2.2.1, gf.cell hHeld.2.2.2.2.2.2.2.2.2.2.2.2.2.2.2.2.2.1, gf.cell hHeld.2.2.2.2.2.2.2.2.2.2.2.2.2.2.2.2.2.2.1, gf.cell hHeld.2.2.2.2.2.2.2.2.2.2.2.2.2.2.2.2.2.2.2.1, gf.cell hHeld.2.2.2.2.2.2.2.2.2.2.2.2.2.2.2.2.2.2.2.2.1, gf.cell hHeld.2.2.2.2.2.2.2.2.2.2.2.2.2.2.2.2.2.2.2.2.2.1, gf.cell hHeld.2.2.2.2.2.2.2.2.2.2.2.2.2.2.2.2.2.2.2.2.2.2.1, gf.cell hHeld.2.2.2.2.2.2.2.2.2.2.2.2.2.2.2.2.2.2.2.2.2.2.2.1, gf.cell hHeld.2.2.2.2.2.2.2.2.2.2.2.2.2.2.2.2.2.2.2.2.2.2.2.2.1, gf.cell hHeld.2.2.2.2.2.2.2.2.2.2.2.2.2.2.2.2.2.2.2.2.2.2.2.2.2.1, gf.cell hHeld.2.2.2.2.2.2.2.2.2.2.2.2.2.2.2.2.2.2.2.2.2.2.2.2.2.2.1, gf.cell hHeld.2.2.2.2.2.2.2.2.2.2.2.2.2.2.2.2.2.2.2.2.2.2.2.2.2.2.2⟩ (fun hHeld => ?_)
    clear hK K
    refine kt 61 hOnce ?_
    refine kt 62 hOnce ?_
    refine kl 63 (fun K hK => ?_)
    go_simp
    refine hK.out _ _ ?_
    clear hK K
    exact hQ _ _ _ _ _ _ _ _ _ _ _ _ _ _ _ _ _ _ _ _ _ _ _ _ _ _ _ _ _ _ _ _ _ _ _ _ _ _ _ _ _ _ _ _ _ _ _ _ _ _ _ _ _ _ _ _ _ _ _ _ _ _ _ _ (hEd.trans (ga.trans (gb.trans (gc.trans (gd.trans (ge.trans gf))))))
end Go.Proofs.YtgimdkjgaemcbaaGreat
namespace Go.Proofs.YtgimdkjgaemcbaaGreat
open Go.RowKit Go.Rep Go.Lim Go.Lin
set_option maxRecDepth 1000000 in
set_option maxHeartbeats 6400000 in
theorem joins_r17 {Q0 : Act -> World -> Prop} {c0 c1 c2 c3 c6 c7 c8 c9 c10 c12 c13 c14 c15 c16 c17 c18 c19 c20 c21 c22 c23 c24 c25 c26 c27 c28 c29 c30 c31 c32 c33 c34 c35 c36 c37 c38 c39 c40 c41 c42 c43 c44 c45 c46 c47 c48 c49 c50 c51 c52 c53 c54 c55 c56 c57 c58 c59 c60 c61 c62 c63 c64 c65 c66 c67 c68 c69 c70 c71 c72 c73 c74 c75 c76 c77 c78 c79 c80 c81 c82 c83 c84 c85 c86 c87 c88 c89 c90 c91 c92 c93 c94 c95 c96 c97 c98 c99 c100 c101 c102 c103 c104 c105 c106 c107 c108 c109 c110 c111 c112 c113 c114 c115 c116 c117 c118 c119 c120 c121 c122 c123 c124 c125 c126 c127 c128 c129 c130 c131 c132 c133 c134 c135 c136 c137 c138 c139 c140 c141 c142 c143 c144 c145 c146 c147 c148 c149 c150 c151 c152 c153 c154 c155 c156 c157 c158 c159 c160 c161 c162 c163 c164 c165 c166 c167 c168 c169 c170 c171 c172 c173 c174 c175 c176 c177 c178 c179 c180 c181 : Value} (tb : Nat) (w7 : World) (x : List Rat) (n : Nat) (vo : Option Addr) (vc bl bz : Nat) (k t : Int) (z V : Rat) {sz : Bool} {az : Option Addr} {nz cz : Nat} {dz : Option Addr} {kz ez : Nat} (hX7 : HX (tbm tb) w7) (hv7 : Sl QV 3 (mk (tbm tb) w7) vo x) (hn' : Hid (x.length = n)) (hn9 : n <= 9)
    (bl7 : Bx w7 bl #[.int .i64 k, .int .i64 t] 28) (bz7 : Bx w7 bz #[.bool sz, .slice az nz cz, .slice dz kz ez] 38) (hz7 : QV (mk (tbm tb) w7) (.agg #[.bool sz, .slice az nz cz, .slice dz kz ez]) z)
    (hval : Hid (∀ M w' u, HX M w' -> RV (mk M w') u (x ++ [z]) -> Calls Tryz.prog 24 #[.agg #[.int .i64 k, .int .i64 t], u] w' (fun e w'' => Ext w' w'' /\ ∃ u, e = .returned (.tuple #[u, .int .i64 0]) /\ QC (mk M w'') u V)))
    (hQ : ∀ (u133 u134 u135 u136 u137 u138 u139 u140 u141 u142 : Value) (g : Nat) (w' : World) (sv : Bool) (av : Option Addr) (nv cv : Nat) (dv : Option Addr) (kv ev : Nat), Ext w7 w' -> Bx w' g #[.bool sv, .slice av nv cv, .slice dv kv ev] 38 -> w7.heap.size <= g -> QC (mk (tbm tb) w') (.agg #[.bool sv, .slice av nv cv, .slice dv kv ev]) V -> Q0 ⟨#[c0, c1, c2, c3, (.slice vo n vc), (.pointer (some ⟨bl, 0, none⟩)), c6, c7, c8, c9, c10, (.pointer (some ⟨bz, 0, none⟩)), (.pointer (some ⟨g, 0, none⟩)), (.int .i64 0), c14, c15, c16, c17, c18, c19, c20, c21, c22, c23, c24, c25, c26, c27, c28, c29, c30, c31, c32, c33, c34, c35, c36, c37, c38, c39, c40, c41, c42, c43, c44, c45, c46, c47, c48, c49, c50, c51, c52, c53, c54, c55, c56, c57, c58, c59, c60, c61, c62, c63, c64, c65, c66, c67, c68, c69, c70, c71, c72, c73, c74, c75, c76, c77, c78, c79, c80, c81, c82, c83, c84, c85, c86, c87, c88, c89, c90, c91, c92, c93, c94, c95, c96, c97, c98, c99, c100, c101, c102, c103, c104, c105, c106, c107, c108, c109, c110, c111, c112, c113, c114, c115, c116, c117, c118, c119, c120, c121, c122, c123, c124, c125, c126, c127, c128, c129, c130, c131, c132, u133, u134, u135, u136, u137, u138, u139, u140, u141, u142, c143, c144, c145, c146, c147, c148, c149, c150, c151, c152, c153, c154, c155, c156, c157, c158, c159, c160, c161, c162, c163, c164, c165, c166, c167, c168, c169, c170, c171, c172, c173, c174, c175, c176, c177, c178, c179, c180, c181], []⟩ w') :
    Code.wp Tryz.prog (regJ 17) (nrm Q0) ⟨#[c0, c1, c2, c3, (.slice vo n vc), (.pointer (some ⟨bl, 0, none⟩)), c6, c7, c8, c9, c10, (.pointer (some ⟨bz, 0, none⟩)), c12, c13, c14, c15, c16, c17, c18, c19, c20, c21, c22, c23, c24, c25, c26, c27, c28, c29, c30, c31, c32, c33, c34, c35, c36, c37, c38, c39, c40, c41, c42, c43, c44, c45, c46, c47, c48, c49, c50, c51, c52, c53, c54, c55, c56, c57, c58, c59, c60, c61, c62, c63, c64, c65, c66, c67, c68, c69, c70, c71, c72, c73, c74, c75, c76, c77, c78, c79, c80, c81, c82, c83, c84, c85, c86, c87, c88, c89, c90, c91, c92, c93, c94, c95, c96, c97, c98, c99, c100, c101, c102, c103, c104, c105, c106, c107, c108, c109, c110, c111, c112, c113, c114, c115, c116, c117, c118, c119, c120, c121, c122, c123, c124, c125, c126, c127, c128, c129, c130, c131, c132, c133, c134, c135, c136, c137, c138, c139, c140, c141, c142, c143, c144, c145, c146, c147, c148, c149, c150, c151, c152, c153, c154, c155, c156, c157, c158, c159, c160, c161, c162, c163, c164, c165, c166, c167, c168, c169, c170, c171, c172, c173, c174, c175, c176, c177, c178, c179, c180, c181], []⟩ w7 := by
  conv => arg 2; whnf
  obtain ⟨X, hX⟩ : ∃ X, tbm tb = X := ⟨_, rfl⟩
  rw [hX] at hX7 hv7 hz7 hQ
  have hEd : Ext w7 w7.drew := (ExtX.refl w7).drew
  have hS0 := hid fun w' (h : Ext w7 w') => (⟨(bl7.ext0 h).cell 0 rfl, (bl7.ext0 h).cell 1 rfl, (bz7.ext0 h).cell 0 rfl, (bz7.ext0 h).cell 1 rfl, (bz7.ext0 h).cell 2 rfl⟩ : w'.cell? ⟨bl, 0, none⟩ = some (.int .i64 k) /\ w'.cell? ⟨bl, 1, none⟩ = some (.int .i64 t) /\ w'.cell? ⟨bz, 0, none⟩ = some (.bool sz) /\ w'.cell? ⟨bz, 1, none⟩ = some (.slice az nz cz) /\ w'.cell? ⟨bz, 2, none⟩ = some (.slice dz kz ez))
  have hlb : bl < w7.heap.size := bl7.lt
  have hlz : bz < w7.heap.size := bz7.lt
  refine wp_region_K 12 (fun w' => w'.cell? ⟨bl, 0, none⟩ = some (.int .i64 k) /\ w'.cell? ⟨bl, 1, none⟩ = some (.int .i64 t) /\ w'.cell? ⟨bz, 0, none⟩ = some (.bool sz) /\ w'.cell? ⟨bz, 1, none⟩ = some (.slice az nz cz) /\ w'.cell? ⟨bz, 2, none⟩ = some (.slice dz kz ez)) (by kernel_rfl) (by kernel_rfl) (hS0.out _ hEd) (fun hHeld hOnce => ?_)
  have hSd := hid fun w' (h : Ext w7.drew w') => hS0.out w' (hEd.trans h)
  have hX0 : HX X w7.drew := hX7.ext hEd
  have hv0 := hid (hv7.mono QV.mono (mk_ext hEd))
  have hz0 := hid (mkx QV.mono hz7 hEd)
  have hsz0 : w7.heap.size <= w7.drew.heap.size := hEd.size
  obtain ⟨W0, hW0⟩ : ∃ W0, w7.drew = W0 := ⟨_, rfl⟩
  rw [hW0] at hHeld hSd hX0 hv0 hz0 hsz0 hEd |-
  clear hv7 hz7 bl7 bz7 hS0 hX7
  refine kt 0 hOnce ?_
  refine kt 1 hOnce ?_
  refine kt 3 hOnce ?_
  refine act_startJ fun a0 ha0 => ?_
  refine wpAnyK_inv (I := fun s a w' => ∃ v2 v4 v5 v6 v10 ao ac zo bo bc u g M, a = fiveJ a0 v2 v4 v5 v6 v10 /\ Ext W0 w' /\ (∀ k, X k = true -> M k = true) /\ HX M w' /\ (∀ k, k < W0.heap.size -> M k = true -> X k = true) /\ (s.1 = true -> s.2.2.1 = false -> v2 = .slice ao n ac /\ OL QV 3 M W0.heap.size 38 w' ao ac x) /\ (s.2.1 = true -> s.2.2.1 = false -> v4 = .slice (some ⟨zo, 0, none⟩) 1 1 /\ Bx w' zo #[.bool sz, .slice az nz cz, .slice dz kz ez] 38 /\ W0.heap.size <= zo /\ M zo = false) /\ (s.1 = true -> s.2.1 = true -> s.2.2.1 = false -> ob ao zo = false) /\ (s.2.2.1 = true -> v5 = .slice bo (n + 1) bc /\ RV (mk M w') v5 (x ++ [z])) /\ (s.2.2.2.1 = true -> v6 = .tuple #[u, .int .i64 0] /\ QC (mk M w') u V) /\ (s.2.2.2.2 = true -> v10 = .pointer (some ⟨g, 0, none⟩) /\ Bx w' g #[.bool false, .slice none 0 0, .slice none 0 0] 38 /\ W0.heap.size <= g /\ M g = true) /\ (s.1 = true -> s.2.2.1 = false -> s.2.2.2.2 = true -> ob ao g = false))
    allJj lJj nextJj finJj (by kernel_rfl) ?st ?ex 10 (false, false, false, false, false) a0 W0 (by decide) (by decide) ?hi
  case hi =>
    subst ha0
    exact ⟨c136, c138, c139, c140, c12, none, 0, 0, none, 0, undef, 0, X, by simp only [fiveJ, Act.put, List.setIfInBounds_toArray, List.set_cons_zero, List.set_cons_succ], ExtX.refl _, fun _ h => h, hX0, fun _ _ h => h, fun h => (by cases h), fun h => (by cases h), fun h => (by cases h), fun h => (by cases h), fun h => (by cases h), fun h => (by cases h), fun h => (by cases h)⟩
  case st =>
    rintro ⟨b2, b4, b5, b6, b10⟩ i t a w' hs ht ⟨v2, v4, v5, v6, v10, ao, ac, zo, bo, bc, u, g, M, rfl, hEx, hXM, hXw, hMX, f2, f4, d24, f5, f6, f10, d210⟩
    obtain ⟨h5, h6⟩ := allJj_five _ hs
    dsimp only at f2 f4 d24 f5 f6 f10 d210 h5 h6
    subst ha0
    unfold nextJj at ht
    dsimp only at ht
    have hle : Le (mk X W0) (mk M w') := mk_over hEx (fun k _ hk => by simp [noY] at hk) hMX
    split at ht
    · rename_i hc
      obtain ⟨rfl, rfl⟩ := hc
      cases ht
      have hb5 : b5 = false := by cases b5 <;> simp_all
      simp only [fiveJ, Act.put, List.setIfInBounds_toArray, List.set_cons_zero, List.set_cons_succ]
      refine wpOp_stepJ (o := ⟨_, _, _, _, _, _⟩) rfl (fun K hK => ?_)
      refine step_appendl13 (l := ([] : List Rat)) (R := QV) (X := M) (base := w'.heap.size) rfl rfl slRat rfl QV.elem (Nat.le_refl _) hXw x 0 n rfl hn'.out rfl rfl (OL.nil _ _ _ _ _ _) ((hv0.out.mono QV.mono hle).old QV.mono (ExtX.refl w') (fun _ _ => rfl)) (by omega) (by omega) ?_
      intro ao2 ac2 w2 hO2 hE2 hor
      rw [List.nil_append] at hO2
      rw [Nat.zero_add]
      have hE2' : Ext w' w2 := (ExtX.refl w').own (OL.nil QV 3 M w'.heap.size 38 w') (Nat.le_refl _) hE2
      have nw : ∀ k, ob ao2 k = true -> w'.heap.size <= k := fun k hk => (hO2.block hk).1
      have hEx2 := hEx.trans hE2'
      refine hK.out _ _ ⟨hSd.out _ hEx2, .slice ao2 n ac2, v4, v5, v6, v10, ao2, ac2, zo, bo, bc, u, g, M, by simp only [Act.put, List.setIfInBounds_toArray, List.set_cons_zero, List.set_cons_succ], hEx2, hXM, hXw.ext hE2', hMX, fun _ _ => ⟨rfl, hO2.base_le hEx.size⟩, fun h h' => ⟨(f4 h h').1, (f4 h h').2.1.ext0 hE2', (f4 h h').2.2⟩, fun _ h h' => ?_, fun h => absurd (hb5.symm.trans h) (by decide), fun h => absurd (hb5.symm.trans (h6 h)) (by decide), fun h => ⟨(f10 h).1, (f10 h).2.1.ext0 hE2', (f10 h).2.2⟩, fun _ _ h => ?_⟩
      · cases hm : ob ao2 zo
        · rfl
        · have h1 := nw zo hm; have h2 := (f4 h h').2.1.lt; omega
      · cases hm : ob ao2 g
        · rfl
        · have h1 := nw g hm; have h2 := (f10 h).2.1.lt; omega
    · split at ht
      · rename_i hc
        obtain ⟨rfl, rfl⟩ := hc
        cases ht
        have hb5 : b5 = false := by cases b5 <;> simp_all
        simp only [fiveJ, Act.put, List.setIfInBounds_toArray, List.set_cons_zero, List.set_cons_succ]
        refine wpOp_stepJ (o := ⟨_, _, _, _, _, _⟩) rfl (fun K hK => ?_)
        go_simp
        have hE2 : Ext w' (w'.alloc (.cells #[.bool sz, .slice az nz cz, .slice dz kz ez] 38)) := (ExtX.refl _).alloc _
        have hEx2 := hEx.trans hE2
        refine hK.out _ _ ⟨hSd.out _ hEx2, v2, .slice (some ⟨w'.heap.size, 0, none⟩) 1 1, v5, v6, v10, ao, ac, w'.heap.size, bo, bc, u, g, M, rfl, hEx2, hXM, hXw.ext hE2, hMX, fun h h' => ⟨(f2 h h').1, (f2 h h').2.ext0 QV.elem hE2⟩, fun _ _ => ⟨rfl, Bx.new w' _ _, hEx.size, by cases h : M w'.heap.size with | false => rfl | true => exact absurd (hXw _ h) (by omega)⟩, fun h _ h' => ?_, fun h => absurd (hb5.symm.trans h) (by decide), fun h => absurd (hb5.symm.trans (h6 h)) (by decide), fun h => ⟨(f10 h).1, (f10 h).2.1.ext0 hE2, (f10 h).2.2⟩, d210⟩
        cases hm : ob ao w'.heap.size
        · rfl
        · have h2 := ((f2 h h').2.block hm).2; omega
      · split at ht
        · rename_i hc
          obtain ⟨rfl, rfl, rfl, rfl⟩ := hc
          cases ht
          have hb6 : b6 = false := by cases b6 <;> simp_all
          obtain ⟨rfl, hO⟩ := f2 rfl rfl
          obtain ⟨rfl, bzz, hzo, hgx⟩ := f4 rfl rfl
          have d := d24 rfl rfl rfl
          simp only [fiveJ, Act.put, List.setIfInBounds_toArray, List.set_cons_zero, List.set_cons_succ]
          refine wpOp_stepJ (o := ⟨_, _, _, _, _, _⟩) rfl (fun K hK => ?_)
          have hgu : un M ao zo = false := by simp [un, hgx, d]
          have hzv := QV.mono _ _ _ _ (mk_over (Z := un M ao) hEx (fun k _ hk => by simp [noY] at hk) (fun k hk hz => by
            rcases Bool.or_eq_true_iff.1 hz with h | h
            · exact hMX k hk h
            · rw [hO.ob_lt hk] at h; exact absurd h (by decide))) hz0.out
          have hsz := sl_box (Y := un M ao) (u := .agg #[.bool sz, .slice az nz cz, .slice dz kz ez]) bzz hgu hzv rfl
          refine step_appendl13 (l := x) rfl rfl slRat rfl QV.elem hEx.size hXw [z] n 1 hn'.out rfl rfl rfl hO hsz (by omega) (by omega) ?_
          intro bo2 bc2 w2 hO2 hE2 hor
          have hEx2 := hEx.own hO (Nat.le_refl _) hE2
          have hln : (x ++ [z]).length = n + 1 := by simp [hn'.out]
          have hcc := hO2.lenCap
          rw [hln] at hcc
          refine hK.out _ _ ⟨hSd.out _ hEx2, .slice ao n ac, .slice (some ⟨zo, 0, none⟩) 1 1, .slice bo2 (n + 1) bc2, v6, v10, ao, ac, zo, bo2, bc2, u, g, M, by simp only [Act.put, List.setIfInBounds_toArray, List.set_cons_zero, List.set_cons_succ], hEx2, hXM, fun k hk => Nat.lt_of_lt_of_le (hXw k hk) hE2.size, hMX, fun _ h => absurd h (by decide), fun _ h => absurd h (by decide), fun _ _ h => absurd h (by decide), fun _ => ⟨rfl, bo2, bc2, by rw [hln], by rw [hln]; exact hcc, hO2.sl QV.elem⟩, fun h => absurd (hb6.symm.trans h) (by decide), fun h => ⟨(f10 h).1, (f10 h).2.1.ext hE2 (d210 rfl rfl h), (f10 h).2.2⟩, fun _ h => absurd h (by decide)⟩
        · split at ht
          · rename_i hc
            obtain ⟨rfl, rfl, rfl⟩ := hc
            cases ht
            obtain ⟨rfl, hR⟩ := f5 rfl
            simp only [fiveJ, Act.put, List.setIfInBounds_toArray, List.set_cons_zero, List.set_cons_succ]
            refine wpOp_stepJ (o := ⟨_, _, _, _, _, _⟩) rfl (fun K hK => ?_)
            go_simp
            go_at_call 24
            (with_reducible refine (hval.out M w' _ hXw hR).mono ?_)
            rintro ee w2 ⟨hE2, u2, rfl, hu2⟩
            have hEx2 := hEx.trans hE2
            refine hK.out _ _ ⟨hSd.out _ hEx2, v2, v4, .slice bo (n + 1) bc, .tuple #[u2, .int .i64 0], v10, ao, ac, zo, bo, bc, u2, g, M, rfl, hEx2, hXM, hXw.ext hE2, hMX, fun _ h => absurd h (by decide), fun _ h => absurd h (by decide), fun _ _ h => absurd h (by decide), fun _ => ⟨rfl, mkx RV.mono hR hE2⟩, fun _ => ⟨rfl, hu2⟩, fun h => ⟨(f10 h).1, (f10 h).2.1.ext0 hE2, (f10 h).2.2⟩, fun _ h => absurd h (by decide)⟩
          · split at ht
            · rename_i hc
              obtain ⟨rfl, rfl⟩ := hc
              cases ht
              simp only [fiveJ, Act.put, List.setIfInBounds_toArray, List.set_cons_zero, List.set_cons_succ]
              refine wpOp_stepJ (o := ⟨_, _, _, _, _, _⟩) rfl (fun K hK => ?_)
              go_simp
              have hE2 : Ext w' (w'.alloc (.cells #[.bool false, .slice none 0 0, .slice none 0 0] 38)) := (ExtX.refl _).alloc _
              have hEx2 := hEx.trans hE2
              have hnew : ∀ k, ob (some ⟨w'.heap.size, 0, none⟩) k = true -> k = w'.heap.size := fun k hk => by
                have : w'.heap.size = k := by simpa [ob] using hk
                exact this.symm
              have hnb : ∀ j, j < w'.heap.size -> ob (some ⟨w'.heap.size, 0, none⟩) j = false := fun j hj => ob_other (by omega)
              have hnx : HX (un M (some ⟨w'.heap.size, 0, none⟩)) (w'.alloc (.cells #[.bool false, .slice none 0 0, .slice none 0 0] 38)) := fun k hk => by
                rcases Bool.or_eq_true_iff.1 hk with h | h
                · exact hXw.ext hE2 k h
                · have := hnew k h
                  subst this
                  simp
              refine hK.out _ _ ⟨hSd.out _ hEx2, v2, v4, v5, v6, .pointer (some ⟨w'.heap.size, 0, none⟩), ao, ac, zo, bo, bc, u, w'.heap.size, un M (some ⟨w'.heap.size, 0, none⟩), rfl, hEx2, fun k hk => un_left (hXM k hk), hnx, fun k hk hz => (Bool.or_eq_true_iff.1 hz).elim (hMX k hk) (fun h => absurd (hnew k h) (by have := hEx.size; omega)), fun h h' => ⟨(f2 h h').1, (f2 h h').2.ext QV.elem hE2 (fun k _ hk => by simp [noY] at hk) (fun k hk hz => (Bool.or_eq_true_iff.1 hz).elim id (fun h => absurd (hnew k h) (by omega)))⟩, fun h h' => ⟨(f4 h h').1, (f4 h h').2.1.ext0 hE2, (f4 h h').2.2.1, by have h1 := (f4 h h').2.2.2; have h2 := (f4 h h').2.1.lt; simp only [un, h1, Bool.false_or]; cases hm : ob (some ⟨w'.heap.size, 0, none⟩) zo with | false => rfl | true => exact absurd (hnew zo hm) (by omega)⟩, d24, fun h => ⟨(f5 h).1, old_un RV.mono (f5 h).2 hE2 hnb⟩, fun h => ⟨(f6 h).1, old_un QC.mono (f6 h).2 hE2 hnb⟩, fun _ => ⟨rfl, Bx.new w' _ _, hEx.size, by simp [un, ob]⟩, fun h h' _ => ?_⟩
              cases hm : ob ao w'.heap.size
              · rfl
              · have h2 := ((f2 h h').2.block hm).2; omega
            · cases ht
  case ex =>
    rintro ⟨b2, b4, b5, b6, b10⟩ a w' hs hf ⟨v2, v4, v5, v6, v10, ao, ac, zo, bo, bc, u, g, M, rfl, hEx, hXM, hXw, hMX, f2, f4, d24, f5, f6, f10, d210⟩
    obtain rfl : b6 = true := hf
    obtain ⟨h5, h6⟩ := allJj_five _ hs
    dsimp only at f2 f4 d24 f5 f6 f10 d210 h5 h6
    have e5 := h6 rfl
    subst e5
    obtain ⟨e2, e4⟩ := h5 rfl
    subst e2 e4 ha0
    obtain ⟨rfl, hR⟩ := f5 rfl
    obtain ⟨rfl, hu⟩ := f6 rfl
    obtain ⟨sv, av, nv, cv, dv, kv, ev, rfl⟩ := hu.shape
    have hHeld := hSd.out w' hEx
    clear f2 f4 d24 f5 f6 d210 hs h5 h6
    cases b10 with
    | true =>
      obtain ⟨rfl, bg, hg, hMg⟩ := f10 rfl
      have hob1 : ob (some ⟨g, 0, none⟩) bl = false := ob_other (by omega)
      have hob2 : ob (some ⟨g, 0, none⟩) bz = false := ob_other (by omega)
      clear f10
      show wpAnyK _ _ _ _ _ _ 5 #[true, true, true, true, true, true, true, false, false, false, true, false, false] _ _
      simp only [fiveJ, Act.put, List.setIfInBounds_toArray, List.set_cons_zero, List.set_cons_succ]
      refine kt 7 hOnce ?_
      refine kt 8 hOnce ?_
      refine kt 9 hOnce ?_
      refine ks 11 (fun K hK => ?_)
      (refine step_storeBox rfl rfl stRat rfl rfl bg rfl rfl (one3 _ _ _ _ _ _ _) ?_; intro w9 y1 y2)
      refine kcn hK ⟨y2.cellY hHeld.1 hob1, y2.cellY hHeld.2.1 hob1, y2.cellY hHeld.2.2.1 hob2, y2.cellY hHeld.2.2.2.1 hob2, y2.cellY hHeld.2.2.2.2 hob2⟩ (fun hHeld => ?_)
      clear hK K
      refine kl 12 (fun K hK => ?_)
      go_simp
      refine hK.out _ _ ?_
      clear hK K
      have hE9 : Ext W0 w9 := ExtX.box hEx y2 hg
      have hu9 : QC (mk X w9) (.agg #[.bool sv, .slice av nv cv, .slice dv kv ev]) V := QC.mono _ _ _ _ ((mk_mono y2 (fun k hk => by
        have : g = k := by simpa [ob] using hk
        rw [<- this]; exact hMg)).trans (mk_sub fun k _ hk => hXM k hk)) hu
      exact hQ _ _ _ _ _ _ _ _ _ _ g w9 sv av nv cv dv kv ev (hEd.trans hE9) y1 (by omega) hu9
    | false =>
      clear f10
      show wpAnyK _ _ _ _ _ _ 6 #[true, true, true, true, true, true, true, false, false, false, false, false, false] _ _
      simp only [fiveJ, Act.put, List.setIfInBounds_toArray, List.set_cons_zero, List.set_cons_succ]
      refine kt 7 hOnce ?_
      refine kt 8 hOnce ?_
      refine kt 9 hOnce ?_
      obtain ⟨w8, hw8, hE8, bg, hz8⟩ := boxes1 w' #[.bool false, .slice none 0 0, .slice none 0 0] 38
      refine ks 10 (fun K hK => ?_)
      go_simp
      skip
      refine kcn hK (hSd.out w8 (hEx.trans hE8)) (fun hHeld => ?_)
      clear hK K
      have hg : W0.heap.size <= w'.heap.size := hEx.size
      have hu8 := old_un (oo := some ⟨w'.heap.size, 0, none⟩) QC.mono hu hE8 (fun j hj => ob_other (by omega))
      obtain ⟨g', hg'⟩ : ∃ g', w'.heap.size = g' := ⟨_, rfl⟩
      rw [hg'] at bg hg hu8
      (try rw [hg'])
      have hob1 : ob (some ⟨g', 0, none⟩) bl = false := ob_other (by omega)
      have hob2 : ob (some ⟨g', 0, none⟩) bz = false := ob_other (by omega)
      refine ks 11 (fun K hK => ?_)
      (refine step_storeBox rfl rfl stRat rfl rfl bg rfl rfl (one3 _ _ _ _ _ _ _) ?_; intro w9 y1 y2)
      refine kcn hK ⟨y2.cellY hHeld.1 hob1, y2.cellY hHeld.2.1 hob1, y2.cellY hHeld.2.2.1 hob2, y2.cellY hHeld.2.2.2.1 hob2, y2.cellY hHeld.2.2.2.2 hob2⟩ (fun hHeld => ?_)
      clear hK K
      refine kl 12 (fun K hK => ?_)
      go_simp
      refine hK.out _ _ ?_
      clear hK K
      have hE9 : Ext W0 w9 := ExtX.box (hEx.trans hE8) y2 hg
      have hu9 : QC (mk X w9) (.agg #[.bool sv, .slice av nv cv, .slice dv kv ev]) V := QC.mono _ _ _ _ ((mk_mono y2 (fun k hk => un_right hk)).trans (mk_sub fun k _ hk => un_left (hXM k hk))) hu8
      exact hQ _ _ _ _ _ _ _ _ _ _ g' w9 sv av nv cv dv kv ev (hEd.trans hE9) y1 (by omega) hu9
end Go.Proofs.YtgimdkjgaemcbaaGreat
namespace Go.Proofs.YtgimdkjgaemcbaaGreat
open Go.RowKit Go.Rep Go.Lim Go.Lin
set_option maxRecDepth 1000000 in
set_option maxHeartbeats 6400000 in
theorem joins_r23 {Q0 : Act -> World -> Prop} {c0 c1 c2 c3 c4 c5 c6 c7 c8 c9 c10 c12 c13 c14 c16 c17 c18 c19 c20 c21 c22 c23 c24 c25 c26 c27 c28 c29 c30 c31 c32 c33 c34 c35 c36 c37 c38 c39 c40 c41 c42 c43 c44 c45 c46 c47 c48 c49 c50 c51 c52 c53 c54 c55 c56 c57 c58 c59 c60 c61 c62 c63 c64 c65 c66 c67 c68 c69 c70 c71 c72 c73 c74 c75 c76 c77 c78 c79 c80 c81 c82 c83 c84 c85 c86 c87 c88 c89 c90 c91 c92 c93 c94 c95 c96 c97 c98 c99 c100 c101 c102 c103 c104 c105 c106 c107 c108 c109 c110 c111 c112 c113 c114 c115 c116 c117 c118 c119 c120 c121 c122 c123 c124 c125 c126 c127 c128 c129 c130 c131 c132 c133 c134 c135 c136 c137 c138 c139 c140 c141 c142 c143 c144 c145 c146 c147 c148 c149 c150 c151 c152 c153 c154 c155 c156 c157 c158 c159 c160 c161 c162 c163 c164 c165 c166 c167 c168 c169 c170 c171 c172 c173 c174 c175 c176 c177 c178 c179 c180 c181 : Value} (tb : Nat) (w9 : World) (p : Pc) (bp bz : Nat) (z : Rat) {sq1 : Bool} {aq1 : Option Addr} {nq1 cq1 : Nat} {dq1 : Option Addr} {kq1 eq1 : Nat} {sq2 : Bool} {aq2 : Option Addr} {nq2 cq2 : Nat} {dq2 : Option Addr} {kq2 eq2 : Nat} {sq3 : Bool} {aq3 : Option Addr} {nq3 cq3 : Nat} {dq3 : Option Addr} {kq3 eq3 : Nat} {sq4 : Bool} {aq4 : Option Addr} {nq4 cq4 : Nat} {dq4 : Option Addr} {kq4 eq4 : Nat} {sz : Bool} {az : Option Addr} {nz cz : Nat} {dz : Option Addr} {kz ez : Nat} (hX9 : HX (tbm tb) w9) (bp9 : Bx w9 bp #[.bool sq1, .slice aq1 nq1 cq1, .slice dq1 kq1 eq1, .bool sq2, .slice aq2 nq2 cq2, .slice dq2 kq2 eq2, .bool p.lo.isNone, .bool p.hi.isNone, .bool sq3, .slice aq3 nq3 cq3, .slice dq3 kq3 eq3, .bool sq4, .slice aq4 nq4 cq4, .slice dq4 kq4 eq4] 40) (bz9 : Bx w9 bz #[.bool sz, .slice az nz cz, .slice dz kz ez] 38) (hz9 : QC (mk (tbm tb) w9) (.agg #[.bool sz, .slice az nz cz, .slice dz kz ez]) z) (hzq : hq z <= 2) (hg : GoodP 1000000000 p)
    (qq1 : QC (mk (tbm tb) w9) (.agg #[.bool sq1, .slice aq1 nq1 cq1, .slice dq1 kq1 eq1]) (p.lo.getD 0)) (qq2 : QC (mk (tbm tb) w9) (.agg #[.bool sq2, .slice aq2 nq2 cq2, .slice dq2 kq2 eq2]) (p.hi.getD 0)) (_qq3 : QC (mk (tbm tb) w9) (.agg #[.bool sq3, .slice aq3 nq3 cq3, .slice dq3 kq3 eq3]) p.a) (_qq4 : QC (mk (tbm tb) w9) (.agg #[.bool sq4, .slice aq4 nq4 cq4, .slice dq4 kq4 eq4]) p.b)
    (hQ : ∀ (u151 u152 u153 u154 u155 u156 u157 u158 u159 u160 u161 u162 u163 u164 u165 u166 u167 u168 u169 u170 : Value) (w' : World), Ext w9 w' -> Q0 ⟨#[c0, c1, c2, c3, c4, c5, c6, c7, c8, c9, c10, (.pointer (some ⟨bz, 0, none⟩)), c12, c13, c14, (.pointer (some ⟨bp, 0, none⟩)), (.bool (inB p z)), c17, c18, c19, c20, c21, c22, c23, c24, c25, c26, c27, c28, c29, c30, c31, c32, c33, c34, c35, c36, c37, c38, c39, c40, c41, c42, c43, c44, c45, c46, c47, c48, c49, c50, c51, c52, c53, c54, c55, c56, c57, c58, c59, c60, c61, c62, c63, c64, c65, c66, c67, c68, c69, c70, c71, c72, c73, c74, c75, c76, c77, c78, c79, c80, c81, c82, c83, c84, c85, c86, c87, c88, c89, c90, c91, c92, c93, c94, c95, c96, c97, c98, c99, c100, c101, c102, c103, c104, c105, c106, c107, c108, c109, c110, c111, c112, c113, c114, c115, c116, c117, c118, c119, c120, c121, c122, c123, c124, c125, c126, c127, c128, c129, c130, c131, c132, c133, c134, c135, c136, c137, c138, c139, c140, c141, c142, c143, c144, c145, c146, c147, c148, c149, c150, u151, u152, u153, u154, u155, u156, u157, u158, u159, u160, u161, u162, u163, u164, u165, u166, u167, u168, u169, u170, c171, c172, c173, c174, c175, c176, c177, c178, c179, c180, c181], []⟩ w') :
    Code.wp Tryz.prog (regJ 23) (nrm Q0) ⟨#[c0, c1, c2, c3, c4, c5, c6, c7, c8, c9, c10, (.pointer (some ⟨bz, 0, none⟩)), c12, c13, c14, (.pointer (some ⟨bp, 0, none⟩)), c16, c17, c18, c19, c20, c21, c22, c23, c24, c25, c26, c27, c28, c29, c30, c31, c32, c33, c34, c35, c36, c37, c38, c39, c40, c41, c42, c43, c44, c45, c46, c47, c48, c49, c50, c51, c52, c53, c54, c55, c56, c57, c58, c59, c60, c61, c62, c63, c64, c65, c66, c67, c68, c69, c70, c71, c72, c73, c74, c75, c76, c77, c78, c79, c80, c81, c82, c83, c84, c85, c86, c87, c88, c89, c90, c91, c92, c93, c94, c95, c96, c97, c98, c99, c100, c101, c102, c103, c104, c105, c106, c107, c108, c109, c110, c111, c112, c113, c114, c115, c116, c117, c118, c119, c120, c121, c122, c123, c124, c125, c126, c127, c128, c129, c130, c131, c132, c133, c134, c135, c136, c137, c138, c139, c140, c141, c142, c143, c144, c145, c146, c147, c148, c149, c150, c151, c152, c153, c154, c155, c156, c157, c158, c159, c160, c161, c162, c163, c164, c165, c166, c167, c168, c169, c170, c171, c172, c173, c174, c175, c176, c177, c178, c179, c180, c181], []⟩ w9 := by
  conv => arg 2; whnf
  obtain ⟨lb, hlb⟩ : ∃ b, p.lo.isNone = b := ⟨_, rfl⟩
  obtain ⟨hb, hhb⟩ : ∃ b, p.hi.isNone = b := ⟨_, rfl⟩
  obtain ⟨F, hF⟩ : ∃ F, p.lo.getD 0 = F := ⟨_, rfl⟩
  obtain ⟨T, hT⟩ : ∃ T, p.hi.getD 0 = T := ⟨_, rfl⟩
  obtain ⟨s1, hs1⟩ : ∃ s, (F - z).num.sign = s := ⟨_, rfl⟩
  obtain ⟨s2, hs2⟩ : ∃ s, (z - T).num.sign = s := ⟨_, rfl⟩
  obtain ⟨c1', hc1⟩ : ∃ b, decide (s1 <= 0) = b := ⟨_, rfl⟩
  obtain ⟨c2', hc2⟩ : ∃ b, decide (s2 <= 0) = b := ⟨_, rfl⟩
  have hin : inB p z = ((lb || c1') && (hb || c2')) := by unfold inB; rw [hlb, hhb, hF, hT, hs1, hs2, hc1, hc2]
  have hgF : hq F <= 1000000000 := by have := hg.2.2.1; rwa [hF] at this
  have hgT : hq T <= 1000000000 := by have := hg.2.2.2; rwa [hT] at this
  rw [hF] at qq1
  rw [hT] at qq2
  have h1 := hid fun w' (h : Ext w9 w') => (by
    have := rqcompare (tbm tb) w' _ _ F z (hX9.ext h) ((mkx QC.mono qq1 h).qv (Nat.le_trans hgF (by decide))) ((mkx QC.mono hz9 h).qv (Nat.le_trans hzq (by decide))) (by have := hq_sub F z; omega)
    rw [hs1] at this; exact this : Calls Tryz.prog 25 #[.agg #[.bool sq1, .slice aq1 nq1 cq1, .slice dq1 kq1 eq1], .agg #[.bool sz, .slice az nz cz, .slice dz kz ez]] w' (IntOut w' s1))
  have h2 := hid fun w' (h : Ext w9 w') => (by
    have := rqcompare (tbm tb) w' _ _ z T (hX9.ext h) ((mkx QC.mono hz9 h).qv (Nat.le_trans hzq (by decide))) ((mkx QC.mono qq2 h).qv (Nat.le_trans hgT (by decide))) (by have := hq_sub z T; omega)
    rw [hs2] at this; exact this : Calls Tryz.prog 25 #[.agg #[.bool sz, .slice az nz cz, .slice dz kz ez], .agg #[.bool sq2, .slice aq2 nq2 cq2, .slice dq2 kq2 eq2]] w' (IntOut w' s2))
  have hin' := hid hin
  have kp0 : w9.cell? ⟨bp, 0, none⟩ = some (.bool sq1) := (bp9.ext0 (ExtX.refl w9)).cell 0 rfl
  have kp1 : w9.cell? ⟨bp, 1, none⟩ = some (.slice aq1 nq1 cq1) := (bp9.ext0 (ExtX.refl w9)).cell 1 rfl
  have kp2 : w9.cell? ⟨bp, 2, none⟩ = some (.slice dq1 kq1 eq1) := (bp9.ext0 (ExtX.refl w9)).cell 2 rfl
  have kp3 : w9.cell? ⟨bp, 3, none⟩ = some (.bool sq2) := (bp9.ext0 (ExtX.refl w9)).cell 3 rfl
  have kp4 : w9.cell? ⟨bp, 4, none⟩ = some (.slice aq2 nq2 cq2) := (bp9.ext0 (ExtX.refl w9)).cell 4 rfl
  have kp5 : w9.cell? ⟨bp, 5, none⟩ = some (.slice dq2 kq2 eq2) := (bp9.ext0 (ExtX.refl w9)).cell 5 rfl
  have kz0 : w9.cell? ⟨bz, 0, none⟩ = some (.bool sz) := (bz9.ext0 (ExtX.refl w9)).cell 0 rfl
  have kz1 : w9.cell? ⟨bz, 1, none⟩ = some (.slice az nz cz) := (bz9.ext0 (ExtX.refl w9)).cell 1 rfl
  have kz2 : w9.cell? ⟨bz, 2, none⟩ = some (.slice dz kz ez) := (bz9.ext0 (ExtX.refl w9)).cell 2 rfl
  have kp6 : w9.cell? ⟨bp, 6, none⟩ = some (.bool p.lo.isNone) := (bp9.ext0 (ExtX.refl w9)).cell 6 rfl
  rw [hlb] at kp6
  have kp7 : w9.cell? ⟨bp, 7, none⟩ = some (.bool p.hi.isNone) := (bp9.ext0 (ExtX.refl w9)).cell 7 rfl
  rw [hhb] at kp7
  clear hF hT hs1 hs2 hg hgF hgT qq1 qq2 hz9 hzq hin
  cases lb <;> cases hb <;> cases c1' <;> cases c2'
  all_goals
    rw [hin'.out] at hQ
    simp only [Bool.and_true, Bool.and_false, Bool.or_true, Bool.or_false, Bool.and_self, Bool.or_self] at hQ
    go_wp2_with (first | (go_at_call 25; (with_reducible refine (h1.out w9 (ExtX.refl _)).mono ?_); rintro ee wa ⟨ga, rfl⟩; have lp0 : wa.cell? ⟨bp, 0, none⟩ = some (.bool sq1) := (bp9.ext0 ga).cell 0 rfl; have lp1 : wa.cell? ⟨bp, 1, none⟩ = some (.slice aq1 nq1 cq1) := (bp9.ext0 ga).cell 1 rfl; have lp2 : wa.cell? ⟨bp, 2, none⟩ = some (.slice dq1 kq1 eq1) := (bp9.ext0 ga).cell 2 rfl; have lp3 : wa.cell? ⟨bp, 3, none⟩ = some (.bool sq2) := (bp9.ext0 ga).cell 3 rfl; have lp4 : wa.cell? ⟨bp, 4, none⟩ = some (.slice aq2 nq2 cq2) := (bp9.ext0 ga).cell 4 rfl; have lp5 : wa.cell? ⟨bp, 5, none⟩ = some (.slice dq2 kq2 eq2) := (bp9.ext0 ga).cell 5 rfl; have lz0 : wa.cell? ⟨bz, 0, none⟩ = some (.bool sz) := (bz9.ext0 ga).cell 0 rfl; have lz1 : wa.cell? ⟨bz, 1, none⟩ = some (.slice az nz cz) := (bz9.ext0 ga).cell 1 rfl; have lz2 : wa.cell? ⟨bz, 2, none⟩ = some (.slice dz kz ez) := (bz9.ext0 ga).cell 2 rfl; have lp6 : wa.cell? ⟨bp, 6, none⟩ = some (.bool p.lo.isNone) := (bp9.ext0 ga).cell 6 rfl; rw [hlb] at lp6; have lp7 : wa.cell? ⟨bp, 7, none⟩ = some (.bool p.hi.isNone) := (bp9.ext0 ga).cell 7 rfl; rw [hhb] at lp7) | (go_at_call 25; (with_reducible refine (h2.out wa ga).mono ?_); rintro ee wb ⟨gb, rfl⟩) | (go_at_call 25; (with_reducible refine (h2.out w9 (ExtX.refl _)).mono ?_); rintro ee wb ⟨gb, rfl⟩))
    first | exact (hQ _ _ _ _ _ _ _ _ _ _ _ _ _ _ _ _ _ _ _ _ _ (ga.trans gb)) | exact (hQ _ _ _ _ _ _ _ _ _ _ _ _ _ _ _ _ _ _ _ _ _ gb) | exact (hQ _ _ _ _ _ _ _ _ _ _ _ _ _ _ _ _ _ _ _ _ _ ga) | exact (hQ _ _ _ _ _ _ _ _ _ _ _ _ _ _ _ _ _ _ _ _ _ (ExtX.refl _))
set_option maxRecDepth 1000000 in
set_option maxHeartbeats 6400000 in
theorem joins_r24 {Q0 : Act -> World -> Prop} {c0 c1 c2 c3 c4 c5 c6 c7 c8 c9 c10 c13 c14 c17 c18 c19 c20 c21 c22 c23 c24 c25 c26 c27 c28 c29 c30 c31 c32 c33 c34 c35 c36 c37 c38 c39 c40 c41 c42 c43 c44 c45 c46 c47 c48 c49 c50 c51 c52 c53 c54 c55 c56 c57 c58 c59 c60 c61 c62 c63 c64 c65 c66 c67 c68 c69 c70 c71 c72 c73 c74 c75 c76 c77 c78 c79 c80 c81 c82 c83 c84 c85 c86 c87 c88 c89 c90 c91 c92 c93 c94 c95 c96 c97 c98 c99 c100 c101 c102 c103 c104 c105 c106 c107 c108 c109 c110 c111 c112 c113 c114 c115 c116 c117 c118 c119 c120 c121 c122 c123 c124 c125 c126 c127 c128 c129 c130 c131 c132 c133 c134 c135 c136 c137 c138 c139 c140 c141 c142 c143 c144 c145 c146 c147 c148 c149 c150 c151 c152 c153 c154 c155 c156 c157 c158 c159 c160 c161 c162 c163 c164 c165 c166 c167 c168 c169 c170 c171 c172 c173 c174 c175 c176 c177 c178 c179 c180 c181 : Value} (tb : Nat) (w9 : World) (p : Pc) (bp bz : Nat) (z : Rat) {sq1 : Bool} {aq1 : Option Addr} {nq1 cq1 : Nat} {dq1 : Option Addr} {kq1 eq1 : Nat} {sq2 : Bool} {aq2 : Option Addr} {nq2 cq2 : Nat} {dq2 : Option Addr} {kq2 eq2 : Nat} {sq3 : Bool} {aq3 : Option Addr} {nq3 cq3 : Nat} {dq3 : Option Addr} {kq3 eq3 : Nat} {sq4 : Bool} {aq4 : Option Addr} {nq4 cq4 : Nat} {dq4 : Option Addr} {kq4 eq4 : Nat} {sz : Bool} {az : Option Addr} {nz cz : Nat} {dz : Option Addr} {kz ez : Nat} (hX9 : HX (tbm tb) w9) (bp9 : Bx w9 bp #[.bool sq1, .slice aq1 nq1 cq1, .slice dq1 kq1 eq1, .bool sq2, .slice aq2 nq2 cq2, .slice dq2 kq2 eq2, .bool p.lo.isNone, .bool p.hi.isNone, .bool sq3, .slice aq3 nq3 cq3, .slice dq3 kq3 eq3, .bool sq4, .slice aq4 nq4 cq4, .slice dq4 kq4 eq4] 40) (bz9 : Bx w9 bz #[.bool sz, .slice az nz cz, .slice dz kz ez] 38) (hz9 : QC (mk (tbm tb) w9) (.agg #[.bool sz, .slice az nz cz, .slice dz kz ez]) z) (hzq : hq z <= 2) (hg : GoodP 1000000000 p)
    (qq1 : QC (mk (tbm tb) w9) (.agg #[.bool sq1, .slice aq1 nq1 cq1, .slice dq1 kq1 eq1]) (p.lo.getD 0)) (qq2 : QC (mk (tbm tb) w9) (.agg #[.bool sq2, .slice aq2 nq2 cq2, .slice dq2 kq2 eq2]) (p.hi.getD 0)) (qq3 : QC (mk (tbm tb) w9) (.agg #[.bool sq3, .slice aq3 nq3 cq3, .slice dq3 kq3 eq3]) p.a) (qq4 : QC (mk (tbm tb) w9) (.agg #[.bool sq4, .slice aq4 nq4 cq4, .slice dq4 kq4 eq4]) p.b) (bv : Nat) (V : Rat) {sv : Bool} {av : Option Addr} {nv cv : Nat} {dv : Option Addr} {kv ev : Nat} (bv9 : Bx w9 bv #[.bool sv, .slice av nv cv, .slice dv kv ev] 38) (hv9 : QC (mk (tbm tb) w9) (.agg #[.bool sv, .slice av nv cv, .slice dv kv ev]) V) (hvq : hq V <= 50000000) (hV : inB p z = true -> p.a + p.b * z = V)
    (hQ : ∀ (u171 u172 u173 u174 u175 u176 u177 u178 : Value) (w' : World), Ext w9 w' -> Q0 ⟨#[c0, c1, c2, c3, c4, c5, c6, c7, c8, c9, c10, (.pointer (some ⟨bz, 0, none⟩)), (.pointer (some ⟨bv, 0, none⟩)), c13, c14, (.pointer (some ⟨bp, 0, none⟩)), (.bool (inB p z)), c17, c18, c19, c20, c21, c22, c23, c24, c25, c26, c27, c28, c29, c30, c31, c32, c33, c34, c35, c36, c37, c38, c39, c40, c41, c42, c43, c44, c45, c46, c47, c48, c49, c50, c51, c52, c53, c54, c55, c56, c57, c58, c59, c60, c61, c62, c63, c64, c65, c66, c67, c68, c69, c70, c71, c72, c73, c74, c75, c76, c77, c78, c79, c80, c81, c82, c83, c84, c85, c86, c87, c88, c89, c90, c91, c92, c93, c94, c95, c96, c97, c98, c99, c100, c101, c102, c103, c104, c105, c106, c107, c108, c109, c110, c111, c112, c113, c114, c115, c116, c117, c118, c119, c120, c121, c122, c123, c124, c125, c126, c127, c128, c129, c130, c131, c132, c133, c134, c135, c136, c137, c138, c139, c140, c141, c142, c143, c144, c145, c146, c147, c148, c149, c150, c151, c152, c153, c154, c155, c156, c157, c158, c159, c160, c161, c162, c163, c164, c165, c166, c167, c168, c169, c170, u171, u172, u173, u174, u175, u176, u177, u178, (.bool false), c180, c181], []⟩ w') :
    Code.wp Tryz.prog (regJ 24) (nrm Q0) ⟨#[c0, c1, c2, c3, c4, c5, c6, c7, c8, c9, c10, (.pointer (some ⟨bz, 0, none⟩)), (.pointer (some ⟨bv, 0, none⟩)), c13, c14, (.pointer (some ⟨bp, 0, none⟩)), (.bool (inB p z)), c17, c18, c19, c20, c21, c22, c23, c24, c25, c26, c27, c28, c29, c30, c31, c32, c33, c34, c35, c36, c37, c38, c39, c40, c41, c42, c43, c44, c45, c46, c47, c48, c49, c50, c51, c52, c53, c54, c55, c56, c57, c58, c59, c60, c61, c62, c63, c64, c65, c66, c67, c68, c69, c70, c71, c72, c73, c74, c75, c76, c77, c78, c79, c80, c81, c82, c83, c84, c85, c86, c87, c88, c89, c90, c91, c92, c93, c94, c95, c96, c97, c98, c99, c100, c101, c102, c103, c104, c105, c106, c107, c108, c109, c110, c111, c112, c113, c114, c115, c116, c117, c118, c119, c120, c121, c122, c123, c124, c125, c126, c127, c128, c129, c130, c131, c132, c133, c134, c135, c136, c137, c138, c139, c140, c141, c142, c143, c144, c145, c146, c147, c148, c149, c150, c151, c152, c153, c154, c155, c156, c157, c158, c159, c160, c161, c162, c163, c164, c165, c166, c167, c168, c169, c170, c171, c172, c173, c174, c175, c176, c177, c178, c179, c180, c181], []⟩ w9 := by
  conv => arg 2; whnf
  obtain ⟨bb, hbb⟩ : ∃ b, inB p z = b := ⟨_, rfl⟩
  rw [hbb] at hV hQ |-
  have hEd : Ext w9 w9.drew := (ExtX.refl w9).drew
  cases bb with
  | false =>
    refine wp_region_K 8 (fun _ => True) (by kernel_rfl) (by kernel_rfl) trivial (fun hHeld hOnce => ?_)
    refine kt 0 hOnce ?_
    refine kt 1 hOnce ?_
    refine ku 2 hOnce ?_
    refine ku 3 hOnce ?_
    refine ku 4 hOnce ?_
    refine ku 5 hOnce ?_
    refine ku 6 hOnce ?_
    refine ku 7 hOnce ?_
    refine kl 8 (fun K hK => ?_)
    go_simp
    refine hK.out _ _ ?_
    clear hK K
    exact hQ _ _ _ _ _ _ _ _ _ hEd
  | true =>
    have hV' := hV rfl
    obtain ⟨lb, hlb⟩ : ∃ b, p.lo.isNone = b := ⟨_, rfl⟩
    obtain ⟨hb, hhb⟩ : ∃ b, p.hi.isNone = b := ⟨_, rfl⟩
    have hLq : LinR (mk (tbm tb) w9) (.agg #[.bool sq1, .slice aq1 nq1 cq1, .slice dq1 kq1 eq1, .bool sq2, .slice aq2 nq2 cq2, .slice dq2 kq2 eq2, .bool lb, .bool hb, .bool sq3, .slice aq3 nq3 cq3, .slice dq3 kq3 eq3, .bool sq4, .slice aq4 nq4 cq4, .slice dq4 kq4 eq4]) p := LinR.of qq1 qq2 qq3 qq4 hlb hhb
    rw [hlb, hhb] at bp9
    have hwS : w9.drew.cell? ⟨bp, 0, none⟩ = some (.bool sq1) /\ w9.drew.cell? ⟨bp, 1, none⟩ = some (.slice aq1 nq1 cq1) /\ w9.drew.cell? ⟨bp, 2, none⟩ = some (.slice dq1 kq1 eq1) /\ w9.drew.cell? ⟨bp, 3, none⟩ = some (.bool sq2) /\ w9.drew.cell? ⟨bp, 4, none⟩ = some (.slice aq2 nq2 cq2) /\ w9.drew.cell? ⟨bp, 5, none⟩ = some (.slice dq2 kq2 eq2) /\ w9.drew.cell? ⟨bp, 6, none⟩ = some (.bool lb) /\ w9.drew.cell? ⟨bp, 7, none⟩ = some (.bool hb) /\ w9.drew.cell? ⟨bp, 8, none⟩ = some (.bool sq3) /\ w9.drew.cell? ⟨bp, 9, none⟩ = some (.slice aq3 nq3 cq3) /\ w9.drew.cell? ⟨bp, 10, none⟩ = some (.slice dq3 kq3 eq3) /\ w9.drew.cell? ⟨bp, 11, none⟩ = some (.bool sq4) /\ w9.drew.cell? ⟨bp, 12, none⟩ = some (.slice aq4 nq4 cq4) /\ w9.drew.cell? ⟨bp, 13, none⟩ = some (.slice dq4 kq4 eq4) /\ w9.drew.cell? ⟨bz, 0, none⟩ = some (.bool sz) /\ w9.drew.cell? ⟨bz, 1, none⟩ = some (.slice az nz cz) /\ w9.drew.cell? ⟨bz, 2, none⟩ = some (.slice dz kz ez) /\ w9.drew.cell? ⟨bv, 0, none⟩ = some (.bool sv) /\ w9.drew.cell? ⟨bv, 1, none⟩ = some (.slice av nv cv) /\ w9.drew.cell? ⟨bv, 2, none⟩ = some (.slice dv kv ev) := ⟨hEd.cell (bp9.cell 0 rfl), hEd.cell (bp9.cell 1 rfl), hEd.cell (bp9.cell 2 rfl), hEd.cell (bp9.cell 3 rfl), hEd.cell (bp9.cell 4 rfl), hEd.cell (bp9.cell 5 rfl), hEd.cell (bp9.cell 6 rfl), hEd.cell (bp9.cell 7 rfl), hEd.cell (bp9.cell 8 rfl), hEd.cell (bp9.cell 9 rfl), hEd.cell (bp9.cell 10 rfl), hEd.cell (bp9.cell 11 rfl), hEd.cell (bp9.cell 12 rfl), hEd.cell (bp9.cell 13 rfl), hEd.cell (bz9.cell 0 rfl), hEd.cell (bz9.cell 1 rfl), hEd.cell (bz9.cell 2 rfl), hEd.cell (bv9.cell 0 rfl), hEd.cell (bv9.cell 1 rfl), hEd.cell (bv9.cell 2 rfl)⟩
    have hXd := hX9.ext hEd
    have c4 := iat (tbm tb) w9.drew _ _ p z hXd (mkx LinR.mono hLq hEd) ((mkx QC.mono hz9 hEd).qv (Nat.le_trans hzq (by decide))) hg (Nat.le_trans hzq (by decide))
    rw [hV'] at c4
    have c6 := hid fun w' u (h : Ext w9.drew w') (hu : QC (mk (tbm tb) w') u V) => (by
      have h0 : V - V = 0 := by grind
      have := rqcompare (tbm tb) w' u _ V V (hXd.ext h) (hu.qv (Nat.le_trans hvq (by decide))) ((mkx QC.mono hv9 (hEd.trans h)).qv (Nat.le_trans hvq (by decide))) (by rw [h0, hq_zero]; decide)
      rw [h0] at this; exact this : Calls Tryz.prog 25 #[u, .agg #[.bool sv, .slice av nv cv, .slice dv kv ev]] w' (IntOut w' 0))
    clear hV hV' hlb hhb hLq qq1 qq2 qq3 qq4 hg bp9 bz9 bv9 hz9 hv9 hzq hvq hbb
    refine wp_region_K 8 (fun w' => w'.cell? ⟨bp, 0, none⟩ = some (.bool sq1) /\ w'.cell? ⟨bp, 1, none⟩ = some (.slice aq1 nq1 cq1) /\ w'.cell? ⟨bp, 2, none⟩ = some (.slice dq1 kq1 eq1) /\ w'.cell? ⟨bp, 3, none⟩ = some (.bool sq2) /\ w'.cell? ⟨bp, 4, none⟩ = some (.slice aq2 nq2 cq2) /\ w'.cell? ⟨bp, 5, none⟩ = some (.slice dq2 kq2 eq2) /\ w'.cell? ⟨bp, 6, none⟩ = some (.bool lb) /\ w'.cell? ⟨bp, 7, none⟩ = some (.bool hb) /\ w'.cell? ⟨bp, 8, none⟩ = some (.bool sq3) /\ w'.cell? ⟨bp, 9, none⟩ = some (.slice aq3 nq3 cq3) /\ w'.cell? ⟨bp, 10, none⟩ = some (.slice dq3 kq3 eq3) /\ w'.cell? ⟨bp, 11, none⟩ = some (.bool sq4) /\ w'.cell? ⟨bp, 12, none⟩ = some (.slice aq4 nq4 cq4) /\ w'.cell? ⟨bp, 13, none⟩ = some (.slice dq4 kq4 eq4) /\ w'.cell? ⟨bz, 0, none⟩ = some (.bool sz) /\ w'.cell? ⟨bz, 1, none⟩ = some (.slice az nz cz) /\ w'.cell? ⟨bz, 2, none⟩ = some (.slice dz kz ez) /\ w'.cell? ⟨bv, 0, none⟩ = some (.bool sv) /\ w'.cell? ⟨bv, 1, none⟩ = some (.slice av nv cv) /\ w'.cell? ⟨bv, 2, none⟩ = some (.slice dv kv ev)) (by kernel_rfl) (by kernel_rfl) hwS (fun hHeld hOnce => ?_)
    refine kt 0 hOnce ?_
    refine kt 1 hOnce ?_
    refine kt 2 hOnce ?_
    refine kt 3 hOnce ?_
    refine kt 5 hOnce ?_
    refine ks 4 (fun K hK => ?_)
    go_simp
    ((with_reducible refine c4.mono ?_); rintro ee wa ⟨ga, ua, rfl, hua⟩; obtain ⟨s6, a6, n6, c6', d6, k6, e6, rfl⟩ := hua.shape)
    refine kcn hK ⟨ga.cell hHeld.1, ga.cell hHeld.2.1, ga.cell hHeld.2.2.1, ga.cell hHeld.2.2.2.1, ga.cell hHeld.2.2.2.2.1, ga.cell hHeld.2.2.2.2.2.1, ga.cell hHeld.2.2.2.2.2.2.1, ga.cell hHeld.2.2.2.2.2.2.2.1, ga.cell hHeld.2.2.2.2.2.2.2.2.1, ga.cell hHeld.2.2.2.2.2.2.2.2.2.1, ga.cell hHeld.2.2.2.2.2.2.2.2.2.2.1, ga.cell hHeld.2.2.2.2.2.2.2.2.2.2.2.1, ga.cell hHeld.2.2.2.2.2.2.2.2.2.2.2.2.1, ga.cell hHeld.2.2.2.2.2.2.2.2.2.2.2.2.2.1, ga.cell hHeld.2.2.2.2.2.2.2.2.2.2.2.2.2.2.1, ga.cell hHeld.2.2.2.2.2.2.2.2.2.2.2.2.2.2.2.1, ga.cell hHeld.2.2.2.2.2.2.2.2.2.2.2.2.2.2.2.2.1, ga.cell hHeld.2.2.2.2.2.2.2.2.2.2.2.2.2.2.2.2.2.1, ga.cell hHeld.2.2.2.2.2.2.2.2.2.2.2.2.2.2.2.2.2.2.1, ga.cell hHeld.2.2.2.2.2.2.2.2.2.2.2.2.2.2.2.2.2.2.2⟩ (fun hHeld => ?_)
    clear hK K
    refine ks 6 (fun K hK => ?_)
    go_simp
    ((with_reducible refine (c6.out wa _ ga hua).mono ?_); rintro ee wb ⟨gb, rfl⟩)
    refine kcn hK ⟨gb.cell hHeld.1, gb.cell hHeld.2.1, gb.cell hHeld.2.2.1, gb.cell hHeld.2.2.2.1, gb.cell hHeld.2.2.2.2.1, gb.cell hHeld.2.2.2.2.2.1, gb.cell hHeld.2.2.2.2.2.2.1, gb.cell hHeld.2.2.2.2.2.2.2.1, gb.cell hHeld.2.2.2.2.2.2.2.2.1, gb.cell hHeld.2.2.2.2.2.2.2.2.2.1, gb.cell hHeld.2.2.2.2.2.2.2.2.2.2.1, gb.cell hHeld.2.2.2.2.2.2.2.2.2.2.2.1, gb.cell hHeld.2.2.2.2.2.2.2.2.2.2.2.2.1, gb.cell hHeld.2.2.2.2.2.2.2.2.2.2.2.2.2.1, gb.cell hHeld.2.2.2.2.2.2.2.2.2.2.2.2.2.2.1, gb.cell hHeld.2.2.2.2.2.2.2.2.2.2.2.2.2.2.2.1, gb.cell hHeld.2.2.2.2.2.2.2.2.2.2.2.2.2.2.2.2.1, gb.cell hHeld.2.2.2.2.2.2.2.2.2.2.2.2.2.2.2.2.2.1, gb.cell hHeld.2.2.2.2.2.2.2.2.2.2.2.2.2.2.2.2.2.2.1, gb.cell hHeld.2.2.2.2.2.2.2.2.2.2.2.2.2.2.2.2.2.2.2⟩ (fun hHeld => ?_)
    clear hK K
    refine kt 7 hOnce ?_
    refine kl 8 (fun K hK => ?_)
    go_simp
    refine hK.out _ _ ?_
    clear hK K
    exact hQ _ _ _ _ _ _ _ _ _ (hEd.trans (ga.trans gb))
end Go.Proofs.YtgimdkjgaemcbaaGreat
namespace Go.Proofs.YtgimdkjgaemcbaaGreat
open Go.RowKit Go.Rep Go.Lim Go.Lin
set_option maxRecDepth 100000 in
set_option maxHeartbeats 6400000 in
theorem joins_any (lo : Option Addr) (l : List Int) (cl : Nat) (w : World) (hl : Sl (IntIn .i64) 1 w.cell? lo l) (hcl : l.length <= cl) (hlb : l.length <= 9223372036854775807) :
    Calls Tryz.prog 4 #[.slice lo l.length cl] w (BOut w true) := by
  go_enter Tryz.func4, Tryz.ntmps4
  go_wp2_with fail
  refine (tnew_any lo l cl w hl hcl hlb).mono ?_
  rintro e w1 ⟨rfl, hE1, ht1, hsz1⟩
  obtain ⟨tb, htb⟩ : ∃ tb, w.heap.size = tb := ⟨_, rfl⟩
  have hX1 : HX (tbm tb) w1 := fun k hk => by
    have : k = tb := by simpa [tbm] using hk
    omega
  have hfin := hid (fun w2 (h : ExtX (tbm tb) w1 w2) => iw_ext htb hE1 h)
  rw [htb] at ht1 |-
  clear hE1 hsz1 htb hl
  go_wp2_with fail
  refine (tvalues_any (tbm tb) tb 8 w1 ht1 hX1 (by decide) (by decide)).mono ?_
  rintro e w2 ⟨hE2, vo, x, vc, rfl, hvc, hx1, hx8, hxB, ht2', hO2⟩
  have ht2 := ht2'.unX ht1.1
  have hX2 := hX1.ext hE2
  have hsv := (hO2.sl QC.elem).qv (fun q hq => Nat.le_trans (hxB q hq) (by decide))
  have hxne : x ≠ [] := fun h => by subst h; simp at hx1
  have hhv := hsv.hd
  obtain ⟨n, hn⟩ : ∃ n, x.length = n := ⟨_, rfl⟩
  have hn' := hid hn
  rw [hn] at hvc hx1 hx8 hhv |-
  clear ht1 hX1 ht2' hO2
  go_wp2_with fail
  refine (tfitting_any (tbm tb) tb n w2 ht2 hX2 (by omega) (by omega)).mono ?_
  rintro e w3 ⟨hE3, ht3, k, t, rfl, hk, hf, htn⟩
  have hX3 := hX2.ext hE3
  have hF3 := hE2.trans hE3
  have hs3 := hsv.mono QV.mono (mk_mono hE3 (fun _ h => h))
  have bl0 := Bx.new w3 #[.int .i64 0, .int .i64 0] 28
  have hcrv := hid fun w' (hX : HX (tbm tb) w') (hs : Sl QV 3 (mk (tbm tb) w') vo x) => icurve_ok (tbm tb) w' (.slice vo n vc) k t x 2 hX ⟨vo, vc, by rw [hn'.out], by rw [hn'.out]; exact hvc, hs⟩ hk (by rw [hn'.out]; exact hf) (by rw [hn'.out]; omega) hxB (by decide)
  have hgood := hid (crv_good (k := k) (t := t) hxB (by rw [hn'.out]; omega) (by decide))
  have hchn := hid (crv_chn hk (by rw [hn'.out]; exact fits_more hf) hxne)
  obtain ⟨L, hL⟩ : ∃ L, crvL k t x = L := ⟨_, rfl⟩
  have hL' := hid hL
  rw [hL] at hcrv hgood hchn
  have hLne : 0 < L.length := List.length_pos_iff.2 hchn.out.ne
  obtain ⟨N, hN⟩ : ∃ N, L.length = N := ⟨_, rfl⟩
  have hN' := hid hN
  rw [hN] at hLne
  have hNn : N <= n + 1 := by
    have h1 := mrgP_len (fun z => estL k t (x ++ [z])) (dd (srt x)) ((dd (srt x)).length + 1)
    have h2 := dd_len (srt x)
    rw [srt_len, hn'.out] at h2
    have h3 : (crvL k t x).length = N := by rw [hL'.out, hN]
    have h4 : (crvL k t x).length <= (dd (srt x)).length + 1 := h1
    omega
  have hkf := hid (And.intro hk hf)
  clear hL hE2 hE3 hX2 ht2 hsv hn
  go_wp2_with (first | ((with_reducible show wpList _ _ _ (⟨_, .store 28 _ _, _, _, _, _⟩ :: _) _ _); refine st_storeBox stLoc rfl rfl bl0 rfl rfl (by simp [Value.oneCell']) ?_; intro w4 bl4 y4) | ((with_reducible show wpList _ _ _ (⟨_, .load 28 _, _, _, _, _⟩ :: _) _ _); refine st_loadBox stLoc rfl bl4 rfl ?_))
  have hE4 : Ext w3 w4 := ExtX.box ((ExtX.refl w3).alloc _) y4 (Nat.le_refl _)
  have hX4 := hX3.ext hE4
  have hs4 := hs3.mono QV.mono (mk_ext hE4)
  have ht4 := ht3.ext hE4
  have hF4 := hF3.trans (ExtX.of hE4)
  obtain ⟨bl, hbl⟩ : ∃ bl, w3.heap.size = bl := ⟨_, rfl⟩
  rw [hbl] at bl4 |-
  have hblt : bl ≠ tb := by have := ht3.lt; omega
  clear bl0 y4 hs3 hX3 hF3 hE4 ht3 hbl
  refine (hcrv.out w4 hX4 hs4).mono ?_
  rintro e w5 ⟨hE5, co, cc, rfl, hcc, hs5⟩
  have hX5 := hX4.ext hE5
  have hv5 := hs4.mono QV.mono (mk_ext hE5)
  have ht5 := ht4.ext hE5
  have hF5 := hF4.trans (ExtX.of hE5)
  have bl5 := bl4.ext0 hE5
  have hhc := hs5.hd
  rw [hN] at hcc hhc |-
  have hN0 : ((N : Int) == 0) = false := beqF (by omega)
  have ewN : IntKind.i64.wrap ((N : Int) - 1) = (N : Int) - 1 := IntWalk.i64_in _ (by omega)
  have hz0 : 0 < L.length := by rw [hN'.out]; exact hLne
  have hzN : N - 1 < L.length := by rw [hN'.out]; omega
  obtain ⟨g0, o0, sp1, ap1, np1, cp1, dp1, kp1, ep1, sp2, ap2, np2, cp2, dp2, kp2, ep2, sp3, ap3, np3, cp3, dp3, kp3, ep3, sp4, ap4, np4, cp4, dp4, kp4, ep4, hg0, hy0, p01, p02, p03, p04, p05, q01, q02, q03, q04⟩ := hs5.lin 0 hz0
  obtain ⟨gz, oz, sz1, az1, nz1, cz1, dz1, kz1, ez1, sz2, az2, nz2, cz2, dz2, kz2, ez2, sz3, az3, nz3, cz3, dz3, kz3, ez3, sz4, az4, nz4, cz4, dz4, kz4, ez4, hgz, hyz, z01, z02, z03, z04, z05, y01, y02, y03, y04⟩ := hs5.lin (N - 1) hzN
  have i0 : ∀ W, (Instr.indexAt 30 (.slice co N cc) (.int .i64 0)).run Tryz.prog W = .ok (.pointer (some ⟨g0, o0, none⟩)) W := by rw [<- hg0]; exact run_indexAt_adr slLin co N cc .i64 0 hhc hLne
  have iz : ∀ W, (Instr.indexAt 30 (.slice co N cc) (.int .i64 ((N : Int) - 1))).run Tryz.prog W = .ok (.pointer (some ⟨gz, oz, none⟩)) W := by
    rw [<- hgz, show ((N : Int) - 1) = ((N - 1 : Nat) : Int) by omega]; exact run_indexAt_adr slLin co N cc .i64 (N - 1) hhc (by omega)
  clear hE5 hs4 hX4 ht4 hF4 bl4 hN hcrv
  have e0 : L[0].lo = none := chn_first hchn.out hz0
  have ez : (L[N - 1]'hzN).hi = none := by have := chn_last hchn.out hz0; simp only [hN'.out] at this; exact this
  have k06 := (p03.out noY w5 (ExtX.refl _) rfl).1
  have kz7 := (z03.out noY w5 (ExtX.refl _) rfl).2
  rw [e0] at k06
  rw [ez] at kz7
  have k06' : w5.cell? ⟨g0, o0 + 6, none⟩ = some (.bool true) := k06
  have kz7' : w5.cell? ⟨gz, oz + 7, none⟩ = some (.bool true) := kz7
  have hF5' := hid hF5
  have hval := hid fun z (hz : hq z <= 2) M w' u (hX : HX M w') (hu : RV (mk M w') u (x ++ [z])) => (by
    have h1 := ivaluef M w' u k t (x ++ [z]) 2 hX hu (by rw [List.length_append, hn'.out]; simp; omega) (fun q hq => by
      rcases List.mem_append.1 hq with h | h
      · exact hxB q h
      · rw [List.mem_singleton.1 h]; exact hz) (by decide)
    rw [chkE_zero.2 ⟨hkf.out.1, by rw [List.length_append, hn'.out]; exact fits_more hkf.out.2, by rw [List.length_append, hn'.out]; simp; omega⟩] at h1
    unfold QEo okQ at h1
    rw [if_pos rfl] at h1
    exact h1 : Calls Tryz.prog 24 #[.agg #[.int .i64 k, .int .i64 t], u] w' (fun e w'' => Ext w' w'' /\ ∃ u, e = .returned (.tuple #[u, .int .i64 0]) /\ QC (mk M w'') u (estL k t (x ++ [z]))))
  have hvq := hid fun z (hz : hq z <= 2) => (est_hq (k := k) (t := t) (l := x ++ [z]) (B := 2) (fun q hq => by
      rcases List.mem_append.1 hq with h | h
      · exact hxB q h
      · rw [List.mem_singleton.1 h]; exact hz) (by rw [List.length_append, hn'.out]; simp; omega) (by decide) : hq (estL k t (x ++ [z])) <= 50000000)
  clear k06 kz7 p01 p02 p03 p04 p05 z01 z02 z03 z04 z05 q01 q02 q03 q04 y01 y02 y03 y04 e0 ez hg0 hgz hxB hk hf htn
  go_wp2_with fail
  clear k06' kz7' i0 iz
  go_loopw [57] (fun c wr => ∃ i : Nat, c = .int .i64 i /\ i <= N /\ Ext w5 wr) (fun c _ => N - (intOf c).toNat)
  case atStart => exact ⟨0, rfl, Nat.zero_le _, ExtX.refl _⟩
  case round =>
    obtain ⟨i, rfl, hi, hE⟩ := hrel
    have hsr := hs5.mono LinR.mono (mk_ext hE)
    by_cases hlt : i < N
    · have hil : i < L.length := by rw [hN'.out]; exact hlt
      have bx := Bx.new wr linZ 40
      go_wp2_with (first | (with_reducible refine up_ixn slLin (by omega) (by assumption) ?_) | ((with_reducible show wpList _ _ _ (⟨_, .load 40 _, _, _, _, _⟩ :: _) _ _); refine st_loadElem stLin i hsr hil rfl (by simp) LinR.agg ?_; intro u5 hu5; obtain ⟨sq1, aq1, nq1, cq1, dq1, kq1, eq1, sq2, aq2, nq2, cq2, dq2, kq2, eq2, sq3, aq3, nq3, cq3, dq3, kq3, eq3, sq4, aq4, nq4, cq4, dq4, kq4, eq4, rfl, qq1, qq2, qq3, qq4⟩ := hu5) | ((with_reducible show wpList _ _ _ (⟨_, .store 40 _ _, _, _, _, _⟩ :: _) _ _); refine st_storeBox stLin rfl rfl bx rfl rfl one14g ?_; intro w6 r1 r2))
      have hE6 : Ext wr w6 := ExtX.box ((ExtX.refl wr).alloc _) r2 (Nat.le_refl _)
      obtain ⟨bp, hbp⟩ : ∃ bp, wr.heap.size = bp := ⟨_, rfl⟩
      rw [hbp] at r1 |-
      have hEd : Ext w6 w6.drew := (ExtX.refl w6).drew
      have hE6d := hE6.trans hEd
      clear bx r2 hbp
      (try simp only [Act.put])
      go_cut [125] from 62 to 124 (fun q wx => q = .bool false /\ Ext w6 wx)
      case first =>
        rcases Nat.eq_zero_or_pos i with h0 | h0
        · subst h0
          refine wp_region_K 63 (fun _ => True) (by kernel_rfl) (by kernel_rfl) trivial (fun hHeld hOnce => ?_)
          refine kt 0 hOnce ?_
          refine kt 1 hOnce ?_
          refine kt 2 hOnce ?_
          refine ku 3 hOnce ?_
          refine ku 4 hOnce ?_
          refine ku 5 hOnce ?_
          refine ku 6 hOnce ?_
          refine ku 7 hOnce ?_
          refine ku 8 hOnce ?_
          refine ku 9 hOnce ?_
          refine ku 10 hOnce ?_
          refine ku 11 hOnce ?_
          refine ku 12 hOnce ?_
          refine ku 13 hOnce ?_
          refine ku 14 hOnce ?_
          refine ku 15 hOnce ?_
          refine ku 16 hOnce ?_
          refine ku 17 hOnce ?_
          refine ku 18 hOnce ?_
          refine ku 19 hOnce ?_
          refine ku 20 hOnce ?_
          refine ku 21 hOnce ?_
          refine ku 22 hOnce ?_
          refine ku 23 hOnce ?_
          refine ku 24 hOnce ?_
          refine ku 25 hOnce ?_
          refine ku 26 hOnce ?_
          refine ku 27 hOnce ?_
          refine ku 28 hOnce ?_
          refine ku 29 hOnce ?_
          refine ku 30 hOnce ?_
          refine ku 31 hOnce ?_
          refine ku 32 hOnce ?_
          refine ku 33 hOnce ?_
          refine ku 34 hOnce ?_
          refine ku 35 hOnce ?_
          refine ku 36 hOnce ?_
          refine ku 37 hOnce ?_
          refine ku 38 hOnce ?_
          refine ku 39 hOnce ?_
          refine ku 40 hOnce ?_
          refine ku 41 hOnce ?_
          refine ku 42 hOnce ?_
          refine ku 43 hOnce ?_
          refine ku 44 hOnce ?_
          refine ku 45 hOnce ?_
          refine ku 46 hOnce ?_
          refine ku 47 hOnce ?_
          refine ku 48 hOnce ?_
          refine ku 49 hOnce ?_
          refine ku 50 hOnce ?_
          refine ku 51 hOnce ?_
          refine ku 52 hOnce ?_
          refine ku 53 hOnce ?_
          refine ku 54 hOnce ?_
          refine ku 55 hOnce ?_
          refine ku 56 hOnce ?_
          refine ku 57 hOnce ?_
          refine ku 58 hOnce ?_
          refine ku 59 hOnce ?_
          refine ku 60 hOnce ?_
          refine ku 61 hOnce ?_
          refine ku 62 hOnce ?_
          refine kl 63 (fun K hK => ?_)
          go_simp
          refine hK.out _ _ ?_
          clear hK K
          go_wp2_with fail
          go_meet
          case rel => exact ⟨rfl, hEd⟩
        · refine wp_nrm (joins_r10 tb wr w6 L N i co cc bp _ hsr hN' hil h0 (by omega) hhc hchn hgood (hX5.ext hE) r1 hE6 qq1 qq2 qq3 qq4 (fun _ _ _ _ _ _ _ _ _ _ _ _ _ _ _ _ _ _ _ _ _ _ _ _ _ _ _ _ _ _ _ _ _ _ _ _ _ _ _ _ _ _ _ _ _ _ _ _ _ _ _ _ _ _ _ _ _ _ _ _ _ _ _ w' hw' => by
            go_wp2_with fail
            go_meet
            case rel => exact ⟨rfl, hw'⟩))
      case rest =>
        obtain ⟨rfl, hEc⟩ := hcut
        have hE7 := hE.trans (hE6.trans hEc)
        clear hEd hE6d r1 hsr
        go_wp2_with fail
        go_roundw
        case rel => exact ⟨i + 1, by go_num, by omega, hE7⟩
        case measure => simp [intOf]; omega
    · obtain rfl : N = i := by omega
      clear hlt hsr
      go_wp2_with fail
      obtain ⟨wo, hwo⟩ : ∃ wo, wo = wr := ⟨_, rfl⟩
      subst hwo
      have hsO := hs5.mono LinR.mono (mk_ext hE)
      have hvO := hv5.mono QV.mono (mk_ext hE)
      have htO := ht5.ext hE
      have hXO := hX5.ext hE
      have hFO := hF5'.out.trans (ExtX.of hE)
      have blO := bl5.ext0 hE
      clear hE hi hs5 hv5 ht5 hX5 hF5 bl5
      go_loopw [10] (fun c wr => ∃ i : Nat, c = .int .i64 i /\ i <= 4 /\ ExtX (tbm tb) wo wr /\ TapeR (tbm tb) tb wr) (fun c _ => 4 - (intOf c).toNat)
      case atStart => exact ⟨0, rfl, by decide, ExtX.refl _, htO⟩
      case round =>
        obtain ⟨i2, rfl, hi2, hEr, htr⟩ := hrel
        have hXr : HX (tbm tb) wr := hXO.ext hEr
        have hFr := hFO.trans hEr
        by_cases hlt2 : i2 < 4
        · have hsr := hsO.mono LinR.mono (mk_mono hEr fun _ h => h)
          have hvr := hvO.mono QV.mono (mk_mono hEr fun _ h => h)
          have blr := blO.ext hEr (tbm_ne hblt)
          go_wp2_with fail
          refine (trat_any (tbm tb) tb wr htr hXr).mono ?_
          rintro e w6 ⟨hE6, ht6, uz, z, rfl, huz, hzq⟩
          obtain ⟨sz, az, nz, cz, dz, kz, ez, rfl⟩ := huz.shape
          have bz0 := Bx.new w6 #[.bool false, .slice none 0 0, .slice none 0 0] 38
          have hX6 := hXr.ext hE6
          have hF6 := hFr.trans hE6
          have hEo6 := hEr.trans hE6
          have hs6 := hsr.mono LinR.mono (mk_mono hE6 fun _ h => h)
          have hv6 := hvr.mono QV.mono (mk_mono hE6 fun _ h => h)
          have bl6 := blr.ext hE6 (tbm_ne hblt)
          go_upto_region 17 with ((with_reducible show wpList _ _ _ (⟨_, .store 38 _ _, _, _, _, _⟩ :: _) _ _); refine st_storeBox stRat rfl rfl bz0 rfl rfl (one3 _ _ _ _ _ _ _) ?_; intro w7 bz7 yz7)
          have hE7 : Ext w6 w7 := ExtX.box ((ExtX.refl w6).alloc _) yz7 (Nat.le_refl _)
          obtain ⟨bz, hbz⟩ : ∃ bz, w6.heap.size = bz := ⟨_, rfl⟩
          rw [hbz] at bz7 |-
          have hX7 := hX6.ext hE7
          have ht7 := ht6.ext hE7
          have hF7 := hF6.trans (ExtX.of hE7)
          have hEo7 := hEo6.trans (ExtX.of hE7)
          have hs7 := hs6.mono LinR.mono (mk_ext hE7)
          have hv7 := hv6.mono QV.mono (mk_ext hE7)
          have huz7 := mkx QC.mono huz hE7
          have hz7 := huz7.qv (Nat.le_trans hzq (by decide))
          have bl7 := bl6.ext0 hE7
          have hvz := hid (hval.out z hzq)
          have hvqz := hid (hvq.out z hzq)
          have hon := hid fun p (hp : p ∈ L) (h : inB p z = true) => (hchn.out.on p hp z (inB_in h)).symm
          obtain ⟨V, hV⟩ : ∃ V, estL k t (x ++ [z]) = V := ⟨_, rfl⟩
          have hon' := hid fun p (hp : p ∈ L) (h : inB p z = true) => (by have := hon.out p hp h; rw [<- hV]; exact this : p.a + p.b * z = V)
          rw [hV] at hvz hvqz
          clear hV hon bz0 yz7 huz hE7 hX6 ht6 hF6 hEo6 hs6 hv6 bl6 hbz hE6
          (try simp only [Act.put])
          refine wp_nrm (joins_r17 tb w7 x n vo vc bl bz k t z V hX7 hv7 hn' (by omega) bl7 bz7 hz7 hvz (fun _ _ _ _ _ _ _ _ _ _ g w8 sv av nv cv dv kv ev hE8 bg hg hu8 => ?_))
          have hX8 := hX7.ext hE8
          have ht8 := ht7.ext hE8
          have hF8 := hF7.trans (ExtX.of hE8)
          have hEo8 := hEo7.trans (ExtX.of hE8)
          have hs8 := hs7.mono LinR.mono (mk_ext hE8)
          have huz8 := mkx QC.mono huz7 hE8
          have bz8 := bz7.ext0 hE8
          clear hX7 ht7 hF7 hEo7 hs7 huz7 hz7 bz7 bl7 hE8 hv7 hvz
          go_wp2_with fail
          go_loopw [147] (fun c wq => ∃ j : Nat, c = .int .i64 j /\ j <= N /\ Ext w8 wq) (fun c _ => N - (intOf c).toNat)
          case atStart => exact ⟨0, rfl, Nat.zero_le _, ExtX.refl _⟩
          case round =>
            obtain ⟨j, rfl, hj, hEq⟩ := hrel
            have hsq := hs8.mono LinR.mono (mk_ext hEq)
            by_cases hltj : j < N
            · have hjl : j < L.length := by rw [hN'.out]; exact hltj
              have hgj := hgood.out _ (List.getElem_mem hjl)
              have honj := hon'.out _ (List.getElem_mem hjl)
              have bx := Bx.new wr linZ 40
              go_upto_region 23 with (first | (with_reducible refine up_ixn slLin (by omega) (by assumption) ?_) | ((with_reducible show wpList _ _ _ (⟨_, .load 40 _, _, _, _, _⟩ :: _) _ _); refine st_loadElem stLin j hsq hjl rfl (by simp) LinR.agg ?_; intro u5 hu5; obtain ⟨sq1, aq1, nq1, cq1, dq1, kq1, eq1, sq2, aq2, nq2, cq2, dq2, kq2, eq2, sq3, aq3, nq3, cq3, dq3, kq3, eq3, sq4, aq4, nq4, cq4, dq4, kq4, eq4, rfl, qq1, qq2, qq3, qq4⟩ := hu5) | ((with_reducible show wpList _ _ _ (⟨_, .store 40 _ _, _, _, _, _⟩ :: _) _ _); refine st_storeBox stLin rfl rfl bx rfl rfl one14g ?_; intro w9 r1 r2))
              have hE9 : Ext wr w9 := ExtX.box ((ExtX.refl wr).alloc _) r2 (Nat.le_refl _)
              obtain ⟨bp, hbp⟩ : ∃ bp, wr.heap.size = bp := ⟨_, rfl⟩
              rw [hbp] at r1 |-
              have hE89 := hEq.trans hE9
              have hX9 := hX8.ext hE89
              have bz9 := bz8.ext0 hE89
              have bg9 := bg.ext0 hE89
              have hz9 := mkx QC.mono huz8 hE89
              have hv9 := mkx QC.mono hu8 hE89
              have y1 := mkx QC.mono qq1 hE9
              have y2 := mkx QC.mono qq2 hE9
              have y3 := mkx QC.mono qq3 hE9
              have y4 := mkx QC.mono qq4 hE9
              clear bx r2 hbp qq1 qq2 qq3 qq4
              (try simp only [Act.put])
              refine wp_nrm (joins_r23 tb w9 L[j] bp bz z hX9 r1 bz9 hz9 hzq hgj y1 y2 y3 y4 (fun _ _ _ _ _ _ _ _ _ _ _ _ _ _ _ _ _ _ _ _ wa hEa => ?_))
              go_upto_region 24 with fail
              (try simp only [Act.put])
              refine wp_nrm (joins_r24 tb wa L[j] bp bz z (hX9.ext hEa) (r1.ext0 hEa) (bz9.ext0 hEa) (mkx QC.mono hz9 hEa) hzq hgj (mkx QC.mono y1 hEa) (mkx QC.mono y2 hEa) (mkx QC.mono y3 hEa) (mkx QC.mono y4 hEa) g V (bg9.ext0 hEa) (mkx QC.mono hv9 hEa) hvqz.out honj (fun _ _ _ _ _ _ _ _ wb hEb => ?_))
              have hEqb := hE89.trans (hEa.trans hEb)
              go_wp2_with fail
              go_roundw
              case rel => exact ⟨j + 1, by go_num, by omega, hEqb⟩
              case measure => simp [intOf]; omega
            · obtain rfl : N = j := by omega
              go_wp2_with fail
              go_roundw
              case rel => exact ⟨i2 + 1, by go_num, by omega, hEo8.trans (ExtX.of hEq), ht8.ext hEq⟩
              case measure => simp [intOf]; omega
        · obtain rfl : i2 = 4 := by omega
          go_wp2_with (first | (go_at_call 20; (with_reducible refine (awake34_any wr).mono ?_); rintro ee wz ⟨gc, rfl⟩))
          go_ret
          exact ⟨hfin.out _ (hFr.trans (ExtX.of gc)), rfl⟩
end Go.Proofs.YtgimdkjgaemcbaaGreat
