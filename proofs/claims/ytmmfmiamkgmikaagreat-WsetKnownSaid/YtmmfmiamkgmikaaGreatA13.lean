/- The abstract logic, part 13: short forms for walks. -/
import Derived.Test.YtmmfmiamkgmikaaGreatA12
set_option linter.unusedVariables false
set_option linter.unusedSimpArgs false
namespace Go.Abs

section
variable {P : Program} {o : Oper} {s : AS}

/-! ### Whole numbers -/
def iiRes (op : BinOp) (k : IntKind) (X Y : Int) : Option Value :=
  match op with
  | .add => some (.int k (k.wrap (X + Y)))
  | .sub => some (.int k (k.wrap (X - Y)))
  | .mul => some (.int k (k.wrap (X * Y)))
  | .quo => bif Y == 0 then none else some (.int k (k.wrap (X.tdiv Y)))
  | .rem => bif Y == 0 then none else some (.int k (X.tmod Y))
  | .eql => some (.bool (X == Y))
  | .neq => some (.bool (X != Y))
  | .lss => some (.bool (decide (X < Y)))
  | .leq => some (.bool (decide (X ≤ Y)))
  | .gtr => some (.bool (decide (X > Y)))
  | .geq => some (.bool (decide (X ≥ Y)))
  | .and => some (.int k (k.wrap (BitVec.ofInt k.bits X &&& BitVec.ofInt k.bits Y).toNat))
  | .or => some (.int k (k.wrap (BitVec.ofInt k.bits X ||| BitVec.ofInt k.bits Y).toNat))
  | .xor => some (.int k (k.wrap (BitVec.ofInt k.bits X ^^^ BitVec.ofInt k.bits Y).toNat))
  | .andNot => some (.int k (k.wrap (BitVec.ofInt k.bits X &&& ~~~ BitVec.ofInt k.bits Y).toNat))
  | _ => none

theorem ii_run {op : BinOp} {t : TypeId} {x y : Operand} {k : IntKind} {X Y : Int} {Z : Value} (hr : iiRes op k X Y = some Z) (w : World) :
    (do eqGuard op t x y (.int k X) (.int k Y); binOp op t (.int k X) (.int k Y) : Sem Value).run P w = .ok Z w := by
  cases op <;> simp only [iiRes, Option.some.injEq, reduceCtorEq, Bool.cond_eq_ite, beq_iff_eq] at hr
  case quo =>
    by_cases h : Y = 0
    · simp [h] at hr
    · simp [h] at hr; subst hr; simp [eqGuard, binOp, Op.intDiv, h]
  case rem =>
    by_cases h : Y = 0
    · simp [h] at hr
    · simp [h] at hr; subst hr; simp [eqGuard, binOp, Op.intDiv, h]
  all_goals
    subst hr
    simp [eqGuard, binOp, Op.intArith, Op.intCmp, Op.intBits]

theorem core_ii {op : BinOp} {t t' : TypeId} {x y : Operand} {k : IntKind} {X Y : Int} {Z : Value} (ho : o.op = .binOp op t x y t') (hx : evx s x = some (.v (.int k X))) (hy : evx s y = some (.v (.int k Y)))
    (hr : iiRes op k X Y = some Z) : Core P o s [] ⟨.v Z, [], []⟩ :=
  core_bin ho hx hy fun w => ii_run hr w

theorem wrap_i64 {n : Int} (h1 : -9223372036854775808 ≤ n) (h2 : n ≤ 9223372036854775807) : IntKind.i64.wrap n = n := by
  have e1 : (2 : Int) ^ 64 = 18446744073709551616 := rfl
  have e2 : (2 : Int) ^ (64 - 1) = 9223372036854775808 := rfl
  simp only [IntKind.wrap, IntKind.bits, IntKind.signed, Bool.true_and, decide_eq_true_eq, e1, e2]
  split <;> omega
theorem wrap_u64 {n : Int} (h1 : 0 ≤ n) (h2 : n ≤ 18446744073709551615) : IntKind.u64.wrap n = n := by
  simp only [IntKind.wrap, IntKind.bits, IntKind.signed, Bool.false_and]
  simp
  omega

/-- A sum, a difference, a product that stays within int. -/
theorem core_ar {op : BinOp} {t t' : TypeId} {x y : Operand} {X Y Z : Int} (ho : o.op = .binOp op t x y t') (hx : evx s x = some (.i X)) (hy : evx s y = some (.i Y))
    (hr : iiRes op .i64 X Y = some (.int .i64 (IntKind.i64.wrap Z))) (h1 : -9223372036854775808 ≤ Z ∧ Z ≤ 9223372036854775807) : Core P o s [] ⟨.i Z, [], []⟩ := by
  have := core_ii (P := P) ho hx hy hr
  rwa [wrap_i64 h1.1 h1.2] at this

theorem core_sh {op : BinOp} {t t' : TypeId} {x y : Operand} {k k' : IntKind} {X Y : Int} {Z : Value} (ho : o.op = .binOp op t x y t') (hx : evx s x = some (.v (.int k X))) (hy : evx s y = some (.v (.int k' Y))) (h0 : 0 ≤ Y)
    (hr : (match op with | .shl => some (Value.int k (k.wrap (X * 2 ^ (min Y.toNat k.bits)))) | .shr => some (Value.int k (X.fdiv (2 ^ (min Y.toNat k.bits)))) | _ => none) = some Z) : Core P o s [] ⟨.v Z, [], []⟩ := by
  refine core_bin ho hx hy fun w => ?_
  have h : ¬ Y < 0 := by omega
  cases op <;> simp only [Option.some.injEq, reduceCtorEq] at hr
  all_goals
    subst hr
    simp [eqGuard, binOp, Op.shift, h]

theorem core_not {t : TypeId} {x : Operand} {b : Bool} (ho : o.op = .unOp .not t x) (hx : evx s x = some (.b b)) : Core P o s [] ⟨.b (!b), [], []⟩ :=
  core_un ho hx fun w => by simp [Op.unary]

/-! ### Guards -/
theorem evx_on {x : Operand} {g : Bool} {d e : D} (hg : g = true) (h : evx s x = some (bif g then d else e)) : evx s x = some d := by subst hg; exact h

/-- What a guard's datum comes to. -/
inductive Gd : D → Bool → Bool → Prop
  | t (g : Bool) : Gd (.b g) true g
  | f (g : Bool) : Gd (.b g) false (!g)
  | tt (g x : Bool) : Gd (bif g then .b x else .v undef) true (g && x)
  | tf (g x : Bool) : Gd (bif g then .b x else .v undef) false (g && !x)

theorem Gd.exact {dg : D} {want g : Bool} (h : Gd dg want g) : Exact dg ∧ gB dg want = g := by
  cases h with
  | t g => exact ⟨.v _, by cases g <;> rfl⟩
  | f g => exact ⟨.v _, by cases g <;> rfl⟩
  | tt g x => cases g <;> cases x <;> exact ⟨.v _, rfl⟩
  | tf g x => cases g <;> cases x <;> exact ⟨.v _, rfl⟩

theorem Loc.g {ops : Array Oper} {foot : List Nat} {j : Nat} {want : Bool} {t : Nat} {dg d : D} {g : Bool} (hg : o.guard = some (j, want)) (hj : (ops[j]?).bind (·.dst) = some t) (hd : s.slot t = some dg) (ht : Nat.blt t s.N = true) (hb : Gd dg want g)
    (h : g = true → Core P o s foot ⟨d, [], []⟩) : Loc P ops o s foot ⟨bif g then d else .v undef, [], []⟩ :=
  Loc.guard hg hj hd hb.exact.1 (by simpa using ht) hb.exact.2 h

theorem core_and {c x y : Operand} {g X : Bool} (ho : o.op = .pick c x y) (hc : evx s c = some (.b g)) (hx : evx s x = some (bif g then .b X else .v undef)) (hy : evx s y = some (.b false)) : Core P o s [] ⟨.b (g && X), [], []⟩ :=
  core_pick ho hc hx hy (by cases g <;> rfl)
theorem core_or {c x y : Operand} {g X : Bool} (ho : o.op = .pick c x y) (hc : evx s c = some (.b g)) (hx : evx s x = some (.b true)) (hy : evx s y = some (bif !g then .b X else .v undef)) : Core P o s [] ⟨.b (g || X), [], []⟩ :=
  core_pick ho hc hx hy (by cases g <;> rfl)
theorem core_andG {c x y : Operand} {g0 g X : Bool} {d : D} (h0 : g0 = true) (ho : o.op = .pick c x y) (hc : evx s c = some (bif g0 then .b g else d)) (hx : evx s x = some (bif (g0 && g) then .b X else .v undef)) (hy : evx s y = some (.b false)) : Core P o s [] ⟨.b (g && X), [], []⟩ := by
  subst h0
  exact core_pick ho hc hx hy (by cases g <;> rfl)
theorem core_orG {c x y : Operand} {g0 g X : Bool} {d : D} (h0 : g0 = true) (ho : o.op = .pick c x y) (hc : evx s c = some (bif g0 then .b g else d)) (hx : evx s x = some (.b true)) (hy : evx s y = some (bif (g0 && !g) then .b X else .v undef)) : Core P o s [] ⟨.b (g || X), [], []⟩ := by
  subst h0
  exact core_pick ho hc hx hy (by cases g <;> rfl)
end

/-! ### Regions, step by step -/
/-- What is left of a region; acc: what its first operations did, the newest first. -/
def RW (P : Program) (ops : Array Oper) (todo : List Oper) (s : AS) (acc : List (List Nat × Eff)) (K : List (List Nat × Eff) → AS → Prop) : Prop :=
  ∃ es s', Run P ops todo s es s' ∧ K (acc.reverse ++ es) s'

section
variable {P : Program} {ops : Array Oper} {o : Oper} {os : List Oper} {sl : List (Nat × D)} {st : List (Nat × Option Obj)} {nx N : Nat} {f : List Nat} {acc : List (List Nat × Eff)} {K : List (List Nat × Eff) → AS → Prop}

theorem RW.nil {s : AS} (h : K acc.reverse s) : RW P ops [] s acc K := ⟨[], s, .nil s, by simpa using h⟩

theorem RW.cons {s : AS} {e : Eff} (hd : ∀ t, o.dst = some t → t < s.N) (hn : ∀ r ∈ e.news, s.nx ≤ r) (h : Loc P ops o s f e) (ht : RW P ops os (e.app o.dst s) ((f, e) :: acc) K) : RW P ops (o :: os) s acc K := by
  obtain ⟨es, s', h1, h2⟩ := ht
  exact ⟨(f, e) :: es, s', .cons hd hn h h1, by simpa using h2⟩

theorem RW.p {t : Nat} {d : D} (ho : o.dst = some t) (hN : Nat.blt t N = true) (h : Loc P ops o ⟨sl, st, nx, N⟩ f ⟨d, [], []⟩) (ht : RW P ops os ⟨(t, d) :: sl, st, nx, N⟩ ((f, ⟨d, [], []⟩) :: acc) K) :
    RW P ops (o :: os) ⟨sl, st, nx, N⟩ acc K := by
  refine .cons (fun t' h' => ?_) (by simp) h ?_
  · rw [ho] at h'; cases h'; simpa using hN
  · simpa [ho, Eff.app, putS, bump] using ht

theorem RW.a {t : Nat} {d : D} {ob : Obj} {sets : List (Nat × Option Obj)} (ho : o.dst = some t) (hN : Nat.blt t N = true) (h : Loc P ops o ⟨sl, st, nx, N⟩ f ⟨d, (nx, some ob) :: sets, [nx]⟩)
    (ht : RW P ops os ⟨(t, d) :: sl, (nx, some ob) :: (sets ++ st), nx + 1, N⟩ ((f, ⟨d, (nx, some ob) :: sets, [nx]⟩) :: acc) K) : RW P ops (o :: os) ⟨sl, st, nx, N⟩ acc K := by
  refine .cons (fun t' h' => ?_) (by simp) h ?_
  · rw [ho] at h'; cases h'; simpa using hN
  · simpa [ho, Eff.app, putS, bump, Nat.max_eq_right (Nat.le_succ nx)] using ht

/-- A write. -/
theorem RW.w {d : D} {sets : List (Nat × Option Obj)} (ho : o.dst = none) (h : Loc P ops o ⟨sl, st, nx, N⟩ f ⟨d, sets, []⟩) (ht : RW P ops os ⟨sl, sets ++ st, nx, N⟩ ((f, ⟨d, sets, []⟩) :: acc) K) :
    RW P ops (o :: os) ⟨sl, st, nx, N⟩ acc K := by
  refine .cons (fun t' h' => ?_) (by simp) h ?_
  · rw [ho] at h'; cases h'
  · simpa [ho, Eff.app, putS, bump] using ht

/-- Whatever it does. -/
theorem RW.e {t : Nat} {d : D} {sets : List (Nat × Option Obj)} {news : List Nat} (ho : o.dst = some t) (hN : Nat.blt t N = true) (hn : ∀ r ∈ news, nx ≤ r) (h : Loc P ops o ⟨sl, st, nx, N⟩ f ⟨d, sets, news⟩)
    (ht : RW P ops os ⟨(t, d) :: sl, sets ++ st, bump nx news, N⟩ ((f, ⟨d, sets, news⟩) :: acc) K) : RW P ops (o :: os) ⟨sl, st, nx, N⟩ acc K := by
  refine .cons (fun t' h' => ?_) hn h ?_
  · rw [ho] at h'; cases h'; simpa using hN
  · simpa [ho, Eff.app, putS] using ht
end

/-! ### Code, step by step -/
section
variable {P : Program} {n : Nat} {s s' : AS} {Q : Exit → AS → Prop} {y : Code}

theorem CW.sr {id : Nat} {l : List Oper} (h : RW P l.toArray l s [] (fun _ s' => CW P n y s' Q)) : CW P n (.seq (.region id l.toArray false) y) s Q := by
  obtain ⟨es, s', h1, h2⟩ := h
  exact .seq (.region h1 h2)
theorem CW.sd {id : Nat} {l : List Oper} (hm : P.follows .mixedOrders = true) (h : RW P l.toArray l s [] (fun es s' => chkAll l.toArray (masks l []) 0 (feet l es) = true ∧ CW P n y s' Q)) : CW P n (.seq (.region id l.toArray true) y) s Q := by
  obtain ⟨es, s', h1, h2, h3⟩ := h
  exact .seq (.draw hm h1 h2 h3)
theorem CW.lr {id : Nat} {l : List Oper} (h : RW P l.toArray l s [] (fun _ s' => Q .normal s')) : CW P n (.region id l.toArray false) s Q := by
  obtain ⟨es, s', h1, h2⟩ := h
  exact .region h1 h2
theorem CW.ld {id : Nat} {l : List Oper} (hm : P.follows .mixedOrders = true) (h : RW P l.toArray l s [] (fun es s' => chkAll l.toArray (masks l []) 0 (feet l es) = true ∧ Q .normal s')) : CW P n (.region id l.toArray true) s Q := by
  obtain ⟨es, s', h1, h2, h3⟩ := h
  exact .draw hm h1 h2 h3
theorem CW.sc {c : Operand} {a b : Code} {g : Bool} (hc : evx s c = some (.b g)) (ht : g = true → CW P n a s (thenQ (fun s' => CW P n y s' Q) Q)) (hf : g = false → CW P n b s (thenQ (fun s' => CW P n y s' Q) Q)) : CW P n (.seq (.cond c a b) y) s Q :=
  .seq (.cond hc ht hf)
/-- Behind a test whose arms go on, less is known. -/
theorem CW.sj {c : Operand} {a b : Code} {g : Bool} (E : AS) (hc : evx s c = some (.b g)) (ht : g = true → CW P n a s (thenQ (fun s' => Wk n E s') Q)) (hf : g = false → CW P n b s (thenQ (fun s' => Wk n E s') Q)) (h : CW P n y E Q) : CW P n (.seq (.cond c a b) y) s Q := by
  refine .seq ((CW.cond hc ht hf).mono fun x s' hx => ?_)
  cases x with
  | normal => exact CW.weak hx h
  | _ => exact hx
end

/-! ### Lists by whole numbers -/
/-- What stands at a place (the default one outside). -/
def ix {α : Type} [Inhabited α] (l : List α) (i : Int) : α := l.getD i.toNat default
theorem ix_map {α : Type} [Inhabited α] {l : List α} {g : α → List D} {i : Int} (h0 : 0 ≤ i) (h1 : i < l.length) : (l.map g)[i.toNat]? = some (g (ix l i)) := by
  have : i.toNat < l.length := by omega
  simp [ix, this]
theorem ix_cast {α : Type} [Inhabited α] {l : List α} {i : Nat} (h : i < l.length) : ix l (i : Int) = l[i] := by simp [ix, h]
section
variable {P : Program} {o : Oper} {s : AS}
theorem core_ia {t e es : Nat} [Slc P t e es] {x iy : Operand} {α : Type} [Inhabited α] {l : List α} {g : α → List D} {k : IntKind} {i : Int} (ho : o.op = .indexAddr t x iy)
    (hx : evx s x = some (.sl es (l.map g))) (hi : evx s iy = some (.v (.int k i))) (h0 : 0 ≤ i ∧ i < l.length) : Core P o s [] ⟨.bp (g (ix l i)), [], []⟩ :=
  core_indexAddr_sl ho hx hi h0.1 (ix_map h0.1 h0.2)
theorem core_lm {t e es : Nat} [h : Slc P t e es] {x : Operand} {es' : Nat} {α : Type} {l : List α} {g : α → List D} (ho : o.op = .call { callee := .builtin .len, args := #[x], argTypes := #[t] })
    (hx : evx s x = some (.sl es' (l.map g))) : Core P o s [] ⟨.i l.length, [], []⟩ := by
  have := core_len_sl (P := P) ho hx
  simpa using this
/-- Two Booleans, two strings. -/
class TyBool (P : Program) (t : TypeId) : Prop where
  bool : P.underlying t = some .bool
theorem core_bb {op : BinOp} {t t' : TypeId} [h : TyBool P t] {x y : Operand} {X Y : Bool} {Z : Bool} (ho : o.op = .binOp op t x y t') (hx : evx s x = some (.b X)) (hy : evx s y = some (.b Y))
    (hr : (match op with | .eql => some (X == Y) | .neq => some (X != Y) | _ => none) = some Z) : Core P o s [] ⟨.b Z, [], []⟩ := by
  refine core_bin ho hx hy fun w => ?_
  cases op <;> simp only [Option.some.injEq, reduceCtorEq] at hr
  all_goals
    subst hr
    simp [eqGuard, binOp, run_equal_bool w t X Y h.bool]
  all_goals cases X <;> cases Y <;> rfl
class TyInt (P : Program) (t : TypeId) (k : outParam IntKind) : Prop where
  int : P.underlying t = some (.int k)
theorem core_ci {src dst : TypeId} {k0 k : IntKind} [h0 : TyInt P src k0] [h : TyInt P dst k] {x : Operand} {k1 : IntKind} {X : Int} (ho : o.op = .convert src dst x) (hx : evx s x = some (.v (.int k1 X))) : Core P o s [] ⟨.v (.int k (k.wrap X)), [], []⟩ := by
  refine core_conv ho hx fun w => ?_
  simp [convert, run_underlying h0.int, run_underlying h.int, Conv.intToInt]
end

/-! ### Names in data, told step by step -/
theorem Refs.nilc {A : Nat → Prop} : Refs A (.agg []) := .agg [] (by simp)
theorem Refs.cons {A : Nat → Prop} {d : D} {l : List D} (h : Refs A d) (t : Refs A (.agg l)) : Refs A (.agg (d :: l)) := .agg _ fun e he => by
  rcases List.mem_cons.1 he with rfl | he
  · exact h
  · exact t.agg_inv e he
theorem Refs.mapv {A : Nat → Prop} {α : Type} {l : List α} {g : α → Value} : Refs A (.agg (l.map fun x => .v (g x))) := .agg _ fun e he => by
  obtain ⟨x, _, rfl⟩ := List.mem_map.1 he
  exact .v _
theorem Refs.tupn {A : Nat → Prop} : Refs A (.tup []) := .tup [] (by simp)
theorem Refs.tupc {A : Nat → Prop} {d : D} {l : List D} (h : Refs A d) (t : Refs A (.tup l)) : Refs A (.tup (d :: l)) := .tup _ fun e he => by
  rcases List.mem_cons.1 he with rfl | he
  · exact h
  · exact t.tup_inv e he
def RefsL (A : Nat → Prop) : List D → Prop
  | [] => True
  | d :: l => Refs A d ∧ RefsL A l
theorem RefsL.all {A : Nat → Prop} : ∀ {l : List D}, RefsL A l → ∀ d ∈ l, Refs A d
  | [], _, d, h => by simp at h
  | e :: l, h, d, hd => by
    rcases List.mem_cons.1 hd with rfl | hd
    · exact h.1
    · exact h.2.all d hd

def RowsR (A : Nat → Prop) (rows : List (List D)) : Prop := ∀ row ∈ rows, ∀ d ∈ row, Refs A d
theorem RowsR.nil {A : Nat → Prop} : RowsR A [] := fun row h => by simp at h
theorem RowsR.cons {A : Nat → Prop} {row : List D} {l : List (List D)} (h : Refs A (.agg row)) (t : RowsR A l) : RowsR A (row :: l) := fun r hr => by
  rcases List.mem_cons.1 hr with rfl | hr
  · exact h.agg_inv
  · exact t r hr
theorem RowsR.map {A : Nat → Prop} {α : Type} {l : List α} {g : α → List D} (h : ∀ x, Refs A (.agg (g x))) : RowsR A (l.map g) := fun r hr => by
  obtain ⟨x, _, rfl⟩ := List.mem_map.1 hr
  exact (h x).agg_inv
theorem RowsR.app {A : Nat → Prop} {l m : List (List D)} (h : RowsR A l) (k : RowsR A m) : RowsR A (l ++ m) := fun r hr => by
  rcases List.mem_append.1 hr with hr | hr
  · exact h r hr
  · exact k r hr
/-- Does each slot that is told of stand so? -/
def SlIn (s : AS) : List (Nat × D) → Prop
  | [] => True
  | (t, d) :: l => s.slot t = some d ∧ SlIn s l
def StIn (s : AS) (nx : Nat) : List (Nat × Option Obj) → Prop
  | [] => True
  | (r, some o) :: l => s.obj r = some o ∧ r < nx ∧ RowsR (· < nx) o.rows ∧ StIn s nx l
  | (_, none) :: l => StIn s nx l
def SlRefs (nx : Nat) : List (Nat × D) → Prop
  | [] => True
  | (_, d) :: l => Refs (· < nx) d ∧ SlRefs nx l
theorem SlIn.get {s : AS} : ∀ {l : List (Nat × D)}, SlIn s l → ∀ t d, find t l = some d → s.slot t = some d
  | [], _, t, d, h => by simp [find] at h
  | (t', d') :: l, h, t, d, hd => by
    rw [find_cons] at hd
    split at hd
    · rename_i e; subst e; cases hd; exact h.1
    · exact h.2.get t d hd
theorem StIn.get {s : AS} {nx : Nat} : ∀ {l : List (Nat × Option Obj)}, StIn s nx l → ∀ r o, (find r l).join = some o → s.obj r = some o ∧ r < nx ∧ ∀ row ∈ o.rows, ∀ d ∈ row, Refs (· < nx) d
  | [], _, r, o, h => by simp [find] at h
  | (r', some o') :: l, h, r, o, ho => by
    rw [find_cons] at ho
    split at ho
    · rename_i e; subst e; cases ho; exact ⟨h.1, h.2.1, h.2.2.1⟩
    · exact h.2.2.2.get r o ho
  | (r', none) :: l, h, r, o, ho => by
    rw [find_cons] at ho
    split at ho
    · cases ho
    · exact StIn.get (l := l) h r o ho
theorem SlRefs.get {nx : Nat} : ∀ {l : List (Nat × D)}, SlRefs nx l → ∀ t d, find t l = some d → Refs (· < nx) d
  | [], _, t, d, h => by simp [find] at h
  | (t', d') :: l, h, t, d, hd => by
    rw [find_cons] at hd
    split at hd
    · cases hd; exact h.1
    · exact h.2.get t d hd
theorem Weak.of {n nx N : Nat} {s : AS} {sl : List (Nat × D)} {st : List (Nat × Option Obj)} (hN : N = s.N) (h1 : Nat.ble n nx = true) (h2 : Nat.ble nx s.nx = true) (hs : SlIn s sl) (ho : StIn s nx st) (hr : SlRefs nx sl) : Wk n ⟨sl, st, nx, N⟩ s :=
  Weak.wk ⟨hN, ⟨by simpa using h1, by simpa using h2⟩, fun t d h => hs.get t d h, fun r o h => (ho.get r o h).1, fun r o h => (ho.get r o h).2.1, fun t d h => hr.get t d h, fun r o row d h h1 h2 => (ho.get r o h).2.2 row h1 d h2⟩

/-! ### Loops -/
def roundQ {ι : Type} (n id : Nat) (I : ι → Prop) (E : ι → AS) (μ : ι → Nat) (i : ι) (next : AS → Prop) (Q : Exit → AS → Prop) : Exit → AS → Prop
  | .normal, s => ∃ j, I j ∧ μ j < μ i ∧ Wk n (E j) s
  | .exit k, s => if k = id then next s else Q (.exit k) s
  | x, s => Q x s

theorem CW.bl {P : Program} {n : Nat} {s : AS} {Q : Exit → AS → Prop} {ι : Type} (I : ι → Prop) (E : ι → AS) (μ : ι → Nat) (i : ι) {id : Nat} {c y : Code} (h0 : I i) (hw : Wk n (E i) s)
    (h : ∀ i, I i → CW P n c (E i) (roundQ n id I E μ i (fun s' => CW P n y s' Q) Q)) : CW P n (.seq (.block id (.loop c)) y) s Q := by
  refine .seq (.block (CW.loop (ι := { i : ι // I i }) (fun i => E i.1) (fun i => μ i.1) ⟨i, h0⟩ hw fun i => (h i.1 i.2).mono fun x s' hx => ?_))
  cases x with
  | normal =>
    obtain ⟨j, h1, h2, h3⟩ := hx
    exact ⟨⟨j, h1⟩, h3, h2⟩
  | exit k =>
    simp only [roundQ] at hx
    simp only [blockQ]
    split
    · rename_i e; rw [if_pos e] at hx; exact hx
    · rename_i e; rw [if_neg e] at hx; exact hx
  | _ => exact hx
theorem CW.bn {P : Program} {n : Nat} {s : AS} {Q : Exit → AS → Prop} {ι : Type} (I : ι → Prop) (E : ι → AS) (μ : ι → Nat) (i : ι) {id : Nat} {c : Code} (h0 : I i) (hw : Wk n (E i) s)
    (h : ∀ i, I i → CW P n c (E i) (roundQ n id I E μ i (fun s' => Q .normal s') Q)) : CW P n (.block id (.loop c)) s Q := by
  refine .block (CW.loop (ι := { i : ι // I i }) (fun i => E i.1) (fun i => μ i.1) ⟨i, h0⟩ hw fun i => (h i.1 i.2).mono fun x s' hx => ?_)
  cases x with
  | normal =>
    obtain ⟨j, h1, h2, h3⟩ := hx
    exact ⟨⟨j, h1⟩, h3, h2⟩
  | exit k =>
    simp only [roundQ] at hx
    simp only [blockQ]
    split
    · rename_i e; rw [if_pos e] at hx; exact hx
    · rename_i e; rw [if_neg e] at hx; exact hx
  | _ => exact hx
/-- A block that is no loop: what leaves it by its number goes on behind it. -/
theorem CW.bk {P : Program} {n : Nat} {s : AS} {Q : Exit → AS → Prop} {id : Nat} {c y : Code} (h : CW P n c s (blockQ id (thenQ (fun s' => CW P n y s' Q) Q))) : CW P n (.seq (.block id c) y) s Q :=
  .seq (.block h)

/-! ### Ends -/
theorem Kept.none (s : AS) : Kept s [] [] := ⟨rfl, .nil, fun i r o h => by simp at h⟩
theorem Ends.v {P : Program} {fn : Func} {s : AS} {x : Exit} {ds : List D} {d : D} (hx : x = .normal ∨ x = .ret) (h : ResL P s fn.results.toList ds) (he : retD ds = d) (hn : NoRef d) : Ends P fn d [] x s :=
  ⟨hx, ds, [], h, by rw [he]; exact .same hn, Kept.none s⟩

theorem New.of' {P : Program} {f : FuncId} {fn : Func} {c : Code} {args : List D} {d : D} {objs : List Obj} (hf : P.funcs[f]? = some fn) (hb : fn.body = some c) (hn : Nat.ble args.length fn.ntmps = true) (ha : RefsL (fun _ => False) args)
    (h : CW P 0 c ⟨slotsFrom 0 args, [], 0, fn.ntmps⟩ (Ends P fn d objs)) : New P f args d objs :=
  New.of hf hb (by simpa using hn) ha.all h

theorem BrwL.same {s : AS} : ∀ {ds : List D}, RefsL (fun _ => False) ds → BrwL s ds ds []
  | [], _ => .nil
  | d :: ds, h => by simpa using BrwL.cons (.same d h.1) (BrwL.same h.2)
/-- A call that answers alone, of arguments without own objects. -/
theorem core_call0 {P : Program} {o : Oper} {s : AS} {cx : Operand} {xs : Array Operand} {ats : Array TypeId} {f : FuncId} {ds : List D} {d : D} (hf : HasFn P f)
    (ho : o.op = .call { callee := .value cx, args := xs, argTypes := ats }) (hc : evx s cx = some (.clo f [])) (hx : evs s xs.toList = some ds) (hr : RefsL (fun _ => False) ds)
    (hN : Pure P f ds d) : Core P o s [] ⟨d, [], []⟩ := by
  have hb := BrwL.same (s := s) hr
  have h := core_call (P := P) (o := o) (s := s) (drops := []) 0 ho hc hx (by simpa using hb) hN (.inl rfl) (by simp)
  have hs : d.shift 0 = d := by
    have key : ∀ d : D, d.shift 0 = d := by
      intro d
      induction d using D.rec (motive_2 := fun l => shiftL 0 l = l) (motive_3 := fun _ => True) with
      | _ => simp_all [D.shift, shiftL]
    exact key d
  simpa [hs, lay, upto] using h
theorem evs_n {s : AS} : evs s [] = some [] := rfl
theorem evs_c {s : AS} {x : Operand} {xs : List Operand} {d : D} {ds : List D} (hx : evx s x = some d) (h : evs s xs = some ds) : evs s (x :: xs) = some (d :: ds) := by simp [evs, hx, h]
end Go.Abs
