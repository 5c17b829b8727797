/- The abstract logic, part 16: equality of structs and arrays of scalars. -/
import Derived.Test.YtmmfmiamkgmikaaGreatA15
set_option linter.unusedVariables false
set_option linter.unusedSimpArgs false
namespace Go.Abs

inductive VK where
  | int (k : IntKind)
  | bool
  | other
  deriving DecidableEq
def kindOf : Value → VK
  | .int k _ => .int k
  | .bool _ => .bool
  | _ => .other
def eqv : Value → Value → Bool
  | .int _ a, .int _ b => a == b
  | .bool a, .bool b => a == b
  | _, _ => true
def eqvL : List Value → List Value → Bool
  | x :: xs, y :: ys => eqv x y && eqvL xs ys
  | _, _ => true
theorem eqvL_append : ∀ (xs ys xs' ys' : List Value), xs.length = ys.length → eqvL (xs ++ xs') (ys ++ ys') = (eqvL xs ys && eqvL xs' ys')
  | [], [], _, _, _ => by simp [eqvL]
  | x :: xs, y :: ys, xs', ys', h => by simp [eqvL, eqvL_append xs ys xs' ys' (by simpa using h), Bool.and_assoc]
  | [], _ :: _, _, _, h => by simp at h
  | _ :: _, [], _, _, h => by simp at h

/-- How equality goes at an aggregate's type. -/
def EqAgg (P : Program) (t : TypeId) (m : Nat) (sh : List VK) : Prop :=
  ∀ (d : Nat) (w : World) (xs ys : List Value), m ≤ d → xs.map kindOf = sh → ys.map kindOf = sh → (Op.equalIn d t (.agg xs.toArray) (.agg ys.toArray)).run P w = .ok (eqvL xs ys) w
def EqOne (P : Program) (t : TypeId) (m : Nat) (k : VK) : Prop :=
  ∀ (d : Nat) (w : World) (x y : Value), m ≤ d → kindOf x = k → kindOf y = k → (Op.equalIn d t x y).run P w = .ok (eqv x y) w

theorem EqOne.int {P : Program} {t : TypeId} {k : IntKind} [h : TyInt P t k] {k' : IntKind} : EqOne P t 1 (.int k') := by
  intro d w x y hd hx hy
  obtain ⟨d, rfl⟩ : ∃ d', d = d' + 1 := ⟨d - 1, by omega⟩
  cases x <;> simp [kindOf] at hx
  cases y <;> simp [kindOf] at hy
  subst hx; subst hy
  exact run_equalIn_int w d t _ _ _ _ h.int
theorem EqOne.bool {P : Program} {t : TypeId} [h : TyBool P t] : EqOne P t 1 .bool := by
  intro d w x y hd hx hy
  obtain ⟨d, rfl⟩ : ∃ d', d = d' + 1 := ⟨d - 1, by omega⟩
  cases x <;> simp [kindOf] at hx
  cases y <;> simp [kindOf] at hy
  exact run_equalIn_bool w d t _ _ h.bool

/-- The fields, by place and type. -/
inductive EqF (P : Program) (m : Nat) : List (Nat × Nat × Bool) → Nat → List VK → Prop
  | nil {off : Nat} : EqF P m [] off []
  | agg {off t : Nat} {sh rest : List VK} {l : List (Nat × Nat × Bool)} (ht : TyAgg P t sh.length) (h : EqAgg P t m sh) (hr : EqF P m l (off + sh.length) rest) : EqF P m ((off, t, false) :: l) off (sh ++ rest)
  | one {off t : Nat} {k : VK} {rest : List VK} {l : List (Nat × Nat × Bool)} (ht : TyOne P t) (h : EqOne P t m k) (hr : EqF P m l (off + 1) rest) : EqF P m ((off, t, false) :: l) off (k :: rest)

theorem EqF.run {P : Program} {m : Nat} {spec : List (Nat × Nat × Bool)} {off : Nat} {sh : List VK} (h : EqF P m spec off sh) :
    ∀ (fs : List Field), fs.map (fun f => (f.offset, f.type, f.name == "_")) = spec → ∀ (d : Nat) (w : World) (xs ys : List Value), m ≤ d → (xs.drop off).map kindOf = sh → (ys.drop off).map kindOf = sh →
      (Op.eqFields d xs.toArray ys.toArray fs).run P w = .ok (eqvL (xs.drop off) (ys.drop off)) w := by
  induction h with
  | nil =>
    intro fs hfs d w xs ys hd hx hy
    have : fs = [] := by simpa using hfs
    subst this
    have h1 := List.map_eq_nil_iff.1 hx
    have h2 := List.map_eq_nil_iff.1 hy
    simp [Op.eqFields, h1, h2, eqvL]
  | @agg off t sh rest l ht h hr ih =>
    intro fs hfs d w xs ys hd hx hy
    cases fs with
    | nil => simp at hfs
    | cons f fs =>
      simp only [List.map_cons, List.cons.injEq, Prod.mk.injEq] at hfs
      obtain ⟨⟨ho, hty, hn⟩, hfs⟩ := hfs
      have hne : f.name ≠ "_" := by simpa using hn
      have split : ∀ (zs : List Value), (zs.drop off).map kindOf = sh ++ rest → ((zs.drop off).take sh.length).map kindOf = sh ∧ (zs.drop (off + sh.length)).map kindOf = rest := by
        intro zs hz
        refine ⟨by rw [List.map_take, hz]; simp, ?_⟩
        rw [← List.drop_drop, List.map_drop, hz]
        simp
      obtain ⟨x1, x2⟩ := split xs hx
      obtain ⟨y1, y2⟩ := split ys hy
      have px : ∀ zs : List Value, (part t zs.toArray off).run P w = .ok (.agg ((zs.drop off).take sh.length).toArray) w := by
        intro zs
        rw [run_part_agg (n := sh.length)]
        congr 2
        simp [List.extract_eq_take_drop]
      simp only [Op.eqFields, ho, hty]
      rw [if_pos hne, Sem.run_bind, px xs, Result.andThen_ok, Sem.run_bind, px ys, Result.andThen_ok, Sem.run_bind, h d w _ _ hd x1 y1, Result.andThen_ok]
      have hrest := ih fs hfs d w xs ys hd x2 y2
      have e : eqvL (xs.drop off) (ys.drop off) = (eqvL ((xs.drop off).take sh.length) ((ys.drop off).take sh.length) && eqvL (xs.drop (off + sh.length)) (ys.drop (off + sh.length))) := by
        have hl : ((xs.drop off).take sh.length).length = ((ys.drop off).take sh.length).length := by
          have := congrArg List.length x1
          have := congrArg List.length y1
          simp only [List.length_map] at *
          omega
        rw [← eqvL_append _ _ _ _ hl, ← List.drop_drop, ← List.drop_drop, List.take_append_drop, List.take_append_drop]
      rw [e]
      cases eqvL ((xs.drop off).take sh.length) ((ys.drop off).take sh.length)
      · simp
      · simpa using hrest
  | @one off t k rest l ht h hr ih =>
    intro fs hfs d w xs ys hd hx hy
    cases fs with
    | nil => simp at hfs
    | cons f fs =>
      simp only [List.map_cons, List.cons.injEq, Prod.mk.injEq] at hfs
      obtain ⟨⟨ho, hty, hn⟩, hfs⟩ := hfs
      have hne : f.name ≠ "_" := by simpa using hn
      have split : ∀ (zs : List Value), (zs.drop off).map kindOf = k :: rest → ∃ z, zs[off]? = some z ∧ zs.drop off = z :: zs.drop (off + 1) ∧ kindOf z = k ∧ (zs.drop (off + 1)).map kindOf = rest := by
        intro zs hz
        cases hq : zs.drop off with
        | nil => simp [hq] at hz
        | cons z tl =>
          have hz0 : zs[off]? = some z := by
            have := List.getElem?_drop (xs := zs) (i := off) (j := 0)
            rw [hq] at this
            simpa using this.symm
          have htl : zs.drop (off + 1) = tl := by rw [← List.drop_drop, hq]; rfl
          rw [hq] at hz
          simp at hz
          exact ⟨z, hz0, by rw [htl], hz.1, by rw [htl]; exact hz.2⟩
      obtain ⟨x, x0, x1, x2, x3⟩ := split xs hx
      obtain ⟨y, y0, y1, y2, y3⟩ := split ys hy
      simp only [Op.eqFields, ho, hty]
      rw [if_pos hne, Sem.run_bind, run_part_one w xs.toArray off x (by simpa using x0), Result.andThen_ok, Sem.run_bind, run_part_one w ys.toArray off y (by simpa using y0), Result.andThen_ok, Sem.run_bind, h d w x y hd x2 y2, Result.andThen_ok]
      have hrest := ih fs hfs d w xs ys hd x3 y3
      rw [x1, y1]
      simp only [eqvL]
      cases eqv x y
      · simp
      · simpa using hrest

theorem EqAgg.struct {P : Program} {t m : Nat} {spec : List (Nat × Nat × Bool)} {sh : List VK} (ht : P.underlying t = some (.struct (P.fieldsOf t))) (hp : P.stoodInHeld t = false)
    (hs : (P.fieldsOf t).toList.map (fun f => (f.offset, f.type, f.name == "_")) = spec) (h : EqF P m spec 0 sh) : EqAgg P t (m + 1) sh := by
  intro d w xs ys hd hx hy
  obtain ⟨d, rfl⟩ : ∃ d', d = d' + 1 := ⟨d - 1, by omega⟩
  rw [run_equalIn_struct w d t _ _ ht hp, h.run _ hs d w xs ys (by omega) (by simpa using hx) (by simpa using hy)]
  simp

/-- Arrays of scalars. -/
theorem EqAgg.array {P : Program} {t n e m : Nat} {k : VK} [ha : Arr P t n e 1] [h1 : TyOne P e] (h : EqOne P e m k) : EqAgg P t (m + 1) (List.replicate n k) := by
  intro d w xs ys hd hx hy
  obtain ⟨d, rfl⟩ : ∃ d', d = d' + 1 := ⟨d - 1, by omega⟩
  have hlx : xs.length = n := by have := congrArg List.length hx; simpa using this
  have hly : ys.length = n := by have := congrArg List.length hy; simpa using this
  have loop : ∀ (r i : Nat), i + r = n → (forIn (List.range' i r 1) (none, PUnit.unit) (fun (j : Nat) (q : Option Bool × PUnit) => (do
      if !(← Op.equalIn d e (← part e xs.toArray (j * 1)) (← part e ys.toArray (j * 1))) then pure (ForInStep.done (some false, PUnit.unit)) else pure (ForInStep.yield (none, PUnit.unit)) : Sem (ForInStep (Option Bool × PUnit))))).run P w =
      .ok (bif eqvL (xs.drop i) (ys.drop i) then none else some false, PUnit.unit) w := by
    intro r
    induction r with
    | zero =>
      intro i hi
      have e1 : xs.drop i = [] := List.drop_eq_nil_of_le (by omega)
      simp [List.range', e1, eqvL]
    | succ r ih =>
      intro i hi
      have hix : i < xs.length := by omega
      have hiy : i < ys.length := by omega
      have kx : kindOf xs[i] = k := by
        have := congrArg (fun l => l[i]?) hx
        simpa [hix, show i < n by omega] using this
      have ky : kindOf ys[i] = k := by
        have := congrArg (fun l => l[i]?) hy
        simpa [hiy, show i < n by omega] using this
      have p1 := run_part_one (P := P) (t := e) w xs.toArray (i * 1) xs[i] (by simp [hix])
      have p2 := run_part_one (P := P) (t := e) w ys.toArray (i * 1) ys[i] (by simp [hiy])
      have q := h d w xs[i] ys[i] (by omega) kx ky
      rw [List.range'_succ, List.forIn_cons, Sem.run_bind, Sem.run_bind, p1, Result.andThen_ok, Sem.run_bind, p2, Result.andThen_ok, Sem.run_bind, q, Result.andThen_ok]
      rw [List.drop_eq_getElem_cons hix, List.drop_eq_getElem_cons hiy]
      simp only [eqvL]
      cases eqv xs[i] ys[i]
      · simp
      · simpa using ih (i + 1) (by omega)
  have hsz : (sizeOf e).run P w = .ok 1 w := run_sizeOf' w ha.size
  have := loop n 0 (by omega)
  simp only [List.drop_zero] at this
  simp only [Op.equalIn, Sem.run_bind, run_underlying ha.arr, Result.andThen_ok, hsz]
  rw [Std.Legacy.Range.forIn_eq_forIn_range']
  have hr : (⟨0, n, 1, by omega⟩ : Std.Legacy.Range).size = n := by simp [Std.Legacy.Range.size]
  rw [hr]
  erw [this]
  cases eqvL xs ys <;> simp

theorem EqOne.up {P : Program} {t m : Nat} {k : VK} (h : EqOne P t 1 k) (hm : 1 ≤ m) : EqOne P t m k := fun d w x y hd => h d w x y (by omega)
theorem EqAgg.up {P : Program} {t m m' : Nat} {sh : List VK} (h : EqAgg P t m sh) (hm : m ≤ m') : EqAgg P t m' sh := fun d w xs ys hd => h d w xs ys (by omega)

def unv : List D → Option (List Value)
  | [] => some []
  | .v x :: l => (unv l).map (x :: ·)
  | _ :: _ => none
theorem unv_eq : ∀ {cs : List D} {xs : List Value}, unv cs = some xs → cs = xs.map .v
  | [], xs, h => by simp [unv] at h; subst h; rfl
  | d :: cs, xs, h => by
    cases d <;> simp [unv] at h
    obtain ⟨ys, h1, rfl⟩ := h
    simp [unv_eq h1]
class NoGuard (P : Program) (t : TypeId) : Prop where
  ng : P.eqGuardType P.depth t = false
theorem core_eqA {P : Program} {o : Oper} {s : AS} {op : BinOp} {t t' m : Nat} [hg : NoGuard P t] {sh : List VK} {x y : Operand} {cs ds : List D} {xs ys : List Value} {r : Bool} (h : EqAgg P t m sh) (hm : Nat.ble m 10000 = true) (ho : o.op = .binOp op t x y t')
    (hx : evx s x = some (.agg cs)) (hy : evx s y = some (.agg ds)) (hc : unv cs = some xs) (hd : unv ds = some ys) (kx : xs.map kindOf = sh) (ky : ys.map kindOf = sh)
    (hr : (match op with | .eql => some (eqvL xs ys) | .neq => some (!eqvL xs ys) | _ => none) = some r) : Core P o s [] ⟨.b r, [], []⟩ :=
  core_eqs ho hx hy (unv_eq hc) (unv_eq hd) hg.ng (fun w => h 10000 w xs ys (by simpa using hm) kx ky) hr

/-- 1 << b -/
def shl1 (b : Int) : Int := IntKind.i64.wrap (1 * 2 ^ (min b.toNat 64))
theorem shl1_cases {b : Int} (h0 : 0 ≤ b) (h : b ≤ 4) : (b = 0 ∧ shl1 b = 1) ∨ (b = 1 ∧ shl1 b = 2) ∨ (b = 2 ∧ shl1 b = 4) ∨ (b = 3 ∧ shl1 b = 8) ∨ (b = 4 ∧ shl1 b = 16) := by
  obtain ⟨n, rfl⟩ := Int.eq_ofNat_of_zero_le h0
  have : n ≤ 4 := by omega
  match n, this with
  | 0, _ => exact .inl ⟨rfl, rfl⟩
  | 1, _ => exact .inr (.inl ⟨rfl, rfl⟩)
  | 2, _ => exact .inr (.inr (.inl ⟨rfl, rfl⟩))
  | 3, _ => exact .inr (.inr (.inr (.inl ⟨rfl, rfl⟩)))
  | 4, _ => exact .inr (.inr (.inr (.inr ⟨rfl, rfl⟩)))
theorem core_shl1 {P : Program} {o : Oper} {s : AS} {t t' : TypeId} {x y : Operand} {k' : IntKind} {Y : Int} (ho : o.op = .binOp .shl t x y t') (hx : evx s x = some (.i 1)) (hy : evx s y = some (.v (.int k' Y))) (h0 : 0 ≤ Y) : Core P o s [] ⟨.i (shl1 Y), [], []⟩ :=
  core_sh ho hx hy h0 rfl
end Go.Abs
