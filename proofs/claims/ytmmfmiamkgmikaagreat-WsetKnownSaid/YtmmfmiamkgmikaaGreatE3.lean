/- Running code over abstract data, part 3: operations on numbers, comparisons. -/
import Derived.Test.YtmmfmiamkgmikaaGreatE2
set_option linter.unusedVariables false
set_option linter.unusedSimpArgs false
namespace Go.Abs

noncomputable def bnd {α ρ : Type} (o : Option α) (k : α → Option ρ) : Option ρ := Option.rec (motive := fun _ => Option ρ) none k o
theorem bnd_inv {α ρ : Type} {o : Option α} {k : α → Option ρ} {r : ρ} (h : bnd o k = some r) : ∃ x, o = some x ∧ k x = some r := by
  cases o with
  | none => cases h
  | some x => exact ⟨x, rfl, h⟩
noncomputable def bB {ρ : Type} (b : Bool) (k : Option ρ) : Option ρ := Bool.rec (motive := fun _ => Option ρ) none k b
theorem bB_inv {ρ : Type} {b : Bool} {k : Option ρ} {r : ρ} (h : bB b k = some r) : b = true ∧ k = some r := by
  cases b with
  | false => cases h
  | true => exact ⟨rfl, h⟩

/-- An operand's datum, by the slots alone. -/
def evl (sl : List (Nat × D)) : Operand → Option D
  | .tmp t => find t sl
  | .const (.slice none 0 0) => some .e0
  | .const v => some (.v v)
  | .func f => some (.clo f [])
  | .global _ => none
theorem evl_eq (s : AS) (x : Operand) : evl s.sl x = evx s x := by cases x <;> rfl

/-! ### Whole numbers -/
theorem toNat_and64 (k : IntKind) (a b : Nat) (ha : a < 2 ^ k.bits) (hb : b < 2 ^ k.bits) : (BitVec.ofInt k.bits (a : Int) &&& BitVec.ofInt k.bits (b : Int)).toNat = a &&& b := by
  rw [BitVec.ofInt_natCast, BitVec.ofInt_natCast, BitVec.toNat_and, BitVec.toNat_ofNat, BitVec.toNat_ofNat, Nat.mod_eq_of_lt ha, Nat.mod_eq_of_lt hb]
theorem toNat_or64 (k : IntKind) (a b : Nat) (ha : a < 2 ^ k.bits) (hb : b < 2 ^ k.bits) : (BitVec.ofInt k.bits (a : Int) ||| BitVec.ofInt k.bits (b : Int)).toNat = a ||| b := by
  rw [BitVec.ofInt_natCast, BitVec.ofInt_natCast, BitVec.toNat_or, BitVec.toNat_ofNat, BitVec.toNat_ofNat, Nat.mod_eq_of_lt ha, Nat.mod_eq_of_lt hb]
theorem fits_nat {k : IntKind} {a : Nat} (h : fitsI k (.ofNat a) = true) : (a < 2 ^ 63 ∨ (k = .u64 ∧ a < 2 ^ 64)) ∧ k.bits = 64 := by
  cases k <;> try (simp [fitsI] at h; done)
  · have h' : Nat.blt a 9223372036854775808 = true := h
    simp only [Nat.blt, Nat.ble_eq] at h'
    exact ⟨.inl (by omega), rfl⟩
  · have h' : Nat.blt a 18446744073709551616 = true := h
    simp only [Nat.blt, Nat.ble_eq] at h'
    exact ⟨.inr ⟨rfl, by omega⟩, rfl⟩
theorem fits_wrap {k : IntKind} {z : Int} (h : fitsI k z = true) : k.wrap z = z := by rw [← wrapF_eq]; unfold wrapF; rw [h]

/-- A mask. -/
noncomputable def andF (k : IntKind) (X Y : Int) : Int :=
  Int.rec (motive := fun _ => Int) (fun a => Int.rec (motive := fun _ => Int) (fun b => Bool.rec (motive := fun _ => Int) (k.wrap (BitVec.ofInt k.bits X &&& BitVec.ofInt k.bits Y).toNat) (.ofNat (Nat.land a b)) (fitsI k X && fitsI k Y))
    (fun _ => k.wrap (BitVec.ofInt k.bits X &&& BitVec.ofInt k.bits Y).toNat) Y) (fun _ => k.wrap (BitVec.ofInt k.bits X &&& BitVec.ofInt k.bits Y).toNat) X
noncomputable def orF (k : IntKind) (X Y : Int) : Int :=
  Int.rec (motive := fun _ => Int) (fun a => Int.rec (motive := fun _ => Int) (fun b => Bool.rec (motive := fun _ => Int) (k.wrap (BitVec.ofInt k.bits X ||| BitVec.ofInt k.bits Y).toNat) (.ofNat (Nat.lor a b)) (fitsI k X && fitsI k Y))
    (fun _ => k.wrap (BitVec.ofInt k.bits X ||| BitVec.ofInt k.bits Y).toNat) Y) (fun _ => k.wrap (BitVec.ofInt k.bits X ||| BitVec.ofInt k.bits Y).toNat) X
theorem lt_bits {k : IntKind} {a : Nat} (h : fitsI k (.ofNat a) = true) : a < 2 ^ k.bits := by
  obtain ⟨h1, h2⟩ := fits_nat h
  rw [h2]
  rcases h1 with h1 | ⟨_, h1⟩
  · have : (2 : Nat) ^ 63 ≤ 2 ^ 64 := by decide
    omega
  · exact h1
theorem fits_of {k : IntKind} {a b c : Nat} (ha : fitsI k (.ofNat a) = true) (hb : fitsI k (.ofNat b) = true) (hc : ∀ n, a < 2 ^ n → b < 2 ^ n → c < 2 ^ n) : fitsI k (.ofNat c) = true := by
  cases k <;> try (simp [fitsI] at ha; done)
  · have h1 : Nat.blt a 9223372036854775808 = true := ha
    have h2 : Nat.blt b 9223372036854775808 = true := hb
    show Nat.blt c 9223372036854775808 = true
    simp only [Nat.blt, Nat.ble_eq] at *
    have e : (2 : Nat) ^ 63 = 9223372036854775808 := by decide
    have := hc 63 (by rw [e]; omega) (by rw [e]; omega)
    rw [e] at this
    omega
  · have h1 : Nat.blt a 18446744073709551616 = true := ha
    have h2 : Nat.blt b 18446744073709551616 = true := hb
    show Nat.blt c 18446744073709551616 = true
    simp only [Nat.blt, Nat.ble_eq] at *
    have e : (2 : Nat) ^ 64 = 18446744073709551616 := by decide
    have := hc 64 (by rw [e]; omega) (by rw [e]; omega)
    rw [e] at this
    omega
theorem andF_eq (k : IntKind) (X Y : Int) : andF k X Y = k.wrap (BitVec.ofInt k.bits X &&& BitVec.ofInt k.bits Y).toNat := by
  cases X with
  | negSucc n => rfl
  | ofNat a =>
    cases Y with
    | negSucc n => rfl
    | ofNat b =>
      show Bool.rec (motive := fun _ => Int) _ (Int.ofNat (Nat.land a b)) (fitsI k (.ofNat a) && fitsI k (.ofNat b)) = _
      cases h : fitsI k (.ofNat a) && fitsI k (.ofNat b) with
      | false => rfl
      | true =>
        simp only [Bool.and_eq_true] at h
        show Int.ofNat (Nat.land a b) = _
        simp only [Int.ofNat_eq_natCast]
        rw [toNat_and64 k a b (lt_bits h.1) (lt_bits h.2)]
        exact (fits_wrap (fits_of (c := a &&& b) h.1 h.2 fun n h1 h2 => Nat.and_lt_two_pow _ h2)).symm
theorem orF_eq (k : IntKind) (X Y : Int) : orF k X Y = k.wrap (BitVec.ofInt k.bits X ||| BitVec.ofInt k.bits Y).toNat := by
  cases X with
  | negSucc n => rfl
  | ofNat a =>
    cases Y with
    | negSucc n => rfl
    | ofNat b =>
      show Bool.rec (motive := fun _ => Int) _ (Int.ofNat (Nat.lor a b)) (fitsI k (.ofNat a) && fitsI k (.ofNat b)) = _
      cases h : fitsI k (.ofNat a) && fitsI k (.ofNat b) with
      | false => rfl
      | true =>
        simp only [Bool.and_eq_true] at h
        show Int.ofNat (Nat.lor a b) = _
        simp only [Int.ofNat_eq_natCast]
        rw [toNat_or64 k a b (lt_bits h.1) (lt_bits h.2)]
        exact (fits_wrap (fits_of (c := a ||| b) h.1 h.2 fun n h1 h2 => Nat.or_lt_two_pow h1 h2)).symm

@[reducible] noncomputable def rI (k : IntKind) (z : Int) : Option D := fI z fun z => some (.v (.int k z))
/-- Two whole numbers of one kind. -/
noncomputable def opII (op : BinOp) (k : IntKind) (X Y : Int) : Option D :=
  match op with
  | .add => rI k (wrapF k (Int.add X Y))
  | .sub => rI k (wrapF k (Int.sub X Y))
  | .mul => rI k (wrapF k (Int.mul X Y))
  | .quo => bif eqI Y (.ofNat (nat_lit 0)) then none else rI k (wrapF k (Int.tdiv X Y))
  | .rem => bif eqI Y (.ofNat (nat_lit 0)) then none else rI k (Int.tmod X Y)
  | .eql => some (.v (.bool (eqI X Y)))
  | .neq => some (.v (.bool (not (eqI X Y))))
  | .lss => some (.v (.bool (ltI X Y)))
  | .leq => some (.v (.bool (not (ltI Y X))))
  | .gtr => some (.v (.bool (ltI Y X)))
  | .geq => some (.v (.bool (not (ltI X Y))))
  | .and => rI k (andF k X Y)
  | .or => rI k (orF k X Y)
  | .xor => rI k (k.wrap (BitVec.ofInt k.bits X ^^^ BitVec.ofInt k.bits Y).toNat)
  | .andNot => rI k (k.wrap (BitVec.ofInt k.bits X &&& ~~~ BitVec.ofInt k.bits Y).toNat)
  | _ => none
theorem opII_eq {op : BinOp} {k : IntKind} {X Y : Int} {d : D} (h : opII op k X Y = some d) : ∃ Z, iiRes op k X Y = some Z ∧ d = .v Z := by
  cases op <;> simp only [opII, rI, fI_eq, wrapF_eq, andF_eq, orF_eq, eqI_eq, ltI_eq, Option.some.injEq, reduceCtorEq] at h
  case quo =>
    cases e : (Y == Int.ofNat 0) with
    | true => rw [e] at h; cases h
    | false => rw [e] at h; simp only [cond_false, Option.some.injEq] at h; subst h; exact ⟨_, by simp only [iiRes]; rw [show (Y == 0) = false from e]; rfl, rfl⟩
  case rem =>
    cases e : (Y == Int.ofNat 0) with
    | true => rw [e] at h; cases h
    | false => rw [e] at h; simp only [cond_false, Option.some.injEq] at h; subst h; exact ⟨_, by simp only [iiRes]; rw [show (Y == 0) = false from e]; rfl, rfl⟩
  all_goals
    subst h
    refine ⟨_, ?_, rfl⟩
    first
    | rfl
    | (simp only [iiRes, Option.some.injEq, Value.bool.injEq]; rw [Bool.eq_iff_iff]; simp)

/-- A shift. -/
noncomputable def shlF (k : IntKind) (X : Int) (n : Nat) : Int :=
  Int.rec (motive := fun _ => Int) (fun a => wrapF k (.ofNat (Nat.shiftLeft a n))) (fun _ => k.wrap (X * 2 ^ n)) X
theorem shlF_eq (k : IntKind) (X : Int) (n : Nat) : shlF k X n = k.wrap (X * 2 ^ n) := by
  cases X with
  | negSucc a => rfl
  | ofNat a =>
    show wrapF k (Int.ofNat (Nat.shiftLeft a n)) = _
    rw [wrapF_eq]
    congr 1
    have : Nat.shiftLeft a n = a * 2 ^ n := Nat.shiftLeft_eq a n
    rw [this]
    simp
noncomputable def shrF (X : Int) (n : Nat) : Int :=
  Int.rec (motive := fun _ => Int) (fun a => .ofNat (Nat.shiftRight a n)) (fun _ => X.fdiv (2 ^ n)) X
theorem shrF_eq (X : Int) (n : Nat) : shrF X n = X.fdiv (2 ^ n) := by
  cases X with
  | negSucc a => rfl
  | ofNat a =>
    show Int.ofNat (Nat.shiftRight a n) = _
    have h1 : Nat.shiftRight a n = a / 2 ^ n := Nat.shiftRight_eq_div_pow a n
    rw [h1, Int.ofNat_eq_natCast, Int.ofNat_eq_natCast, Int.fdiv_eq_ediv_of_nonneg _ (by exact_mod_cast Nat.zero_le _)]
    simp
noncomputable def minN (a b : Nat) : Nat := Bool.rec (motive := fun _ => Nat) b a (Nat.ble a b)
theorem minN_eq (a b : Nat) : minN a b = min a b := by
  unfold minN
  cases h : Nat.ble a b with
  | true => have := Nat.le_of_ble_eq_true h; show a = _; omega
  | false => have : ¬ a ≤ b := fun hh => by rw [Nat.ble_eq_true_of_le hh] at h; cases h
             show b = _; omega
noncomputable def opSh (op : BinOp) (k : IntKind) (X Y : Int) : Option D :=
  Int.rec (motive := fun _ => Option D) (fun n => match op with
    | .shl => rI k (shlF k X (minN n k.bits))
    | .shr => rI k (shrF X (minN n k.bits))
    | _ => none) (fun _ => none) Y
theorem opSh_eq {op : BinOp} {k : IntKind} {X Y : Int} {d : D} (h : opSh op k X Y = some d) :
    0 ≤ Y ∧ ∃ Z, (match op with | .shl => some (Value.int k (k.wrap (X * 2 ^ (min Y.toNat k.bits)))) | .shr => some (Value.int k (X.fdiv (2 ^ (min Y.toNat k.bits)))) | _ => none) = some Z ∧ d = .v Z := by
  cases Y with
  | negSucc n => cases h
  | ofNat n =>
    refine ⟨by simp, ?_⟩
    cases op
    case shl =>
      have h' : rI k (shlF k X (minN n k.bits)) = some d := h
      simp only [rI, fI_eq, shlF_eq, minN_eq, Option.some.injEq] at h'
      subst h'
      exact ⟨_, rfl, rfl⟩
    case shr =>
      have h' : rI k (shrF X (minN n k.bits)) = some d := h
      simp only [rI, fI_eq, shrF_eq, minN_eq, Option.some.injEq] at h'
      subst h'
      exact ⟨_, rfl, rfl⟩
    all_goals cases h

noncomputable def ikEq (a b : IntKind) : Bool := IntKind.rec (motive := fun _ => Bool)
  (IntKind.rec (motive := fun _ => Bool) true false false false false false false false b) (IntKind.rec (motive := fun _ => Bool) false true false false false false false false b)
  (IntKind.rec (motive := fun _ => Bool) false false true false false false false false b) (IntKind.rec (motive := fun _ => Bool) false false false true false false false false b)
  (IntKind.rec (motive := fun _ => Bool) false false false false true false false false b) (IntKind.rec (motive := fun _ => Bool) false false false false false true false false b)
  (IntKind.rec (motive := fun _ => Bool) false false false false false false true false b) (IntKind.rec (motive := fun _ => Bool) false false false false false false false true b) a
theorem ikEq_eq {a b : IntKind} (h : ikEq a b = true) : a = b := by cases a <;> cases b <;> first | rfl | cases h

/-! ### Types -/
/-- The shapes of fields. -/
def eqFs (g : TypeId → Option (List VK × Bool)) : Nat → List Field → Option (List VK)
  | _, [] => some []
  | off, fd :: l => bif Nat.beq fd.offset off && !(fd.name == "_") then match g fd.type with
    | some r => match eqFs g (off + r.1.length) l with
      | some m => some (r.1 ++ m)
      | none => none
    | none => none
    else none
/-- The shape of what is compared by ==. agg: an aggregate? -/
def eqSh (P : Program) : Nat → TypeId → Option (List VK × Bool)
  | 0, _ => none
  | f + 1, t => match P.underlying t with
    | some (.int k) => bif (P.info? t).map (·.size) == some 1 then some ([.int k], false) else none
    | some .bool => bif (P.info? t).map (·.size) == some 1 then some ([.bool], false) else none
    | some (.struct fs) => bif P.stoodInHeld t then none else match eqFs (eqSh P f) 0 fs.toList with
      | some sh => bif (P.info? t).map (·.size) == some sh.length then some (sh, true) else none
      | none => none
    | some (.array n e) => match eqSh P f e with
      | some ([k], false) => bif (P.info? t).map (·.size) == some n then some (List.replicate n k, true) else none
      | _ => none
    | _ => none
end Go.Abs
