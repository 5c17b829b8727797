/- Running code over abstract data, part 4: comparisons, conversions, places. -/
import Derived.Test.YtmmfmiamkgmikaaGreatE3
set_option linter.unusedVariables false
set_option linter.unusedSimpArgs false
namespace Go.Abs

def ShOk (P : Program) (m : Nat) (t : TypeId) (r : List VK × Bool) : Prop :=
  (r.2 = true → TyAgg P t r.1.length ∧ EqAgg P t m r.1) ∧ (r.2 = false → TyOne P t ∧ ∃ k, r.1 = [k] ∧ EqOne P t m k)
theorem eqFs_ok {P : Program} {m : Nat} {g : TypeId → Option (List VK × Bool)} (hg : ∀ t r, g t = some r → ShOk P m t r) :
    ∀ (l : List Field) (off : Nat) (sh : List VK), eqFs g off l = some sh → EqF P m (l.map fun f => (f.offset, f.type, f.name == "_")) off sh
  | [], off, sh, h => by
    simp only [eqFs, Option.some.injEq] at h
    subst h
    exact .nil
  | fd :: l, off, sh, h => by
    unfold eqFs at h
    cases hc : (Nat.beq fd.offset off && !(fd.name == "_")) with
    | false => rw [hc] at h; cases h
    | true =>
      rw [hc] at h
      simp only [cond_true] at h
      simp only [Bool.and_eq_true, Nat.beq_eq, Bool.not_eq_true'] at hc
      cases hgt : g fd.type with
      | none => rw [hgt] at h; cases h
      | some r =>
        rw [hgt] at h
        simp only at h
        cases hr : eqFs g (off + r.1.length) l with
        | none => rw [hr] at h; cases h
        | some m' =>
          rw [hr] at h
          simp only [Option.some.injEq] at h
          subst h
          have ih := eqFs_ok hg l _ _ hr
          obtain ⟨g1, g2⟩ := hg _ _ hgt
          simp only [List.map_cons, hc.1, hc.2]
          cases hb : r.2 with
          | true => obtain ⟨q1, q2⟩ := g1 hb; exact .agg q1 q2 ih
          | false =>
            obtain ⟨q1, k, q2, q3⟩ := g2 hb
            rw [q2] at ih ⊢
            exact .one q1 q3 ih
theorem eqSh_ok {P : Program} : ∀ (f : Nat) (t : TypeId) (r : List VK × Bool), eqSh P f t = some r → ShOk P f t r
  | 0, t, r, h => by cases h
  | f + 1, t, r, h => by
    unfold eqSh at h
    cases hu : P.underlying t with
    | none => rw [hu] at h; cases h
    | some d =>
      rw [hu] at h
      cases d with
      | int k =>
        simp only at h
        cases hs : ((P.info? t).map (·.size) == some 1) with
        | false => rw [hs] at h; cases h
        | true =>
          rw [hs] at h
          simp only [cond_true, Option.some.injEq] at h
          subst h
          have h1 : TyOne P t := ⟨by rw [hu]; rfl, by simpa using hs⟩
          haveI : TyInt P t k := ⟨hu⟩
          exact ⟨nofun, fun _ => ⟨h1, .int k, rfl, EqOne.up EqOne.int (by omega)⟩⟩
      | bool =>
        simp only at h
        cases hs : ((P.info? t).map (·.size) == some 1) with
        | false => rw [hs] at h; cases h
        | true =>
          rw [hs] at h
          simp only [cond_true, Option.some.injEq] at h
          subst h
          have h1 : TyOne P t := ⟨by rw [hu]; rfl, by simpa using hs⟩
          haveI : TyBool P t := ⟨hu⟩
          exact ⟨nofun, fun _ => ⟨h1, .bool, rfl, EqOne.up EqOne.bool (by omega)⟩⟩
      | struct fs =>
        simp only at h
        cases hp : P.stoodInHeld t with
        | true => rw [hp] at h; cases h
        | false =>
          rw [hp] at h
          simp only [cond_false] at h
          cases hf : eqFs (eqSh P f) 0 fs.toList with
          | none => rw [hf] at h; cases h
          | some sh =>
            rw [hf] at h
            simp only at h
            cases hs : ((P.info? t).map (·.size) == some sh.length) with
            | false => rw [hs] at h; cases h
            | true =>
              rw [hs] at h
              simp only [cond_true, Option.some.injEq] at h
              subst h
              have hfo : P.fieldsOf t = fs := by simp [Program.fieldsOf, hu]
              refine ⟨fun _ => ⟨⟨by rw [hu]; rfl, by simpa using hs⟩, EqAgg.struct (by rw [hfo]; exact hu) hp rfl ?_⟩, nofun⟩
              rw [hfo]
              exact eqFs_ok (eqSh_ok f) _ _ _ hf
      | array n e =>
        simp only at h
        cases hq : eqSh P f e with
        | none => rw [hq] at h; cases h
        | some q =>
          rw [hq] at h
          obtain ⟨l, b⟩ := q
          cases b with
          | true => simp at h
          | false =>
            match l, hq, h with
            | [k], hq, h =>
              simp only at h
              cases hs : ((P.info? t).map (·.size) == some n) with
              | false => rw [hs] at h; cases h
              | true =>
                rw [hs] at h
                simp only [cond_true, Option.some.injEq] at h
                subst h
                obtain ⟨q1, k', q2, q3⟩ := (eqSh_ok f e _ hq).2 rfl
                cases q2
                haveI := q1
                haveI : Arr P t n e 1 := ⟨hu, q1.size⟩
                exact ⟨fun _ => ⟨⟨by rw [hu]; rfl, by simpa using hs⟩, EqAgg.array q3⟩, nofun⟩
            | [], hq, h => simp at h
            | _ :: _ :: _, hq, h => simp at h
      | _ => cases h

/-! ### Comparisons, sums -/
/-- How two are held against each other. -/
inductive BI where
  | i | sh | b | p | sl | f | st | none
  | ag (sh : List VK)
def binI (P : Program) (op : BinOp) (t : TypeId) : BI := match op with
  | .shl | .shr => .sh
  | _ => match P.underlying t with
    | some (.int _) => .i
    | some .bool => .b
    | some (.pointer _) => .p
    | some (.slice _) => .sl
    | some (.float _) => .f
    | some .string => .st
    | _ => match eqSh P 20 t with
      | some (sh, true) => bif P.eqGuardType P.depth t then .none else .ag sh
      | _ => .none
/-- Is a value of a kind? -/
noncomputable def vkOk (k : VK) (v : Value) : Bool := match k, v with
  | .int k, .int k' _ => ikEq k k'
  | .bool, .bool _ => true
  | _, _ => false
noncomputable def vksOk : List VK → List Value → Bool
  | [], [] => true
  | k :: ks, v :: vs => vkOk k v && vksOk ks vs
  | _, _ => false
theorem vksOk_eq : ∀ {ks : List VK} {vs : List Value}, vksOk ks vs = true → vs.map kindOf = ks
  | [], [], _ => rfl
  | k :: ks, v :: vs, h => by
    simp only [vksOk, Bool.and_eq_true] at h
    rw [List.map_cons, vksOk_eq h.2]
    congr 1
    cases k <;> cases v <;> simp only [vkOk, reduceCtorEq, and_false, false_and] at h
    · rw [ikEq_eq h.1]; rfl
    all_goals first | rfl | exact absurd h.1 (by simp)
  | [], _ :: _, h => by cases h
  | _ :: _, [], h => by cases h
noncomputable def eqvF : Value → Value → Bool
  | .int _ a, .int _ b => eqI a b
  | .bool a, .bool b => Bool.rec (motive := fun _ => Bool) (not b) b a
  | _, _ => true
theorem eqvF_eq (x y : Value) : eqvF x y = eqv x y := by
  cases x <;> cases y <;> try rfl
  · rename_i a b; cases a <;> cases b <;> rfl
  · exact eqI_eq _ _
noncomputable def eqvLF : List Value → List Value → Bool
  | x :: xs, y :: ys => Bool.rec (motive := fun _ => Bool) false (eqvLF xs ys) (eqvF x y)
  | _, _ => true
theorem eqvLF_eq : ∀ (xs ys : List Value), eqvLF xs ys = eqvL xs ys
  | x :: xs, y :: ys => by
    show Bool.rec (motive := fun _ => Bool) false (eqvLF xs ys) (eqvF x y) = (eqv x y && eqvL xs ys)
    rw [eqvF_eq, eqvLF_eq]
    cases eqv x y <;> rfl
  | [], [] => rfl
  | [], _ :: _ => rfl
  | _ :: _, [] => rfl

/-- == or !=. -/
def eqD (op : BinOp) (b : Bool) : Option D := match op with
  | .eql => some (.v (.bool b))
  | .neq => some (.v (.bool (not b)))
  | _ => none
/-- How two floats stand to each other. -/
noncomputable def fcmp (op : BinOp) (c : Option Ordering) : Option D := match op with
  | .eql => some (.v (.bool (c == some .eq)))
  | .neq => some (.v (.bool (c != some .eq)))
  | .lss => some (.v (.bool (c == some .lt)))
  | .leq => some (.v (.bool (c == some .lt || c == some .eq)))
  | .gtr => some (.v (.bool (c == some .gt)))
  | .geq => some (.v (.bool (c == some .gt || c == some .eq)))
  | _ => none
noncomputable def eqBy : List UInt8 → List UInt8 → Bool
  | [], [] => true
  | a :: l, b :: m => Bool.rec (motive := fun _ => Bool) false (eqBy l m) (Nat.beq a.toNat b.toNat)
  | _, _ => false
theorem eqBy_eq : ∀ a b : List UInt8, eqBy a b = (a == b)
  | [], [] => rfl
  | [], _ :: _ => rfl
  | _ :: _, [] => rfl
  | a :: l, b :: m => by
    have h : eqBy (a :: l) (b :: m) = Bool.rec (motive := fun _ => Bool) false (eqBy l m) (Nat.beq a.toNat b.toNat) := rfl
    rw [h, eqBy_eq l m, List.cons_beq_cons]
    have e : (a == b) = Nat.beq a.toNat b.toNat := by
      by_cases hab : a = b
      · subst hab; simp
      · have h1 : (a == b) = false := by simpa using hab
        have h2 : Nat.beq a.toNat b.toNat = false := by
          cases hh : Nat.beq a.toNat b.toNat with
          | false => rfl
          | true => exact absurd (UInt8.toNat_inj.1 (Nat.eq_of_beq_eq_true hh)) hab
        rw [h1, h2]
    rw [e]
    cases Nat.beq a.toNat b.toNat <;> rfl
noncomputable def zbin (bi : BI) (op : BinOp) (a b : D) : Option D := match bi with
  | .i => match a, b with
    | .v (.int k X), .v (.int k' Y) => bB (ikEq k k') (opII op k X Y)
    | _, _ => none
  | .sh => match a, b with
    | .v (.int k X), .v (.int _ Y) => opSh op k X Y
    | _, _ => none
  | .b => match a, b with
    | .v (.bool x), .v (.bool y) => eqD op (Bool.rec (motive := fun _ => Bool) (not y) y x)
    | _, _ => none
  | .ag sh => match a, b with
    | .agg cs, .agg ds => bnd (unv cs) fun xs => bnd (unv ds) fun ys => bB (vksOk sh xs) (bB (vksOk sh ys) (eqD op (eqvLF xs ys)))
    | _, _ => none
  | .p => match a, b with
    | .ptr _ _ _ _, .v (.pointer none) => eqD op false
    | .v (.pointer none), .v (.pointer none) => eqD op true
    | _, _ => none
  | .sl => match a, b with
    | .vw _ _ _ (_ + 1), .e0 => eqD op false
    | .e0, .e0 => eqD op true
    | _, _ => none
  | .f => match a, b with
    | .v (.float .f64 x), .v (.float .f64 y) => fcmp op (FloatKind.f64.format.order x y)
    | _, _ => none
  | .st => match a, b with
    | .v (.string x), .v (.string y) => eqD op (eqBy x.data.toList y.data.toList)
    | _, _ => none
  | .none => none

theorem eqD_inv {op : BinOp} {b : Bool} {d : D} (h : eqD op b = some d) : ∃ r, (match op with | .eql => some b | .neq => some (!b) | _ => none) = some r ∧ d = .v (.bool r) := by
  cases op <;> simp only [eqD, Option.some.injEq, reduceCtorEq] at h
  all_goals subst h; exact ⟨_, rfl, rfl⟩

section
variable {P : Program} {o : Oper} {s : AS}
theorem binI_b {op : BinOp} {t : TypeId} (h : binI P op t = .b) : P.underlying t = some .bool := by
  unfold binI at h
  split at h <;> try cases h
  split at h <;> first | assumption | cases h | skip
  split at h <;> try cases h
  cases hg : P.eqGuardType P.depth t <;> rw [hg] at h <;> cases h
theorem binI_p {op : BinOp} {t : TypeId} (h : binI P op t = .p) : ∃ e, P.underlying t = some (.pointer e) := by
  unfold binI at h
  split at h <;> try cases h
  split at h <;> first | exact ⟨_, by assumption⟩ | cases h | skip
  split at h <;> try cases h
  cases hg : P.eqGuardType P.depth t <;> rw [hg] at h <;> cases h
theorem binI_sl {op : BinOp} {t : TypeId} (h : binI P op t = .sl) : ∃ e, P.underlying t = some (.slice e) := by
  unfold binI at h
  split at h <;> try cases h
  split at h <;> first | exact ⟨_, by assumption⟩ | cases h | skip
  split at h <;> try cases h
  cases hg : P.eqGuardType P.depth t <;> rw [hg] at h <;> cases h
theorem binI_ag {op : BinOp} {t : TypeId} {sh : List VK} (h : binI P op t = .ag sh) : EqAgg P t 20 sh ∧ P.eqGuardType P.depth t = false := by
  unfold binI at h
  split at h <;> try cases h
  split at h <;> try cases h
  split at h <;> try cases h
  rename_i he
  cases hg : P.eqGuardType P.depth t with
  | true => rw [hg] at h; cases h
  | false =>
    rw [hg] at h
    simp only [cond_false, BI.ag.injEq] at h
    subst h
    exact ⟨((eqSh_ok 20 t _ he).1 rfl).2, rfl⟩

theorem run_equalIn_ptr_nil (w : World) (d : Nat) {t e : TypeId} (hu : P.underlying t = some (.pointer e)) (ad : Option Addr) : (Op.equalIn (d + 1) t (.pointer ad) (.pointer none)).run P w = .ok ad.isNone w := by
  cases ad <;> simp [Op.equalIn, run_underlying hu]
theorem core_ptr_nil {op : BinOp} {t t' e : TypeId} (hu : P.underlying t = some (.pointer e)) {x y : Operand} {a : D} {b r : Bool} (ho : o.op = .binOp op t x y t') (hx : evx s x = some a) (hy : evx s y = some (.v (.pointer none)))
    (ha : (∃ r es i off, a = .ptr r es i off ∧ b = false) ∨ (a = .v (.pointer none) ∧ b = true))
    (hr : (match op with | .eql => some b | .neq => some (!b) | _ => none) = some r) : Core P o s [] ⟨.b r, [], []⟩ :=
  Core.value fun s2 h1 _ M0 A β w act hI => by
    have e1 := evx_rep hI ((h1 x (by simp [ho, Op.operands])).trans hx)
    have e2 := (evx_rep hI ((h1 y (by simp [ho, Op.operands])).trans hy)).1.one
    have hv : ∃ ad : Option Addr, act.eval x = .pointer ad ∧ ad.isNone = b := by
      rcases ha with ⟨r, es, i, off, rfl, rfl⟩ | ⟨rfl, rfl⟩
      · obtain ⟨b, hb, hy⟩ := e1.1.ptr_inv
        exact ⟨_, hy, rfl⟩
      · exact ⟨none, e1.1.one, rfl⟩
    obtain ⟨ad, hv, hb⟩ := hv
    have hq : (Op.equal t (.pointer ad) (.pointer none)).run P w = .ok b w := hb ▸ run_equalIn_ptr_nil w 9999 hu ad
    refine ⟨.bool r, ?_, .base (.v _), .v _⟩
    cases op <;> simp only [Option.some.injEq, reduceCtorEq] at hr
    all_goals
      subst hr
      simp [execOp, ho, hv, e2, eqGuard, binOp, hq]
theorem core_sl_nil {op : BinOp} {t t' e : TypeId} (hu : P.underlying t = some (.slice e)) {x y : Operand} {a : D} {b r : Bool} (ho : o.op = .binOp op t x y t') (hx : evx s x = some a) (hy : evx s y = some .e0)
    (ha : (∃ r es i n, a = .vw r es i (n + 1) ∧ b = false) ∨ (a = .e0 ∧ b = true))
    (hr : (match op with | .eql => some b | .neq => some (!b) | _ => none) = some r) : Core P o s [] ⟨.b r, [], []⟩ :=
  Core.value fun s2 h1 _ M0 A β w act hI => by
    have e1 := evx_rep hI ((h1 x (by simp [ho, Op.operands])).trans hx)
    have e2 := evx_rep hI ((h1 y (by simp [ho, Op.operands])).trans hy)
    have nil : ∀ {z : Value}, Rep (Mut M0 β s2.obj) β w .e0 z → z = .slice none 0 0 := fun h => by
      cases h with
      | base h => cases h; rfl
    have e2 := nil e2.1
    have hv : ∃ (ad : Option Addr) (n c : Nat), act.eval x = .slice ad n c ∧ ad.isNone = b := by
      rcases ha with ⟨r, es, i, n, rfl, rfl⟩ | ⟨rfl, rfl⟩
      · rcases e1.1.vw_inv with ⟨b, c, cs, e', hb, hy, hn, hm, hh', hc⟩ | ⟨_, _, h0, _⟩
        · exact ⟨_, _, _, hy, rfl⟩
        · omega
      · exact ⟨none, 0, 0, nil e1.1, rfl⟩
    obtain ⟨ad, n, c, hv, hb⟩ := hv
    have hq : (Op.equal t (.slice ad n c) (.slice none 0 0)).run P w = .ok b w := hb ▸ run_equal_slice_nil (P := P) w t e ad n c hu
    refine ⟨.bool r, ?_, .base (.v _), .v _⟩
    cases op <;> simp only [Option.some.injEq, reduceCtorEq] at hr
    all_goals
      subst hr
      simp [execOp, ho, hv, e2, eqGuard, binOp, hq]

theorem core_ff {op : BinOp} {t t' : TypeId} {x y : Operand} {X Y : Nat} {d : D} (ho : o.op = .binOp op t x y t') (hx : evx s x = some (.v (.float .f64 X))) (hy : evx s y = some (.v (.float .f64 Y)))
    (h : fcmp op (FloatKind.f64.format.order X Y) = some d) : Core P o s [] ⟨d, [], []⟩ := by
  cases op <;> simp only [fcmp, Option.some.injEq, reduceCtorEq] at h
  all_goals
    subst h
    refine core_bin ho hx hy fun w => ?_
    simp [eqGuard, binOp, Op.floatCmp]
theorem loopE (bs : ByteArray) : ∀ (k i : Nat) (r : List UInt8), i + k = bs.size → ByteArray.toList.loop bs i r = r.reverse ++ bs.data.toList.drop i := by
  intro k
  induction k with
  | zero =>
    intro i r h
    rw [ByteArray.toList.loop.eq_def, if_neg (by omega)]
    have : bs.data.toList.drop i = [] := List.drop_eq_nil_of_le (by rw [Array.length_toList]; show bs.size ≤ i; omega)
    rw [this, List.append_nil]
  | succ k ih =>
    intro i r h
    rw [ByteArray.toList.loop.eq_def, if_pos (by omega), ih (i + 1) _ (by omega)]
    have hi : i < bs.data.toList.length := by rw [Array.length_toList]; show i < bs.size; omega
    rw [List.reverse_cons, List.append_assoc, List.drop_eq_getElem_cons hi]
    simp [ByteArray.get!]
    rw [getElem!_pos]
theorem toList_data (x : ByteArray) : x.toList = x.data.toList := by
  unfold ByteArray.toList
  rw [loopE x x.size 0 [] (by omega)]
  simp
theorem core_strs {op : BinOp} {t t' : TypeId} {x y : Operand} {X Y : ByteArray} {d : D} (ho : o.op = .binOp op t x y t') (hx : evx s x = some (.v (.string X))) (hy : evx s y = some (.v (.string Y)))
    (h : eqD op (eqBy X.data.toList Y.data.toList) = some d) : Core P o s [] ⟨d, [], []⟩ := by
  cases op <;> simp only [eqD, Option.some.injEq, reduceCtorEq] at h
  all_goals
    subst h
    refine core_bin ho hx hy fun w => ?_
    simp [eqGuard, binOp, Op.stringOp, eqBy_eq, toList_data]
theorem zbin_ok {op : BinOp} {t t' : TypeId} {x y : Operand} {a b d : D} (ho : o.op = .binOp op t x y t') (hx : evx s x = some a) (hy : evx s y = some b) (h : zbin (binI P op t) op a b = some d) : Core P o s [] ⟨d, [], []⟩ := by
  cases hb : binI P op t with
  | none => rw [hb] at h; cases h
  | i =>
    rw [hb] at h
    unfold zbin at h
    simp only at h
    split at h
    · obtain ⟨h1, h2⟩ := bB_inv h
      cases ikEq_eq h1
      obtain ⟨Z, h3, rfl⟩ := opII_eq h2
      exact core_ii ho hx hy h3
    · cases h
  | sh =>
    rw [hb] at h
    unfold zbin at h
    simp only at h
    split at h
    · obtain ⟨h0, Z, h3, rfl⟩ := opSh_eq h
      refine core_sh ho hx hy h0 ?_
      rw [← h3]
      cases op <;> rfl
    · cases h
  | b =>
    rw [hb] at h
    unfold zbin at h
    simp only at h
    split at h
    · rename_i X Y
      obtain ⟨r, h1, rfl⟩ := eqD_inv h
      haveI : TyBool P t := ⟨binI_b hb⟩
      refine core_bb ho hx hy ?_
      have e : (Bool.rec (motive := fun _ => Bool) (not Y) Y X : Bool) = (X == Y) := by cases X <;> cases Y <;> rfl
      rw [e] at h1
      rw [← h1]
      cases op <;> rfl
    · cases h
  | ag sh =>
    rw [hb] at h
    unfold zbin at h
    simp only at h
    split at h
    · obtain ⟨xs, h1, h⟩ := bnd_inv h
      obtain ⟨ys, h2, h⟩ := bnd_inv h
      obtain ⟨h3, h⟩ := bB_inv h
      obtain ⟨h4, h⟩ := bB_inv h
      rw [eqvLF_eq] at h
      obtain ⟨r, h5, rfl⟩ := eqD_inv h
      obtain ⟨g1, g2⟩ := binI_ag hb
      haveI : NoGuard P t := ⟨g2⟩
      refine core_eqA g1 rfl ho hx hy h1 h2 (vksOk_eq h3) (vksOk_eq h4) ?_
      rw [← h5]
      cases op <;> rfl
    · cases h
  | p =>
    rw [hb] at h
    unfold zbin at h
    simp only at h
    obtain ⟨e, hu⟩ := binI_p hb
    split at h
    · obtain ⟨r, h1, rfl⟩ := eqD_inv h
      refine core_ptr_nil hu ho hx hy (.inl ⟨_, _, _, _, rfl, rfl⟩) ?_
      rw [← h1]
      cases op <;> rfl
    · obtain ⟨r, h1, rfl⟩ := eqD_inv h
      refine core_ptr_nil hu ho hx hy (.inr ⟨rfl, rfl⟩) ?_
      rw [← h1]
      cases op <;> rfl
    · cases h
  | f =>
    rw [hb] at h
    unfold zbin at h
    simp only at h
    split at h
    · exact core_ff ho hx hy h
    · cases h
  | st =>
    rw [hb] at h
    unfold zbin at h
    simp only at h
    split at h
    · exact core_strs ho hx hy h
    · cases h
  | sl =>
    rw [hb] at h
    unfold zbin at h
    simp only at h
    obtain ⟨e, hu⟩ := binI_sl hb
    split at h
    · obtain ⟨r, h1, rfl⟩ := eqD_inv h
      refine core_sl_nil hu ho hx hy (.inl ⟨_, _, _, _, rfl, rfl⟩) ?_
      rw [← h1]
      cases op <;> rfl
    · obtain ⟨r, h1, rfl⟩ := eqD_inv h
      refine core_sl_nil hu ho hx hy (.inr ⟨rfl, rfl⟩) ?_
      rw [← h1]
      cases op <;> rfl
    · cases h
end
end Go.Abs
