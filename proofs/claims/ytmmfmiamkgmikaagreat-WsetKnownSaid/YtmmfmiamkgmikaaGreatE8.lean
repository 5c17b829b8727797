/- Running code over abstract data, part 8: all operations but calls. -/
import Derived.Test.YtmmfmiamkgmikaaGreatE7
set_option linter.unusedVariables false
set_option linter.unusedSimpArgs false
namespace Go.Abs

/-! ### Lengths, places -/
/-- What may be asked for its length: a slice, a string. -/
def lnI (P : Program) (t : TypeId) : Option Bool := match P.underlying t with
  | some (.slice e) => match (P.info? e).map (·.size) with
    | some _ => some true
    | none => none
  | some .string => some false
  | _ => none
def zlen (b : Bool) (d : D) : Option D := match b with
  | true => match d with
    | .vw _ _ _ n => some (.v (.int .i64 (.ofNat n)))
    | .e0 => some (.v (.int .i64 (.ofNat (nat_lit 0))))
    | .sl _ rows => some (.v (.int .i64 (.ofNat rows.length)))
    | _ => none
  | false => match d with
    | .v (.string b) => some (.v (.int .i64 (.ofNat b.size)))
    | _ => none
/-- What is indexed for its place: a slice of elements of so many cells, an array of so many. -/
inductive XI where
  | sl (es : Nat) | arr (n es : Nat)
def ixI (P : Program) (t : TypeId) : Option XI := match P.underlying t with
  | some (.slice e) => match (P.info? e).map (·.size) with
    | some es => some (.sl es)
    | none => none
  | some (.array n e) => match (P.info? e).map (·.size) with
    | some es => some (.arr n es)
    | none => none
  | _ => none
noncomputable def zindexAddr (xi : XI) (d i : D) : Option D := match i with
  | .v (.int _ (.ofNat i)) => match xi with
    | .sl es => match d with
      | .vw r es' lo n => bB (Nat.beq es' es) (bB (Nat.blt i n) (fN (lo + i) fun a => some (.ptr r es' a 0)))
      | _ => none
    | .arr n es => match d with
      | .ptr r es' j off => bB (Nat.blt i n) (fN (off + i * es) fun a => some (.ptr r es' j a))
      | _ => none
  | _ => none
def fdI (P : Program) (S f : Nat) : Option (Nat × TypeId) := match (P.underlying S).bind fun | .struct fs => (fs[f]?).map (fun f => (f.offset, f.type)) | _ => none with
  | some (off, T) => bif ((P.info? T).map (·.size)).any (· != 0) then some (off, T) else none
  | none => none
noncomputable def zfieldAddr (off : Nat) (d : D) : Option D := match d with
  | .ptr r es i o => fN (o + off) fun a => some (.ptr r es i a)
  | _ => none
noncomputable def zfield (off : Nat) (ag : Option Nat) (d : D) : Option D := match d with
  | .agg cs => match ag with
    | some n => bnd (takeN n (cs.drop off)) fun l => some (.agg l)
    | none => nthD cs off
  | _ => none
/-- What is indexed for its value: an array of one-cell elements, a string. -/
inductive YI where
  | arr (n es : Nat) | str
def iyI (P : Program) (t : TypeId) : Option YI := match P.underlying t with
  | some (.array n e) => match ldI P e, (P.info? e).map (·.size) with
    | some none, some es => some (.arr n es)
    | _, _ => none
  | some .string => some .str
  | _ => none
noncomputable def zindex (yi : YI) (d i : D) : Option D := match i with
  | .v (.int _ (.ofNat i)) => match yi with
    | .arr n es => match d with
      | .agg cs => bB (Nat.blt i n) (nthD cs (i * es))
      | _ => none
    | .str => match d with
      | .v (.string b) => if h : i < b.size then some (.v (.int .u8 (b[i]'h).toNat)) else none
      | _ => none
  | _ => none
def zextract (d : D) (i : Nat) : Option D := match d with
  | .tup ds => nthD ds i
  | _ => none
noncomputable def zpick (c a b : D) : Option D := match c with
  | .v (.bool g) => some (Bool.rec (motive := fun _ => D) b a g)
  | _ => none
/-- Which conversion? -/
inductive CV where
  | ii (k : IntKind)
  | fi (k : IntKind)
  | itf
def cvI (P : Program) (src dst : TypeId) : Option CV := match P.underlying src, P.underlying dst with
  | some (.int _), some (.int k) => some (.ii k)
  | some (.float _), some (.int k) => some (.fi k)
  | some (.int _), some (.float .f64) => some .itf
  | _, _ => none
noncomputable def zconv (c : CV) (d : D) : Option D := match c with
  | .ii k => match d with
    | .v (.int _ X) => rI k (wrapF k X)
    | _ => none
  | .fi k => match d with
    | .v (.float .f64 b) => bnd ((FloatKind.f64.decode b).toInt .zero) fun n => bB (not (ltI n k.min) && not (ltI k.max n)) (rI k n)
    | _ => none
  | .itf => match d with
    | .v (.int _ X) => fN (FloatKind.f64.nearest X) fun b => some (.v (.float .f64 b))
    | _ => none
noncomputable def zun (op : UnOp) (d : D) : Option D := match d with
  | .v (.bool b) => match op with
    | .not => some (.v (.bool (not b)))
    | _ => none
  | .v (.int k n) => match op with
    | .neg => rI k (wrapF k (Int.sub (.ofNat (nat_lit 0)) n))
    | .xor => rI k (k.wrap (BitVec.ofInt k.bits (if k.signed then -1 else k.max) ^^^ BitVec.ofInt k.bits n).toNat)
    | _ => none
  | _ => none
def bdI (P : Program) (t : TypeId) : Option (List Value × List (Nat × Nat)) := match zeroT P t with
  | some z => match (P.underlying t).bind fun | .struct fs => fs.toList.mapM (fun f => (P.info? f.type).map fun i => (f.offset, i.size)) | _ => none with
    | some ps => some (z, ps)
    | none => none
  | none => none
def solidA : List D → Bool
  | [] => true
  | d :: l => solidB d && solidA l
noncomputable def zbuild (z : List Value) (ps : List (Nat × Nat)) (is : List Nat) (ds : List D) : Option D := bB (solidA ds) (bnd (fillD ps (z.map zD) (is.zip ds)) fun cs => some (.agg cs))
def znil (d : D) : Option D := match d with
  | .ptr r es i off => some (.ptr r es i off)
  | _ => none
noncomputable def zmax2 (mx : Bool) (a b : D) : Option D := match a, b with
  | .v (.int k x), .v (.int k' y) => bB (ikEq k k') (some (.v (.int k (Bool.rec (motive := fun _ => Int) x y (Bool.rec (motive := fun _ => Bool) (ltI y x) (ltI x y) mx)))))
  | _, _ => none
noncomputable def zmax (mx : Bool) : D → List D → Option D := fun d l => List.rec (motive := fun _ => D → Option D) (fun d => some d) (fun e _ ih d => bnd (zmax2 mx d e) ih) l d

theorem blt_lt {a b : Nat} (h : Nat.blt a b = true) : a < b := Nat.lt_of_succ_le (Nat.le_of_ble_eq_true h)
section
variable {P : Program} {ops : Array Oper} {o : Oper} {s : AS} {T : ST} {nx lo : Nat}
theorem zlen_ok {b : Bool} {t : TypeId} {x : Operand} {d e : D} (ho : o.op = .call { callee := .builtin .len, args := #[x], argTypes := #[t] }) (hi : lnI P t = some b) (hx : evx s x = some d) (h : zlen b d = some e) : Core P o s [] ⟨e, [], []⟩ := by
  unfold lnI at hi
  split at hi
  · rename_i e' hu
    split at hi
    · rename_i es hsz
      cases hi
      haveI : Slc P t e' es := ⟨hu, hsz⟩
      unfold zlen at h
      simp only at h
      split at h <;> cases h
      · exact core_len_vw ho hx
      · exact core_len_e0 ho hx
      · exact core_len_sl ho hx
    · cases hi
  · rename_i hu
    cases hi
    haveI : TyStr P t := ⟨hu⟩
    unfold zlen at h
    simp only at h
    split at h <;> cases h
    exact core_len_str ho hx
  · cases hi
theorem zindexAddr_ok {xi : XI} {t : TypeId} {x y : Operand} {d i e : D} (ho : o.op = .indexAddr t x y) (hi : ixI P t = some xi) (hx : evx s x = some d) (hy : evx s y = some i) (h : zindexAddr xi d i = some e) : Core P o s [] ⟨e, [], []⟩ := by
  unfold zindexAddr at h
  split at h
  · rename_i kk k
    unfold ixI at hi
    split at hi
    · rename_i e' hu
      split at hi
      · rename_i es hsz
        cases hi
        simp only at h
        split at h
        · obtain ⟨c1, h⟩ := bB_inv h
          obtain ⟨c2, hf⟩ := bB_inv h
          rw [fN_eq] at hf
          cases hf
          have c1 := Nat.eq_of_beq_eq_true c1
          subst c1
          haveI : Slc P t e' _ := ⟨hu, hsz⟩
          exact core_indexAddr_vw ho hx hy (by simp) (by simpa using blt_lt c2)
        · cases h
      · cases hi
    · rename_i n e' hu
      split at hi
      · rename_i es hsz
        cases hi
        simp only at h
        split at h
        · obtain ⟨c2, hf⟩ := bB_inv h
          rw [fN_eq] at hf
          cases hf
          haveI : Arr P t n e' es := ⟨hu, hsz⟩
          exact core_indexAddr_arr_ptr ho hx hy (by simp) (by simpa using blt_lt c2)
        · cases h
      · cases hi
    · cases hi
  · cases h
theorem fdI_ok {S f off T : Nat} (h : fdI P S f = some (off, T)) : Fld P S f off T := by
  unfold fdI at h
  split at h
  · rename_i o' T' h1
    cases h2 : ((P.info? T').map (·.size)).any (· != 0) with
    | false => rw [h2] at h; cases h
    | true => rw [h2] at h; cases h; exact ⟨h1, h2⟩
  · cases h
theorem zfieldAddr_ok {S f off T : Nat} {x : Operand} {d e : D} (ho : o.op = .fieldAddr S x f) (hi : fdI P S f = some (off, T)) (hx : evx s x = some d) (h : zfieldAddr off d = some e) : Core P o s [] ⟨e, [], []⟩ := by
  haveI := fdI_ok hi
  unfold zfieldAddr at h
  split at h
  · rw [fN_eq] at h
    cases h
    exact core_fieldAddr_ptr ho hx
  · cases h
theorem ldI_some {t : TypeId} {n : Nat} (h : ldI P t = some (some n)) : TyAgg P t n := by
  unfold ldI at h
  split at h <;> cases h
  exact ⟨by assumption, by assumption⟩
theorem ldI_none {t : TypeId} (h : ldI P t = some none) : TyOne P t := by
  unfold ldI at h
  split at h <;> cases h
  exact ⟨by assumption, by assumption⟩
theorem zfield_ok {S f off T : Nat} {ag : Option Nat} {x : Operand} {d e : D} (ho : o.op = .field S x f) (hi : fdI P S f = some (off, T)) (ha : ldI P T = some ag) (hx : evx s x = some d) (h : zfield off ag d = some e) : Core P o s [] ⟨e, [], []⟩ := by
  haveI := fdI_ok hi
  unfold zfield at h
  split at h
  · cases ag with
    | some n =>
      haveI := ldI_some ha
      obtain ⟨l, h1, h2⟩ := bnd_inv h
      cases h2
      obtain ⟨g1, rfl⟩ := takeN_eq h1
      refine core_field_agg ho hx ?_
      rw [List.length_drop] at g1
      have : 0 < n ∨ n = 0 := by omega
      rcases this with hp | hz
      · omega
      · have := this
        -- an aggregate without cells is no field here
        subst hz
        have hs := (fdI_ok hi).size
        have hsz := (ldI_some ha).size
        rw [hsz] at hs
        simp at hs
    | none =>
      haveI := ldI_none ha
      simp only [nthD_eq] at h
      exact core_field_one ho hx h
  · cases h
theorem zindex_ok {yi : YI} {t : TypeId} {x y : Operand} {d i e : D} (ho : o.op = .index t x y) (hi : iyI P t = some yi) (hx : evx s x = some d) (hy : evx s y = some i) (h : zindex yi d i = some e) : Core P o s [] ⟨e, [], []⟩ := by
  unfold zindex at h
  split at h
  · rename_i kk k
    unfold iyI at hi
    split at hi
    · rename_i n e' hu
      split at hi
      · rename_i es h1 h2
        cases hi
        haveI := ldI_none h1
        haveI : Arr P t n e' es := ⟨hu, h2⟩
        simp only at h
        split at h
        · obtain ⟨c1, h⟩ := bB_inv h
          rw [nthD_eq] at h
          exact core_index_arr ho hx hy (by simp) (by simpa using blt_lt c1) (by simpa using h)
        · cases h
      · cases hi
    · rename_i hu
      cases hi
      haveI : TyStr P t := ⟨hu⟩
      simp only at h
      split at h
      · split at h
        · rename_i b hlt
          cases h
          exact core_index_str ho hx hy (by simp) (by simpa using hlt)
        · cases h
      · cases h
    · cases hi
  · cases h
theorem zextract_ok {x : Operand} {i : Nat} {d e : D} (ho : o.op = .extract x i) (hx : evx s x = some d) (h : zextract d i = some e) : Core P o s [] ⟨e, [], []⟩ := by
  unfold zextract at h
  split at h
  · rw [nthD_eq] at h
    exact core_extract ho hx h
  · cases h
theorem zpick_ok {c x y : Operand} {dc dx dy e : D} (ho : o.op = .pick c x y) (hc : evx s c = some dc) (hx : evx s x = some dx) (hy : evx s y = some dy) (h : zpick dc dx dy = some e) : Core P o s [] ⟨e, [], []⟩ := by
  unfold zpick at h
  split at h
  · rename_i g
    cases h
    refine core_pick ho hc hx hy ?_
    cases g <;> rfl
  · cases h
theorem zconv_ok {src dst : TypeId} {c : CV} {x : Operand} {d e : D} (ho : o.op = .convert src dst x) (hi : cvI P src dst = some c) (hx : evx s x = some d) (h : zconv c d = some e) : Core P o s [] ⟨e, [], []⟩ := by
  unfold cvI at hi
  split at hi
  · rename_i k0 k h1 h2
    cases hi
    haveI : TyInt P src k0 := ⟨h1⟩
    haveI : TyInt P dst k := ⟨h2⟩
    unfold zconv at h
    simp only at h
    split at h
    · simp only [rI, fI_eq, wrapF_eq, Option.some.injEq] at h
      subst h
      exact core_ci ho hx
    · cases h
  · rename_i k0 k h1 h2
    cases hi
    unfold zconv at h
    simp only at h
    split at h
    · rename_i b
      obtain ⟨n, h3, h⟩ := bnd_inv h
      obtain ⟨h4, h⟩ := bB_inv h
      simp only [rI, fI_eq, Option.some.injEq] at h
      subst h
      simp only [Bool.and_eq_true, Bool.not_eq_true', ltI_eq, decide_eq_false_iff_not, Int.not_lt] at h4
      refine core_conv ho hx fun w => ?_
      simp [convert, run_underlying h1, run_underlying h2, Conv.floatToInt, h3, h4]
    · cases h
  · rename_i k0 h1 h2
    cases hi
    unfold zconv at h
    simp only at h
    split at h
    · simp only [fN_eq, Option.some.injEq] at h
      subst h
      refine core_conv ho hx fun w => ?_
      simp [convert, run_underlying h1, run_underlying h2, Conv.intToFloat]
    · cases h
  · cases hi
theorem zun_ok {op : UnOp} {t : TypeId} {x : Operand} {d e : D} (ho : o.op = .unOp op t x) (hx : evx s x = some d) (h : zun op d = some e) : Core P o s [] ⟨e, [], []⟩ := by
  unfold zun at h
  split at h
  · split at h
    · cases h; exact core_not ho hx
    · cases h
  · split at h
    · simp only [rI, fI_eq, wrapF_eq, Option.some.injEq] at h
      have e0 : ∀ n : Int, Int.sub (.ofNat 0) n = -n := fun n => by show (0 : Int) - n = -n; omega
      rw [e0] at h
      subst h
      refine core_un ho hx fun w => ?_
      simp [Op.unary, Op.intArith]
    · simp only [rI, fI_eq, Option.some.injEq] at h
      subst h
      refine core_un ho hx fun w => ?_
      simp [Op.unary, Op.intBits]
    · cases h
  · cases h
theorem solidA_ok : ∀ {l : List D}, solidA l = true → ∀ d ∈ l, Solid d
  | [], _, d, h => by cases h
  | e :: l, h, d, hd => by
    simp only [solidA, Bool.and_eq_true] at h
    rcases List.mem_cons.1 hd with rfl | hd
    · exact solidB_ok h.1
    · exact solidA_ok h.2 d hd
theorem evs_len : ∀ {xs : List Operand} {ds : List D}, evs s xs = some ds → xs.length = ds.length := fun h => (evs_get h).1
theorem zbuild_ok {t : TypeId} {z : List Value} {ps : List (Nat × Nat)} {parts : Array (Nat × Operand)} {ds : List D} {e : D} (ho : o.op = .build t parts) (hi : bdI P t = some (z, ps)) (hx : evs s (parts.toList.map (·.2)) = some ds) (h : zbuild z ps (parts.toList.map (·.1)) ds = some e) : Core P o s [] ⟨e, [], []⟩ := by
  unfold bdI at hi
  split at hi
  · rename_i z' hz
    split at hi
    · rename_i ps' hp
      cases hi
      haveI := zeroT_ok hz
      haveI : Bld P t ps := ⟨hp⟩
      obtain ⟨c1, h⟩ := bB_inv h
      obtain ⟨cs, c2, h⟩ := bnd_inv h
      cases h
      refine core_build ho (is := parts.toList.map (·.1)) (xs := parts.toList.map (·.2)) ?_ (by simp) hx (solidA_ok c1) c2
      generalize parts.toList = l
      induction l with
      | nil => rfl
      | cons p l ih => simp [← ih]
    · cases hi
  · cases hi
theorem znil_ok {x : Operand} {d e : D} (ho : o.op = .nilCheck x) (hx : evx s x = some d) (h : znil d = some e) : Core P o s [] ⟨e, [], []⟩ := by
  unfold znil at h
  split at h
  · cases h; exact core_nilCheck ho hx
  · cases h

theorem zmax2_val {mx : Bool} {a b e : D} (h : zmax2 mx a b = some e) : ∃ k x y z, a = .v (.int k x) ∧ b = .v (.int k y) ∧ e = .v (.int k z) ∧ z = (if (if mx then y > x else y < x) then y else x) := by
  unfold zmax2 at h
  split at h
  · rename_i k x k' y
    obtain ⟨c1, hf⟩ := bB_inv h
    cases hf
    cases ikEq_eq c1
    refine ⟨k, x, y, _, rfl, rfl, rfl, ?_⟩
    rw [ltI_eq, ltI_eq]
    cases mx
    · simp only [Bool.false_eq_true, if_false]
      by_cases hh : y < x <;> simp [hh]
    · simp only [if_true]
      by_cases hh : x < y <;> simp [hh]
  · cases h
theorem zmax_ok {mx : Bool} {xs : Array Operand} {x : Operand} {xl : List Operand} {ats : Array TypeId} {d e : D} {ds : List D} (ho : o.op = .call { callee := .builtin (if mx then .max else .min), args := xs, argTypes := ats }) (hxs : xs.toList = x :: xl) (hx : evx s x = some d) (hds : evs s xl = some ds) (h : zmax mx d ds = some e)
    (hv : ∃ k z, d = .v (.int k z)) : Core P o s [] ⟨e, [], []⟩ := by
  -- all values are whole numbers
  have key : ∀ (ds : List D) (d e : D) (k : IntKind) (z : Int), d = .v (.int k z) → zmax mx d ds = some e → ∃ (vs : List Value) (v : Value), ds = vs.map .v ∧ e = .v v ∧ ∀ w : World, ((vs.foldlM (if mx then Builtin.max2 else Builtin.min2) (.int k z)) : Sem Value).run P w = .ok v w := by
    intro ds
    induction ds with
    | nil =>
      intro d e k z hd h
      cases h
      exact ⟨[], _, rfl, hd, fun w => rfl⟩
    | cons a l ih =>
      intro d e k z hd h
      obtain ⟨m, h1, h2⟩ := bnd_inv h
      obtain ⟨k', x', y', z', q1, q2, q3, q4⟩ := zmax2_val h1
      rw [hd] at q1
      cases q1
      obtain ⟨vs, v, g1, g2, g3⟩ := ih m e k z' q3 h2
      refine ⟨.int k y' :: vs, v, by simp [g1, q2], g2, fun w => ?_⟩
      rw [List.foldlM_cons]
      have e1 : ((if mx then Builtin.max2 else Builtin.min2) (.int k z) (.int k y') : Sem Value).run P w = .ok (.int k z') w := by
        subst q4
        cases mx <;> simp [Builtin.max2, Builtin.min2]
      rw [Sem.run_bind, e1]
      exact g3 w
  obtain ⟨k, z, rfl⟩ := hv
  obtain ⟨vs, v, rfl, rfl, hrun⟩ := key ds _ e k z rfl h
  refine Core.value fun s2 h1 _ M0 A β w a hI => ?_
  have hmem : ∀ y ∈ xs.toList, y ∈ o.op.operands := fun y hy => by simp [ho, Op.operands, Call.operands]; simpa using hy
  have e1 := (evx_rep hI ((h1 x (hmem x (by simp [hxs]))).trans hx)).1.one
  have hl : evs s2 xl = some (vs.map .v) := (evs_agree fun y hy => h1 y (hmem y (by simp [hxs, hy]))).trans hds
  have hvals : xl.map a.eval = vs := by
    obtain ⟨q1, q2⟩ := evs_get hl
    apply List.ext_getElem?
    intro i
    by_cases hi : i < xl.length
    · have hi' : i < vs.length := by simpa [q1] using hi
      have := (evx_rep hI (q2 i xl[i] (.v vs[i]) (List.getElem?_eq_getElem hi) (by simp [hi']))).1.one
      simp [hi, hi', this]
    · have hi' : ¬ i < vs.length := by simpa [q1] using hi
      simp [hi, hi']
  refine ⟨v, ?_, .base (.v _), .v _⟩
  have hm : xs.toList.map a.eval = .int k z :: vs := by rw [hxs, List.map_cons, e1, hvals]
  cases mx with
  | true =>
    simp only [if_true] at ho hrun
    simp [execOp, ho, resolve, invoke, builtin, Builtin.max_, hm, hrun w]
  | false =>
    simp only [Bool.false_eq_true, if_false] at ho hrun
    simp [execOp, ho, resolve, invoke, builtin, Builtin.min_, hm, hrun w]
end
end Go.Abs
