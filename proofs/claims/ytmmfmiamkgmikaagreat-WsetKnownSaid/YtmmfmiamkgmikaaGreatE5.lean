/- Running code over abstract data, part 5: the store as a tree. -/
import Derived.Test.YtmmfmiamkgmikaaGreatE4
set_option linter.unusedVariables false
set_option linter.unusedSimpArgs false
namespace Go.Abs

/-- An object, its rows as a tree. -/
structure XO where
  elem : TypeId
  es : Nat
  n : Nat
  t : Tr (List D)
@[reducible] def ST := Tr (Option XO)
noncomputable def xobj (T : ST) (r : Nat) : Option XO := Option.rec (motive := fun _ => Option XO) none (fun x => x) (T.get r)

def XoIs (x : XO) (o : Obj) : Prop := o.elem = x.elem ∧ o.es = x.es ∧ o.rows.length = x.n ∧ TrIs x.t o.rows
def OR : Option XO → Option Obj → Prop
  | none, none => True
  | some x, some o => XoIs x o
  | _, _ => False
/-- A tree stands for a state's objects. -/
structure SR (T : ST) (nx : Nat) (s : AS) : Prop where
  nxt : s.nx = nx
  obj : ∀ r, OR (xobj T r) (s.obj r)
  full : ∀ r, r < nx → (T.get r).isSome = true
  out : ∀ r, nx ≤ r → xobj T r = none

theorem SR.get {T : ST} {nx : Nat} {s : AS} (h : SR T nx s) {r : Nat} {x : XO} (hx : xobj T r = some x) : ∃ o, s.obj r = some o ∧ XoIs x o ∧ r < nx := by
  have h1 := h.obj r
  rw [hx] at h1
  cases ho : s.obj r with
  | none => rw [ho] at h1; exact h1.elim
  | some o =>
    rw [ho] at h1
    refine ⟨o, rfl, h1, ?_⟩
    rcases Nat.lt_or_ge r nx with hlt | hge
    · exact hlt
    · rw [h.out r hge] at hx; cases hx

theorem xobj_set_same {T : ST} {r : Nat} {xo : Option XO} (h : ∀ j, j < r → (T.get j).isSome = true) : xobj (T.set xo r) r = xo := by
  unfold xobj
  rw [Tr.get_set_same T xo r h]
theorem xobj_set_ne {T : ST} {r r' : Nat} {xo : Option XO} (h : r' ≠ r) : xobj (T.set xo r) r' = xobj T r' := by
  unfold xobj
  rw [Tr.get_set_ne T xo r r' (Ne.symm h)]

theorem SR.put {T : ST} {nx nx' : Nat} {s s' : AS} (h : SR T nx s) {r0 : Nat} (hr : r0 ≤ nx) (hnx : nx' = nx ∧ r0 < nx ∨ nx' = nx + 1 ∧ r0 = nx) {xo : Option XO} {oo : Option Obj} (ho : OR xo oo) (hn : s'.nx = nx')
    (hs : ∀ r, s'.obj r = if r = r0 then oo else s.obj r) : SR (T.set xo r0) nx' s' := by
  have hf : ∀ j, j < r0 → (T.get j).isSome = true := fun j hj => h.full j (by omega)
  refine ⟨hn, fun r => ?_, fun r hlt => ?_, fun r hge => ?_⟩
  · rw [hs r]
    by_cases hrr : r = r0
    · subst hrr
      rw [xobj_set_same hf, if_pos rfl]
      exact ho
    · rw [xobj_set_ne hrr, if_neg hrr]
      exact h.obj r
  · by_cases hrr : r = r0
    · subst hrr
      rw [Tr.get_set_same T xo r hf]
      rfl
    · rw [Tr.get_set_ne T xo r0 r (Ne.symm hrr)]
      exact h.full r (by omega)
  · have hrr : r ≠ r0 := by omega
    rw [xobj_set_ne hrr]
    exact h.out r (by omega)

/-! ### Loads, stores -/
def takeN : Nat → List D → Option (List D)
  | 0, _ => some []
  | n + 1, d :: l => match takeN n l with
    | some m => some (d :: m)
    | none => none
  | _ + 1, [] => none
theorem takeN_eq : ∀ {n : Nat} {l m : List D}, takeN n l = some m → n ≤ l.length ∧ m = l.take n
  | 0, l, m, h => by simp only [takeN, Option.some.injEq] at h; simp [← h]
  | n + 1, d :: l, m, h => by
    simp only [takeN] at h
    cases h1 : takeN n l with
    | none => rw [h1] at h; cases h
    | some m' =>
      rw [h1] at h
      simp only [Option.some.injEq] at h
      obtain ⟨h2, h3⟩ := takeN_eq h1
      subst h3
      simp [← h, h2]
  | n + 1, [], m, h => by cases h
def nthD : List D → Nat → Option D
  | [], _ => none
  | d :: _, 0 => some d
  | _ :: l, n + 1 => nthD l n
theorem nthD_eq : ∀ (l : List D) (n : Nat), nthD l n = l[n]?
  | [], n => by simp [nthD]
  | d :: l, 0 => by simp [nthD]
  | d :: l, n + 1 => by simp [nthD, nthD_eq l n]
noncomputable def flatX (x : XO) (k : Nat) : Option D := bnd (x.t.get (Nat.div k x.es)) fun row => nthD row (Nat.mod k x.es)
theorem flatX_eq {x : XO} {o : Obj} (h : XoIs x o) (k : Nat) : flatX x k = flat o k := by
  obtain ⟨_, h2, _, h4⟩ := h
  unfold flatX flat
  rw [h4]
  show bnd o.rows[k / x.es]? _ = _
  rw [h2]
  cases o.rows[k / x.es]? with
  | none => rfl
  | some row => exact nthD_eq row _

noncomputable def zload (ag : Option Nat) (T : ST) (p : D) : Option D := match p with
  | .ptr r es i off => bnd (xobj T r) fun x => Bool.rec (motive := fun _ => Option D)
      (match ag with | some _ => none | none => bB (Nat.beq es 1) (flatX x (i + off)))
      (bnd (x.t.get i) fun row => match ag with
        | some n => bnd (takeN n (row.drop off)) fun cs => some (.agg cs)
        | none => nthD (row.drop off) 0) (Nat.beq x.es es)
  | _ => none
/-- How a type is loaded: so many cells, or one. -/
def ldI (P : Program) (t : TypeId) : Option (Option Nat) := match (P.underlying t).map isAggB, (P.info? t).map (·.size) with
  | some true, some n => some (some n)
  | some false, some 1 => some none
  | _, _ => none

section
variable {P : Program} {o : Oper} {s : AS} {T : ST} {nx : Nat}
theorem zload_ok (hS : SR T nx s) {t : TypeId} {x : Operand} {p d : D} {ag : Option Nat} (ho : o.op = .load t x) (hx : evx s x = some p) (hi : ldI P t = some ag) (h : zload ag T p = some d) : Core P o s (ptr? p) ⟨d, [], []⟩ := by
  unfold zload at h
  split at h
  · rename_i r es i off
    obtain ⟨xo, hxo, h⟩ := bnd_inv h
    obtain ⟨ob, hob, hx1, _⟩ := hS.get hxo
    have hx1' := hx1
    obtain ⟨_, h2, _, h4⟩ := hx1
    unfold ldI at hi
    split at hi
    · rename_i n hag hsz
      cases hi
      haveI : TyAgg P t n := ⟨hag, hsz⟩
      cases hes : Nat.beq xo.es es with
      | false => rw [hes] at h; cases h
      | true =>
        rw [hes] at h
        obtain ⟨row, hrow, h⟩ := bnd_inv h
        obtain ⟨cs, hcs, h⟩ := bnd_inv h
        simp only [Option.some.injEq] at h
        subst h
        obtain ⟨g1, rfl⟩ := takeN_eq hcs
        rw [h4] at hrow
        refine core_load_agg (cs := row.drop off) ho hx ?_ g1
        have : (ob.es == es) = true := by rw [h2]; simpa using hes
        simp [pts, hob, this, hrow]
    · rename_i hag hsz
      cases hi
      haveI : TyOne P t := ⟨hag, hsz⟩
      cases hes : Nat.beq xo.es es with
      | false =>
        rw [hes] at h
        obtain ⟨h1, h⟩ := bB_inv h
        have h1 : es = 1 := by simpa using h1
        subst h1
        rw [flatX_eq hx1'] at h
        exact core_load_flat ho hx hob h
      | true =>
        rw [hes] at h
        obtain ⟨row, hrow, h⟩ := bnd_inv h
        rw [h4] at hrow
        simp only [nthD_eq] at h
        refine core_load_one (cs := row.drop off) ho hx ?_ h
        have : (ob.es == es) = true := by rw [h2]; simpa using hes
        simp [pts, hob, this, hrow]
    · cases hi
  · cases h

/-- One cell, or cells. -/
def solidB : D → Bool
  | .tup _ => false
  | .un => false
  | .v x => x.oneCell'
  | _ => true
theorem solidB_ok {d : D} (h : solidB d = true) : Solid d := by cases d <;> first | trivial | exact h | cases h
noncomputable def zstore {ρ : Type} (n : Nat) (T : ST) (p d : D) (k : Nat → ST → Option ρ) : Option ρ := match p with
  | .ptr r es i off => bnd (xobj T r) fun x => bB (Nat.beq x.es es) (bnd (x.t.get i) fun row => bB (solidB d) (bB (Nat.beq (dcells d).length n) (bB (Nat.ble (off + n) row.length)
      (k r (T.set (some ⟨x.elem, x.es, x.n, x.t.set (splice row off (dcells d)) i⟩) r)))))
  | _ => none
def szI (P : Program) (t : TypeId) : Option Nat := (P.info? t).map (·.size)

/-- What an operation comes to, told of trees: f: what it looks at; lo: below it nothing is changed. -/
structure Step (P : Program) (ops : Array Oper) (o : Oper) (s : AS) (nx lo : Nat) (f sn : List Nat) (d : D) (T' : ST) (nx' lo' : Nat) : Prop where
  loc : ∃ sets m, Core P o s f ⟨d, sets, upto nx m⟩ ∧ sn = sets.map (·.1) ∧ nx' = nx + m ∧ SR T' nx' (Eff.app ⟨d, sets, upto nx m⟩ o.dst s)
  lo1 : lo' ≤ lo
  lo2 : ∀ r ∈ sn, r < nx → lo' ≤ r

theorem app_eq (d : D) (sets : List (Nat × Option Obj)) (m : Nat) (dst : Option Tmp) (s : AS) (nx : Nat) (h : s.nx = nx) : (Eff.app ⟨d, sets, upto nx m⟩ dst s) = ⟨putS dst d s.sl, sets ++ s.st, nx + m, s.N⟩ := by
  simp only [Eff.app, h, bump_upto]
theorem SR.app0 (hS : SR T nx s) (d : D) (dst : Option Tmp) : SR T nx (Eff.app ⟨d, [], upto nx 0⟩ dst s) := by
  rw [app_eq d [] 0 dst s nx hS.nxt]
  exact ⟨rfl, hS.obj, hS.full, hS.out⟩
theorem Step.pure {ops : Array Oper} {lo : Nat} (hS : SR T nx s) {f : List Nat} {d : D} (h : Core P o s f ⟨d, [], []⟩) : Step P ops o s nx lo f [] d T nx lo :=
  ⟨⟨[], 0, h, rfl, rfl, hS.app0 d o.dst⟩, Nat.le_refl _, fun r hr => by cases hr⟩

theorem Step.new {ops : Array Oper} {lo : Nat} (hS : SR T nx s) {f : List Nat} {d : D} {ob : Obj} {xo : XO} (hx : XoIs xo ob) (h : Core P o s f ⟨d, [(nx, some ob)], [nx]⟩) : Step P ops o s nx lo f [nx] d (T.set (some xo) nx) (nx + 1) lo := by
  refine ⟨⟨[(nx, some ob)], 1, h, rfl, rfl, ?_⟩, Nat.le_refl _, fun r hr hlt => by simp at hr; omega⟩
  rw [app_eq d _ 1 o.dst s nx hS.nxt]
  refine hS.put (Nat.le_refl _) (.inr ⟨rfl, rfl⟩) (oo := some ob) hx rfl fun r => ?_
  simp only [AS.obj, List.cons_append, List.nil_append, find_cons]
  by_cases hr : nx = r
  · subst hr; simp
  · simp [hr, Ne.symm hr]

noncomputable def lowN (lo r : Nat) : Nat := Bool.rec (motive := fun _ => Nat) lo r (Nat.blt r lo)
theorem lowN_le (lo r : Nat) : lowN lo r ≤ lo ∧ lowN lo r ≤ r := by
  unfold lowN
  cases h : Nat.blt r lo with
  | true => simp only [Nat.blt, Nat.ble_eq] at h; show r ≤ lo ∧ r ≤ r; omega
  | false => have : ¬ r < lo := fun hh => by rw [Nat.blt, Nat.ble_eq_true_of_le hh] at h; cases h
             show lo ≤ lo ∧ lo ≤ r; omega

theorem zstore_ok {ρ : Type} {ops : Array Oper} {lo : Nat} (hS : SR T nx s) {t n : Nat} {x y : Operand} {p d : D} {k : Nat → ST → Option ρ} {r : ρ} (ho : o.op = .store t x y) (hx : evx s x = some p) (hy : evx s y = some d) (hi : szI P t = some n) (h : zstore n T p d k = some r) :
    ∃ q T', Step P ops o s nx lo [q] [q] .un T' nx (lowN lo q) ∧ k q T' = some r := by
  unfold zstore at h
  split at h
  · rename_i q es i off
    obtain ⟨xo, hxo, h⟩ := bnd_inv h
    obtain ⟨hes, h⟩ := bB_inv h
    obtain ⟨row, hrow, h⟩ := bnd_inv h
    obtain ⟨hsol, h⟩ := bB_inv h
    obtain ⟨hlen, h⟩ := bB_inv h
    obtain ⟨hfit, h⟩ := bB_inv h
    obtain ⟨ob, hob, ⟨h1, h2, h3, h4⟩, hlt⟩ := hS.get hxo
    haveI : Sz P t n := ⟨hi⟩
    rw [h4] at hrow
    have hes' : ob.es = es := by rw [h2]; simpa using hes
    have hil : i < ob.rows.length := (List.getElem?_eq_some_iff.1 hrow).1
    have hc := core_store (P := P) ho hx hy hob hes' hrow (solidB_ok hsol) (by simpa using hlen) (Nat.le_of_ble_eq_true hfit)
    refine ⟨q, _, ⟨⟨_, 0, hc, rfl, rfl, ?_⟩, (lowN_le lo q).1, fun r' hr' _ => by simp at hr'; rw [hr']; exact (lowN_le lo q).2⟩, h⟩
    rw [app_eq _ _ 0 o.dst s nx hS.nxt]
    refine hS.put (Nat.le_of_lt hlt) (.inl ⟨rfl, hlt⟩) (oo := some ⟨ob.elem, es, ob.rows.set i (splice row off (dcells d))⟩) ⟨h1, hes'.symm.trans h2, by simpa using h3, h4.set hil _⟩ rfl fun r' => ?_
    simp only [AS.obj, List.cons_append, List.nil_append, find_cons]
    by_cases hr : q = r'
    · subst hr; simp
    · simp [hr, Ne.symm hr]
  · cases h

/-! ### New objects -/
def zeroT (P : Program) (t : TypeId) : Option (List Value) := match ((P.info? t).bind (·.zero)).map (fun v => v.cells.toList) with
  | some z => bif z.all (·.oneCell') then some z else none
  | none => none
theorem zeroT_ok {t : TypeId} {z : List Value} (h : zeroT P t = some z) : ZeroV P t z := by
  unfold zeroT at h
  cases hz : ((P.info? t).bind (·.zero)).map (fun v => v.cells.toList) with
  | none => rw [hz] at h; cases h
  | some z' =>
    rw [hz] at h
    simp only at h
    cases ha : z'.all (·.oneCell') with
    | false => rw [ha] at h; cases h
    | true =>
      rw [ha] at h
      simp only [cond_true, Option.some.injEq] at h
      subst h
      exact ⟨hz, ha⟩
@[reducible] def xRow (t : TypeId) (cs : List D) : XO := ⟨t, cs.length, 1, .n cs .e .e⟩
theorem xRow_is (t : TypeId) (cs : List D) : XoIs (xRow t cs) ⟨t, cs.length, [cs]⟩ := ⟨rfl, rfl, rfl, fun i => by
  cases i with
  | zero => rfl
  | succ i => rw [Tr.get_s]; split <;> simp [Tr.get_e]⟩
theorem zalloc_ok {ops : Array Oper} {lo : Nat} (hS : SR T nx s) {t : TypeId} {z : List Value} (ho : o.op = .alloc t) (hz : zeroT P t = some z) :
    Step P ops o s nx lo [] [nx] (.ptr nx z.length 0 0) (T.set (some (xRow t (z.map zD))) nx) (nx + 1) lo := by
  haveI := zeroT_ok hz
  refine Step.new hS (ob := ⟨t, z.length, [z.map zD]⟩) ?_ (core_alloc nx ho)
  have := xRow_is t (z.map zD)
  rwa [List.length_map] at this
theorem zbox_ok {ops : Array Oper} {lo : Nat} (hS : SR T nx s) {t : TypeId} {x : Operand} {d : D} (ho : o.op = .box t x) (hx : evx s x = some d) (hd : solidB d = true) :
    Step P ops o s nx lo [] [nx] (.ptr nx (dcells d).length 0 0) (T.set (some (xRow t (dcells d))) nx) (nx + 1) lo :=
  Step.new hS (xRow_is t (dcells d)) (core_box nx ho hx (solidB_ok hd))

def solidL (es : Nat) : List D → Bool
  | [] => true
  | d :: l => solidB d && Nat.beq (dcells d).length es && solidL es l
theorem solidL_ok {es : Nat} : ∀ {l : List D}, solidL es l = true → ∀ d ∈ l, Solid d ∧ (dcells d).length = es
  | [], _, d, h => by cases h
  | e :: l, h, d, hd => by
    simp only [solidL, Bool.and_eq_true, Nat.beq_eq] at h
    rcases List.mem_cons.1 hd with rfl | hd
    · exact ⟨solidB_ok h.1.1, h.1.2⟩
    · exact solidL_ok h.2 d hd
/-- A slice's type: its elements' type, how many cells. -/
def slI (P : Program) (t : TypeId) : Option (TypeId × Nat) := match P.underlying t with
  | some (.slice e) => match (P.info? e).map (·.size) with
    | some es => some (e, es)
    | none => none
  | _ => none
theorem slI_ok {t e es : Nat} (h : slI P t = some (e, es)) : Slc P t e es := by
  unfold slI at h
  split at h
  · split at h
    · cases h; exact ⟨by assumption, by assumption⟩
    · cases h
  · cases h
@[reducible] noncomputable def xRows (e es : Nat) (rows : List (List D)) : XO := ⟨e, es, rows.length, Tr.pushL rows .e 0⟩
theorem xRows_is (e es : Nat) (rows : List (List D)) : XoIs (xRows e es rows) ⟨e, es, rows⟩ := ⟨rfl, rfl, rfl, by
  have := TrIs.pushL rows (TrIs.nil (α := List D))
  simpa using this⟩
/-- Parts that stand in order. -/
def inOrder : Nat → List (Nat × Operand) → Option (List Operand)
  | _, [] => some []
  | k, (i, x) :: l => bif Nat.beq i k then match inOrder (k + 1) l with
    | some xs => some (x :: xs)
    | none => none
    else none
theorem inOrder_ok : ∀ {l : List (Nat × Operand)} {k : Nat} {xs : List Operand}, inOrder k l = some xs → l = (xs.zipIdx k).map fun x => (x.2, x.1)
  | [], k, xs, h => by simp only [inOrder, Option.some.injEq] at h; subst h; rfl
  | (i, x) :: l, k, xs, h => by
    simp only [inOrder] at h
    cases hi : Nat.beq i k with
    | false => rw [hi] at h; cases h
    | true =>
      rw [hi] at h
      simp only [cond_true] at h
      cases hl : inOrder (k + 1) l with
      | none => rw [hl] at h; cases h
      | some ys =>
        rw [hl] at h
        simp only [Option.some.injEq] at h
        subst h
        have : i = k := by simpa using hi
        subst this
        simp [inOrder_ok hl]
theorem zbuildSlice_ok {ops : Array Oper} {lo : Nat} (hS : SR T nx s) {t e es len : Nat} {z : List Value} {parts : Array (Nat × Operand)} {xs : List Operand} {ds : List D} (ho : o.op = .buildSlice t len parts) (hp : inOrder 0 parts.toList = some xs) (hl : Nat.beq xs.length len = true)
    (ht : slI P t = some (e, es)) (hz : zeroT P e = some z) (hzl : Nat.beq z.length es = true) (hes : Nat.blt 0 es = true) (hx : evs s xs = some ds) (hd : solidL es ds = true) (hsm : Nat.ble (xs.length * es) 16777216 = true) :
    Step P ops o s nx lo [] [nx] (.vw nx es 0 ds.length) (T.set (some (xRows e es (ds.map dcells))) nx) (nx + 1) lo := by
  haveI := slI_ok ht
  haveI := zeroT_ok hz
  have hl' : xs.length = len := by simpa using hl
  subst hl'
  refine Step.new hS (xRows_is e es _) (core_buildSlice nx ho (inOrder_ok hp) (by simp only [Nat.blt, Nat.ble_eq] at hes; omega) (by simpa using hzl) hx (solidL_ok hd) (by simpa using hsm))

noncomputable def zmakeSlice {ρ : Type} (e es bytes : Nat) (z : List Value) (T : ST) (nx : Nat) (a b : D) (k : D → ST → Option ρ) : Option ρ := match a, b with
  | .v (.int _ (.ofNat l)), .v (.int _ (.ofNat c)) => bB (Nat.ble l c) (bB (Nat.ble (bytes * c) 281474976710656) (bB (Nat.ble c 9223372036854775807) (k (.vw nx es 0 l) (T.set (some ⟨e, es, l, Tr.rep (z.map zD) l l⟩) nx))))
  | _, _ => none
theorem zmakeSlice_ok {ρ : Type} {ops : Array Oper} {lo : Nat} (hS : SR T nx s) {t e es bytes : Nat} {z : List Value} {x y : Operand} {a b : D} {k : D → ST → Option ρ} {r : ρ} (ho : o.op = .makeSlice t x y) (ht : slI P t = some (e, es)) (hz : zeroT P e = some z) (hzl : Nat.beq z.length es = true)
    (hes : Nat.blt 0 es = true) (hby : (P.info? e).map (·.bytes) = some bytes) (hx : evx s x = some a) (hy : evx s y = some b) (h : zmakeSlice e es bytes z T nx a b k = some r) : ∃ d T', Step P ops o s nx lo [] [nx] d T' (nx + 1) lo ∧ k d T' = some r := by
  unfold zmakeSlice at h
  split at h
  · rename_i kx l ky c
    obtain ⟨h1, h⟩ := bB_inv h
    obtain ⟨h2, h⟩ := bB_inv h
    obtain ⟨h3, h⟩ := bB_inv h
    haveI := slI_ok ht
    haveI := zeroT_ok hz
    refine ⟨_, _, Step.new hS (ob := ⟨e, es, List.replicate l (z.map zD)⟩) ⟨rfl, rfl, by simp, TrIs.rep _ _⟩ (core_makeSliceC nx ho hx hy (Nat.le_of_ble_eq_true h1) (by simpa using hzl) (by simp only [Nat.blt, Nat.ble_eq] at hes; omega) hby (by simpa using h2) (by simpa using h3)), h⟩
  · cases h
end
end Go.Abs
