/- The abstract logic, part 15: states told anew (other names, what is frozen); calls that lay objects; nil slices. -/
import Derived.Test.YtmmfmiamkgmikaaGreatA14
import Derived.Laws.Cover3
set_option linter.unusedVariables false
set_option linter.unusedSimpArgs false
namespace Go.Abs

/-! ### A state told anew -/
def FrzSl (s : AS) (ks : List Nat) : List (Nat × D) → Prop
  | [] => True
  | (t, d) :: l => (∃ d0, s.slot t = some d0 ∧ Frz s ks d0 d) ∧ FrzSl s ks l
def ObjFrz (s : AS) (ks : List Nat) (o o' : Obj) : Prop :=
  o'.elem = o.elem ∧ o'.es = o.es ∧ o'.rows.length = o.rows.length ∧
    (∀ (k : Nat) (row row' : List D), o.rows[k]? = some row → o'.rows[k]? = some row' → row.length = row'.length) ∧
    (∀ (k : Nat) (row row' : List D) (j : Nat) (d d' : D), o.rows[k]? = some row → o'.rows[k]? = some row' → row[j]? = some d → row'[j]? = some d' → Frz s ks d d')
def KeptL (s : AS) (ks : List Nat) : List Nat → List Obj → Prop
  | [], [] => True
  | r :: rs, o' :: os => (∃ o, s.obj r = some o ∧ ObjFrz s ks o o') ∧ KeptL s ks rs os
  | _, _ => False

theorem ObjFrz.same {s : AS} {ks : List Nat} {o : Obj} (h : RowsR (fun _ => False) o.rows) : ObjFrz s ks o o :=
  ⟨rfl, rfl, rfl, fun k row row' h1 h2 => by rw [h1] at h2; cases h2; rfl, fun k row row' j d d' h1 h2 h3 h4 => by
    rw [h1] at h2; cases h2
    rw [h3] at h4; cases h4
    exact .same (h row (List.mem_of_getElem? h1) d (List.mem_of_getElem? h3))⟩
/-- An object of one row. -/
theorem ObjFrz.one {s : AS} {ks : List Nat} {e es : Nat} {cs cs' : List D} (h : Frz s ks (.agg cs) (.agg cs')) : ObjFrz s ks ⟨e, es, [cs]⟩ ⟨e, es, [cs']⟩ := by
  have hh : cs.length = cs'.length ∧ ∀ (i : Nat) (d d' : D), cs[i]? = some d → cs'[i]? = some d' → Frz s ks d d' := by
    cases h with
    | same h => exact ⟨rfl, fun i d d' h1 h2 => by rw [h1] at h2; cases h2; exact .same (h.agg_inv d (List.mem_of_getElem? h1))⟩
    | agg hl hd => exact ⟨hl, hd⟩
  refine ⟨rfl, rfl, rfl, fun k row row' h1 h2 => ?_, fun k row row' j d d' h1 h2 h3 h4 => ?_⟩
  · cases k with
    | zero => simp at h1 h2; subst h1; subst h2; exact hh.1
    | succ k => simp at h1
  · cases k with
    | zero => simp at h1 h2; subst h1; subst h2; exact hh.2 j d d' h3 h4
    | succ k => simp at h1
theorem Frz.nilc {s : AS} {ks : List Nat} : Frz s ks (.agg []) (.agg []) := .agg rfl fun i d d' h => by simp at h
theorem Frz.cons {s : AS} {ks : List Nat} {d d' : D} {cs cs' : List D} (h : Frz s ks d d') (t : Frz s ks (.agg cs) (.agg cs')) : Frz s ks (.agg (d :: cs)) (.agg (d' :: cs')) := by
  have hh : cs.length = cs'.length ∧ ∀ (i : Nat) (d d' : D), cs[i]? = some d → cs'[i]? = some d' → Frz s ks d d' := by
    cases t with
    | same h => exact ⟨rfl, fun i d d' h1 h2 => by rw [h1] at h2; cases h2; exact .same (h.agg_inv d (List.mem_of_getElem? h1))⟩
    | agg hl hd => exact ⟨hl, hd⟩
  refine .agg (by simp [hh.1]) fun i e e' h1 h2 => ?_
  cases i with
  | zero => simp at h1 h2; subst h1; subst h2; exact h
  | succ i => exact hh.2 i e e' (by simpa using h1) (by simpa using h2)
theorem Frz.tupn {s : AS} {ks : List Nat} : Frz s ks (.tup []) (.tup []) := .tup rfl fun i d d' h => by simp at h
theorem Frz.tupc {s : AS} {ks : List Nat} {d d' : D} {cs cs' : List D} (h : Frz s ks d d') (t : Frz s ks (.tup cs) (.tup cs')) : Frz s ks (.tup (d :: cs)) (.tup (d' :: cs')) := by
  have hh : cs.length = cs'.length ∧ ∀ (i : Nat) (d d' : D), cs[i]? = some d → cs'[i]? = some d' → Frz s ks d d' := by
    cases t with
    | same h => exact ⟨rfl, fun i d d' h1 h2 => by rw [h1] at h2; cases h2; exact .same (h.tup_inv d (List.mem_of_getElem? h1))⟩
    | tup hl hd => exact ⟨hl, hd⟩
  refine .tup (by simp [hh.1]) fun i e e' h1 h2 => ?_
  cases i with
  | zero => simp at h1 h2; subst h1; subst h2; exact h
  | succ i => exact hh.2 i e e' (by simpa using h1) (by simpa using h2)
/-- A view of plain rows, frozen. -/
theorem Frz.sl {s : AS} {ks : List Nat} {r es lo n : Nat} {rows : List (List D)} (h : srcRows s es (.vw r es lo n) = some rows) (hr : ks.contains r = false) (hn : RowsR (fun _ => False) rows) : Frz s ks (.vw r es lo n) (.sl es rows) :=
  .vw h (by simpa using hr) rfl (fun i row row' h1 h2 => by rw [h1] at h2; cases h2; rfl) hn fun i row row' j d d' h1 h2 h3 h4 => by
    rw [h1] at h2; cases h2
    rw [h3] at h4; cases h4
    exact .same (hn row (List.mem_of_getElem? h1) d (List.mem_of_getElem? h3))

theorem KeptL.get {s : AS} {ks : List Nat} : ∀ {rs : List Nat} {os : List Obj}, KeptL s ks rs os → os.length = rs.length ∧ ∀ (i r : Nat) (o' : Obj), rs[i]? = some r → os[i]? = some o' → ∃ o, s.obj r = some o ∧ ObjFrz s ks o o'
  | [], [], _ => ⟨rfl, fun i r o' h => by simp at h⟩
  | [], _ :: _, h => h.elim
  | _ :: _, [], h => h.elim
  | r :: rs, o' :: os, h => by
    obtain ⟨h1, h2⟩ := KeptL.get h.2
    refine ⟨by simp [h1], fun i q p hq hp => ?_⟩
    cases i with
    | zero => simp at hq hp; subst hq; subst hp; exact h.1
    | succ i => exact h2 i q p (by simpa using hq) (by simpa using hp)
theorem Kept.of {s : AS} {ks : List Nat} {objs : List Obj} (hn : ks.Nodup) (h : KeptL s ks ks objs) : Kept s ks objs :=
  ⟨h.get.1, hn, fun i r o' h1 h2 => by obtain ⟨o, h3, h4⟩ := h.get.2 i r o' h1 h2; exact ⟨o, h3, h4⟩⟩

theorem FrzSl.get {s : AS} {ks : List Nat} : ∀ {l : List (Nat × D)}, FrzSl s ks l → ∀ t d, find t l = some d → ∃ d0, s.slot t = some d0 ∧ Frz s ks d0 d
  | [], _, t, d, h => by simp [find] at h
  | (t', d') :: l, h, t, d, hd => by
    rw [find_cons] at hd
    split at hd
    · rename_i e; subst e; cases hd; exact h.1
    · exact FrzSl.get h.2 t d hd

/-- **A state told anew**: the objects in ks go on by their number; the others are frozen. -/
theorem Wk.frz {n N : Nat} {s : AS} {ks : List Nat} {objs : List Obj} {sl : List (Nat × D)} (hN : N = s.N) (hk : Kept s ks objs) (hn : ∀ i, i < n → ks[i]? = some i) (hle : n ≤ objs.length) (hs : FrzSl s ks sl) :
    Wk n ⟨sl, lay 0 objs, objs.length, N⟩ s := by
  intro M0 β w a hI _
  have hobj : (⟨sl, lay 0 objs, objs.length, N⟩ : AS).obj = fun r => objs[r]? := by
    funext r
    simp only [AS.obj, find_lay]
    by_cases h : r < objs.length
    · simp [h]
    · simp [h]
  refine ⟨kβ β ks, ⟨?_, by rw [hI.size]; exact hN.symm, hI.defers, fun t d ht => ?_, fun t d ht => ?_⟩, hle, ⟨⟨⟨Nat.le_refl _, fun _ _ _ => rfl, fun b _ hb hb' => hb ?_⟩, fun r hr => ?_, fun b cs e hb => ⟨cs, hb, rfl⟩⟩, rfl, rfl, rfl⟩⟩
  · rw [hobj]
    exact hk.ivs hI.toIvS
  · obtain ⟨d0, h1, h2⟩ := hs.get t d ht
    rw [hobj]
    exact h2.rep hI.toIvS hk (hI.slots t d0 h1)
  · obtain ⟨d0, h1, h2⟩ := hs.get t d ht
    exact h2.refs hk
  · obtain ⟨i, o', h1, h2⟩ := hb'
    rw [hobj] at h1
    cases hr : ks[i]? with
    | none => simp [kβ, hr] at h2
    | some r =>
      obtain ⟨o, ho, _⟩ := hk.objs i r o' hr h1
      exact ⟨r, o, ho, by simpa [kβ, hr] using h2⟩
  · simp [kβ, hn r hr]

section
variable {P : Program} {o : Oper} {s : AS}

/-! ### Calls that lay objects -/
theorem core_callL {cx : Operand} {xs : Array Operand} {ats : Array TypeId} {f : FuncId} {caps ds bs : List D} {brw : List Nat} {d d' : D} {objs : List Obj} (k : Nat) (hf : HasFn P f)
    (ho : o.op = .call { callee := .value cx, args := xs, argTypes := ats }) (hc : evx s cx = some (.clo f caps)) (hx : evs s xs.toList = some ds) (hb : BrwL s (ds ++ caps) bs brw)
    (hN : New P f bs d objs) (hp : Plain d) (hpo : ∀ o ∈ objs, ∀ row ∈ o.rows, ∀ e ∈ row, Plain e) (hobj : ∀ o ∈ objs, RowsR (fun _ => False) o.rows) (hk : d.shift k = d') :
    Core P o s brw ⟨d', lay k objs, upto k objs.length⟩ := by
  have := core_call (P := P) (o := o) (s := s) (drops := []) k ho hc hx hb hN (.inr ⟨rfl, hp, hpo⟩) hobj
  rw [hk] at this
  simpa using this
/-- What comes back may share what was lent: that can't change any more. -/
theorem core_callD {cx : Operand} {xs : Array Operand} {ats : Array TypeId} {f : FuncId} {caps ds bs : List D} {brw : List Nat} {d d' : D} {objs : List Obj} (k : Nat) (hf : HasFn P f)
    (ho : o.op = .call { callee := .value cx, args := xs, argTypes := ats }) (hc : evx s cx = some (.clo f caps)) (hx : evs s xs.toList = some ds) (hb : BrwL s (ds ++ caps) bs brw)
    (hN : New P f bs d objs) (hobj : ∀ o ∈ objs, RowsR (fun _ => False) o.rows) (hk : d.shift k = d') :
    Core P o s brw ⟨d', lay k objs ++ brw.map (fun r => (r, none)), upto k objs.length⟩ := by
  have := core_call (P := P) (o := o) (s := s) (drops := brw) k ho hc hx hb hN (.inl rfl) hobj
  rwa [hk] at this

theorem bump_upto : ∀ (m nx : Nat), bump nx (upto nx m) = nx + m
  | 0, nx => by simp [upto, bump]
  | m + 1, nx => by
    simp only [upto, bump, Nat.max_eq_right (Nat.le_succ nx)]
    rw [bump_upto m (nx + 1)]
    omega
section
variable {ops : Array Oper} {os : List Oper} {sl : List (Nat × D)} {st : List (Nat × Option Obj)} {nx N : Nat} {f : List Nat} {acc : List (List Nat × Eff)} {K : List (List Nat × Eff) → AS → Prop}
theorem RW.n {t m : Nat} {d : D} {sets : List (Nat × Option Obj)} (ho : o.dst = some t) (hN : Nat.blt t N = true) (h : Loc P ops o ⟨sl, st, nx, N⟩ f ⟨d, sets, upto nx m⟩) (ht : RW P ops os ⟨(t, d) :: sl, sets ++ st, nx + m, N⟩ ((f, ⟨d, sets, upto nx m⟩) :: acc) K) :
    RW P ops (o :: os) ⟨sl, st, nx, N⟩ acc K := by
  refine RW.e ho hN (fun r hr => (mem_upto.1 hr).1) h ?_
  rw [bump_upto]
  exact ht
end

/-! ### nil slices -/
theorem New.nil {f : FuncId} {pre post : List D} {es : Nat} {rows : List (List D)} {d : D} {objs : List Obj} (h1 : New P f (pre ++ .sln es rows :: post) d objs) (h2 : rows = [] → New P f (pre ++ .e0 :: post) d objs) :
    New P f (pre ++ .sl es rows :: post) d objs := by
  intro M w vals hvs hM hargs
  have hlt : pre.length < vals.size := by rw [hvs]; simp
  have hv : vals[pre.length]? = some vals[pre.length] := by simp [hlt]
  have h0 := hargs pre.length (.sl es rows) _ (by simp) hv
  have rest : ∀ (e : D), Rep0 M w e vals[pre.length] → ∀ (i : Nat) (d : D) (y : Value), (pre ++ e :: post)[i]? = some d → vals[i]? = some y → Rep0 M w d y := by
    intro e he i d y hd hy
    by_cases hi : i = pre.length
    · subst hi
      simp at hd
      subst hd
      rw [hv] at hy
      cases hy
      exact he
    · refine hargs i d y ?_ hy
      rw [List.getElem?_append] at hd ⊢
      split at hd
      · rename_i hlt'; rw [if_pos hlt']; exact hd
      · rename_i hlt'
        rw [if_neg hlt']
        have : i - pre.length = (i - pre.length - 1) + 1 := by omega
        rw [this, List.getElem?_cons_succ] at hd ⊢
        exact hd
  generalize hz : vals[pre.length] = z at h0 rest
  cases h0 with
  | sl _ _ a c ad val hc hm hz0 hr ha hv' h =>
    cases a with
    | none =>
      have hr0 : rows = [] := by
        rcases Nat.eq_zero_or_pos rows.length with h | h
        · exact List.eq_nil_of_length_eq_zero h
        · obtain ⟨h, _⟩ := ha h
          cases h
      subst hr0
      have := hz0 rfl
      subst this
      exact h2 rfl M w vals (by simpa using hvs) hM (rest .e0 .e0)
    | some ad' =>
      exact h1 M w vals (by simpa using hvs) hM (rest (.sln es rows) (.sln es rows ad' _ c (.sl es rows (some ad') c ad val hc hm hz0 hr ha hv' h)))

theorem core_nil_sln {op : BinOp} {t t' e es es' : Nat} [hs : Slc P t e es] {x y : Operand} {rows : List (List D)} {r : Bool} (ho : o.op = .binOp op t x y t') (hx : evx s x = some (.sln es' rows)) (hy : y = .const (.slice none 0 0))
    (hr : (match op with | .eql => some false | .neq => some true | _ => none) = some r) : Core P o s [] ⟨.b r, [], []⟩ :=
  Core.value fun s2 h1 _ M0 A β w a hI => by
    have e1 := evx_rep hI ((h1 x (by simp [ho, Op.operands])).trans hx)
    subst hy
    obtain ⟨ad, n, c, hv⟩ : ∃ ad n c, a.eval x = .slice (some ad) n c := by
      have := e1.1
      generalize a.eval x = z at this
      cases this with
      | base h => cases h with | sln es rows ad n c h => exact ⟨ad, n, c, rfl⟩
    refine ⟨.bool r, ?_, .base (.v _), .v _⟩
    have hq := run_equal_slice_nil (P := P) w t e (some ad) n c hs.slc
    cases op <;> simp only [Option.some.injEq, reduceCtorEq] at hr
    all_goals
      subst hr
      simp [execOp, ho, hv, show a.eval (.const (.slice none 0 0)) = .slice none 0 0 from rfl, eqGuard, binOp, hq]
theorem core_nil_e0 {op : BinOp} {t t' e es : Nat} [hs : Slc P t e es] {x y : Operand} {r : Bool} (ho : o.op = .binOp op t x y t') (hx : evx s x = some .e0) (hy : y = .const (.slice none 0 0))
    (hr : (match op with | .eql => some true | .neq => some false | _ => none) = some r) : Core P o s [] ⟨.b r, [], []⟩ :=
  Core.value fun s2 h1 _ M0 A β w a hI => by
    have e1 := evx_rep hI ((h1 x (by simp [ho, Op.operands])).trans hx)
    subst hy
    have hv : a.eval x = .slice none 0 0 := by
      have := e1.1
      generalize a.eval x = z at this
      cases this with
      | base h => cases h; rfl
    refine ⟨.bool r, ?_, .base (.v _), .v _⟩
    have hq := run_equal_slice_nil (P := P) w t e none 0 0 hs.slc
    cases op <;> simp only [Option.some.injEq, reduceCtorEq] at hr
    all_goals
      subst hr
      simp [execOp, ho, hv, show a.eval (.const (.slice none 0 0)) = .slice none 0 0 from rfl, eqGuard, binOp, hq]
end

/-- A call that lays objects, of arguments without own objects. -/
theorem core_callN {P : Program} {o : Oper} {s : AS} {cx : Operand} {xs : Array Operand} {ats : Array TypeId} {f : FuncId} {ds : List D} {d d' : D} {objs : List Obj} (k : Nat) (hf : HasFn P f)
    (ho : o.op = .call { callee := .value cx, args := xs, argTypes := ats }) (hc : evx s cx = some (.clo f [])) (hx : evs s xs.toList = some ds) (hr : RefsL (fun _ => False) ds)
    (hN : New P f ds d objs) (hobj : ∀ o ∈ objs, RowsR (fun _ => False) o.rows) (hk : d.shift k = d') : Core P o s [] ⟨d', lay k objs, upto k objs.length⟩ := by
  have hb := BrwL.same (s := s) hr
  have := core_call (P := P) (o := o) (s := s) (drops := []) k ho hc hx (by simpa using hb) hN (.inl rfl) hobj
  rw [hk] at this
  simpa using this

theorem Frz.vwn {s : AS} {ks : List Nat} {r es lo n n' i : Nat} (h : ks[i]? = some r) (hn : n = n') : Frz s ks (.vw r es lo n) (.vw i es lo n') := hn ▸ .vwk h
theorem ObjFrz.eq {s : AS} {ks : List Nat} {o o' : Obj} (h : RowsR (fun _ => False) o.rows) (he : o = o') : ObjFrz s ks o o' := he ▸ .same h
/-- What stands at a function's end that hands objects on. -/
theorem Ends.n {P : Program} {fn : Func} {s : AS} {x : Exit} {ds : List D} {d : D} {objs : List Obj} (ks : List Nat) (hx : x = .normal ∨ x = .ret) (h : ResL P s fn.results.toList ds) (hf : Frz s ks (retD ds) d) (hn : ks.Nodup) (hk : KeptL s ks ks objs) : Ends P fn d objs x s :=
  ⟨hx, ds, ks, h, hf, Kept.of hn hk⟩
class Byt (P : Program) (t : TypeId) (n : outParam Nat) : Prop where
  byt : (P.info? t).map (·.bytes) = some n

/-- A nil slice is a view of an object without rows. -/
theorem New.nilvw {P : Program} {f : FuncId} {args : List D} {e es : Nat} (h : New P f args .e0 []) : New P f args (.vw 0 es 0 0) [⟨e, es, []⟩] := by
  intro M w vals h1 h2 h3
  refine (h M w vals h1 h2 h3).mono ?_
  rintro x w' ⟨y, β, rfl, hS, hnew, hr, hf, hos, htp, hout, hsz, hold⟩
  have hy : y = .slice none 0 0 := by
    cases hr with
    | base h => cases h; rfl
  subst hy
  refine ⟨_, fun _ => none, rfl, ⟨fun r o hr => ?_, fun r r' o o' b _ _ h => by simp at h, fun r o b _ h => by simp at h, fun b hb => Nat.lt_of_lt_of_le (h2 b hb) hsz, fun r o hr => (List.getElem?_eq_some_iff.1 hr).1, fun r o row d hr hm => ?_⟩, fun r b h => by simp at h,
    .vw0 0 es rfl, .vw 0 es 0 0 (by simp), hos, htp, hout, hsz, hold⟩
  · have : r = 0 := by have := (List.getElem?_eq_some_iff.1 hr).1; simp at this; exact this
    subst this
    simp at hr
    subst hr
    exact ⟨fun i row h => by simp at h, .inl ⟨rfl, rfl⟩⟩
  · have : r = 0 := by have := (List.getElem?_eq_some_iff.1 hr).1; simp at this; exact this
    subst this
    simp at hr
    subst hr
    simp at hm

theorem Wk.trans {n : Nat} {E F s : AS} (h : Wk n E s) (k : Wk n F E) : Wk n F s := by
  intro M0 β w a hI hn
  obtain ⟨β1, g1, g2, g3⟩ := h M0 β w a hI hn
  obtain ⟨β2, k1, k2, k3⟩ := k M0 β1 w a g1 g2
  exact ⟨β2, k1, k2, g3.trans (fun _ h => h) k3⟩
/-- A nil slice is told as a view of a new object without rows. -/
theorem Wk.e0 {n : Nat} {s : AS} (t e es : Nat) (h : s.slot t = some .e0) (hn : n ≤ s.nx) : Wk n ⟨(t, .vw s.nx es 0 0) :: s.sl, (s.nx, some ⟨e, es, []⟩) :: s.st, s.nx + 1, s.N⟩ s := by
  intro M0 β w a hI _
  have hid : ¬ (s.nx < s.nx) := Nat.lt_irrefl _
  have hob : (⟨(t, .vw s.nx es 0 0) :: s.sl, (s.nx, some ⟨e, es, []⟩) :: s.st, s.nx + 1, s.N⟩ : AS).obj = fun r => if s.nx = r then some (⟨e, es, []⟩ : Obj) else s.obj r := by
    funext r
    simp only [AS.obj, find_cons]
    split <;> rfl
  obtain ⟨g1, g2⟩ := hI.toIvS.new0 (id := s.nx) hid (o := ⟨e, es, []⟩) rfl (ob' := fun r => if s.nx = r then some (⟨e, es, []⟩ : Obj) else s.obj r) (fun r => rfl)
  have up : ∀ r, (r < s.nx ∨ r ∈ [s.nx]) → r < s.nx + 1 := by
    intro r hr
    rcases hr with hr | hr
    · omega
    · simp at hr; omega
  refine ⟨fun r => if r = s.nx then none else β r, ⟨?_, hI.size, hI.defers, fun t' d hd => ?_, fun t' d hd => ?_⟩, by simp only; omega, ⟨?_, rfl, rfl, rfl⟩⟩
  · rw [hob]; exact g1.names_mono up
  · simp only [AS.slot, find_cons] at hd
    rw [hob]
    split at hd
    · rename_i e'
      subst e'
      cases hd
      have hr := hI.slots t .e0 h
      have hy : a.tmps.getD t undef = .slice none 0 0 := by
        generalize a.tmps.getD t undef = y at hr
        cases hr with
        | base h => cases h; rfl
      rw [hy]
      exact .vw0 _ _ (by simp)
    · exact (hI.slots t' d hd).keep g2.up (hI.refs t' d hd)
  · simp only [AS.slot, find_cons] at hd
    split at hd
    · cases hd
      exact .vw _ _ _ _ (by simp only; omega)
    · exact (hI.refs t' d hd).mono fun r hr => by simp only; omega
  · rw [hob]
    exact ⟨g2.toKeep, fun r hr => g2.names r (by omega), g2.sizes⟩
@[reducible] def mkE (sl : List (Nat × D)) (objs : List Obj) (N : Nat) : AS := ⟨sl, lay 0 objs, objs.length, N⟩

/-- A call of a function value that answers alone. -/
theorem core_call1 {P : Program} {o : Oper} {s : AS} {cx : Operand} {xs : Array Operand} {ats : Array TypeId} {f : FuncId} {caps ds : List D} {d : D} (hf : HasFn P f)
    (ho : o.op = .call { callee := .value cx, args := xs, argTypes := ats }) (hc : evx s cx = some (.clo f caps)) (hx : evs s xs.toList = some ds) (hr : RefsL (fun _ => False) (ds ++ caps))
    (hN : Pure P f (ds ++ caps) d) : Core P o s [] ⟨d, [], []⟩ := by
  have hb := BrwL.same (s := s) hr
  have h := core_call (P := P) (o := o) (s := s) (drops := []) 0 ho hc hx hb hN (.inl rfl) (by simp)
  have hs : d.shift 0 = d := by
    have key : ∀ d : D, d.shift 0 = d := by
      intro d
      induction d using D.rec (motive_2 := fun l => shiftL 0 l = l) (motive_3 := fun _ => True) with
      | _ => simp_all [D.shift, shiftL]
    exact key d
  simpa [hs, lay, upto] using h
theorem RefsL.app {A : Nat → Prop} : ∀ {l m : List D}, RefsL A l → RefsL A m → RefsL A (l ++ m)
  | [], _, _, h => h
  | _ :: _, _, h, k => ⟨h.1, RefsL.app h.2 k⟩
theorem Refs.clos {A : Nat → Prop} {f : FuncId} {caps : List D} (h : RefsL A caps) : Refs A (.clo f caps) := .clo f caps h.all
/-- A call whose arguments are lent and that answers alone, nothing of what was lent. -/
theorem core_callB {P : Program} {o : Oper} {s : AS} {cx : Operand} {xs : Array Operand} {ats : Array TypeId} {f : FuncId} {caps ds bs : List D} {brw : List Nat} {d : D} (hf : HasFn P f)
    (ho : o.op = .call { callee := .value cx, args := xs, argTypes := ats }) (hc : evx s cx = some (.clo f caps)) (hx : evs s xs.toList = some ds) (hb : BrwL s (ds ++ caps) bs brw)
    (hN : Pure P f bs d) (hp : Plain d) : Core P o s brw ⟨d, [], []⟩ := by
  have h := core_call (P := P) (o := o) (s := s) (drops := []) 0 ho hc hx hb hN (.inr ⟨rfl, hp, by simp⟩) (by simp)
  have hs : d.shift 0 = d := by
    have key : ∀ d : D, d.shift 0 = d := by
      intro d
      induction d using D.rec (motive_2 := fun l => shiftL 0 l = l) (motive_3 := fun _ => True) with
      | _ => simp_all [D.shift, shiftL]
    exact key d
  simpa [hs, lay, upto] using h

/-- The same in a row of an object. -/
theorem Wk.e0row {n : Nat} {s : AS} (r i j e es : Nat) {o : Obj} {row : List D} (ho : s.obj r = some o) (hrow : o.rows[i]? = some row) (hj : row[j]? = some .e0) (hn : n ≤ s.nx) :
    Wk n ⟨s.sl, (r, some ⟨o.elem, o.es, o.rows.set i (row.set j (.vw s.nx es 0 0))⟩) :: (s.nx, some ⟨e, es, []⟩) :: s.st, s.nx + 1, s.N⟩ s := by
  intro M0 β w a hI _
  have hid : ¬ (s.nx < s.nx) := Nat.lt_irrefl _
  have hrn : r < s.nx := hI.names r o ho
  let o' : Obj := ⟨o.elem, o.es, o.rows.set i (row.set j (.vw s.nx es 0 0))⟩
  have hob : (⟨s.sl, (r, some o') :: (s.nx, some ⟨e, es, []⟩) :: s.st, s.nx + 1, s.N⟩ : AS).obj = fun k => if r = k then some o' else if s.nx = k then some (⟨e, es, []⟩ : Obj) else s.obj k := by
    funext k
    simp only [AS.obj, find_cons]
    split
    · rfl
    · split <;> rfl
  obtain ⟨g1, g2⟩ := hI.toIvS.new0 (id := s.nx) hid (o := ⟨e, es, []⟩) rfl (ob' := fun r => if s.nx = r then some (⟨e, es, []⟩ : Obj) else s.obj r) (fun r => rfl)
  have hne : ¬ s.nx = r := by omega
  let β' : Nat → Option Nat := fun r => if r = s.nx then none else β r
  have hor : (fun k => if s.nx = k then some (⟨e, es, []⟩ : Obj) else s.obj k) r = some o := by simp [hne, ho]
  have hilt : i < o.rows.length := (List.getElem?_eq_some_iff.1 hrow).1
  have hjlt : j < row.length := (List.getElem?_eq_some_iff.1 hj).1
  have hown : ∀ b, Own β' (fun k => if r = k then some o' else if s.nx = k then some (⟨e, es, []⟩ : Obj) else s.obj k) b ↔ Own β' (fun k => if s.nx = k then some (⟨e, es, []⟩ : Obj) else s.obj k) b := by
    intro b
    constructor
    · rintro ⟨k, x, h1, h2⟩
      simp only at h1
      split at h1
      · rename_i e'; subst e'; exact ⟨r, o, hor, h2⟩
      · exact ⟨k, x, h1, h2⟩
    · rintro ⟨k, x, h1, h2⟩
      by_cases hk : r = k
      · subst hk; exact ⟨r, o', by simp, h2⟩
      · exact ⟨k, x, by simp only [if_neg hk]; exact h1, h2⟩
  have hmut : ∀ b, Mut M0 β' (fun k => if r = k then some o' else if s.nx = k then some (⟨e, es, []⟩ : Obj) else s.obj k) b ↔ Mut M0 β' (fun k => if s.nx = k then some (⟨e, es, []⟩ : Obj) else s.obj k) b := fun b =>
    ⟨fun h => h.imp_right (hown b).1, fun h => h.imp_right (hown b).2⟩
  have hM : (Mut M0 β' fun k => if r = k then some o' else if s.nx = k then some (⟨e, es, []⟩ : Obj) else s.obj k) = Mut M0 β' fun k => if s.nx = k then some (⟨e, es, []⟩ : Obj) else s.obj k := funext fun b => propext (hmut b)
  have hO : (Own β' fun k => if r = k then some o' else if s.nx = k then some (⟨e, es, []⟩ : Obj) else s.obj k) = Own β' fun k => if s.nx = k then some (⟨e, es, []⟩ : Obj) else s.obj k := funext fun b => propext (hown b)
  have rows' : ∀ (i' : Nat) (row' : List D), o'.rows[i']? = some row' → (i' = i ∧ row' = row.set j (.vw s.nx es 0 0)) ∨ o.rows[i']? = some row' := by
    intro i' row' h
    simp only [o', List.getElem?_set] at h
    split at h
    · rename_i e'
      subst e'
      try rw [if_pos hilt] at h
      exact .inl ⟨rfl, (Option.some.inj h).symm⟩
    · exact .inr h
  have cells' : ∀ (i' : Nat) (row' : List D) (j' : Nat) (d : D), o'.rows[i']? = some row' → row'[j']? = some d → ∃ row0 d0, o.rows[i']? = some row0 ∧ row0[j']? = some d0 ∧ (d = d0 ∨ (d0 = .e0 ∧ d = .vw s.nx es 0 0)) := by
    intro i' row' j' d h1 h2
    rcases rows' i' row' h1 with ⟨rfl, rfl⟩ | h
    · rw [List.getElem?_set] at h2
      split at h2
      · rename_i e'
        subst e'
        try rw [if_pos hjlt] at h2
        exact ⟨row, .e0, hrow, hj, .inr ⟨rfl, (Option.some.inj h2).symm⟩⟩
      · exact ⟨row, d, hrow, h2, .inl rfl⟩
    · exact ⟨row', d, h, h2, .inl rfl⟩
  have up : ∀ k, (k < s.nx ∨ k ∈ [s.nx]) → k < s.nx + 1 := by
    intro k hk
    rcases hk with hk | hk
    · omega
    · simp at hk; omega
  refine ⟨β', ⟨?_, hI.size, hI.defers, fun t' d hd => ?_, fun t' d hd => ?_⟩, by simp only; omega, ⟨?_, rfl, rfl, rfl⟩⟩
  · rw [hob]
    refine ⟨fun k x hx => ?_, fun k k' x x' b h1 h2 h3 h4 => ?_, fun k x b h1 h2 => ?_, g1.out, fun k x h1 => ?_, fun k x row' d h1 h2 h3 => ?_⟩
    · rw [hM]
      try simp only at hx
      split at hx
      · rename_i e'
        subst e'
        cases hx
        obtain ⟨q1, q2⟩ := g1.objs r o hor
        refine ⟨fun i' row' h => ?_, ?_⟩
        · rcases rows' i' row' h with ⟨rfl, rfl⟩ | h
          · rw [List.length_set]; exact q1 i' row hrow
          · exact q1 i' row' h
        · rcases q2 with ⟨q2, _⟩ | ⟨b', cs', val', q3, q4, q5, q6, q7⟩
          · rw [q2] at hilt; simp at hilt
          · refine .inr ⟨b', cs', val', q3, q4, by simpa [o'] using q5, fun i' row' j' d h1 h2 => ?_, fun i' row' j' d h1 h2 => ?_⟩
            · obtain ⟨row0, d0, c1, c2, _⟩ := cells' i' row' j' d h1 h2
              exact q6 i' row0 j' d0 c1 c2
            · obtain ⟨row0, d0, c1, c2, c3⟩ := cells' i' row' j' d h1 h2
              have hq := q7 i' row0 j' d0 c1 c2
              rcases c3 with rfl | ⟨rfl, rfl⟩
              · exact hq
              · have hy : val' i' j' = .slice none 0 0 := by
                  generalize val' i' j' = y at hq
                  cases hq with
                  | base h => cases h; rfl
                rw [hy]
                exact .vw0 _ _ (by simp [β'])
      · exact g1.objs k x hx
    · have key : ∀ (k : Nat) (x : Obj), (if r = k then some o' else if s.nx = k then some (⟨e, es, []⟩ : Obj) else s.obj k) = some x → ∃ x, (fun k => if s.nx = k then some (⟨e, es, []⟩ : Obj) else s.obj k) k = some x := by
        intro k x hx
        split at hx
        · rename_i e'; subst e'; exact ⟨o, hor⟩
        · exact ⟨x, hx⟩
      obtain ⟨y1, hy1⟩ := key k x h1
      obtain ⟨y2, hy2⟩ := key k' x' h2
      exact g1.inj k k' y1 y2 b hy1 hy2 h3 h4
    · try simp only at h1
      split at h1
      · rename_i e'; subst e'; exact g1.own r o b hor h2
      · exact g1.own k x b h1 h2
    · try simp only at h1
      split at h1
      · rename_i e'; subst e'; simp only; omega
      · exact up k (g1.names k x h1)
    · try simp only at h1
      split at h1
      · cases h1
        obtain ⟨i', hi', rfl⟩ := List.mem_iff_getElem.1 h2
        obtain ⟨j', hj', rfl⟩ := List.mem_iff_getElem.1 h3
        obtain ⟨row0, d0, c1, c2, c3⟩ := cells' i' _ j' _ (List.getElem?_eq_getElem hi') (List.getElem?_eq_getElem hj')
        rcases c3 with c3 | ⟨_, c3⟩
        · rw [c3]
          exact (hI.orefs r o row0 d0 ho (List.mem_of_getElem? c1) (List.mem_of_getElem? c2)).mono fun k hk => by simp only; omega
        · rw [c3]
          exact .vw _ _ _ _ (by simp only; omega)
      · exact (g1.orefs k x row' d h1 h2 h3).mono up
  · rw [hob, hM]
    exact (hI.slots t' d hd).keep g2.up (hI.refs t' d hd)
  · exact (hI.refs t' d hd).mono fun k hk => by simp only; omega
  · rw [hob, hO]
    exact ⟨g2.toKeep, fun k hk => g2.names k (by omega), g2.sizes⟩
end Go.Abs
