/- The abstract logic, part 12: a whole function's contract from its body. -/
import Derived.Test.YtmmfmiamkgmikaaGreatA11
set_option linter.unusedVariables false
set_option linter.unusedSimpArgs false
namespace Go.Abs

/-- What a datum is when the function has ended: the objects in ks go on (by their number), the others can't change any more. -/
inductive Frz (s : AS) (ks : List Nat) : D → D → Prop
  | same {d : D} (h : NoRef d) : Frz s ks d d
  | vwk {r es lo n i : Nat} (h : ks[i]? = some r) : Frz s ks (.vw r es lo n) (.vw i es lo n)
  | ptrk {r es j off i : Nat} (h : ks[i]? = some r) : Frz s ks (.ptr r es j off) (.ptr i es j off)
  | vw {r es lo n : Nat} {rows rows' : List (List D)} (h : srcRows s es (.vw r es lo n) = some rows) (hr : r ∉ ks) (hl : rows.length = rows'.length)
      (hw : ∀ (i : Nat) (row row' : List D), rows[i]? = some row → rows'[i]? = some row' → row.length = row'.length)
      (hall : ∀ row' ∈ rows', ∀ d' ∈ row', NoRef d')
      (hd : ∀ (i : Nat) (row row' : List D) (j : Nat) (d d' : D), rows[i]? = some row → rows'[i]? = some row' → row[j]? = some d → row'[j]? = some d' → Frz s ks d d') : Frz s ks (.vw r es lo n) (.sl es rows')
  | ptr {r es j off : Nat} {cs cs' : List D} (h : pts s (.ptr r es j off) = some cs) (hr : r ∉ ks) (hl : cs.length = cs'.length) (hall : ∀ d' ∈ cs', NoRef d')
      (hd : ∀ (i : Nat) (d d' : D), cs[i]? = some d → cs'[i]? = some d' → Frz s ks d d') : Frz s ks (.ptr r es j off) (.bp cs')
  | agg {cs cs' : List D} (hl : cs.length = cs'.length) (hd : ∀ (i : Nat) (d d' : D), cs[i]? = some d → cs'[i]? = some d' → Frz s ks d d') : Frz s ks (.agg cs) (.agg cs')
  | tup {cs cs' : List D} (hl : cs.length = cs'.length) (hd : ∀ (i : Nat) (d d' : D), cs[i]? = some d → cs'[i]? = some d' → Frz s ks d d') : Frz s ks (.tup cs) (.tup cs')

/-- The objects that go on. -/
structure Kept (s : AS) (ks : List Nat) (objs : List Obj) : Prop where
  len : objs.length = ks.length
  nodup : ks.Nodup
  objs : ∀ (i r : Nat) (o' : Obj), ks[i]? = some r → objs[i]? = some o' → ∃ o, s.obj r = some o ∧ o'.elem = o.elem ∧ o'.es = o.es ∧ o'.rows.length = o.rows.length ∧
    (∀ (k : Nat) (row row' : List D), o.rows[k]? = some row → o'.rows[k]? = some row' → row.length = row'.length) ∧
    (∀ (k : Nat) (row row' : List D) (j : Nat) (d d' : D), o.rows[k]? = some row → o'.rows[k]? = some row' → row[j]? = some d → row'[j]? = some d' → Frz s ks d d')

section
variable {M0 A : Nat → Prop} {β : Nat → Option Nat} {s : AS} {w : World} {ks : List Nat} {objs : List Obj}

def kβ (β : Nat → Option Nat) (ks : List Nat) (i : Nat) : Option Nat := (ks[i]?).bind β

theorem Kept.mut (hS : IvS M0 A β s.obj w) (hk : Kept s ks objs) {b : Nat} (h : Mut M0 (kβ β ks) (fun r => objs[r]?) b) : M0 b ∨ ∃ (i r : Nat) (o : Obj), ks[i]? = some r ∧ s.obj r = some o ∧ β r = some b := by
  rcases h with h | ⟨i, o', h1, h2⟩
  · exact .inl h
  · right
    cases hr : ks[i]? with
    | none => simp [kβ, hr] at h2
    | some r =>
      obtain ⟨o, ho, _⟩ := hk.objs i r o' hr h1
      exact ⟨i, r, o, hr, ho, by simpa [kβ, hr] using h2⟩

theorem Frz.rep (hS : IvS M0 A β s.obj w) (hk : Kept s ks objs) {d d' : D} (h : Frz s ks d d') : ∀ {y : Value}, Rep (Mut M0 β s.obj) β w d y → Rep (Mut M0 (kβ β ks) fun r => objs[r]?) (kβ β ks) w d' y := by
  have notM : ∀ {r b : Nat} {o : Obj}, r ∉ ks → s.obj r = some o → β r = some b → ¬ Mut M0 (kβ β ks) (fun r => objs[r]?) b := by
    intro r b o hr ho hb hm
    rcases hk.mut hS hm with h | ⟨i, r', o', h1, h2, h3⟩
    · exact hS.own r o b ho hb h
    · have := hS.inj r r' o o' b ho h2 hb h3
      subst this
      exact hr (List.mem_of_getElem? h1)
  induction h with
  | same h =>
    intro y hy
    refine .base ((hy.noref h).less fun b hb => ?_)
    rcases hk.mut hS hb with hb | ⟨i, r, o, h1, h2, h3⟩
    · exact .inl hb
    · exact .inr ⟨r, o, h2, h3⟩
  | @vwk r es lo n i h =>
    intro y hy
    rcases hy.vw_inv with ⟨b, c, cs, e, hb, rfl, hnc, hm, hh, hcs⟩ | ⟨hb, rfl, rfl, rfl⟩
    · exact .vw i es lo n b c cs e (by simp [kβ, h, hb]) hnc hm hh hcs
    · exact .vw0 i es (by simp [kβ, h, hb])
  | @ptrk r es j off i h =>
    intro y hy
    obtain ⟨b, hb, rfl⟩ := hy.ptr_inv
    exact .ptr i es j off b (by simp [kβ, h, hb])
  | @vw r es lo n rows rows' h hr hl hw hall hd ih =>
    intro y hy
    simp only [srcRows] at h
    cases ho : s.obj r with
    | none => simp [ho] at h
    | some o =>
      simp only [ho] at h
      by_cases hc : (o.es == es && es == es && decide (lo + n ≤ o.rows.length)) = true
      · simp only [hc, cond_true, Option.some.injEq] at h
        simp only [Bool.and_eq_true, beq_iff_eq, decide_eq_true_eq] at hc
        obtain ⟨⟨rfl, _⟩, hn⟩ := hc
        have hlen : rows.length = n := by rw [← h]; simp; omega
        have get : ∀ {i : Nat} {row : List D}, rows[i]? = some row → o.rows[lo + i]? = some row := by
          intro i row hi
          rw [← h, List.getElem?_take] at hi
          split at hi
          · rw [List.getElem?_drop] at hi; exact hi
          · cases hi
        rcases hy.vw_inv with ⟨b, c, cs, e, hb, rfl, hnc, hm, hh, hcs⟩ | ⟨hb, rfl, rfl, rfl⟩
        · obtain ⟨hlt, cs', val, hh', hsz, hv, hrep⟩ := hS.block ho hb
          have hrl := (hS.objs r o ho).1
          have old : ∀ {i : Nat} {row' : List D}, rows'[i]? = some row' → ∃ row, rows[i]? = some row ∧ row.length = row'.length := by
            intro i row' hi
            have hlt : i < rows.length := by rw [hl]; exact (List.getElem?_eq_some_iff.1 hi).1
            exact ⟨rows[i], List.getElem?_eq_getElem hlt, hw i _ _ (List.getElem?_eq_getElem hlt) hi⟩
          have oldd : ∀ {i j : Nat} {row row' : List D} {d' : D}, row.length = row'.length → row'[j]? = some d' → ∃ d, row[j]? = some d := by
            intro i j row row' d' hl hj
            have : j < row.length := by rw [hl]; exact (List.getElem?_eq_some_iff.1 hj).1
            exact ⟨row[j], List.getElem?_eq_getElem this⟩
          have rep' : ∀ {i : Nat} {row' : List D} {j : Nat} {d' : D}, rows'[i]? = some row' → row'[j]? = some d' → Rep (Mut M0 (kβ β ks) fun r => objs[r]?) (kβ β ks) w d' (val (lo + i) j) ∧ cs'[(lo + i) * o.es + j]? = some (val (lo + i) j) ∧ (val (lo + i) j).oneCell' = true := by
            intro i row' j d' hi hj
            obtain ⟨row, h1, h2⟩ := old hi
            obtain ⟨d, h3⟩ := oldd (i := i) h2 hj
            obtain ⟨v1, v2⟩ := hv _ row j d (get h1) h3
            exact ⟨ih i row row' j d d' h1 hi h3 hj (hrep _ row j d (get h1) h3), v1, v2⟩
          -- rows of frozen data have no names
          rw [← hlen, hl]
          refine .base (.sl o.es rows' _ c ⟨b, lo * o.es, none⟩ (fun i j => val (lo + i) j) (by rw [← hl, hlen]; exact hnc) hm (fun h => by cases h) (fun i row' hi => ?_) (fun _ => ⟨rfl, hlt, notM hr ho hb⟩) (fun i row' j d' hi hj => ?_) (fun i row' j d' hi hj => ?_))
          · obtain ⟨row, h1, h2⟩ := old hi
            rw [← h2]
            exact hrl _ row (get h1)
          · obtain ⟨_, v1, v2⟩ := rep' hi hj
            refine ⟨?_, v2⟩
            rw [add_mk, cell_of_row w b _ cs' o.elem (0, 0) hh', ← v1]
            congr 1
            rw [Nat.add_mul]
            omega
          · exact ((rep' hi hj).1.noref (hall row' (List.mem_of_getElem? hi) d' (List.mem_of_getElem? hj)))
        · have : rows = [] := List.eq_nil_of_length_eq_zero hlen
          subst this
          have : rows' = [] := List.eq_nil_of_length_eq_zero (by simpa using hl.symm)
          subst this
          exact .base (.sl o.es [] none 0 default (fun _ _ => undef) (by simp) (by simp) (fun _ => rfl) (fun i row h => by simp at h) (fun h => by simp at h) (fun i row j d h => by simp at h) (fun i row j d h => by simp at h))
      · rw [Bool.not_eq_true] at hc
        rw [hc] at h
        simp at h
  | @ptr r es j off cs cs' h hr hl hall hd ih =>
    intro y hy
    obtain ⟨b, hb, rfl⟩ := hy.ptr_inv
    simp only [pts] at h
    cases ho : s.obj r with
    | none => simp [ho] at h
    | some o =>
      simp only [ho] at h
      by_cases hes : o.es = es
      · subst hes
        simp only [BEq.rfl, cond_true, Option.map_eq_some_iff] at h
        obtain ⟨row, hrow, rfl⟩ := h
        obtain ⟨hlt, cells, val, hh, hsz, hv, hrep⟩ := hS.block ho hb
        have at' : ∀ {i : Nat} {d' : D}, cs'[i]? = some d' → ∃ d, row[off + i]? = some d ∧ (row.drop off)[i]? = some d := by
          intro i d' hi
          have : i < (row.drop off).length := by rw [hl]; exact (List.getElem?_eq_some_iff.1 hi).1
          refine ⟨(row.drop off)[i], ?_, List.getElem?_eq_getElem this⟩
          rw [← List.getElem?_drop]
          exact List.getElem?_eq_getElem this
        refine .base (.bp cs' _ (fun i => val j (off + i)) ⟨hlt, notM hr ho hb⟩ (fun i d' hi => ?_) (fun i d' hi => ?_))
        · obtain ⟨d, h1, h2⟩ := at' hi
          obtain ⟨v1, v2⟩ := hv j row _ d hrow h1
          refine ⟨?_, v2⟩
          rw [add_mk, cell_of_row w b _ cells o.elem (0, 0) hh, ← v1, Nat.add_assoc]
        · obtain ⟨d, h1, h2⟩ := at' hi
          exact (ih i d d' h2 hi (hrep j row _ d hrow h1)).noref (hall d' (List.mem_of_getElem? hi))
      · have hne : (o.es == es) = false := by simpa using hes
        simp [hne] at h
  | @agg cs cs' hl hd ih =>
    intro y hy
    obtain ⟨ys, rfl, hyl, h1, h⟩ := hy.agg_inv
    refine .agg cs' ys (by omega) h1 fun i d' y hd' hy' => ?_
    have hlt : i < cs.length := by rw [hl]; exact (List.getElem?_eq_some_iff.1 hd').1
    exact ih i _ d' (List.getElem?_eq_getElem hlt) hd' (h i _ y (List.getElem?_eq_getElem hlt) hy')
  | @tup cs cs' hl hd ih =>
    intro y hy
    obtain ⟨ys, rfl, hyl, h⟩ := hy.tup_inv
    refine .tup cs' ys (by omega) fun i d' y hd' hy' => ?_
    have hlt : i < cs.length := by rw [hl]; exact (List.getElem?_eq_some_iff.1 hd').1
    exact ih i _ d' (List.getElem?_eq_getElem hlt) hd' (h i _ y (List.getElem?_eq_getElem hlt) hy')

theorem Frz.refs (hk : Kept s ks objs) {d d' : D} (h : Frz s ks d d') : Refs (· < objs.length) d' := by
  induction h with
  | same h => exact h.mono fun _ h => h.elim
  | vwk h => exact .vw _ _ _ _ (by rw [hk.len]; exact (List.getElem?_eq_some_iff.1 h).1)
  | ptrk h => exact .ptr _ _ _ _ (by rw [hk.len]; exact (List.getElem?_eq_some_iff.1 h).1)
  | vw => exact .sl _ _
  | ptr => exact .bp _
  | @agg cs cs' hl hd ih =>
    refine .agg cs' fun d' hd' => ?_
    obtain ⟨i, hi, rfl⟩ := List.mem_iff_getElem.1 hd'
    exact ih i _ _ (List.getElem?_eq_getElem (by omega)) (List.getElem?_eq_getElem hi)
  | @tup cs cs' hl hd ih =>
    refine .tup cs' fun d' hd' => ?_
    obtain ⟨i, hi, rfl⟩ := List.mem_iff_getElem.1 hd'
    exact ih i _ _ (List.getElem?_eq_getElem (by omega)) (List.getElem?_eq_getElem hi)

theorem Kept.ivs (hS : IvS M0 A β s.obj w) (hk : Kept s ks objs) : IvS M0 (· < objs.length) (kβ β ks) (fun r => objs[r]?) w := by
  have inKs : ∀ {i : Nat} {o' : Obj}, objs[i]? = some o' → ∃ r, ks[i]? = some r := by
    intro i o' hi
    have : i < ks.length := by rw [← hk.len]; exact (List.getElem?_eq_some_iff.1 hi).1
    exact ⟨ks[i], List.getElem?_eq_getElem this⟩
  refine ⟨fun i o' hi => ?_, fun i i' o1 o2 b h1 h2 h3 h4 => ?_, fun i o' b h1 h2 => ?_, hS.out, fun i o' hi => (List.getElem?_eq_some_iff.1 hi).1, fun i o' row' d' h1 h2 h3 => ?_⟩
  · obtain ⟨r, hr⟩ := inKs hi
    obtain ⟨o, ho, he, hes, hrl, hrow, hfrz⟩ := hk.objs i r o' hr hi
    obtain ⟨q1, q2⟩ := hS.objs r o ho
    have old : ∀ {k : Nat} {row' : List D}, o'.rows[k]? = some row' → ∃ row, o.rows[k]? = some row ∧ row.length = row'.length := by
      intro k row' hk'
      have hlt : k < o.rows.length := by rw [← hrl]; exact (List.getElem?_eq_some_iff.1 hk').1
      exact ⟨o.rows[k], List.getElem?_eq_getElem hlt, hrow k _ _ (List.getElem?_eq_getElem hlt) hk'⟩
    refine ⟨fun k row' hk' => ?_, ?_⟩
    · obtain ⟨row, h1, h2⟩ := old hk'
      rw [← h2, hes]
      exact q1 k row h1
    · rcases q2 with ⟨q2, q3⟩ | ⟨b', cs', val', q3, q4, q5, q6, q7⟩
      · refine .inl ⟨List.eq_nil_of_length_eq_zero (by rw [hrl, q2]; rfl), by simp [kβ, hr, q3]⟩
      · refine .inr ⟨b', cs', val', by simp [kβ, hr, q3], by rw [he]; exact q4, by rw [hrl, hes]; exact q5, fun k row' j d' h1 h2 => ?_, fun k row' j d' h1 h2 => ?_⟩
        · obtain ⟨row, h3, h4⟩ := old h1
          have hlt : j < row.length := by rw [h4]; exact (List.getElem?_eq_some_iff.1 h2).1
          rw [hes]
          exact q6 k row j _ h3 (List.getElem?_eq_getElem hlt)
        · obtain ⟨row, h3, h4⟩ := old h1
          have hlt : j < row.length := by rw [h4]; exact (List.getElem?_eq_some_iff.1 h2).1
          exact (hfrz k row row' j _ d' h3 h1 (List.getElem?_eq_getElem hlt) h2).rep hS hk (q7 k row j _ h3 (List.getElem?_eq_getElem hlt))
  · obtain ⟨r1, hr1⟩ := inKs h1
    obtain ⟨r2, hr2⟩ := inKs h2
    obtain ⟨x1, hx1, _⟩ := hk.objs i r1 o1 hr1 h1
    obtain ⟨x2, hx2, _⟩ := hk.objs i' r2 o2 hr2 h2
    have := hS.inj r1 r2 x1 x2 b hx1 hx2 (by simpa [kβ, hr1] using h3) (by simpa [kβ, hr2] using h4)
    subst this
    exact (List.getElem?_inj (by rw [← hk.len]; exact (List.getElem?_eq_some_iff.1 h1).1) hk.nodup).1 (hr1.trans hr2.symm)
  · obtain ⟨r, hr⟩ := inKs h1
    obtain ⟨o, ho, _⟩ := hk.objs i r o' hr h1
    exact hS.own r o b ho (by simpa [kβ, hr] using h2)
  · obtain ⟨r, hr⟩ := inKs h1
    obtain ⟨o, ho, he, hes, hrl, hrow, hfrz⟩ := hk.objs i r o' hr h1
    obtain ⟨k, hk1, rfl⟩ := List.mem_iff_getElem.1 h2
    obtain ⟨j, hj1, rfl⟩ := List.mem_iff_getElem.1 h3
    have h5 := hrow k o.rows[k] _ (List.getElem?_eq_getElem (by omega)) (List.getElem?_eq_getElem hk1)
    exact (hfrz k o.rows[k] _ j (o.rows[k][j]'(by omega)) _ (List.getElem?_eq_getElem (by omega)) (List.getElem?_eq_getElem hk1) (List.getElem?_eq_getElem (by omega)) (List.getElem?_eq_getElem hj1)).refs hk
end

/-- The slots that the arguments are laid in. -/
def slotsFrom : Nat → List D → List (Nat × D)
  | _, [] => []
  | k, d :: l => (k, d) :: slotsFrom (k + 1) l
theorem find_slotsFrom : ∀ (l : List D) (k t : Nat) (d : D), find t (slotsFrom k l) = some d → k ≤ t ∧ l[t - k]? = some d
  | [], _, _, _, h => by simp [slotsFrom, find] at h
  | e :: l, k, t, d, h => by
    simp only [slotsFrom, find_cons] at h
    split at h
    · rename_i e'
      subst e'
      simp at h
      subst h
      exact ⟨Nat.le_refl _, by simp⟩
    · obtain ⟨h1, h2⟩ := find_slotsFrom l (k + 1) t d h
      refine ⟨by omega, ?_⟩
      have : t - k = (t - (k + 1)) + 1 := by omega
      rw [this, List.getElem?_cons_succ]
      exact h2

/-- What stands at a function's end. -/
def Ends (P : Program) (fn : Func) (d : D) (objs : List Obj) (x : Exit) (s : AS) : Prop :=
  (x = .normal ∨ x = .ret) ∧ ∃ (ds : List D) (ks : List Nat), ResL P s fn.results.toList ds ∧ Frz s ks (retD ds) d ∧ Kept s ks objs

/-- **A function's contract from its body.** -/
theorem New.of {P : Program} {f : FuncId} {fn : Func} {c : Code} {args : List D} {d : D} {objs : List Obj} (hf : P.funcs[f]? = some fn) (hb : fn.body = some c) (hn : args.length ≤ fn.ntmps) (ha : ∀ e ∈ args, NoRef e)
    (h : CW P 0 c ⟨slotsFrom 0 args, [], 0, fn.ntmps⟩ (Ends P fn d objs)) : New P f args d objs := by
  intro M w vals hvs hM hargs
  refine calls_of_wp hf hb ?_
  have hI : Inv M (· < (⟨slotsFrom 0 args, [], 0, fn.ntmps⟩ : AS).nx) (fun _ => none) ⟨slotsFrom 0 args, [], 0, fn.ntmps⟩ w { tmps := vals ++ Array.replicate (fn.ntmps - vals.size) undef, defers := [] } := by
    refine ⟨⟨fun r o hr => by simp [AS.obj, find] at hr, fun r r' o o' b hr => by simp [AS.obj, find] at hr, fun r o b hr => by simp [AS.obj, find] at hr, hM, fun r o hr => by simp [AS.obj, find] at hr, fun r o row d hr => by simp [AS.obj, find] at hr⟩,
      by simp [hvs]; omega, rfl, fun t e ht => ?_, fun t e ht => ?_⟩
    · obtain ⟨_, h2⟩ := find_slotsFrom _ _ _ _ ht
      simp only [Nat.sub_zero] at h2
      have hlt : t < vals.size := by rw [hvs]; exact (List.getElem?_eq_some_iff.1 h2).1
      have hv : vals[t]? = some vals[t] := by simp [hlt]
      have : (vals ++ Array.replicate (fn.ntmps - vals.size) undef).getD t undef = vals[t] := by simp [Array.getElem?_append_left hlt, hlt]
      show Rep _ _ w e ((vals ++ Array.replicate (fn.ntmps - vals.size) undef).getD t undef)
      rw [this]
      refine .base ((hargs t e _ h2 hv).less fun b hb => ?_)
      rcases hb with hb | ⟨r, o, hr, _⟩
      · exact hb
      · simp [AS.obj, find] at hr
    · obtain ⟨_, h2⟩ := find_slotsFrom _ _ _ _ ht
      exact (ha e (List.mem_of_getElem? h2)).mono fun _ h => h.elim
  refine wp_mono (h M (fun _ => none) w _ hI (Nat.le_refl _)) ?_
  rintro x a' w' ⟨s', β', ⟨hx, ds, ks, hres, hfrz, hkept⟩, hI', _, hF⟩
  obtain ⟨y, hr, hrep, _⟩ := results_rep hI' hres
  have noOwn : ∀ b, ¬ Own (fun _ => none) (⟨slotsFrom 0 args, [], 0, fn.ntmps⟩ : AS).obj b := by
    rintro b ⟨r, o, hr, _⟩
    simp [AS.obj, find] at hr
  have key : a'.defers = [] ∧ ∃ v, (results fn a'.tmps).run P w' = .ok v w' ∧ (∃ (y : Value) (β : Nat → Option Nat), Ending.returned v = .returned y ∧ IvS M (· < objs.length) β (fun r => objs[r]?) w' ∧ (∀ r b, β r = some b → r < objs.length → w.heap.size ≤ b) ∧
      Rep (Mut M β fun r => objs[r]?) β w' d y ∧ Refs (· < objs.length) d ∧ w'.os = w.os ∧ w'.tape = w.tape ∧ w'.output = w.output ∧ w.heap.size ≤ w'.heap.size ∧ (∀ k, k < w.heap.size → w'.heap[k]? = w.heap[k]?)) := by
    refine ⟨hI'.defers, y, hr, y, kβ β' ks, rfl, hkept.ivs hI'.toIvS, fun i b hb hi => ?_, hfrz.rep hI'.toIvS hkept hrep, hfrz.refs hkept, hF.os, hF.tape, hF.output, hF.size, fun k hk => hF.heap k hk (noOwn k)⟩
    cases hks : ks[i]? with
    | none => simp [kβ, hks] at hb
    | some r =>
      obtain ⟨o, ho, _⟩ := hkept.objs i r objs[i] hks (List.getElem?_eq_getElem hi)
      have hb' : β' r = some b := by simpa [kβ, hks] using hb
      rcases Nat.lt_or_ge b w.heap.size with hlt | hge
      · exact absurd ⟨r, o, ho, hb'⟩ (hF.may b hlt (noOwn b))
      · exact hge
  rcases hx with rfl | rfl
  · exact key
  · exact key
end Go.Abs
