/- The abstract logic, part 7: contracts of functions over abstract data, and calls. -/
import Derived.Test.YtmmfmiamkgmikaaGreatA6
set_option linter.unusedVariables false
set_option linter.unusedSimpArgs false
namespace Go.Abs

theorem Rep.noref {M : Nat → Prop} {β : Nat → Option Nat} {w : World} {d : D} {y : Value} (h : Rep M β w d y) (hr : Refs (fun _ => False) d) : Rep0 M w d y := by
  induction h with
  | base h => exact h
  | agg cs ys hl h1 _ ih => exact .agg cs ys hl h1 fun i d y hd hy => ih i d y hd hy (hr.agg_inv d (List.mem_of_getElem? hd))
  | tup cs ys hl _ ih => exact .tup cs ys hl fun i d y hd hy => ih i d y hd hy (hr.tup_inv d (List.mem_of_getElem? hd))
  | vw => exact hr.vw_inv.elim
  | vw0 => exact hr.vw_inv.elim
  | ptr => exact hr.ptr_inv.elim
  | clo f caps ys hl _ ih =>
    cases hr with
    | clo _ _ hr => exact .clo f caps ys hl fun i d y hd hy => ih i d y hd hy (hr d (List.mem_of_getElem? hd))

/-- Nothing in it is borrowed. -/
inductive Plain : D → Prop
  | v (x : Value) : Plain (.v x)
  | un : Plain .un
  | e0 : Plain .e0
  | agg (cs : List D) (h : ∀ d ∈ cs, Plain d) : Plain (.agg cs)
  | tup (cs : List D) (h : ∀ d ∈ cs, Plain d) : Plain (.tup cs)
  | vw (r es lo n : Nat) : Plain (.vw r es lo n)
  | ptr (r es i off : Nat) : Plain (.ptr r es i off)

theorem Rep.plain {M M' : Nat → Prop} {β : Nat → Option Nat} {w : World} {d : D} {y : Value} (h : Rep M β w d y) (hp : Plain d) : Rep M' β w d y := by
  induction h with
  | base h =>
    refine .base ?_
    induction h with
    | v => exact .v _
    | un => exact .un _
    | e0 => exact .e0
    | agg cs ys hl h1 _ ih =>
      cases hp with
      | agg _ hp => exact .agg cs ys hl h1 fun i d y hd hy => ih i d y hd hy (hp d (List.mem_of_getElem? hd))
    | tup cs ys hl _ ih =>
      cases hp with
      | tup _ hp => exact .tup cs ys hl fun i d y hd hy => ih i d y hd hy (hp d (List.mem_of_getElem? hd))
    | sl => cases hp
    | sln => cases hp
    | bp => cases hp
    | clo => cases hp
  | agg cs ys hl h1 _ ih =>
    cases hp with
    | agg _ hp => exact .agg cs ys hl h1 fun i d y hd hy => ih i d y hd hy (hp d (List.mem_of_getElem? hd))
  | tup cs ys hl _ ih =>
    cases hp with
    | tup _ hp => exact .tup cs ys hl fun i d y hd hy => ih i d y hd hy (hp d (List.mem_of_getElem? hd))
  | vw r es lo n b c cs e hb hn hm hh hc => exact .vw r es lo n b c cs e hb hn hm hh hc
  | vw0 r es hb => exact .vw0 r es hb
  | ptr r es i off b hb => exact .ptr r es i off b hb
  | clo => cases hp

mutual
/-- Other names for own objects. -/
def D.shift (k : Nat) : D → D
  | .agg cs => .agg (shiftL k cs)
  | .tup cs => .tup (shiftL k cs)
  | .vw r es lo n => .vw (k + r) es lo n
  | .ptr r es i off => .ptr (k + r) es i off
  | .clo f caps => .clo f (shiftL k caps)
  | .v x => .v x
  | .un => .un
  | .sl es rows => .sl es rows
  | .sln es rows => .sln es rows
  | .e0 => .e0
  | .bp cs => .bp cs
def shiftL (k : Nat) : List D → List D
  | [] => []
  | d :: l => d.shift k :: shiftL k l
end
theorem shiftL_eq (k : Nat) : ∀ l : List D, shiftL k l = l.map (·.shift k)
  | [] => by simp [shiftL]
  | d :: l => by simp [shiftL, shiftL_eq k l]

theorem Rep0.shift {M : Nat → Prop} {w : World} (k : Nat) {d : D} {y : Value} (h : Rep0 M w d y) : Rep0 M w (d.shift k) y := by
  induction h with
  | v => exact .v _
  | un => exact .un _
  | agg cs ys hl h1 _ ih =>
    rw [D.shift, shiftL_eq]
    refine .agg _ ys (by simpa using hl) h1 fun i d y hd hy => ?_
    simp only [List.getElem?_map, Option.map_eq_some_iff] at hd
    obtain ⟨d', hd', rfl⟩ := hd
    exact ih i d' y hd' hy
  | tup cs ys hl _ ih =>
    rw [D.shift, shiftL_eq]
    refine .tup _ ys (by simpa using hl) fun i d y hd hy => ?_
    simp only [List.getElem?_map, Option.map_eq_some_iff] at hd
    obtain ⟨d', hd', rfl⟩ := hd
    exact ih i d' y hd' hy
  | sl es rows a c ad val hc hm hz hr ha hv h _ => exact .sl es rows a c ad val hc hm hz hr ha hv h
  | e0 => exact .e0
  | sln es rows ad n c h _ => exact .sln es rows ad n c h
  | bp cs ad val ha hv h _ => exact .bp cs ad val ha hv h
  | clo f caps ys hl _ ih =>
    rw [D.shift, shiftL_eq]
    refine .clo f _ ys (by simpa using hl) fun i d y hd hy => ?_
    simp only [List.getElem?_map, Option.map_eq_some_iff] at hd
    obtain ⟨d', hd', rfl⟩ := hd
    exact ih i d' y hd' hy

theorem Rep.shift {M A : Nat → Prop} {β β' : Nat → Option Nat} {w : World} (k : Nat) (hβ : ∀ r, A r → β' (k + r) = β r) {d : D} {y : Value} (h : Rep M β w d y) (hr : Refs A d) : Rep M β' w (d.shift k) y := by
  induction h with
  | base h => exact .base (h.shift k)
  | agg cs ys hl h1 _ ih =>
    rw [D.shift, shiftL_eq]
    refine .agg _ ys (by simpa using hl) h1 fun i d y hd hy => ?_
    simp only [List.getElem?_map, Option.map_eq_some_iff] at hd
    obtain ⟨d', hd', rfl⟩ := hd
    exact ih i d' y hd' hy (hr.agg_inv d' (List.mem_of_getElem? hd'))
  | tup cs ys hl _ ih =>
    rw [D.shift, shiftL_eq]
    refine .tup _ ys (by simpa using hl) fun i d y hd hy => ?_
    simp only [List.getElem?_map, Option.map_eq_some_iff] at hd
    obtain ⟨d', hd', rfl⟩ := hd
    exact ih i d' y hd' hy (hr.tup_inv d' (List.mem_of_getElem? hd'))
  | vw r es lo n b c cs e hb hn hm hh hc => exact .vw _ es lo n b c cs e ((hβ r hr.vw_inv).trans hb) hn hm hh hc
  | vw0 r es hb => exact .vw0 _ es ((hβ r hr.vw_inv).trans hb)
  | ptr r es i off b hb => exact .ptr _ es i off b ((hβ r hr.ptr_inv).trans hb)
  | clo f caps ys hl _ ih =>
    rw [D.shift, shiftL_eq]
    cases hr with
    | clo _ _ hr =>
      refine .clo f _ ys (by simpa using hl) fun i d y hd hy => ?_
      simp only [List.getElem?_map, Option.map_eq_some_iff] at hd
      obtain ⟨d', hd', rfl⟩ := hd
      exact ih i d' y hd' hy (hr d' (List.mem_of_getElem? hd'))

theorem Refs.shift {A B : Nat → Prop} (k : Nat) (hAB : ∀ r, A r → B (k + r)) {d : D} (h : Refs A d) : Refs B (d.shift k) := by
  induction h with
  | v => exact .v _
  | un => exact .un
  | agg cs _ ih =>
    rw [D.shift, shiftL_eq]
    refine .agg _ fun d hd => ?_
    obtain ⟨d', hd', rfl⟩ := List.mem_map.1 hd
    exact ih d' hd'
  | tup cs _ ih =>
    rw [D.shift, shiftL_eq]
    refine .tup _ fun d hd => ?_
    obtain ⟨d', hd', rfl⟩ := List.mem_map.1 hd
    exact ih d' hd'
  | sl => exact .sl _ _
  | sln => exact .sln _ _
  | e0 => exact .e0
  | vw r es lo k' h => exact .vw _ es lo k' (hAB _ h)
  | bp => exact .bp _
  | ptr r es i off h => exact .ptr _ es i off (hAB _ h)
  | clo f caps _ ih =>
    rw [D.shift, shiftL_eq]
    refine .clo f _ fun d hd => ?_
    obtain ⟨d', hd', rfl⟩ := List.mem_map.1 hd
    exact ih d' hd'

theorem Plain.shift (k : Nat) {d : D} (h : Plain d) : Plain (d.shift k) := by
  induction h with
  | v => exact .v _
  | un => exact .un
  | e0 => exact .e0
  | agg cs _ ih =>
    rw [D.shift, shiftL_eq]
    refine .agg _ fun d hd => ?_
    obtain ⟨d', hd', rfl⟩ := List.mem_map.1 hd
    exact ih d' hd'
  | tup cs _ ih =>
    rw [D.shift, shiftL_eq]
    refine .tup _ fun d hd => ?_
    obtain ⟨d', hd', rfl⟩ := List.mem_map.1 hd
    exact ih d' hd'
  | vw => exact .vw _ _ _ _
  | ptr => exact .ptr _ _ _ _

/-- No name of an own object. -/
@[reducible] def NoRef (d : D) : Prop := Refs (fun _ => False) d

/-- A whole call, of arguments that are lent: what it answers, and the objects that it lays (their names count from 0). -/
def New (P : Program) (f : FuncId) (args : List D) (d : D) (objs : List Obj) : Prop :=
  ∀ (M : Nat → Prop) (w : World) (vals : Array Value), vals.size = args.length → (∀ b, M b → b < w.heap.size) →
    (∀ (i : Nat) (d : D) (y : Value), args[i]? = some d → vals[i]? = some y → Rep0 M w d y) →
    Calls P f vals w fun e w' => ∃ (y : Value) (β : Nat → Option Nat), e = .returned y ∧ IvS M (· < objs.length) β (fun r => objs[r]?) w' ∧ (∀ r b, β r = some b → r < objs.length → w.heap.size ≤ b) ∧
      Rep (Mut M β fun r => objs[r]?) β w' d y ∧ Refs (· < objs.length) d ∧ w'.os = w.os ∧ w'.tape = w.tape ∧ w'.output = w.output ∧ w.heap.size ≤ w'.heap.size ∧ (∀ k, k < w.heap.size → w'.heap[k]? = w.heap[k]?)

/-- A whole call that answers alone. -/
@[reducible] def Pure (P : Program) (f : FuncId) (args : List D) (d : D) : Prop := New P f args d []

/-- What may be caught by a function: one cell. -/
def OneC : D → Prop
  | .tup _ => False
  | .un => False
  | .agg _ => False
  | .v x => x.oneCell' = true
  | _ => True

/-- How an argument is lent. -/
inductive Brw (s : AS) : D → D → List Nat → Prop
  | same (d : D) (h : NoRef d) : Brw s d d []
  | vw (r es lo n : Nat) (rows : List (List D)) (h : srcRows s es (.vw r es lo n) = some rows) (hd : ∀ row ∈ rows, ∀ d ∈ row, NoRef d) : Brw s (.vw r es lo n) (.sl es rows) [r]
  | ptr (r es i off : Nat) (cs : List D) (h : pts s (.ptr r es i off) = some cs) (hd : ∀ d ∈ cs, NoRef d) : Brw s (.ptr r es i off) (.bp cs) [r]
  | clo (f : FuncId) (caps caps' : List D) (l : List Nat) (h : Brw s (.agg caps) (.agg caps') l) (h1 : ∀ d ∈ caps, OneC d) : Brw s (.clo f caps) (.clo f caps') l
  | nil : Brw s (.agg []) (.agg []) []
  | cons (d d' : D) (cs cs' : List D) (l l' : List Nat) (h : Brw s d d' l) (ht : Brw s (.agg cs) (.agg cs') l') : Brw s (.agg (d :: cs)) (.agg (d' :: cs')) (l ++ l')

inductive BrwL (s : AS) : List D → List D → List Nat → Prop
  | nil : BrwL s [] [] []
  | cons {d d' : D} {cs cs' : List D} {l l' : List Nat} (h : Brw s d d' l) (ht : BrwL s cs cs' l') : BrwL s (d :: cs) (d' :: cs') (l ++ l')

theorem Brw.names_obj {s : AS} {d d' : D} {l : List Nat} (h : Brw s d d' l) : ∀ r ∈ l, ∃ o, s.obj r = some o := by
  induction h with
  | same => simp
  | vw r es lo n rows h hd =>
    intro q hq
    simp at hq
    subst hq
    simp only [srcRows] at h
    cases ho : s.obj q with
    | none => simp [ho] at h
    | some o => exact ⟨o, rfl⟩
  | ptr r es i off cs h hd =>
    intro q hq
    simp at hq
    subst hq
    simp only [pts] at h
    cases ho : s.obj q with
    | none => simp [ho] at h
    | some o => exact ⟨o, rfl⟩
  | clo f caps caps' l h h1 ih => exact ih
  | nil => simp
  | cons d d' cs cs' l l' _ _ ih1 ih2 =>
    intro r hr
    rcases List.mem_append.1 hr with hr | hr
    · exact ih1 r hr
    · exact ih2 r hr

/-- What is lent stands for itself, where the lent blocks can't change. -/
theorem Brw.rep {M0 A : Nat → Prop} {β : Nat → Option Nat} {s : AS} {w : World} {a : Act} (hI : Inv M0 A β s w a) {d d' : D} {l : List Nat} (h : Brw s d d' l) :
    ∀ (L : List Nat), (∀ r ∈ l, r ∈ L) → ∀ {y : Value}, Rep (Mut M0 β s.obj) β w d y → Rep0 (fun b => M0 b ∨ ∃ r o, s.obj r = some o ∧ r ∉ L ∧ β r = some b) w d' y := by
  induction h with
  | same d h =>
    intro L _ y hr
    refine (hr.noref h).less fun b hb => ?_
    rcases hb with hb | ⟨r, o, h1, _, h2⟩
    · exact .inl hb
    · exact .inr ⟨r, o, h1, h2⟩
  | vw r es lo n rows h hd =>
    intro L hL y hr
    have h0 := h
    simp only [srcRows] at h
    cases ho : s.obj r with
    | none => simp [ho] at h
    | some o =>
      simp only [ho] at h
      by_cases hc : (o.es == es && es == es && decide (lo + n ≤ o.rows.length)) = true
      · simp only [hc, cond_true, Option.some.injEq] at h
        simp only [Bool.and_eq_true, beq_iff_eq, decide_eq_true_eq] at hc
        obtain ⟨⟨rfl, _⟩, hn⟩ := hc
        have hlen : rows.length = n := by rw [← h]; simp; omega
        rcases hr.vw_inv with ⟨b, c, cs, e, hb, hy, hnc, hm, hh, hcs⟩ | ⟨hb, rfl, rfl, hy⟩
        · obtain ⟨hlt, cs', val, hh', hsz, hv, hrep⟩ := hI.toIvS.block ho hb
          have hrl := (hI.objs r o ho).1
          rw [hy]
          rw [← hlen]
          have get : ∀ {i : Nat} {row : List D}, rows[i]? = some row → o.rows[lo + i]? = some row := by
            intro i row hi
            rw [← h, List.getElem?_take] at hi
            split at hi
            · rw [List.getElem?_drop] at hi; exact hi
            · cases hi
          refine .sl o.es rows _ c ⟨b, lo * o.es, none⟩ (fun i j => val (lo + i) j) (by rw [hlen]; exact hnc) hm (fun h => by cases h) (fun i row hi => hrl _ row (get hi)) (fun _ => ⟨rfl, hlt, ?_⟩) (fun i row j d hi hj => ?_) (fun i row j d hi hj => ?_)
          · rintro (hM | ⟨r', o', h1, h2, h3⟩)
            · exact hI.own r o b ho hb hM
            · have := hI.inj r r' o o' b ho h1 hb h3
              subst this
              exact h2 (hL r (by simp))
          · obtain ⟨v1, v2⟩ := hv _ row j d (get hi) hj
            refine ⟨?_, v2⟩
            rw [add_mk, cell_of_row w b _ cs' o.elem (0, 0) hh', ← v1]
            congr 1
            rw [Nat.add_mul]
            omega
          · refine ((hrep _ row j d (get hi) hj).noref (hd row (List.mem_of_getElem? hi) d (List.mem_of_getElem? hj))).less fun b hb => ?_
            rcases hb with hb | ⟨r, o, h1, _, h2⟩
            · exact .inl hb
            · exact .inr ⟨r, o, h1, h2⟩
        · have : rows = [] := List.eq_nil_of_length_eq_zero hlen
          subst this
          rw [hy]
          exact .sl o.es [] none 0 default (fun _ _ => undef) (by simp) (by simp) (fun _ => rfl) (fun i row h => by simp at h) (fun h => by simp at h) (fun i row j d h => by simp at h) (fun i row j d h => by simp at h)
      · rw [Bool.not_eq_true] at hc
        rw [hc] at h
        simp at h
  | ptr r es i off cs h hd =>
    intro L hL y hr
    obtain ⟨b, hb, rfl⟩ := hr.ptr_inv
    simp only [pts] at h
    cases ho : s.obj r with
    | none => simp [ho] at h
    | some o =>
      simp only [ho] at h
      by_cases hes : o.es = es
      · subst hes
        simp only [BEq.rfl, cond_true, Option.map_eq_some_iff] at h
        obtain ⟨row, hrow, rfl⟩ := h
        obtain ⟨hlt, cells, val, hh, hsz, hv, hrep⟩ := hI.toIvS.block ho hb
        have at' : ∀ {k : Nat} {d : D}, (row.drop off)[k]? = some d → row[off + k]? = some d := by
          intro k d hk
          rw [← List.getElem?_drop]
          exact hk
        refine .bp _ _ (fun k => val i (off + k)) ⟨hlt, ?_⟩ (fun k d hk => ?_) (fun k d hk => ?_)
        · rintro (hM | ⟨r', o', h1, h2, h3⟩)
          · exact hI.own r o b ho hb hM
          · have := hI.inj r r' o o' b ho h1 hb h3
            subst this
            exact h2 (hL r (by simp))
        · obtain ⟨v1, v2⟩ := hv i row _ d hrow (at' hk)
          refine ⟨?_, v2⟩
          rw [add_mk, cell_of_row w b _ cells o.elem (0, 0) hh, ← v1, Nat.add_assoc]
        · refine ((hrep i row _ d hrow (at' hk)).noref (hd d (List.mem_of_getElem? hk))).less fun b hb => ?_
          rcases hb with hb | ⟨r, o, h1, _, h2⟩
          · exact .inl hb
          · exact .inr ⟨r, o, h1, h2⟩
      · have hne : (o.es == es) = false := by simpa using hes
        simp [hne] at h
  | clo f caps caps' l h h1 ih =>
    intro L hL y hr
    obtain ⟨ys, rfl, hl, hg⟩ : ∃ ys : Array Value, y = .func (.func f) #[] ys ∧ caps.length = ys.size ∧ ∀ (i : Nat) (d : D) (y : Value), caps[i]? = some d → ys[i]? = some y → Rep (Mut M0 β s.obj) β w d y := by
      cases hr with
      | base h =>
        cases h with
        | clo f caps ys hl h => exact ⟨ys, rfl, hl, fun i d y hd hy => .base (h i d y hd hy)⟩
      | clo f caps ys hl h => exact ⟨ys, rfl, hl, h⟩
    have g := ih L hL (y := .agg ys) (.agg caps ys hl (fun i y hy => by
      have hlt : i < caps.length := by rw [hl]; exact (Array.getElem?_eq_some_iff.1 hy).1
      have hs := h1 caps[i] (List.getElem_mem hlt)
      have hq := hg i caps[i] y (List.getElem?_eq_getElem hlt) hy
      generalize caps[i] = d at hs hq
      cases hq with
      | base hq =>
        cases hq with
        | v => exact hs
        | un => exact hs.elim
        | tup => exact hs.elim
        | agg => exact hs.elim
        | _ => rfl
      | agg => exact hs.elim
      | tup => exact hs.elim
      | _ => rfl) hg)
    cases g with
    | agg _ _ gl g1 g2 => exact .clo f caps' ys gl g2
  | nil =>
    intro L _ y hr
    obtain ⟨ys, rfl, hl, h1, h⟩ := hr.agg_inv
    exact .agg [] ys hl h1 fun i d y hd => by simp at hd
  | cons d d' cs cs' l l' _ _ ih1 ih2 =>
    intro L hL y hr
    obtain ⟨ys, rfl, hl, h1, h⟩ := hr.agg_inv
    obtain ⟨y0, yt, rfl⟩ : ∃ y0 yt, ys = (y0 :: yt).toArray := by
      cases hq : ys.toList with
      | nil => rw [← Array.length_toList, hq] at hl; simp at hl
      | cons y0 yt => exact ⟨y0, yt, by rw [← hq]⟩
    have g1 := ih1 L (fun r hr => hL r (List.mem_append.2 (.inl hr))) (h 0 d y0 (by simp) (by simp))
    have g2 := ih2 L (fun r hr => hL r (List.mem_append.2 (.inr hr))) (y := .agg yt.toArray) (.agg cs yt.toArray (by simpa using hl) (fun i y hy => h1 (i + 1) y (by simpa using hy)) fun i d y hd hy => h (i + 1) d y (by simpa using hd) (by simpa using hy))
    cases g2 with
    | agg _ _ gl g1' g2 =>
      refine .agg _ _ (by simpa using gl) h1 fun i d y hd hy => ?_
      cases i with
      | zero => simp at hd hy; subst hd; subst hy; exact g1
      | succ i => exact g2 i d y (by simpa using hd) (by simpa using hy)

class HasFn (P : Program) (f : FuncId) : Prop where
  fn : (P.funcs[f]?).any (fun fn => fn.body.isSome && fn.name != "runtime.NumGoroutine") = true

theorem run_callFunc {P : Program} {f : FuncId} [h : HasFn P f] (args : Array Value) (w : World) : (callFunc f args).run P w = .ok (.enter f args) w := by
  have h1 := h.fn
  cases hf : P.funcs[f]? with
  | none => simp [hf] at h1
  | some fn =>
    simp only [hf, Option.any_some, Bool.and_eq_true, bne_iff_ne, ne_eq] at h1
    obtain ⟨h2, h3⟩ := h1
    have h4 : fn.body.isNone = false := by cases hb : fn.body <;> simp_all
    simp [callFunc, hf, h3, h4]
    intro hb
    simp [hb] at h2

/-- New objects, from a name on. -/
def lay (k : Nat) : List Obj → List (Nat × Option Obj)
  | [] => []
  | o :: l => (k, some o) :: lay (k + 1) l
def upto (k : Nat) : Nat → List Nat
  | 0 => []
  | n + 1 => k :: upto (k + 1) n
theorem mem_upto : ∀ {n k r : Nat}, r ∈ upto k n ↔ k ≤ r ∧ r < k + n
  | 0, k, r => by simp only [upto, List.not_mem_nil, false_iff]; omega
  | n + 1, k, r => by simp only [upto, List.mem_cons, mem_upto]; omega
theorem find_lay : ∀ (objs : List Obj) (k r : Nat), find r (lay k objs) = if k ≤ r ∧ r < k + objs.length then some objs[r - k]? else none
  | [], k, r => by simp [lay, find]
  | o :: l, k, r => by
    simp only [lay, find_cons, find_lay l (k + 1) r, List.length_cons]
    by_cases h : k = r
    · subst h; simp
    · rw [if_neg h]
      by_cases h2 : k + 1 ≤ r ∧ r < k + 1 + l.length
      · rw [if_pos h2, if_pos (by omega)]
        have : r - k = (r - (k + 1)) + 1 := by omega
        rw [this, List.getElem?_cons_succ]
      · rw [if_neg h2, if_neg (by omega)]

theorem find_drops (l : List Nat) (r : Nat) : find r (l.map fun r => (r, (none : Option Obj))) = if r ∈ l then some none else none := by
  induction l with
  | nil => simp [find]
  | cons q l ih =>
    simp only [List.map_cons, find_cons, ih, List.mem_cons]
    by_cases hq : q = r
    · simp [hq]
    · simp [hq, Ne.symm hq]

section
variable {P : Program} {o : Oper} {s : AS}

theorem BrwL.reps {M0 A : Nat → Prop} {β : Nat → Option Nat} {s : AS} {w : World} {a : Act} (hI : Inv M0 A β s w a) {ds ds' : List D} {l : List Nat} (h : BrwL s ds ds' l) (L : List Nat) (hL : ∀ r ∈ l, r ∈ L) :
    ds.length = ds'.length ∧ ∀ (i : Nat) (d d' : D) (y : Value), ds[i]? = some d → ds'[i]? = some d' → Rep (Mut M0 β s.obj) β w d y → Rep0 (fun b => M0 b ∨ ∃ r o, s.obj r = some o ∧ r ∉ L ∧ β r = some b) w d' y := by
  induction h with
  | nil => simp
  | cons h ht ih =>
    obtain ⟨g1, g2⟩ := ih (fun r hr => hL r (List.mem_append.2 (.inr hr)))
    refine ⟨by simp [g1], fun i d d' y hd hd' hr => ?_⟩
    cases i with
    | zero => simp at hd hd'; subst hd; subst hd'; exact h.rep hI L (fun r hr => hL r (List.mem_append.2 (.inl hr))) hr
    | succ i => simp at hd hd'; exact g2 i d d' y hd hd' hr

theorem Brw.agree {s s2 : AS} {d d' : D} {l : List Nat} (h : Brw s d d' l) : (∀ r ∈ l, s2.obj r = s.obj r) → Brw s2 d d' l := by
  induction h with
  | same d h => exact fun _ => .same d h
  | vw r es lo n rows h hd => exact fun hs => .vw r es lo n rows ((srcRows_agree fun q hq => by simp [names] at hq; subst hq; exact hs q (by simp)).trans h) hd
  | ptr r es i off cs h hd => exact fun hs => .ptr r es i off cs ((pts_agree fun q hq => by simp [ptr?] at hq; subst hq; exact hs q (by simp)).trans h) hd
  | clo f caps caps' l h h1 ih => exact fun hs => .clo f caps caps' l (ih hs) h1
  | nil => exact fun _ => .nil
  | cons d d' cs cs' l l' _ _ ih1 ih2 => exact fun hs => .cons d d' cs cs' l l' (ih1 fun r hr => hs r (List.mem_append.2 (.inl hr))) (ih2 fun r hr => hs r (List.mem_append.2 (.inr hr)))
theorem BrwL.agree {s s2 : AS} {d d' : List D} {l : List Nat} (h : BrwL s d d' l) : (∀ r ∈ l, s2.obj r = s.obj r) → BrwL s2 d d' l := by
  induction h with
  | nil => exact fun _ => .nil
  | cons h ht ih => exact fun hs => .cons (h.agree fun r hr => hs r (List.mem_append.2 (.inl hr))) (ih fun r hr => hs r (List.mem_append.2 (.inr hr)))

/-- **A call.** drops: what was lent, if what comes back may share it. -/
theorem core_call {cx : Operand} {xs : Array Operand} {ats : Array TypeId} {f : FuncId} [HasFn P f] {caps ds bs : List D} {brw drops : List Nat} {d : D} {objs : List Obj} (k : Nat)
    (ho : o.op = .call { callee := .value cx, args := xs, argTypes := ats }) (hc : evx s cx = some (.clo f caps)) (hx : evs s xs.toList = some ds) (hb : BrwL s (ds ++ caps) bs brw)
    (hN : New P f bs d objs) (hdr : drops = brw ∨ (drops = [] ∧ Plain d ∧ ∀ o ∈ objs, ∀ row ∈ o.rows, ∀ e ∈ row, Plain e)) (hobj : ∀ o ∈ objs, ∀ row ∈ o.rows, ∀ e ∈ row, NoRef e) :
    Core P o s brw ⟨d.shift k, lay k objs ++ drops.map (fun r => (r, none)), upto k objs.length⟩ := by
  intro s2 h1 h2 hdst M0 A β w a hA hI K Q hK
  have hmem : ∀ x ∈ xs.toList, x ∈ o.op.operands := fun x hx => by simp [ho, Op.operands, Call.operands]; exact .inr (by simpa using hx)
  have e0 := evx_rep hI ((h1 cx (by simp [ho, Op.operands, Call.operands])).trans hc)
  have hx2 : evs s2 xs.toList = some ds := (evs_agree fun x hx => h1 x (hmem x hx)).trans hx
  obtain ⟨hxl, hxe⟩ := evs_get hx2
  have hb2 : BrwL s2 (ds ++ caps) bs brw := hb.agree h2
  obtain ⟨ys, hy, hyl, hyr⟩ : ∃ ys : Array Value, a.eval cx = .func (.func f) #[] ys ∧ caps.length = ys.size ∧ ∀ (i : Nat) (d : D) (y : Value), caps[i]? = some d → ys[i]? = some y → Rep (Mut M0 β s2.obj) β w d y := by
    have := e0.1
    generalize a.eval cx = z at this
    cases this with
    | base h =>
      cases h with
      | clo f caps ys hl h => exact ⟨ys, rfl, hl, fun i d y hd hy => .base (h i d y hd hy)⟩
    | clo f caps ys hl h => exact ⟨ys, rfl, hl, h⟩
  let vals : Array Value := xs.map a.eval ++ ys
  have hrun : (execOp a.eval o).run P w = .ok (.enter f vals) w := by
    have := run_callFunc (P := P) (f := f) vals w
    simp only [vals] at this
    simp [execOp, ho, resolve, Deferred.ofValue, hy, invoke, this, vals]
  obtain ⟨hbl, hbr⟩ := hb2.reps hI brw (fun r hr => hr)
  have hvs : vals.size = bs.length := by simp [vals, ← hbl, hyl]; omega
  let Mc : Nat → Prop := fun b => M0 b ∨ ∃ r o, s2.obj r = some o ∧ r ∉ brw ∧ β r = some b
  have hcall := hN Mc w vals hvs (fun b hb => by
      rcases hb with hb | ⟨r, o', g1, _, g2⟩
      · exact hI.out b hb
      · exact (hI.toIvS.block g1 g2).1) (fun i d' y hd' hy' => by
      have hlt : i < (ds ++ caps).length := by rw [hbl]; exact (List.getElem?_eq_some_iff.1 hd').1
      have hdi : (ds ++ caps)[i]? = some (ds ++ caps)[i] := List.getElem?_eq_getElem hlt
      refine hbr i _ d' y hdi hd' ?_
      rw [List.getElem?_append] at hdi
      simp only [vals, Array.getElem?_append, Array.size_map] at hy'
      have hxs : xs.size = ds.length := by rw [← hxl]; simp
      split at hdi
      · rename_i hlt'
        rw [if_pos (by omega)] at hy'
        simp only [Array.getElem?_map, Option.map_eq_some_iff] at hy'
        obtain ⟨x, hx', rfl⟩ := hy'
        exact (evx_rep hI (hxe i x _ (by simpa using hx') hdi)).1
      · rename_i hlt'
        rw [if_neg (by omega)] at hy'
        rw [hxs] at hy'
        exact hyr _ _ y hdi hy')
  unfold Oper.wp
  rw [hrun, Oper.upon_enter]
  refine hcall.mono ?_
  rintro e w' ⟨y, βc, rfl, gS, gnew, gr, gf, hos, htp, hout, hsz, hold⟩
  refine hK _ _ ?_
  -- the caller's state behind it
  let n := objs.length
  let β' : Nat → Option Nat := fun r => if k ≤ r ∧ r < k + n then βc (r - k) else β r
  let ob' : Nat → Option Obj := fun r => (find r ((lay k objs ++ drops.map (fun r => (r, none))) ++ s2.st)).join
  have hob' : ∀ r, ob' r = if k ≤ r ∧ r < k + n then objs[r - k]? else if r ∈ drops then none else s2.obj r := by
    intro r
    simp only [ob', find_append, find_lay]
    by_cases h : k ≤ r ∧ r < k + n
    · simp only [n] at h
      rw [if_pos h, if_pos h]
      simp [List.getElem?_eq_getElem (show r - k < objs.length by omega)]
    · simp only [n] at h
      rw [if_neg h, if_neg h]
      have hn := find_drops drops r
      rw [hn]
      by_cases hrd : r ∈ drops <;> simp [hrd]
  have hnA : ∀ r, k ≤ r → r < k + n → ¬ A r := fun r h1 h2 => hA r (mem_upto.2 ⟨h1, h2⟩)
  have hdsub : ∀ r ∈ drops, r ∈ brw := by
    rcases hdr with rfl | ⟨rfl, _⟩
    · exact fun r hr => hr
    · simp
  have hblk : ∀ r b, r < n → βc r = some b → w.heap.size ≤ b := fun r b h1 h2 => gnew r b h2 h1
  -- what may change
  have hMut : ∀ b, Own β' ob' b → Own β s2.obj b ∨ w.heap.size ≤ b := by
    rintro b ⟨r, o', g1, g2⟩
    rw [hob'] at g1
    simp only [β'] at g2
    split at g1
    · rename_i h
      rw [if_pos h] at g2
      exact .inr (hblk _ b (by omega) g2)
    · rename_i h
      rw [if_neg h] at g2
      split at g1
      · cases g1
      · exact .inl ⟨r, o', g1, g2⟩
  have hkeep : KeepB A (Own β s2.obj) (Own β' ob') β β' w w' := by
    refine ⟨⟨hsz, fun b hb _ => hold b hb, fun b hb hm hm' => ?_⟩, fun r hr => ?_, fun b cs e hb => ⟨cs, ?_, rfl⟩⟩
    · rcases hMut b hm' with h | h
      · exact hm h
      · omega
    · simp only [β']
      rw [if_neg fun h => hnA r h.1 h.2 hr]
    · rw [hold b (Array.getElem?_eq_some_iff.1 hb).1]; exact hb
  -- from the callee's view to the caller's
  have conv : ∀ {e : D} {z : Value}, Rep (Mut Mc βc fun r => objs[r]?) βc w' e z → Refs (· < objs.length) e → (drops = brw ∨ Plain e) → Rep (Mut M0 β' ob') β' w' (e.shift k) z := by
    intro e z he hf hor
    have h1 := he.shift (β' := β') k (fun r (hr : r < objs.length) => by simp only [β', n]; rw [if_pos (by omega)]; congr 1; omega) hf
    rcases hor with hd' | hp
    · have hsub : ∀ b, Mut M0 β' ob' b → Mut Mc βc (fun r => objs[r]?) b := by
        rintro b (hb | ⟨r, o', g1, g2⟩)
        · exact .inl (.inl hb)
        · rw [hob'] at g1
          simp only [β'] at g2
          split at g1
          · rename_i h
            rw [if_pos h] at g2
            exact .inr ⟨_, o', g1, g2⟩
          · rename_i h
            rw [if_neg h] at g2
            split at g1
            · cases g1
            · rename_i hnd
              exact .inl (.inr ⟨r, o', g1, hd' ▸ hnd, g2⟩)
      exact h1.keep (A := fun _ => True) ⟨⟨Nat.le_refl _, fun _ _ _ => rfl, fun b _ hb hb' => hb (hsub b hb')⟩, fun _ _ => rfl, fun b cs e hb => ⟨cs, hb, rfl⟩⟩ ((hf.shift k (B := fun _ => True) fun _ _ => trivial))
    · exact h1.plain (hp.shift k)
  have hpl : drops = brw ∨ Plain d := by
    rcases hdr with h | ⟨_, h, _⟩
    · exact .inl h
    · exact .inr h
  have hplo : ∀ o ∈ objs, ∀ row ∈ o.rows, ∀ e ∈ row, drops = brw ∨ Plain e := by
    rcases hdr with h | ⟨_, _, h⟩
    · exact fun _ _ _ _ _ _ => .inl h
    · exact fun o ho row hr e he => .inr (h o ho row hr e he)
  have noshift : ∀ {e : D}, NoRef e → e.shift k = e := by
    intro e he
    induction he with
    | v => rfl
    | un => rfl
    | agg cs _ ih => rw [D.shift, shiftL_eq, List.map_congr_left (g := id) (fun d hd => ih d hd)]; simp
    | tup cs _ ih => rw [D.shift, shiftL_eq, List.map_congr_left (g := id) (fun d hd => ih d hd)]; simp
    | sl => rfl
    | sln => rfl
    | e0 => rfl
    | vw _ _ _ _ h => exact h.elim
    | bp => rfl
    | ptr _ _ _ _ h => exact h.elim
    | clo f cs _ ih => rw [D.shift, shiftL_eq, List.map_congr_left (g := id) (fun d hd => ih d hd)]; simp
  have hS : IvS M0 (fun r => A r ∨ r ∈ upto k objs.length) β' ob' w' := by
    refine ⟨fun r o' hr => ?_, fun r r' o1 o2 b g1 g2 g3 g4 => ?_, fun r o' b g1 g2 => ?_, fun b hb => Nat.lt_of_lt_of_le (hI.out b hb) hsz, fun r o' g1 => ?_, fun r o' row e g1 g2 g3 => ?_⟩
    · rw [hob'] at hr
      split at hr
      · rename_i h
        obtain ⟨q1, q2⟩ := gS.objs _ o' hr
        refine ⟨q1, ?_⟩
        have hβr : β' r = βc (r - k) := by simp only [β']; rw [if_pos h]
        rcases q2 with ⟨q2, q3⟩ | ⟨b', cs', val', q3, q4, q5, q6, q7⟩
        · exact .inl ⟨q2, hβr.trans q3⟩
        · refine .inr ⟨b', cs', val', hβr.trans q3, q4, q5, q6, fun i row j e g1 g2 => ?_⟩
          have hoo : o' ∈ objs := List.mem_of_getElem? hr
          have hn := hobj o' hoo row (List.mem_of_getElem? g1) e (List.mem_of_getElem? g2)
          have := conv (q7 i row j e g1 g2) (hn.mono fun _ h => h.elim) (hplo o' hoo row (List.mem_of_getElem? g1) e (List.mem_of_getElem? g2))
          rwa [noshift hn] at this
      · rename_i h
        split at hr
        · cases hr
        · obtain ⟨q1, q2⟩ := hI.objs r o' hr
          refine ⟨q1, ?_⟩
          have hβr : β' r = β r := by simp only [β']; rw [if_neg h]
          rcases q2 with ⟨q2, q3⟩ | ⟨b', cs', val', q3, q4, q5, q6, q7⟩
          · exact .inl ⟨q2, hβr.trans q3⟩
          · exact .inr ⟨b', cs', val', hβr.trans q3, (hold b' (Array.getElem?_eq_some_iff.1 q4).1).trans q4, q5, q6, fun i row j e g1 g2 => (q7 i row j e g1 g2).keep hkeep.up (hI.orefs r o' row e hr (List.mem_of_getElem? g1) (List.mem_of_getElem? g2))⟩
    · rw [hob'] at g1 g2
      simp only [β'] at g3 g4
      split at g1 <;> split at g2
      · rename_i p1 p2
        rw [if_pos p1] at g3
        rw [if_pos p2] at g4
        have := gS.inj _ _ o1 o2 b g1 g2 g3 g4
        omega
      · rename_i p1 p2
        rw [if_pos p1] at g3
        rw [if_neg p2] at g4
        split at g2
        · cases g2
        · have q1 := hblk _ b (by omega) g3
          have q2 := (hI.toIvS.block g2 g4).1
          omega
      · rename_i p1 p2
        rw [if_neg p1] at g3
        rw [if_pos p2] at g4
        split at g1
        · cases g1
        · have q1 := hblk _ b (by omega) g4
          have q2 := (hI.toIvS.block g1 g3).1
          omega
      · rename_i p1 p2
        rw [if_neg p1] at g3
        rw [if_neg p2] at g4
        split at g1
        · cases g1
        · split at g2
          · cases g2
          · exact hI.inj r r' o1 o2 b g1 g2 g3 g4
    · rw [hob'] at g1
      simp only [β'] at g2
      split at g1
      · rename_i p1
        rw [if_pos p1] at g2
        intro hM
        have q1 := hblk _ b (by omega) g2
        have q2 := hI.out b hM
        omega
      · rename_i p1
        rw [if_neg p1] at g2
        split at g1
        · cases g1
        · exact hI.own r o' b g1 g2
    · rw [hob'] at g1
      split at g1
      · rename_i p1; exact .inr (mem_upto.2 p1)
      · split at g1
        · cases g1
        · exact .inl (hI.names r o' g1)
    · rw [hob'] at g1
      split at g1
      · exact (hobj o' (List.mem_of_getElem? g1) row g2 e g3).mono fun _ h => h.elim
      · split at g1
        · cases g1
        · exact (hI.orefs r o' row e g1 g2 g3).mono fun _ h => Or.inl h
  refine ⟨β', hI.step (fun r hr => Or.inl hr) hS hkeep hdst (conv gr gf hpl) (gf.shift k fun r hr => Or.inr (mem_upto.2 ⟨by omega, by omega⟩)) (fun r => rfl), ⟨hkeep, hos, htp, hout⟩⟩
end
end Go.Abs
