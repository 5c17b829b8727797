/- The abstract logic, part 4: objects that are laid, written, appended to. -/
import Derived.Test.YtmmfmiamkgmikaaGreatA3
import Derived.Maps.AppendAt
import Derived.Great.FillDense
import Derived.Laws.MakeOwn
set_option linter.unusedVariables false
set_option linter.unusedSimpArgs false
namespace Go.Abs

section
variable {M0 A : Nat → Prop} {β : Nat → Option Nat} {ob ob' : Nat → Option Obj} {w w' : World}

theorem IvS.block (h : IvS M0 A β ob w) {r b : Nat} {o : Obj} (hr : ob r = some o) (hb : β r = some b) : b < w.heap.size ∧
    ∃ (cs : Array Value) (val : Nat → Nat → Value), w.heap[b]? = some (.cells cs o.elem (0, 0)) ∧ o.rows.length * o.es ≤ cs.size ∧
     (∀ (i : Nat) (row : List D) (j : Nat) (d : D), o.rows[i]? = some row → row[j]? = some d → cs[i * o.es + j]? = some (val i j) ∧ (val i j : Value).oneCell' = true) ∧
     (∀ (i : Nat) (row : List D) (j : Nat) (d : D), o.rows[i]? = some row → row[j]? = some d → Rep (Mut M0 β ob) β w d (val i j)) := by
  obtain ⟨_, h0 | ⟨b', cs, val, hb', hh, hs, hv, hrep⟩⟩ := h.objs r o hr
  · rw [h0.2] at hb
    cases hb
  · obtain rfl : b' = b := by rw [hb] at hb'; exact (Option.some.inj hb').symm
    exact ⟨(Array.getElem?_eq_some_iff.1 hh).1, cs, val, hh, hs, hv, hrep⟩

/-- A new object, in a new block. -/
theorem IvS.new (h : IvS M0 A β ob w) {id b : Nat} (hid : ¬ A id) (hb : w.heap.size ≤ b) (hold : ∀ k, k < w.heap.size → w'.heap[k]? = w.heap[k]?) (hsz : w.heap.size ≤ w'.heap.size)
    {o : Obj} {cs : Array Value} (hnew : w'.heap[b]? = some (.cells cs o.elem (0, 0))) (hob : ∀ r, ob' r = if id = r then some o else ob r)
    (hrl : ∀ (i : Nat) (row : List D), o.rows[i]? = some row → row.length = o.es) (hfit : o.rows.length * o.es ≤ cs.size) {val : Nat → Nat → Value}
    (hv : ∀ (i : Nat) (row : List D) (j : Nat) (d : D), o.rows[i]? = some row → row[j]? = some d → cs[i * o.es + j]? = some (val i j) ∧ (val i j : Value).oneCell' = true)
    (hrep : ∀ (i : Nat) (row : List D) (j : Nat) (d : D), o.rows[i]? = some row → row[j]? = some d → Rep (Mut M0 β ob) β w d (val i j) ∧ Refs A d) :
    IvS M0 (fun r => A r ∨ r ∈ [id]) (fun r => if r = id then some b else β r) ob' w' ∧
      KeepB A (Own β ob) (Own (fun r => if r = id then some b else β r) ob') β (fun r => if r = id then some b else β r) w w' := by
  have hkeep : KeepB A (Own β ob) (Own (fun r => if r = id then some b else β r) ob') β (fun r => if r = id then some b else β r) w w' := by
    refine ⟨⟨hsz, fun k hk _ => hold k hk, fun k hk hm => ?_⟩, fun r hr => ?_, fun k cs' e hk => ⟨cs', ?_, rfl⟩⟩
    · rintro ⟨r, o', hr, hbr⟩
      rw [hob] at hr
      split at hr
      · rename_i e
        subst e
        simp at hbr
        omega
      · rename_i e
        simp only [Ne.symm e, if_false] at hbr
        exact hm ⟨r, o', hr, hbr⟩
    · have : r ≠ id := fun e => hid (e ▸ hr)
      simp [this]
    · rw [hold k (Array.getElem?_eq_some_iff.1 hk).1]
      exact hk
  refine ⟨⟨fun r o' hr => ?_, fun r r' o1 o2 b' h1 h2 h3 h4 => ?_, fun r o' b' hr hbr => ?_, fun k hk => Nat.lt_of_lt_of_le (h.out k hk) hsz, fun r o' hr => ?_, fun r o' row d hr h1 h2 => ?_⟩, hkeep⟩
  · rw [hob] at hr
    split at hr
    · rename_i e
      subst e
      simp only [Option.some.injEq] at hr
      subst hr
      refine ⟨hrl, .inr ⟨b, cs, val, by simp, hnew, hfit, hv, fun i row j d h1 h2 => ?_⟩⟩
      exact (hrep i row j d h1 h2).1.keep hkeep.up (hrep i row j d h1 h2).2
    · rename_i e
      obtain ⟨g1, g2⟩ := h.objs r o' hr
      refine ⟨g1, ?_⟩
      rcases g2 with ⟨g2, g3⟩ | ⟨b', cs', val', g3, g4, g5, g6, g7⟩
      · exact .inl ⟨g2, by simp only [Ne.symm e, if_false]; exact g3⟩
      · exact .inr ⟨b', cs', val', by simp only [Ne.symm e, if_false]; exact g3, (hold b' (Array.getElem?_eq_some_iff.1 g4).1).trans g4, g5, g6,
          fun i row j d h1 h2 => (g7 i row j d h1 h2).keep hkeep.up (h.orefs r o' row d hr (List.mem_of_getElem? h1) (List.mem_of_getElem? h2))⟩
  · rw [hob] at h1 h2
    split at h1 <;> split at h2
    · rename_i e1 e2; exact e1.symm.trans e2
    · rename_i e1 e2
      subst e1
      simp only [if_true, Option.some.injEq] at h3
      simp only [Ne.symm e2, if_false] at h4
      have := (h.block h2 h4).1
      omega
    · rename_i e1 e2
      subst e2
      simp only [if_true, Option.some.injEq] at h4
      simp only [Ne.symm e1, if_false] at h3
      have := (h.block h1 h3).1
      omega
    · rename_i e1 e2
      simp only [Ne.symm e1, if_false] at h3
      simp only [Ne.symm e2, if_false] at h4
      exact h.inj r r' o1 o2 b' h1 h2 h3 h4
  · rw [hob] at hr
    split at hr
    · rename_i e
      subst e
      simp only [if_true, Option.some.injEq] at hbr
      intro hM
      have := h.out b' hM
      omega
    · rename_i e
      simp only [Ne.symm e, if_false] at hbr
      exact h.own r o' b' hr hbr
  · rw [hob] at hr
    split at hr
    · rename_i e; subst e; exact .inr (by simp)
    · exact .inl (h.names r o' hr)
  · rw [hob] at hr
    split at hr
    · simp only [Option.some.injEq] at hr
      subst hr
      obtain ⟨i, hi, rfl⟩ := List.mem_iff_getElem.1 h1
      obtain ⟨j, hj, rfl⟩ := List.mem_iff_getElem.1 h2
      exact (hrep i _ j _ (List.getElem?_eq_getElem hi) (List.getElem?_eq_getElem hj)).2.mono fun r hr => Or.inl hr
    · exact (h.orefs r o' row d hr h1 h2).mono fun r hr => Or.inl hr

/-- A new object without rows, in no block. -/
theorem IvS.new0 (h : IvS M0 A β ob w) {id : Nat} (hid : ¬ A id) {o : Obj} (ho : o.rows = []) (hob : ∀ r, ob' r = if id = r then some o else ob r) :
    IvS M0 (fun r => A r ∨ r ∈ [id]) (fun r => if r = id then none else β r) ob' w ∧
      KeepB A (Own β ob) (Own (fun r => if r = id then none else β r) ob') β (fun r => if r = id then none else β r) w w := by
  have hkeep : KeepB A (Own β ob) (Own (fun r => if r = id then none else β r) ob') β (fun r => if r = id then none else β r) w w := by
    refine ⟨⟨Nat.le_refl _, fun k hk _ => rfl, fun k hk hm => ?_⟩, fun r hr => ?_, fun k cs' e hk => ⟨cs', hk, rfl⟩⟩
    · rintro ⟨r, o', hr, hbr⟩
      rw [hob] at hr
      split at hr
      · rename_i e
        subst e
        simp at hbr
      · rename_i e
        simp only [Ne.symm e, if_false] at hbr
        exact hm ⟨r, o', hr, hbr⟩
    · have : r ≠ id := fun e => hid (e ▸ hr)
      simp [this]
  refine ⟨⟨fun r o' hr => ?_, fun r r' o1 o2 b' h1 h2 h3 h4 => ?_, fun r o' b' hr hbr => ?_, fun k hk => h.out k hk, fun r o' hr => ?_, fun r o' row d hr h1 h2 => ?_⟩, hkeep⟩
  · rw [hob] at hr
    split at hr
    · rename_i e
      subst e
      simp only [Option.some.injEq] at hr
      subst hr
      exact ⟨fun i row hi => by simp [ho] at hi, .inl ⟨ho, by simp⟩⟩
    · rename_i e
      obtain ⟨g1, g2⟩ := h.objs r o' hr
      refine ⟨g1, ?_⟩
      rcases g2 with ⟨g2, g3⟩ | ⟨b', cs', val', g3, g4, g5, g6, g7⟩
      · exact .inl ⟨g2, by simp only [Ne.symm e, if_false]; exact g3⟩
      · exact .inr ⟨b', cs', val', by simp only [Ne.symm e, if_false]; exact g3, g4, g5, g6,
          fun i row j d h1 h2 => (g7 i row j d h1 h2).keep hkeep.up (h.orefs r o' row d hr (List.mem_of_getElem? h1) (List.mem_of_getElem? h2))⟩
  · rw [hob] at h1 h2
    split at h1 <;> split at h2
    · rename_i e1 e2; exact e1.symm.trans e2
    · rename_i e1 e2; subst e1; simp at h3
    · rename_i e1 e2; subst e2; simp at h4
    · rename_i e1 e2
      simp only [Ne.symm e1, if_false] at h3
      simp only [Ne.symm e2, if_false] at h4
      exact h.inj r r' o1 o2 b' h1 h2 h3 h4
  · rw [hob] at hr
    split at hr
    · rename_i e; subst e; simp at hbr
    · rename_i e
      simp only [Ne.symm e, if_false] at hbr
      exact h.own r o' b' hr hbr
  · rw [hob] at hr
    split at hr
    · rename_i e; subst e; exact .inr (by simp)
    · exact .inl (h.names r o' hr)
  · rw [hob] at hr
    split at hr
    · simp only [Option.some.injEq] at hr
      subst hr
      simp [ho] at h1
    · exact (h.orefs r o' row d hr h1 h2).mono fun r hr => Or.inl hr

/-- An object's cells are written. -/
theorem IvS.set (h : IvS M0 A β ob w) {r b : Nat} {o o' : Obj} (hr : ob r = some o) (hb : β r = some b) {cs cs' : Array Value} (hh : w.heap[b]? = some (.cells cs o.elem (0, 0))) (hcs : cs'.size = cs.size)
    (he : o'.elem = o.elem) (hob : ∀ k, ob' k = if r = k then some o' else ob k)
    (hrl : ∀ (i : Nat) (row : List D), o'.rows[i]? = some row → row.length = o'.es) (hfit : o'.rows.length * o'.es ≤ cs.size) {val : Nat → Nat → Value}
    (hv : ∀ (i : Nat) (row : List D) (j : Nat) (d : D), o'.rows[i]? = some row → row[j]? = some d → cs'[i * o'.es + j]? = some (val i j) ∧ (val i j : Value).oneCell' = true)
    (hrep : ∀ (i : Nat) (row : List D) (j : Nat) (d : D), o'.rows[i]? = some row → row[j]? = some d → Rep (Mut M0 β ob) β w d (val i j) ∧ Refs A d) :
    IvS M0 A β ob' (w.setRow b cs') ∧ KeepB A (Own β ob) (Own β ob') β β w (w.setRow b cs') := by
  have hM : ∀ k, Own β ob' k ↔ Own β ob k := by
    intro k
    constructor
    · rintro ⟨r', o1, h1, h2⟩
      rw [hob] at h1
      split at h1
      · rename_i e; subst e; exact ⟨r, o, hr, h2⟩
      · exact ⟨r', o1, h1, h2⟩
    · rintro ⟨r', o1, h1, h2⟩
      by_cases e : r = r'
      · subst e; exact ⟨r, o', by rw [hob]; simp, h2⟩
      · exact ⟨r', o1, by rw [hob, if_neg e]; exact h1, h2⟩
  have hkeep : KeepB A (Own β ob) (Own β ob') β β w (w.setRow b cs') := by
    refine ⟨⟨by simp, fun k hk hm => ?_, fun k hk hm hm' => hm ((hM k).1 hm')⟩, fun _ _ => rfl, fun k c e hk => ?_⟩
    · exact setRow_other w b k cs' fun e => hm ⟨r, o, hr, e ▸ hb⟩
    · by_cases e' : k = b
      · subst e'
        rw [hh] at hk
        injection hk with hk
        injection hk with h1 h2 h3
        subst h1; subst h2
        exact ⟨cs', setRow_heap w k cs cs' _ _ hh, hcs⟩
      · exact ⟨c, (setRow_other w b k cs' e').trans hk, rfl⟩
  refine ⟨⟨fun r' o1 h1 => ?_, fun r1 r2 o1 o2 b' h1 h2 h3 h4 => ?_, fun r' o1 b' h1 h2 => ?_, fun k hk => by simpa using h.out k hk, fun r' o1 h1 => ?_, fun r' o1 row d h1 h2 h3 => ?_⟩, hkeep⟩
  · rw [hob] at h1
    split at h1
    · rename_i e
      subst e
      simp only [Option.some.injEq] at h1
      subst h1
      refine ⟨hrl, .inr ⟨b, cs', val, hb, by rw [he]; exact setRow_heap w b cs cs' _ _ hh, by rw [hcs]; exact hfit, hv, fun i row j d h1 h2 => ?_⟩⟩
      exact (hrep i row j d h1 h2).1.keep hkeep.up (hrep i row j d h1 h2).2
    · rename_i e
      obtain ⟨g1, g2⟩ := h.objs r' o1 h1
      refine ⟨g1, ?_⟩
      rcases g2 with ⟨g2, g3⟩ | ⟨b', cs1, val', g3, g4, g5, g6, g7⟩
      · exact .inl ⟨g2, g3⟩
      · have hne : b' ≠ b := fun e' => e (h.inj r r' o o1 b hr h1 hb (e' ▸ g3))
        exact .inr ⟨b', cs1, val', g3, (setRow_other w b b' cs' hne).trans g4, g5, g6,
          fun i row j d h2 h3 => (g7 i row j d h2 h3).keep hkeep.up (h.orefs r' o1 row d h1 (List.mem_of_getElem? h2) (List.mem_of_getElem? h3))⟩
  · have e1 : ∃ o, ob r1 = some o := by
      rw [hob] at h1
      split at h1
      · rename_i e; exact ⟨o, e ▸ hr⟩
      · exact ⟨_, h1⟩
    have e2 : ∃ o, ob r2 = some o := by
      rw [hob] at h2
      split at h2
      · rename_i e; exact ⟨o, e ▸ hr⟩
      · exact ⟨_, h2⟩
    obtain ⟨x1, e1⟩ := e1
    obtain ⟨x2, e2⟩ := e2
    exact h.inj r1 r2 x1 x2 b' e1 e2 h3 h4
  · rw [hob] at h1
    split at h1
    · rename_i e; subst e; exact h.own r o b' hr h2
    · exact h.own r' o1 b' h1 h2
  · rw [hob] at h1
    split at h1
    · rename_i e; subst e; exact h.names r o hr
    · exact h.names r' o1 h1
  · rw [hob] at h1
    split at h1
    · simp only [Option.some.injEq] at h1
      subst h1
      obtain ⟨i, hi, rfl⟩ := List.mem_iff_getElem.1 h2
      obtain ⟨j, hj, rfl⟩ := List.mem_iff_getElem.1 h3
      exact (hrep i _ j _ (List.getElem?_eq_getElem hi) (List.getElem?_eq_getElem hj)).2
    · exact h.orefs r' o1 row d h1 h2 h3

/-- Some objects are no more: what stood in their blocks can't change any more. -/
theorem IvS.drop (h : IvS M0 A β ob w) (hob : ∀ r o, ob' r = some o → ob r = some o) :
    IvS M0 A β ob' w ∧ KeepB A (Own β ob) (Own β ob') β β w w := by
  have hM : ∀ b, Own β ob' b → Own β ob b := by
    rintro b ⟨r, o, h1, h2⟩
    exact ⟨r, o, hob r o h1, h2⟩
  have hkeep : KeepB A (Own β ob) (Own β ob') β β w w := ⟨⟨Nat.le_refl _, fun _ _ _ => rfl, fun b _ hm hm' => hm (hM b hm')⟩, fun _ _ => rfl, fun k cs e hk => ⟨cs, hk, rfl⟩⟩
  refine ⟨⟨fun r o hr => ?_, fun r r' o o' b h1 h2 => h.inj r r' o o' b (hob _ _ h1) (hob _ _ h2), fun r o b h1 => h.own r o b (hob _ _ h1), h.out, fun r o h1 => h.names r o (hob _ _ h1), fun r o row d h1 => h.orefs r o row d (hob _ _ h1)⟩, hkeep⟩
  obtain ⟨g1, g2⟩ := h.objs r o (hob _ _ hr)
  refine ⟨g1, ?_⟩
  rcases g2 with g2 | ⟨b', cs1, val', g3, g4, g5, g6, g7⟩
  · exact .inl g2
  · exact .inr ⟨b', cs1, val', g3, g4, g5, g6, fun i row j d h2 h3 => (g7 i row j d h2 h3).keep hkeep.up (h.orefs r o row d (hob _ _ hr) (List.mem_of_getElem? h2) (List.mem_of_getElem? h3))⟩

/-- An object goes on under a new name. -/
theorem IvS.rename (h : IvS M0 A β ob w) {r id : Nat} (hid : ¬ A id) {o : Obj} (hr : ob r = some o) (hob : ∀ k, ob' k = if id = k then some o else if r = k then none else ob k) :
    IvS M0 (fun r => A r ∨ r ∈ [id]) (fun k => if k = id then β r else β k) ob' w ∧
      KeepB A (Own β ob) (Own (fun k => if k = id then β r else β k) ob') β (fun k => if k = id then β r else β k) w w := by
  have hM : ∀ k, Own (fun k => if k = id then β r else β k) ob' k → Own β ob k := by
    rintro k ⟨r', o1, h1, h2⟩
    rw [hob] at h1
    split at h1
    · rename_i e
      subst e
      simp only [if_true] at h2
      exact ⟨r, o, hr, h2⟩
    · rename_i e
      split at h1
      · cases h1
      · simp only [Ne.symm e, if_false] at h2
        exact ⟨r', o1, h1, h2⟩
  have hkeep : KeepB A (Own β ob) (Own (fun k => if k = id then β r else β k) ob') β (fun k => if k = id then β r else β k) w w := by
    refine ⟨⟨Nat.le_refl _, fun _ _ _ => rfl, fun k _ hm hm' => hm (hM k hm')⟩, fun k hk => ?_, fun k cs e hk => ⟨cs, hk, rfl⟩⟩
    have : k ≠ id := fun e => hid (e ▸ hk)
    simp [this]
  refine ⟨⟨fun r' o1 h1 => ?_, fun r1 r2 o1 o2 b' h1 h2 h3 h4 => ?_, fun r' o1 b' h1 h2 => ?_, h.out, fun r' o1 h1 => ?_, fun r' o1 row d h1 h2 h3 => ?_⟩, hkeep⟩
  · have key : ∀ (q : Nat), ob q = some o1 → (if r' = id then β r else β r') = β q → ObjRep (Mut M0 (fun k => if k = id then β r else β k) ob') (fun k => if k = id then β r else β k) w r' o1 := by
      intro q hq he
      obtain ⟨g1, g2⟩ := h.objs q o1 hq
      refine ⟨g1, ?_⟩
      rcases g2 with ⟨g2, g3⟩ | ⟨b', cs1, val', g3, g4, g5, g6, g7⟩
      · exact .inl ⟨g2, he.trans g3⟩
      · exact .inr ⟨b', cs1, val', he.trans g3, g4, g5, g6, fun i row j d h2 h3 => (g7 i row j d h2 h3).keep hkeep.up (h.orefs q o1 row d hq (List.mem_of_getElem? h2) (List.mem_of_getElem? h3))⟩
    rw [hob] at h1
    split at h1
    · rename_i e
      subst e
      simp only [Option.some.injEq] at h1
      subst h1
      exact key r hr (by simp)
    · rename_i e
      split at h1
      · cases h1
      · exact key r' h1 (by simp [Ne.symm e])
  · have key : ∀ k o', ob' k = some o' → ∃ q, ob q = some o' ∧ (if k = id then β r else β k) = β q ∧ ((k = id ∧ q = r) ∨ (k ≠ id ∧ q = k ∧ q ≠ r)) := by
      intro k o' hk
      rw [hob] at hk
      split at hk
      · rename_i e
        subst e
        simp only [Option.some.injEq] at hk
        subst hk
        exact ⟨r, hr, by simp, .inl ⟨rfl, rfl⟩⟩
      · rename_i e
        split at hk
        · cases hk
        · rename_i e2
          exact ⟨k, hk, by simp [Ne.symm e], .inr ⟨Ne.symm e, rfl, Ne.symm e2⟩⟩
    obtain ⟨q1, a1, a2, a3⟩ := key r1 o1 h1
    obtain ⟨q2, c1, c2, c3⟩ := key r2 o2 h2
    have := h.inj q1 q2 o1 o2 b' a1 c1 (a2 ▸ h3) (c2 ▸ h4)
    rcases a3 with ⟨x1, x2⟩ | ⟨x1, x2, x3⟩ <;> rcases c3 with ⟨y1, y2⟩ | ⟨y1, y2, y3⟩
    · rw [x1, y1]
    · exact absurd (this ▸ x2) y3
    · exact absurd (this.symm ▸ y2) x3
    · rw [← x2, ← y2, this]
  · rw [hob] at h1
    split at h1
    · rename_i e
      subst e
      simp only [if_true] at h2
      exact h.own r o b' hr h2
    · rename_i e
      split at h1
      · cases h1
      · simp only [Ne.symm e, if_false] at h2
        exact h.own r' o1 b' h1 h2
  · rw [hob] at h1
    split at h1
    · rename_i e; subst e; exact .inr (by simp)
    · split at h1
      · cases h1
      · exact .inl (h.names r' o1 h1)
  · rw [hob] at h1
    split at h1
    · simp only [Option.some.injEq] at h1
      subst h1
      exact (h.orefs r o row d hr h2 h3).mono fun r hr => Or.inl hr
    · split at h1
      · cases h1
      · exact (h.orefs r' o1 row d h1 h2 h3).mono fun r hr => Or.inl hr
end

/-- From the objects to the whole state. -/
theorem Inv.step {M0 A A' : Nat → Prop} {β β' : Nat → Option Nat} {s : AS} {ob' : Nat → Option Obj} {w w' : World} {a : Act} (h : Inv M0 A β s w a) (hAA : ∀ r, A r → A' r)
    (hs : IvS M0 A' β' ob' w') (hk : KeepB A (Own β s.obj) (Own β' ob') β β' w w') {dst : Option Tmp} (hN : ∀ t, dst = some t → t < s.N) {d : D} {y : Value}
    (hr : Rep (Mut M0 β' ob') β' w' d y) (hf : Refs A' d) {st : List (Nat × Option Obj)} {nx : Nat} (hst : ∀ r, (find r st).join = ob' r) :
    Inv M0 A' β' { sl := putS dst d s.sl, st := st, nx := nx, N := s.N } w' (a.put dst y) := by
  have hobj : (AS.obj { sl := putS dst d s.sl, st := st, nx := nx, N := s.N }) = ob' := funext hst
  have h1 : Inv M0 A' β' { sl := s.sl, st := st, nx := nx, N := s.N } w' a := by
    refine ⟨?_, h.size, h.defers, fun t d ht => ?_, fun t d ht => (h.refs t d ht).mono hAA⟩
    · show IvS M0 A' β' (AS.obj { sl := s.sl, st := st, nx := nx, N := s.N }) w'
      have : (AS.obj { sl := s.sl, st := st, nx := nx, N := s.N }) = ob' := funext hst
      rw [this]
      exact hs
    · show Rep (Mut M0 β' (AS.obj { sl := s.sl, st := st, nx := nx, N := s.N })) β' w' d _
      have : (AS.obj { sl := s.sl, st := st, nx := nx, N := s.N }) = ob' := funext hst
      rw [this]
      exact (h.slots t d ht).keep hk.up (h.refs t d ht)
  have hr' : Rep (Mut M0 β' (AS.obj { sl := s.sl, st := st, nx := nx, N := s.N })) β' w' d y := by
    have : (AS.obj { sl := s.sl, st := st, nx := nx, N := s.N }) = ob' := funext hst
    rw [this]
    exact hr
  exact h1.put hN hr' hf

section
variable {P : Program} {o : Oper} {s : AS}

/-- A datum's cells. -/
def dcells : D → List D
  | .agg cs => cs
  | d => [d]

theorem rep_cells {M : Nat → Prop} {β : Nat → Option Nat} {w : World} {A : Nat → Prop} {d : D} {y : Value} (h : Rep M β w d y) (hf : Refs A d) (hd : ∀ ds, d ≠ .tup ds) (hu : d ≠ .un) (hx : ∀ x, d = .v x → x.oneCell' = true) :
    (dcells d).length = y.cells.size ∧ (∀ (i : Nat) (v : Value), y.cells[i]? = some v → v.oneCell' = true) ∧
      (∀ (i : Nat) (e : D) (v : Value), (dcells d)[i]? = some e → y.cells[i]? = some v → Rep M β w e v ∧ Refs A e) := by
  have one : ∀ (e : D) (z : Value), dcells e = [e] → z.cells = #[z] → z.oneCell' = true → Rep M β w e z → Refs A e → (dcells e).length = z.cells.size ∧ (∀ (i : Nat) (v : Value), z.cells[i]? = some v → v.oneCell' = true) ∧
      (∀ (i : Nat) (e' : D) (v : Value), (dcells e)[i]? = some e' → z.cells[i]? = some v → Rep M β w e' v ∧ Refs A e') := by
    intro e z h1 h2 h3 h4 h5
    rw [h1, h2]
    refine ⟨rfl, fun i v hi => ?_, fun i e' v he hv => ?_⟩
    · cases i with
      | zero => simp at hi; subst hi; exact h3
      | succ i => simp at hi
    · cases i with
      | zero => simp at he hv; subst he; subst hv; exact ⟨h4, h5⟩
      | succ i => simp at he
  cases h with
  | base h =>
    have h' := h
    cases h with
    | v x =>
      have := hx _ rfl
      refine one _ _ rfl ?_ this (.base h') hf
      cases y <;> first | rfl | simp [Value.oneCell'] at this
    | un => exact absurd rfl hu
    | agg cs ys hl h1 h => exact ⟨hl, h1, fun i e v he hv => ⟨.base (h i e v he hv), hf.agg_inv e (List.mem_of_getElem? he)⟩⟩
    | tup cs => exact absurd rfl (hd cs)
    | sl => exact one _ _ rfl rfl rfl (.base h') hf
    | e0 => exact one _ _ rfl rfl rfl (.base h') hf
    | sln => exact one _ _ rfl rfl rfl (.base h') hf
    | bp => exact one _ _ rfl rfl rfl (.base h') hf
    | clo => exact one _ _ rfl rfl rfl (.base h') hf
  | agg cs ys hl h1 h => exact ⟨hl, h1, fun i e v he hv => ⟨h i e v he hv, hf.agg_inv e (List.mem_of_getElem? he)⟩⟩
  | tup cs => exact absurd rfl (hd cs)
  | vw r es lo n b c cs e hb hn hm hh hc => exact one _ _ rfl rfl rfl (.vw r es lo n b c cs e hb hn hm hh hc) hf
  | vw0 r es hb => exact one _ _ rfl rfl rfl (.vw0 r es hb) hf
  | ptr r es i off b hb => exact one _ _ rfl rfl rfl (.ptr r es i off b hb) hf
  | clo f caps ys hl h => exact one _ _ rfl rfl rfl (.clo f caps ys hl h) hf

/-- May a datum stand in memory? -/
def Solid : D → Prop
  | .tup _ => False
  | .un => False
  | .v x => x.oneCell' = true
  | _ => True
theorem rep_cells' {M : Nat → Prop} {β : Nat → Option Nat} {w : World} {A : Nat → Prop} {d : D} {y : Value} (h : Rep M β w d y) (hf : Refs A d) (hd : Solid d) :
    (dcells d).length = y.cells.size ∧ (∀ (i : Nat) (v : Value), y.cells[i]? = some v → v.oneCell' = true) ∧
      (∀ (i : Nat) (e : D) (v : Value), (dcells d)[i]? = some e → y.cells[i]? = some v → Rep M β w e v ∧ Refs A e) :=
  rep_cells h hf (fun ds e => by subst e; exact hd) (fun e => by subst e; exact hd) (fun x e => by subst e; exact hd)

/-- What an operation that lays one new object comes to. -/
theorem Core.lays {id : Nat} {ob1 : Obj} {foot : List Nat} {d : D}
    (h : ∀ s2 : AS, (∀ x ∈ o.op.operands, evx s2 x = evx s x) → (∀ r ∈ foot, s2.obj r = s.obj r) →
      ∀ (M0 A : Nat → Prop) (β : Nat → Option Nat) (w : World) (a : Act), ¬ A id → Inv M0 A β s2 w a →
        ∃ (y : Value) (w' : World) (b : Nat) (cs : Array Value) (val : Nat → Nat → Value), (execOp a.eval o).run P w = .ok (.value y) w' ∧ w.heap.size ≤ b ∧ (∀ k, k < w.heap.size → w'.heap[k]? = w.heap[k]?) ∧ w.heap.size ≤ w'.heap.size ∧
          w'.os = w.os ∧ w'.tape = w.tape ∧ w'.output = w.output ∧ w'.heap[b]? = some (.cells cs ob1.elem (0, 0)) ∧
          (∀ (i : Nat) (row : List D), ob1.rows[i]? = some row → row.length = ob1.es) ∧ ob1.rows.length * ob1.es ≤ cs.size ∧
          (∀ (i : Nat) (row : List D) (j : Nat) (d : D), ob1.rows[i]? = some row → row[j]? = some d → cs[i * ob1.es + j]? = some (val i j) ∧ (val i j : Value).oneCell' = true) ∧
          (∀ (i : Nat) (row : List D) (j : Nat) (d : D), ob1.rows[i]? = some row → row[j]? = some d → Rep (Mut M0 β s2.obj) β w d (val i j) ∧ Refs A d) ∧
          (∀ (M : Nat → Prop) (β' : Nat → Option Nat), β' id = some b → Rep M β' w' d y) ∧ Refs (fun r => r = id) d) : Core P o s foot ⟨d, [(id, some ob1)], [id]⟩ := by
  intro s2 h1 h2 hN M0 A β w a hA hI K Q hK
  have hid : ¬ A id := hA id (by simp)
  obtain ⟨y, w', b, cs, val, hrun, hb, hold, hsz, hos, htp, hout, hnew, hrl, hfit, hv, hrep, hd, hf⟩ := h s2 h1 h2 M0 A β w a hid hI
  unfold Oper.wp
  rw [hrun, Oper.upon_value]
  have hob : ∀ r, (Eff.app ⟨d, [(id, some ob1)], [id]⟩ o.dst s2).obj r = if id = r then some ob1 else s2.obj r := by
    intro r
    simp only [Eff.app, AS.obj, List.cons_append, List.nil_append, find_cons]
    split <;> rfl
  obtain ⟨g1, g2⟩ := hI.toIvS.new hid hb hold hsz hnew hob hrl hfit hv hrep
  refine hK _ _ ⟨_, ?_, ⟨g2, hos, htp, hout⟩⟩
  exact hI.step (fun r hr => Or.inl hr) g1 g2 hN (hd _ _ (by simp)) (hf.mono fun r hr => Or.inr (by simp [hr])) (fun r => rfl)

class ZeroV (P : Program) (t : TypeId) (z : outParam (List Value)) : Prop where
  zero : ((P.info? t).bind (·.zero)).map (fun v => v.cells.toList) = some z
  one : z.all (·.oneCell') = true

/-- A zero value's cell. -/
def zD : Value → D
  | .slice none 0 0 => .e0
  | v => .v v
theorem zD_rep {M : Nat → Prop} {w : World} (v : Value) : Rep0 M w (zD v) v := by
  unfold zD
  split
  · exact .e0
  · exact .v _
theorem zD_refs {A : Nat → Prop} (v : Value) : Refs A (zD v) := by
  unfold zD
  split
  · exact .e0
  · exact .v _

theorem core_alloc {t : TypeId} {z : List Value} [hz : ZeroV P t z] (id : Nat) (ho : o.op = .alloc t) :
    Core P o s [] ⟨.ptr id z.length 0 0, [(id, some ⟨t, z.length, [z.map zD]⟩)], [id]⟩ :=
  Core.lays fun s2 h1 _ M0 A β w a hid hI => by
    obtain ⟨v, hv, hvz⟩ := Option.map_eq_some_iff.1 hz.zero
    obtain ⟨i, hi, hiz⟩ := Option.bind_eq_some_iff.1 hv
    have hsz : v.cells.size = z.length := by rw [← hvz]; simp
    refine ⟨.pointer (some ⟨w.heap.size, 0, none⟩), w.alloc (.cells v.cells t), w.heap.size, v.cells, fun _ j => z.getD j undef, ?_, Nat.le_refl _, fun k hk => heap_alloc_old w _ k hk, by simp, rfl, rfl, rfl, heap_alloc_new w _,
      fun i row hi => ?_, by simp [hsz], fun i row j d hi hj => ?_, fun i row j d hi hj => ?_, fun M β' hb => ?_, .ptr _ _ _ _ rfl⟩
    · simp [execOp, ho, Instr.alloc, zeroValue, typeInfo, hi, hiz, newVar, newRow]
    · cases i with
      | zero => simp at hi; subst hi; simp
      | succ i => simp at hi
    · cases i with
      | succ i => simp at hi
      | zero =>
        simp at hi; subst hi
        simp only [List.getElem?_map, Option.map_eq_some_iff] at hj
        obtain ⟨u, hu, rfl⟩ := hj
        have hg : z.getD j undef = u := by simp [List.getD_eq_getElem?_getD, hu]
        refine ⟨?_, ?_⟩
        · simp only [hg]
          rw [Nat.zero_mul, Nat.zero_add]
          rw [← hvz] at hu
          simpa using hu
        · simp only [hg]
          exact List.all_eq_true.1 hz.one u (List.mem_of_getElem? hu)
    · cases i with
      | succ i => simp at hi
      | zero =>
        simp at hi; subst hi
        simp only [List.getElem?_map, Option.map_eq_some_iff] at hj
        obtain ⟨u, hu, rfl⟩ := hj
        have hg : z.getD j undef = u := by simp [List.getD_eq_getElem?_getD, hu]
        simp only [hg]
        exact ⟨.base (zD_rep u), zD_refs u⟩
    · have := Rep.ptr (M := M) (w := w.alloc (.cells v.cells t)) id z.length 0 0 w.heap.size hb
      simpa using this

theorem core_box {t : TypeId} {x : Operand} {d : D} (id : Nat) (ho : o.op = .box t x) (hx : evx s x = some d) (hd : Solid d) :
    Core P o s [] ⟨.ptr id (dcells d).length 0 0, [(id, some ⟨t, (dcells d).length, [dcells d]⟩)], [id]⟩ :=
  Core.lays fun s2 h1 _ M0 A β w a hid hI => by
    have e1 := evx_rep hI ((h1 x (by simp [ho, Op.operands])).trans hx)
    obtain ⟨c1, c2, c3⟩ := rep_cells' e1.1 e1.2 hd
    refine ⟨.pointer (some ⟨w.heap.size, 0, none⟩), w.alloc (.cells (a.eval x).cells t), w.heap.size, (a.eval x).cells, fun _ j => (a.eval x).cells.getD j undef, ?_, Nat.le_refl _, fun k hk => heap_alloc_old w _ k hk, by simp, rfl, rfl, rfl, heap_alloc_new w _,
      fun i row hi => ?_, by simp [c1], fun i row j d hi hj => ?_, fun i row j d hi hj => ?_, fun M β' hb => ?_, .ptr _ _ _ _ rfl⟩
    · simp [execOp, ho, Instr.box, newVar, newRow]
    · cases i with
      | zero => simp at hi; subst hi; rfl
      | succ i => simp at hi
    all_goals try
      cases i with
      | succ i => simp at hi
      | zero =>
        simp at hi; subst hi
        have hlt : j < (a.eval x).cells.size := by rw [← c1]; exact (List.getElem?_eq_some_iff.1 hj).1
        have hc : (a.eval x).cells[j]? = some (a.eval x).cells[j] := by simp [hlt]
        have hg : (a.eval x).cells.getD j undef = (a.eval x).cells[j] := by simp [hlt]
        first
        | (refine ⟨?_, ?_⟩
           · rw [Nat.zero_mul, Nat.zero_add, hc]; simp [hlt]
           · simp only [hg]; exact c2 j _ hc)
        | (simp only [hg]; exact c3 j _ _ hj hc)
    · have := Rep.ptr (M := M) (w := w.alloc (.cells (a.eval x).cells t)) id (dcells d).length 0 0 w.heap.size hb
      simpa using this
end
end Go.Abs
