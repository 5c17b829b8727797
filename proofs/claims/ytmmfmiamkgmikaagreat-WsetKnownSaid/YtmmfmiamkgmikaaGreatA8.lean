/- The abstract logic, part 8: guards, regions in the text's order, and code. -/
import Derived.Test.YtmmfmiamkgmikaaGreatA7
import Derived.LoopN
set_option linter.unusedVariables false
set_option linter.unusedSimpArgs false
namespace Go.Abs

/-- An operation in its region: guarded or not. -/
def Loc (P : Program) (ops : Array Oper) (o : Oper) (s : AS) (foot : List Nat) (e : Eff) : Prop :=
  ∀ s2 : AS, (∀ x ∈ o.op.operands, evx s2 x = evx s x) → (∀ j want t, o.guard = some (j, want) → (ops[j]?).bind (·.dst) = some t → s2.slot t = s.slot t) → (∀ r ∈ foot, s2.obj r = s.obj r) → (∀ t, o.dst = some t → t < s2.N) →
    ∀ (M0 A : Nat → Prop) (β : Nat → Option Nat) (w : World) (a : Act), (∀ r ∈ e.news, ¬ A r) → Inv M0 A β s2 w a →
      ∀ (K : Act → World → Prop) (Q : Exit → Act → World → Prop), (∀ a' w', Post M0 A β s2 w o.dst e a' w' → K a' w') →
        if Region.wanted o (yielded ops a.tmps) then o.wp P a w K Q else K (a.put o.dst undef) w

section
variable {P : Program} {ops : Array Oper} {o : Oper} {s : AS} {foot : List Nat} {e : Eff}

theorem Loc.plain (hg : o.guard = none) (h : Core P o s foot e) : Loc P ops o s foot e := by
  intro s2 h1 _ h2 hN M0 A β w a hA hI K Q hK
  rw [if_pos (by simp [Region.wanted, hg])]
  exact h s2 h1 h2 hN M0 A β w a hA hI K Q hK

/-- Is a guard's datum what is wanted? -/
def gB : D → Bool → Bool
  | .v (.bool x), w => x == w
  | _, _ => false
/-- A datum whose value is told. -/
inductive Exact : D → Prop
  | v (x : Value) : Exact (.v x)

theorem gB_spec {M : Nat → Prop} {β : Nat → Option Nat} {w : World} {d : D} {y : Value} (h : Rep M β w d y) (he : Exact d) (want : Bool) :
    ((match (some y : Option Value) with | some (.bool b) => some b | _ => none) == some want) = gB d want := by
  cases he with
  | v x =>
    have := h.one
    subst this
    cases y <;> rfl

theorem guard_spec {M0 A : Nat → Prop} {β : Nat → Option Nat} {s : AS} {w : World} {a : Act} (hI : Inv M0 A β s w a) {j : Nat} {want : Bool} {t : Nat} (hg : o.guard = some (j, want)) (hj : (ops[j]?).bind (·.dst) = some t) {d : D}
    (hd : s.slot t = some d) (he : Exact d) (ht : t < s.N) : Region.wanted o (yielded ops a.tmps) = gB d want := by
  have h1 := hI.slots t d hd
  have h2 : a.tmps[t]? = some (a.tmps.getD t undef) := by
    have : t < a.tmps.size := by rw [hI.size]; exact ht
    simp [this]
  rw [← gB_spec h1 he want]
  simp only [Region.wanted, hg, yielded, hj, Option.bind_some, h2]
  cases a.tmps.getD t undef <;> rfl

/-- A guarded operation that leaves the objects alone. -/
theorem Loc.guard {j : Nat} {want : Bool} {t : Nat} {dg d : D} {g : Bool} (hg : o.guard = some (j, want)) (hj : (ops[j]?).bind (·.dst) = some t) (hd : s.slot t = some dg) (he : Exact dg) (ht : t < s.N) (hb : gB dg want = g)
    (h : g = true → Core P o s foot ⟨d, [], []⟩) : Loc P ops o s foot ⟨bif g then d else .v undef, [], []⟩ := by
  intro s2 h1 h3 h2 hN M0 A β w a hA hI K Q hK
  have hd2 : s2.slot t = some dg := (h3 j want t hg hj).trans hd
  by_cases htN : t < s2.N
  · rw [guard_spec hI hg hj hd2 he htN, hb]
    cases g with
    | true =>
      rw [if_pos rfl]
      exact h rfl s2 h1 h2 hN M0 A β w a hA hI K Q hK
    | false =>
      rw [if_neg (by simp)]
      exact hK _ _ (hI.post hN (.base (.v _)) (.v _))
  · have hsz : a.tmps.getD t undef = undef := by
      have : ¬ t < a.tmps.size := by rw [hI.size]; exact htN
      simp [this]
    have h4 := hI.slots t dg hd2
    have hw : Region.wanted o (yielded ops a.tmps) = false := by
      have : a.tmps[t]? = none := by
        have : ¬ t < a.tmps.size := by rw [hI.size]; exact htN
        simp; omega
      simp [Region.wanted, hg, yielded, hj, this]
    have hgf : g = false := by
      rw [← hb, ← gB_spec h4 he want, hsz]
      rfl
    subst hgf
    rw [if_neg (by simp [hw])]
    exact hK _ _ (hI.post hN (.base (.v _)) (.v _))

/-- A guard that is met. -/
theorem Loc.on {j : Nat} {want : Bool} {t : Nat} {dg : D} (hg : o.guard = some (j, want)) (hj : (ops[j]?).bind (·.dst) = some t) (hd : s.slot t = some dg) (he : Exact dg) (hb : gB dg want = true)
    (h : Core P o s foot e) : Loc P ops o s foot e := by
  intro s2 h1 h3 h2 hN M0 A β w a hA hI K Q hK
  have hd2 : s2.slot t = some dg := (h3 j want t hg hj).trans hd
  have h4 := hI.slots t dg hd2
  by_cases htN : t < s2.N
  · rw [guard_spec hI hg hj hd2 he htN, hb, if_pos rfl]
    exact h s2 h1 h2 hN M0 A β w a hA hI K Q hK
  · have hsz : a.tmps.getD t undef = undef := by
      have : ¬ t < a.tmps.size := by rw [hI.size]; exact htN
      simp [this]
    rw [← gB_spec h4 he want, hsz] at hb
    cases hb
end

/-! ### Regions in the text's order -/
inductive Run (P : Program) (ops : Array Oper) : List Oper → AS → List (List Nat × Eff) → AS → Prop
  | nil (s : AS) : Run P ops [] s [] s
  | cons {o : Oper} {os : List Oper} {s s' : AS} {f : List Nat} {e : Eff} {l : List (List Nat × Eff)} (hd : ∀ t, o.dst = some t → t < s.N) (hn : ∀ r ∈ e.news, s.nx ≤ r) (h : Loc P ops o s f e) (ht : Run P ops os (e.app o.dst s) l s') : Run P ops (o :: os) s ((f, e) :: l) s'

theorem bump_le : ∀ (l : List Nat) (n : Nat), n ≤ bump n l ∧ ∀ r ∈ l, r < bump n l
  | [], n => by simp [bump]
  | q :: l, n => by
    obtain ⟨h1, h2⟩ := bump_le l (max n (q + 1))
    refine ⟨by simp only [bump]; omega, fun r hr => ?_⟩
    simp only [bump]
    rcases List.mem_cons.1 hr with rfl | hr
    · omega
    · exact h2 r hr

theorem Post.names {M0 : Nat → Prop} {β : Nat → Option Nat} {s : AS} {w w' : World} {a' : Act} {dst : Option Tmp} {e : Eff} (h : Post M0 (· < s.nx) β s w dst e a' w') :
    ∃ β', Inv M0 (· < (e.app dst s).nx) β' (e.app dst s) w' a' ∧ Fr (· < s.nx) (Own β s.obj) (Own β' (e.app dst s).obj) β β' w w' := by
  obtain ⟨β', h1, h2⟩ := h
  refine ⟨β', h1.names_mono fun r hr => ?_, h2⟩
  obtain ⟨b1, b2⟩ := bump_le e.news s.nx
  rcases hr with hr | hr
  · show r < bump s.nx e.news
    omega
  · exact b2 r hr

theorem app_nx (e : Eff) (dst : Option Tmp) (s : AS) : s.nx ≤ (e.app dst s).nx := (bump_le e.news s.nx).1

theorem Run.wp {P : Program} {ops : Array Oper} {todo : List Oper} {s s' : AS} {l : List (List Nat × Eff)} (h : Run P ops todo s l s') :
    ∀ {M0 : Nat → Prop} {β : Nat → Option Nat} {w : World} {a : Act}, Inv M0 (· < s.nx) β s w a → ∀ (Q : Exit → Act → World → Prop),
      (∀ β' w' a', Inv M0 (· < s'.nx) β' s' w' a' → Fr (· < s.nx) (Own β s.obj) (Own β' s'.obj) β β' w w' → Q .normal a' w') → wpList P ops Q todo a w := by
  induction h with
  | nil s => exact fun hI Q hQ => hQ _ _ _ hI (Fr.refl _ _ _ _)
  | @cons o os s s' f e l hd hn hl ht ih =>
    intro M0 β w a hI Q hQ
    refine wpList_step fun K hK => ?_
    refine hl s (fun _ _ => rfl) (fun _ _ _ _ _ => rfl) (fun _ _ => rfl) hd M0 (· < s.nx) β w a (fun r hr => by have := hn r hr; omega) hI K Q fun a' w' hp => hK a' w' ?_
    obtain ⟨β', h1, h2⟩ := hp.names
    exact ih h1 Q fun β'' w'' a'' g1 g2 => hQ β'' w'' a'' g1 (h2.trans (fun r hr => Nat.lt_of_lt_of_le hr (app_nx e o.dst s)) g2)

theorem Run.nx {P : Program} {ops : Array Oper} {todo : List Oper} {s s' : AS} {l : List (List Nat × Eff)} (h : Run P ops todo s l s') : s.nx ≤ s'.nx := by
  induction h with
  | nil => exact Nat.le_refl _
  | cons hd hn' h ht ih => exact Nat.le_trans (app_nx _ _ _) ih

/-! ### Code -/
/-- What code does, told of states. n: the names that stay. -/
def CW (P : Program) (n : Nat) (c : Code) (s : AS) (Q : Exit → AS → Prop) : Prop :=
  ∀ (M0 : Nat → Prop) (β : Nat → Option Nat) (w : World) (a : Act), Inv M0 (· < s.nx) β s w a → n ≤ s.nx →
    c.wp P (fun x a' w' => ∃ s' β', Q x s' ∧ Inv M0 (· < s'.nx) β' s' w' a' ∧ n ≤ s'.nx ∧ Fr (· < n) (Own β s.obj) (Own β' s'.obj) β β' w w') a w

section
variable {P : Program} {n : Nat} {s : AS} {Q : Exit → AS → Prop}

theorem CW.mono {c : Code} {Q' : Exit → AS → Prop} (h : CW P n c s Q) (hq : ∀ x s', Q x s' → Q' x s') : CW P n c s Q' :=
  fun M0 β w a hI hn => wp_mono (h M0 β w a hI hn) fun x a' w' ⟨s', β', h1, h2⟩ => ⟨s', β', hq _ _ h1, h2⟩

theorem CW.here {c : Code} {x : Exit} (h : Q x s) (hc : ∀ (Q' : Exit → Act → World → Prop) (a : Act) (w : World), Q' x a w → c.wp P Q' a w) : CW P n c s Q :=
  fun M0 β w a hI hn => hc _ a w ⟨s, β, h, hI, hn, Fr.refl _ _ _ _⟩
theorem CW.skip (h : Q .normal s) : CW P n .skip s Q := CW.here h fun _ _ _ h => wp_skip h
theorem CW.ret (h : Q .ret s) : CW P n .ret s Q := CW.here h fun _ _ _ h => wp_ret h
theorem CW.exit {id : Nat} (h : Q (.exit id) s) : CW P n (.exit id) s Q := CW.here h fun _ _ _ h => wp_exit h

def thenQ (next : AS → Prop) (Q : Exit → AS → Prop) : Exit → AS → Prop
  | .normal, s => next s
  | x, s => Q x s
theorem CW.seq {x y : Code} (h : CW P n x s (thenQ (fun s' => CW P n y s' Q) Q)) : CW P n (.seq x y) s Q := by
  intro M0 β w a hI hn
  refine wp_seq (wp_mono (h M0 β w a hI hn) fun e a' w' ⟨s', β', h1, h2, h3, h4⟩ => ?_)
  have other : e ≠ .normal → (∃ s'' β'', Q e s'' ∧ Inv M0 (· < s''.nx) β'' s'' w' a' ∧ n ≤ s''.nx ∧ Fr (· < n) (Own β s.obj) (Own β'' s''.obj) β β'' w w') → Exit.then (y.wp P fun x a' w' => ∃ s' β', Q x s' ∧ Inv M0 (· < s'.nx) β' s' w' a' ∧ n ≤ s'.nx ∧ Fr (· < n) (Own β s.obj) (Own β' s'.obj) β β' w w')
      (fun x a' w' => ∃ s' β', Q x s' ∧ Inv M0 (· < s'.nx) β' s' w' a' ∧ n ≤ s'.nx ∧ Fr (· < n) (Own β s.obj) (Own β' s'.obj) β β' w w') e a' w' := by
    intro hne hh
    cases e <;> first | exact absurd rfl hne | exact hh
  cases e with
  | normal =>
    show y.wp P _ a' w'
    exact wp_mono (h1 M0 β' w' a' h2 h3) fun x a'' w'' ⟨s'', β'', g1, g2, g3, g4⟩ => ⟨s'', β'', g1, g2, g3, h4.trans (fun _ h => h) g4⟩
  | _ => exact other (by simp) ⟨s', β', h1, h2, h3, h4⟩

theorem CW.cond {c : Operand} {x y : Code} {b : Bool} (hc : evx s c = some (.b b)) (ht : b = true → CW P n x s Q) (hf : b = false → CW P n y s Q) : CW P n (.cond c x y) s Q := by
  intro M0 β w a hI hn
  have hv := (evx_rep hI hc).1.one
  refine wp_cond_split (t := b) hv (fun h => ht h M0 β w a hI hn) fun h => hf h M0 β w a hI hn

def blockQ (id : Nat) (Q : Exit → AS → Prop) : Exit → AS → Prop
  | .exit j, s => if j = id then Q .normal s else Q (.exit j) s
  | x, s => Q x s
theorem CW.block {id : Nat} {c : Code} (h : CW P n c s (blockQ id Q)) : CW P n (.block id c) s Q := by
  intro M0 β w a hI hn
  refine wp_block (wp_mono (h M0 β w a hI hn) fun e a' w' ⟨s', β', h1, h2⟩ => ?_)
  cases e with
  | exit j =>
    simp only [blockQ] at h1
    simp only [Exit.inBlock]
    split
    · rename_i h; rw [if_pos h] at h1; exact ⟨s', β', h1, h2⟩
    · rename_i h; rw [if_neg h] at h1; exact ⟨s', β', h1, h2⟩
  | _ => exact ⟨s', β', h1, h2⟩

/-- A state of which less is known. -/
structure Weak (n : Nat) (E s : AS) : Prop where
  N : E.N = s.N
  nx : n ≤ E.nx ∧ E.nx ≤ s.nx
  slots : ∀ t d, E.slot t = some d → s.slot t = some d
  objs : ∀ r o, E.obj r = some o → s.obj r = some o
  names : ∀ r o, E.obj r = some o → r < E.nx
  refs : ∀ t d, E.slot t = some d → Refs (· < E.nx) d
  orefs : ∀ r o row d, E.obj r = some o → row ∈ o.rows → d ∈ row → Refs (· < E.nx) d

theorem Weak.inv {E : AS} (h : Weak n E s) {M0 : Nat → Prop} {β : Nat → Option Nat} {w : World} {a : Act} (hI : Inv M0 (· < s.nx) β s w a) :
    Inv M0 (· < E.nx) β E w a ∧ Fr (· < n) (Own β s.obj) (Own β E.obj) β β w w := by
  obtain ⟨g1, g2⟩ := hI.toIvS.drop h.objs
  refine ⟨⟨⟨g1.objs, g1.inj, g1.own, g1.out, h.names, h.orefs⟩, by rw [hI.size, h.N], hI.defers, fun t d ht => ?_, h.refs⟩, ⟨⟨g2.toKeep, fun _ _ => rfl, g2.sizes⟩, rfl, rfl, rfl⟩⟩
  exact (hI.slots t d (h.slots t d ht)).keep g2.up (hI.refs t d (h.slots t d ht))

/-- From a state to one of which less is known (or by other names). -/
def Wk (n : Nat) (E s : AS) : Prop :=
  ∀ (M0 : Nat → Prop) (β : Nat → Option Nat) (w : World) (a : Act), Inv M0 (· < s.nx) β s w a → n ≤ s.nx → ∃ β', Inv M0 (· < E.nx) β' E w a ∧ n ≤ E.nx ∧ Fr (· < n) (Own β s.obj) (Own β' E.obj) β β' w w
theorem Weak.wk {E : AS} (h : Weak n E s) : Wk n E s := fun M0 β w a hI _ => ⟨β, (h.inv hI).1, h.nx.1, (h.inv hI).2⟩
theorem Wk.refl : Wk n s s := fun M0 β w a hI hn => ⟨β, hI, hn, Fr.refl _ _ _ _⟩

theorem CW.weak {c : Code} {E : AS} (hw : Wk n E s) (h : CW P n c E Q) : CW P n c s Q := by
  intro M0 β w a hI hn
  obtain ⟨β1, g1, g3, g2⟩ := hw M0 β w a hI hn
  exact wp_mono (h M0 β1 w a g1 g3) fun x a' w' ⟨s', β', h1, h2, h3, h4⟩ => ⟨s', β', h1, h2, h3, g2.trans (fun _ h => h) h4⟩

/-- Behind code, less is known. -/
theorem CW.post_weak {c : Code} {Q' : Exit → AS → Prop} (h : CW P n c s Q') (hq : ∀ x s', Q' x s' → ∃ E, Wk n E s' ∧ Q x E) : CW P n c s Q := by
  intro M0 β w a hI hn
  refine wp_mono (h M0 β w a hI hn) fun x a' w' ⟨s', β', h1, h2, h3, h4⟩ => ?_
  obtain ⟨E, h5, h6⟩ := hq x s' h1
  obtain ⟨β1, g1, g3, g2⟩ := h5 M0 β' w' a' h2 h3
  exact ⟨E, β1, h6, g1, g3, h4.trans (fun _ h => h) g2⟩

/-- A loop: J of the state at each round's head; each round that goes on lowers the measure. -/
theorem CW.loop {c : Code} {ι : Type} (E : ι → AS) (μ : ι → Nat) (i : ι) (h0 : Wk n (E i) s)
    (h : ∀ i, CW P n c (E i) fun x s' => match x with
      | .normal => ∃ j, Wk n (E j) s' ∧ μ j < μ i
      | x => Q x s') : CW P n (.loop c) s Q := by
  intro M0 β w a hI hn
  let Q0 : Exit → Act → World → Prop := fun x a' w' => ∃ s' β', Q x s' ∧ Inv M0 (· < s'.nx) β' s' w' a' ∧ n ≤ s'.nx ∧ Fr (· < n) (Own β s.obj) (Own β' s'.obj) β β' w w'
  have key : ∀ (m : Nat) (i : ι), μ i ≤ m → ∀ (β' : Nat → Option Nat) (w' : World) (a' : Act), Inv M0 (· < (E i).nx) β' (E i) w' a' → n ≤ (E i).nx → Fr (· < n) (Own β s.obj) (Own β' (E i).obj) β β' w w' →
      Code.rounds P c Q0 (m + 1) a' w' := by
    intro m
    induction m with
    | zero =>
      intro i hi β' w' a' hI' hn' hF
      rw [rounds_succ]
      refine wp_mono (h i M0 β' w' a' hI' hn') fun x a'' w'' ⟨s', β'', h1, h2, h3, h4⟩ => ?_
      cases x with
      | normal => obtain ⟨j, _, hj⟩ := h1; omega
      | _ => exact ⟨s', β'', h1, h2, h3, hF.trans (fun _ h => h) h4⟩
    | succ m ih =>
      intro i hi β' w' a' hI' hn' hF
      rw [rounds_succ]
      refine wp_mono (h i M0 β' w' a' hI' hn') fun x a'' w'' ⟨s', β'', h1, h2, h3, h4⟩ => ?_
      cases x with
      | normal =>
        obtain ⟨j, hw, hj⟩ := h1
        obtain ⟨β1, g1, g3, g2⟩ := hw M0 β'' w'' a'' h2 h3
        exact ih j (by omega) β1 w'' a'' g1 g3 ((hF.trans (fun _ h => h) h4).trans (fun _ h => h) g2)
      | _ => exact ⟨s', β'', h1, h2, h3, hF.trans (fun _ h => h) h4⟩
  obtain ⟨β1, g1, g3, g2⟩ := h0 M0 β w a hI hn
  exact wp_loop_rounds _ (key (μ i) i (Nat.le_refl _) β1 w a g1 g3 g2)

/-- A region in the text's order. -/
theorem CW.region {id : Nat} {l : List Oper} {s' : AS} {es : List (List Nat × Eff)} (hr : Run P l.toArray l s es s') (hq : Q .normal s') : CW P n (.region id l.toArray false) s Q := by
  intro M0 β w a hI hn
  refine wp_region_lit (hr.wp hI _ fun β' w' a' h1 h2 => ?_)
  have hle : s.nx ≤ s'.nx := hr.nx
  exact ⟨s', β', hq, h1, Nat.le_trans hn hle, h2.less fun r hr => Nat.lt_of_lt_of_le hr hn⟩
end
end Go.Abs
