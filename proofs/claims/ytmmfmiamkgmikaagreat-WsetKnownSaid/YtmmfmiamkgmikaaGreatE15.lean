/- Running code over abstract data, part 15: calls in regions that draw their order. -/
import Derived.Test.YtmmfmiamkgmikaaGreatE14
set_option linter.unusedVariables false
set_option linter.unusedSimpArgs false
namespace Go.Abs

/-- An operation's contract, where all names below nb are in use. -/
def CoreD (P : Program) (o : Oper) (s : AS) (foot : List Nat) (e : Eff) (nb : Nat) : Prop :=
  ∀ s2 : AS, (∀ x ∈ o.op.operands, evx s2 x = evx s x) → (∀ r ∈ foot, s2.obj r = s.obj r) → (∀ t, o.dst = some t → t < s2.N) →
    ∀ (M0 A : Nat → Prop) (β : Nat → Option Nat) (w : World) (a : Act), (∀ r ∈ e.news, ¬ A r) → (∀ r, r < nb → A r) → Inv M0 A β s2 w a →
      ∀ (K : Act → World → Prop) (Q : Exit → Act → World → Prop), (∀ a' w', Post M0 A β s2 w o.dst e a' w' → K a' w') → o.wp P a w K Q
section
variable {P : Program} {ops : Array Oper} {o : Oper} {s : AS} {T : ST} {nx lo : Nat}
/-- **A call that touches no object that was there**, as an operation's contract. -/
theorem core_callR (hS : SR T nx s) (hsat : Sat s) {cx : Operand} {xs : Array Operand} {ats : Array TypeId} {f : FuncId} (hf : HasFn P f) {caps ds : List D} {F : Sem} (hF : FnOk P f F) {rt : Rt} {m : Nat}
    (ho : o.op = .call { callee := .value cx, args := xs, argTypes := ats }) (hc : evx s cx = some (.clo f caps)) (hx : evs s xs.toList = some ds) (hr : F (ds ++ caps) T nx = some rt) (hlo : nx ≤ rt.lo) (hm : rt.nx = nx + m) :
    CoreD P o s (upto 0 nx) ⟨rt.d, (upto nx m).map fun r => (r, (xobj rt.T r).map objOf), upto nx m⟩ nx := by
  intro s2 h1 h2 hdst M0 A β w a hA hAll hI K Q hK
  have hnx := hS.nxt
  obtain ⟨M1, β1, w1, a1, hI1⟩ := hsat
  rw [hnx] at hI1
  have hmem : ∀ x ∈ xs.toList, x ∈ o.op.operands := fun x hx => by simp [ho, Op.operands, Call.operands]; exact .inr (by simpa using hx)
  have hc2 : evx s2 cx = some (.clo f caps) := (h1 cx (by simp [ho, Op.operands, Call.operands])).trans hc
  have hx2 : evs s2 xs.toList = some ds := (evs_agree fun x hx => h1 x (hmem x hx)).trans hx
  obtain ⟨vals, hrun, hvs, hrep⟩ := call_vals hI hf ho hc2 hx2
  -- the arguments' names
  have hrefs : ∀ (i : Nat) (d : D), (ds ++ caps)[i]? = some d → Refs (· < nx) d := by
    obtain ⟨v1, _, hv1, hr1⟩ := call_vals hI1 hf ho hc hx
    intro i d hd
    have hi : i < v1.size := by rw [hv1]; exact (List.getElem?_eq_some_iff.1 hd).1
    exact (hr1 i d v1[i] hd (by simp [hi])).2
  have hlt : ∀ r ob, s.obj r = some ob → r < nx := fun r ob hr => hI1.names r ob hr
  have hag : ∀ r, r < nx → s2.obj r = s.obj r := fun r hr => h2 r (mem_upto.2 ⟨by omega, by omega⟩)
  let M0' : Nat → Prop := fun b => M0 b ∨ ∃ r ob, s2.obj r = some ob ∧ nx ≤ r ∧ β r = some b
  have hMut : Mut M0' β s.obj = Mut M0 β s2.obj := by
    funext b
    apply propext
    constructor
    · rintro ((hb | ⟨r, ob, g1, g2, g3⟩) | ⟨r, ob, g1, g2⟩)
      · exact .inl hb
      · exact .inr ⟨r, ob, g1, g3⟩
      · exact .inr ⟨r, ob, (hag r (hlt r ob g1)).trans g1, g2⟩
    · rintro (hb | ⟨r, ob, g1, g2⟩)
      · exact .inl (.inl hb)
      · rcases Nat.lt_or_ge r nx with hr | hr
        · exact .inr ⟨r, ob, (hag r hr).symm.trans g1, g2⟩
        · exact .inl (.inr ⟨r, ob, g1, hr, g2⟩)
  have up : ∀ {r ob}, s.obj r = some ob → s2.obj r = some ob := fun {r ob} g => (hag r (hlt r ob g)).trans g
  have hIv : IvS M0' (· < nx) β s.obj w := by
    refine ⟨fun r ob hr => ?_, fun r r' o1 o2 b g1 g2 => hI.inj r r' o1 o2 b (up g1) (up g2), fun r ob b g1 g2 => ?_, fun b hb => ?_, hlt, fun r ob row d g1 g2 g3 => hI1.orefs r ob row d g1 g2 g3⟩
    · rw [hMut]; exact hI.objs r ob (up hr)
    · rintro (hb | ⟨r', ob', q1, q2, q3⟩)
      · exact hI.own r ob b (up g1) g2 hb
      · have := hI.inj r r' ob ob' b (up g1) q1 g2 q3
        have := hlt r ob g1
        omega
    · rcases hb with hb | ⟨r, ob, g1, _, g2⟩
      · exact hI.out b hb
      · exact (hI.toIvS.block g1 g2).1
  have hcall := hF (ds ++ caps) T nx rt hr s hS M0' β w vals hIv hvs fun i d y hd hy => by
    rw [hMut]
    exact ⟨(hrep i d y hd hy).1, hrefs i d hd⟩
  unfold Oper.wp
  rw [hrun, Oper.upon_enter]
  refine hcall.mono ?_
  rintro e w' ⟨y, s', β', rfl, gS, gI, gr, gf, gle, gF, glo, gtch⟩
  refine hK _ _ ?_
  rw [hm] at gS gI gf
  have hkeepOld : ∀ q, q < nx → s'.obj q = s.obj q := fun q hq => gtch q (by omega)
  have hβ : ∀ r, r < nx → β' r = β r := gF.names
  let β'' : Nat → Option Nat := fun r => if nx ≤ r ∧ r < nx + m then β' r else β r
  have hβ'' : ∀ r, r < nx + m → β'' r = β' r := by
    intro r hr
    simp only [β'']
    by_cases h : nx ≤ r
    · rw [if_pos ⟨h, hr⟩]
    · rw [if_neg (fun hh => h hh.1)]; exact (hβ r (by omega)).symm
  have hnew : ∀ r, nx ≤ r → r < nx + m → ¬ A r := fun r q1 q2 => hA r (mem_upto.2 ⟨q1, q2⟩)
  let sets : List (Nat × Option Obj) := (upto nx m).map fun r => (r, (xobj rt.T r).map objOf)
  have hfind : ∀ r, find r sets = if nx ≤ r ∧ r < nx + m then some (s'.obj r) else none := by
    intro r
    have hx : (xobj rt.T r).map objOf = s'.obj r := OR_eq (gS.obj r)
    have gen : ∀ l : List Nat, find r (l.map fun r => (r, (xobj rt.T r).map objOf)) = if r ∈ l then some ((xobj rt.T r).map objOf) else none := by
      intro l
      induction l with
      | nil => simp [find]
      | cons q l ih =>
        simp only [List.map_cons, find_cons, ih, List.mem_cons]
        by_cases hq : q = r
        · subst hq; simp
        · simp [hq, Ne.symm hq]
    rw [show sets = (upto nx m).map fun r => (r, (xobj rt.T r).map objOf) from rfl, gen, hx]
    by_cases h : nx ≤ r ∧ r < nx + m
    · rw [if_pos (mem_upto.2 h), if_pos h]
    · rw [if_neg (fun hh => h (mem_upto.1 hh)), if_neg h]
  let ob'' : Nat → Option Obj := fun r => (find r (sets ++ s2.st)).join
  have hob : ∀ r, ob'' r = if nx ≤ r ∧ r < nx + m then s'.obj r else s2.obj r := by
    intro r
    simp only [ob'', find_append, hfind]
    by_cases h : nx ≤ r ∧ r < nx + m
    · simp [h]
    · simp [h]
  have hobL : ∀ r, r < nx + m → ob'' r = s'.obj r := by
    intro r hr
    rw [hob]
    by_cases h : nx ≤ r
    · rw [if_pos ⟨h, hr⟩]
    · rw [if_neg (fun hh => h hh.1), hag r (by omega), hkeepOld r (by omega)]
  have hobH : ∀ r ob, nx + m ≤ r → ob'' r = some ob → s2.obj r = some ob ∧ β'' r = β r := by
    intro r ob hr h
    rw [hob, if_neg (by omega)] at h
    exact ⟨h, by simp only [β'']; rw [if_neg (by omega)]⟩
  have hMut' : Mut M0 β'' ob'' = Mut M0' β' s'.obj := by
    funext b
    apply propext
    constructor
    · rintro (hb | ⟨r, ob, g1, g2⟩)
      · exact .inl (.inl hb)
      · rcases Nat.lt_or_ge r (nx + m) with hr | hr
        · exact .inr ⟨r, ob, (hobL r hr).symm.trans g1, (hβ'' r hr).symm.trans g2⟩
        · obtain ⟨q1, q2⟩ := hobH r ob hr g1
          exact .inl (.inr ⟨r, ob, q1, by omega, q2.symm.trans g2⟩)
    · rintro ((hb | ⟨r, ob, g1, g2, g3⟩) | ⟨r, ob, g1, g2⟩)
      · exact .inl hb
      · have hAr := hI.names r ob g1
        have hr : nx + m ≤ r := by
          rcases Nat.lt_or_ge r (nx + m) with hlt' | hge
          · exact absurd hAr (hnew r g2 hlt')
          · exact hge
        refine .inr ⟨r, ob, ?_, ?_⟩
        · rw [hob, if_neg (by omega)]; exact g1
        · simp only [β'']; rw [if_neg (by omega)]; exact g3
      · have hr := gI.names r ob g1
        exact .inr ⟨r, ob, (hobL r hr).trans g1, (hβ'' r hr).trans g2⟩
  have hownS : ∀ b, Own β s.obj b → Own β s2.obj b := fun b ⟨r, ob, g1, g2⟩ => ⟨r, ob, up g1, g2⟩
  have hkeep : KeepB A (Own β s2.obj) (Own β'' ob'') β β'' w w' := by
    refine ⟨⟨gF.size, fun b hb hn => gF.heap b hb fun h => hn (hownS b h), fun b hb hn hn' => ?_⟩, fun r hr => ?_, gF.sizes⟩
    · obtain ⟨r, ob, g1, g2⟩ := hn'
      rcases Nat.lt_or_ge r (nx + m) with hr | hr
      · refine gF.may b hb (fun h => hn (hownS b h)) ⟨r, ob, (hobL r hr).symm.trans g1, (hβ'' r hr).symm.trans g2⟩
      · obtain ⟨q1, q2⟩ := hobH r ob hr g1
        exact hn ⟨r, ob, q1, q2.symm.trans g2⟩
    · simp only [β'']
      rw [if_neg fun h => hnew r h.1 h.2 hr]
  -- from the callee's view
  have hconv : KeepB (· < nx + m) (Mut M0' β' s'.obj) (Mut M0 β'' ob'') β' β'' w' w' :=
    ⟨⟨Nat.le_refl _, fun _ _ _ => rfl, fun b _ h => by rw [hMut']; exact h⟩, hβ'', fun b cs e h => ⟨cs, h, rfl⟩⟩
  have hS' : IvS M0 (fun r => A r ∨ r ∈ upto nx m) β'' ob'' w' := by
    refine ⟨fun r ob hr => ?_, fun r r' o1 o2 b g1 g2 g3 g4 => ?_, fun r ob b g1 g2 => ?_, fun b hb => Nat.lt_of_lt_of_le (hI.out b hb) gF.size, fun r ob g1 => ?_, fun r ob row d g1 g2 g3 => ?_⟩
    · rcases Nat.lt_or_ge r (nx + m) with hl | hl
      · have hr' := (hobL r hl).symm.trans hr
        obtain ⟨q1, q2⟩ := gI.objs r ob hr'
        refine ⟨q1, ?_⟩
        rcases q2 with ⟨q2, q3⟩ | ⟨b', cs', val', q3, q4, q5, q6, q7⟩
        · exact .inl ⟨q2, (hβ'' r hl).trans q3⟩
        · exact .inr ⟨b', cs', val', (hβ'' r hl).trans q3, q4, q5, q6, fun i row j d p1 p2 => (q7 i row j d p1 p2).keep hconv (gI.orefs r ob row d hr' (List.mem_of_getElem? p1) (List.mem_of_getElem? p2))⟩
      · obtain ⟨hr', hb⟩ := hobH r ob hl hr
        obtain ⟨q1, q2⟩ := hI.objs r ob hr'
        refine ⟨q1, ?_⟩
        rcases q2 with ⟨q2, q3⟩ | ⟨b', cs', val', q3, q4, q5, q6, q7⟩
        · exact .inl ⟨q2, hb.trans q3⟩
        · have hbl := (Array.getElem?_eq_some_iff.1 q4).1
          have hno : ¬ Own β s.obj b' := by
            rintro ⟨r2, ob2, p1, p2⟩
            have e1 := hI.inj r r2 ob ob2 b' hr' (up p1) q3 p2
            have e2 := hlt r2 ob2 p1
            omega
          exact .inr ⟨b', cs', val', hb.trans q3, (gF.heap b' hbl hno).trans q4, q5, q6, fun i row j d p1 p2 => (q7 i row j d p1 p2).keep hkeep.up (hI.orefs r ob row d hr' (List.mem_of_getElem? p1) (List.mem_of_getElem? p2))⟩
    · rcases Nat.lt_or_ge r (nx + m) with hl | hl <;> rcases Nat.lt_or_ge r' (nx + m) with hl' | hl'
      · exact gI.inj r r' o1 o2 b ((hobL r hl).symm.trans g1) ((hobL r' hl').symm.trans g2) ((hβ'' r hl).symm.trans g3) ((hβ'' r' hl').symm.trans g4)
      · obtain ⟨p1, p2⟩ := hobH r' o2 hl' g2
        exact absurd (.inr ⟨r', o2, p1, by omega, p2.symm.trans g4⟩) (gI.own r o1 b ((hobL r hl).symm.trans g1) ((hβ'' r hl).symm.trans g3))
      · obtain ⟨p1, p2⟩ := hobH r o1 hl g1
        exact absurd (.inr ⟨r, o1, p1, by omega, p2.symm.trans g3⟩) (gI.own r' o2 b ((hobL r' hl').symm.trans g2) ((hβ'' r' hl').symm.trans g4))
      · obtain ⟨p1, p2⟩ := hobH r o1 hl g1
        obtain ⟨p3, p4⟩ := hobH r' o2 hl' g2
        exact hI.inj r r' o1 o2 b p1 p3 (p2.symm.trans g3) (p4.symm.trans g4)
    · rcases Nat.lt_or_ge r (nx + m) with hl | hl
      · exact fun hb => gI.own r ob b ((hobL r hl).symm.trans g1) ((hβ'' r hl).symm.trans g2) (.inl hb)
      · obtain ⟨p1, p2⟩ := hobH r ob hl g1
        exact hI.own r ob b p1 (p2.symm.trans g2)
    · rcases Nat.lt_or_ge r (nx + m) with hl | hl
      · rcases Nat.lt_or_ge r nx with hl2 | hl2
        · have := (hobL r hl).symm.trans g1
          rw [hkeepOld r hl2] at this
          exact .inl (hI.names r ob (up this))
        · exact .inr (mem_upto.2 ⟨hl2, hl⟩)
      · exact .inl (hI.names r ob (hobH r ob hl g1).1)
    · rcases Nat.lt_or_ge r (nx + m) with hl | hl
      · have hg1 := (hobL r hl).symm.trans g1
        rcases Nat.lt_or_ge r nx with hl2 | hl2
        · rw [hkeepOld r hl2] at hg1
          exact (hI.orefs r ob row d (up hg1) g2 g3).mono fun _ h => .inl h
        · have hreg := gI.orefs r ob row d hg1 g2 g3
          exact hreg.mono fun q hq => (Nat.lt_or_ge q nx).elim (fun h => .inl (hAll q h)) fun h => .inr (mem_upto.2 ⟨h, hq⟩)
      · exact (hI.orefs r ob row d (hobH r ob hl g1).1 g2 g3).mono fun _ h => .inl h
  have hfin := hI.step (A' := fun r => A r ∨ r ∈ upto nx m) (ob' := ob'') (dst := o.dst) (st := sets ++ s2.st) (nx := bump s2.nx (upto nx m)) (fun r hr => Or.inl hr) hS' hkeep hdst (gr.keep hconv gf) (gf.mono fun q hq => (Nat.lt_or_ge q nx).elim (fun h => .inl (hAll q h)) fun h => .inr (mem_upto.2 ⟨h, hq⟩)) (fun r => rfl)
  exact ⟨β'', hfin, ⟨hkeep, gF.os, gF.tape, gF.output⟩⟩


theorem CoreD.of {foot : List Nat} {e : Eff} (h : Core P o s foot e) : CoreD P o s foot e 0 := fun s2 h1 h2 h3 M0 A β w a h4 _ hI K Q hK => h s2 h1 h2 h3 M0 A β w a h4 hI K Q hK
theorem LocD.plain {foot : List Nat} {e : Eff} {nb : Nat} (hg : o.guard = none) (h : CoreD P o s foot e nb) : LocD P ops o s foot e nb := by
  intro s2 h1 _ h2 hN M0 A β w a hA hB hI K Q hK
  rw [if_pos (by simp [Region.wanted, hg])]
  exact h s2 h1 h2 hN M0 A β w a hA hB hI K Q hK
theorem LocD.on {foot : List Nat} {e : Eff} {nb : Nat} {j : Nat} {want : Bool} {t : Nat} {dg : D} (hg : o.guard = some (j, want)) (hj : (ops[j]?).bind (·.dst) = some t) (hd : s.slot t = some dg) (he : Exact dg) (hb : gB dg want = true)
    (h : CoreD P o s foot e nb) : LocD P ops o s foot e nb := by
  intro s2 h1 h3 h2 hN M0 A β w a hA hB hI K Q hK
  have hd2 : s2.slot t = some dg := (h3 j want t hg hj).trans hd
  have h4 := hI.slots t dg hd2
  by_cases htN : t < s2.N
  · rw [guard_spec hI hg hj hd2 he htN, hb, if_pos rfl]
    exact h s2 h1 h2 hN M0 A β w a hA hB hI K Q hK
  · have hsz : a.tmps.getD t undef = undef := by
      have : ¬ t < a.tmps.size := by rw [hI.size]; exact htN
      simp [this]
    rw [← gB_spec h4 he want, hsz] at hb
    cases hb

/-- What holds whatever an operation does holds. -/
theorem wp_const {p : Prop} {a : Act} {w : World} (h : o.wp P a w (fun _ _ => p) (fun _ _ _ => p)) : p := by
  unfold Oper.wp at h
  generalize (execOp a.eval o).run P w = r at h
  cases r with
  | halt x w' =>
    cases x <;> first | exact h | exact h.elim
  | ok n w' =>
    cases n <;> try (first | exact h | exact h.elim)
    case enter f args =>
      rw [Oper.upon_enter] at h
      obtain ⟨e, w'', fr, hR, _⟩ := h []
      cases e with
      | returned v => exact hR
      | panicked c => exact hR
      | outgrown => obtain ⟨_, _, h⟩ := hR; exact h
    case row row args =>
      rw [Oper.upon_row] at h
      obtain ⟨v, w'', hR, _⟩ := h default []
      exact hR
theorem Sat.next {f : List Nat} {e : Eff} {nb : Nat} (h : Sat s) (hd : ∀ t, o.dst = some t → t < s.N) (hn : ∀ r ∈ e.news, s.nx ≤ r) (hb : nb ≤ s.nx) (hl : LocD P ops o s f e nb) : Sat (e.app o.dst s) := by
  obtain ⟨M0, β, w, a, hI⟩ := h
  have := hl s (fun _ _ => rfl) (fun _ _ _ _ _ => rfl) (fun _ _ => rfl) hd M0 (· < s.nx) β w a (fun r hr => by have := hn r hr; omega) (fun r hr => by show r < s.nx; omega) hI (fun _ _ => Sat (e.app o.dst s)) (fun _ _ _ => Sat (e.app o.dst s)) fun a' w' hp => by
    obtain ⟨β', h1, h2⟩ := hp.names
    exact ⟨M0, β', w', a', h1⟩
  split at this
  · exact wp_const this
  · exact this
end
end Go.Abs
