/- The abstract logic, part 9: regions that draw their order. -/
import Derived.Test.YtmmfmiamkgmikaaGreatA8
set_option linter.unusedVariables false
set_option linter.unusedSimpArgs false
namespace Go.Abs

/-- The effects of those operations whose flag stands, in the text's order. -/
def foldS (fl : Nat → Bool) : Nat → List (Option Tmp × Eff) → AS → AS
  | _, [], s => s
  | k, (d, e) :: l, s => foldS fl (k + 1) l (bif fl k then e.app d s else s)

theorem slot_app (e : Eff) (d : Option Tmp) (s : AS) (t : Nat) : (e.app d s).slot t = if d = some t then some e.val else s.slot t := by
  cases d with
  | none => simp [Eff.app, putS, AS.slot]
  | some t' => simp only [Eff.app, putS, AS.slot, find_cons, Option.some.injEq]
theorem obj_app (e : Eff) (d : Option Tmp) (s : AS) (r : Nat) : (e.app d s).obj r = match find r e.sets with | some x => x | none => s.obj r := by
  simp only [Eff.app, AS.obj, find_append]
  cases find r e.sets <;> simp
theorem N_app (e : Eff) (d : Option Tmp) (s : AS) : (e.app d s).N = s.N := rfl

theorem foldS_slot {fl fl' : Nat → Bool} {t : Nat} : ∀ (l : List (Option Tmp × Eff)) (k : Nat) (s s' : AS), (∀ j d e, l[j]? = some (d, e) → d = some t → fl (k + j) = fl' (k + j)) → s.slot t = s'.slot t → (foldS fl k l s).slot t = (foldS fl' k l s').slot t
  | [], _, _, _, _, h => h
  | (d, e) :: l, k, s, s', h, hs => by
    simp only [foldS]
    refine foldS_slot l (k + 1) _ _ (fun j d' e' hj hd => ?_) ?_
    · have := h (j + 1) d' e' (by simpa using hj) hd
      rwa [show k + (j + 1) = k + 1 + j by omega] at this
    · by_cases hd : d = some t
      · have := h 0 d e (by simp) hd
        simp only [Nat.add_zero] at this
        rw [this]
        cases fl' k
        · exact hs
        · simp [slot_app, hd]
      · cases fl k <;> cases fl' k <;> simp [slot_app, hd, hs]
theorem foldS_obj {fl fl' : Nat → Bool} {r : Nat} : ∀ (l : List (Option Tmp × Eff)) (k : Nat) (s s' : AS), (∀ j d e, l[j]? = some (d, e) → (find r e.sets).isSome = true → fl (k + j) = fl' (k + j)) → s.obj r = s'.obj r → (foldS fl k l s).obj r = (foldS fl' k l s').obj r
  | [], _, _, _, _, h => h
  | (d, e) :: l, k, s, s', h, hs => by
    simp only [foldS]
    refine foldS_obj l (k + 1) _ _ (fun j d' e' hj hd => ?_) ?_
    · have := h (j + 1) d' e' (by simpa using hj) hd
      rwa [show k + (j + 1) = k + 1 + j by omega] at this
    · by_cases hd : (find r e.sets).isSome = true
      · have := h 0 d e (by simp) hd
        simp only [Nat.add_zero] at this
        rw [this]
        cases fl' k
        · exact hs
        · obtain ⟨x, hx⟩ := Option.isSome_iff_exists.1 hd
          simp only [cond_true, obj_app, hx]
      · have hn : find r e.sets = none := by simpa using hd
        cases fl k <;> cases fl' k <;> simp only [cond_true, cond_false, obj_app, hn] <;> exact hs

/-- The last that wrote a slot. -/
theorem foldS_slot_last {fl : Nat → Bool} {t : Nat} : ∀ (l : List (Option Tmp × Eff)) (k i : Nat) (s : AS) (e : Eff), l[i]? = some (some t, e) → fl (k + i) = true →
    (∀ j d e, i < j → l[j]? = some (d, e) → d = some t → fl (k + j) = false) → (foldS fl k l s).slot t = some e.val
  | [], _, _, _, _, h, _, _ => by simp at h
  | (d, e0) :: l, k, 0, s, e, h, hf, hl => by
    simp at h
    obtain ⟨rfl, rfl⟩ := h
    simp only [Nat.add_zero] at hf
    simp only [foldS, hf, cond_true]
    have := foldS_slot (fl := fl) (fl' := fun _ => false) (t := t) l (k + 1) (e0.app (some t) s) (e0.app (some t) s) (fun j d' e' hj hd => by
      have := hl (j + 1) d' e' (by omega) (by simpa using hj) hd
      rwa [show k + (j + 1) = k + 1 + j by omega] at this) rfl
    rw [this]
    have h2 : ∀ (l : List (Option Tmp × Eff)) (k : Nat) (s : AS), foldS (fun _ => false) k l s = s := by
      intro l
      induction l with
      | nil => intro k s; rfl
      | cons p l ih => intro k s; obtain ⟨d, e⟩ := p; simp only [foldS, cond_false, ih]
    rw [h2]
    simp [slot_app]
  | (d, e0) :: l, k, i + 1, s, e, h, hf, hl => by
    simp only [foldS]
    refine foldS_slot_last l (k + 1) i _ e (by simpa using h) (by rwa [show k + 1 + i = k + (i + 1) by omega]) fun j d' e' hij hj hd => ?_
    have := hl (j + 1) d' e' (by omega) (by simpa using hj) hd
    rwa [show k + (j + 1) = k + 1 + j by omega] at this
theorem foldS_obj_last {fl : Nat → Bool} {r : Nat} : ∀ (l : List (Option Tmp × Eff)) (k i : Nat) (s : AS) (d : Option Tmp) (e : Eff) (x : Option Obj), l[i]? = some (d, e) → find r e.sets = some x → fl (k + i) = true →
    (∀ j d e, i < j → l[j]? = some (d, e) → (find r e.sets).isSome = true → fl (k + j) = false) → (foldS fl k l s).obj r = x
  | [], _, _, _, _, _, _, h, _, _, _ => by simp at h
  | (d0, e0) :: l, k, 0, s, d, e, x, h, hx, hf, hl => by
    simp at h
    obtain ⟨rfl, rfl⟩ := h
    simp only [Nat.add_zero] at hf
    simp only [foldS, hf, cond_true]
    have := foldS_obj (fl := fl) (fl' := fun _ => false) (r := r) l (k + 1) (e0.app d0 s) (e0.app d0 s) (fun j d' e' hj hd => by
      have := hl (j + 1) d' e' (by omega) (by simpa using hj) hd
      rwa [show k + (j + 1) = k + 1 + j by omega] at this) rfl
    rw [this]
    have h2 : ∀ (l : List (Option Tmp × Eff)) (k : Nat) (s : AS), foldS (fun _ => false) k l s = s := by
      intro l
      induction l with
      | nil => intro k s; rfl
      | cons p l ih => intro k s; obtain ⟨d, e⟩ := p; simp only [foldS, cond_false, ih]
    rw [h2]
    simp only [obj_app, hx]
  | (d0, e0) :: l, k, i + 1, s, d, e, x, h, hx, hf, hl => by
    simp only [foldS]
    refine foldS_obj_last l (k + 1) i _ d e x (by simpa using h) hx (by rwa [show k + 1 + i = k + (i + 1) by omega]) fun j d' e' hij hj hd => ?_
    have := hl (j + 1) d' e' (by omega) (by simpa using hj) hd
    rwa [show k + (j + 1) = k + 1 + j by omega] at this
theorem foldS_N (fl : Nat → Bool) : ∀ (l : List (Option Tmp × Eff)) (k : Nat) (s : AS), (foldS fl k l s).N = s.N
  | [], _, _ => rfl
  | (d, e) :: l, k, s => by
    simp only [foldS, foldS_N fl l]
    cases fl k <;> rfl

/-- Two states of which the same is known. -/
theorem Inv.same {M0 A : Nat → Prop} {β : Nat → Option Nat} {s s' : AS} {w : World} {a : Act} (h : Inv M0 A β s w a) (hs : ∀ t, s'.slot t = s.slot t) (ho : ∀ r, s'.obj r = s.obj r) (hN : s'.N = s.N) : Inv M0 A β s' w a := by
  have he : s'.obj = s.obj := funext ho
  refine ⟨?_, by rw [h.size, hN], h.defers, fun t d ht => ?_, fun t d ht => h.refs t d ((hs t).symm.trans ht)⟩
  · rw [he]; exact h.toIvS
  · rw [he]; exact h.slots t d ((hs t).symm.trans ht)

/-- The slots that an operation looks at. -/
def looks (ops : Array Oper) (o : Oper) : List Nat :=
  (o.op.operands.toList.filterMap fun | .tmp t => some t | _ => none) ++
  (match o.guard with
   | some (g, _) => ((ops[g]?).bind (·.dst)).toList
   | none => [])

/-- Which operations does one wait for, be it through others? (a mask of bits) -/
def mask (ms : List Nat) (o : Oper) : Nat := o.after.toList.foldl (fun s e => bif Region.binds .any e then s ||| (2 ^ e.on ||| ms.getD e.on 0) else s) 0
def masks : List Oper → List Nat → List Nat
  | [], ms => ms
  | o :: l, ms => masks l (ms ++ [mask ms o])

theorem mask_fold (ms : List Nat) : ∀ (l : List Edge) (s j : Nat), (l.foldl (fun s e => bif Region.binds .any e then s ||| (2 ^ e.on ||| ms.getD e.on 0) else s) s).testBit j = true →
    s.testBit j = true ∨ ∃ e ∈ l, Region.binds .any e = true ∧ (e.on = j ∨ (ms.getD e.on 0).testBit j = true)
  | [], s, j, h => .inl h
  | e :: l, s, j, h => by
    rcases mask_fold ms l _ j h with h1 | ⟨e', h1, h2⟩
    · simp only at h1
      cases hb : Region.binds .any e with
      | false => rw [hb] at h1; exact .inl h1
      | true =>
        rw [hb] at h1
        simp only [cond_true, Nat.testBit_or, Bool.or_eq_true, Nat.testBit_two_pow, decide_eq_true_eq] at h1
        rcases h1 with h1 | h1 | h1
        · exact .inl h1
        · exact .inr ⟨e, by simp, hb, .inl h1⟩
        · exact .inr ⟨e, by simp, hb, .inr h1⟩
    · exact .inr ⟨e', List.mem_cons_of_mem _ h1, h2⟩
/-- What a list of masks tells. -/
def MasksOk (l : List Oper) (ms : List Nat) : Prop := ∀ (k m j : Nat), ms[k]? = some m → m.testBit j = true → ∃ o e, l[k]? = some o ∧ e ∈ o.after ∧ Region.binds .any e = true ∧ (e.on = j ∨ (ms.getD e.on 0).testBit j = true)
theorem masks_ok (l : List Oper) : ∀ (l2 l1 : List Oper) (ms : List Nat), l = l1 ++ l2 → ms.length = l1.length → MasksOk l ms → MasksOk l (masks l2 ms)
  | [], _, _, _, _, h => h
  | o :: l2, l1, ms, hl, hlen, h => by
    refine masks_ok l l2 (l1 ++ [o]) _ (by simp [hl]) (by simp [hlen]) ?_
    intro k m j hk hj
    have up : ∀ n j, (ms.getD n 0).testBit j = true → ((ms ++ [mask ms o]).getD n 0).testBit j = true := by
      intro n j hn
      by_cases hlt : n < ms.length
      · have : (ms ++ [mask ms o]).getD n 0 = ms.getD n 0 := by simp [List.getD_eq_getElem?_getD, List.getElem?_append_left hlt]
        rw [this]; exact hn
      · have : ms.getD n 0 = 0 := by simp [List.getD_eq_getElem?_getD, List.getElem?_eq_none (by omega : ms.length ≤ n)]
        rw [this] at hn
        simp at hn
    by_cases hk' : k < ms.length
    · rw [List.getElem?_append_left hk'] at hk
      obtain ⟨o', e, h1, h2, h3, h4⟩ := h k m j hk hj
      exact ⟨o', e, h1, h2, h3, h4.imp_right (up _ _)⟩
    · rw [List.getElem?_append_right (by omega)] at hk
      have hk0 : k - ms.length = 0 := by
        have := (List.getElem?_eq_some_iff.1 hk).1
        simp at this
        omega
      rw [hk0] at hk
      simp at hk
      subst hk
      rcases mask_fold ms o.after.toList 0 j hj with h1 | ⟨e, h1, h2, h3⟩
      · simp at h1
      · refine ⟨o, e, ?_, by simpa using h1, h2, h3.imp_right (up _ _)⟩
        have : k = l1.length := by omega
        subst this
        simp [hl]
def hits (a b : List Nat) : Bool := a.any fun x => b.contains x
/-- Two operations that do not wait for each other do not meet. -/
def apart1 (ops : Array Oper) (o : Oper) (fo : List Nat × List Nat) (p : Oper) (fp : List Nat × List Nat) : Bool :=
  (match o.dst with | some t => !(looks ops p).contains t && p.dst != some t | none => true) &&
  (match p.dst with | some t => !(looks ops o).contains t | none => true) &&
  !hits fo.2 (fp.1 ++ fp.2) && !hits fo.1 fp.2
def chkRow (ops : Array Oper) (ms : List Nat) (o : Oper) (fo : List Nat × List Nat) (i : Nat) : Nat → List (Oper × List Nat × List Nat) → Bool
  | _, [] => true
  | k, (p, fp) :: l => ((ms.getD k 0).testBit i || apart1 ops o fo p fp) && chkRow ops ms o fo i (k + 1) l
def chkAll (ops : Array Oper) (ms : List Nat) : Nat → List (Oper × List Nat × List Nat) → Bool
  | _, [] => true
  | i, (o, fo) :: l => chkRow ops ms o fo i (i + 1) l && (o.after.all fun e => !Region.binds .any e || decide (e.on < i)) && chkAll ops ms (i + 1) l
def feet : List Oper → List (List Nat × Eff) → List (Oper × List Nat × List Nat)
  | o :: os, (f, e) :: es => (o, f, e.sets.map (·.1)) :: feet os es
  | _, _ => []

theorem feet_get : ∀ {l : List Oper} {es : List (List Nat × Eff)} {i : Nat} {o : Oper} {f : List Nat} {e : Eff}, l[i]? = some o → es[i]? = some (f, e) → (feet l es)[i]? = some (o, f, e.sets.map (·.1))
  | [], _, _, _, _, _, h, _ => by simp at h
  | _ :: _, [], _, _, _, _, _, h => by simp at h
  | o' :: l, (f', e') :: es, 0, o, f, e, h1, h2 => by
    simp at h1 h2
    obtain ⟨rfl, rfl⟩ := h2
    subst h1
    rfl
  | o' :: l, (f', e') :: es, i + 1, o, f, e, h1, h2 => by
    simp only [feet, List.getElem?_cons_succ]
    exact feet_get (by simpa using h1) (by simpa using h2)

theorem chkRow_get {ops : Array Oper} {ms : List Nat} {o : Oper} {fo : List Nat × List Nat} {i : Nat} : ∀ {l : List (Oper × List Nat × List Nat)} {k j : Nat} {p : Oper} {fp : List Nat × List Nat}, chkRow ops ms o fo i k l = true → l[j]? = some (p, fp) →
    (ms.getD (k + j) 0).testBit i = true ∨ apart1 ops o fo p fp = true
  | [], _, _, _, _, _, h => by simp at h
  | (p', fp') :: l, k, 0, p, fp, h, hp => by
    simp at hp
    obtain ⟨rfl, rfl⟩ := hp
    simp only [chkRow, Bool.and_eq_true, Bool.or_eq_true] at h
    exact h.1
  | (p', fp') :: l, k, j + 1, p, fp, h, hp => by
    simp only [chkRow, Bool.and_eq_true] at h
    have := chkRow_get (j := j) h.2 (by simpa using hp)
    rwa [show k + 1 + j = k + (j + 1) by omega] at this
theorem chkAll_get {ops : Array Oper} {ms : List Nat} : ∀ {l : List (Oper × List Nat × List Nat)} {k i j : Nat} {o p : Oper} {fo fp : List Nat × List Nat}, chkAll ops ms k l = true → i < j → l[i]? = some (o, fo) → l[j]? = some (p, fp) →
    (ms.getD (k + j) 0).testBit (k + i) = true ∨ apart1 ops o fo p fp = true
  | [], _, _, _, _, _, _, _, _, _, h, _ => by simp at h
  | (o', fo') :: l, k, 0, 0, o, p, fo, fp, h, hij, _, _ => absurd hij (by omega)
  | (o', fo') :: l, k, 0, j + 1, o, p, fo, fp, h, hij, ho, hp => by
    simp at ho
    obtain ⟨rfl, rfl⟩ := ho
    simp only [chkAll, Bool.and_eq_true] at h
    have := chkRow_get (j := j) h.1.1 (by simpa using hp)
    rwa [show k + 1 + j = k + (j + 1) by omega] at this
  | (o', fo') :: l, k, i + 1, 0, o, p, fo, fp, h, hij, _, _ => absurd hij (by omega)
  | (o', fo') :: l, k, i + 1, j + 1, o, p, fo, fp, h, hij, ho, hp => by
    simp only [chkAll, Bool.and_eq_true] at h
    have := chkAll_get (k := k + 1) h.2 (show i < j by omega) (by simpa using ho) (by simpa using hp)
    rwa [show k + 1 + i = k + (i + 1) by omega, show k + 1 + j = k + (j + 1) by omega] at this
theorem chkAll_on {ops : Array Oper} {ms : List Nat} : ∀ {l : List (Oper × List Nat × List Nat)} {k i : Nat} {o : Oper} {fo : List Nat × List Nat}, chkAll ops ms k l = true → l[i]? = some (o, fo) → ∀ e ∈ o.after, Region.binds .any e = true → e.on < k + i
  | [], _, _, _, _, _, h => by simp at h
  | (o', fo') :: l, k, 0, o, fo, h, ho => by
    simp at ho
    obtain ⟨rfl, rfl⟩ := ho
    simp only [chkAll, Bool.and_eq_true] at h
    intro e he hb
    have := (Array.all_eq_true_iff_forall_mem.1 h.1.2) e he
    simpa [hb] using this
  | (o', fo') :: l, k, i + 1, o, fo, h, ho => by
    simp only [chkAll, Bool.and_eq_true] at h
    intro e he hb
    have := chkAll_on (k := k + 1) h.2 (by simpa using ho) e he hb
    omega

/-- What a run in the text's order tells of each operation. -/
theorem Run.get {P : Program} {ops : Array Oper} : ∀ {l : List Oper} {s s' : AS} {es : List (List Nat × Eff)}, Run P ops l s es s' →
    es.length = l.length ∧ s' = foldS (fun _ => true) 0 (List.zipWith (fun o fe => (o.dst, fe.2)) l es) s ∧
    ∀ (i : Nat) (o : Oper) (f : List Nat) (e : Eff), l[i]? = some o → es[i]? = some (f, e) →
      Loc P ops o (foldS (fun j => decide (j < i)) 0 (List.zipWith (fun o fe => (o.dst, fe.2)) l es) s) f e ∧ (∀ t, o.dst = some t → t < s.N) ∧ (∀ r ∈ e.news, s.nx ≤ r) ∧
        (∀ (j : Nat) (f' : List Nat) (e' : Eff), i ≠ j → es[j]? = some (f', e') → ∀ r ∈ e.news, r ∉ e'.news) := by
  intro l s s' es h
  have shiftTrue : ∀ (l : List (Option Tmp × Eff)) (k k' : Nat) (s : AS), foldS (fun _ => true) k l s = foldS (fun _ => true) k' l s := by
    intro l
    induction l with
    | nil => intros; rfl
    | cons p l ih => intro k k' s; obtain ⟨d, e⟩ := p; simp only [foldS]; exact ih _ _ _
  have shiftLt : ∀ (l : List (Option Tmp × Eff)) (k i : Nat) (s : AS), foldS (fun j => decide (j < i + 1)) (k + 1) l s = foldS (fun j => decide (j < i)) k l s := by
    intro l
    induction l with
    | nil => intros; rfl
    | cons p l ih => intro k i s; obtain ⟨d, e⟩ := p; simp only [foldS]; rw [ih]; congr 1; simp
  have none0 : ∀ (l : List (Option Tmp × Eff)) (k : Nat) (s : AS), foldS (fun j => decide (j < 0)) k l s = s := by
    intro l
    induction l with
    | nil => intros; rfl
    | cons p l ih => intro k s; obtain ⟨d, e⟩ := p; simp only [foldS]; rw [ih]; simp
  induction h with
  | nil s => exact ⟨rfl, rfl, fun i o f e h => by simp at h⟩
  | @cons o os s s' f e l hd hn hl ht ih =>
    obtain ⟨h1, h2, h3⟩ := ih
    have later : ∀ (j : Nat) (f' : List Nat) (e' : Eff), l[j]? = some (f', e') → ∀ r ∈ e'.news, (e.app o.dst s).nx ≤ r := by
      intro j f' e' hj r hr
      have hlt : j < os.length := by rw [← h1]; exact (List.getElem?_eq_some_iff.1 hj).1
      exact (h3 j os[j] f' e' (List.getElem?_eq_getElem hlt) hj).2.2.1 r hr
    refine ⟨by simp [h1], ?_, fun i o' f' e' ho' he' => ?_⟩
    · simp only [List.zipWith_cons_cons, foldS, cond_true]
      rw [shiftTrue _ _ 0]
      exact h2
    · cases i with
      | zero =>
        simp at ho' he'
        obtain ⟨rfl, rfl⟩ := he'
        subst ho'
        rw [none0]
        refine ⟨hl, hd, hn, fun j f' e' hj he' r hr hr' => ?_⟩
        cases j with
        | zero => exact hj rfl
        | succ j =>
          have g1 := later j f' e' (by simpa using he') r hr'
          have g2 := (bump_le e.news s.nx).2 r hr
          have : (e.app o.dst s).nx = bump s.nx e.news := rfl
          omega
      | succ i =>
        obtain ⟨g1, g2, g3, g4⟩ := h3 i o' f' e' (by simpa using ho') (by simpa using he')
        refine ⟨?_, g2, fun r hr => Nat.le_trans (app_nx e o.dst s) (g3 r hr), fun j f'' e'' hj he'' r hr hr' => ?_⟩
        · simp only [List.zipWith_cons_cons, foldS]
          rw [show (decide (0 < i + 1)) = true by simp, cond_true, shiftLt]
          exact g1
        · cases j with
          | zero =>
            simp at he''
            obtain ⟨rfl, rfl⟩ := he''
            have g5 := (bump_le e.news s.nx).2 r hr'
            have : (e.app o.dst s).nx = bump s.nx e.news := rfl
            have := g3 r hr
            omega
          | succ j => exact g4 j f'' e'' (by omega) (by simpa using he'') r hr hr'
end Go.Abs
