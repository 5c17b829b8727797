/- Running code over abstract data, part 16: regions that draw their order. -/
import Derived.Test.YtmmfmiamkgmikaaGreatE15
set_option linter.unusedVariables false
set_option linter.unusedSimpArgs false
namespace Go.Abs

/-- What an operation looked at and wrote; or a call, from one name on to another. -/
inductive Ft where
  | op (f sn : List Nat)
  | call (a b : Nat)
def outA (a b : Nat) : List Nat → Bool
  | [] => true
  | r :: l => (Nat.blt r a || Nat.ble b r) && outA a b l
def allGe (b : Nat) : List Nat → Bool
  | [] => true
  | r :: l => Nat.ble b r && allGe b l
/-- Do two that stand in this order, and do not wait for each other, not meet? -/
def apt : Ft → Ft → Bool
  | .op f1 s1, .op f2 s2 => !hits s1 (f2 ++ s2) && !hits f1 s2
  | .op f s, .call a b => allGe b s && outA a b f
  | .call a b, .op f s => allGe b s && outA a b f
  | .call _ _, .call _ _ => false

def isCall (o : Oper) : Bool := match o.op with
  | .call c => match c.callee with
    | .value _ => true
    | _ => false
  | _ => false
def slApart (ops : Array Oper) (o p : Oper) : Bool :=
  (match o.dst with | some t => !(looks ops p).contains t && p.dst != some t | none => true) && (match p.dst with | some t => !(looks ops o).contains t | none => true)
def meets (o p : Oper) : Bool := (mayS o.op && (mayF p.op || mayS p.op)) || (mayF o.op && mayS p.op)
/-- With whom may one that stands behind meet? -/
def stRow (ops : Array Oper) (ms : List Nat) (o : Oper) (i : Nat) : Nat → List Oper → Option (List (Nat × Nat))
  | _, [] => some []
  | k, p :: l => bif (ms.getD k 0).testBit i then stRow ops ms o i (k + 1) l
    else bif isCall p && mayS o.op then none
    else bif slApart ops o p then match stRow ops ms o i (k + 1) l with
      | some m => some (bif meets o p then (i, k) :: m else m)
      | none => none
    else none
def stAll (ops : Array Oper) (ms : List Nat) : Nat → List Oper → Option (List (Nat × Nat))
  | _, [] => some []
  | i, o :: l => bif (o.after.all fun e => !Region.binds .any e || decide (e.on < i)) then match stRow ops ms o i (i + 1) l, stAll ops ms (i + 1) l with
      | some a, some b => some (a ++ b)
      | _, _ => none
    else none
def stChk (ops : Array Oper) : Option (List (Nat × Nat)) := stAll ops (masks ops.toList []) 0 ops.toList

@[reducible] def KD (ρ : Type) := Ft → D → ST → Nat → Nat → Option ρ
noncomputable def callD {ρ : Type} (C : List (FuncId × Sem)) (cx : Operand) (xs : List Operand) (sl : List (Nat × D)) (T : ST) (nx lo : Nat) (k : KD ρ) : Option ρ :=
  callK C cx xs sl T nx nx fun _ _ d T' nx' lo' => bB (Nat.beq lo' nx) (k (.call nx nx') d T' nx' lo)
noncomputable def opSD {ρ : Type} (P : Program) (C : List (FuncId × Sem)) (o : Oper) (sl : List (Nat × D)) (T : ST) (nx lo : Nat) (k : KD ρ) : Option ρ := match o.op with
  | .call c => match c.callee with
    | .value cx => callD C cx c.args.toList sl T nx lo k
    | _ => opK P o sl T nx lo fun f sn d T nx lo => k (.op f sn) d T nx lo
  | _ => opK P o sl T nx lo fun f sn d T nx lo => k (.op f sn) d T nx lo
noncomputable def opD {ρ : Type} (P : Program) (C : List (FuncId × Sem)) (ops : Array Oper) (o : Oper) (N : Nat) (sl : List (Nat × D)) (T : ST) (nx lo : Nat) (k : KD ρ) : Option ρ :=
  Bool.rec (motive := fun _ => Option ρ) none
  (match o.guard with
  | none => opSD P C o sl T nx lo k
  | some (j, want) => Option.rec (motive := fun _ => Option ρ) none (fun t => Option.rec (motive := fun _ => Option ρ) none (fun dg => Bool.rec (motive := fun _ => Option ρ) none
      (gjd (fun k => zgd dg want (opSD P C o sl T nx lo k) (k (.op [] []) (.v undef) T nx lo)) k) (Nat.blt t N)) (find t sl)) ((ops[j]?).bind (·.dst)))
  (Option.rec (motive := fun _ => Bool) true (fun t => Nat.blt t N) o.dst)
where
  gjd {ρ : Type} (b : KD ρ → Option ρ) (k : KD ρ) : Option ρ := b k
noncomputable def gall {ρ : Type} (acc : List Ft) (k : Option ρ) (ps : List (Nat × Nat)) : Option ρ :=
  List.rec (motive := fun _ => Option ρ) k (fun p _ ih => Option.rec (motive := fun _ => Option ρ) none (fun x => Option.rec (motive := fun _ => Option ρ) none (fun y => bB (apt x y) ih) (acc[p.2]?)) (acc[p.1]?)) ps
noncomputable def regD {ρ : Type} (P : Program) (C : List (FuncId × Sem)) (ops : Array Oper) (N : Nat) (ps : List (Nat × Nat)) (todo : List Oper) : List Ft → List (Nat × D) → ST → Nat → Nat → KS ρ → Option ρ :=
  List.rec (motive := fun _ => List Ft → List (Nat × D) → ST → Nat → Nat → KS ρ → Option ρ) (fun acc sl T nx lo k => gall acc (k sl T nx lo) ps) (fun o _ ih acc sl T nx lo k => opD P C ops o N sl T nx lo fun ft d T nx lo => ih (acc ++ [ft]) (putS o.dst d sl) T nx lo k) todo
/-- What does a region that draws its order. -/
noncomputable def drD (P : Program) (C : List (FuncId × Sem)) : Nat → Nat → Array Oper → List (Nat × D) → ST → Nat → Nat → KS Rt → Option Rt := fun N _ ops sl T nx lo k =>
  Option.rec (motive := fun _ => Option Rt) none (fun ps => regD P C ops N ps ops.toList [] sl T nx lo k) (stChk ops)

theorem hits_of {a b : List Nat} (h : ∀ x ∈ a, x ∉ b) : hits a b = false := by
  unfold hits
  rw [List.any_eq_false]
  intro x hx
  simpa using h x hx
theorem outA_ok {a b : Nat} : ∀ {l : List Nat}, outA a b l = true → ∀ r ∈ l, r < a ∨ b ≤ r
  | [], _, r, hr => by cases hr
  | q :: l, h, r, hr => by
    simp only [outA, Bool.and_eq_true, Bool.or_eq_true] at h
    rcases List.mem_cons.1 hr with rfl | hr
    · exact h.1.imp blt_lt Nat.le_of_ble_eq_true
    · exact outA_ok h.2 r hr
theorem allGe_ok {b : Nat} : ∀ {l : List Nat}, allGe b l = true → ∀ r ∈ l, b ≤ r
  | [], _, r, hr => by cases hr
  | q :: l, h, r, hr => by
    simp only [allGe, Bool.and_eq_true] at h
    rcases List.mem_cons.1 hr with rfl | hr
    · exact Nat.le_of_ble_eq_true h.1
    · exact allGe_ok h.2 r hr

/-- What is told of an operation's trace. -/
def FtOk (o : Oper) (fe : List Nat × Eff) (nb : Nat) : Ft → Prop
  | .op f sn => fe.1 = f ∧ fe.2.sets.map (·.1) = sn ∧ nb = 0 ∧ (mayF o.op = false → f = []) ∧ (mayS o.op = false → sn = [] ∧ fe.2.news = [])
  | .call a b => fe.1 = upto 0 a ∧ fe.2.sets.map (·.1) = upto a (b - a) ∧ nb = a ∧ isCall o = true ∧ a ≤ b

theorem FtOk.nb {o : Oper} {fe : List Nat × Eff} {nb : Nat} {x : Ft} (h : FtOk o fe nb x) (hp : 0 < nb) : isCall o = true := by
  cases x with
  | op f sn => have := h.2.2.1; omega
  | call a b => exact h.2.2.2.1
theorem isCall_may {o : Oper} (h : isCall o = true) : mayF o.op = true ∧ mayS o.op = true := by
  unfold isCall at h
  split at h
  · rename_i c ho
    split at h
    · rename_i cx hc
      constructor
      · simp [mayF, ho, hc]
      · simp [mayS, ho, hc]
    · cases h
  · cases h
theorem FtOk.news {o : Oper} {fe : List Nat × Eff} {nb : Nat} {x : Ft} (h : FtOk o fe nb x) (hn : fe.2.news ≠ []) : mayS o.op = true := by
  cases x with
  | op f sn =>
    cases hm : mayS o.op with
    | true => rfl
    | false => exact absurd (h.2.2.2.2 hm).2 hn
  | call a b => exact (isCall_may h.2.2.2.1).2

theorem apt_ok {o p : Oper} {fe fe' : List Nat × Eff} {nb nb' : Nat} {x y : Ft} (hx : FtOk o fe nb x) (hy : FtOk p fe' nb' y) (h : apt x y = true) :
    hits (fe.2.sets.map (·.1)) (fe'.1 ++ fe'.2.sets.map (·.1)) = false ∧ hits fe.1 (fe'.2.sets.map (·.1)) = false := by
  cases x with
  | op f s =>
    cases y with
    | op f' s' =>
      obtain ⟨x1, x2, _⟩ := hx
      obtain ⟨y1, y2, _⟩ := hy
      rw [x1, x2, y1, y2]
      simpa [apt] using h
    | call a b =>
      obtain ⟨x1, x2, _⟩ := hx
      obtain ⟨y1, y2, _, _, hab⟩ := hy
      simp only [apt, Bool.and_eq_true] at h
      rw [x1, x2, y1, y2]
      refine ⟨hits_of fun r hr hr' => ?_, hits_of fun r hr hr' => ?_⟩
      · have := allGe_ok h.1 r hr
        rcases List.mem_append.1 hr' with hr' | hr' <;> have := mem_upto.1 hr' <;> omega
      · have := mem_upto.1 hr'
        rcases outA_ok h.2 r hr with hh | hh <;> omega
  | call a b =>
    cases y with
    | op f' s' =>
      obtain ⟨x1, x2, _, _, hab⟩ := hx
      obtain ⟨y1, y2, _⟩ := hy
      simp only [apt, Bool.and_eq_true] at h
      rw [x1, x2, y1, y2]
      refine ⟨hits_of fun r hr hr' => ?_, hits_of fun r hr hr' => ?_⟩
      · have := mem_upto.1 hr
        rcases List.mem_append.1 hr' with hr' | hr'
        · rcases outA_ok h.2 r hr' with hh | hh <;> omega
        · have := allGe_ok h.1 r hr'; omega
      · have := mem_upto.1 hr
        have := allGe_ok h.1 r hr'
        omega
    | call => cases h
/-- Two that can't meet. -/
theorem meets_ok {o p : Oper} {fe fe' : List Nat × Eff} {nb nb' : Nat} {x y : Ft} (hx : FtOk o fe nb x) (hy : FtOk p fe' nb' y) (h : meets o p = false) :
    hits (fe.2.sets.map (·.1)) (fe'.1 ++ fe'.2.sets.map (·.1)) = false ∧ hits fe.1 (fe'.2.sets.map (·.1)) = false := by
  have hS : ∀ {o : Oper} {fe : List Nat × Eff} {nb : Nat} {x : Ft}, FtOk o fe nb x → mayS o.op = false → fe.2.sets.map (·.1) = [] := by
    intro o fe nb x hx hm
    cases x with
    | op f s => rw [hx.2.1]; exact (hx.2.2.2.2 hm).1
    | call a b => rw [(isCall_may hx.2.2.2.1).2] at hm; cases hm
  have hF : ∀ {o : Oper} {fe : List Nat × Eff} {nb : Nat} {x : Ft}, FtOk o fe nb x → mayF o.op = false → fe.1 = [] := by
    intro o fe nb x hx hm
    cases x with
    | op f s => rw [hx.1]; exact hx.2.2.2.1 hm
    | call a b => rw [(isCall_may hx.2.2.2.1).1] at hm; cases hm
  simp only [meets, Bool.or_eq_false_iff, Bool.and_eq_false_iff] at h
  obtain ⟨h1, h2⟩ := h
  refine ⟨?_, ?_⟩
  · rcases h1 with h1 | ⟨h1, h3⟩
    · rw [hS hx h1]; rfl
    · rw [hF hy h1, hS hy h3]; exact hits_of fun r hr hr' => by simp at hr'
  · rcases h2 with h2 | h2
    · rw [hF hx h2]; rfl
    · rw [hS hy h2]; exact hits_of fun r hr hr' => by simp at hr'

/-- What the static look tells of two. -/
def StOk (ops : Array Oper) (ms : List Nat) (ps : List (Nat × Nat)) (i j : Nat) (o p : Oper) : Prop :=
  (ms.getD j 0).testBit i = true ∨ ((isCall p && mayS o.op) = false ∧ slApart ops o p = true ∧ (meets o p = false ∨ (i, j) ∈ ps))
theorem StOk.mono {ops : Array Oper} {ms : List Nat} {ps ps' : List (Nat × Nat)} {i j : Nat} {o p : Oper} (h : StOk ops ms ps i j o p) (hp : ∀ q ∈ ps, q ∈ ps') : StOk ops ms ps' i j o p :=
  h.imp_right fun ⟨h1, h2, h3⟩ => ⟨h1, h2, h3.imp_right (hp _)⟩
theorem stRow_ok {ops : Array Oper} {ms : List Nat} {o : Oper} {i : Nat} : ∀ {l : List Oper} {k : Nat} {ps : List (Nat × Nat)}, stRow ops ms o i k l = some ps → ∀ (j : Nat) (p : Oper), l[j]? = some p → StOk ops ms ps i (k + j) o p
  | [], k, ps, h, j, p, hp => by simp at hp
  | q :: l, k, ps, h, j, p, hp => by
    unfold stRow at h
    cases hb : (ms.getD k 0).testBit i with
    | true =>
      rw [hb] at h
      simp only [cond_true] at h
      cases j with
      | zero => exact .inl (by simpa using hb)
      | succ j =>
        have := stRow_ok h j p (by simpa using hp)
        rwa [show k + (j + 1) = k + 1 + j by omega]
    | false =>
      rw [hb] at h
      simp only [cond_false] at h
      cases hc : (isCall q && mayS o.op) with
      | true => rw [hc] at h; cases h
      | false =>
        rw [hc] at h
        simp only [cond_false] at h
        cases hs : slApart ops o q with
        | false => rw [hs] at h; cases h
        | true =>
          rw [hs] at h
          simp only [cond_true] at h
          cases hr : stRow ops ms o i (k + 1) l with
          | none => rw [hr] at h; cases h
          | some m =>
            rw [hr] at h
            simp only [Option.some.injEq] at h
            cases j with
            | zero =>
              simp at hp
              subst hp
              refine .inr ⟨hc, hs, ?_⟩
              cases hm : meets o q with
              | false => exact .inl rfl
              | true => rw [hm] at h; simp only [cond_true] at h; subst h; exact .inr (by simp)
            | succ j =>
              have := stRow_ok hr j p (by simpa using hp)
              rw [show k + 1 + j = k + (j + 1) by omega] at this
              refine this.mono fun q hq => ?_
              cases hm : meets o _ with
              | false => rw [hm] at h; simp only [cond_false] at h; subst h; exact hq
              | true => rw [hm] at h; simp only [cond_true] at h; subst h; exact List.mem_cons_of_mem _ hq
theorem stAll_ok {ops : Array Oper} {ms : List Nat} : ∀ {l : List Oper} {k : Nat} {ps : List (Nat × Nat)}, stAll ops ms k l = some ps →
    (∀ (i j : Nat) (o p : Oper), i < j → l[i]? = some o → l[j]? = some p → StOk ops ms ps (k + i) (k + j) o p) ∧ ∀ (i : Nat) (o : Oper), l[i]? = some o → (o.after.all fun e => !Region.binds .any e || decide (e.on < k + i)) = true
  | [], k, ps, h => ⟨fun i j o p _ h => by simp at h, fun i o h => by simp at h⟩
  | q :: l, k, ps, h => by
    unfold stAll at h
    cases ha : (q.after.all fun e => !Region.binds .any e || decide (e.on < k)) with
    | false => rw [ha] at h; cases h
    | true =>
      rw [ha] at h
      simp only [cond_true] at h
      cases h1 : stRow ops ms q k (k + 1) l with
      | none => rw [h1] at h; cases h
      | some a =>
        cases h2 : stAll ops ms (k + 1) l with
        | none => rw [h1, h2] at h; cases h
        | some b =>
          rw [h1, h2] at h
          simp only [Option.some.injEq] at h
          subst h
          obtain ⟨g1, g2⟩ := stAll_ok h2
          refine ⟨fun i j o p hij ho hp => ?_, fun i o ho => ?_⟩
          · cases i with
            | zero =>
              simp at ho
              subst ho
              cases j with
              | zero => omega
              | succ j =>
                have := stRow_ok h1 j p (by simpa using hp)
                rw [show k + 1 + j = k + (j + 1) by omega] at this
                exact this.mono fun q hq => List.mem_append.2 (.inl hq)
            | succ i =>
              cases j with
              | zero => omega
              | succ j =>
                have := g1 i j o p (by omega) (by simpa using ho) (by simpa using hp)
                rw [show k + 1 + i = k + (i + 1) by omega, show k + 1 + j = k + (j + 1) by omega] at this
                exact this.mono fun q hq => List.mem_append.2 (.inr hq)
          · cases i with
            | zero => simp at ho; subst ho; exact ha
            | succ i =>
              have := g2 i o (by simpa using ho)
              rwa [show k + 1 + i = k + (i + 1) by omega] at this

theorem chkRow_of {ops : Array Oper} {ms : List Nat} {o : Oper} {fo : List Nat × List Nat} {i : Nat} : ∀ {l : List (Oper × List Nat × List Nat)} {k : Nat}, (∀ (j : Nat) (p : Oper) (fp : List Nat × List Nat), l[j]? = some (p, fp) → (ms.getD (k + j) 0).testBit i = true ∨ apart1 ops o fo p fp = true) → chkRow ops ms o fo i k l = true
  | [], _, _ => rfl
  | (p, fp) :: l, k, h => by
    simp only [chkRow, Bool.and_eq_true, Bool.or_eq_true]
    refine ⟨h 0 p fp (by simp), chkRow_of fun j p' fp' hj => ?_⟩
    have := h (j + 1) p' fp' (by simpa using hj)
    rwa [show k + (j + 1) = k + 1 + j by omega] at this
theorem chkAll_of {ops : Array Oper} {ms : List Nat} : ∀ {l : List (Oper × List Nat × List Nat)} {k : Nat}, (∀ (i j : Nat) (o p : Oper) (fo fp : List Nat × List Nat), i < j → l[i]? = some (o, fo) → l[j]? = some (p, fp) → (ms.getD (k + j) 0).testBit (k + i) = true ∨ apart1 ops o fo p fp = true) →
    (∀ (i : Nat) (o : Oper) (fo : List Nat × List Nat), l[i]? = some (o, fo) → (o.after.all fun e => !Region.binds .any e || decide (e.on < k + i)) = true) → chkAll ops ms k l = true
  | [], _, _, _ => rfl
  | (o, fo) :: l, k, h, ha => by
    simp only [chkAll, Bool.and_eq_true]
    refine ⟨⟨chkRow_of fun j p fp hj => ?_, ?_⟩, chkAll_of (fun i j o' p' fo' fp' hij h1 h2 => ?_) fun i o' fo' h1 => ?_⟩
    · have := h 0 (j + 1) o p fo fp (by omega) (by simp) (by simpa using hj)
      rwa [Nat.add_zero, show k + (j + 1) = k + 1 + j by omega] at this
    · exact ha 0 o fo (by simp)
    · have := h (i + 1) (j + 1) o' p' fo' fp' (by omega) (by simpa using h1) (by simpa using h2)
      rwa [show k + (i + 1) = k + 1 + i by omega, show k + (j + 1) = k + 1 + j by omega] at this
    · have := ha (i + 1) o' fo' (by simpa using h1)
      rwa [show k + (i + 1) = k + 1 + i by omega] at this
theorem feet_inv : ∀ {l : List Oper} {es : List (List Nat × Eff)} {i : Nat} {o : Oper} {fo : List Nat × List Nat}, (feet l es)[i]? = some (o, fo) → l[i]? = some o ∧ ∃ f e, es[i]? = some (f, e) ∧ fo = (f, e.sets.map (·.1))
  | [], es, i, o, fo, h => by simp [feet] at h
  | _ :: _, [], i, o, fo, h => by simp [feet] at h
  | o' :: l, (f, e) :: es, 0, o, fo, h => by
    simp only [feet, List.getElem?_cons_zero, Option.some.injEq, Prod.mk.injEq] at h
    obtain ⟨rfl, rfl⟩ := h
    exact ⟨rfl, f, e, rfl, rfl⟩
  | o' :: l, (f, e) :: es, i + 1, o, fo, h => by
    simp only [feet, List.getElem?_cons_succ] at h
    obtain ⟨h1, f', e', h2, h3⟩ := feet_inv h
    exact ⟨by simpa using h1, f', e', by simpa using h2, h3⟩
end Go.Abs
