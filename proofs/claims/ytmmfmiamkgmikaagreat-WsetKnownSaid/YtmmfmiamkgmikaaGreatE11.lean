/- Running code over abstract data, part 11: regions in the text's order, code, functions. -/
import Derived.Test.YtmmfmiamkgmikaaGreatE10
set_option linter.unusedVariables false
set_option linter.unusedSimpArgs false
namespace Go.Abs

@[reducible] def KS (ρ : Type) := List (Nat × D) → ST → Nat → Nat → Option ρ
/-- A region in the text's order. -/
noncomputable def regS {ρ : Type} (P : Program) (C : List (FuncId × Sem)) (ops : Array Oper) (N : Nat) (todo : List Oper) : List (Nat × D) → ST → Nat → Nat → KS ρ → Option ρ :=
  List.rec (motive := fun _ => List (Nat × D) → ST → Nat → Nat → KS ρ → Option ρ) (fun sl T nx lo k => k sl T nx lo) (fun o _ ih sl T nx lo k => opG P C ops o N sl T nx lo fun _ _ d T nx lo => ih (putS o.dst d sl) T nx lo k) todo

section
variable {P : Program} {ops : Array Oper} {s : AS} {T : ST} {nx lo : Nat}
theorem regS_ok {ρ : Type} {C : List (FuncId × Sem)} (hC : CallsOk P C) {N : Nat} {k : KS ρ} {r : ρ} {s0 : AS} {n : Nat} :
    ∀ (todo : List Oper) (s : AS) (T : ST) (nx lo : Nat), SR T nx s → s.N = N → lo ≤ n → n ≤ nx → (∀ q, q < lo → s.obj q = s0.obj q) → regS P C ops N todo s.sl T nx lo k = some r →
      ∀ (M0 : Nat → Prop) (β : Nat → Option Nat) (w : World) (a : Act), Inv M0 (· < s.nx) β s w a → ∀ (Q : Exit → Act → World → Prop),
        (∀ s' β' w' a', (∃ T' nx' lo', SR T' nx' s' ∧ s'.N = N ∧ lo' ≤ n ∧ (∀ q, q < lo' → s'.obj q = s0.obj q) ∧ k s'.sl T' nx' lo' = some r) → Inv M0 (· < s'.nx) β' s' w' a' → s.nx ≤ s'.nx → Fr (· < s.nx) (Own β s.obj) (Own β' s'.obj) β β' w w' → Q .normal a' w') →
        wpList P ops Q todo a w
  | [], s, T, nx, lo, hS, hN, hlo, hn, hfr, h => fun M0 β w a hI Q hQ => hQ s β w a ⟨T, nx, lo, hS, hN, hlo, hfr, h⟩ hI (Nat.le_refl _) (Fr.refl _ _ _ _)
  | o :: os, s, T, nx, lo, hS, hN, hlo, hn, hfr, h => by
    intro M0 β w a hI Q hQ
    have h' : opG P C ops o s.N s.sl T nx lo (fun _ _ d T nx lo => regS P C ops N os (putS o.dst d s.sl) T nx lo k) = some r := by rw [hN]; exact h
    have hs := opG_ok (ops := ops) hC hS (by omega) h'
    refine wpList_step fun K hK => ?_
    refine hs M0 β w a hI K Q fun s' β' w' a' ⟨f, sn, d, T', nx', lo', ha, hlo', hk⟩ hI' hle hF => hK a' w' ?_
    obtain ⟨a1, a2, a3, a4⟩ := ha
    have hk' : regS P C ops N os s'.sl T' nx' lo' k = some r := by rw [a1]; exact hk
    have hn' : n ≤ nx' := by have := hS.nxt; have := a3.nxt; omega
    refine regS_ok hC os s' T' nx' lo' a3 (a2.trans hN) (by omega) hn' (fun q hq => (a4 q hq).trans (hfr q (by omega))) hk' M0 β' w' a' hI' Q fun s'' β'' w'' a'' g1 g2 g3 g4 => hQ s'' β'' w'' a'' g1 g2 (by omega) (hF.trans (fun r hr => by have : r < s.nx := hr; show r < s'.nx; omega) g4)
end

/-! ### Code -/
/-- What is told beside code: which slots are live at a loop's head, where ways meet. -/
inductive An where
  | o
  | s (a b : An)
  | j (live : List Nat) (a b : An)
  | c (a b : An)
  | b (a : An)
  | l (live : List Nat) (a : An)

@[reducible] def KX (ρ : Type) := Exit → List (Nat × D) → ST → Nat → Nat → Option ρ
@[reducible] def KV (ρ : Type) := List D → ST → Nat → Nat → Option ρ
def hdD : List D → D
  | d :: _ => d
  | [] => .un
def tlD : List D → List D
  | _ :: l => l
  | [] => []
def zipL : List Nat → List D → List (Nat × D)
  | [], _ => []
  | t :: l, vs => (t, hdD vs) :: zipL l (tlD vs)
def pickL (sl : List (Nat × D)) : List Nat → Option (List D)
  | [] => some []
  | t :: l => match find t sl, pickL sl l with
    | some d, some ds => some (d :: ds)
    | _, _ => none
noncomputable def unc {ρ : Type} (v : List D) (k : D → List D → Option ρ) : Option ρ := List.rec (motive := fun _ => Option ρ) none (fun d l _ => k d l) v
noncomputable def unL {ρ : Type} (live : List Nat) : List D → (List (Nat × D) → Option ρ) → Option ρ :=
  List.rec (motive := fun _ => List D → (List (Nat × D) → Option ρ) → Option ρ) (fun _ k => k []) (fun t _ ih vs k => unc vs fun d l => ih l fun sl => k ((t, d) :: sl)) live
theorem unL_inv {ρ : Type} {r : ρ} : ∀ {live : List Nat} {vs : List D} {k : List (Nat × D) → Option ρ}, unL live vs k = some r → k (zipL live vs) = some r
  | [], _, _, h => h
  | t :: l, [], k, h => by cases h
  | t :: l, d :: vs, k, h => unL_inv (live := l) (vs := vs) (k := fun sl => k ((t, d) :: sl)) h
/-- Where ways meet. -/
noncomputable def jn {ρ : Type} (K : KV ρ) (b : KV ρ → Option ρ) : Option ρ := b K
noncomputable def cnd {ρ : Type} (d : D) (t e : Option ρ) : Option ρ := match d with
  | .v (.bool b) => Bool.rec (motive := fun _ => Option ρ) e t b
  | _ => none
noncomputable def lpc {ρ : Type} (fuel : Nat) (body : KV ρ → KV ρ) : KV ρ := Nat.rec (motive := fun _ => KV ρ) (fun _ _ _ _ => none) (fun _ go => body go) fuel
/-- Behind code: on, or out. -/
noncomputable abbrev exN {ρ : Type} (e : Exit) (on : Option ρ) (out : Option ρ) : Option ρ := match e with
  | .normal => on
  | _ => out
noncomputable abbrev exB {ρ : Type} (id : Nat) (e : Exit) (on : Option ρ) (out : Option ρ) : Option ρ := match e with
  | .exit j => Bool.rec (motive := fun _ => Option ρ) out on (Nat.beq j id)
  | _ => out

noncomputable def codeK {ρ : Type} (P : Program) (C : List (FuncId × Sem)) (dr : Array Oper → List (Nat × D) → ST → Nat → Nat → KS ρ → Option ρ) (N fuel : Nat) (c : Code) : An → List (Nat × D) → ST → Nat → Nat → KX ρ → Option ρ :=
  Code.rec (motive := fun _ => An → List (Nat × D) → ST → Nat → Nat → KX ρ → Option ρ)
    (fun _ sl T nx lo k => k .normal sl T nx lo)
    (fun _ ops draw _ sl T nx lo k => Bool.rec (motive := fun _ => Option ρ) (regS P C ops N ops.toList sl T nx lo fun sl T nx lo => k .normal sl T nx lo) (dr ops sl T nx lo fun sl T nx lo => k .normal sl T nx lo) draw)
    (fun _ _ iha ihb an sl T nx lo k => An.rec (motive := fun _ => Option ρ) none
      (fun x y _ _ => iha x sl T nx lo fun e sl T nx lo => exN e (ihb y sl T nx lo k) (k e sl T nx lo))
      (fun live x y _ _ => jn (fun vs T nx lo => unL live vs fun sl => ihb y sl T nx lo k) fun K => iha x sl T nx lo fun e sl T nx lo => exN e (Option.rec (motive := fun _ => Option ρ) none (fun vs => K vs T nx lo) (pickL sl live)) (k e sl T nx lo))
      (fun _ _ _ _ => none) (fun _ _ => none) (fun _ _ _ => none) an)
    (fun c _ _ iht ihe an sl T nx lo k => An.rec (motive := fun _ => Option ρ) none (fun _ _ _ _ => none) (fun _ _ _ _ _ => none)
      (fun x y _ _ => Option.rec (motive := fun _ => Option ρ) none (fun d => cnd d (iht x sl T nx lo k) (ihe y sl T nx lo k)) (evl sl c)) (fun _ _ => none) (fun _ _ _ => none) an)
    (fun id _ ih an sl T nx lo k => An.rec (motive := fun _ => Option ρ) none (fun _ _ _ _ => none) (fun _ _ _ _ _ => none) (fun _ _ _ _ => none)
      (fun x _ => ih x sl T nx lo fun e sl T nx lo => exB id e (k .normal sl T nx lo) (k e sl T nx lo)) (fun _ _ _ => none) an)
    (fun _ ih an sl T nx lo k => An.rec (motive := fun _ => Option ρ) none (fun _ _ _ _ => none) (fun _ _ _ _ _ => none) (fun _ _ _ _ => none) (fun _ _ => none)
      (fun live x _ => Option.rec (motive := fun _ => Option ρ) none (fun vs => lpc fuel (fun go vs T nx lo => unL live vs fun sl => ih x sl T nx lo fun e sl T nx lo => exN e (Option.rec (motive := fun _ => Option ρ) none (fun vs => go vs T nx lo) (pickL sl live)) (k e sl T nx lo)) vs T nx lo) (pickL sl live)) an)
    (fun _ _ _ _ _ _ _ _ _ _ _ _ => none)
    (fun id _ sl T nx lo k => k (.exit id) sl T nx lo)
    (fun _ _ _ _ _ _ _ _ => none)
    (fun _ _ _ _ _ _ _ => none)
    (fun _ _ _ _ _ _ _ => none)
    (fun _ sl T nx lo k => k .ret sl T nx lo)
    (fun _ _ _ _ _ _ _ => none) c

/-- What is told of a state that code has come to. n: the names that stay; s0: what stood there. -/
def Got (N n : Nat) (s0 s : AS) (T : ST) (nx lo : Nat) : Prop := SR T nx s ∧ s.N = N ∧ lo ≤ n ∧ ∀ q, q < lo → s.obj q = s0.obj q
/-- Behind code: what follows comes to r. -/
def GoesK (N n : Nat) (s0 : AS) {ρ : Type} (k : KX ρ) (r : ρ) (x : Exit) (s : AS) : Prop := ∃ T nx lo, Got N n s0 s T nx lo ∧ k x s.sl T nx lo = some r
/-- A region that draws its order, done by dr. -/
def DrOk (P : Program) (N n : Nat) {ρ : Type} (dr : Array Oper → List (Nat × D) → ST → Nat → Nat → KS ρ → Option ρ) : Prop :=
  ∀ (id : Nat) (ops : Array Oper) (s0 s : AS) (T : ST) (nx lo : Nat) (k : KS ρ) (r : ρ), Got N n s0 s T nx lo → dr ops s.sl T nx lo k = some r →
    CW P n (.region id ops true) s fun x s' => x = .normal ∧ ∃ T nx lo, Got N n s0 s' T nx lo ∧ k s'.sl T nx lo = some r

theorem zipL_get : ∀ {live : List Nat} {sl : List (Nat × D)} {vs : List D}, pickL sl live = some vs → ∀ t d, find t (zipL live vs) = some d → find t sl = some d
  | [], sl, vs, h, t, d, hd => by simp [zipL, find] at hd
  | q :: l, sl, vs, h, t, d, hd => by
    simp only [pickL] at h
    cases h1 : find q sl with
    | none => rw [h1] at h; cases h
    | some e =>
      cases h2 : pickL sl l with
      | none => rw [h1, h2] at h; cases h
      | some ds =>
        rw [h1, h2] at h
        simp only [Option.some.injEq] at h
        subst h
        simp only [zipL, hdD, tlD, find_cons] at hd
        split at hd
        · rename_i e'
          subst e'
          rw [h1, hd]
        · exact zipL_get h2 t d hd

/-- Fewer slots are told of. -/
theorem Wk.pick {n : Nat} {s : AS} {live : List Nat} {vs : List D} (h : pickL s.sl live = some vs) : Wk n ⟨zipL live vs, s.st, s.nx, s.N⟩ s :=
  fun M0 β w a hI hn => ⟨β, ⟨hI.toIvS, hI.size, hI.defers, fun t d ht => hI.slots t d (zipL_get h t d ht), fun t d ht => hI.refs t d (zipL_get h t d ht)⟩, hn, Fr.refl _ _ _ _⟩
theorem Got.pick {N n : Nat} {s0 s : AS} {T : ST} {nx lo : Nat} (h : Got N n s0 s T nx lo) (live : List Nat) (vs : List D) : Got N n s0 ⟨zipL live vs, s.st, s.nx, s.N⟩ T nx lo :=
  ⟨⟨h.1.nxt, h.1.obj, h.1.full, h.1.out⟩, h.2.1, h.2.2.1, h.2.2.2⟩

theorem exN_inv {ρ : Type} {e : Exit} {on out : Option ρ} {r : ρ} (h : exN e on out = some r) : (e = .normal ∧ on = some r) ∨ (e ≠ .normal ∧ out = some r) := by
  cases e <;> first | exact .inl ⟨rfl, h⟩ | exact .inr ⟨by simp, h⟩
theorem exB_inv {ρ : Type} {id : Nat} {e : Exit} {on out : Option ρ} {r : ρ} (h : exB id e on out = some r) : (e = .exit id ∧ on = some r) ∨ (e ≠ .exit id ∧ out = some r) := by
  cases e with
  | exit j =>
    have h' : (Bool.rec (motive := fun _ => Option ρ) out on (Nat.beq j id) : Option ρ) = some r := h
    cases hj : Nat.beq j id with
    | true => rw [hj] at h'; have := Nat.eq_of_beq_eq_true hj; subst this; exact .inl ⟨rfl, h'⟩
    | false => rw [hj] at h'; exact .inr ⟨fun he => by cases he; simp at hj, h'⟩
  | _ => exact .inr ⟨by simp, h⟩
theorem cnd_inv {ρ : Type} {d : D} {t e : Option ρ} {r : ρ} (h : cnd d t e = some r) : ∃ b, d = .v (.bool b) ∧ ((b = true ∧ t = some r) ∨ (b = false ∧ e = some r)) := by
  unfold cnd at h
  split at h
  · rename_i b
    cases b
    · exact ⟨_, rfl, .inr ⟨rfl, h⟩⟩
    · exact ⟨_, rfl, .inl ⟨rfl, h⟩⟩
  · cases h

section
variable {P : Program} {C : List (FuncId × Sem)} {N fuel n : Nat} {ρ : Type} {dr : Array Oper → List (Nat × D) → ST → Nat → Nat → KS ρ → Option ρ}

theorem codeK_ok (hC : CallsOk P C) (hd : DrOk P N n dr) (s0 : AS) : ∀ (c : Code) (an : An) (s : AS) (T : ST) (nx lo : Nat) (k : KX ρ) (r : ρ), Got N n s0 s T nx lo → codeK P C dr N fuel c an s.sl T nx lo k = some r → CW P n c s (GoesK N n s0 k r) := by
  intro c
  induction c with
  | skip => exact fun an s T nx lo k r hG h => CW.skip ⟨T, nx, lo, hG, h⟩
  | ret => exact fun an s T nx lo k r hG h => CW.ret ⟨T, nx, lo, hG, h⟩
  | exit id => exact fun an s T nx lo k r hG h => CW.exit ⟨T, nx, lo, hG, h⟩
  | region id ops draw =>
    intro an s T nx lo k r hG h
    cases draw with
    | true =>
      refine (hd id ops s0 s T nx lo (fun sl T nx lo => k .normal sl T nx lo) r hG h).mono fun x s' ⟨hx, T', nx', lo', g1, g2⟩ => ?_
      subst hx
      exact ⟨T', nx', lo', g1, g2⟩
    | false =>
      intro M0 β w a hI hn
      have h' : regS P C ops N ops.toList s.sl T nx lo (fun sl T nx lo => k .normal sl T nx lo) = some r := h
      have hops : Code.region id ops false = Code.region id ops.toList.toArray false := by simp
      rw [hops]
      have hnx := hG.1.nxt
      refine wp_region_lit ?_
      rw [Array.toArray_toList]
      refine regS_ok hC (s0 := s0) (n := n) ops.toList s T nx lo hG.1 hG.2.1 hG.2.2.1 (by omega) hG.2.2.2 h' M0 β w a hI _ fun s' β' w' a' ⟨T', nx', lo', g1, g2, g3, g4, g5⟩ g6 g7 g8 => ?_
      exact ⟨s', β', ⟨T', nx', lo', ⟨g1, g2, g3, g4⟩, g5⟩, g6, by omega, g8.less fun q hq => by have : q < n := hq; show q < s.nx; omega⟩
  | seq x y ihx ihy =>
    intro an s T nx lo k r hG h
    have out : ∀ (e : Exit) (s' : AS), e ≠ .normal → GoesK N n s0 k r e s' → thenQ (fun s' => CW P n y s' (GoesK N n s0 k r)) (GoesK N n s0 k r) e s' := by
      intro e s' hne hg
      cases e <;> first | exact absurd rfl hne | exact hg
    cases an with
    | s a b =>
      refine .seq ((ihx a s T nx lo _ r hG h).mono fun e s' ⟨T', nx', lo', g1, g2⟩ => ?_)
      rcases exN_inv g2 with ⟨rfl, g3⟩ | ⟨hne, g3⟩
      · exact ihy b s' T' nx' lo' k r g1 g3
      · exact out e s' hne ⟨T', nx', lo', g1, g3⟩
    | j live a b =>
      refine .seq ((ihx a s T nx lo _ r hG h).mono fun e s' ⟨T', nx', lo', g1, g2⟩ => ?_)
      rcases exN_inv g2 with ⟨rfl, g3⟩ | ⟨hne, g3⟩
      · obtain ⟨vs, p1, p2⟩ := orec g3
        exact CW.weak (Wk.pick p1) (ihy b ⟨zipL live vs, s'.st, s'.nx, s'.N⟩ T' nx' lo' k r (g1.pick live vs) (unL_inv p2))
      · exact out e s' hne ⟨T', nx', lo', g1, g3⟩
    | _ => cases h
  | cond cx x y ihx ihy =>
    intro an s T nx lo k r hG h
    cases an with
    | c a b =>
      obtain ⟨d, h1, h2⟩ := orec h
      rw [evl_eq] at h1
      obtain ⟨g, rfl, hg⟩ := cnd_inv h2
      refine CW.cond h1 (fun ht => ?_) fun hf => ?_
      · rcases hg with ⟨_, h3⟩ | ⟨h0, _⟩
        · exact ihx a s T nx lo k r hG h3
        · rw [ht] at h0; cases h0
      · rcases hg with ⟨h0, _⟩ | ⟨_, h3⟩
        · rw [hf] at h0; cases h0
        · exact ihy b s T nx lo k r hG h3
    | _ => cases h
  | block id x ih =>
    intro an s T nx lo k r hG h
    cases an with
    | b a =>
      refine .block ((ih a s T nx lo _ r hG h).mono fun e s' ⟨T', nx', lo', g1, g2⟩ => ?_)
      rcases exB_inv g2 with ⟨rfl, g3⟩ | ⟨hne, g3⟩
      · simp only [blockQ, if_true]
        exact ⟨T', nx', lo', g1, g3⟩
      · cases e with
        | exit j =>
          have : j ≠ id := fun hj => hne (by rw [hj])
          simp only [blockQ, if_neg this]
          exact ⟨T', nx', lo', g1, g3⟩
        | _ => exact ⟨T', nx', lo', g1, g3⟩
    | _ => cases h
  | loop x ih =>
    intro an s T nx lo k r hG h
    cases an with
    | l live a =>
      obtain ⟨vs0, h1, h2⟩ := orec h
      let body : KV ρ → KV ρ := fun go vs T nx lo => unL live vs fun sl => codeK P C dr N fuel x a sl T nx lo fun e sl T nx lo => exN e (Option.rec (motive := fun _ => Option ρ) none (fun vs => go vs T nx lo) (pickL sl live)) (k e sl T nx lo)
      have h2 : lpc fuel body vs0 T nx lo = some r := h2
      let ι : Type := { p : Nat × AS // ∃ vs T nx lo, p.2.sl = zipL live vs ∧ Got N n s0 p.2 T nx lo ∧ lpc p.1 body vs T nx lo = some r }
      refine CW.loop (ι := ι) (fun i => i.1.2) (fun i => i.1.1) ⟨(fuel, ⟨zipL live vs0, s.st, s.nx, s.N⟩), vs0, T, nx, lo, rfl, hG.pick live vs0, h2⟩ (Wk.pick h1) ?_
      rintro ⟨⟨f, s1⟩, vs, T1, nx1, lo1, q1, q2, q3⟩
      cases f with
      | zero => cases q3
      | succ f =>
        have q3 : body (lpc f body) vs T1 nx1 lo1 = some r := q3
        have q3 := unL_inv q3
        simp only at q1 q2
        have q4 := ih a s1 T1 nx1 lo1 _ r q2 (by rw [q1]; exact q3)
        refine q4.mono fun e s' ⟨T', nx', lo', g1, g2⟩ => ?_
        rcases exN_inv g2 with ⟨rfl, g3⟩ | ⟨hne, g3⟩
        · obtain ⟨vs', p1, p2⟩ := orec g3
          exact ⟨⟨(f, ⟨zipL live vs', s'.st, s'.nx, s'.N⟩), vs', T', nx', lo', rfl, g1.pick live vs', p2⟩, Wk.pick p1, Nat.lt_succ_self f⟩
        · cases e <;> first | exact absurd rfl hne | exact ⟨T', nx', lo', g1, g3⟩
    | _ => cases h
  | _ => intro an s T nx lo k r hG h; cases h
end

/-! ### Functions -/
mutual
/-- No own object in it? -/
def nrD : D → Bool
  | .v _ => true
  | .un => true
  | .agg cs => nrL cs
  | .tup cs => nrL cs
  | .sl _ _ => true
  | .sln _ _ => true
  | .e0 => true
  | .vw _ _ _ _ => false
  | .bp _ => true
  | .ptr _ _ _ _ => false
  | .clo _ cs => nrL cs
def nrL : List D → Bool
  | [] => true
  | d :: l => nrD d && nrL l
end
mutual
theorem nrD_ok : ∀ d : D, nrD d = true → NoRef d
  | .v x, _ => .v x
  | .un, _ => .un
  | .agg cs, h => .agg cs (nrL_ok cs h)
  | .tup cs, h => .tup cs (nrL_ok cs h)
  | .sl es rows, _ => .sl es rows
  | .sln es rows, _ => .sln es rows
  | .e0, _ => .e0
  | .vw _ _ _ _, h => by cases h
  | .bp cs, _ => .bp cs
  | .ptr _ _ _ _, h => by cases h
  | .clo f cs, h => .clo f cs (nrL_ok cs h)
theorem nrL_ok : ∀ l : List D, nrL l = true → ∀ d ∈ l, NoRef d
  | [], _, d, hd => by cases hd
  | e :: l, h, d, hd => by
    have h' : (nrD e && nrL l) = true := h
    simp only [Bool.and_eq_true] at h'
    rcases List.mem_cons.1 hd with he | hd
    · rw [he]; exact nrD_ok e h'.1
    · exact nrL_ok l h'.2 d hd
end

/-- A function's end: what it made falls, if it touched nothing, and answers no name. -/
noncomputable def finK (T0 : ST) (nx0 : Nat) (d : D) (T : ST) (nx lo : Nat) : Option Rt := some (Bool.rec (motive := fun _ => Rt) ⟨d, T, nx, lo⟩ (Bool.rec (motive := fun _ => Rt) ⟨d, T, nx, lo⟩ ⟨d, T0, nx0, nx0⟩ (nrD d)) (Nat.beq lo nx0))
noncomputable def zres (ag : Option Nat) (T : ST) (p : D) : Option D := match p with
  | .ptr r es i off => bnd (xobj T r) fun x => bB (Nat.beq x.es es) (bnd (x.t.get i) fun row => match ag with
    | some n => bnd (takeN n (row.drop off)) fun cs => some (.agg cs)
    | none => nthD (row.drop off) 0)
  | _ => none
noncomputable def resK {ρ : Type} (P : Program) (rs : List ResultVar) (sl : List (Nat × D)) (T : ST) : (List D → Option ρ) → Option ρ :=
  List.rec (motive := fun _ => (List D → Option ρ) → Option ρ) (fun k => k []) (fun r _ ih k => ResultVar.rec (motive := fun _ => Option ρ) (fun t => Option.rec (motive := fun _ => Option ρ) none (fun d => ih fun ds => k (d :: ds)) (find t sl))
    (fun a t => Option.rec (motive := fun _ => Option ρ) none (fun p => Option.rec (motive := fun _ => Option ρ) none (fun ag => bnd (zres ag T p) fun d => ih fun ds => k (d :: ds)) (ldI P t)) (find a sl)) r) rs
noncomputable def fnK (P : Program) (C : List (FuncId × Sem)) (dr : Nat → Nat → Array Oper → List (Nat × D) → ST → Nat → Nat → KS Rt → Option Rt) (fuel : Nat) (fn : Func) (an : An) : Sem := fun ds T nx =>
  Bool.rec (motive := fun _ => Option Rt) none (Option.rec (motive := fun _ => Option Rt) none (fun c => codeK P C (dr fn.ntmps nx) fn.ntmps fuel c an (slotsFrom 0 ds) T nx nx fun x sl T' nx' lo' =>
    match x with
    | .normal => resK P fn.results.toList sl T' fun ds => finK T nx (retD ds) T' nx' lo'
    | .ret => resK P fn.results.toList sl T' fun ds => finK T nx (retD ds) T' nx' lo'
    | _ => none) fn.body) (Nat.ble ds.length fn.ntmps)
end Go.Abs
