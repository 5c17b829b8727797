/- Running code over abstract data, part 12: a function's contract, from its run. -/
import Derived.Test.YtmmfmiamkgmikaaGreatE11
set_option linter.unusedVariables false
set_option linter.unusedSimpArgs false
namespace Go.Abs

section
variable {P : Program} {s : AS} {T : ST} {nx : Nat}
theorem zres_ok (hS : SR T nx s) {t a : Nat} {p d : D} {ag : Option Nat} (ha : s.slot a = some p) (hi : ldI P t = some ag) (h : zres ag T p = some d) : ResAt P s (.cell a t) d := by
  unfold zres at h
  split at h
  · rename_i r es i off
    obtain ⟨xo, hxo, h⟩ := bnd_inv h
    obtain ⟨c1, h⟩ := bB_inv h
    obtain ⟨row, c2, h⟩ := bnd_inv h
    obtain ⟨ob, hob, ⟨q1, q2, q3, q4⟩, hlt⟩ := hS.get hxo
    rw [q4] at c2
    have hp : pts s (.ptr r es i off) = some (row.drop off) := by
      have : (ob.es == es) = true := by rw [q2]; simpa using c1
      simp [pts, hob, this, c2]
    cases ag with
    | some n =>
      haveI := ldI_some hi
      obtain ⟨cs, h1, h2⟩ := bnd_inv h
      cases h2
      obtain ⟨g1, rfl⟩ := takeN_eq h1
      exact .agg ha hp g1 rfl
    | none =>
      haveI := ldI_none hi
      simp only [nthD_eq] at h
      exact .one ha hp h
  · cases h
theorem resK_ok {ρ : Type} (hS : SR T nx s) : ∀ (rs : List ResultVar) (k : List D → Option ρ) (r : ρ), resK P rs s.sl T k = some r → ∃ ds, ResL P s rs ds ∧ k ds = some r
  | [], k, r, h => ⟨[], .nil, h⟩
  | .tmp t :: rs, k, r, h => by
    obtain ⟨d, h1, h2⟩ := orec (show (Option.rec (motive := fun _ => Option ρ) none (fun d => resK P rs s.sl T fun ds => k (d :: ds)) (find t s.sl) : Option ρ) = some r from h)
    obtain ⟨ds, g1, g2⟩ := resK_ok hS rs _ r h2
    exact ⟨d :: ds, .cons (.tmp h1) g1, g2⟩
  | .cell a t :: rs, k, r, h => by
    obtain ⟨p, h1, h2⟩ := orec (show (Option.rec (motive := fun _ => Option ρ) none (fun p => Option.rec (motive := fun _ => Option ρ) none (fun ag => bnd (zres ag T p) fun d => resK P rs s.sl T fun ds => k (d :: ds)) (ldI P t)) (find a s.sl) : Option ρ) = some r from h)
    obtain ⟨ag, h3, h4⟩ := orec h2
    obtain ⟨d, h5, h6⟩ := bnd_inv h4
    obtain ⟨ds, g1, g2⟩ := resK_ok hS rs _ r h6
    exact ⟨d :: ds, .cons (zres_ok hS h1 h3 h5) g1, g2⟩
end

theorem fnK_ok {P : Program} {f : FuncId} {fn : Func} {C : List (FuncId × Sem)} {dr : Nat → Nat → Array Oper → List (Nat × D) → ST → Nat → Nat → KS Rt → Option Rt} {fuel : Nat} {an : An} (hf : P.funcs[f]? = some fn) (hC : CallsOk P C) (hd : ∀ n, DrOk P fn.ntmps n (dr fn.ntmps n)) :
    FnOk P f (fnK P C dr fuel fn an) := by
  intro ds T nx rt h s hS M0 β w vals hIv hvs hargs
  unfold fnK at h
  obtain ⟨hn, h⟩ := brec h
  obtain ⟨c, hb, h⟩ := orec h
  have hn := Nat.le_of_ble_eq_true hn
  refine calls_of_wp hf hb ?_
  let s1 : AS := ⟨slotsFrom 0 ds, s.st, nx, fn.ntmps⟩
  have hI : Inv M0 (· < nx) β s1 w { tmps := vals ++ Array.replicate (fn.ntmps - vals.size) undef, defers := [] } := by
    refine ⟨hIv, by simp [s1, hvs]; omega, rfl, fun t e ht => ?_, fun t e ht => ?_⟩
    · obtain ⟨_, h2⟩ := find_slotsFrom _ _ _ _ ht
      simp only [Nat.sub_zero] at h2
      have hlt : t < vals.size := by rw [hvs]; exact (List.getElem?_eq_some_iff.1 h2).1
      have hv : vals[t]? = some vals[t] := by simp [hlt]
      have : (vals ++ Array.replicate (fn.ntmps - vals.size) undef).getD t undef = vals[t] := by simp [Array.getElem?_append_left hlt, hlt]
      show Rep _ _ w e ((vals ++ Array.replicate (fn.ntmps - vals.size) undef).getD t undef)
      rw [this]
      exact (hargs t e _ h2 hv).1
    · obtain ⟨_, h2⟩ := find_slotsFrom _ _ _ _ ht
      simp only [Nat.sub_zero] at h2
      have hlt : t < vals.size := by rw [hvs]; exact (List.getElem?_eq_some_iff.1 h2).1
      exact (hargs t e vals[t] h2 (by simp [hlt])).2
  have hG : Got fn.ntmps nx s s1 T nx nx := ⟨⟨rfl, hS.obj, hS.full, hS.out⟩, rfl, Nat.le_refl _, fun _ _ => rfl⟩
  refine wp_mono (codeK_ok (n := nx) hC (hd nx) s c an s1 T nx nx _ rt hG h M0 β w _ hI (Nat.le_refl _)) ?_
  rintro x a' w' ⟨s', β', ⟨T', nx', lo', ⟨gS, gN, glo, gfr⟩, gk⟩, hI', hn', hF⟩
  have key : (resK P fn.results.toList s'.sl T' fun ds => finK T nx (retD ds) T' nx' lo') = some rt → a'.defers = [] ∧ ∃ v, (results fn a'.tmps).run P w' = .ok v w' ∧ ∃ (y : Value) (s' : AS) (β' : Nat → Option Nat), Ending.returned v = .returned y ∧ SR rt.T rt.nx s' ∧ IvS M0 (· < rt.nx) β' s'.obj w' ∧ Rep (Mut M0 β' s'.obj) β' w' rt.d y ∧ Refs (· < rt.nx) rt.d ∧ nx ≤ rt.nx ∧
      Fr (· < nx) (Own β s.obj) (Own β' s'.obj) β β' w w' ∧ rt.lo ≤ nx ∧ (∀ q, q < rt.lo → s'.obj q = s.obj q) := by
    intro gk
    obtain ⟨rs, hres, hfin⟩ := resK_ok gS _ _ _ gk
    obtain ⟨y, hr, hrep, href⟩ := results_rep hI' hres
    refine ⟨hI'.defers, y, hr, ?_⟩
    have hnx' := gS.nxt
    rw [hnx'] at hI' hn' href
    have plain : rt = ⟨retD rs, T', nx', lo'⟩ → ∃ (y_1 : Value) (s' : AS) (β' : Nat → Option Nat), Ending.returned y = .returned y_1 ∧ SR rt.T rt.nx s' ∧ IvS M0 (· < rt.nx) β' s'.obj w' ∧ Rep (Mut M0 β' s'.obj) β' w' rt.d y_1 ∧ Refs (· < rt.nx) rt.d ∧ nx ≤ rt.nx ∧
        Fr (· < nx) (Own β s.obj) (Own β' s'.obj) β β' w w' ∧ rt.lo ≤ nx ∧ (∀ q, q < rt.lo → s'.obj q = s.obj q) := by
      rintro rfl
      exact ⟨y, s', β', rfl, gS, hI'.toIvS, hrep, href, hn', hF, glo, gfr⟩
    unfold finK at hfin
    simp only [Option.some.injEq] at hfin
    cases h1 : Nat.beq lo' nx with
    | false => rw [h1] at hfin; exact plain hfin.symm
    | true =>
      rw [h1] at hfin
      have h1 := Nat.eq_of_beq_eq_true h1
      subst h1
      have hfin : (Bool.rec (motive := fun _ => Rt) ⟨retD rs, T', nx', lo'⟩ ⟨retD rs, T, lo', lo'⟩ (nrD (retD rs)) : Rt) = rt := hfin
      cases h2 : nrD (retD rs) with
      | false => rw [h2] at hfin; exact plain hfin.symm
      | true =>
        rw [h2] at hfin
        have hfin : rt = ⟨retD rs, T, lo', lo'⟩ := hfin.symm
        subst hfin
        have hnr := nrD_ok _ h2
        have hW : Weak lo' ⟨[], s.st, lo', fn.ntmps⟩ s' := by
          refine ⟨gN.symm, ⟨Nat.le_refl _, by rw [hnx']; exact hn'⟩, fun t d ht => by simp [AS.slot, find] at ht, fun r ob hr => ?_, fun r ob hr => hIv.names r ob hr, fun t d ht => by simp [AS.slot, find] at ht, fun r ob row d hr h1 h2 => hIv.orefs r ob row d hr h1 h2⟩
          have := hIv.names r ob hr
          rw [gfr r this]
          exact hr
        have hI'' : Inv M0 (· < s'.nx) β' s' w' a' := by rw [hnx']; exact hI'
        obtain ⟨g1, g2⟩ := hW.inv hI''
        refine ⟨y, s, β', rfl, ⟨hS.nxt, hS.obj, hS.full, hS.out⟩, g1.toIvS, ?_, hnr.mono fun _ h => h.elim, Nat.le_refl _, hF.trans (fun r hr => hr) g2, Nat.le_refl _, fun _ _ => rfl⟩
        refine .base ((hrep.noref hnr).less fun b hb => ?_)
        rcases hb with hb | ⟨r, ob, hr1, hr2⟩
        · exact .inl hb
        · exact .inr ⟨r, ob, hW.objs r ob hr1, hr2⟩
  cases x with
  | normal => exact key gk
  | ret => exact key gk
  | _ => cases gk
end Go.Abs
