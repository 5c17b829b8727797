/- Running code over abstract data, part 19: functions of the library whose contracts stand on the shelf. -/
import Derived.Test.YtmmfmiamkgmikaaGreatE18
import Derived.Shelf.Strings.IndexAny
set_option linter.unusedVariables false
set_option linter.unusedSimpArgs false
namespace Go.Abs

/-- A world that has grown stands for the same state. -/
theorem IvS.grow {M0 A : Nat → Prop} {β : Nat → Option Nat} {ob : Nat → Option Obj} {w w' : World} (h : IvS M0 A β ob w) (hold : ∀ k, k < w.heap.size → w'.heap[k]? = w.heap[k]?) (hsz : w.heap.size ≤ w'.heap.size) :
    IvS M0 A β ob w' ∧ KeepB A (Own β ob) (Own β ob) β β w w' := by
  have hkeep : KeepB A (Own β ob) (Own β ob) β β w w' :=
    ⟨⟨hsz, fun k hk _ => hold k hk, fun k hk hm => hm⟩, fun r hr => rfl, fun k cs' e hk => ⟨cs', by rw [hold k (Array.getElem?_eq_some_iff.1 hk).1]; exact hk, rfl⟩⟩
  refine ⟨⟨fun r o' hr => ?_, h.inj, h.own, fun k hk => Nat.lt_of_lt_of_le (h.out k hk) hsz, h.names, h.orefs⟩, hkeep⟩
  obtain ⟨g1, g2⟩ := h.objs r o' hr
  refine ⟨g1, ?_⟩
  rcases g2 with ⟨g2, g3⟩ | ⟨b', cs', val', g3, g4, g5, g6, g7⟩
  · exact .inl ⟨g2, g3⟩
  · exact .inr ⟨b', cs', val', g3, (hold b' (Array.getElem?_eq_some_iff.1 g4).1).trans g4, g5, g6, fun i row j d h1 h2 => (g7 i row j d h1 h2).keep hkeep.up (h.orefs r o' row d hr (List.mem_of_getElem? h1) (List.mem_of_getElem? h2))⟩

/-- A function of values alone, that may grow the world. -/
theorem FnOk.grows {P : Program} {f : FuncId} {F : Sem} (h : ∀ (ds : List D) (T : ST) (nx : Nat) (rt : Rt), F ds T nx = some rt → ∃ (vs : List Value) (z : Value), ds = vs.map .v ∧ rt = ⟨.v z, T, nx, nx⟩ ∧
    ∀ w : World, Calls P f vs.toArray w fun e w' => e = .returned z ∧ (∀ k, k < w.heap.size → w'.heap[k]? = w.heap[k]?) ∧ w.heap.size ≤ w'.heap.size ∧ w'.os = w.os ∧ w'.tape = w.tape ∧ w'.output = w.output) : FnOk P f F := by
  intro ds T nx rt hr s hS M0 β w vals hI hvs hrep
  obtain ⟨vs, z, rfl, rfl, hc⟩ := h ds T nx rt hr
  have hv : vals = vs.toArray := by
    apply Array.ext_getElem?
    intro i
    simp only [List.getElem?_toArray]
    by_cases hi : i < vs.length
    · have hi2 : i < vals.size := by rw [hvs]; simpa using hi
      have := (hrep i (.v vs[i]) vals[i] (by simp [hi]) (Array.getElem?_eq_getElem hi2)).1.one
      rw [Array.getElem?_eq_getElem hi2, List.getElem?_eq_getElem hi, this]
    · rw [List.getElem?_eq_none (by omega), Array.getElem?_eq_none (by rw [hvs]; simp; omega)]
  rw [hv]
  refine (hc w).mono ?_
  rintro e w' ⟨rfl, h1, h2, h3, h4, h5⟩
  obtain ⟨g1, g2⟩ := hI.grow h1 h2
  exact ⟨z, s, β, rfl, hS, g1, .base (.v _), .v _, Nat.le_refl _, ⟨g2, h3, h4, h5⟩, Nat.le_refl _, fun _ _ => rfl⟩

noncomputable def asciiB : List UInt8 → Bool
  | [] => true
  | b :: l => Nat.blt b.toNat 128 && asciiB l
theorem asciiB_ok : ∀ {l : List UInt8}, asciiB l = true → ∀ (j : Nat) (b : UInt8), l[j]? = some b → b.toNat < 128
  | [], _, j, b, h => by simp at h
  | c :: l, h, j, b, hb => by
    simp only [asciiB, Bool.and_eq_true] at h
    cases j with
    | zero => simp at hb; subst hb; exact blt_lt h.1
    | succ j => exact asciiB_ok h.2 j b (by simpa using hb)
/-- strings.IndexAny of a short string. -/
noncomputable def xAny : Sem := fun ds T nx => match ds with
  | [.v (.string s), .v (.string c)] => bB (Nat.ble 2 c.size) (bB (Nat.ble s.size 8) (bB (asciiB s.data.toList) (fI (Lib.indexAny s.data.toList c.data.toList) fun i => ret1 (.int .i64 i) T nx)))
  | _ => none
theorem xAny_ok {P : Program} {ρ : Shelf.Ren} (h : Proofs.Lays.n153 P ρ) {f : FuncId} (hf : ρ.f 153 = f) : FnOk P f xAny := FnOk.grows fun ds T nx rt hr => by
  unfold xAny at hr
  split at hr
  · rename_i s c
    obtain ⟨h1, hr⟩ := bB_inv hr
    obtain ⟨h2, hr⟩ := bB_inv hr
    obtain ⟨h3, hr⟩ := bB_inv hr
    rw [fI_eq] at hr
    cases hr
    refine ⟨[_, _], _, rfl, rfl, fun w => ?_⟩
    have := Proofs.Any.strings_IndexAny_short h s c w (Nat.le_of_ble_eq_true h1) (Nat.le_of_ble_eq_true h2) (asciiB_ok h3)
    rw [hf] at this
    refine this.mono ?_
    rintro e w' ⟨rfl, pos, rfl⟩
    refine ⟨rfl, fun k hk => ?_, ?_, rfl, rfl, rfl⟩
    · show (w.heap.push _)[k]? = _
      rw [Array.getElem?_push, if_neg (by omega)]
    · show w.heap.size ≤ (w.heap.push _).size
      simp
  · cases hr
end Go.Abs
