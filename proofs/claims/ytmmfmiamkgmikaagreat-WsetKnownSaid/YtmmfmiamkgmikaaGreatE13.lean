/- Running code over abstract data, part 13: what the printed functions lean on. -/
import Derived.Test.YtmmfmiamkgmikaaGreatE12
set_option linter.unusedVariables false
set_option linter.unusedSimpArgs false
namespace Go.Abs

/-- How often a loop goes round at most, in what is run here. -/
def FU : Nat := 10000000

theorem FnOk.sub {P : Program} {f : FuncId} {F G : Sem} (hG : FnOk P f G) (h : ∀ ds T nx rt, F ds T nx = some rt → G ds T nx = some rt) : FnOk P f F :=
  fun ds T nx rt hr => hG ds T nx rt (h ds T nx rt hr)

noncomputable def ar0 (f : ST → Nat → Option Rt) : Sem := fun ds T nx => match ds with | [] => f T nx | _ => none
noncomputable def ar1 (f : D → ST → Nat → Option Rt) : Sem := fun ds T nx => match ds with | [a] => f a T nx | _ => none
noncomputable def ar2 (f : D → D → ST → Nat → Option Rt) : Sem := fun ds T nx => match ds with | [a, b] => f a b T nx | _ => none
noncomputable def ar3 (f : D → D → D → ST → Nat → Option Rt) : Sem := fun ds T nx => match ds with | [a, b, c] => f a b c T nx | _ => none
noncomputable def ar4 (f : D → D → D → D → ST → Nat → Option Rt) : Sem := fun ds T nx => match ds with | [a, b, c, d] => f a b c d T nx | _ => none
noncomputable def ar5 (f : D → D → D → D → D → ST → Nat → Option Rt) : Sem := fun ds T nx => match ds with | [a, b, c, d, e] => f a b c d e T nx | _ => none
noncomputable def ar6 (f : D → D → D → D → D → D → ST → Nat → Option Rt) : Sem := fun ds T nx => match ds with | [a, b, c, d, e, g] => f a b c d e g T nx | _ => none
section
variable {P : Program} {n : FuncId} {G : Sem}
theorem ar0_ok {f : ST → Nat → Option Rt} (hG : FnOk P n G) (h : ∀ T nx, G [] T nx = f T nx) : FnOk P n (ar0 f) := hG.sub fun ds T nx rt hr => by
  unfold ar0 at hr; split at hr
  · rw [h]; exact hr
  · cases hr
theorem ar1_ok {f : D → ST → Nat → Option Rt} (hG : FnOk P n G) (h : ∀ a T nx, G [a] T nx = f a T nx) : FnOk P n (ar1 f) := hG.sub fun ds T nx rt hr => by
  unfold ar1 at hr; split at hr
  · rw [h]; exact hr
  · cases hr
theorem ar2_ok {f : D → D → ST → Nat → Option Rt} (hG : FnOk P n G) (h : ∀ a b T nx, G [a, b] T nx = f a b T nx) : FnOk P n (ar2 f) := hG.sub fun ds T nx rt hr => by
  unfold ar2 at hr; split at hr
  · rw [h]; exact hr
  · cases hr
theorem ar3_ok {f : D → D → D → ST → Nat → Option Rt} (hG : FnOk P n G) (h : ∀ a b c T nx, G [a, b, c] T nx = f a b c T nx) : FnOk P n (ar3 f) := hG.sub fun ds T nx rt hr => by
  unfold ar3 at hr; split at hr
  · rw [h]; exact hr
  · cases hr
theorem ar4_ok {f : D → D → D → D → ST → Nat → Option Rt} (hG : FnOk P n G) (h : ∀ a b c d T nx, G [a, b, c, d] T nx = f a b c d T nx) : FnOk P n (ar4 f) := hG.sub fun ds T nx rt hr => by
  unfold ar4 at hr; split at hr
  · rw [h]; exact hr
  · cases hr
theorem ar5_ok {f : D → D → D → D → D → ST → Nat → Option Rt} (hG : FnOk P n G) (h : ∀ a b c d e T nx, G [a, b, c, d, e] T nx = f a b c d e T nx) : FnOk P n (ar5 f) := hG.sub fun ds T nx rt hr => by
  unfold ar5 at hr; split at hr
  · rw [h]; exact hr
  · cases hr
theorem ar6_ok {f : D → D → D → D → D → D → ST → Nat → Option Rt} (hG : FnOk P n G) (h : ∀ a b c d e g T nx, G [a, b, c, d, e, g] T nx = f a b c d e g T nx) : FnOk P n (ar6 f) := hG.sub fun ds T nx rt hr => by
  unfold ar6 at hr; split at hr
  · rw [h]; exact hr
  · cases hr
end

theorem CallsOk.nil {P : Program} : CallsOk P [] := fun p hp => by cases hp
theorem CallsOk.cons {P : Program} {f : FuncId} {F : Sem} {C : List (FuncId × Sem)} (h1 : HasFn P f) (h2 : FnOk P f F) (h : CallsOk P C) : CallsOk P ((f, F) :: C) := fun p hp => by
  rcases List.mem_cons.1 hp with rfl | hp
  · exact .inl ⟨h1, h2⟩
  · exact h p hp
theorem CallsOk.ext {P : Program} {f : FuncId} {F : Sem} {C : List (FuncId × Sem)} (h1 : XOk P f F) (h : CallsOk P C) : CallsOk P ((f, F) :: C) := fun p hp => by
  rcases List.mem_cons.1 hp with rfl | hp
  · exact .inr h1
  · exact h p hp
/-- A function that is not come to. -/
noncomputable def noF : Sem := fun _ _ _ => none
theorem noF_ok {P : Program} {f : FuncId} : FnOk P f noF := fun _ _ _ _ h => by cases h
theorem noF_x {P : Program} {f : FuncId} : XOk P f noF := fun _ _ _ _ h => by cases h
/-- A function that calls itself, to a depth. -/
noncomputable def recS (b : Sem → Sem) (n : Nat) : Sem := Nat.rec (motive := fun _ => Sem) noF (fun _ ih => b ih) n
theorem recS_ok {P : Program} {f : FuncId} {b : Sem → Sem} (h : ∀ G, FnOk P f G → FnOk P f (b G)) : ∀ n, FnOk P f (recS b n)
  | 0 => noF_ok
  | n + 1 => h _ (recS_ok h n)
/-- No region that draws. -/
noncomputable def dr0 : Nat → Nat → Array Oper → List (Nat × D) → ST → Nat → Nat → KS Rt → Option Rt := fun _ _ _ _ _ _ _ _ => none
theorem dr0_ok {P : Program} {N : Nat} : ∀ n, DrOk P N n (dr0 N n) := fun n id ops s0 s T nx lo k r _ h => by cases h
end Go.Abs
