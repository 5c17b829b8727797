/- The law WsetKnown returns true, whatever the world: it is run, as what its code does over abstract data, in Lean's kernel. No conditions. -/
import Derived.Test.YtmmfmiamkgmikaaGreatRows
import Derived.Test.YtmmfmiamkgmikaaGreatK12
import Derived.WalkKit
import Derived.ProofKit
import Derived.OpenShut
set_option linter.unusedVariables false
set_option linter.unusedSimpArgs false
namespace Go.Abs
/-- What a run answers: 1 for true. -/
noncomputable def tb (o : Option Rt) : Nat := match o with
  | some ⟨.v (.bool true), _, _, _⟩ => 1
  | _ => 0
theorem tb_inv {o : Option Rt} (h : Nat.beq (tb o) 1 = true) : ∃ rt, o = some rt ∧ rt.d = .v (.bool true) := by
  unfold tb at h
  split at h
  · exact ⟨_, rfl, rfl⟩
  · cases h
/-- A closed law that runs to true is true. -/
theorem closed_law {P : Program} {f : FuncId} {F : Sem} (hF : FnOk P f F) (h : Nat.beq (tb (F [] .e 0)) 1 = true) (w : World) :
    Calls P f #[] w fun e w' => e = .returned (.bool true) ∧ w.keptBut w' (fun _ => False) := by
  obtain ⟨rt, hr, hd⟩ := tb_inv h
  have hS : SR .e 0 ⟨[], [], 0, 0⟩ := ⟨rfl, fun r => trivial, fun r hr => absurd hr (Nat.not_lt_zero _), fun r _ => rfl⟩
  have hI : IvS (fun _ => False) (· < 0) (fun _ => none) (AS.obj ⟨[], [], 0, 0⟩) w :=
    ⟨fun r o h => (by cases h), fun r r' o o' b h => (by cases h), fun r o b h => (by cases h), fun b h => h.elim, fun r o h => (by cases h), fun r o row d h => (by cases h)⟩
  refine (hF [] .e 0 rt hr _ hS _ _ w #[] hI rfl (fun i d y hd => by simp at hd)).mono ?_
  rintro e w' ⟨y, s', β', rfl, _, _, gr, _, _, gF, _⟩
  rw [hd] at gr
  have hy : y = .bool true := gr.one
  subst hy
  refine ⟨rfl, gF.os, gF.output, fun i hi => ?_⟩
  have hh := gF.heap i hi (fun ⟨r, o, h, _⟩ => by cases h)
  rw [hh]
  cases w.heap[i]? with
  | none => rfl
  | some o => cases o <;> simp
end Go.Abs
namespace Go.Proofs.YtmmfmiamkgmikaaGreat.WsetP
open Go.ChangeShapes Go.WideShapes Go.ChangeAt Go.RowKit
set_option maxRecDepth 100000

theorem ran : Nat.beq (Abs.tb (Abs.F3 [] .e 0)) 1 = true := by kernel_rfl
theorem own : ownKnob Tryz.prog.godebug = none := by kernel_rfl
theorem walk (w : World) : Calls Tryz.prog 3 #[] w fun e w' => e = .returned (.bool true) ∧ w.keptBut w' (fun _ => False) := Abs.closed_law Abs.k3 ran w

theorem lifted (os : Os) (started : os.Started) (H : Type) (enc : TypeId × Value → H) :
    ReturnsInHanded {} Tryz.checked os 3 .any (Rows.wsetKnownSpec.pre6 enc Tryz.prog Tryz.f3 Rows.wsetKnownRow.domain false) (Rows.wsetKnownSpec.post enc Tryz.prog Tryz.f3 false true false false) := by
  refine returnsInHanded_of_change (C := Tryz.checked) own started (by kernel_rfl) Tryz.func3
    (ChangeSpec.witness6 (enc := enc) (C := Tryz.checked) false ⟨#[], #[], []⟩ 8 (by kernel_rfl) (by kernel_rfl) (by kernel_rfl) (by kernel_rfl)) ?_
  intro W base args ds gs before hval0 hW hcnd _
  have hval : ∀ (j : Nat) t v, Tryz.f3.params[j]? = some t → args[j]? = some v → Value.okWide Tryz.prog W .any base t v := hval0
  have hW' := hW
  obtain ⟨p, q, hA0, hV, rfl, hfz, hnd⟩ := hW
  have hA : DataW.TrodAll enc Tryz.prog W 0 (fun _ => true) true Tryz.f3.params.toList args.toList ds p := hA0
  rw [Tryz.params3] at hA hval
  obtain ⟨rfl, rfl, rfl⟩ := trodAll_none hA
  obtain ⟨rfl, rfl⟩ := trodVars_none hV
  clear hA0 hval0
  simp only [List.append_nil] at hW'
  refine (walk W).mono fun e W' ⟨he, hg⟩ => ?_
  subst he
  refine ⟨_, rfl, ⟨_, _, _, [], [], [], hW', ?_, rfl, rfl, World.keptBut_mono (fun _ f => f.elim) hg, fun h => by cases h⟩⟩
  exact trodAll_cons_mk (shut_bool Tryz.underlying4 _) trodAll_mk0

theorem over : Rows.wsetKnownRow.holds Tryz.pinned (OpenSpec.ofChange Rows.wsetKnownSpec) :=
  OpenClaim.holds_of_wide 3 Tryz.f3 rfl rfl rfl rfl rfl rfl rfl ⟨rfl, rfl, rfl, rfl, rfl⟩ rfl rfl rfl rfl rfl (by kernel_rfl) Tryz.func3 (by kernel_rfl)
    (of_decide_eq_true (by kernel_rfl)) (by unfold Func.isWrapper; first | (rw [if_pos (by decide +kernel)]; kernel_rfl) | (rw [if_neg (by decide +kernel)]; exact ⟨rfl, rfl⟩))
    (fun os started H enc _ => lifted os started H enc)
end Go.Proofs.YtmmfmiamkgmikaaGreat.WsetP
namespace Go.Proofs.YtmmfmiamkgmikaaGreat
/-- The statement. -/
theorem wsetKnown_proved : Rows.WsetKnownSaid := WsetP.over
end Go.Proofs.YtmmfmiamkgmikaaGreat
