/- The contract of strings.IndexAny, laid off the shelf for this program. -/
import Derived.Test.YtmmfmiamkgmikaaGreatE19
import Derived.Test.YtmmfmiamkgmikaaGreatProg
import Derived.KernelRfl
set_option maxRecDepth 100000
open Go Go.Proofs
namespace Go.Abs
def rhoAny : Shelf.Ren := ⟨fun n => match n with | 119 => 269 | 137 => 268 | 152 => 242 | 153 => 200 | 217 => 264 | 224 => 266 | 225 => 265 | 226 => 243 | 227 => 244 | 228 => 245 | 266 => 275 | n => n,
  fun n => match n with | 46 => 134 | 116 => 285 | 117 => 286 | 124 => 306 | n => n, fun n => n⟩
theorem lays153 : Lays.n153 Tryz.prog rhoAny where
  mixed := by kernel_rfl
  f119 := by kernel_rfl
  f137 := by kernel_rfl
  f152 := by kernel_rfl
  f153 := by kernel_rfl
  f217 := by kernel_rfl
  f224 := by kernel_rfl
  f225 := by kernel_rfl
  f226 := by kernel_rfl
  f227 := by kernel_rfl
  f228 := by kernel_rfl
  f266 := by kernel_rfl
  t0 := by kernel_rfl
  a0 := fun w => by kernel_rfl
  z0 := fun w => by kernel_rfl
  v0 := fun w => by kernel_rfl
  t3 := by kernel_rfl
  a3 := fun w => by kernel_rfl
  z3 := fun w => by kernel_rfl
  v3 := fun w => by kernel_rfl
  t4 := by kernel_rfl
  a4 := fun w => by kernel_rfl
  z4 := fun w => by kernel_rfl
  v4 := fun w => by kernel_rfl
  t5 := by kernel_rfl
  a5 := fun w => by kernel_rfl
  z5 := fun w => by kernel_rfl
  v5 := fun w => by kernel_rfl
  t9 := by kernel_rfl
  a9 := fun w => by kernel_rfl
  z9 := fun w => by kernel_rfl
  v9 := fun w => by kernel_rfl
  t21 := by kernel_rfl
  a21 := fun w => by kernel_rfl
  z21 := fun w => by kernel_rfl
  v21 := fun w => by kernel_rfl
  t46 := by kernel_rfl
  a46 := fun w => by kernel_rfl
  z46 := fun w => by kernel_rfl
  v46 := fun w => by kernel_rfl
  t116 := by kernel_rfl
  a116 := fun w => by kernel_rfl
  z116 := fun w => by kernel_rfl
  t117 := by kernel_rfl
  a117 := fun w => by kernel_rfl
  z117 := fun w => by kernel_rfl
  v117 := fun w => by kernel_rfl
  t124 := by kernel_rfl
  a124 := fun w => by kernel_rfl
  z124 := fun w => by kernel_rfl
  v124 := fun w => by kernel_rfl
noncomputable def F200 : Sem := xAny
theorem h200 : HasFn Tryz.prog 200 := ⟨by kernel_rfl⟩
theorem k200 : FnOk Tryz.prog 200 F200 := xAny_ok lays153 rfl
end Go.Abs
