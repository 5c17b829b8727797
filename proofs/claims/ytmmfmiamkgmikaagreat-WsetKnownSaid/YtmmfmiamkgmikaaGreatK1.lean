/- Functions of the program as what they run as, printed by a program of this session. -/
import Derived.Test.YtmmfmiamkgmikaaGreatE18
import Derived.Test.YtmmfmiamkgmikaaGreatProg
import Derived.KernelRfl
import Derived.Test.YtmmfmiamkgmikaaGreatAny
set_option linter.unusedVariables false
set_option maxRecDepth 100000
open Go Go.Proofs
namespace Go.Abs
theorem hmix : Tryz.prog.follows .mixedOrders = true := by kernel_rfl
/- reeve/geo.in -/
theorem h60 : HasFn Tryz.prog 60 := ⟨by kernel_rfl⟩
noncomputable def s60 (a0 a1 a2 : D) : ST → Nat → Option Rt := fun T nx =>
 bnd (zbin .i .geq a0 a1) fun d1 =>
 opG.gjn (fun k1 => zgd d1 true (
  k1 [] [] a0 T nx nx
 ) (k1 [] [] (.v undef) T nx nx)) fun _ _ d2 T1 n1 l1 =>
 opG.gjn (fun k2 => zgd d1 true (
  k2 [] [] a2 T1 n1 l1
 ) (k2 [] [] (.v undef) T1 n1 l1)) fun _ _ d3 T2 n2 l2 =>
 opG.gjn (fun k3 => zgd d1 true (
  bnd (zbin .i .leq d2 d3) fun d4 =>
  k3 [] [] d4 T2 n2 l2
 ) (k3 [] [] (.v undef) T2 n2 l2)) fun _ _ d5 T3 n3 l3 =>
 bnd (zpick d1 d5 (.v (.bool false))) fun d6 =>
 finK T nx d6 T3 n3 l3
theorem e60 (a0 a1 a2 : D) (T : ST) (nx : Nat) : fnK Tryz.prog [] dr0 FU Tryz.f60 (.s .o (.s .o .o)) [a0, a1, a2] T nx = s60 a0 a1 a2 T nx := by kernel_rfl
noncomputable def F60 : Sem := ar3 s60
theorem k60 : FnOk Tryz.prog 60 F60 := ar3_ok (fnK_ok (by kernel_rfl) CallsOk.nil dr0_ok) e60
/- reeve/geo.Good -/
theorem h58 : HasFn Tryz.prog 58 := ⟨by kernel_rfl⟩
noncomputable def s58 (a0 : D) : ST → Nat → Option Rt := fun T nx =>
 bB (solidB a0) <| fN (Nat.succ nx) fun n1 => fN (dcells a0).length fun e1 =>
 bnd (zfieldAddr 0 (.ptr nx e1 0 0)) fun d1 =>
 bnd (zload none (Tr.set (some (xRow 28 (dcells a0))) T nx) d1) fun d2 =>
 bndR (F60 [d2, (.v (.int .i64 (.ofNat 1))), (.v (.int .i64 (.ofNat 4)))] (Tr.set (some (xRow 28 (dcells a0))) T nx) n1) fun d3 T1 n2 l1 => fN (lowN nx l1) fun l2 =>
 opG.gjn (fun k1 => zgd d3 true (
  bnd (zfieldAddr 1 (.ptr nx e1 0 0)) fun d4 =>
  k1 [] [] d4 T1 n2 l2
 ) (k1 [] [] (.v undef) T1 n2 l2)) fun _ _ d5 T2 n3 l3 =>
 opG.gjn (fun k2 => zgd d3 true (
  bnd (zload none T2 d5) fun d6 =>
  k2 (ptr? d5) [] d6 T2 n3 l3
 ) (k2 [] [] (.v undef) T2 n3 l3)) fun _ _ d7 T3 n4 l4 =>
 opG.gjn (fun k3 => zgd d3 true (
  bnd (zfieldAddr 0 (.ptr nx e1 0 0)) fun d8 =>
  k3 [] [] d8 T3 n4 l4
 ) (k3 [] [] (.v undef) T3 n4 l4)) fun _ _ d9 T4 n5 l5 =>
 opG.gjn (fun k4 => zgd d3 true (
  bnd (zload none T4 d9) fun d10 =>
  k4 (ptr? d9) [] d10 T4 n5 l5
 ) (k4 [] [] (.v undef) T4 n5 l5)) fun _ _ d11 T5 n6 l6 =>
 opG.gjn (fun k5 => zgd d3 true (
  bnd (zbin .i .mul (.v (.int .i64 (.ofNat 8))) d11) fun d12 =>
  k5 [] [] d12 T5 n6 l6
 ) (k5 [] [] (.v undef) T5 n6 l6)) fun _ _ d13 T6 n7 l7 =>
 opG.gjn (fun k6 => zgd d3 true (
  bndR (F60 [d7, d13, (.v (.int .i64 (.ofNat 96)))] T6 n7) fun d14 T7 n8 l8 => fN (lowN l7 l8) fun l9 =>
  k6 [] [] d14 T7 n8 l9
 ) (k6 [] [] (.v undef) T6 n7 l7)) fun _ _ d15 T8 n9 l10 =>
 bnd (zpick d3 d15 (.v (.bool false))) fun d16 =>
 opG.gjn (fun k7 => zgd d16 true (
  bnd (zfieldAddr 1 (.ptr nx e1 0 0)) fun d17 =>
  k7 [] [] d17 T8 n9 l10
 ) (k7 [] [] (.v undef) T8 n9 l10)) fun _ _ d18 T9 n10 l11 =>
 opG.gjn (fun k8 => zgd d16 true (
  bnd (zload none T9 d18) fun d19 =>
  k8 (ptr? d18) [] d19 T9 n10 l11
 ) (k8 [] [] (.v undef) T9 n10 l11)) fun _ _ d20 T10 n11 l12 =>
 opG.gjn (fun k9 => zgd d16 true (
  bnd (zbin .i .rem d20 (.v (.int .i64 (.ofNat 8)))) fun d21 =>
  k9 [] [] d21 T10 n11 l12
 ) (k9 [] [] (.v undef) T10 n11 l12)) fun _ _ d22 T11 n12 l13 =>
 opG.gjn (fun k10 => zgd d16 true (
  bnd (zbin .i .eql d22 (.v (.int .i64 (.ofNat 0)))) fun d23 =>
  k10 [] [] d23 T11 n12 l13
 ) (k10 [] [] (.v undef) T11 n12 l13)) fun _ _ d24 T12 n13 l14 =>
 bnd (zpick d16 d24 (.v (.bool false))) fun d25 =>
 opG.gjn (fun k11 => zgd d25 true (
  bnd (zfieldAddr 2 (.ptr nx e1 0 0)) fun d26 =>
  k11 [] [] d26 T12 n13 l14
 ) (k11 [] [] (.v undef) T12 n13 l14)) fun _ _ d27 T13 n14 l15 =>
 opG.gjn (fun k12 => zgd d25 true (
  bnd (zload none T13 d27) fun d28 =>
  k12 (ptr? d27) [] d28 T13 n14 l15
 ) (k12 [] [] (.v undef) T13 n14 l15)) fun _ _ d29 T14 n15 l16 =>
 opG.gjn (fun k13 => zgd d25 true (
  bnd (zfieldAddr 0 (.ptr nx e1 0 0)) fun d30 =>
  k13 [] [] d30 T14 n15 l16
 ) (k13 [] [] (.v undef) T14 n15 l16)) fun _ _ d31 T15 n16 l17 =>
 opG.gjn (fun k14 => zgd d25 true (
  bnd (zload none T15 d31) fun d32 =>
  k14 (ptr? d31) [] d32 T15 n16 l17
 ) (k14 [] [] (.v undef) T15 n16 l17)) fun _ _ d33 T16 n17 l18 =>
 opG.gjn (fun k15 => zgd d25 true (
  bnd (zbin .i .add d33 (.v (.int .i64 (.ofNat 2)))) fun d34 =>
  k15 [] [] d34 T16 n17 l18
 ) (k15 [] [] (.v undef) T16 n17 l18)) fun _ _ d35 T17 n18 l19 =>
 opG.gjn (fun k16 => zgd d25 true (
  bndR (F60 [d29, d35, (.v (.int .i64 (.ofNat 48)))] T17 n18) fun d36 T18 n19 l20 => fN (lowN l19 l20) fun l21 =>
  k16 [] [] d36 T18 n19 l21
 ) (k16 [] [] (.v undef) T17 n18 l19)) fun _ _ d37 T19 n20 l22 =>
 bnd (zpick d25 d37 (.v (.bool false))) fun d38 =>
 finK T nx d38 T19 n20 l22
theorem e58 (a0 : D) (T : ST) (nx : Nat) : fnK Tryz.prog [(60, F60)] dr0 FU Tryz.f58 (.s .o (.s .o .o)) [a0] T nx = s58 a0 T nx := by kernel_rfl
noncomputable def F58 : Sem := ar1 s58
theorem k58 : FnOk Tryz.prog 58 F58 := ar1_ok (fnK_ok (by kernel_rfl) (CallsOk.cons h60 k60 CallsOk.nil) dr0_ok) e58
/- reeve/geo.slotsAt -/
theorem h61 : HasFn Tryz.prog 61 := ⟨by kernel_rfl⟩
noncomputable def s61 (a0 : D) : ST → Nat → Option Rt := fun T nx =>
 bB (solidB a0) <| fN (Nat.succ nx) fun n1 => fN (dcells a0).length fun e1 =>
 bnd (zfieldAddr 0 (.ptr nx e1 0 0)) fun d1 =>
 bnd (zload none (Tr.set (some (xRow 28 (dcells a0))) T nx) d1) fun d2 =>
 bnd (zbin .i .mul d2 (.v (.int .i64 (.ofNat 1208)))) fun d3 =>
 bnd (zbin .i .add (.v (.int .i64 (.ofNat 16))) d3) fun d4 =>
 finK T nx d4 (Tr.set (some (xRow 28 (dcells a0))) T nx) n1 nx
theorem e61 (a0 : D) (T : ST) (nx : Nat) : fnK Tryz.prog [] dr0 FU Tryz.f61 (.s .o (.s .o .o)) [a0] T nx = s61 a0 T nx := by kernel_rfl
noncomputable def F61 : Sem := ar1 s61
theorem k61 : FnOk Tryz.prog 61 F61 := ar1_ok (fnK_ok (by kernel_rfl) CallsOk.nil dr0_ok) e61
/- reeve/geo.Slot -/
theorem h12 : HasFn Tryz.prog 12 := ⟨by kernel_rfl⟩
noncomputable def s12 (a0 a1 : D) : ST → Nat → Option Rt := fun T nx =>
 bB (solidB a0) <| fN (Nat.succ nx) fun n1 => fN (dcells a0).length fun e1 =>
 bnd (zload (some 3) (Tr.set (some (xRow 28 (dcells a0))) T nx) (.ptr nx e1 0 0)) fun d1 =>
 bndR (F58 [d1] (Tr.set (some (xRow 28 (dcells a0))) T nx) n1) fun d2 T1 n2 l1 => fN (lowN nx l1) fun l2 =>
 bnd (zun .not d2) fun d3 =>
 opG.gjn (fun k1 => zgd d3 false (
  k1 [] [] a1 T1 n2 l2
 ) (k1 [] [] (.v undef) T1 n2 l2)) fun _ _ d4 T2 n3 l3 =>
 opG.gjn (fun k2 => zgd d3 false (
  bnd (zfieldAddr 1 (.ptr nx e1 0 0)) fun d5 =>
  k2 [] [] d5 T2 n3 l3
 ) (k2 [] [] (.v undef) T2 n3 l3)) fun _ _ d6 T3 n4 l4 =>
 opG.gjn (fun k3 => zgd d3 false (
  bnd (zload none T3 d6) fun d7 =>
  k3 (ptr? d6) [] d7 T3 n4 l4
 ) (k3 [] [] (.v undef) T3 n4 l4)) fun _ _ d8 T4 n5 l5 =>
 opG.gjn (fun k4 => zgd d3 false (
  bnd (zbin .i .sub d8 (.v (.int .i64 (.ofNat 1)))) fun d9 =>
  k4 [] [] d9 T4 n5 l5
 ) (k4 [] [] (.v undef) T4 n5 l5)) fun _ _ d10 T5 n6 l6 =>
 opG.gjn (fun k5 => zgd d3 false (
  bndR (F60 [d4, (.v (.int .i64 (.ofNat 0))), d10] T5 n6) fun d11 T6 n7 l7 => fN (lowN l6 l7) fun l8 =>
  k5 [] [] d11 T6 n7 l8
 ) (k5 [] [] (.v undef) T5 n6 l6)) fun _ _ d12 T7 n8 l9 =>
 opG.gjn (fun k6 => zgd d3 false (
  bnd (zun .not d12) fun d13 =>
  k6 [] [] d13 T7 n8 l9
 ) (k6 [] [] (.v undef) T7 n8 l9)) fun _ _ d14 T8 n9 l10 =>
 bnd (zpick d3 (.v (.bool true)) d14) fun d15 =>
 cnd d15 (
 finK T nx (.v (.int .i64 (.ofNat 0))) T8 n9 l10
 ) (
 bnd (zload (some 3) T8 (.ptr nx e1 0 0)) fun d16 =>
 bndR (F61 [d16] T8 n9) fun d17 T9 n10 l11 => fN (lowN l10 l11) fun l12 =>
 bnd (zbin .i .mul (.v (.int .i64 (.ofNat 2))) a1) fun d18 =>
 bnd (zbin .i .add d17 d18) fun d19 =>
 finK T nx d19 T9 n10 l12
 )
theorem e12 (a0 a1 : D) (T : ST) (nx : Nat) : fnK Tryz.prog [(58, F58), (60, F60), (61, F61)] dr0 FU Tryz.f12 (.s .o (.s (.s .o (.c (.s .o .o) .o)) (.s .o .o))) [a0, a1] T nx = s12 a0 a1 T nx := by kernel_rfl
noncomputable def F12 : Sem := ar2 s12
theorem k12 : FnOk Tryz.prog 12 F12 := ar2_ok (fnK_ok (by kernel_rfl) (CallsOk.cons h58 k58 (CallsOk.cons h60 k60 (CallsOk.cons h61 k61 CallsOk.nil))) dr0_ok) e12
/- reeve/geo.thingsAt -/
theorem h62 : HasFn Tryz.prog 62 := ⟨by kernel_rfl⟩
noncomputable def s62 (a0 : D) : ST → Nat → Option Rt := fun T nx =>
 bB (solidB a0) <| fN (Nat.succ nx) fun n1 => fN (dcells a0).length fun e1 =>
 bnd (zload (some 3) (Tr.set (some (xRow 28 (dcells a0))) T nx) (.ptr nx e1 0 0)) fun d1 =>
 bndR (F61 [d1] (Tr.set (some (xRow 28 (dcells a0))) T nx) n1) fun d2 T1 n2 l1 => fN (lowN n1 l1) fun l2 => bB (Nat.beq l2 n1) <|
 bnd (zfieldAddr 1 (.ptr nx e1 0 0)) fun d3 =>
 bnd (zload none T1 d3) fun d4 =>
 bnd (zbin .i .mul (.v (.int .i64 (.ofNat 2))) d4) fun d5 =>
 bnd (zbin .i .add d2 d5) fun d6 =>
 bB (apt (.call n1 n2) (.op (ptr? d3) [])) <|
 finK T nx d6 T1 n2 nx
theorem e62 (a0 : D) (T : ST) (nx : Nat) : fnK Tryz.prog [(61, F61)] (drD Tryz.prog [(61, F61)]) FU Tryz.f62 (.s .o (.s .o .o)) [a0] T nx = s62 a0 T nx := by kernel_rfl
noncomputable def F62 : Sem := ar1 s62
theorem k62 : FnOk Tryz.prog 62 F62 := ar1_ok (fnK_ok (by kernel_rfl) (CallsOk.cons h61 k61 CallsOk.nil) (drD_ok hmix (CallsOk.cons h61 k61 CallsOk.nil))) e62
/- reeve/geo.Thing -/
theorem h13 : HasFn Tryz.prog 13 := ⟨by kernel_rfl⟩
noncomputable def s13 (a0 a1 : D) : ST → Nat → Option Rt := fun T nx =>
 bB (solidB a0) <| fN (Nat.succ nx) fun n1 => fN (dcells a0).length fun e1 =>
 bnd (zload (some 3) (Tr.set (some (xRow 28 (dcells a0))) T nx) (.ptr nx e1 0 0)) fun d1 =>
 bndR (F58 [d1] (Tr.set (some (xRow 28 (dcells a0))) T nx) n1) fun d2 T1 n2 l1 => fN (lowN nx l1) fun l2 =>
 bnd (zun .not d2) fun d3 =>
 opG.gjn (fun k1 => zgd d3 false (
  k1 [] [] a1 T1 n2 l2
 ) (k1 [] [] (.v undef) T1 n2 l2)) fun _ _ d4 T2 n3 l3 =>
 opG.gjn (fun k2 => zgd d3 false (
  bnd (zfieldAddr 2 (.ptr nx e1 0 0)) fun d5 =>
  k2 [] [] d5 T2 n3 l3
 ) (k2 [] [] (.v undef) T2 n3 l3)) fun _ _ d6 T3 n4 l4 =>
 opG.gjn (fun k3 => zgd d3 false (
  bnd (zload none T3 d6) fun d7 =>
  k3 (ptr? d6) [] d7 T3 n4 l4
 ) (k3 [] [] (.v undef) T3 n4 l4)) fun _ _ d8 T4 n5 l5 =>
 opG.gjn (fun k4 => zgd d3 false (
  bnd (zbin .i .sub d8 (.v (.int .i64 (.ofNat 1)))) fun d9 =>
  k4 [] [] d9 T4 n5 l5
 ) (k4 [] [] (.v undef) T4 n5 l5)) fun _ _ d10 T5 n6 l6 =>
 opG.gjn (fun k5 => zgd d3 false (
  bndR (F60 [d4, (.v (.int .i64 (.ofNat 0))), d10] T5 n6) fun d11 T6 n7 l7 => fN (lowN l6 l7) fun l8 =>
  k5 [] [] d11 T6 n7 l8
 ) (k5 [] [] (.v undef) T5 n6 l6)) fun _ _ d12 T7 n8 l9 =>
 opG.gjn (fun k6 => zgd d3 false (
  bnd (zun .not d12) fun d13 =>
  k6 [] [] d13 T7 n8 l9
 ) (k6 [] [] (.v undef) T7 n8 l9)) fun _ _ d14 T8 n9 l10 =>
 bnd (zpick d3 (.v (.bool true)) d14) fun d15 =>
 cnd d15 (
 finK T nx (.v (.int .i64 (.ofNat 0))) T8 n9 l10
 ) (
 bnd (zload (some 3) T8 (.ptr nx e1 0 0)) fun d16 =>
 bndR (F62 [d16] T8 n9) fun d17 T9 n10 l11 => fN (lowN l10 l11) fun l12 =>
 bnd (zbin .i .mul (.v (.int .i64 (.ofNat 8))) a1) fun d18 =>
 bnd (zbin .i .add d17 d18) fun d19 =>
 finK T nx d19 T9 n10 l12
 )
theorem e13 (a0 a1 : D) (T : ST) (nx : Nat) : fnK Tryz.prog [(58, F58), (60, F60), (62, F62)] dr0 FU Tryz.f13 (.s .o (.s (.s .o (.c (.s .o .o) .o)) (.s .o .o))) [a0, a1] T nx = s13 a0 a1 T nx := by kernel_rfl
noncomputable def F13 : Sem := ar2 s13
theorem k13 : FnOk Tryz.prog 13 F13 := ar2_ok (fnK_ok (by kernel_rfl) (CallsOk.cons h58 k58 (CallsOk.cons h60 k60 (CallsOk.cons h62 k62 CallsOk.nil))) dr0_ok) e13
/- reeve/geo.Copy -/
theorem h17 : HasFn Tryz.prog 17 := ⟨by kernel_rfl⟩
noncomputable def s17 (a0 : D) : ST → Nat → Option Rt := fun T nx =>
 bB (solidB a0) <| fN (Nat.succ nx) fun n1 => fN (dcells a0).length fun e1 =>
 bnd (zload (some 3) (Tr.set (some (xRow 28 (dcells a0))) T nx) (.ptr nx e1 0 0)) fun d1 =>
 bndR (F58 [d1] (Tr.set (some (xRow 28 (dcells a0))) T nx) n1) fun d2 T1 n2 l1 => fN (lowN nx l1) fun l2 =>
 bnd (zun .not d2) fun d3 =>
 cnd d3 (
 finK T nx (.v (.int .i64 (.ofNat 0))) T1 n2 l2
 ) (
 bnd (zload (some 3) T1 (.ptr nx e1 0 0)) fun d4 =>
 bndR (F62 [d4] T1 n2) fun d5 T2 n3 l3 => fN (lowN n2 l3) fun l4 => bB (Nat.beq l4 n2) <|
 bnd (zfieldAddr 2 (.ptr nx e1 0 0)) fun d6 =>
 bnd (zload none T2 d6) fun d7 =>
 bnd (zbin .i .mul (.v (.int .i64 (.ofNat 8))) d7) fun d8 =>
 bnd (zbin .i .add d5 d8) fun d9 =>
 bB (apt (.call n2 n3) (.op (ptr? d6) [])) <|
 finK T nx d9 T2 n3 l2
 )
theorem e17 (a0 : D) (T : ST) (nx : Nat) : fnK Tryz.prog [(58, F58), (62, F62)] (drD Tryz.prog [(58, F58), (62, F62)]) FU Tryz.f17 (.s .o (.s (.s .o (.c (.s .o .o) .o)) (.s .o .o))) [a0] T nx = s17 a0 T nx := by kernel_rfl
noncomputable def F17 : Sem := ar1 s17
theorem k17 : FnOk Tryz.prog 17 F17 := ar1_ok (fnK_ok (by kernel_rfl) (CallsOk.cons h58 k58 (CallsOk.cons h62 k62 CallsOk.nil)) (drD_ok hmix (CallsOk.cons h58 k58 (CallsOk.cons h62 k62 CallsOk.nil)))) e17
/- reeve/cap.None -/
theorem h190 : HasFn Tryz.prog 190 := ⟨by kernel_rfl⟩
noncomputable def s190 (a0 : D) : ST → Nat → Option Rt := fun T nx =>
 bB (solidB a0) <| fN (Nat.succ nx) fun n1 => fN (dcells a0).length fun e1 =>
 bnd (zload (some 4) (Tr.set (some (xRow 111 (dcells a0))) T nx) (.ptr nx e1 0 0)) fun d1 =>
 bnd (zbuild [(.int .i64 (.ofNat 0)), (.int .i64 (.ofNat 0)), (.int .i64 (.ofNat 0)), (.int .i64 (.ofNat 0))] [(0, 1), (1, 1), (2, 1), (3, 1)] [] []) fun d2 =>
 bnd (zbin (.ag [.int .i64, .int .i64, .int .i64, .int .i64]) .eql d1 d2) fun d3 =>
 finK T nx d3 (Tr.set (some (xRow 111 (dcells a0))) T nx) n1 nx
theorem e190 (a0 : D) (T : ST) (nx : Nat) : fnK Tryz.prog [] dr0 FU Tryz.f190 (.s .o (.s .o .o)) [a0] T nx = s190 a0 T nx := by kernel_rfl
noncomputable def F190 : Sem := ar1 s190
theorem k190 : FnOk Tryz.prog 190 F190 := ar1_ok (fnK_ok (by kernel_rfl) CallsOk.nil dr0_ok) e190
/- reeve/right.Good -/
theorem h202 : HasFn Tryz.prog 202 := ⟨by kernel_rfl⟩
noncomputable def s202 (a0 : D) : ST → Nat → Option Rt := fun T nx =>
 bnd (zbin .i .geq a0 (.v (.int .i64 (.ofNat 0)))) fun d1 =>
 opG.gjn (fun k1 => zgd d1 true (
  k1 [] [] a0 T nx nx
 ) (k1 [] [] (.v undef) T nx nx)) fun _ _ d2 T1 n1 l1 =>
 opG.gjn (fun k2 => zgd d1 true (
  bnd (zbin .i .leq d2 (.v (.int .i64 (.ofNat 7)))) fun d3 =>
  k2 [] [] d3 T1 n1 l1
 ) (k2 [] [] (.v undef) T1 n1 l1)) fun _ _ d4 T2 n2 l2 =>
 bnd (zpick d1 d4 (.v (.bool false))) fun d5 =>
 finK T nx d5 T2 n2 l2
theorem e202 (a0 : D) (T : ST) (nx : Nat) : fnK Tryz.prog [] dr0 FU Tryz.f202 (.s .o (.s .o .o)) [a0] T nx = s202 a0 T nx := by kernel_rfl
noncomputable def F202 : Sem := ar1 s202
theorem k202 : FnOk Tryz.prog 202 F202 := ar1_ok (fnK_ok (by kernel_rfl) CallsOk.nil dr0_ok) e202
/- reeve/cap.in -/
theorem h226 : HasFn Tryz.prog 226 := ⟨by kernel_rfl⟩
noncomputable def s226 (a0 a1 a2 : D) : ST → Nat → Option Rt := fun T nx =>
 bnd (zbin .i .geq a0 a1) fun d1 =>
 opG.gjn (fun k1 => zgd d1 true (
  k1 [] [] a0 T nx nx
 ) (k1 [] [] (.v undef) T nx nx)) fun _ _ d2 T1 n1 l1 =>
 opG.gjn (fun k2 => zgd d1 true (
  k2 [] [] a2 T1 n1 l1
 ) (k2 [] [] (.v undef) T1 n1 l1)) fun _ _ d3 T2 n2 l2 =>
 opG.gjn (fun k3 => zgd d1 true (
  bnd (zbin .i .leq d2 d3) fun d4 =>
  k3 [] [] d4 T2 n2 l2
 ) (k3 [] [] (.v undef) T2 n2 l2)) fun _ _ d5 T3 n3 l3 =>
 bnd (zpick d1 d5 (.v (.bool false))) fun d6 =>
 finK T nx d6 T3 n3 l3
theorem e226 (a0 a1 a2 : D) (T : ST) (nx : Nat) : fnK Tryz.prog [] dr0 FU Tryz.f226 (.s .o (.s .o .o)) [a0, a1, a2] T nx = s226 a0 a1 a2 T nx := by kernel_rfl
noncomputable def F226 : Sem := ar3 s226
theorem k226 : FnOk Tryz.prog 226 F226 := ar3_ok (fnK_ok (by kernel_rfl) CallsOk.nil dr0_ok) e226
/- reeve/right.Badge -/
theorem h227 : HasFn Tryz.prog 227 := ⟨by kernel_rfl⟩
noncomputable def s227 (a0 : D) : ST → Nat → Option Rt := fun T nx =>
 bnd (zbin .i .geq a0 (.v (.int .i64 (.ofNat 0)))) fun d1 =>
 opG.gjn (fun k1 => zgd d1 true (
  k1 [] [] a0 T nx nx
 ) (k1 [] [] (.v undef) T nx nx)) fun _ _ d2 T1 n1 l1 =>
 opG.gjn (fun k2 => zgd d1 true (
  bnd (zbin .i .leq d2 (.v (.int .i64 (.ofNat 65535)))) fun d3 =>
  k2 [] [] d3 T1 n1 l1
 ) (k2 [] [] (.v undef) T1 n1 l1)) fun _ _ d4 T2 n2 l2 =>
 bnd (zpick d1 d4 (.v (.bool false))) fun d5 =>
 finK T nx d5 T2 n2 l2
theorem e227 (a0 : D) (T : ST) (nx : Nat) : fnK Tryz.prog [] dr0 FU Tryz.f227 (.s .o (.s .o .o)) [a0] T nx = s227 a0 T nx := by kernel_rfl
noncomputable def F227 : Sem := ar1 s227
theorem k227 : FnOk Tryz.prog 227 F227 := ar1_ok (fnK_ok (by kernel_rfl) CallsOk.nil dr0_ok) e227
/- reeve/cap.badged -/
theorem h228 : HasFn Tryz.prog 228 := ⟨by kernel_rfl⟩
noncomputable def s228 (a0 : D) : ST → Nat → Option Rt := fun T nx =>
 bnd (zbin .i .eql a0 (.v (.int .i64 (.ofNat 3)))) fun d1 =>
 opG.gjn (fun k1 => zgd d1 false (
  k1 [] [] a0 T nx nx
 ) (k1 [] [] (.v undef) T nx nx)) fun _ _ d2 T1 n1 l1 =>
 opG.gjn (fun k2 => zgd d1 false (
  bnd (zbin .i .eql d2 (.v (.int .i64 (.ofNat 4)))) fun d3 =>
  k2 [] [] d3 T1 n1 l1
 ) (k2 [] [] (.v undef) T1 n1 l1)) fun _ _ d4 T2 n2 l2 =>
 bnd (zpick d1 (.v (.bool true)) d4) fun d5 =>
 finK T nx d5 T2 n2 l2
theorem e228 (a0 : D) (T : ST) (nx : Nat) : fnK Tryz.prog [] dr0 FU Tryz.f228 (.s .o (.s .o .o)) [a0] T nx = s228 a0 T nx := by kernel_rfl
noncomputable def F228 : Sem := ar1 s228
theorem k228 : FnOk Tryz.prog 228 F228 := ar1_ok (fnK_ok (by kernel_rfl) CallsOk.nil dr0_ok) e228
/- reeve/cap.Good -/
theorem h166 : HasFn Tryz.prog 166 := ⟨by kernel_rfl⟩
noncomputable def s166 (a0 : D) : ST → Nat → Option Rt := fun T nx =>
 bB (solidB a0) <| fN (Nat.succ nx) fun n1 => fN (dcells a0).length fun e1 =>
 bnd (zload (some 4) (Tr.set (some (xRow 111 (dcells a0))) T nx) (.ptr nx e1 0 0)) fun d1 =>
 bndR (F190 [d1] (Tr.set (some (xRow 111 (dcells a0))) T nx) n1) fun d2 T1 n2 l1 => fN (lowN nx l1) fun l2 =>
 cnd d2 (
 finK T nx (.v (.bool true)) T1 n2 l2
 ) (
 bnd (zfieldAddr 0 (.ptr nx e1 0 0)) fun d3 =>
 bnd (zload none T1 d3) fun d4 =>
 bndR (F226 [d4, (.v (.int .i64 (.ofNat 1))), (.v (.int .i64 (.ofNat 5)))] T1 n2) fun d5 T2 n3 l3 => fN (lowN l2 l3) fun l4 =>
 opG.gjn (fun k1 => zgd d5 true (
  bnd (zfieldAddr 1 (.ptr nx e1 0 0)) fun d6 =>
  k1 [] [] d6 T2 n3 l4
 ) (k1 [] [] (.v undef) T2 n3 l4)) fun _ _ d7 T3 n4 l5 =>
 opG.gjn (fun k2 => zgd d5 true (
  bnd (zload none T3 d7) fun d8 =>
  k2 (ptr? d7) [] d8 T3 n4 l5
 ) (k2 [] [] (.v undef) T3 n4 l5)) fun _ _ d9 T4 n5 l6 =>
 opG.gjn (fun k3 => zgd d5 true (
  bndR (F226 [d9, (.v (.int .i64 (.ofNat 0))), (.v (.int .i64 (.ofNat 47)))] T4 n5) fun d10 T5 n6 l7 => fN (lowN l6 l7) fun l8 =>
  k3 [] [] d10 T5 n6 l8
 ) (k3 [] [] (.v undef) T4 n5 l6)) fun _ _ d11 T6 n7 l9 =>
 bnd (zpick d5 d11 (.v (.bool false))) fun d12 =>
 opG.gjn (fun k4 => zgd d12 true (
  bnd (zfieldAddr 2 (.ptr nx e1 0 0)) fun d13 =>
  k4 [] [] d13 T6 n7 l9
 ) (k4 [] [] (.v undef) T6 n7 l9)) fun _ _ d14 T7 n8 l10 =>
 opG.gjn (fun k5 => zgd d12 true (
  bnd (zload none T7 d14) fun d15 =>
  k5 (ptr? d14) [] d15 T7 n8 l10
 ) (k5 [] [] (.v undef) T7 n8 l10)) fun _ _ d16 T8 n9 l11 =>
 opG.gjn (fun k6 => zgd d12 true (
  bndR (F202 [d16] T8 n9) fun d17 T9 n10 l12 => fN (lowN l11 l12) fun l13 =>
  k6 [] [] d17 T9 n10 l13
 ) (k6 [] [] (.v undef) T8 n9 l11)) fun _ _ d18 T10 n11 l14 =>
 bnd (zpick d12 d18 (.v (.bool false))) fun d19 =>
 opG.gjn (fun k7 => zgd d19 true (
  bnd (zfieldAddr 3 (.ptr nx e1 0 0)) fun d20 =>
  k7 [] [] d20 T10 n11 l14
 ) (k7 [] [] (.v undef) T10 n11 l14)) fun _ _ d21 T11 n12 l15 =>
 opG.gjn (fun k8 => zgd d19 true (
  bnd (zload none T11 d21) fun d22 =>
  k8 (ptr? d21) [] d22 T11 n12 l15
 ) (k8 [] [] (.v undef) T11 n12 l15)) fun _ _ d23 T12 n13 l16 =>
 opG.gjn (fun k9 => zgd d19 true (
  bndR (F227 [d23] T12 n13) fun d24 T13 n14 l17 => fN (lowN l16 l17) fun l18 =>
  k9 [] [] d24 T13 n14 l18
 ) (k9 [] [] (.v undef) T12 n13 l16)) fun _ _ d25 T14 n15 l19 =>
 bnd (zpick d19 d25 (.v (.bool false))) fun d26 =>
 opG.gjn (fun k10 => zgd d26 true (
  bnd (zfieldAddr 3 (.ptr nx e1 0 0)) fun d27 =>
  k10 [] [] d27 T14 n15 l19
 ) (k10 [] [] (.v undef) T14 n15 l19)) fun _ _ d28 T15 n16 l20 =>
 opG.gjn (fun k11 => zgd d26 true (
  bnd (zload none T15 d28) fun d29 =>
  k11 (ptr? d28) [] d29 T15 n16 l20
 ) (k11 [] [] (.v undef) T15 n16 l20)) fun _ _ d30 T16 n17 l21 =>
 opG.gjn (fun k12 => zgd d26 true (
  bnd (zbin .i .eql d30 (.v (.int .i64 (.ofNat 0)))) fun d31 =>
  k12 [] [] d31 T16 n17 l21
 ) (k12 [] [] (.v undef) T16 n17 l21)) fun _ _ d32 T17 n18 l22 =>
 opG.gjn (fun k13 => zgd d26 true (
  k13 [] [] d32 T17 n18 l22
 ) (k13 [] [] (.v undef) T17 n18 l22)) fun _ _ d33 T18 n19 l23 =>
 opG.gjn (fun k14 => zgd d33 false (
  bnd (zfieldAddr 0 (.ptr nx e1 0 0)) fun d34 =>
  k14 [] [] d34 T18 n19 l23
 ) (k14 [] [] (.v undef) T18 n19 l23)) fun _ _ d35 T19 n20 l24 =>
 opG.gjn (fun k15 => zgd d33 false (
  bnd (zload none T19 d35) fun d36 =>
  k15 (ptr? d35) [] d36 T19 n20 l24
 ) (k15 [] [] (.v undef) T19 n20 l24)) fun _ _ d37 T20 n21 l25 =>
 opG.gjn (fun k16 => zgd d33 false (
  bndR (F228 [d37] T20 n21) fun d38 T21 n22 l26 => fN (lowN l25 l26) fun l27 =>
  k16 [] [] d38 T21 n22 l27
 ) (k16 [] [] (.v undef) T20 n21 l25)) fun _ _ d39 T22 n23 l28 =>
 opG.gjn (fun k17 => zgd d26 true (
  bnd (zpick d33 (.v (.bool true)) d39) fun d40 =>
  k17 [] [] d40 T22 n23 l28
 ) (k17 [] [] (.v undef) T22 n23 l28)) fun _ _ d41 T23 n24 l29 =>
 bnd (zpick d26 d41 (.v (.bool false))) fun d42 =>
 finK T nx d42 T23 n24 l29
 )
theorem e166 (a0 : D) (T : ST) (nx : Nat) : fnK Tryz.prog [(190, F190), (226, F226), (202, F202), (227, F227), (228, F228)] dr0 FU Tryz.f166 (.s .o (.s (.s .o (.c (.s .o .o) .o)) (.s .o .o))) [a0] T nx = s166 a0 T nx := by kernel_rfl
noncomputable def F166 : Sem := ar1 s166
theorem k166 : FnOk Tryz.prog 166 F166 := ar1_ok (fnK_ok (by kernel_rfl) (CallsOk.cons h190 k190 (CallsOk.cons h226 k226 (CallsOk.cons h202 k202 (CallsOk.cons h227 k227 (CallsOk.cons h228 k228 CallsOk.nil))))) dr0_ok) e166
/- (reeve/state.State).there -/
theorem h191 : HasFn Tryz.prog 191 := ⟨by kernel_rfl⟩
noncomputable def s191 (a0 a1 : D) : ST → Nat → Option Rt := fun T nx =>
 bB (solidB a0) <| fN (Nat.succ nx) fun n1 => fN (dcells a0).length fun e1 =>
 bnd (zbin .i .geq a1 (.v (.int .i64 (.ofNat 0)))) fun d1 =>
 opG.gjn (fun k1 => zgd d1 true (
  k1 [] [] a1 (Tr.set (some (xRow 32 (dcells a0))) T nx) n1 nx
 ) (k1 [] [] (.v undef) (Tr.set (some (xRow 32 (dcells a0))) T nx) n1 nx)) fun _ _ d2 T1 n2 l1 =>
 opG.gjn (fun k2 => zgd d1 true (
  bnd (zfieldAddr 4 (.ptr nx e1 0 0)) fun d3 =>
  k2 [] [] d3 T1 n2 l1
 ) (k2 [] [] (.v undef) T1 n2 l1)) fun _ _ d4 T2 n3 l2 =>
 opG.gjn (fun k3 => zgd d1 true (
  bnd (zload none T2 d4) fun d5 =>
  k3 (ptr? d4) [] d5 T2 n3 l2
 ) (k3 [] [] (.v undef) T2 n3 l2)) fun _ _ d6 T3 n4 l3 =>
 opG.gjn (fun k4 => zgd d1 true (
  bnd (zlen true d6) fun d7 =>
  k4 [] [] d7 T3 n4 l3
 ) (k4 [] [] (.v undef) T3 n4 l3)) fun _ _ d8 T4 n5 l4 =>
 opG.gjn (fun k5 => zgd d1 true (
  bnd (zbin .i .lss d2 d8) fun d9 =>
  k5 [] [] d9 T4 n5 l4
 ) (k5 [] [] (.v undef) T4 n5 l4)) fun _ _ d10 T5 n6 l5 =>
 bnd (zpick d1 d10 (.v (.bool false))) fun d11 =>
 opG.gjn (fun k6 => zgd d11 true (
  bnd (zfieldAddr 4 (.ptr nx e1 0 0)) fun d12 =>
  k6 [] [] d12 T5 n6 l5
 ) (k6 [] [] (.v undef) T5 n6 l5)) fun _ _ d13 T6 n7 l6 =>
 opG.gjn (fun k7 => zgd d11 true (
  bnd (zload none T6 d13) fun d14 =>
  k7 (ptr? d13) [] d14 T6 n7 l6
 ) (k7 [] [] (.v undef) T6 n7 l6)) fun _ _ d15 T7 n8 l7 =>
 opG.gjn (fun k8 => zgd d11 true (
  k8 [] [] a1 T7 n8 l7
 ) (k8 [] [] (.v undef) T7 n8 l7)) fun _ _ d16 T8 n9 l8 =>
 opG.gjn (fun k9 => zgd d11 true (
  bnd (zindexAddr (.sl 13) d15 d16) fun d17 =>
  k9 [] [] d17 T8 n9 l8
 ) (k9 [] [] (.v undef) T8 n9 l8)) fun _ _ d18 T9 n10 l9 =>
 opG.gjn (fun k10 => zgd d11 true (
  bnd (zfieldAddr 0 d18) fun d19 =>
  k10 [] [] d19 T9 n10 l9
 ) (k10 [] [] (.v undef) T9 n10 l9)) fun _ _ d20 T10 n11 l10 =>
 opG.gjn (fun k11 => zgd d11 true (
  bnd (zload none T10 d20) fun d21 =>
  k11 (ptr? d20) [] d21 T10 n11 l10
 ) (k11 [] [] (.v undef) T10 n11 l10)) fun _ _ d22 T11 n12 l11 =>
 opG.gjn (fun k12 => zgd d11 true (
  bnd (zbin .i .neq d22 (.v (.int .i64 (.ofNat 0)))) fun d23 =>
  k12 [] [] d23 T11 n12 l11
 ) (k12 [] [] (.v undef) T11 n12 l11)) fun _ _ d24 T12 n13 l12 =>
 bnd (zpick d11 d24 (.v (.bool false))) fun d25 =>
 finK T nx d25 T12 n13 l12
theorem e191 (a0 a1 : D) (T : ST) (nx : Nat) : fnK Tryz.prog [] dr0 FU Tryz.f191 (.s .o (.s .o .o)) [a0, a1] T nx = s191 a0 a1 T nx := by kernel_rfl
noncomputable def F191 : Sem := ar2 s191
theorem k191 : FnOk Tryz.prog 191 F191 := ar2_ok (fnK_ok (by kernel_rfl) CallsOk.nil dr0_ok) e191
/- (reeve/state.State).caps -/
theorem h142 : HasFn Tryz.prog 142 := ⟨by kernel_rfl⟩
noncomputable def s142 (fu : Nat) (a0 : D) : ST → Nat → Option Rt := fun T nx =>
 bB (solidB a0) <| fN (Nat.succ nx) fun n1 => fN (dcells a0).length fun e1 =>
 jn (fun v1 T1 n2 l1 =>
 finK T nx (.v (.bool true)) T1 n2 l1) fun K1 =>
 bnd (zfieldAddr 3 (.ptr nx e1 0 0)) fun d1 =>
 bnd (zload none (Tr.set (some (xRow 32 (dcells a0))) T nx) d1) fun d2 =>
 bnd (zlen true d2) fun d3 =>
 lpc fu (fun go1 v2 T2 n3 l2 => unc v2 fun d4 w1 => unc w1 fun d5 w2 => unc w2 fun d6 w3 => unc w3 fun d7 w4 =>
  bnd (zbin .i .lss d7 d6) fun d8 =>
  cnd d8 (
  bnd (zindexAddr (.sl 5) d5 d7) fun d9 =>
  bnd (zload (some 5) T2 d9) fun d10 =>
  fN (Nat.succ n3) fun n4 =>
  zstore 5 (Tr.set (some (XO.mk 113 5 1 (.n [(.v (.int .i64 (.ofNat 0))), (.v (.int .i64 (.ofNat 0))), (.v (.int .i64 (.ofNat 0))), (.v (.int .i64 (.ofNat 0))), (.v (.int .i64 (.ofNat 0)))] .e .e))) T2 n3) (.ptr n3 5 0 0) d10 fun r1 T3 => fN (lowN l2 r1) fun l3 =>
  bnd (zfieldAddr 0 (.ptr n3 5 0 0)) fun d11 =>
  bnd (zload (some 4) T3 d11) fun d12 =>
  fN (Nat.succ n4) fun n5 =>
  zstore 4 (Tr.set (some (XO.mk 111 4 1 (.n [(.v (.int .i64 (.ofNat 0))), (.v (.int .i64 (.ofNat 0))), (.v (.int .i64 (.ofNat 0))), (.v (.int .i64 (.ofNat 0)))] .e .e))) T3 n4) (.ptr n4 4 0 0) d12 fun r2 T4 => fN (lowN l3 r2) fun l4 =>
  bnd (zload (some 4) T4 (.ptr n4 4 0 0)) fun d13 =>
  bndR (F166 [d13] T4 n5) fun d14 T5 n6 l5 => fN (lowN l4 l5) fun l6 =>
  bnd (zun .not d14) fun d15 =>
  cnd d15 (
 finK T nx (.v (.bool false)) T5 n6 l6
  ) (
   jn (fun v3 T6 n7 l7 => unc v3 fun d16 w5 => unc w5 fun d17 w6 => unc w6 fun d18 w7 => unc w7 fun d19 w8 => unc w8 fun d20 w9 => unc w9 fun d21 w10 =>
    cnd d21 (
 finK T nx (.v (.bool false)) T6 n7 l7
    ) (
     bnd (zload (some 4) T6 d17) fun d22 =>
     bndR (F190 [d22] T6 n7) fun d23 T7 n8 l8 => fN (lowN n7 l8) fun l9 => bB (Nat.beq l9 n7) <|
     bnd (zun .not d23) fun d24 =>
     opD.gjd (fun k1 => zgd d24 true (
      bnd (zload (some 5) T7 d16) fun d25 =>
      k1 (.op (ptr? d16) []) d25 T7 n8 l7
     ) (k1 (.op [] []) (.v undef) T7 n8 l7)) fun f1 d26 T8 n9 l10 =>
     opD.gjd (fun k2 => zgd d24 true (
      bnd (zfieldAddr 1 d17) fun d27 =>
      k2 (.op [] []) d27 T8 n9 l10
     ) (k2 (.op [] []) (.v undef) T8 n9 l10)) fun f2 d28 T9 n10 l11 =>
     opD.gjd (fun k3 => zgd d24 true (
      bnd (zload none T9 d28) fun d29 =>
      k3 (.op (ptr? d28) []) d29 T9 n10 l11
     ) (k3 (.op [] []) (.v undef) T9 n10 l11)) fun f3 d30 T10 n11 l12 =>
     opD.gjd (fun k4 => zgd d24 true (
      bndR (F191 [d26, d30] T10 n11) fun d31 T11 n12 l13 => fN (lowN n11 l13) fun l14 => bB (Nat.beq l14 n11) <|
      k4 (.call n11 n12) d31 T11 n12 l12
     ) (k4 (.op [] []) (.v undef) T10 n11 l12)) fun f4 d32 T12 n13 l15 =>
     opD.gjd (fun k5 => zgd d24 true (
      bnd (zun .not d32) fun d33 =>
      k5 (.op [] []) d33 T12 n13 l15
     ) (k5 (.op [] []) (.v undef) T12 n13 l15)) fun f5 d34 T13 n14 l16 =>
     opD.gjd (fun k6 => zgd d24 true (
      k6 (.op [] []) d34 T13 n14 l16
     ) (k6 (.op [] []) (.v undef) T13 n14 l16)) fun f6 d35 T14 n15 l17 =>
     opD.gjd (fun k7 => zgd d35 false (
      bnd (zfieldAddr 4 d16) fun d36 =>
      k7 (.op [] []) d36 T14 n15 l17
     ) (k7 (.op [] []) (.v undef) T14 n15 l17)) fun f7 d37 T15 n16 l18 =>
     opD.gjd (fun k8 => zgd d35 false (
      bnd (zload none T15 d37) fun d38 =>
      k8 (.op (ptr? d37) []) d38 T15 n16 l18
     ) (k8 (.op [] []) (.v undef) T15 n16 l18)) fun f8 d39 T16 n17 l19 =>
     opD.gjd (fun k9 => zgd d35 false (
      bnd (zfieldAddr 1 d17) fun d40 =>
      k9 (.op [] []) d40 T16 n17 l19
     ) (k9 (.op [] []) (.v undef) T16 n17 l19)) fun f9 d41 T17 n18 l20 =>
     opD.gjd (fun k10 => zgd d35 false (
      bnd (zload none T17 d41) fun d42 =>
      k10 (.op (ptr? d41) []) d42 T17 n18 l20
     ) (k10 (.op [] []) (.v undef) T17 n18 l20)) fun f10 d43 T18 n19 l21 =>
     opD.gjd (fun k11 => zgd d35 false (
      bnd (zindexAddr (.sl 13) d39 d43) fun d44 =>
      k11 (.op [] []) d44 T18 n19 l21
     ) (k11 (.op [] []) (.v undef) T18 n19 l21)) fun f11 d45 T19 n20 l22 =>
     opD.gjd (fun k12 => zgd d35 false (
      bnd (zfieldAddr 0 d45) fun d46 =>
      k12 (.op [] []) d46 T19 n20 l22
     ) (k12 (.op [] []) (.v undef) T19 n20 l22)) fun f12 d47 T20 n21 l23 =>
     opD.gjd (fun k13 => zgd d35 false (
      bnd (zload none T20 d47) fun d48 =>
      k13 (.op (ptr? d47) []) d48 T20 n21 l23
     ) (k13 (.op [] []) (.v undef) T20 n21 l23)) fun f13 d49 T21 n22 l24 =>
     opD.gjd (fun k14 => zgd d35 false (
      bnd (zfieldAddr 0 d17) fun d50 =>
      k14 (.op [] []) d50 T21 n22 l24
     ) (k14 (.op [] []) (.v undef) T21 n22 l24)) fun f14 d51 T22 n23 l25 =>
     opD.gjd (fun k15 => zgd d35 false (
      bnd (zload none T22 d51) fun d52 =>
      k15 (.op (ptr? d51) []) d52 T22 n23 l25
     ) (k15 (.op [] []) (.v undef) T22 n23 l25)) fun f15 d53 T23 n24 l26 =>
     opD.gjd (fun k16 => zgd d35 false (
      bnd (zbin .i .neq d49 d53) fun d54 =>
      k16 (.op [] []) d54 T23 n24 l26
     ) (k16 (.op [] []) (.v undef) T23 n24 l26)) fun f16 d55 T24 n25 l27 =>
     opD.gjd (fun k17 => zgd d24 true (
      bnd (zpick d35 (.v (.bool true)) d55) fun d56 =>
      k17 (.op [] []) d56 T24 n25 l27
     ) (k17 (.op [] []) (.v undef) T24 n25 l27)) fun f17 d57 T25 n26 l28 =>
     bnd (zpick d24 d57 (.v (.bool false))) fun d58 =>
     cnd d58 (
 finK T nx (.v (.bool false)) T25 n26 l28
     ) (
  bnd (zbin .i .add d20 (.v (.int .i64 (.ofNat 1)))) fun d59 =>
 go1 [d16, d18, d19, d59] T25 n26 l28
     )
    )) fun K2 =>
   bnd (zload (some 4) T5 (.ptr n4 4 0 0)) fun d60 =>
   bndR (F190 [d60] T5 n6) fun d61 T26 n27 l29 => fN (lowN l6 l29) fun l30 =>
   opG.gjn (fun k18 => zgd d61 true (
    bnd (zfieldAddr 4 (.ptr n3 5 0 0)) fun d62 =>
    k18 [] [] d62 T26 n27 l30
   ) (k18 [] [] (.v undef) T26 n27 l30)) fun _ _ d63 T27 n28 l31 =>
   opG.gjn (fun k19 => zgd d61 true (
    bnd (zload none T27 d63) fun d64 =>
    k19 (ptr? d63) [] d64 T27 n28 l31
   ) (k19 [] [] (.v undef) T27 n28 l31)) fun _ _ d65 T28 n29 l32 =>
   opG.gjn (fun k20 => zgd d61 true (
    bnd (zbin .i .neq d65 (.v (.int .i64 (.negSucc 0)))) fun d66 =>
    k20 [] [] d66 T28 n29 l32
   ) (k20 [] [] (.v undef) T28 n29 l32)) fun _ _ d67 T29 n30 l33 =>
   bnd (zpick d61 d67 (.v (.bool false))) fun d68 =>
   cnd d68 (
   K2 [d4, (.ptr n4 4 0 0), d5, d6, d7, d68] T29 n30 l33
   ) (
    bnd (zload (some 4) T29 (.ptr n4 4 0 0)) fun d69 =>
    bndR (F190 [d69] T29 n30) fun d70 T30 n31 l34 => fN (lowN l33 l34) fun l35 =>
    bnd (zun .not d70) fun d71 =>
    opG.gjn (fun k21 => zgd d71 true (
     bnd (zfieldAddr 4 (.ptr n3 5 0 0)) fun d72 =>
     k21 [] [] d72 T30 n31 l35
    ) (k21 [] [] (.v undef) T30 n31 l35)) fun _ _ d73 T31 n32 l36 =>
    opG.gjn (fun k22 => zgd d71 true (
     bnd (zload none T31 d73) fun d74 =>
     k22 (ptr? d73) [] d74 T31 n32 l36
    ) (k22 [] [] (.v undef) T31 n32 l36)) fun _ _ d75 T32 n33 l37 =>
    opG.gjn (fun k23 => zgd d71 true (
     bnd (zbin .i .lss d75 (.v (.int .i64 (.negSucc 0)))) fun d76 =>
     k23 [] [] d76 T32 n33 l37
    ) (k23 [] [] (.v undef) T32 n33 l37)) fun _ _ d77 T33 n34 l38 =>
    bnd (zpick d71 d77 (.v (.bool false))) fun d78 =>
   K2 [d4, (.ptr n4 4 0 0), d5, d6, d7, d78] T33 n34 l38
   )
  )
  ) (
 K1 [] T2 n3 l2
  )) [(.ptr nx e1 0 0), d2, d3, (.v (.int .i64 (.ofNat 0)))] (Tr.set (some (xRow 32 (dcells a0))) T nx) n1 nx
theorem e142 (fu : Nat) (a0 : D) (T : ST) (nx : Nat) : fnK Tryz.prog [(166, F166), (190, F190), (191, F191)] (drD Tryz.prog [(166, F166), (190, F190), (191, F191)]) fu Tryz.f142 (.s .o (.j [] (.s .o (.b (.l [1, 7, 8, 9] (.s .o (.s (.c .o .o) (.s (.b (.s .o (.s .o (.b (.s .o (.c (.s .o .o) (.j [1, 5, 7, 8, 9, 19] (.s .o (.c .o .o)) (.c (.s .o .o) (.s .o (.c (.s .o .o) .o)))))))))) .o)))))) (.s .o .o))) [a0] T nx = s142 fu a0 T nx := by kernel_rfl
noncomputable def F142 : Sem := ar1 (s142 FU)
theorem k142 : FnOk Tryz.prog 142 F142 := ar1_ok (fnK_ok (by kernel_rfl) (CallsOk.cons h166 k166 (CallsOk.cons h190 k190 (CallsOk.cons h191 k191 CallsOk.nil))) (drD_ok hmix (CallsOk.cons h166 k166 (CallsOk.cons h190 k190 (CallsOk.cons h191 k191 CallsOk.nil))))) (e142 FU)
/- reeve/geo.Root -/
theorem h59 : HasFn Tryz.prog 59 := ⟨by kernel_rfl⟩
noncomputable def s59 (a0 a1 : D) : ST → Nat → Option Rt := fun T nx =>
 bB (solidB a0) <| fN (Nat.succ nx) fun n1 => fN (dcells a0).length fun e1 =>
 bnd (zload (some 3) (Tr.set (some (xRow 28 (dcells a0))) T nx) (.ptr nx e1 0 0)) fun d1 =>
 bndR (F58 [d1] (Tr.set (some (xRow 28 (dcells a0))) T nx) n1) fun d2 T1 n2 l1 => fN (lowN nx l1) fun l2 =>
 bnd (zun .not d2) fun d3 =>
 opG.gjn (fun k1 => zgd d3 false (
  k1 [] [] a1 T1 n2 l2
 ) (k1 [] [] (.v undef) T1 n2 l2)) fun _ _ d4 T2 n3 l3 =>
 opG.gjn (fun k2 => zgd d3 false (
  bnd (zfieldAddr 0 (.ptr nx e1 0 0)) fun d5 =>
  k2 [] [] d5 T2 n3 l3
 ) (k2 [] [] (.v undef) T2 n3 l3)) fun _ _ d6 T3 n4 l4 =>
 opG.gjn (fun k3 => zgd d3 false (
  bnd (zload none T3 d6) fun d7 =>
  k3 (ptr? d6) [] d7 T3 n4 l4
 ) (k3 [] [] (.v undef) T3 n4 l4)) fun _ _ d8 T4 n5 l5 =>
 opG.gjn (fun k4 => zgd d3 false (
  bnd (zbin .i .sub d8 (.v (.int .i64 (.ofNat 1)))) fun d9 =>
  k4 [] [] d9 T4 n5 l5
 ) (k4 [] [] (.v undef) T4 n5 l5)) fun _ _ d10 T5 n6 l6 =>
 opG.gjn (fun k5 => zgd d3 false (
  bndR (F60 [d4, (.v (.int .i64 (.ofNat 0))), d10] T5 n6) fun d11 T6 n7 l7 => fN (lowN l6 l7) fun l8 =>
  k5 [] [] d11 T6 n7 l8
 ) (k5 [] [] (.v undef) T5 n6 l6)) fun _ _ d12 T7 n8 l9 =>
 opG.gjn (fun k6 => zgd d3 false (
  bnd (zun .not d12) fun d13 =>
  k6 [] [] d13 T7 n8 l9
 ) (k6 [] [] (.v undef) T7 n8 l9)) fun _ _ d14 T8 n9 l10 =>
 bnd (zpick d3 (.v (.bool true)) d14) fun d15 =>
 cnd d15 (
 finK T nx (.v (.int .i64 (.ofNat 0))) T8 n9 l10
 ) (
 bnd (zbin .i .mul (.v (.int .i64 (.ofNat 8))) a1) fun d16 =>
 finK T nx d16 T8 n9 l10
 )
theorem e59 (a0 a1 : D) (T : ST) (nx : Nat) : fnK Tryz.prog [(58, F58), (60, F60)] dr0 FU Tryz.f59 (.s .o (.s (.s .o (.c (.s .o .o) .o)) (.s .o .o))) [a0, a1] T nx = s59 a0 a1 T nx := by kernel_rfl
noncomputable def F59 : Sem := ar2 s59
theorem k59 : FnOk Tryz.prog 59 F59 := ar2_ok (fnK_ok (by kernel_rfl) (CallsOk.cons h58 k58 (CallsOk.cons h60 k60 CallsOk.nil)) dr0_ok) e59
/- reeve/thing.own -/
theorem h170 : HasFn Tryz.prog 170 := ⟨by kernel_rfl⟩
noncomputable def s170 (a0 : D) : ST → Nat → Option Rt := fun T nx =>
 bB (solidB a0) <| fN (Nat.succ nx) fun n1 => fN (dcells a0).length fun e1 =>
 fN (Nat.succ n1) fun n2 =>
 bnd (zfieldAddr 0 (.ptr nx e1 0 0)) fun d1 =>
 bnd (zload none (Tr.set (some (XO.mk 51 13 1 (.n [(.v (.int .i64 (.ofNat 0))), (.v (.int .i64 (.ofNat 0))), (.v (.int .i64 (.ofNat 0))), (.v (.int .i64 (.ofNat 0))), (.v (.int .i64 (.ofNat 0))), (.v (.int .i64 (.ofNat 0))), (.v (.int .i64 (.ofNat 0))), (.v (.bool false)), (.v (.int .u64 (.ofNat 0))), (.v (.int .u64 (.ofNat 0))), (.v (.int .u64 (.ofNat 0))), (.v (.int .u64 (.ofNat 0))), (.v (.int .u64 (.ofNat 0)))] .e .e))) (Tr.set (some (xRow 51 (dcells a0))) T nx) n1) d1) fun d2 =>
 bnd (zbin .i .eql d2 (.v (.int .i64 (.ofNat 1)))) fun d3 =>
 cnd d3 (
  bnd (zfieldAddr 0 (.ptr nx e1 0 0)) fun d4 =>
  bnd (zload none (Tr.set (some (XO.mk 51 13 1 (.n [(.v (.int .i64 (.ofNat 0))), (.v (.int .i64 (.ofNat 0))), (.v (.int .i64 (.ofNat 0))), (.v (.int .i64 (.ofNat 0))), (.v (.int .i64 (.ofNat 0))), (.v (.int .i64 (.ofNat 0))), (.v (.int .i64 (.ofNat 0))), (.v (.bool false)), (.v (.int .u64 (.ofNat 0))), (.v (.int .u64 (.ofNat 0))), (.v (.int .u64 (.ofNat 0))), (.v (.int .u64 (.ofNat 0))), (.v (.int .u64 (.ofNat 0)))] .e .e))) (Tr.set (some (xRow 51 (dcells a0))) T nx) n1) d4) fun d5 =>
  bnd (zfieldAddr 3 (.ptr nx e1 0 0)) fun d6 =>
  bnd (zload none (Tr.set (some (XO.mk 51 13 1 (.n [(.v (.int .i64 (.ofNat 0))), (.v (.int .i64 (.ofNat 0))), (.v (.int .i64 (.ofNat 0))), (.v (.int .i64 (.ofNat 0))), (.v (.int .i64 (.ofNat 0))), (.v (.int .i64 (.ofNat 0))), (.v (.int .i64 (.ofNat 0))), (.v (.bool false)), (.v (.int .u64 (.ofNat 0))), (.v (.int .u64 (.ofNat 0))), (.v (.int .u64 (.ofNat 0))), (.v (.int .u64 (.ofNat 0))), (.v (.int .u64 (.ofNat 0)))] .e .e))) (Tr.set (some (xRow 51 (dcells a0))) T nx) n1) d6) fun d7 =>
  bnd (zfieldAddr 4 (.ptr nx e1 0 0)) fun d8 =>
  bnd (zload none (Tr.set (some (XO.mk 51 13 1 (.n [(.v (.int .i64 (.ofNat 0))), (.v (.int .i64 (.ofNat 0))), (.v (.int .i64 (.ofNat 0))), (.v (.int .i64 (.ofNat 0))), (.v (.int .i64 (.ofNat 0))), (.v (.int .i64 (.ofNat 0))), (.v (.int .i64 (.ofNat 0))), (.v (.bool false)), (.v (.int .u64 (.ofNat 0))), (.v (.int .u64 (.ofNat 0))), (.v (.int .u64 (.ofNat 0))), (.v (.int .u64 (.ofNat 0))), (.v (.int .u64 (.ofNat 0)))] .e .e))) (Tr.set (some (xRow 51 (dcells a0))) T nx) n1) d8) fun d9 =>
  bnd (zbuild [(.int .i64 (.ofNat 0)), (.int .i64 (.ofNat 0)), (.int .i64 (.ofNat 0)), (.int .i64 (.ofNat 0)), (.int .i64 (.ofNat 0)), (.int .i64 (.ofNat 0)), (.int .i64 (.ofNat 0)), (.bool false), (.int .u64 (.ofNat 0)), (.int .u64 (.ofNat 0)), (.int .u64 (.ofNat 0)), (.int .u64 (.ofNat 0)), (.int .u64 (.ofNat 0))] [(0, 1), (1, 1), (2, 1), (3, 1), (4, 1), (5, 1), (6, 1), (7, 1), (8, 1), (9, 4)] [0, 3, 4] [d5, d7, d9]) fun d10 =>
  zstore 13 (Tr.set (some (XO.mk 51 13 1 (.n [(.v (.int .i64 (.ofNat 0))), (.v (.int .i64 (.ofNat 0))), (.v (.int .i64 (.ofNat 0))), (.v (.int .i64 (.ofNat 0))), (.v (.int .i64 (.ofNat 0))), (.v (.int .i64 (.ofNat 0))), (.v (.int .i64 (.ofNat 0))), (.v (.bool false)), (.v (.int .u64 (.ofNat 0))), (.v (.int .u64 (.ofNat 0))), (.v (.int .u64 (.ofNat 0))), (.v (.int .u64 (.ofNat 0))), (.v (.int .u64 (.ofNat 0)))] .e .e))) (Tr.set (some (xRow 51 (dcells a0))) T nx) n1) (.ptr n1 13 0 0) d10 fun r1 T1 => fN (lowN nx r1) fun l1 =>
 bnd (zres (some 13) T1 (.ptr n1 13 0 0)) fun d11 =>
 finK T nx d11 T1 n2 l1
 ) (
  bnd (zbin .i .eql d2 (.v (.int .i64 (.ofNat 2)))) fun d12 =>
  cnd d12 (
   bnd (zfieldAddr 0 (.ptr nx e1 0 0)) fun d13 =>
   bnd (zload none (Tr.set (some (XO.mk 51 13 1 (.n [(.v (.int .i64 (.ofNat 0))), (.v (.int .i64 (.ofNat 0))), (.v (.int .i64 (.ofNat 0))), (.v (.int .i64 (.ofNat 0))), (.v (.int .i64 (.ofNat 0))), (.v (.int .i64 (.ofNat 0))), (.v (.int .i64 (.ofNat 0))), (.v (.bool false)), (.v (.int .u64 (.ofNat 0))), (.v (.int .u64 (.ofNat 0))), (.v (.int .u64 (.ofNat 0))), (.v (.int .u64 (.ofNat 0))), (.v (.int .u64 (.ofNat 0)))] .e .e))) (Tr.set (some (xRow 51 (dcells a0))) T nx) n1) d13) fun d14 =>
   bnd (zfieldAddr 1 (.ptr nx e1 0 0)) fun d15 =>
   bnd (zload none (Tr.set (some (XO.mk 51 13 1 (.n [(.v (.int .i64 (.ofNat 0))), (.v (.int .i64 (.ofNat 0))), (.v (.int .i64 (.ofNat 0))), (.v (.int .i64 (.ofNat 0))), (.v (.int .i64 (.ofNat 0))), (.v (.int .i64 (.ofNat 0))), (.v (.int .i64 (.ofNat 0))), (.v (.bool false)), (.v (.int .u64 (.ofNat 0))), (.v (.int .u64 (.ofNat 0))), (.v (.int .u64 (.ofNat 0))), (.v (.int .u64 (.ofNat 0))), (.v (.int .u64 (.ofNat 0)))] .e .e))) (Tr.set (some (xRow 51 (dcells a0))) T nx) n1) d15) fun d16 =>
   bnd (zfieldAddr 2 (.ptr nx e1 0 0)) fun d17 =>
   bnd (zload none (Tr.set (some (XO.mk 51 13 1 (.n [(.v (.int .i64 (.ofNat 0))), (.v (.int .i64 (.ofNat 0))), (.v (.int .i64 (.ofNat 0))), (.v (.int .i64 (.ofNat 0))), (.v (.int .i64 (.ofNat 0))), (.v (.int .i64 (.ofNat 0))), (.v (.int .i64 (.ofNat 0))), (.v (.bool false)), (.v (.int .u64 (.ofNat 0))), (.v (.int .u64 (.ofNat 0))), (.v (.int .u64 (.ofNat 0))), (.v (.int .u64 (.ofNat 0))), (.v (.int .u64 (.ofNat 0)))] .e .e))) (Tr.set (some (xRow 51 (dcells a0))) T nx) n1) d17) fun d18 =>
   bnd (zbuild [(.int .i64 (.ofNat 0)), (.int .i64 (.ofNat 0)), (.int .i64 (.ofNat 0)), (.int .i64 (.ofNat 0)), (.int .i64 (.ofNat 0)), (.int .i64 (.ofNat 0)), (.int .i64 (.ofNat 0)), (.bool false), (.int .u64 (.ofNat 0)), (.int .u64 (.ofNat 0)), (.int .u64 (.ofNat 0)), (.int .u64 (.ofNat 0)), (.int .u64 (.ofNat 0))] [(0, 1), (1, 1), (2, 1), (3, 1), (4, 1), (5, 1), (6, 1), (7, 1), (8, 1), (9, 4)] [0, 1, 2] [d14, d16, d18]) fun d19 =>
   zstore 13 (Tr.set (some (XO.mk 51 13 1 (.n [(.v (.int .i64 (.ofNat 0))), (.v (.int .i64 (.ofNat 0))), (.v (.int .i64 (.ofNat 0))), (.v (.int .i64 (.ofNat 0))), (.v (.int .i64 (.ofNat 0))), (.v (.int .i64 (.ofNat 0))), (.v (.int .i64 (.ofNat 0))), (.v (.bool false)), (.v (.int .u64 (.ofNat 0))), (.v (.int .u64 (.ofNat 0))), (.v (.int .u64 (.ofNat 0))), (.v (.int .u64 (.ofNat 0))), (.v (.int .u64 (.ofNat 0)))] .e .e))) (Tr.set (some (xRow 51 (dcells a0))) T nx) n1) (.ptr n1 13 0 0) d19 fun r2 T2 => fN (lowN nx r2) fun l2 =>
 bnd (zres (some 13) T2 (.ptr n1 13 0 0)) fun d20 =>
 finK T nx d20 T2 n2 l2
  ) (
   bnd (zbin .i .eql d2 (.v (.int .i64 (.ofNat 3)))) fun d21 =>
   cnd d21 (
    bnd (zfieldAddr 7 (.ptr nx e1 0 0)) fun d22 =>
    bnd (zload none (Tr.set (some (XO.mk 51 13 1 (.n [(.v (.int .i64 (.ofNat 0))), (.v (.int .i64 (.ofNat 0))), (.v (.int .i64 (.ofNat 0))), (.v (.int .i64 (.ofNat 0))), (.v (.int .i64 (.ofNat 0))), (.v (.int .i64 (.ofNat 0))), (.v (.int .i64 (.ofNat 0))), (.v (.bool false)), (.v (.int .u64 (.ofNat 0))), (.v (.int .u64 (.ofNat 0))), (.v (.int .u64 (.ofNat 0))), (.v (.int .u64 (.ofNat 0))), (.v (.int .u64 (.ofNat 0)))] .e .e))) (Tr.set (some (xRow 51 (dcells a0))) T nx) n1) d22) fun d23 =>
    bnd (zun .not d23) fun d24 =>
    cnd d24 (
     bnd (zfieldAddr 0 (.ptr nx e1 0 0)) fun d25 =>
     bnd (zload none (Tr.set (some (XO.mk 51 13 1 (.n [(.v (.int .i64 (.ofNat 0))), (.v (.int .i64 (.ofNat 0))), (.v (.int .i64 (.ofNat 0))), (.v (.int .i64 (.ofNat 0))), (.v (.int .i64 (.ofNat 0))), (.v (.int .i64 (.ofNat 0))), (.v (.int .i64 (.ofNat 0))), (.v (.bool false)), (.v (.int .u64 (.ofNat 0))), (.v (.int .u64 (.ofNat 0))), (.v (.int .u64 (.ofNat 0))), (.v (.int .u64 (.ofNat 0))), (.v (.int .u64 (.ofNat 0)))] .e .e))) (Tr.set (some (xRow 51 (dcells a0))) T nx) n1) d25) fun d26 =>
     bnd (zbuild [(.int .i64 (.ofNat 0)), (.int .i64 (.ofNat 0)), (.int .i64 (.ofNat 0)), (.int .i64 (.ofNat 0)), (.int .i64 (.ofNat 0)), (.int .i64 (.ofNat 0)), (.int .i64 (.ofNat 0)), (.bool false), (.int .u64 (.ofNat 0)), (.int .u64 (.ofNat 0)), (.int .u64 (.ofNat 0)), (.int .u64 (.ofNat 0)), (.int .u64 (.ofNat 0))] [(0, 1), (1, 1), (2, 1), (3, 1), (4, 1), (5, 1), (6, 1), (7, 1), (8, 1), (9, 4)] [0] [d26]) fun d27 =>
     zstore 13 (Tr.set (some (XO.mk 51 13 1 (.n [(.v (.int .i64 (.ofNat 0))), (.v (.int .i64 (.ofNat 0))), (.v (.int .i64 (.ofNat 0))), (.v (.int .i64 (.ofNat 0))), (.v (.int .i64 (.ofNat 0))), (.v (.int .i64 (.ofNat 0))), (.v (.int .i64 (.ofNat 0))), (.v (.bool false)), (.v (.int .u64 (.ofNat 0))), (.v (.int .u64 (.ofNat 0))), (.v (.int .u64 (.ofNat 0))), (.v (.int .u64 (.ofNat 0))), (.v (.int .u64 (.ofNat 0)))] .e .e))) (Tr.set (some (xRow 51 (dcells a0))) T nx) n1) (.ptr n1 13 0 0) d27 fun r3 T3 => fN (lowN nx r3) fun l3 =>
 bnd (zres (some 13) T3 (.ptr n1 13 0 0)) fun d28 =>
 finK T nx d28 T3 n2 l3
    ) (
    bnd (zfieldAddr 0 (.ptr nx e1 0 0)) fun d29 =>
    bnd (zload none (Tr.set (some (XO.mk 51 13 1 (.n [(.v (.int .i64 (.ofNat 0))), (.v (.int .i64 (.ofNat 0))), (.v (.int .i64 (.ofNat 0))), (.v (.int .i64 (.ofNat 0))), (.v (.int .i64 (.ofNat 0))), (.v (.int .i64 (.ofNat 0))), (.v (.int .i64 (.ofNat 0))), (.v (.bool false)), (.v (.int .u64 (.ofNat 0))), (.v (.int .u64 (.ofNat 0))), (.v (.int .u64 (.ofNat 0))), (.v (.int .u64 (.ofNat 0))), (.v (.int .u64 (.ofNat 0)))] .e .e))) (Tr.set (some (xRow 51 (dcells a0))) T nx) n1) d29) fun d30 =>
    bnd (zfieldAddr 8 (.ptr nx e1 0 0)) fun d31 =>
    bnd (zload none (Tr.set (some (XO.mk 51 13 1 (.n [(.v (.int .i64 (.ofNat 0))), (.v (.int .i64 (.ofNat 0))), (.v (.int .i64 (.ofNat 0))), (.v (.int .i64 (.ofNat 0))), (.v (.int .i64 (.ofNat 0))), (.v (.int .i64 (.ofNat 0))), (.v (.int .i64 (.ofNat 0))), (.v (.bool false)), (.v (.int .u64 (.ofNat 0))), (.v (.int .u64 (.ofNat 0))), (.v (.int .u64 (.ofNat 0))), (.v (.int .u64 (.ofNat 0))), (.v (.int .u64 (.ofNat 0)))] .e .e))) (Tr.set (some (xRow 51 (dcells a0))) T nx) n1) d31) fun d32 =>
    bnd (zfieldAddr 6 (.ptr nx e1 0 0)) fun d33 =>
    bnd (zload none (Tr.set (some (XO.mk 51 13 1 (.n [(.v (.int .i64 (.ofNat 0))), (.v (.int .i64 (.ofNat 0))), (.v (.int .i64 (.ofNat 0))), (.v (.int .i64 (.ofNat 0))), (.v (.int .i64 (.ofNat 0))), (.v (.int .i64 (.ofNat 0))), (.v (.int .i64 (.ofNat 0))), (.v (.bool false)), (.v (.int .u64 (.ofNat 0))), (.v (.int .u64 (.ofNat 0))), (.v (.int .u64 (.ofNat 0))), (.v (.int .u64 (.ofNat 0))), (.v (.int .u64 (.ofNat 0)))] .e .e))) (Tr.set (some (xRow 51 (dcells a0))) T nx) n1) d33) fun d34 =>
    bnd (zfieldAddr 5 (.ptr nx e1 0 0)) fun d35 =>
    bnd (zload none (Tr.set (some (XO.mk 51 13 1 (.n [(.v (.int .i64 (.ofNat 0))), (.v (.int .i64 (.ofNat 0))), (.v (.int .i64 (.ofNat 0))), (.v (.int .i64 (.ofNat 0))), (.v (.int .i64 (.ofNat 0))), (.v (.int .i64 (.ofNat 0))), (.v (.int .i64 (.ofNat 0))), (.v (.bool false)), (.v (.int .u64 (.ofNat 0))), (.v (.int .u64 (.ofNat 0))), (.v (.int .u64 (.ofNat 0))), (.v (.int .u64 (.ofNat 0))), (.v (.int .u64 (.ofNat 0)))] .e .e))) (Tr.set (some (xRow 51 (dcells a0))) T nx) n1) d35) fun d36 =>
    bnd (zbuild [(.int .i64 (.ofNat 0)), (.int .i64 (.ofNat 0)), (.int .i64 (.ofNat 0)), (.int .i64 (.ofNat 0)), (.int .i64 (.ofNat 0)), (.int .i64 (.ofNat 0)), (.int .i64 (.ofNat 0)), (.bool false), (.int .u64 (.ofNat 0)), (.int .u64 (.ofNat 0)), (.int .u64 (.ofNat 0)), (.int .u64 (.ofNat 0)), (.int .u64 (.ofNat 0))] [(0, 1), (1, 1), (2, 1), (3, 1), (4, 1), (5, 1), (6, 1), (7, 1), (8, 1), (9, 4)] [0, 7, 8, 6, 5] [d30, (.v (.bool true)), d32, d34, d36]) fun d37 =>
    zstore 13 (Tr.set (some (XO.mk 51 13 1 (.n [(.v (.int .i64 (.ofNat 0))), (.v (.int .i64 (.ofNat 0))), (.v (.int .i64 (.ofNat 0))), (.v (.int .i64 (.ofNat 0))), (.v (.int .i64 (.ofNat 0))), (.v (.int .i64 (.ofNat 0))), (.v (.int .i64 (.ofNat 0))), (.v (.bool false)), (.v (.int .u64 (.ofNat 0))), (.v (.int .u64 (.ofNat 0))), (.v (.int .u64 (.ofNat 0))), (.v (.int .u64 (.ofNat 0))), (.v (.int .u64 (.ofNat 0)))] .e .e))) (Tr.set (some (xRow 51 (dcells a0))) T nx) n1) (.ptr n1 13 0 0) d37 fun r4 T4 => fN (lowN nx r4) fun l4 =>
 bnd (zres (some 13) T4 (.ptr n1 13 0 0)) fun d38 =>
 finK T nx d38 T4 n2 l4
    )
   ) (
    bnd (zbin .i .eql d2 (.v (.int .i64 (.ofNat 4)))) fun d39 =>
    cnd d39 (
     bnd (zfieldAddr 0 (.ptr nx e1 0 0)) fun d40 =>
     bnd (zload none (Tr.set (some (XO.mk 51 13 1 (.n [(.v (.int .i64 (.ofNat 0))), (.v (.int .i64 (.ofNat 0))), (.v (.int .i64 (.ofNat 0))), (.v (.int .i64 (.ofNat 0))), (.v (.int .i64 (.ofNat 0))), (.v (.int .i64 (.ofNat 0))), (.v (.int .i64 (.ofNat 0))), (.v (.bool false)), (.v (.int .u64 (.ofNat 0))), (.v (.int .u64 (.ofNat 0))), (.v (.int .u64 (.ofNat 0))), (.v (.int .u64 (.ofNat 0))), (.v (.int .u64 (.ofNat 0)))] .e .e))) (Tr.set (some (xRow 51 (dcells a0))) T nx) n1) d40) fun d41 =>
     bnd (zfieldAddr 8 (.ptr nx e1 0 0)) fun d42 =>
     bnd (zload none (Tr.set (some (XO.mk 51 13 1 (.n [(.v (.int .i64 (.ofNat 0))), (.v (.int .i64 (.ofNat 0))), (.v (.int .i64 (.ofNat 0))), (.v (.int .i64 (.ofNat 0))), (.v (.int .i64 (.ofNat 0))), (.v (.int .i64 (.ofNat 0))), (.v (.int .i64 (.ofNat 0))), (.v (.bool false)), (.v (.int .u64 (.ofNat 0))), (.v (.int .u64 (.ofNat 0))), (.v (.int .u64 (.ofNat 0))), (.v (.int .u64 (.ofNat 0))), (.v (.int .u64 (.ofNat 0)))] .e .e))) (Tr.set (some (xRow 51 (dcells a0))) T nx) n1) d42) fun d43 =>
     bnd (zbuild [(.int .i64 (.ofNat 0)), (.int .i64 (.ofNat 0)), (.int .i64 (.ofNat 0)), (.int .i64 (.ofNat 0)), (.int .i64 (.ofNat 0)), (.int .i64 (.ofNat 0)), (.int .i64 (.ofNat 0)), (.bool false), (.int .u64 (.ofNat 0)), (.int .u64 (.ofNat 0)), (.int .u64 (.ofNat 0)), (.int .u64 (.ofNat 0)), (.int .u64 (.ofNat 0))] [(0, 1), (1, 1), (2, 1), (3, 1), (4, 1), (5, 1), (6, 1), (7, 1), (8, 1), (9, 4)] [0, 8] [d41, d43]) fun d44 =>
     zstore 13 (Tr.set (some (XO.mk 51 13 1 (.n [(.v (.int .i64 (.ofNat 0))), (.v (.int .i64 (.ofNat 0))), (.v (.int .i64 (.ofNat 0))), (.v (.int .i64 (.ofNat 0))), (.v (.int .i64 (.ofNat 0))), (.v (.int .i64 (.ofNat 0))), (.v (.int .i64 (.ofNat 0))), (.v (.bool false)), (.v (.int .u64 (.ofNat 0))), (.v (.int .u64 (.ofNat 0))), (.v (.int .u64 (.ofNat 0))), (.v (.int .u64 (.ofNat 0))), (.v (.int .u64 (.ofNat 0)))] .e .e))) (Tr.set (some (xRow 51 (dcells a0))) T nx) n1) (.ptr n1 13 0 0) d44 fun r5 T5 => fN (lowN nx r5) fun l5 =>
 bnd (zres (some 13) T5 (.ptr n1 13 0 0)) fun d45 =>
 finK T nx d45 T5 n2 l5
    ) (
     bnd (zbin .i .eql d2 (.v (.int .i64 (.ofNat 5)))) fun d46 =>
     cnd d46 (
      bnd (zfieldAddr 0 (.ptr nx e1 0 0)) fun d47 =>
      bnd (zload none (Tr.set (some (XO.mk 51 13 1 (.n [(.v (.int .i64 (.ofNat 0))), (.v (.int .i64 (.ofNat 0))), (.v (.int .i64 (.ofNat 0))), (.v (.int .i64 (.ofNat 0))), (.v (.int .i64 (.ofNat 0))), (.v (.int .i64 (.ofNat 0))), (.v (.int .i64 (.ofNat 0))), (.v (.bool false)), (.v (.int .u64 (.ofNat 0))), (.v (.int .u64 (.ofNat 0))), (.v (.int .u64 (.ofNat 0))), (.v (.int .u64 (.ofNat 0))), (.v (.int .u64 (.ofNat 0)))] .e .e))) (Tr.set (some (xRow 51 (dcells a0))) T nx) n1) d47) fun d48 =>
      bnd (zfieldAddr 9 (.ptr nx e1 0 0)) fun d49 =>
      bnd (zload (some 4) (Tr.set (some (XO.mk 51 13 1 (.n [(.v (.int .i64 (.ofNat 0))), (.v (.int .i64 (.ofNat 0))), (.v (.int .i64 (.ofNat 0))), (.v (.int .i64 (.ofNat 0))), (.v (.int .i64 (.ofNat 0))), (.v (.int .i64 (.ofNat 0))), (.v (.int .i64 (.ofNat 0))), (.v (.bool false)), (.v (.int .u64 (.ofNat 0))), (.v (.int .u64 (.ofNat 0))), (.v (.int .u64 (.ofNat 0))), (.v (.int .u64 (.ofNat 0))), (.v (.int .u64 (.ofNat 0)))] .e .e))) (Tr.set (some (xRow 51 (dcells a0))) T nx) n1) d49) fun d50 =>
      bnd (zbuild [(.int .i64 (.ofNat 0)), (.int .i64 (.ofNat 0)), (.int .i64 (.ofNat 0)), (.int .i64 (.ofNat 0)), (.int .i64 (.ofNat 0)), (.int .i64 (.ofNat 0)), (.int .i64 (.ofNat 0)), (.bool false), (.int .u64 (.ofNat 0)), (.int .u64 (.ofNat 0)), (.int .u64 (.ofNat 0)), (.int .u64 (.ofNat 0)), (.int .u64 (.ofNat 0))] [(0, 1), (1, 1), (2, 1), (3, 1), (4, 1), (5, 1), (6, 1), (7, 1), (8, 1), (9, 4)] [0, 9] [d48, d50]) fun d51 =>
      zstore 13 (Tr.set (some (XO.mk 51 13 1 (.n [(.v (.int .i64 (.ofNat 0))), (.v (.int .i64 (.ofNat 0))), (.v (.int .i64 (.ofNat 0))), (.v (.int .i64 (.ofNat 0))), (.v (.int .i64 (.ofNat 0))), (.v (.int .i64 (.ofNat 0))), (.v (.int .i64 (.ofNat 0))), (.v (.bool false)), (.v (.int .u64 (.ofNat 0))), (.v (.int .u64 (.ofNat 0))), (.v (.int .u64 (.ofNat 0))), (.v (.int .u64 (.ofNat 0))), (.v (.int .u64 (.ofNat 0)))] .e .e))) (Tr.set (some (xRow 51 (dcells a0))) T nx) n1) (.ptr n1 13 0 0) d51 fun r6 T6 => fN (lowN nx r6) fun l6 =>
 bnd (zres (some 13) T6 (.ptr n1 13 0 0)) fun d52 =>
 finK T nx d52 T6 n2 l6
     ) (
 bnd (zbuild [(.int .i64 (.ofNat 0)), (.int .i64 (.ofNat 0)), (.int .i64 (.ofNat 0)), (.int .i64 (.ofNat 0)), (.int .i64 (.ofNat 0)), (.int .i64 (.ofNat 0)), (.int .i64 (.ofNat 0)), (.bool false), (.int .u64 (.ofNat 0)), (.int .u64 (.ofNat 0)), (.int .u64 (.ofNat 0)), (.int .u64 (.ofNat 0)), (.int .u64 (.ofNat 0))] [(0, 1), (1, 1), (2, 1), (3, 1), (4, 1), (5, 1), (6, 1), (7, 1), (8, 1), (9, 4)] [] []) fun d53 =>
 zstore 13 (Tr.set (some (XO.mk 51 13 1 (.n [(.v (.int .i64 (.ofNat 0))), (.v (.int .i64 (.ofNat 0))), (.v (.int .i64 (.ofNat 0))), (.v (.int .i64 (.ofNat 0))), (.v (.int .i64 (.ofNat 0))), (.v (.int .i64 (.ofNat 0))), (.v (.int .i64 (.ofNat 0))), (.v (.bool false)), (.v (.int .u64 (.ofNat 0))), (.v (.int .u64 (.ofNat 0))), (.v (.int .u64 (.ofNat 0))), (.v (.int .u64 (.ofNat 0))), (.v (.int .u64 (.ofNat 0)))] .e .e))) (Tr.set (some (xRow 51 (dcells a0))) T nx) n1) (.ptr n1 13 0 0) d53 fun r7 T7 => fN (lowN nx r7) fun l7 =>
 bnd (zres (some 13) T7 (.ptr n1 13 0 0)) fun d54 =>
 finK T nx d54 T7 n2 l7
     )
    )
   )
  )
 )
theorem e170 (a0 : D) (T : ST) (nx : Nat) : fnK Tryz.prog [] dr0 FU Tryz.f170 (.s .o (.s (.s .o (.b (.s .o (.c (.s .o .o) (.s .o (.c (.s .o .o) (.s .o (.c (.s (.s .o (.c (.s .o .o) .o)) (.s .o .o)) (.s .o (.c (.s .o .o) (.s .o (.c (.s .o .o) .o)))))))))))) (.s .o .o))) [a0] T nx = s170 a0 T nx := by kernel_rfl
noncomputable def F170 : Sem := ar1 s170
theorem k170 : FnOk Tryz.prog 170 F170 := ar1_ok (fnK_ok (by kernel_rfl) CallsOk.nil dr0_ok) e170
end Go.Abs
