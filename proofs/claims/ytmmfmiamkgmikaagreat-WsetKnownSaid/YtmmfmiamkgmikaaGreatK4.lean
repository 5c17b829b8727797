/- Functions of the program as what they run as, printed by a program of this session. -/
import Derived.Test.YtmmfmiamkgmikaaGreatK3
set_option linter.unusedVariables false
set_option maxRecDepth 100000
open Go Go.Proofs
namespace Go.Abs
/- reeve/gauss.in -/
theorem h259 : HasFn Tryz.prog 259 := ⟨by kernel_rfl⟩
noncomputable def s259 (a0 : D) : ST → Nat → Option Rt := fun T nx =>
 bnd (zbin .i .geq a0 (.v (.int .i64 (.negSucc 1099511627775)))) fun d1 =>
 opG.gjn (fun k1 => zgd d1 true (
  k1 [] [] a0 T nx nx
 ) (k1 [] [] (.v undef) T nx nx)) fun _ _ d2 T1 n1 l1 =>
 opG.gjn (fun k2 => zgd d1 true (
  bnd (zbin .i .leq d2 (.v (.int .i64 (.ofNat 1099511627776)))) fun d3 =>
  k2 [] [] d3 T1 n1 l1
 ) (k2 [] [] (.v undef) T1 n1 l1)) fun _ _ d4 T2 n2 l2 =>
 bnd (zpick d1 d4 (.v (.bool false))) fun d5 =>
 finK T nx d5 T2 n2 l2
theorem e259 (a0 : D) (T : ST) (nx : Nat) : fnK Tryz.prog [] dr0 FU Tryz.f259 (.s .o (.s .o .o)) [a0] T nx = s259 a0 T nx := by kernel_rfl
noncomputable def F259 : Sem := ar1 s259
theorem k259 : FnOk Tryz.prog 259 F259 := ar1_ok (fnK_ok (by kernel_rfl) CallsOk.nil dr0_ok) e259
/- reeve/gauss.Of -/
theorem h224 : HasFn Tryz.prog 224 := ⟨by kernel_rfl⟩
noncomputable def s224 (a0 a1 : D) : ST → Nat → Option Rt := fun T nx =>
 bndR (F259 [a0] T nx) fun d1 T1 n1 l1 => fN (lowN nx l1) fun l2 =>
 bnd (zun .not d1) fun d2 =>
 opG.gjn (fun k1 => zgd d2 false (
  k1 [] [] a1 T1 n1 l2
 ) (k1 [] [] (.v undef) T1 n1 l2)) fun _ _ d3 T2 n2 l3 =>
 opG.gjn (fun k2 => zgd d2 false (
  bndR (F259 [d3] T2 n2) fun d4 T3 n3 l4 => fN (lowN l3 l4) fun l5 =>
  k2 [] [] d4 T3 n3 l5
 ) (k2 [] [] (.v undef) T2 n2 l3)) fun _ _ d5 T4 n4 l6 =>
 opG.gjn (fun k3 => zgd d2 false (
  bnd (zun .not d5) fun d6 =>
  k3 [] [] d6 T4 n4 l6
 ) (k3 [] [] (.v undef) T4 n4 l6)) fun _ _ d7 T5 n5 l7 =>
 bnd (zpick d2 (.v (.bool true)) d7) fun d8 =>
 cnd d8 (
 finK T nx (.tup [(.v (.complex .f64 0 0)), (.v (.bool false))]) T5 n5 l7
 ) (
 bnd (zconv .itf a0) fun d9 =>
 bnd (zconv .itf a1) fun d10 =>
 bnd (biK.zcx d9 d10) fun d11 =>
 finK T nx (.tup [d11, (.v (.bool true))]) T5 n5 l7
 )
theorem e224 (a0 a1 : D) (T : ST) (nx : Nat) : fnK Tryz.prog [(259, F259)] dr0 FU Tryz.f224 (.s .o (.s (.s .o (.c (.s .o .o) .o)) (.s .o .o))) [a0, a1] T nx = s224 a0 a1 T nx := by kernel_rfl
noncomputable def F224 : Sem := ar2 s224
theorem k224 : FnOk Tryz.prog 224 F224 := ar2_ok (fnK_ok (by kernel_rfl) (CallsOk.cons h259 k259 CallsOk.nil) dr0_ok) e224
/- reeve/gauss.Turn -/
theorem h223 : HasFn Tryz.prog 223 := ⟨by kernel_rfl⟩
noncomputable def s223 (fu : Nat) (a0 a1 : D) : ST → Nat → Option Rt := fun T nx =>
 bndR (F222 [a0] T nx) fun d1 T1 n1 l1 => fN (lowN nx l1) fun l2 =>
 bnd (zextract d1 0) fun d2 =>
 bnd (zextract d1 1) fun d3 =>
 bnd (zextract d1 2) fun d4 =>
 bnd (zun .not d4) fun d5 =>
 cnd d5 (
 finK T nx (.v (.complex .f64 0 0)) T1 n1 l2
 ) (
 jn (fun v1 T2 n2 l3 => unc v1 fun d6 w1 => unc w1 fun d7 w2 =>
  bndR (F224 [d6, d7] T2 n2) fun d8 T3 n3 l4 => fN (lowN l3 l4) fun l5 =>
  bnd (zextract d8 0) fun d9 =>
  bnd (zextract d8 1) fun d10 =>
 finK T nx d9 T3 n3 l5) fun K1 =>
 bnd (zbin .i .rem a1 (.v (.int .i64 (.ofNat 4)))) fun d11 =>
 bnd (zbin .i .add d11 (.v (.int .i64 (.ofNat 4)))) fun d12 =>
 bnd (zbin .i .rem d12 (.v (.int .i64 (.ofNat 4)))) fun d13 =>
 lpc fu (fun go1 v2 T4 n4 l6 => unc v2 fun d14 w3 => unc w3 fun d15 w4 => unc w4 fun d16 w5 => unc w5 fun d17 w6 =>
  bnd (zbin .i .lss d17 d16) fun d18 =>
  cnd d18 (
  bnd (zun .neg d15) fun d19 =>
  bnd (zbin .i .add d17 (.v (.int .i64 (.ofNat 1)))) fun d20 =>
 go1 [d19, d14, d16, d20] T4 n4 l6
  ) (
 K1 [d14, d15] T4 n4 l6
  )) [d2, d3, d13, (.v (.int .i64 (.ofNat 0)))] T1 n1 l2
 )
theorem e223 (fu : Nat) (a0 a1 : D) (T : ST) (nx : Nat) : fnK Tryz.prog [(222, F222), (224, F224)] dr0 fu Tryz.f223 (.s .o (.s .o (.s (.s .o (.c (.s .o .o) .o)) (.j [5, 6] (.s .o (.b (.l [5, 6, 19, 20] (.s .o (.s (.c .o .o) (.s (.b .o) .o)))))) (.s .o (.s .o .o)))))) [a0, a1] T nx = s223 fu a0 a1 T nx := by kernel_rfl
noncomputable def F223 : Sem := ar2 (s223 FU)
theorem k223 : FnOk Tryz.prog 223 F223 := ar2_ok (fnK_ok (by kernel_rfl) (CallsOk.cons h222 k222 (CallsOk.cons h224 k224 CallsOk.nil)) dr0_ok) (e223 FU)
/- reeve/gauss.rest -/
theorem h225 : HasFn Tryz.prog 225 := ⟨by kernel_rfl⟩
noncomputable def s225 (a0 : D) : ST → Nat → Option Rt := fun T nx =>
 bnd (zbin .i .rem a0 (.v (.int .i64 (.ofNat 1000003)))) fun d1 =>
 bnd (zbin .i .add d1 (.v (.int .i64 (.ofNat 1000003)))) fun d2 =>
 bnd (zbin .i .rem d2 (.v (.int .i64 (.ofNat 1000003)))) fun d3 =>
 finK T nx d3 T nx nx
theorem e225 (a0 : D) (T : ST) (nx : Nat) : fnK Tryz.prog [] dr0 FU Tryz.f225 (.s .o (.s .o .o)) [a0] T nx = s225 a0 T nx := by kernel_rfl
noncomputable def F225 : Sem := ar1 s225
theorem k225 : FnOk Tryz.prog 225 F225 := ar1_ok (fnK_ok (by kernel_rfl) CallsOk.nil dr0_ok) e225
/- reeve/gauss.Spin -/
theorem h165 : HasFn Tryz.prog 165 := ⟨by kernel_rfl⟩
noncomputable def s165 (fu : Nat) (a0 : D) : ST → Nat → Option Rt := fun T nx =>
 jn (fun v1 T1 n1 l1 => unc v1 fun d1 w1 =>
 finK T nx d1 T1 n1 l1) fun K1 =>
 bnd (zlen true a0) fun d2 =>
 lpc fu (fun go1 v2 T2 n2 l2 => unc v2 fun d3 w2 => unc w2 fun d4 w3 => unc w3 fun d5 w4 => unc w4 fun d6 w5 =>
  bnd (zbin .i .lss d6 d5) fun d7 =>
  cnd d7 (
  bnd (zindexAddr (.sl 1) d4 d6) fun d8 =>
  bnd (zload none T2 d8) fun d9 =>
  bndR (F223 [d3, (.v (.int .i64 (.ofNat 1)))] T2 n2) fun d10 T3 n3 l3 => fN (lowN l2 l3) fun l4 =>
  bndR (F222 [d10] T3 n3) fun d11 T4 n4 l5 => fN (lowN l4 l5) fun l6 =>
  bnd (zextract d11 0) fun d12 =>
  bnd (zextract d11 1) fun d13 =>
  bnd (zextract d11 2) fun d14 =>
  bnd (zconv (.ii .u16) d9) fun d15 =>
  bnd (zconv (.ii .i64) d15) fun d16 =>
  bnd (zbin .sh .shr d9 (.v (.int .u64 (.ofNat 32)))) fun d17 =>
  bnd (zconv (.ii .u16) d17) fun d18 =>
  bnd (zconv (.ii .i64) d18) fun d19 =>
  bnd (zbin .i .sub d16 d19) fun d20 =>
  bnd (zbin .i .add d12 d20) fun d21 =>
  bnd (zbin .sh .shr d9 (.v (.int .u64 (.ofNat 16)))) fun d22 =>
  bnd (zconv (.ii .u16) d22) fun d23 =>
  bnd (zconv (.ii .i64) d23) fun d24 =>
  bnd (zbin .sh .shr d9 (.v (.int .u64 (.ofNat 48)))) fun d25 =>
  bnd (zconv (.ii .u16) d25) fun d26 =>
  bnd (zconv (.ii .i64) d26) fun d27 =>
  bnd (zbin .i .sub d24 d27) fun d28 =>
  bnd (zbin .i .add d13 d28) fun d29 =>
  bndR (F225 [d21] T4 n4) fun d30 T5 n5 l7 => fN (lowN l6 l7) fun l8 =>
  bndR (F225 [d29] T5 n5) fun d31 T6 n6 l9 => fN (lowN l8 l9) fun l10 =>
  bndR (F224 [d30, d31] T6 n6) fun d32 T7 n7 l11 => fN (lowN l10 l11) fun l12 =>
  bnd (zextract d32 0) fun d33 =>
  bnd (zextract d32 1) fun d34 =>
  bnd (zbin .i .add d6 (.v (.int .i64 (.ofNat 1)))) fun d35 =>
 go1 [d33, d4, d5, d35] T7 n7 l12
  ) (
 K1 [d3] T2 n2 l2
  )) [(.v (.complex .f64 0 0)), a0, d2, (.v (.int .i64 (.ofNat 0)))] T nx nx
theorem e165 (fu : Nat) (a0 : D) (T : ST) (nx : Nat) : fnK Tryz.prog [(223, F223), (222, F222), (225, F225), (224, F224)] dr0 fu Tryz.f165 (.s .o (.s .o (.j [3] (.s .o (.b (.l [3, 9, 10, 11] (.s .o (.s (.c .o .o) (.s (.b (.s .o (.s .o (.s .o (.s .o .o))))) .o)))))) (.s .o .o)))) [a0] T nx = s165 fu a0 T nx := by kernel_rfl
noncomputable def F165 : Sem := ar1 (s165 FU)
theorem k165 : FnOk Tryz.prog 165 F165 := ar1_ok (fnK_ok (by kernel_rfl) (CallsOk.cons h223 k223 (CallsOk.cons h222 k222 (CallsOk.cons h225 k225 (CallsOk.cons h224 k224 CallsOk.nil)))) dr0_ok) (e165 FU)
/- reeve/super.Put -/
theorem h110 : HasFn Tryz.prog 110 := ⟨by kernel_rfl⟩
noncomputable def s110 (a0 : D) : ST → Nat → Option Rt := fun T nx =>
 bB (solidB a0) <| fN (Nat.succ nx) fun n1 => fN (dcells a0).length fun e1 =>
 bnd (zfieldAddr 0 (.ptr nx e1 0 0)) fun d1 =>
 bnd (zload (some 3) (Tr.set (some (xRow 170 (dcells a0))) T nx) d1) fun d2 =>
 bndR (F58 [d2] (Tr.set (some (xRow 170 (dcells a0))) T nx) n1) fun d3 T1 n2 l1 => fN (lowN nx l1) fun l2 =>
 bnd (zun .not d3) fun d4 =>
 cnd d4 (
 finK T nx .e0 T1 n2 l2
 ) (
 bnd (zfieldAddr 0 (.ptr nx e1 0 0)) fun d5 =>
 bnd (zfieldAddr 0 d5) fun d6 =>
 bnd (zload none T1 d6) fun d7 =>
 bnd (zconv (.ii .u64) d7) fun d8 =>
 bnd (zfieldAddr 0 (.ptr nx e1 0 0)) fun d9 =>
 bnd (zfieldAddr 1 d9) fun d10 =>
 bnd (zload none T1 d10) fun d11 =>
 bnd (zconv (.ii .u64) d11) fun d12 =>
 bnd (zfieldAddr 0 (.ptr nx e1 0 0)) fun d13 =>
 bnd (zfieldAddr 2 d13) fun d14 =>
 bnd (zload none T1 d14) fun d15 =>
 bnd (zconv (.ii .u64) d15) fun d16 =>
 bnd (zfieldAddr 3 (.ptr nx e1 0 0)) fun d17 =>
 bnd (zload none T1 d17) fun d18 =>
 bB (solidL 1 [(.v (.int .u64 (.ofNat 8243106252149764145))), d8, d12, d16, d18, (.v (.int .u64 (.ofNat 0))), (.v (.int .u64 (.ofNat 0)))]) <| fN (Nat.succ n2) fun n3 =>
 bndR (F165 [(.vw n2 1 0 7)] (Tr.set (some (xRows 38 1 [dcells (.v (.int .u64 (.ofNat 8243106252149764145))), dcells d8, dcells d12, dcells d16, dcells d18, dcells (.v (.int .u64 (.ofNat 0))), dcells (.v (.int .u64 (.ofNat 0)))])) T1 n2) n3) fun d19 T2 n4 l3 => fN (lowN l2 l3) fun l4 =>
 bndR (F164 [d19] T2 n4) fun d20 T3 n5 l5 => fN (lowN l4 l5) fun l6 =>
 bnd (zextract d20 0) fun d21 =>
 bnd (zextract d20 1) fun d22 =>
 bB (solidL 1 [d21]) <| fN (Nat.succ n5) fun n6 =>
 zappend 38 1 8 (Tr.set (some (xRows 38 1 [dcells d21])) T3 n5) n6 l6 (.vw n2 1 0 7) (.vw n5 1 0 1) fun f1 s1 d23 T4 l7 => fN (Nat.succ n6) fun n7 => fN l7 fun l8 =>
 finK T nx d23 T4 n7 l8
 )
theorem e110 (a0 : D) (T : ST) (nx : Nat) : fnK Tryz.prog [(58, F58), (165, F165), (164, F164)] dr0 FU Tryz.f110 (.s .o (.s (.s .o (.c (.s .o .o) .o)) (.s .o (.s .o (.s .o .o))))) [a0] T nx = s110 a0 T nx := by kernel_rfl
noncomputable def F110 : Sem := ar1 s110
theorem k110 : FnOk Tryz.prog 110 F110 := ar1_ok (fnK_ok (by kernel_rfl) (CallsOk.cons h58 k58 (CallsOk.cons h165 k165 (CallsOk.cons h164 k164 CallsOk.nil))) dr0_ok) e110
/- (reeve/tag.Field).mask -/
theorem h186 : HasFn Tryz.prog 186 := ⟨by kernel_rfl⟩
noncomputable def s186 (a0 : D) : ST → Nat → Option Rt := fun T nx =>
 bB (solidB a0) <| fN (Nat.succ nx) fun n1 => fN (dcells a0).length fun e1 =>
 bnd (zfieldAddr 1 (.ptr nx e1 0 0)) fun d1 =>
 bnd (zload none (Tr.set (some (xRow 237 (dcells a0))) T nx) d1) fun d2 =>
 bnd (zbin .sh .shl (.v (.int .u64 (.ofNat 1))) d2) fun d3 =>
 bnd (zbin .i .sub d3 (.v (.int .u64 (.ofNat 1)))) fun d4 =>
 bnd (zfieldAddr 0 (.ptr nx e1 0 0)) fun d5 =>
 bnd (zload none (Tr.set (some (xRow 237 (dcells a0))) T nx) d5) fun d6 =>
 bnd (zbin .sh .shl d4 d6) fun d7 =>
 finK T nx d7 (Tr.set (some (xRow 237 (dcells a0))) T nx) n1 nx
theorem e186 (a0 : D) (T : ST) (nx : Nat) : fnK Tryz.prog [] (drD Tryz.prog []) FU Tryz.f186 (.s .o (.s .o .o)) [a0] T nx = s186 a0 T nx := by kernel_rfl
noncomputable def F186 : Sem := ar1 s186
theorem k186 : FnOk Tryz.prog 186 F186 := ar1_ok (fnK_ok (by kernel_rfl) CallsOk.nil (drD_ok hmix CallsOk.nil)) e186
/- reeve/tag.all -/
theorem h235 : HasFn Tryz.prog 235 := ⟨by kernel_rfl⟩
noncomputable def s235 (fu : Nat) (a0 : D) : ST → Nat → Option Rt := fun T nx =>
 jn (fun v1 T1 n1 l1 => unc v1 fun d1 w1 =>
 finK T nx (.tup [d1, (.v (.bool true))]) T1 n1 l1) fun K1 =>
 bnd (zlen true a0) fun d2 =>
 lpc fu (fun go1 v2 T2 n2 l2 => unc v2 fun d3 w2 => unc w2 fun d4 w3 => unc w3 fun d5 w4 => unc w4 fun d6 w5 =>
  bnd (zbin .i .lss d6 d5) fun d7 =>
  cnd d7 (
  bnd (zindexAddr (.sl 2) d4 d6) fun d8 =>
  bnd (zload (some 2) T2 d8) fun d9 =>
  fN (Nat.succ n2) fun n3 =>
  zstore 2 (Tr.set (some (XO.mk 237 2 1 (.n [(.v (.int .i64 (.ofNat 0))), (.v (.int .i64 (.ofNat 0)))] .e .e))) T2 n2) (.ptr n2 2 0 0) d9 fun r1 T3 => fN (lowN l2 r1) fun l3 =>
  bnd (zfieldAddr 0 (.ptr n2 2 0 0)) fun d10 =>
  bnd (zload none T3 d10) fun d11 =>
  bnd (zbin .i .lss d11 (.v (.int .i64 (.ofNat 0)))) fun d12 =>
  opG.gjn (fun k1 => zgd d12 false (
   bnd (zfieldAddr 0 (.ptr n2 2 0 0)) fun d13 =>
   k1 [] [] d13 T3 n3 l3
  ) (k1 [] [] (.v undef) T3 n3 l3)) fun _ _ d14 T4 n4 l4 =>
  opG.gjn (fun k2 => zgd d12 false (
   bnd (zload none T4 d14) fun d15 =>
   k2 (ptr? d14) [] d15 T4 n4 l4
  ) (k2 [] [] (.v undef) T4 n4 l4)) fun _ _ d16 T5 n5 l5 =>
  opG.gjn (fun k3 => zgd d12 false (
   bnd (zbin .i .geq d16 (.v (.int .i64 (.ofNat 64)))) fun d17 =>
   k3 [] [] d17 T5 n5 l5
  ) (k3 [] [] (.v undef) T5 n5 l5)) fun _ _ d18 T6 n6 l6 =>
  bnd (zpick d12 (.v (.bool true)) d18) fun d19 =>
  opG.gjn (fun k4 => zgd d19 false (
   bnd (zfieldAddr 1 (.ptr n2 2 0 0)) fun d20 =>
   k4 [] [] d20 T6 n6 l6
  ) (k4 [] [] (.v undef) T6 n6 l6)) fun _ _ d21 T7 n7 l7 =>
  opG.gjn (fun k5 => zgd d19 false (
   bnd (zload none T7 d21) fun d22 =>
   k5 (ptr? d21) [] d22 T7 n7 l7
  ) (k5 [] [] (.v undef) T7 n7 l7)) fun _ _ d23 T8 n8 l8 =>
  opG.gjn (fun k6 => zgd d19 false (
   bnd (zbin .i .lss d23 (.v (.int .i64 (.ofNat 1)))) fun d24 =>
   k6 [] [] d24 T8 n8 l8
  ) (k6 [] [] (.v undef) T8 n8 l8)) fun _ _ d25 T9 n9 l9 =>
  bnd (zpick d19 (.v (.bool true)) d25) fun d26 =>
  opG.gjn (fun k7 => zgd d26 false (
   bnd (zfieldAddr 1 (.ptr n2 2 0 0)) fun d27 =>
   k7 [] [] d27 T9 n9 l9
  ) (k7 [] [] (.v undef) T9 n9 l9)) fun _ _ d28 T10 n10 l10 =>
  opG.gjn (fun k8 => zgd d26 false (
   bnd (zload none T10 d28) fun d29 =>
   k8 (ptr? d28) [] d29 T10 n10 l10
  ) (k8 [] [] (.v undef) T10 n10 l10)) fun _ _ d30 T11 n11 l11 =>
  opG.gjn (fun k9 => zgd d26 false (
   bnd (zfieldAddr 0 (.ptr n2 2 0 0)) fun d31 =>
   k9 [] [] d31 T11 n11 l11
  ) (k9 [] [] (.v undef) T11 n11 l11)) fun _ _ d32 T12 n12 l12 =>
  opG.gjn (fun k10 => zgd d26 false (
   bnd (zload none T12 d32) fun d33 =>
   k10 (ptr? d32) [] d33 T12 n12 l12
  ) (k10 [] [] (.v undef) T12 n12 l12)) fun _ _ d34 T13 n13 l13 =>
  opG.gjn (fun k11 => zgd d26 false (
   bnd (zbin .i .sub (.v (.int .i64 (.ofNat 64))) d34) fun d35 =>
   k11 [] [] d35 T13 n13 l13
  ) (k11 [] [] (.v undef) T13 n13 l13)) fun _ _ d36 T14 n14 l14 =>
  opG.gjn (fun k12 => zgd d26 false (
   bnd (zbin .i .gtr d30 d36) fun d37 =>
   k12 [] [] d37 T14 n14 l14
  ) (k12 [] [] (.v undef) T14 n14 l14)) fun _ _ d38 T15 n15 l15 =>
  bnd (zpick d26 (.v (.bool true)) d38) fun d39 =>
  opG.gjn (fun k13 => zgd d39 false (
   k13 [] [] d3 T15 n15 l15
  ) (k13 [] [] (.v undef) T15 n15 l15)) fun _ _ d40 T16 n16 l16 =>
  opG.gjn (fun k14 => zgd d39 false (
   bnd (zload (some 2) T16 (.ptr n2 2 0 0)) fun d41 =>
   k14 (ptr? (.ptr n2 2 0 0)) [] d41 T16 n16 l16
  ) (k14 [] [] (.v undef) T16 n16 l16)) fun _ _ d42 T17 n17 l17 =>
  opG.gjn (fun k15 => zgd d39 false (
   bndR (F186 [d42] T17 n17) fun d43 T18 n18 l18 => fN (lowN l17 l18) fun l19 =>
   k15 [] [] d43 T18 n18 l19
  ) (k15 [] [] (.v undef) T17 n17 l17)) fun _ _ d44 T19 n19 l20 =>
  opG.gjn (fun k16 => zgd d39 false (
   bnd (zbin .i .and d40 d44) fun d45 =>
   k16 [] [] d45 T19 n19 l20
  ) (k16 [] [] (.v undef) T19 n19 l20)) fun _ _ d46 T20 n20 l21 =>
  opG.gjn (fun k17 => zgd d39 false (
   bnd (zbin .i .neq d46 (.v (.int .u64 (.ofNat 0)))) fun d47 =>
   k17 [] [] d47 T20 n20 l21
  ) (k17 [] [] (.v undef) T20 n20 l21)) fun _ _ d48 T21 n21 l22 =>
  bnd (zpick d39 (.v (.bool true)) d48) fun d49 =>
  cnd d49 (
 finK T nx (.tup [(.v (.int .u64 (.ofNat 0))), (.v (.bool false))]) T21 n21 l22
  ) (
  bnd (zload (some 2) T21 (.ptr n2 2 0 0)) fun d50 =>
  bndR (F186 [d50] T21 n21) fun d51 T22 n22 l23 => fN (lowN l22 l23) fun l24 =>
  bnd (zbin .i .or d3 d51) fun d52 =>
  bnd (zbin .i .add d6 (.v (.int .i64 (.ofNat 1)))) fun d53 =>
 go1 [d52, d4, d5, d53] T22 n22 l24
  )
  ) (
 K1 [d3] T2 n2 l2
  )) [(.v (.int .u64 (.ofNat 0))), a0, d2, (.v (.int .i64 (.ofNat 0)))] T nx nx
theorem e235 (fu : Nat) (a0 : D) (T : ST) (nx : Nat) : fnK Tryz.prog [(186, F186)] dr0 fu Tryz.f235 (.s .o (.s .o (.j [4] (.s .o (.b (.l [4, 7, 8, 9] (.s .o (.s (.c .o .o) (.s (.b (.s .o (.s (.s .o (.c (.s .o .o) .o)) .o))) .o)))))) (.s .o .o)))) [a0] T nx = s235 fu a0 T nx := by kernel_rfl
noncomputable def F235 : Sem := ar1 (s235 FU)
theorem k235 : FnOk Tryz.prog 235 F235 := ar1_ok (fnK_ok (by kernel_rfl) (CallsOk.cons h186 k186 CallsOk.nil) dr0_ok) (e235 FU)
/- reeve/tag.Good -/
theorem h185 : HasFn Tryz.prog 185 := ⟨by kernel_rfl⟩
noncomputable def s185 (a0 : D) : ST → Nat → Option Rt := fun T nx =>
 bndR (F235 [a0] T nx) fun d1 T1 n1 l1 => fN (lowN nx l1) fun l2 =>
 bnd (zextract d1 0) fun d2 =>
 bnd (zextract d1 1) fun d3 =>
 finK T nx d3 T1 n1 l2
theorem e185 (a0 : D) (T : ST) (nx : Nat) : fnK Tryz.prog [(235, F235)] dr0 FU Tryz.f185 (.s .o (.s .o (.s .o .o))) [a0] T nx = s185 a0 T nx := by kernel_rfl
noncomputable def F185 : Sem := ar1 s185
theorem k185 : FnOk Tryz.prog 185 F185 := ar1_ok (fnK_ok (by kernel_rfl) (CallsOk.cons h235 k235 CallsOk.nil) dr0_ok) e185
/- reeve/tag.Put -/
theorem h124 : HasFn Tryz.prog 124 := ⟨by kernel_rfl⟩
noncomputable def s124 (fu : Nat) (a0 a1 : D) : ST → Nat → Option Rt := fun T nx =>
 bndR (F185 [a0] T nx) fun d1 T1 n1 l1 => fN (lowN nx l1) fun l2 =>
 bnd (zun .not d1) fun d2 =>
 opG.gjn (fun k1 => zgd d2 false (
  k1 [] [] a0 T1 n1 l2
 ) (k1 [] [] (.v undef) T1 n1 l2)) fun _ _ d3 T2 n2 l3 =>
 opG.gjn (fun k2 => zgd d2 false (
  bnd (zlen true d3) fun d4 =>
  k2 [] [] d4 T2 n2 l3
 ) (k2 [] [] (.v undef) T2 n2 l3)) fun _ _ d5 T3 n3 l4 =>
 opG.gjn (fun k3 => zgd d2 false (
  k3 [] [] a1 T3 n3 l4
 ) (k3 [] [] (.v undef) T3 n3 l4)) fun _ _ d6 T4 n4 l5 =>
 opG.gjn (fun k4 => zgd d2 false (
  bnd (zlen true d6) fun d7 =>
  k4 [] [] d7 T4 n4 l5
 ) (k4 [] [] (.v undef) T4 n4 l5)) fun _ _ d8 T5 n5 l6 =>
 opG.gjn (fun k5 => zgd d2 false (
  bnd (zbin .i .neq d5 d8) fun d9 =>
  k5 [] [] d9 T5 n5 l6
 ) (k5 [] [] (.v undef) T5 n5 l6)) fun _ _ d10 T6 n6 l7 =>
 bnd (zpick d2 (.v (.bool true)) d10) fun d11 =>
 cnd d11 (
 finK T nx (.tup [(.v (.int .u64 (.ofNat 0))), (.v (.bool false))]) T6 n6 l7
 ) (
 jn (fun v1 T7 n7 l8 => unc v1 fun d12 w1 =>
 finK T nx (.tup [d12, (.v (.bool true))]) T7 n7 l8) fun K1 =>
 bnd (zlen true a0) fun d13 =>
 lpc fu (fun go1 v2 T8 n8 l9 => unc v2 fun d14 w2 => unc w2 fun d15 w3 => unc w3 fun d16 w4 => unc w4 fun d17 w5 => unc w5 fun d18 w6 =>
  bnd (zbin .i .lss d18 d17) fun d19 =>
  cnd d19 (
  bnd (zindexAddr (.sl 2) d16 d18) fun d20 =>
  bnd (zload (some 2) T8 d20) fun d21 =>
  fN (Nat.succ n8) fun n9 =>
  zstore 2 (Tr.set (some (XO.mk 237 2 1 (.n [(.v (.int .i64 (.ofNat 0))), (.v (.int .i64 (.ofNat 0)))] .e .e))) T8 n8) (.ptr n8 2 0 0) d21 fun r1 T9 => fN (lowN l9 r1) fun l10 =>
  bnd (zindexAddr (.sl 1) d14 d18) fun d22 =>
  bnd (zload none T9 d22) fun d23 =>
  bnd (zload (some 2) T9 (.ptr n8 2 0 0)) fun d24 =>
  bndR (F186 [d24] T9 n9) fun d25 T10 n10 l11 => fN (lowN n9 l11) fun l12 => bB (Nat.beq l12 n9) <|
  bnd (zfieldAddr 0 (.ptr n8 2 0 0)) fun d26 =>
  bnd (zload none T10 d26) fun d27 =>
  bnd (zbin .sh .shr d25 d27) fun d28 =>
  bnd (zbin .i .gtr d23 d28) fun d29 =>
  bB (apt (.op (ptr? d22) []) (.call n9 n10)) <|
  bB (apt (.call n9 n10) (.op (ptr? d26) [])) <|
  cnd d29 (
 finK T nx (.tup [(.v (.int .u64 (.ofNat 0))), (.v (.bool false))]) T10 n10 l10
  ) (
  bnd (zindexAddr (.sl 1) d14 d18) fun d30 =>
  bnd (zload none T10 d30) fun d31 =>
  bnd (zfieldAddr 0 (.ptr n8 2 0 0)) fun d32 =>
  bnd (zload none T10 d32) fun d33 =>
  bnd (zbin .sh .shl d31 d33) fun d34 =>
  bnd (zbin .i .or d15 d34) fun d35 =>
  bnd (zbin .i .add d18 (.v (.int .i64 (.ofNat 1)))) fun d36 =>
 go1 [d14, d35, d16, d17, d36] T10 n10 l10
  )
  ) (
 K1 [d15] T8 n8 l9
  )) [a1, (.v (.int .u64 (.ofNat 0))), a0, d13, (.v (.int .i64 (.ofNat 0)))] T6 n6 l7
 )
theorem e124 (fu : Nat) (a0 a1 : D) (T : ST) (nx : Nat) : fnK Tryz.prog [(185, F185), (186, F186)] (drD Tryz.prog [(185, F185), (186, F186)]) fu Tryz.f124 (.s .o (.s (.s .o (.c (.s .o .o) .o)) (.s .o (.j [6] (.s .o (.b (.l [1, 6, 19, 20, 21] (.s .o (.s (.c .o .o) (.s (.b (.s .o (.s (.s .o (.c (.s .o .o) .o)) .o))) .o)))))) (.s .o .o))))) [a0, a1] T nx = s124 fu a0 a1 T nx := by kernel_rfl
noncomputable def F124 : Sem := ar2 (s124 FU)
theorem k124 : FnOk Tryz.prog 124 F124 := ar2_ok (fnK_ok (by kernel_rfl) (CallsOk.cons h185 k185 (CallsOk.cons h186 k186 CallsOk.nil)) (drD_ok hmix (CallsOk.cons h185 k185 (CallsOk.cons h186 k186 CallsOk.nil)))) (e124 FU)
/- reeve/cap.fields -/
theorem h167 : HasFn Tryz.prog 167 := ⟨by kernel_rfl⟩
noncomputable def s167 : ST → Nat → Option Rt := fun T nx =>
 bnd (zbuild [(.int .i64 (.ofNat 0)), (.int .i64 (.ofNat 0))] [(0, 1), (1, 1)] [0, 1] [(.v (.int .i64 (.ofNat 0))), (.v (.int .i64 (.ofNat 8)))]) fun d1 =>
 bnd (zbuild [(.int .i64 (.ofNat 0)), (.int .i64 (.ofNat 0))] [(0, 1), (1, 1)] [0, 1] [(.v (.int .i64 (.ofNat 8))), (.v (.int .i64 (.ofNat 8)))]) fun d2 =>
 bnd (zbuild [(.int .i64 (.ofNat 0)), (.int .i64 (.ofNat 0))] [(0, 1), (1, 1)] [0, 1] [(.v (.int .i64 (.ofNat 16))), (.v (.int .i64 (.ofNat 16)))]) fun d3 =>
 bnd (zbuild [(.int .i64 (.ofNat 0)), (.int .i64 (.ofNat 0))] [(0, 1), (1, 1)] [0, 1] [(.v (.int .i64 (.ofNat 32))), (.v (.int .i64 (.ofNat 16)))]) fun d4 =>
 bB (solidL 2 [d1, d2, d3, d4]) <| fN (Nat.succ nx) fun n1 =>
 finK T nx (.vw nx 2 0 4) (Tr.set (some (xRows 237 2 [dcells d1, dcells d2, dcells d3, dcells d4])) T nx) n1 nx
theorem e167 (T : ST) (nx : Nat) : fnK Tryz.prog [] dr0 FU Tryz.f167 (.s .o (.s .o .o)) [] T nx = s167  T nx := by kernel_rfl
noncomputable def F167 : Sem := ar0 s167
theorem k167 : FnOk Tryz.prog 167 F167 := ar0_ok (fnK_ok (by kernel_rfl) CallsOk.nil dr0_ok) e167
/- reeve/cap.Word -/
theorem h111 : HasFn Tryz.prog 111 := ⟨by kernel_rfl⟩
noncomputable def s111 (a0 : D) : ST → Nat → Option Rt := fun T nx =>
 bB (solidB a0) <| fN (Nat.succ nx) fun n1 => fN (dcells a0).length fun e1 =>
 bnd (zload (some 4) (Tr.set (some (xRow 111 (dcells a0))) T nx) (.ptr nx e1 0 0)) fun d1 =>
 bndR (F166 [d1] (Tr.set (some (xRow 111 (dcells a0))) T nx) n1) fun d2 T1 n2 l1 => fN (lowN nx l1) fun l2 =>
 bnd (zun .not d2) fun d3 =>
 cnd d3 (
 finK T nx (.tup [(.v (.int .u64 (.ofNat 0))), (.v (.bool false))]) T1 n2 l2
 ) (
 bndR (F167 [] T1 n2) fun d4 T2 n3 l3 => fN (lowN n2 l3) fun l4 => bB (Nat.beq l4 n2) <|
 bnd (zfieldAddr 0 (.ptr nx e1 0 0)) fun d5 =>
 bnd (zload none T2 d5) fun d6 =>
 bnd (zconv (.ii .u64) d6) fun d7 =>
 bnd (zfieldAddr 2 (.ptr nx e1 0 0)) fun d8 =>
 bnd (zload none T2 d8) fun d9 =>
 bnd (zconv (.ii .u64) d9) fun d10 =>
 bnd (zfieldAddr 3 (.ptr nx e1 0 0)) fun d11 =>
 bnd (zload none T2 d11) fun d12 =>
 bnd (zconv (.ii .u64) d12) fun d13 =>
 bnd (zfieldAddr 1 (.ptr nx e1 0 0)) fun d14 =>
 bnd (zload none T2 d14) fun d15 =>
 bnd (zconv (.ii .u64) d15) fun d16 =>
 bB (solidL 1 [d7, d10, d13, d16]) <| fN (Nat.succ n3) fun n4 =>
 bndR (F124 [d4, (.vw n3 1 0 4)] (Tr.set (some (xRows 38 1 [dcells d7, dcells d10, dcells d13, dcells d16])) T2 n3) n4) fun d17 T3 n5 l5 => fN (lowN n4 l5) fun l6 => bB (Nat.beq l6 n4) <|
 bnd (zextract d17 0) fun d18 =>
 bnd (zextract d17 1) fun d19 =>
 bB (apt (.call n2 n3) (.op (ptr? d5) [])) <|
 bB (apt (.call n2 n3) (.op (ptr? d8) [])) <|
 bB (apt (.call n2 n3) (.op (ptr? d11) [])) <|
 bB (apt (.call n2 n3) (.op (ptr? d14) [])) <|
 bB (apt (.call n2 n3) (.op [] [n3])) <|
 finK T nx (.tup [d18, d19]) T3 n5 l2
 )
theorem e111 (a0 : D) (T : ST) (nx : Nat) : fnK Tryz.prog [(166, F166), (167, F167), (124, F124)] (drD Tryz.prog [(166, F166), (167, F167), (124, F124)]) FU Tryz.f111 (.s .o (.s (.s .o (.c (.s .o .o) .o)) (.s .o .o))) [a0] T nx = s111 a0 T nx := by kernel_rfl
noncomputable def F111 : Sem := ar1 s111
theorem k111 : FnOk Tryz.prog 111 F111 := ar1_ok (fnK_ok (by kernel_rfl) (CallsOk.cons h166 k166 (CallsOk.cons h167 k167 (CallsOk.cons h124 k124 CallsOk.nil))) (drD_ok hmix (CallsOk.cons h166 k166 (CallsOk.cons h167 k167 (CallsOk.cons h124 k124 CallsOk.nil))))) e111
/- reeve/thing.bytes -/
theorem h168 : HasFn Tryz.prog 168 := ⟨by kernel_rfl⟩
noncomputable def s168 (fu : Nat) : ST → Nat → Option Rt := fun T nx =>
 jn (fun v1 T1 n1 l1 => unc v1 fun d1 w1 =>
 finK T nx d1 T1 n1 l1) fun K1 =>
 lpc fu (fun go1 v2 T2 n2 l2 => unc v2 fun d2 w2 => unc w2 fun d3 w3 =>
  bnd (zbin .i .lss d3 (.v (.int .i64 (.ofNat 5)))) fun d4 =>
  cnd d4 (
  bnd (zbin .i .mul (.v (.int .i64 (.ofNat 8))) d3) fun d5 =>
  bnd (zbuild [(.int .i64 (.ofNat 0)), (.int .i64 (.ofNat 0))] [(0, 1), (1, 1)] [0, 1] [d5, (.v (.int .i64 (.ofNat 8)))]) fun d6 =>
  bB (solidL 2 [d6]) <| fN (Nat.succ n2) fun n3 =>
  zappend 237 2 16 (Tr.set (some (xRows 237 2 [dcells d6])) T2 n2) n3 l2 d2 (.vw n2 2 0 1) fun f1 s1 d7 T3 l3 => fN (Nat.succ n3) fun n4 => fN l3 fun l4 =>
  bnd (zbin .i .add d3 (.v (.int .i64 (.ofNat 1)))) fun d8 =>
 go1 [d7, d8] T3 n4 l4
  ) (
 K1 [d2] T2 n2 l2
  )) [.e0, (.v (.int .i64 (.ofNat 0)))] T nx nx
theorem e168 (fu : Nat) (T : ST) (nx : Nat) : fnK Tryz.prog [] dr0 fu Tryz.f168 (.s .o (.s .o (.j [1] (.s .o (.b (.l [1, 3] (.s .o (.s (.c .o .o) (.s (.b (.s .o .o)) .o)))))) (.s .o .o)))) [] T nx = s168 fu  T nx := by kernel_rfl
noncomputable def F168 : Sem := ar0 (s168 FU)
theorem k168 : FnOk Tryz.prog 168 F168 := ar0_ok (fnK_ok (by kernel_rfl) CallsOk.nil dr0_ok) (e168 FU)
/- reeve/thing.pairs -/
theorem h169 : HasFn Tryz.prog 169 := ⟨by kernel_rfl⟩
noncomputable def s169 : ST → Nat → Option Rt := fun T nx =>
 bnd (zbuild [(.int .i64 (.ofNat 0)), (.int .i64 (.ofNat 0))] [(0, 1), (1, 1)] [0, 1] [(.v (.int .i64 (.ofNat 0))), (.v (.int .i64 (.ofNat 16)))]) fun d1 =>
 bnd (zbuild [(.int .i64 (.ofNat 0)), (.int .i64 (.ofNat 0))] [(0, 1), (1, 1)] [0, 1] [(.v (.int .i64 (.ofNat 16))), (.v (.int .i64 (.ofNat 16)))]) fun d2 =>
 bnd (zbuild [(.int .i64 (.ofNat 0)), (.int .i64 (.ofNat 0))] [(0, 1), (1, 1)] [0, 1] [(.v (.int .i64 (.ofNat 32))), (.v (.int .i64 (.ofNat 16)))]) fun d3 =>
 bB (solidL 2 [d1, d2, d3]) <| fN (Nat.succ nx) fun n1 =>
 finK T nx (.vw nx 2 0 3) (Tr.set (some (xRows 237 2 [dcells d1, dcells d2, dcells d3])) T nx) n1 nx
theorem e169 (T : ST) (nx : Nat) : fnK Tryz.prog [] dr0 FU Tryz.f169 (.s .o (.s .o .o)) [] T nx = s169  T nx := by kernel_rfl
noncomputable def F169 : Sem := ar0 s169
theorem k169 : FnOk Tryz.prog 169 F169 := ar0_ok (fnK_ok (by kernel_rfl) CallsOk.nil dr0_ok) e169
/- reeve/thing.Put -/
theorem h112 : HasFn Tryz.prog 112 := ⟨by kernel_rfl⟩
noncomputable def s112 (a0 : D) : ST → Nat → Option Rt := fun T nx =>
 bB (solidB a0) <| fN (Nat.succ nx) fun n1 => fN (dcells a0).length fun e1 =>
 bnd (zload (some 13) (Tr.set (some (xRow 51 (dcells a0))) T nx) (.ptr nx e1 0 0)) fun d1 =>
 bndR (F113 [d1] (Tr.set (some (xRow 51 (dcells a0))) T nx) n1) fun d2 T1 n2 l1 => fN (lowN nx l1) fun l2 =>
 bnd (zun .not d2) fun d3 =>
 cnd d3 (
 finK T nx .e0 T1 n2 l2
 ) (
 jn (fun v1 T2 n3 l3 => unc v1 fun d4 w1 => unc w1 fun d5 w2 =>
  bndR (F168 [] T2 n3) fun d6 T3 n4 l4 => fN (lowN n3 l4) fun l5 => bB (Nat.beq l5 n3) <|
  bnd (zfieldAddr 0 d4) fun d7 =>
  bnd (zload none T3 d7) fun d8 =>
  bnd (zconv (.ii .u64) d8) fun d9 =>
  bnd (zfieldAddr 1 d4) fun d10 =>
  bnd (zload none T3 d10) fun d11 =>
  bnd (zconv (.ii .u64) d11) fun d12 =>
  bnd (zfieldAddr 2 d4) fun d13 =>
  bnd (zload none T3 d13) fun d14 =>
  bnd (zconv (.ii .u64) d14) fun d15 =>
  bnd (zfieldAddr 5 d4) fun d16 =>
  bnd (zload none T3 d16) fun d17 =>
  bnd (zconv (.ii .u64) d17) fun d18 =>
  bB (solidL 1 [d9, d12, d15, d5, d18]) <| fN (Nat.succ n4) fun n5 =>
  bndR (F124 [d6, (.vw n4 1 0 5)] (Tr.set (some (xRows 38 1 [dcells d9, dcells d12, dcells d15, dcells d5, dcells d18])) T3 n4) n5) fun d19 T4 n6 l6 => fN (lowN n5 l6) fun l7 => bB (Nat.beq l7 n5) <|
  bnd (zextract d19 0) fun d20 =>
  bnd (zextract d19 1) fun d21 =>
  bB (apt (.call n3 n4) (.op (ptr? d7) [])) <|
  bB (apt (.call n3 n4) (.op (ptr? d10) [])) <|
  bB (apt (.call n3 n4) (.op (ptr? d13) [])) <|
  bB (apt (.call n3 n4) (.op (ptr? d16) [])) <|
  bB (apt (.call n3 n4) (.op [] [n4])) <|
  bndR (F169 [] T4 n6) fun d22 T5 n7 l8 => fN (lowN n6 l8) fun l9 => bB (Nat.beq l9 n6) <|
  bnd (zfieldAddr 3 d4) fun d23 =>
  bnd (zload none T5 d23) fun d24 =>
  bnd (zconv (.ii .u64) d24) fun d25 =>
  bnd (zfieldAddr 4 d4) fun d26 =>
  bnd (zload none T5 d26) fun d27 =>
  bnd (zconv (.ii .u64) d27) fun d28 =>
  bnd (zfieldAddr 6 d4) fun d29 =>
  bnd (zload none T5 d29) fun d30 =>
  bnd (zconv (.ii .u64) d30) fun d31 =>
  bB (solidL 1 [d25, d28, d31]) <| fN (Nat.succ n7) fun n8 =>
  bndR (F124 [d22, (.vw n7 1 0 3)] (Tr.set (some (xRows 38 1 [dcells d25, dcells d28, dcells d31])) T5 n7) n8) fun d32 T6 n9 l10 => fN (lowN n8 l10) fun l11 => bB (Nat.beq l11 n8) <|
  bnd (zextract d32 0) fun d33 =>
  bnd (zextract d32 1) fun d34 =>
  bB (apt (.call n6 n7) (.op (ptr? d23) [])) <|
  bB (apt (.call n6 n7) (.op (ptr? d26) [])) <|
  bB (apt (.call n6 n7) (.op (ptr? d29) [])) <|
  bB (apt (.call n6 n7) (.op [] [n7])) <|
  bnd (zfieldAddr 8 d4) fun d35 =>
  bnd (zload none T6 d35) fun d36 =>
  bB (solidL 1 [d20, d33, d36]) <| fN (Nat.succ n9) fun n10 =>
  bnd (zfieldAddr 9 d4) fun d37 =>
  zslice (.arr 4) (Tr.set (some (xRows 38 1 [dcells d20, dcells d33, dcells d36])) T6 n9) d37 none none fun f1 d38 =>
  zappend 38 1 8 (Tr.set (some (xRows 38 1 [dcells d20, dcells d33, dcells d36])) T6 n9) n10 l3 (.vw n9 1 0 3) d38 fun f2 s1 d39 T7 l12 => fN (Nat.succ n10) fun n11 => fN l12 fun l13 =>
  bB (solidL 1 [(.v (.int .u64 (.ofNat 0)))]) <| fN (Nat.succ n11) fun n12 =>
  zappend 38 1 8 (Tr.set (some (xRows 38 1 [dcells (.v (.int .u64 (.ofNat 0)))])) T7 n11) n12 l13 d39 (.vw n11 1 0 1) fun f3 s2 d40 T8 l14 => fN (Nat.succ n12) fun n13 => fN l14 fun l15 =>
  bB (apt (.op (ptr? d35) []) (.op [] [n11])) <|
  bB (apt (.op [] [n9]) (.op f1 [])) <|
  bB (apt (.op [] [n9]) (.op [] [n11])) <|
  bB (apt (.op f1 []) (.op [] [n11])) <|
  bB (apt (.op f2 s1) (.op [] [n11])) <|
 finK T nx d40 T8 n13 l15) fun K1 =>
 bnd (zfieldAddr 7 (.ptr nx e1 0 0)) fun d41 =>
 bnd (zload none T1 d41) fun d42 =>
 cnd d42 (
 K1 [(.ptr nx e1 0 0), (.v (.int .u64 (.ofNat 1)))] T1 n2 l2
 ) (
 K1 [(.ptr nx e1 0 0), (.v (.int .u64 (.ofNat 0)))] T1 n2 l2
 )
 )
theorem e112 (a0 : D) (T : ST) (nx : Nat) : fnK Tryz.prog [(113, F113), (168, F168), (124, F124), (169, F169)] (drD Tryz.prog [(113, F113), (168, F168), (124, F124), (169, F169)]) FU Tryz.f112 (.s .o (.s (.s .o (.c (.s .o .o) .o)) (.s .o (.j [1, 3] (.s .o (.c .o .o)) (.s .o (.s .o (.s .o .o))))))) [a0] T nx = s112 a0 T nx := by kernel_rfl
noncomputable def F112 : Sem := ar1 s112
theorem k112 : FnOk Tryz.prog 112 F112 := ar1_ok (fnK_ok (by kernel_rfl) (CallsOk.cons h113 k113 (CallsOk.cons h168 k168 (CallsOk.cons h124 k124 (CallsOk.cons h169 k169 CallsOk.nil)))) (drD_ok hmix (CallsOk.cons h113 k113 (CallsOk.cons h168 k168 (CallsOk.cons h124 k124 (CallsOk.cons h169 k169 CallsOk.nil)))))) e112
/- reeve/image.Put -/
theorem h56 : HasFn Tryz.prog 56 := ⟨by kernel_rfl⟩
noncomputable def s56 (fu : Nat) (a0 a1 : D) : ST → Nat → Option Rt := fun T nx =>
 bB (solidB a0) <| fN (Nat.succ nx) fun n1 => fN (dcells a0).length fun e1 =>
 bnd (zload (some 5) (Tr.set (some (xRow 32 (dcells a0))) T nx) (.ptr nx e1 0 0)) fun d1 =>
 bndR (F100 [d1] (Tr.set (some (xRow 32 (dcells a0))) T nx) n1) fun d2 T1 n2 l1 => fN (lowN nx l1) fun l2 =>
 bnd (zun .not d2) fun d3 =>
 cnd d3 (
 finK T nx .e0 T1 n2 l2
 ) (
 bnd (zfieldAddr 0 (.ptr nx e1 0 0)) fun d4 =>
 bnd (zload (some 3) T1 d4) fun d5 =>
 fN (Nat.succ n2) fun n3 =>
 zstore 3 (Tr.set (some (XO.mk 28 3 1 (.n [(.v (.int .i64 (.ofNat 0))), (.v (.int .i64 (.ofNat 0))), (.v (.int .i64 (.ofNat 0)))] .e .e))) T1 n2) (.ptr n2 3 0 0) d5 fun r1 T2 => fN (lowN l2 r1) fun l3 =>
 bnd (zload (some 3) T2 (.ptr n2 3 0 0)) fun d6 =>
 bndR (F109 [d6] T2 n3) fun d7 T3 n4 l4 => fN (lowN l3 l4) fun l5 =>
 bnd (zbin .i .mul d7 (.v (.int .i64 (.ofNat 8)))) fun d8 =>
 zmakeSlice 38 1 8 [(.int .u64 (.ofNat 0))] T3 n4 d8 d8 fun d9 T4 => fN (Nat.succ n4) fun n5 =>
 bnd (zload (some 3) T4 (.ptr n2 3 0 0)) fun d10 =>
 bnd (zbuild [(.int .i64 (.ofNat 0)), (.int .i64 (.ofNat 0)), (.int .i64 (.ofNat 0)), (.int .u64 (.ofNat 0))] [(0, 3), (3, 1)] [0, 1] [d10, a1]) fun d11 =>
 bndR (F110 [d11] T4 n5) fun d12 T5 n6 l6 => fN (lowN l5 l6) fun l7 =>
 biK.zcopy T5 l7 d9 d12 fun r2 f1 d13 T6 l8 => fN l8 fun l9 =>
 bnd (zload (some 3) T6 (.ptr n2 3 0 0)) fun d14 =>
 bndR (F17 [d14] T6 n6) fun d15 T7 n7 l10 => fN (lowN l9 l10) fun l11 =>
 zslice (.sl 1) T7 d9 (some d15) none fun f2 d16 =>
 biK.zcopy T7 l11 d16 d12 fun r3 f3 d17 T8 l12 => fN l12 fun l13 =>
 jn (fun v1 T9 n8 l14 => unc v1 fun d18 w1 => unc w1 fun d19 w2 => unc w2 fun d20 w3 =>
  jn (fun v2 T10 n9 l15 => unc v2 fun d21 w4 =>
 finK T nx d21 T10 n9 l15) fun K1 =>
  bnd (zfieldAddr 4 d18) fun d22 =>
  bnd (zload none T9 d22) fun d23 =>
  bnd (zlen true d23) fun d24 =>
  lpc fu (fun go1 v3 T11 n10 l16 => unc v3 fun d25 w5 => unc w5 fun d26 w6 => unc w6 fun d27 w7 => unc w7 fun d28 w8 => unc w8 fun d29 w9 =>
   bnd (zbin .i .lss d29 d28) fun d30 =>
   cnd d30 (
   bnd (zindexAddr (.sl 13) d27 d29) fun d31 =>
   bnd (zload (some 13) T11 d31) fun d32 =>
   fN (Nat.succ n10) fun n11 =>
   zstore 13 (Tr.set (some (XO.mk 51 13 1 (.n [(.v (.int .i64 (.ofNat 0))), (.v (.int .i64 (.ofNat 0))), (.v (.int .i64 (.ofNat 0))), (.v (.int .i64 (.ofNat 0))), (.v (.int .i64 (.ofNat 0))), (.v (.int .i64 (.ofNat 0))), (.v (.int .i64 (.ofNat 0))), (.v (.bool false)), (.v (.int .u64 (.ofNat 0))), (.v (.int .u64 (.ofNat 0))), (.v (.int .u64 (.ofNat 0))), (.v (.int .u64 (.ofNat 0))), (.v (.int .u64 (.ofNat 0)))] .e .e))) T11 n10) (.ptr n10 13 0 0) d32 fun r4 T12 => fN (lowN l16 r4) fun l17 =>
   bnd (zload (some 3) T12 d25) fun d33 =>
   bndR (F13 [d33, d29] T12 n11) fun d34 T13 n12 l18 => fN (lowN n11 l18) fun l19 => bB (Nat.beq l19 n11) <|
   zslice (.sl 1) T13 d26 (some d34) none fun f4 d35 =>
   bnd (zload (some 13) T13 (.ptr n10 13 0 0)) fun d36 =>
   bndR (F112 [d36] T13 n12) fun d37 T14 n13 l20 => fN (lowN n12 l20) fun l21 => bB (Nat.beq l21 n12) <|
   biK.zcopy T14 l17 d35 d37 fun r5 f5 d38 T15 l22 => fN l22 fun l23 =>
   bB (apt (.call n11 n12) (.op (ptr? (.ptr n10 13 0 0)) [])) <|
   bB (apt (.op f4 []) (.call n12 n13)) <|
   bnd (zbin .i .add d29 (.v (.int .i64 (.ofNat 1)))) fun d39 =>
  go1 [d25, d26, d27, d28, d39] T15 n13 l23
   ) (
  K1 [d26] T11 n10 l16
   )) [d19, d20, d23, d24, (.v (.int .i64 (.ofNat 0)))] T9 n8 l14) fun K2 =>
 bnd (zfieldAddr 3 (.ptr nx e1 0 0)) fun d40 =>
 bnd (zload none T8 d40) fun d41 =>
 bnd (zlen true d41) fun d42 =>
 lpc fu (fun go2 v4 T16 n14 l24 => unc v4 fun d43 w10 => unc w10 fun d44 w11 => unc w11 fun d45 w12 => unc w12 fun d46 w13 => unc w13 fun d47 w14 => unc w14 fun d48 w15 =>
  bnd (zbin .i .lss d48 d47) fun d49 =>
  cnd d49 (
  bnd (zindexAddr (.sl 5) d46 d48) fun d50 =>
  bnd (zload (some 5) T16 d50) fun d51 =>
  fN (Nat.succ n14) fun n15 =>
  zstore 5 (Tr.set (some (XO.mk 113 5 1 (.n [(.v (.int .i64 (.ofNat 0))), (.v (.int .i64 (.ofNat 0))), (.v (.int .i64 (.ofNat 0))), (.v (.int .i64 (.ofNat 0))), (.v (.int .i64 (.ofNat 0)))] .e .e))) T16 n14) (.ptr n14 5 0 0) d51 fun r6 T17 => fN (lowN l24 r6) fun l25 =>
  bnd (zload (some 3) T17 d44) fun d52 =>
  bndR (F12 [d52, d48] T17 n15) fun d53 T18 n16 l26 => fN (lowN l25 l26) fun l27 =>
  bnd (zfieldAddr 0 (.ptr n14 5 0 0)) fun d54 =>
  bnd (zload (some 4) T18 d54) fun d55 =>
  bndR (F111 [d55] T18 n16) fun d56 T19 n17 l28 => fN (lowN l27 l28) fun l29 =>
  bnd (zextract d56 0) fun d57 =>
  bnd (zextract d56 1) fun d58 =>
  bnd (zindexAddr (.sl 1) d45 d53) fun d59 =>
  zstore 1 T19 d59 d57 fun r7 T20 => fN (lowN l29 r7) fun l30 =>
  bnd (zbin .i .add d53 (.v (.int .i64 (.ofNat 1)))) fun d60 =>
  bnd (zfieldAddr 4 (.ptr n14 5 0 0)) fun d61 =>
  bnd (zload none T20 d61) fun d62 =>
  bnd (zbin .i .add d62 (.v (.int .i64 (.ofNat 1)))) fun d63 =>
  bnd (zconv (.ii .u64) d63) fun d64 =>
  bnd (zindexAddr (.sl 1) d45 d60) fun d65 =>
  zstore 1 T20 d65 d64 fun r8 T21 => fN (lowN l30 r8) fun l31 =>
  bnd (zbin .i .add d48 (.v (.int .i64 (.ofNat 1)))) fun d66 =>
 go2 [d43, d44, d45, d46, d47, d66] T21 n17 l31
  ) (
 K2 [d43, d44, d45] T16 n14 l24
  )) [(.ptr nx e1 0 0), (.ptr n2 3 0 0), d9, d41, d42, (.v (.int .i64 (.ofNat 0)))] T8 n7 l13
 )
theorem e56 (fu : Nat) (a0 a1 : D) (T : ST) (nx : Nat) : fnK Tryz.prog [(100, F100), (109, F109), (110, F110), (17, F17), (13, F13), (112, F112), (12, F12), (111, F111)] (drD Tryz.prog [(100, F100), (109, F109), (110, F110), (17, F17), (13, F13), (112, F112), (12, F12), (111, F111)]) fu Tryz.f56 (.s .o (.s (.s .o (.c (.s .o .o) .o)) (.s .o (.s .o (.s .o (.s .o (.s .o (.j [2, 5, 6] (.s .o (.b (.l [2, 5, 6, 36, 37, 38] (.s .o (.s (.c .o .o) (.s (.b (.s .o (.s .o (.s .o .o)))) .o)))))) (.j [6] (.s .o (.b (.l [5, 6, 65, 66, 67] (.s .o (.s (.c .o .o) (.s (.b (.s .o .o)) .o)))))) (.s .o .o)))))))))) [a0, a1] T nx = s56 fu a0 a1 T nx := by kernel_rfl
noncomputable def F56 : Sem := ar2 (s56 FU)
theorem k56 : FnOk Tryz.prog 56 F56 := ar2_ok (fnK_ok (by kernel_rfl) (CallsOk.cons h100 k100 (CallsOk.cons h109 k109 (CallsOk.cons h110 k110 (CallsOk.cons h17 k17 (CallsOk.cons h13 k13 (CallsOk.cons h112 k112 (CallsOk.cons h12 k12 (CallsOk.cons h111 k111 CallsOk.nil)))))))) (drD_ok hmix (CallsOk.cons h100 k100 (CallsOk.cons h109 k109 (CallsOk.cons h110 k110 (CallsOk.cons h17 k17 (CallsOk.cons h13 k13 (CallsOk.cons h112 k112 (CallsOk.cons h12 k12 (CallsOk.cons h111 k111 CallsOk.nil)))))))))) (e56 FU)
/- reeve/wset.Of -/
theorem h8 : HasFn Tryz.prog 8 := ⟨by kernel_rfl⟩
noncomputable def s8 (fu : Nat) (a0 a1 : D) : ST → Nat → Option Rt := fun T nx =>
 bB (solidB a0) <| fN (Nat.succ nx) fun n1 => fN (dcells a0).length fun e1 =>
 bB (solidB a1) <| fN (Nat.succ n1) fun n2 => fN (dcells a1).length fun e2 =>
 bnd (zload (some 5) (Tr.set (some (xRow 32 (dcells a1))) (Tr.set (some (xRow 32 (dcells a0))) T nx) n1) (.ptr nx e1 0 0)) fun d1 =>
 bndR (F56 [d1, (.v (.int .u64 (.ofNat 0)))] (Tr.set (some (xRow 32 (dcells a1))) (Tr.set (some (xRow 32 (dcells a0))) T nx) n1) n2) fun d2 T1 n3 l1 => fN (lowN n2 l1) fun l2 => bB (Nat.beq l2 n2) <|
 bnd (zload (some 5) T1 (.ptr n1 e2 0 0)) fun d3 =>
 bndR (F56 [d3, (.v (.int .u64 (.ofNat 0)))] T1 n3) fun d4 T2 n4 l3 => fN (lowN n3 l3) fun l4 => bB (Nat.beq l4 n3) <|
 bB (apt (.call n2 n3) (.op (ptr? (.ptr n1 e2 0 0)) [])) <|
 bnd (zlen true d2) fun d5 =>
 bnd (zbin .i .eql d5 (.v (.int .i64 (.ofNat 0)))) fun d6 =>
 opG.gjn (fun k1 => zgd d6 false (
  k1 [] [] d4 T2 n4 nx
 ) (k1 [] [] (.v undef) T2 n4 nx)) fun _ _ d7 T3 n5 l5 =>
 opG.gjn (fun k2 => zgd d6 false (
  bnd (zlen true d7) fun d8 =>
  k2 [] [] d8 T3 n5 l5
 ) (k2 [] [] (.v undef) T3 n5 l5)) fun _ _ d9 T4 n6 l6 =>
 opG.gjn (fun k3 => zgd d6 false (
  bnd (zbin .i .eql d9 (.v (.int .i64 (.ofNat 0)))) fun d10 =>
  k3 [] [] d10 T4 n6 l6
 ) (k3 [] [] (.v undef) T4 n6 l6)) fun _ _ d11 T5 n7 l7 =>
 bnd (zpick d6 (.v (.bool true)) d11) fun d12 =>
 opG.gjn (fun k4 => zgd d12 false (
  bnd (zfieldAddr 0 (.ptr nx e1 0 0)) fun d13 =>
  k4 [] [] d13 T5 n7 l7
 ) (k4 [] [] (.v undef) T5 n7 l7)) fun _ _ d14 T6 n8 l8 =>
 opG.gjn (fun k5 => zgd d12 false (
  bnd (zload (some 3) T6 d14) fun d15 =>
  k5 (ptr? d14) [] d15 T6 n8 l8
 ) (k5 [] [] (.v undef) T6 n8 l8)) fun _ _ d16 T7 n9 l9 =>
 opG.gjn (fun k6 => zgd d12 false (
  bnd (zfieldAddr 0 (.ptr n1 e2 0 0)) fun d17 =>
  k6 [] [] d17 T7 n9 l9
 ) (k6 [] [] (.v undef) T7 n9 l9)) fun _ _ d18 T8 n10 l10 =>
 opG.gjn (fun k7 => zgd d12 false (
  bnd (zload (some 3) T8 d18) fun d19 =>
  k7 (ptr? d18) [] d19 T8 n10 l10
 ) (k7 [] [] (.v undef) T8 n10 l10)) fun _ _ d20 T9 n11 l11 =>
 opG.gjn (fun k8 => zgd d12 false (
  bnd (zbin (.ag [.int .i64, .int .i64, .int .i64]) .neq d16 d20) fun d21 =>
  k8 [] [] d21 T9 n11 l11
 ) (k8 [] [] (.v undef) T9 n11 l11)) fun _ _ d22 T10 n12 l12 =>
 bnd (zpick d12 (.v (.bool true)) d22) fun d23 =>
 cnd d23 (
 finK T nx (.tup [.e0, (.v (.int .i64 (.ofNat 1)))]) T10 n12 l12
 ) (
 jn (fun v1 T11 n13 l13 => unc v1 fun d24 w1 =>
  bnd (zlen true d24) fun d25 =>
  bnd (zbin .i .gtr d25 (.v (.int .i64 (.ofNat 600)))) fun d26 =>
  cnd d26 (
 finK T nx (.tup [.e0, (.v (.int .i64 (.ofNat 10)))]) T11 n13 l13
  ) (
 finK T nx (.tup [d24, (.v (.int .i64 (.ofNat 0)))]) T11 n13 l13
  )) fun K1 =>
 bnd (zlen true d4) fun d27 =>
 lpc fu (fun go1 v2 T12 n14 l14 => unc v2 fun d28 w2 => unc w2 fun d29 w3 => unc w3 fun d30 w4 => unc w4 fun d31 w5 => unc w5 fun d32 w6 =>
  bnd (zbin .i .lss d32 d31) fun d33 =>
  cnd d33 (
  jn (fun v3 T13 n15 l15 => unc v3 fun d34 w7 => unc w7 fun d35 w8 => unc w8 fun d36 w9 => unc w9 fun d37 w10 => unc w10 fun d38 w11 =>
   bnd (zbin .i .add d38 (.v (.int .i64 (.ofNat 1)))) fun d39 =>
 go1 [d34, d35, d36, d37, d39] T13 n15 l15) fun K2 =>
  bnd (zindexAddr (.sl 1) d30 d32) fun d40 =>
  bnd (zload none T12 d40) fun d41 =>
  bnd (zindexAddr (.sl 1) d28 d32) fun d42 =>
  bnd (zload none T12 d42) fun d43 =>
  bnd (zbin .i .neq d43 d41) fun d44 =>
  cnd d44 (
   bnd (zbuild [(.int .i64 (.ofNat 0)), (.int .u64 (.ofNat 0))] [(0, 1), (1, 1)] [0, 1] [d32, d41]) fun d45 =>
   bB (solidL 2 [d45]) <| fN (Nat.succ n14) fun n16 =>
   zappend 40 2 16 (Tr.set (some (xRows 40 2 [dcells d45])) T12 n14) n16 l14 d29 (.vw n14 2 0 1) fun f1 s1 d46 T14 l16 => fN (Nat.succ n16) fun n17 => fN l16 fun l17 =>
  K2 [d28, d46, d30, d31, d32] T14 n17 l17
  ) (
  K2 [d28, d29, d30, d31, d32] T12 n14 l14
  )
  ) (
 K1 [d29] T12 n14 l14
  )) [d2, .e0, d4, d27, (.v (.int .i64 (.ofNat 0)))] T10 n12 l12
 )
theorem e8 (fu : Nat) (a0 a1 : D) (T : ST) (nx : Nat) : fnK Tryz.prog [(56, F56)] (drD Tryz.prog [(56, F56)]) fu Tryz.f8 (.s .o (.s .o (.s (.s .o (.c (.s .o .o) .o)) (.s .o (.j [8] (.s .o (.b (.l [6, 8, 30, 31, 32] (.s .o (.s (.c .o .o) (.j [6, 8, 30, 31, 32] (.b (.s .o (.s .o (.c .o .o)))) .o)))))) (.s (.s .o (.c (.s .o .o) .o)) (.s .o .o))))))) [a0, a1] T nx = s8 fu a0 a1 T nx := by kernel_rfl
noncomputable def F8 : Sem := ar2 (s8 FU)
theorem k8 : FnOk Tryz.prog 8 F8 := ar2_ok (fnK_ok (by kernel_rfl) (CallsOk.cons h56 k56 CallsOk.nil) (drD_ok hmix (CallsOk.cons h56 k56 CallsOk.nil))) (e8 FU)
end Go.Abs
