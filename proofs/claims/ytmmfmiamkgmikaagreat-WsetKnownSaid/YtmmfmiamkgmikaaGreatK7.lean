/- Functions of the program as what they run as, printed by a program of this session. -/
import Derived.Test.YtmmfmiamkgmikaaGreatK6
set_option linter.unusedVariables false
set_option maxRecDepth 100000
open Go Go.Proofs
namespace Go.Abs
/- (reeve/forest.Forest).of -/
theorem h216 : HasFn Tryz.prog 216 := ⟨by kernel_rfl⟩
noncomputable def s216 (fu : Nat) (a0 a1 : D) : ST → Nat → Option Rt := fun T nx =>
 bB (solidB a0) <| fN (Nat.succ nx) fun n1 => fN (dcells a0).length fun e1 =>
 jn (fun v1 T1 n2 l1 => unc v1 fun d1 w1 =>
 finK T nx d1 T1 n2 l1) fun K1 =>
 bnd (zfieldAddr 0 (.ptr nx e1 0 0)) fun d2 =>
 bnd (zload none (Tr.set (some (xRow 201 (dcells a0))) T nx) d2) fun d3 =>
 bnd (zlen true d3) fun d4 =>
 lpc fu (fun go1 v2 T2 n3 l2 => unc v2 fun d5 w2 => unc w2 fun d6 w3 => unc w3 fun d7 w4 => unc w4 fun d8 w5 => unc w5 fun d9 w6 =>
  bnd (zbin .i .lss d9 d8) fun d10 =>
  cnd d10 (
  jn (fun v3 T3 n4 l3 => unc v3 fun d11 w7 => unc w7 fun d12 w8 => unc w8 fun d13 w9 => unc w9 fun d14 w10 => unc w10 fun d15 w11 =>
   bnd (zbin .i .add d15 (.v (.int .i64 (.ofNat 1)))) fun d16 =>
 go1 [d11, d12, d13, d14, d16] T3 n4 l3) fun K2 =>
  bnd (zindexAddr (.sl 1) d7 d9) fun d17 =>
  bnd (zload none T2 d17) fun d18 =>
  bnd (zbin .i .eql d18 d5) fun d19 =>
  cnd d19 (
   bB (solidL 1 [d9]) <| fN (Nat.succ n3) fun n5 =>
   zappend 3 1 8 (Tr.set (some (xRows 3 1 [dcells d9])) T2 n3) n5 l2 d6 (.vw n3 1 0 1) fun f1 s1 d20 T4 l4 => fN (Nat.succ n5) fun n6 => fN l4 fun l5 =>
  K2 [d5, d20, d7, d8, d9] T4 n6 l5
  ) (
  K2 [d5, d6, d7, d8, d9] T2 n3 l2
  )
  ) (
 K1 [d6] T2 n3 l2
  )) [a1, .e0, d3, d4, (.v (.int .i64 (.ofNat 0)))] (Tr.set (some (xRow 201 (dcells a0))) T nx) n1 nx
theorem e216 (fu : Nat) (a0 a1 : D) (T : ST) (nx : Nat) : fnK Tryz.prog [] dr0 fu Tryz.f216 (.s .o (.s .o (.j [5] (.s .o (.b (.l [1, 5, 9, 10, 11] (.s .o (.s (.c .o .o) (.j [1, 5, 9, 10, 11] (.b (.s .o (.s .o (.c .o .o)))) .o)))))) (.s .o .o)))) [a0, a1] T nx = s216 fu a0 a1 T nx := by kernel_rfl
noncomputable def F216 : Sem := ar2 (s216 FU)
theorem k216 : FnOk Tryz.prog 216 F216 := ar2_ok (fnK_ok (by kernel_rfl) CallsOk.nil dr0_ok) (e216 FU)
/- reeve/forest.Kids -/
theorem h246 : HasFn Tryz.prog 246 := ⟨by kernel_rfl⟩
noncomputable def s246 (a0 a1 : D) : ST → Nat → Option Rt := fun T nx =>
 bB (solidB a0) <| fN (Nat.succ nx) fun n1 => fN (dcells a0).length fun e1 =>
 bnd (zload (some 1) (Tr.set (some (xRow 201 (dcells a0))) T nx) (.ptr nx e1 0 0)) fun d1 =>
 bndR (F214 [d1, a1] (Tr.set (some (xRow 201 (dcells a0))) T nx) n1) fun d2 T1 n2 l1 => fN (lowN nx l1) fun l2 =>
 bnd (zun .not d2) fun d3 =>
 cnd d3 (
 finK T nx .e0 T1 n2 l2
 ) (
 bnd (zload (some 1) T1 (.ptr nx e1 0 0)) fun d4 =>
 bndR (F216 [d4, a1] T1 n2) fun d5 T2 n3 l3 => fN (lowN l2 l3) fun l4 =>
 finK T nx d5 T2 n3 l4
 )
theorem e246 (a0 a1 : D) (T : ST) (nx : Nat) : fnK Tryz.prog [(214, F214), (216, F216)] dr0 FU Tryz.f246 (.s .o (.s (.s .o (.c (.s .o .o) .o)) (.s .o .o))) [a0, a1] T nx = s246 a0 a1 T nx := by kernel_rfl
noncomputable def F246 : Sem := ar2 s246
theorem k246 : FnOk Tryz.prog 246 F246 := ar2_ok (fnK_ok (by kernel_rfl) (CallsOk.cons h214 k214 (CallsOk.cons h216 k216 CallsOk.nil)) dr0_ok) e246
/- reeve/carve.Used -/
theorem h205 : HasFn Tryz.prog 205 := ⟨by kernel_rfl⟩
noncomputable def s205 (a0 a1 : D) : ST → Nat → Option Rt := fun T nx =>
 bB (solidB a0) <| fN (Nat.succ nx) fun n1 => fN (dcells a0).length fun e1 =>
 bnd (zload (some 5) (Tr.set (some (xRow 32 (dcells a0))) T nx) (.ptr nx e1 0 0)) fun d1 =>
 bndR (F100 [d1] (Tr.set (some (xRow 32 (dcells a0))) T nx) n1) fun d2 T1 n2 l1 => fN (lowN nx l1) fun l2 =>
 bnd (zun .not d2) fun d3 =>
 opG.gjn (fun k1 => zgd d3 false (
  k1 [] [] a1 T1 n2 l2
 ) (k1 [] [] (.v undef) T1 n2 l2)) fun _ _ d4 T2 n3 l3 =>
 opG.gjn (fun k2 => zgd d3 false (
  bnd (zbin .i .lss d4 (.v (.int .i64 (.ofNat 0)))) fun d5 =>
  k2 [] [] d5 T2 n3 l3
 ) (k2 [] [] (.v undef) T2 n3 l3)) fun _ _ d6 T3 n4 l4 =>
 bnd (zpick d3 (.v (.bool true)) d6) fun d7 =>
 opG.gjn (fun k3 => zgd d7 false (
  k3 [] [] a1 T3 n4 l4
 ) (k3 [] [] (.v undef) T3 n4 l4)) fun _ _ d8 T4 n5 l5 =>
 opG.gjn (fun k4 => zgd d7 false (
  bnd (zfieldAddr 3 (.ptr nx e1 0 0)) fun d9 =>
  k4 [] [] d9 T4 n5 l5
 ) (k4 [] [] (.v undef) T4 n5 l5)) fun _ _ d10 T5 n6 l6 =>
 opG.gjn (fun k5 => zgd d7 false (
  bnd (zload none T5 d10) fun d11 =>
  k5 (ptr? d10) [] d11 T5 n6 l6
 ) (k5 [] [] (.v undef) T5 n6 l6)) fun _ _ d12 T6 n7 l7 =>
 opG.gjn (fun k6 => zgd d7 false (
  bnd (zlen true d12) fun d13 =>
  k6 [] [] d13 T6 n7 l7
 ) (k6 [] [] (.v undef) T6 n7 l7)) fun _ _ d14 T7 n8 l8 =>
 opG.gjn (fun k7 => zgd d7 false (
  bnd (zbin .i .geq d8 d14) fun d15 =>
  k7 [] [] d15 T7 n8 l8
 ) (k7 [] [] (.v undef) T7 n8 l8)) fun _ _ d16 T8 n9 l9 =>
 bnd (zpick d7 (.v (.bool true)) d16) fun d17 =>
 opG.gjn (fun k8 => zgd d17 false (
  bnd (zfieldAddr 3 (.ptr nx e1 0 0)) fun d18 =>
  k8 [] [] d18 T8 n9 l9
 ) (k8 [] [] (.v undef) T8 n9 l9)) fun _ _ d19 T9 n10 l10 =>
 opG.gjn (fun k9 => zgd d17 false (
  bnd (zload none T9 d19) fun d20 =>
  k9 (ptr? d19) [] d20 T9 n10 l10
 ) (k9 [] [] (.v undef) T9 n10 l10)) fun _ _ d21 T10 n11 l11 =>
 opG.gjn (fun k10 => zgd d17 false (
  k10 [] [] a1 T10 n11 l11
 ) (k10 [] [] (.v undef) T10 n11 l11)) fun _ _ d22 T11 n12 l12 =>
 opG.gjn (fun k11 => zgd d17 false (
  bnd (zindexAddr (.sl 5) d21 d22) fun d23 =>
  k11 [] [] d23 T11 n12 l12
 ) (k11 [] [] (.v undef) T11 n12 l12)) fun _ _ d24 T12 n13 l13 =>
 opG.gjn (fun k12 => zgd d17 false (
  bnd (zfieldAddr 0 d24) fun d25 =>
  k12 [] [] d25 T12 n13 l13
 ) (k12 [] [] (.v undef) T12 n13 l13)) fun _ _ d26 T13 n14 l14 =>
 opG.gjn (fun k13 => zgd d17 false (
  bnd (zfieldAddr 0 d26) fun d27 =>
  k13 [] [] d27 T13 n14 l14
 ) (k13 [] [] (.v undef) T13 n14 l14)) fun _ _ d28 T14 n15 l15 =>
 opG.gjn (fun k14 => zgd d17 false (
  bnd (zload none T14 d28) fun d29 =>
  k14 (ptr? d28) [] d29 T14 n15 l15
 ) (k14 [] [] (.v undef) T14 n15 l15)) fun _ _ d30 T15 n16 l16 =>
 opG.gjn (fun k15 => zgd d17 false (
  bnd (zbin .i .neq d30 (.v (.int .i64 (.ofNat 1)))) fun d31 =>
  k15 [] [] d31 T15 n16 l16
 ) (k15 [] [] (.v undef) T15 n16 l16)) fun _ _ d32 T16 n17 l17 =>
 bnd (zpick d17 (.v (.bool true)) d32) fun d33 =>
 cnd d33 (
 finK T nx (.v (.int .i64 (.ofNat 0))) T16 n17 l17
 ) (
 bnd (zload (some 5) T16 (.ptr nx e1 0 0)) fun d34 =>
 bndR (F147 [d34] T16 n17) fun d35 T17 n18 l18 => fN (lowN l17 l18) fun l19 =>
 bndR (F246 [d35, a1] T17 n18) fun d36 T18 n19 l20 => fN (lowN l19 l20) fun l21 =>
 bnd (zlen true d36) fun d37 =>
 bnd (zbin .i .eql d37 (.v (.int .i64 (.ofNat 0)))) fun d38 =>
 cnd d38 (
 finK T nx (.v (.int .i64 (.ofNat 0))) T18 n19 l21
 ) (
 bnd (zfieldAddr 4 (.ptr nx e1 0 0)) fun d39 =>
 bnd (zload none T18 d39) fun d40 =>
 bnd (zfieldAddr 3 (.ptr nx e1 0 0)) fun d41 =>
 bnd (zload none T18 d41) fun d42 =>
 bnd (zindexAddr (.sl 5) d42 a1) fun d43 =>
 bnd (zfieldAddr 0 d43) fun d44 =>
 bnd (zfieldAddr 1 d44) fun d45 =>
 bnd (zload none T18 d45) fun d46 =>
 bnd (zindexAddr (.sl 13) d40 d46) fun d47 =>
 bnd (zfieldAddr 4 d47) fun d48 =>
 bnd (zload none T18 d48) fun d49 =>
 finK T nx d49 T18 n19 l21
 )
 )
theorem e205 (a0 a1 : D) (T : ST) (nx : Nat) : fnK Tryz.prog [(100, F100), (147, F147), (246, F246)] (drD Tryz.prog [(100, F100), (147, F147), (246, F246)]) FU Tryz.f205 (.s .o (.s (.s .o (.c (.s .o .o) .o)) (.s (.s .o (.c (.s .o .o) .o)) (.s .o .o)))) [a0, a1] T nx = s205 a0 a1 T nx := by kernel_rfl
noncomputable def F205 : Sem := ar2 s205
theorem k205 : FnOk Tryz.prog 205 F205 := ar2_ok (fnK_ok (by kernel_rfl) (CallsOk.cons h100 k100 (CallsOk.cons h147 k147 (CallsOk.cons h246 k246 CallsOk.nil))) (drD_ok hmix (CallsOk.cons h100 k100 (CallsOk.cons h147 k147 (CallsOk.cons h246 k246 CallsOk.nil))))) e205
/- reeve/state.Free -/
theorem h206 : HasFn Tryz.prog 206 := ⟨by kernel_rfl⟩
noncomputable def s206 (a0 : D) : ST → Nat → Option Rt := fun T nx =>
 bB (solidB a0) <| fN (Nat.succ nx) fun n1 => fN (dcells a0).length fun e1 =>
 bnd (zload (some 5) (Tr.set (some (xRow 32 (dcells a0))) T nx) (.ptr nx e1 0 0)) fun d1 =>
 bndR (F100 [d1] (Tr.set (some (xRow 32 (dcells a0))) T nx) n1) fun d2 T1 n2 l1 => fN (lowN nx l1) fun l2 =>
 bnd (zun .not d2) fun d3 =>
 cnd d3 (
 finK T nx (.v (.int .i64 (.negSucc 0))) T1 n2 l2
 ) (
 bnd (zfieldAddr 4 (.ptr nx e1 0 0)) fun d4 =>
 bnd (zload none T1 d4) fun d5 =>
 bndR (F247 [d5, (.clo 248 [])] T1 n2) fun d6 T2 n3 l3 => fN (lowN l2 l3) fun l4 =>
 finK T nx d6 T2 n3 l4
 )
theorem e206 (a0 : D) (T : ST) (nx : Nat) : fnK Tryz.prog [(100, F100), (247, F247)] dr0 FU Tryz.f206 (.s .o (.s (.s .o (.c (.s .o .o) .o)) (.s .o .o))) [a0] T nx = s206 a0 T nx := by kernel_rfl
noncomputable def F206 : Sem := ar1 s206
theorem k206 : FnOk Tryz.prog 206 F206 := ar1_ok (fnK_ok (by kernel_rfl) (CallsOk.cons h100 k100 (CallsOk.cons h247 k247 CallsOk.nil)) dr0_ok) e206
/- reeve/state.Gap -/
theorem h207 : HasFn Tryz.prog 207 := ⟨by kernel_rfl⟩
noncomputable def s207 (fu : Nat) (a0 a1 : D) : ST → Nat → Option Rt := fun T nx =>
 bB (solidB a0) <| fN (Nat.succ nx) fun n1 => fN (dcells a0).length fun e1 =>
 bnd (zload (some 5) (Tr.set (some (xRow 32 (dcells a0))) T nx) (.ptr nx e1 0 0)) fun d1 =>
 bndR (F100 [d1] (Tr.set (some (xRow 32 (dcells a0))) T nx) n1) fun d2 T1 n2 l1 => fN (lowN nx l1) fun l2 =>
 bnd (zun .not d2) fun d3 =>
 opG.gjn (fun k1 => zgd d3 false (
  k1 [] [] a1 T1 n2 l2
 ) (k1 [] [] (.v undef) T1 n2 l2)) fun _ _ d4 T2 n3 l3 =>
 opG.gjn (fun k2 => zgd d3 false (
  bnd (zbin .i .lss d4 (.v (.int .i64 (.ofNat 1)))) fun d5 =>
  k2 [] [] d5 T2 n3 l3
 ) (k2 [] [] (.v undef) T2 n3 l3)) fun _ _ d6 T3 n4 l4 =>
 bnd (zpick d3 (.v (.bool true)) d6) fun d7 =>
 opG.gjn (fun k3 => zgd d7 false (
  k3 [] [] a1 T3 n4 l4
 ) (k3 [] [] (.v undef) T3 n4 l4)) fun _ _ d8 T4 n5 l5 =>
 opG.gjn (fun k4 => zgd d7 false (
  bnd (zbin .i .gtr d8 (.v (.int .i64 (.ofNat 4)))) fun d9 =>
  k4 [] [] d9 T4 n5 l5
 ) (k4 [] [] (.v undef) T4 n5 l5)) fun _ _ d10 T5 n6 l6 =>
 bnd (zpick d7 (.v (.bool true)) d10) fun d11 =>
 cnd d11 (
 finK T nx (.tup [(.v (.int .i64 (.ofNat 0))), (.v (.bool false))]) T5 n6 l6
 ) (
 jn (fun v1 T6 n7 l7 =>
 finK T nx (.tup [(.v (.int .i64 (.ofNat 0))), (.v (.bool false))]) T6 n7 l7) fun K1 =>
 bnd (zfieldAddr 3 (.ptr nx e1 0 0)) fun d12 =>
 bnd (zload none T5 d12) fun d13 =>
 bnd (zlen true d13) fun d14 =>
 lpc fu (fun go1 v2 T7 n8 l8 => unc v2 fun d15 w1 => unc w1 fun d16 w2 => unc w2 fun d17 w3 => unc w3 fun d18 w4 => unc w4 fun d19 w5 =>
  bnd (zbin .i .lss d19 d18) fun d20 =>
  cnd d20 (
  bnd (zbin .i .add d17 (.v (.int .i64 (.ofNat 1)))) fun d21 =>
  jn (fun v3 T8 n9 l9 => unc v3 fun d22 w6 => unc w6 fun d23 w7 => unc w7 fun d24 w8 => unc w8 fun d25 w9 => unc w9 fun d26 w10 => unc w10 fun d27 w11 =>
   bnd (zbin .sh .shl (.v (.int .i64 (.ofNat 1))) d22) fun d28 =>
   bnd (zbin .i .eql d24 d28) fun d29 =>
   cnd d29 (
    bnd (zbin .i .add d25 (.v (.int .i64 (.ofNat 1)))) fun d30 =>
    bnd (zbin .i .sub d30 d24) fun d31 =>
 finK T nx (.tup [d31, (.v (.bool true))]) T8 n9 l9
   ) (
  bnd (zbin .i .add d27 (.v (.int .i64 (.ofNat 1)))) fun d32 =>
 go1 [d22, d23, d24, d26, d32] T8 n9 l9
   )) fun K2 =>
  bnd (zload (some 5) T7 d16) fun d33 =>
  bndR (F238 [d33, d19] T7 n8) fun d34 T9 n10 l10 => fN (lowN l8 l10) fun l11 =>
  bnd (zbin .i .neq d34 (.v (.int .i64 (.negSucc 0)))) fun d35 =>
  cnd d35 (
  K2 [d15, d16, (.v (.int .i64 (.ofNat 0))), d19, d18, d19] T9 n10 l11
  ) (
  K2 [d15, d16, d21, d19, d18, d19] T9 n10 l11
  )
  ) (
 K1 [] T7 n8 l8
  )) [a1, (.ptr nx e1 0 0), (.v (.int .i64 (.ofNat 0))), d14, (.v (.int .i64 (.ofNat 0)))] T5 n6 l6
 )
theorem e207 (fu : Nat) (a0 a1 : D) (T : ST) (nx : Nat) : fnK Tryz.prog [(100, F100), (238, F238)] dr0 fu Tryz.f207 (.s .o (.s (.s .o (.c (.s .o .o) .o)) (.s .o (.j [] (.s .o (.b (.l [1, 2, 6, 21, 22] (.s .o (.s (.c .o .o) (.s (.b (.s .o (.s .o (.j [1, 2, 6, 7, 21, 22] (.s .o (.c .o .o)) (.s .o (.c (.s .o .o) .o)))))) .o)))))) (.s .o .o))))) [a0, a1] T nx = s207 fu a0 a1 T nx := by kernel_rfl
noncomputable def F207 : Sem := ar2 (s207 FU)
theorem k207 : FnOk Tryz.prog 207 F207 := ar2_ok (fnK_ok (by kernel_rfl) (CallsOk.cons h100 k100 (CallsOk.cons h238 k238 CallsOk.nil)) dr0_ok) (e207 FU)
/- reeve/carve.carved -/
theorem h154 : HasFn Tryz.prog 154 := ⟨by kernel_rfl⟩
noncomputable def s154 (a0 a1 a2 : D) : ST → Nat → Option Rt := fun T nx =>
 bB (solidB a0) <| fN (Nat.succ nx) fun n1 => fN (dcells a0).length fun e1 =>
 bB (solidB a2) <| fN (Nat.succ n1) fun n2 => fN (dcells a2).length fun e2 =>
 fN (Nat.succ n2) fun n3 =>
 bnd (zload (some 6) (Tr.set (some (XO.mk 32 5 1 (.n [(.v (.int .i64 (.ofNat 0))), (.v (.int .i64 (.ofNat 0))), (.v (.int .i64 (.ofNat 0))), .e0, .e0] .e .e))) (Tr.set (some (xRow 82 (dcells a2))) (Tr.set (some (xRow 32 (dcells a0))) T nx) n1) n2) (.ptr n1 e2 0 0)) fun d1 =>
 bndR (F101 [d1] (Tr.set (some (XO.mk 32 5 1 (.n [(.v (.int .i64 (.ofNat 0))), (.v (.int .i64 (.ofNat 0))), (.v (.int .i64 (.ofNat 0))), .e0, .e0] .e .e))) (Tr.set (some (xRow 82 (dcells a2))) (Tr.set (some (xRow 32 (dcells a0))) T nx) n1) n2) n3) fun d2 T1 n4 l1 => fN (lowN nx l1) fun l2 =>
 bnd (zun .not d2) fun d3 =>
 opG.gjn (fun k1 => zgd d3 false (
  bnd (zfieldAddr 0 (.ptr n1 e2 0 0)) fun d4 =>
  k1 [] [] d4 T1 n4 l2
 ) (k1 [] [] (.v undef) T1 n4 l2)) fun _ _ d5 T2 n5 l3 =>
 opG.gjn (fun k2 => zgd d3 false (
  bnd (zload none T2 d5) fun d6 =>
  k2 (ptr? d5) [] d6 T2 n5 l3
 ) (k2 [] [] (.v undef) T2 n5 l3)) fun _ _ d7 T3 n6 l4 =>
 opG.gjn (fun k3 => zgd d3 false (
  bnd (zbin .i .neq d7 (.v (.int .i64 (.ofNat 1)))) fun d8 =>
  k3 [] [] d8 T3 n6 l4
 ) (k3 [] [] (.v undef) T3 n6 l4)) fun _ _ d9 T4 n7 l5 =>
 bnd (zpick d3 (.v (.bool true)) d9) fun d10 =>
 cnd d10 (
  bnd (zload (some 5) T4 (.ptr nx e1 0 0)) fun d11 =>
  zstore 5 T4 (.ptr n2 5 0 0) d11 fun r1 T5 => fN (lowN l5 r1) fun l6 =>
 bnd (zres (some 5) T5 (.ptr n2 5 0 0)) fun d12 =>
 finK T nx (.tup [d12, (.v (.int .i64 (.ofNat 0))), (.v (.int .i64 (.ofNat 1)))]) T5 n7 l6
 ) (
 bnd (zload (some 5) T4 (.ptr nx e1 0 0)) fun d13 =>
 bnd (zfieldAddr 1 (.ptr n1 e2 0 0)) fun d14 =>
 bnd (zload (some 1) T4 d14) fun d15 =>
 bndR (F156 [d13, a1, d15] T4 n7) fun d16 T6 n8 l7 => fN (lowN l5 l7) fun l8 =>
 bnd (zextract d16 0) fun d17 =>
 bnd (zextract d16 1) fun d18 =>
 bnd (zextract d16 2) fun d19 =>
 fN (Nat.succ n8) fun n9 =>
 zstore 4 (Tr.set (some (XO.mk 111 4 1 (.n [(.v (.int .i64 (.ofNat 0))), (.v (.int .i64 (.ofNat 0))), (.v (.int .i64 (.ofNat 0))), (.v (.int .i64 (.ofNat 0)))] .e .e))) T6 n8) (.ptr n8 4 0 0) d18 fun r2 T7 => fN (lowN l8 r2) fun l9 =>
 bnd (zbin .i .neq d19 (.v (.int .i64 (.ofNat 0)))) fun d20 =>
 cnd d20 (
  bnd (zload (some 5) T7 (.ptr nx e1 0 0)) fun d21 =>
  zstore 5 T7 (.ptr n2 5 0 0) d21 fun r3 T8 => fN (lowN l9 r3) fun l10 =>
 bnd (zres (some 5) T8 (.ptr n2 5 0 0)) fun d22 =>
 finK T nx (.tup [d22, (.v (.int .i64 (.ofNat 0))), d19]) T8 n9 l10
 ) (
  bnd (zfieldAddr 0 (.ptr n8 4 0 0)) fun d23 =>
  bnd (zload none T7 d23) fun d24 =>
  bnd (zbin .i .neq d24 (.v (.int .i64 (.ofNat 1)))) fun d25 =>
  cnd d25 (
   bnd (zload (some 5) T7 (.ptr nx e1 0 0)) fun d26 =>
   zstore 5 T7 (.ptr n2 5 0 0) d26 fun r4 T9 => fN (lowN l9 r4) fun l11 =>
 bnd (zres (some 5) T9 (.ptr n2 5 0 0)) fun d27 =>
 finK T nx (.tup [d27, (.v (.int .i64 (.ofNat 0))), (.v (.int .i64 (.ofNat 7)))]) T9 n9 l11
  ) (
   bnd (zfieldAddr 2 (.ptr n8 4 0 0)) fun d28 =>
   bnd (zload none T7 d28) fun d29 =>
   bndR (F159 [(.v (.int .i64 (.ofNat 2))), d29] T7 n9) fun d30 T10 n10 l12 => fN (lowN l9 l12) fun l13 =>
   bnd (zun .not d30) fun d31 =>
   cnd d31 (
    bnd (zload (some 5) T10 (.ptr nx e1 0 0)) fun d32 =>
    zstore 5 T10 (.ptr n2 5 0 0) d32 fun r5 T11 => fN (lowN l13 r5) fun l14 =>
 bnd (zres (some 5) T11 (.ptr n2 5 0 0)) fun d33 =>
 finK T nx (.tup [d33, (.v (.int .i64 (.ofNat 0))), (.v (.int .i64 (.ofNat 6)))]) T11 n10 l14
   ) (
 bnd (zload (some 5) T10 (.ptr nx e1 0 0)) fun d34 =>
 bnd (zfieldAddr 2 (.ptr n1 e2 0 0)) fun d35 =>
 bnd (zload (some 1) T10 d35) fun d36 =>
 bndR (F203 [d34, a1, d36] T10 n10) fun d37 T12 n11 l15 => fN (lowN l13 l15) fun l16 =>
 bnd (zextract d37 0) fun d38 =>
 bnd (zextract d37 1) fun d39 =>
 bnd (zbin .i .neq d39 (.v (.int .i64 (.ofNat 0)))) fun d40 =>
 cnd d40 (
  bnd (zload (some 5) T12 (.ptr nx e1 0 0)) fun d41 =>
  zstore 5 T12 (.ptr n2 5 0 0) d41 fun r6 T13 => fN (lowN l16 r6) fun l17 =>
 bnd (zres (some 5) T13 (.ptr n2 5 0 0)) fun d42 =>
 finK T nx (.tup [d42, (.v (.int .i64 (.ofNat 0))), d39]) T13 n11 l17
 ) (
 bnd (zfieldAddr 3 (.ptr n1 e2 0 0)) fun d43 =>
 bnd (zload none T12 d43) fun d44 =>
 bnd (zfieldAddr 4 (.ptr n1 e2 0 0)) fun d45 =>
 bnd (zload none T12 d45) fun d46 =>
 bndR (F204 [d44, d46] T12 n11) fun d47 T14 n12 l18 => fN (lowN l16 l18) fun l19 =>
 bnd (zextract d47 0) fun d48 =>
 bnd (zextract d47 1) fun d49 =>
 bnd (zun .not d49) fun d50 =>
 cnd d50 (
  bnd (zload (some 5) T14 (.ptr nx e1 0 0)) fun d51 =>
  zstore 5 T14 (.ptr n2 5 0 0) d51 fun r7 T15 => fN (lowN l19 r7) fun l20 =>
 bnd (zres (some 5) T15 (.ptr n2 5 0 0)) fun d52 =>
 finK T nx (.tup [d52, (.v (.int .i64 (.ofNat 0))), (.v (.int .i64 (.ofNat 1)))]) T15 n12 l20
 ) (
 bnd (zload (some 5) T14 (.ptr nx e1 0 0)) fun d53 =>
 bndR (F205 [d53, d17] T14 n12) fun d54 T16 n13 l21 => fN (lowN l19 l21) fun l22 =>
 bnd (zbin .i .add d54 d48) fun d55 =>
 bnd (zload (some 5) T16 (.ptr nx e1 0 0)) fun d56 =>
 bndR (F206 [d56] T16 n13) fun d57 T17 n14 l23 => fN (lowN l22 l23) fun l24 =>
 jn (fun v1 T18 n15 l25 => unc v1 fun d58 w1 => unc w1 fun d59 w2 => unc w2 fun d60 w3 => unc w3 fun d61 w4 => unc w4 fun d62 w5 => unc w5 fun d63 w6 => unc w6 fun d64 w7 => unc w7 fun d65 w8 => unc w8 fun d66 w9 => unc w9 fun d67 w10 =>
  bnd (zfieldAddr 4 d58) fun d68 =>
  bnd (zload none T18 d68) fun d69 =>
  bnd (zfieldAddr 1 d62) fun d70 =>
  bnd (zload none T18 d70) fun d71 =>
  bnd (zindexAddr (.sl 13) d69 d71) fun d72 =>
  bnd (zfieldAddr 3 d72) fun d73 =>
  bnd (zload none T18 d73) fun d74 =>
  bnd (zbin .i .gtr d65 d74) fun d75 =>
  opG.gjn (fun k4 => zgd d75 false (
   k4 [] [] d64 T18 n15 l25
  ) (k4 [] [] (.v undef) T18 n15 l25)) fun _ _ d76 T19 n16 l26 =>
  opG.gjn (fun k5 => zgd d75 false (
   bnd (zun .not d76) fun d77 =>
   k5 [] [] d77 T19 n16 l26
  ) (k5 [] [] (.v undef) T19 n16 l26)) fun _ _ d78 T20 n17 l27 =>
  bnd (zpick d75 (.v (.bool true)) d78) fun d79 =>
  opG.gjn (fun k6 => zgd d79 false (
   k6 [] [] d66 T20 n17 l27
  ) (k6 [] [] (.v undef) T20 n17 l27)) fun _ _ d80 T21 n18 l28 =>
  opG.gjn (fun k7 => zgd d79 false (
   bnd (zbin .i .lss d80 (.v (.int .i64 (.ofNat 0)))) fun d81 =>
   k7 [] [] d81 T21 n18 l28
  ) (k7 [] [] (.v undef) T21 n18 l28)) fun _ _ d82 T22 n19 l29 =>
  bnd (zpick d79 (.v (.bool true)) d82) fun d83 =>
  cnd d83 (
   bnd (zload (some 5) T22 d58) fun d84 =>
   zstore 5 T22 d60 d84 fun r8 T23 => fN (lowN l29 r8) fun l30 =>
 bnd (zres (some 5) T23 d60) fun d85 =>
 finK T nx (.tup [d85, (.v (.int .i64 (.ofNat 0))), (.v (.int .i64 (.ofNat 8)))]) T23 n19 l30
  ) (
  bnd (zload (some 5) T22 d58) fun d86 =>
  bndR (F162 [d86] T22 n19) fun d87 T24 n20 l31 => fN (lowN l29 l31) fun l32 =>
  zstore 5 T24 d58 d87 fun r9 T25 => fN (lowN l32 r9) fun l33 =>
  bnd (zfieldAddr 4 d58) fun d88 =>
  bnd (zload none T25 d88) fun d89 =>
  bnd (zfieldAddr 3 d59) fun d90 =>
  bnd (zload none T25 d90) fun d91 =>
  bnd (zfieldAddr 4 d59) fun d92 =>
  bnd (zload none T25 d92) fun d93 =>
  bndR (F57 [d91, d93, d67] T25 n20) fun d94 T26 n21 l34 => fN (lowN n20 l34) fun l35 => bB (Nat.beq l35 n20) <|
  bnd (zextract d94 0) fun d95 =>
  bnd (zextract d94 1) fun d96 =>
  bnd (zindexAddr (.sl 13) d89 d66) fun d97 =>
  zstore 13 T26 d97 d95 fun r10 T27 => fN (lowN l33 r10) fun l36 =>
  bB (apt (.op (ptr? d88) []) (.call n20 n21)) <|
  bnd (zfieldAddr 4 d58) fun d98 =>
  bnd (zload none T27 d98) fun d99 =>
  bnd (zfieldAddr 1 d62) fun d100 =>
  bnd (zload none T27 d100) fun d101 =>
  bnd (zindexAddr (.sl 13) d99 d101) fun d102 =>
  bnd (zfieldAddr 4 d102) fun d103 =>
  zstore 1 T27 d103 d65 fun r11 T28 => fN (lowN l36 r11) fun l37 =>
  bnd (zfieldAddr 3 d58) fun d104 =>
  bnd (zload none T28 d104) fun d105 =>
  bnd (zfieldAddr 3 d59) fun d106 =>
  bnd (zload none T28 d106) fun d107 =>
  bnd (zbuild [(.int .i64 (.ofNat 0)), (.int .i64 (.ofNat 0)), (.int .i64 (.ofNat 0)), (.int .i64 (.ofNat 0))] [(0, 1), (1, 1), (2, 1), (3, 1)] [0, 1, 2] [d107, d66, (.v (.int .i64 (.ofNat 7)))]) fun d108 =>
  bnd (zbuild [(.int .i64 (.ofNat 0)), (.int .i64 (.ofNat 0)), (.int .i64 (.ofNat 0)), (.int .i64 (.ofNat 0)), (.int .i64 (.ofNat 0))] [(0, 4), (4, 1)] [0, 1] [d108, d61]) fun d109 =>
  bnd (zindexAddr (.sl 5) d105 d63) fun d110 =>
  zstore 5 T28 d110 d109 fun r12 T29 => fN (lowN l37 r12) fun l38 =>
  bnd (zload (some 5) T29 d58) fun d111 =>
  zstore 5 T29 d60 d111 fun r13 T30 => fN (lowN l38 r13) fun l39 =>
 bnd (zres (some 5) T30 d60) fun d112 =>
 finK T nx (.tup [d112, d66, (.v (.int .i64 (.ofNat 0)))]) T30 n21 l39
  )) fun K1 =>
 bnd (zfieldAddr 3 (.ptr n1 e2 0 0)) fun d113 =>
 bnd (zload none T17 d113) fun d114 =>
 bnd (zbin .i .eql d114 (.v (.int .i64 (.ofNat 2)))) fun d115 =>
 cnd d115 (
  bnd (zload (some 5) T17 (.ptr nx e1 0 0)) fun d116 =>
  bnd (zfieldAddr 4 (.ptr n1 e2 0 0)) fun d117 =>
  bnd (zload none T17 d117) fun d118 =>
  bndR (F207 [d116, d118] T17 n14) fun d119 T31 n22 l40 => fN (lowN l24 l40) fun l41 =>
  bnd (zextract d119 0) fun d120 =>
  bnd (zextract d119 1) fun d121 =>
 K1 [(.ptr nx e1 0 0), (.ptr n1 e2 0 0), (.ptr n2 5 0 0), d17, (.ptr n8 4 0 0), d38, d121, d55, d57, d120] T31 n22 l41
 ) (
 K1 [(.ptr nx e1 0 0), (.ptr n1 e2 0 0), (.ptr n2 5 0 0), d17, (.ptr n8 4 0 0), d38, d49, d55, d57, (.v (.int .i64 (.ofNat 0)))] T17 n14 l24
 )
 )
 )
   )
  )
 )
 )
theorem e154 (a0 a1 a2 : D) (T : ST) (nx : Nat) : fnK Tryz.prog [(101, F101), (156, F156), (159, F159), (203, F203), (204, F204), (205, F205), (206, F206), (162, F162), (57, F57), (207, F207)] (drD Tryz.prog [(101, F101), (156, F156), (159, F159), (203, F203), (204, F204), (205, F205), (206, F206), (162, F162), (57, F57), (207, F207)]) FU Tryz.f154 (.s .o (.s (.s .o (.c (.s .o .o) .o)) (.s .o (.s (.b (.s .o (.c (.s .o .o) (.s .o (.c (.s .o .o) (.s .o (.c (.s .o .o) .o))))))) (.s .o (.s (.s .o (.c (.s .o .o) .o)) (.s .o (.s (.s .o (.c (.s .o .o) .o)) (.s .o (.s .o (.s .o (.j [3, 5, 6, 9, 10, 12, 14, 15, 16, 17] (.s .o (.c .o .o)) (.s (.s .o (.c (.s .o .o) .o)) (.s .o (.s .o (.s .o (.s .o (.s .o .o)))))))))))))))))) [a0, a1, a2] T nx = s154 a0 a1 a2 T nx := by kernel_rfl
noncomputable def F154 : Sem := ar3 s154
theorem k154 : FnOk Tryz.prog 154 F154 := ar3_ok (fnK_ok (by kernel_rfl) (CallsOk.cons h101 k101 (CallsOk.cons h156 k156 (CallsOk.cons h159 k159 (CallsOk.cons h203 k203 (CallsOk.cons h204 k204 (CallsOk.cons h205 k205 (CallsOk.cons h206 k206 (CallsOk.cons h162 k162 (CallsOk.cons h57 k57 (CallsOk.cons h207 k207 CallsOk.nil)))))))))) (drD_ok hmix (CallsOk.cons h101 k101 (CallsOk.cons h156 k156 (CallsOk.cons h159 k159 (CallsOk.cons h203 k203 (CallsOk.cons h204 k204 (CallsOk.cons h205 k205 (CallsOk.cons h206 k206 (CallsOk.cons h162 k162 (CallsOk.cons h57 k57 (CallsOk.cons h207 k207 CallsOk.nil)))))))))))) e154
/- reeve/carve.Do -/
theorem h103 : HasFn Tryz.prog 103 := ⟨by kernel_rfl⟩
noncomputable def s103 (a0 a1 a2 : D) : ST → Nat → Option Rt := fun T nx =>
 bB (solidB a0) <| fN (Nat.succ nx) fun n1 => fN (dcells a0).length fun e1 =>
 bB (solidB a2) <| fN (Nat.succ n1) fun n2 => fN (dcells a2).length fun e2 =>
 fN (Nat.succ n2) fun n3 =>
 fN (Nat.succ n3) fun n4 =>
 bnd (zload (some 5) (Tr.set (some (XO.mk 66 3 1 (.n [(.v (.int .i64 (.ofNat 0))), (.v (.int .u64 (.ofNat 0))), (.v (.int .i64 (.ofNat 0)))] .e .e))) (Tr.set (some (XO.mk 32 5 1 (.n [(.v (.int .i64 (.ofNat 0))), (.v (.int .i64 (.ofNat 0))), (.v (.int .i64 (.ofNat 0))), .e0, .e0] .e .e))) (Tr.set (some (xRow 82 (dcells a2))) (Tr.set (some (xRow 32 (dcells a0))) T nx) n1) n2) n3) (.ptr nx e1 0 0)) fun d1 =>
 bnd (zload (some 6) (Tr.set (some (XO.mk 66 3 1 (.n [(.v (.int .i64 (.ofNat 0))), (.v (.int .u64 (.ofNat 0))), (.v (.int .i64 (.ofNat 0)))] .e .e))) (Tr.set (some (XO.mk 32 5 1 (.n [(.v (.int .i64 (.ofNat 0))), (.v (.int .i64 (.ofNat 0))), (.v (.int .i64 (.ofNat 0))), .e0, .e0] .e .e))) (Tr.set (some (xRow 82 (dcells a2))) (Tr.set (some (xRow 32 (dcells a0))) T nx) n1) n2) n3) (.ptr n1 e2 0 0)) fun d2 =>
 bndR (F154 [d1, a1, d2] (Tr.set (some (XO.mk 66 3 1 (.n [(.v (.int .i64 (.ofNat 0))), (.v (.int .u64 (.ofNat 0))), (.v (.int .i64 (.ofNat 0)))] .e .e))) (Tr.set (some (XO.mk 32 5 1 (.n [(.v (.int .i64 (.ofNat 0))), (.v (.int .i64 (.ofNat 0))), (.v (.int .i64 (.ofNat 0))), .e0, .e0] .e .e))) (Tr.set (some (xRow 82 (dcells a2))) (Tr.set (some (xRow 32 (dcells a0))) T nx) n1) n2) n3) n4) fun d3 T1 n5 l1 => fN (lowN nx l1) fun l2 =>
 bnd (zextract d3 0) fun d4 =>
 bnd (zextract d3 1) fun d5 =>
 bnd (zextract d3 2) fun d6 =>
 fN (Nat.succ n5) fun n6 =>
 zstore 5 (Tr.set (some (XO.mk 32 5 1 (.n [(.v (.int .i64 (.ofNat 0))), (.v (.int .i64 (.ofNat 0))), (.v (.int .i64 (.ofNat 0))), .e0, .e0] .e .e))) T1 n5) (.ptr n5 5 0 0) d4 fun r1 T2 => fN (lowN l2 r1) fun l3 =>
 bnd (zbin .i .neq d6 (.v (.int .i64 (.ofNat 0)))) fun d7 =>
 cnd d7 (
  bnd (zload (some 5) T2 (.ptr nx e1 0 0)) fun d8 =>
  bnd (zbuild [(.int .i64 (.ofNat 0)), (.int .u64 (.ofNat 0)), (.int .i64 (.ofNat 0))] [(0, 1), (1, 1), (2, 1)] [0] [d6]) fun d9 =>
  zstore 5 T2 (.ptr n2 5 0 0) d8 fun r2 T3 => fN (lowN l3 r2) fun l4 =>
  zstore 3 T3 (.ptr n3 3 0 0) d9 fun r3 T4 => fN (lowN l4 r3) fun l5 =>
 bnd (zres (some 5) T4 (.ptr n2 5 0 0)) fun d10 =>
 bnd (zres (some 3) T4 (.ptr n3 3 0 0)) fun d11 =>
 finK T nx (.tup [d10, d11]) T4 n6 l5
 ) (
 bnd (zload (some 5) T2 (.ptr n5 5 0 0)) fun d12 =>
 bnd (zbuild [(.int .i64 (.ofNat 0)), (.int .u64 (.ofNat 0)), (.int .i64 (.ofNat 0))] [(0, 1), (1, 1), (2, 1)] [2] [d5]) fun d13 =>
 zstore 5 T2 (.ptr n2 5 0 0) d12 fun r4 T5 => fN (lowN l3 r4) fun l6 =>
 zstore 3 T5 (.ptr n3 3 0 0) d13 fun r5 T6 => fN (lowN l6 r5) fun l7 =>
 bnd (zres (some 5) T6 (.ptr n2 5 0 0)) fun d14 =>
 bnd (zres (some 3) T6 (.ptr n3 3 0 0)) fun d15 =>
 finK T nx (.tup [d14, d15]) T6 n6 l7
 )
theorem e103 (a0 a1 a2 : D) (T : ST) (nx : Nat) : fnK Tryz.prog [(154, F154)] dr0 FU Tryz.f103 (.s .o (.s .o (.s (.s .o (.c (.s .o .o) .o)) (.s .o .o)))) [a0, a1, a2] T nx = s103 a0 a1 a2 T nx := by kernel_rfl
noncomputable def F103 : Sem := ar3 s103
theorem k103 : FnOk Tryz.prog 103 F103 := ar3_ok (fnK_ok (by kernel_rfl) (CallsOk.cons h154 k154 CallsOk.nil) dr0_ok) e103
/- reeve/right.Both -/
theorem h249 : HasFn Tryz.prog 249 := ⟨by kernel_rfl⟩
noncomputable def s249 (a0 a1 : D) : ST → Nat → Option Rt := fun T nx =>
 bndR (F257 [a0] T nx) fun d1 T1 n1 l1 => fN (lowN nx l1) fun l2 =>
 bndR (F257 [a1] T1 n1) fun d2 T2 n2 l3 => fN (lowN l2 l3) fun l4 =>
 bnd (zbin .i .and d1 d2) fun d3 =>
 finK T nx d3 T2 n2 l4
theorem e249 (a0 a1 : D) (T : ST) (nx : Nat) : fnK Tryz.prog [(257, F257)] dr0 FU Tryz.f249 (.s .o (.s .o .o)) [a0, a1] T nx = s249 a0 a1 T nx := by kernel_rfl
noncomputable def F249 : Sem := ar2 s249
theorem k249 : FnOk Tryz.prog 249 F249 := ar2_ok (fnK_ok (by kernel_rfl) (CallsOk.cons h257 k257 CallsOk.nil) dr0_ok) e249
/- reeve/cap.Cut -/
theorem h208 : HasFn Tryz.prog 208 := ⟨by kernel_rfl⟩
noncomputable def s208 (a0 a1 : D) : ST → Nat → Option Rt := fun T nx =>
 bB (solidB a0) <| fN (Nat.succ nx) fun n1 => fN (dcells a0).length fun e1 =>
 fN (Nat.succ n1) fun n2 =>
 bnd (zload (some 4) (Tr.set (some (XO.mk 111 4 1 (.n [(.v (.int .i64 (.ofNat 0))), (.v (.int .i64 (.ofNat 0))), (.v (.int .i64 (.ofNat 0))), (.v (.int .i64 (.ofNat 0)))] .e .e))) (Tr.set (some (xRow 111 (dcells a0))) T nx) n1) (.ptr nx e1 0 0)) fun d1 =>
 bndR (F166 [d1] (Tr.set (some (XO.mk 111 4 1 (.n [(.v (.int .i64 (.ofNat 0))), (.v (.int .i64 (.ofNat 0))), (.v (.int .i64 (.ofNat 0))), (.v (.int .i64 (.ofNat 0)))] .e .e))) (Tr.set (some (xRow 111 (dcells a0))) T nx) n1) n2) fun d2 T1 n3 l1 => fN (lowN nx l1) fun l2 =>
 bnd (zun .not d2) fun d3 =>
 cnd d3 (
  bnd (zbuild [(.int .i64 (.ofNat 0)), (.int .i64 (.ofNat 0)), (.int .i64 (.ofNat 0)), (.int .i64 (.ofNat 0))] [(0, 1), (1, 1), (2, 1), (3, 1)] [] []) fun d4 =>
  zstore 4 T1 (.ptr n1 4 0 0) d4 fun r1 T2 => fN (lowN l2 r1) fun l3 =>
 bnd (zres (some 4) T2 (.ptr n1 4 0 0)) fun d5 =>
 finK T nx d5 T2 n3 l3
 ) (
 bnd (zfieldAddr 2 (.ptr nx e1 0 0)) fun d6 =>
 bnd (zload none T1 d6) fun d7 =>
 bndR (F249 [d7, a1] T1 n3) fun d8 T3 n4 l4 => fN (lowN l2 l4) fun l5 =>
 bnd (zfieldAddr 2 (.ptr nx e1 0 0)) fun d9 =>
 zstore 1 T3 d9 d8 fun r2 T4 => fN (lowN l5 r2) fun l6 =>
 bnd (zload (some 4) T4 (.ptr nx e1 0 0)) fun d10 =>
 zstore 4 T4 (.ptr n1 4 0 0) d10 fun r3 T5 => fN (lowN l6 r3) fun l7 =>
 bnd (zres (some 4) T5 (.ptr n1 4 0 0)) fun d11 =>
 finK T nx d11 T5 n4 l7
 )
theorem e208 (a0 a1 : D) (T : ST) (nx : Nat) : fnK Tryz.prog [(166, F166), (249, F249)] dr0 FU Tryz.f208 (.s .o (.s (.s .o (.c (.s .o .o) .o)) (.s .o (.s .o .o)))) [a0, a1] T nx = s208 a0 a1 T nx := by kernel_rfl
noncomputable def F208 : Sem := ar2 s208
theorem k208 : FnOk Tryz.prog 208 F208 := ar2_ok (fnK_ok (by kernel_rfl) (CallsOk.cons h166 k166 (CallsOk.cons h249 k249 CallsOk.nil)) dr0_ok) e208
/- reeve/cap.Stamp -/
theorem h209 : HasFn Tryz.prog 209 := ⟨by kernel_rfl⟩
noncomputable def s209 (a0 a1 : D) : ST → Nat → Option Rt := fun T nx =>
 bB (solidB a0) <| fN (Nat.succ nx) fun n1 => fN (dcells a0).length fun e1 =>
 fN (Nat.succ n1) fun n2 =>
 jn (fun v1 T1 n3 l1 => unc v1 fun d1 w1 => unc w1 fun d2 w2 => unc w2 fun d3 w3 => unc w3 fun d4 w4 =>
  cnd d4 (
   bnd (zbuild [(.int .i64 (.ofNat 0)), (.int .i64 (.ofNat 0)), (.int .i64 (.ofNat 0)), (.int .i64 (.ofNat 0))] [(0, 1), (1, 1), (2, 1), (3, 1)] [] []) fun d5 =>
   zstore 4 T1 d3 d5 fun r1 T2 => fN (lowN l1 r1) fun l2 =>
 bnd (zres (some 4) T2 d3) fun d6 =>
 finK T nx (.tup [d6, (.v (.int .i64 (.ofNat 1)))]) T2 n3 l2
  ) (
   bnd (zfieldAddr 0 d2) fun d7 =>
   bnd (zload none T1 d7) fun d8 =>
   bndR (F228 [d8] T1 n3) fun d9 T3 n4 l3 => fN (lowN l1 l3) fun l4 =>
   bnd (zun .not d9) fun d10 =>
   cnd d10 (
    bnd (zbuild [(.int .i64 (.ofNat 0)), (.int .i64 (.ofNat 0)), (.int .i64 (.ofNat 0)), (.int .i64 (.ofNat 0))] [(0, 1), (1, 1), (2, 1), (3, 1)] [] []) fun d11 =>
    zstore 4 T3 d3 d11 fun r2 T4 => fN (lowN l4 r2) fun l5 =>
 bnd (zres (some 4) T4 d3) fun d12 =>
 finK T nx (.tup [d12, (.v (.int .i64 (.ofNat 7)))]) T4 n4 l5
   ) (
    bnd (zfieldAddr 3 d2) fun d13 =>
    bnd (zload none T3 d13) fun d14 =>
    bnd (zbin .i .neq d14 (.v (.int .i64 (.ofNat 0)))) fun d15 =>
    cnd d15 (
     bnd (zbuild [(.int .i64 (.ofNat 0)), (.int .i64 (.ofNat 0)), (.int .i64 (.ofNat 0)), (.int .i64 (.ofNat 0))] [(0, 1), (1, 1), (2, 1), (3, 1)] [] []) fun d16 =>
     zstore 4 T3 d3 d16 fun r3 T5 => fN (lowN l4 r3) fun l6 =>
 bnd (zres (some 4) T5 d3) fun d17 =>
 finK T nx (.tup [d17, (.v (.int .i64 (.ofNat 5)))]) T5 n4 l6
    ) (
 bnd (zfieldAddr 3 d2) fun d18 =>
 zstore 1 T3 d18 d1 fun r4 T6 => fN (lowN l4 r4) fun l7 =>
 bnd (zload (some 4) T6 d2) fun d19 =>
 zstore 4 T6 d3 d19 fun r5 T7 => fN (lowN l7 r5) fun l8 =>
 bnd (zres (some 4) T7 d3) fun d20 =>
 finK T nx (.tup [d20, (.v (.int .i64 (.ofNat 0)))]) T7 n4 l8
    )
   )
  )) fun K1 =>
 bnd (zload (some 4) (Tr.set (some (XO.mk 111 4 1 (.n [(.v (.int .i64 (.ofNat 0))), (.v (.int .i64 (.ofNat 0))), (.v (.int .i64 (.ofNat 0))), (.v (.int .i64 (.ofNat 0)))] .e .e))) (Tr.set (some (xRow 111 (dcells a0))) T nx) n1) (.ptr nx e1 0 0)) fun d21 =>
 bndR (F166 [d21] (Tr.set (some (XO.mk 111 4 1 (.n [(.v (.int .i64 (.ofNat 0))), (.v (.int .i64 (.ofNat 0))), (.v (.int .i64 (.ofNat 0))), (.v (.int .i64 (.ofNat 0)))] .e .e))) (Tr.set (some (xRow 111 (dcells a0))) T nx) n1) n2) fun d22 T8 n5 l9 => fN (lowN nx l9) fun l10 =>
 bnd (zun .not d22) fun d23 =>
 cnd d23 (
 K1 [a1, (.ptr nx e1 0 0), (.ptr n1 4 0 0), d23] T8 n5 l10
 ) (
  bndR (F227 [a1] T8 n5) fun d24 T9 n6 l11 => fN (lowN l10 l11) fun l12 =>
  bnd (zun .not d24) fun d25 =>
  cnd d25 (
 K1 [a1, (.ptr nx e1 0 0), (.ptr n1 4 0 0), d25] T9 n6 l12
  ) (
   bnd (zbin .i .eql a1 (.v (.int .i64 (.ofNat 0)))) fun d26 =>
 K1 [a1, (.ptr nx e1 0 0), (.ptr n1 4 0 0), d26] T9 n6 l12
  )
 )
theorem e209 (a0 a1 : D) (T : ST) (nx : Nat) : fnK Tryz.prog [(228, F228), (166, F166), (227, F227)] dr0 FU Tryz.f209 (.s .o (.s (.b (.j [1, 2, 4, 6] (.s .o (.c .o (.s .o (.c .o .o)))) (.c (.s .o .o) (.s .o (.c (.s .o .o) (.s .o (.c (.s .o .o) .o))))))) (.s .o (.s .o .o)))) [a0, a1] T nx = s209 a0 a1 T nx := by kernel_rfl
noncomputable def F209 : Sem := ar2 s209
theorem k209 : FnOk Tryz.prog 209 F209 := ar2_ok (fnK_ok (by kernel_rfl) (CallsOk.cons h228 k228 (CallsOk.cons h166 k166 (CallsOk.cons h227 k227 CallsOk.nil))) dr0_ok) e209
/- reeve/state.Inside -/
theorem h251 : HasFn Tryz.prog 251 := ⟨by kernel_rfl⟩
noncomputable def s251 (a0 a1 a2 : D) : ST → Nat → Option Rt := fun T nx =>
 bB (solidB a0) <| fN (Nat.succ nx) fun n1 => fN (dcells a0).length fun e1 =>
 bnd (zload (some 5) (Tr.set (some (xRow 32 (dcells a0))) T nx) (.ptr nx e1 0 0)) fun d1 =>
 bndR (F100 [d1] (Tr.set (some (xRow 32 (dcells a0))) T nx) n1) fun d2 T1 n2 l1 => fN (lowN nx l1) fun l2 =>
 opG.gjn (fun k1 => zgd d2 true (
  k1 [] [] a2 T1 n2 l2
 ) (k1 [] [] (.v undef) T1 n2 l2)) fun _ _ d3 T2 n3 l3 =>
 opG.gjn (fun k2 => zgd d2 true (
  bnd (zbin .i .geq d3 (.v (.int .i64 (.ofNat 0)))) fun d4 =>
  k2 [] [] d4 T2 n3 l3
 ) (k2 [] [] (.v undef) T2 n3 l3)) fun _ _ d5 T3 n4 l4 =>
 bnd (zpick d2 d5 (.v (.bool false))) fun d6 =>
 opG.gjn (fun k3 => zgd d6 true (
  k3 [] [] a2 T3 n4 l4
 ) (k3 [] [] (.v undef) T3 n4 l4)) fun _ _ d7 T4 n5 l5 =>
 opG.gjn (fun k4 => zgd d6 true (
  bnd (zfieldAddr 3 (.ptr nx e1 0 0)) fun d8 =>
  k4 [] [] d8 T4 n5 l5
 ) (k4 [] [] (.v undef) T4 n5 l5)) fun _ _ d9 T5 n6 l6 =>
 opG.gjn (fun k5 => zgd d6 true (
  bnd (zload none T5 d9) fun d10 =>
  k5 (ptr? d9) [] d10 T5 n6 l6
 ) (k5 [] [] (.v undef) T5 n6 l6)) fun _ _ d11 T6 n7 l7 =>
 opG.gjn (fun k6 => zgd d6 true (
  bnd (zlen true d11) fun d12 =>
  k6 [] [] d12 T6 n7 l7
 ) (k6 [] [] (.v undef) T6 n7 l7)) fun _ _ d13 T7 n8 l8 =>
 opG.gjn (fun k7 => zgd d6 true (
  bnd (zbin .i .lss d7 d13) fun d14 =>
  k7 [] [] d14 T7 n8 l8
 ) (k7 [] [] (.v undef) T7 n8 l8)) fun _ _ d15 T8 n9 l9 =>
 bnd (zpick d6 d15 (.v (.bool false))) fun d16 =>
 opG.gjn (fun k8 => zgd d16 true (
  bnd (zload (some 5) T8 (.ptr nx e1 0 0)) fun d17 =>
  k8 (ptr? (.ptr nx e1 0 0)) [] d17 T8 n9 l9
 ) (k8 [] [] (.v undef) T8 n9 l9)) fun _ _ d18 T9 n10 l10 =>
 opG.gjn (fun k9 => zgd d16 true (
  k9 [] [] a1 T9 n10 l10
 ) (k9 [] [] (.v undef) T9 n10 l10)) fun _ _ d19 T10 n11 l11 =>
 opG.gjn (fun k10 => zgd d16 true (
  k10 [] [] a2 T10 n11 l11
 ) (k10 [] [] (.v undef) T10 n11 l11)) fun _ _ d20 T11 n12 l12 =>
 opG.gjn (fun k11 => zgd d16 true (
  bndR (F193 [d18, d19, d20] T11 n12) fun d21 T12 n13 l13 => fN (lowN l12 l13) fun l14 =>
  k11 [] [] d21 T12 n13 l14
 ) (k11 [] [] (.v undef) T11 n12 l12)) fun _ _ d22 T13 n14 l15 =>
 bnd (zpick d16 d22 (.v (.bool false))) fun d23 =>
 finK T nx d23 T13 n14 l15
theorem e251 (a0 a1 a2 : D) (T : ST) (nx : Nat) : fnK Tryz.prog [(100, F100), (193, F193)] dr0 FU Tryz.f251 (.s .o (.s .o .o)) [a0, a1, a2] T nx = s251 a0 a1 a2 T nx := by kernel_rfl
noncomputable def F251 : Sem := ar3 s251
theorem k251 : FnOk Tryz.prog 251 F251 := ar3_ok (fnK_ok (by kernel_rfl) (CallsOk.cons h100 k100 (CallsOk.cons h193 k193 CallsOk.nil)) dr0_ok) e251
/- reeve/give.ring -/
theorem h211 : HasFn Tryz.prog 211 := ⟨by kernel_rfl⟩
noncomputable def s211 (a0 a1 a2 : D) : ST → Nat → Option Rt := fun T nx =>
 bB (solidB a0) <| fN (Nat.succ nx) fun n1 => fN (dcells a0).length fun e1 =>
 bB (solidB a1) <| fN (Nat.succ n1) fun n2 => fN (dcells a1).length fun e2 =>
 bnd (zfieldAddr 0 (.ptr n1 e2 0 0)) fun d1 =>
 bnd (zload none (Tr.set (some (xRow 111 (dcells a1))) (Tr.set (some (xRow 32 (dcells a0))) T nx) n1) d1) fun d2 =>
 bnd (zbin .i .eql d2 (.v (.int .i64 (.ofNat 2)))) fun d3 =>
 opG.gjn (fun k1 => zgd d3 true (
  bnd (zload (some 5) (Tr.set (some (xRow 111 (dcells a1))) (Tr.set (some (xRow 32 (dcells a0))) T nx) n1) (.ptr nx e1 0 0)) fun d4 =>
  k1 (ptr? (.ptr nx e1 0 0)) [] d4 (Tr.set (some (xRow 111 (dcells a1))) (Tr.set (some (xRow 32 (dcells a0))) T nx) n1) n2 nx
 ) (k1 [] [] (.v undef) (Tr.set (some (xRow 111 (dcells a1))) (Tr.set (some (xRow 32 (dcells a0))) T nx) n1) n2 nx)) fun _ _ d5 T1 n3 l1 =>
 opG.gjn (fun k2 => zgd d3 true (
  bnd (zfieldAddr 1 (.ptr n1 e2 0 0)) fun d6 =>
  k2 [] [] d6 T1 n3 l1
 ) (k2 [] [] (.v undef) T1 n3 l1)) fun _ _ d7 T2 n4 l2 =>
 opG.gjn (fun k3 => zgd d3 true (
  bnd (zload none T2 d7) fun d8 =>
  k3 (ptr? d7) [] d8 T2 n4 l2
 ) (k3 [] [] (.v undef) T2 n4 l2)) fun _ _ d9 T3 n5 l3 =>
 opG.gjn (fun k4 => zgd d3 true (
  k4 [] [] a2 T3 n5 l3
 ) (k4 [] [] (.v undef) T3 n5 l3)) fun _ _ d10 T4 n6 l4 =>
 opG.gjn (fun k5 => zgd d3 true (
  bndR (F251 [d5, d9, d10] T4 n6) fun d11 T5 n7 l5 => fN (lowN l4 l5) fun l6 =>
  k5 [] [] d11 T5 n7 l6
 ) (k5 [] [] (.v undef) T4 n6 l4)) fun _ _ d12 T6 n8 l7 =>
 bnd (zpick d3 d12 (.v (.bool false))) fun d13 =>
 finK T nx d13 T6 n8 l7
theorem e211 (a0 a1 a2 : D) (T : ST) (nx : Nat) : fnK Tryz.prog [(251, F251)] dr0 FU Tryz.f211 (.s .o (.s .o .o)) [a0, a1, a2] T nx = s211 a0 a1 a2 T nx := by kernel_rfl
noncomputable def F211 : Sem := ar3 s211
theorem k211 : FnOk Tryz.prog 211 F211 := ar3_ok (fnK_ok (by kernel_rfl) (CallsOk.cons h251 k251 CallsOk.nil) dr0_ok) e211
/- reeve/state.Owner -/
theorem h250 : HasFn Tryz.prog 250 := ⟨by kernel_rfl⟩
noncomputable def s250 (a0 a1 : D) : ST → Nat → Option Rt := fun T nx =>
 bB (solidB a0) <| fN (Nat.succ nx) fun n1 => fN (dcells a0).length fun e1 =>
 bnd (zload (some 5) (Tr.set (some (xRow 32 (dcells a0))) T nx) (.ptr nx e1 0 0)) fun d1 =>
 bndR (F100 [d1] (Tr.set (some (xRow 32 (dcells a0))) T nx) n1) fun d2 T1 n2 l1 => fN (lowN nx l1) fun l2 =>
 bnd (zun .not d2) fun d3 =>
 opG.gjn (fun k1 => zgd d3 false (
  k1 [] [] a1 T1 n2 l2
 ) (k1 [] [] (.v undef) T1 n2 l2)) fun _ _ d4 T2 n3 l3 =>
 opG.gjn (fun k2 => zgd d3 false (
  bnd (zbin .i .lss d4 (.v (.int .i64 (.ofNat 0)))) fun d5 =>
  k2 [] [] d5 T2 n3 l3
 ) (k2 [] [] (.v undef) T2 n3 l3)) fun _ _ d6 T3 n4 l4 =>
 bnd (zpick d3 (.v (.bool true)) d6) fun d7 =>
 opG.gjn (fun k3 => zgd d7 false (
  k3 [] [] a1 T3 n4 l4
 ) (k3 [] [] (.v undef) T3 n4 l4)) fun _ _ d8 T4 n5 l5 =>
 opG.gjn (fun k4 => zgd d7 false (
  bnd (zfieldAddr 3 (.ptr nx e1 0 0)) fun d9 =>
  k4 [] [] d9 T4 n5 l5
 ) (k4 [] [] (.v undef) T4 n5 l5)) fun _ _ d10 T5 n6 l6 =>
 opG.gjn (fun k5 => zgd d7 false (
  bnd (zload none T5 d10) fun d11 =>
  k5 (ptr? d10) [] d11 T5 n6 l6
 ) (k5 [] [] (.v undef) T5 n6 l6)) fun _ _ d12 T6 n7 l7 =>
 opG.gjn (fun k6 => zgd d7 false (
  bnd (zlen true d12) fun d13 =>
  k6 [] [] d13 T6 n7 l7
 ) (k6 [] [] (.v undef) T6 n7 l7)) fun _ _ d14 T7 n8 l8 =>
 opG.gjn (fun k7 => zgd d7 false (
  bnd (zbin .i .geq d8 d14) fun d15 =>
  k7 [] [] d15 T7 n8 l8
 ) (k7 [] [] (.v undef) T7 n8 l8)) fun _ _ d16 T8 n9 l9 =>
 bnd (zpick d7 (.v (.bool true)) d16) fun d17 =>
 cnd d17 (
 finK T nx (.v (.int .i64 (.negSucc 0))) T8 n9 l9
 ) (
 bnd (zload (some 5) T8 (.ptr nx e1 0 0)) fun d18 =>
 bndR (F238 [d18, a1] T8 n9) fun d19 T9 n10 l10 => fN (lowN l9 l10) fun l11 =>
 finK T nx d19 T9 n10 l11
 )
theorem e250 (a0 a1 : D) (T : ST) (nx : Nat) : fnK Tryz.prog [(100, F100), (238, F238)] dr0 FU Tryz.f250 (.s .o (.s (.s .o (.c (.s .o .o) .o)) (.s .o .o))) [a0, a1] T nx = s250 a0 a1 T nx := by kernel_rfl
noncomputable def F250 : Sem := ar2 s250
theorem k250 : FnOk Tryz.prog 250 F250 := ar2_ok (fnK_ok (by kernel_rfl) (CallsOk.cons h100 k100 (CallsOk.cons h238 k238 CallsOk.nil)) dr0_ok) e250
/- reeve/give.Put -/
theorem h210 : HasFn Tryz.prog 210 := ⟨by kernel_rfl⟩
noncomputable def s210 (a0 a1 a2 a3 : D) : ST → Nat → Option Rt := fun T nx =>
 bB (solidB a0) <| fN (Nat.succ nx) fun n1 => fN (dcells a0).length fun e1 =>
 bB (solidB a3) <| fN (Nat.succ n1) fun n2 => fN (dcells a3).length fun e2 =>
 fN (Nat.succ n2) fun n3 =>
 bnd (zfieldAddr 3 (.ptr nx e1 0 0)) fun d1 =>
 bnd (zload none (Tr.set (some (XO.mk 32 5 1 (.n [(.v (.int .i64 (.ofNat 0))), (.v (.int .i64 (.ofNat 0))), (.v (.int .i64 (.ofNat 0))), .e0, .e0] .e .e))) (Tr.set (some (xRow 111 (dcells a3))) (Tr.set (some (xRow 32 (dcells a0))) T nx) n1) n2) d1) fun d2 =>
 bnd (zlen true d2) fun d3 =>
 jn (fun v1 T1 n4 l1 => unc v1 fun d4 w1 => unc w1 fun d5 w2 => unc w2 fun d6 w3 => unc w3 fun d7 w4 => unc w4 fun d8 w5 => unc w5 fun d9 w6 =>
  cnd d9 (
   bnd (zload (some 5) T1 d6) fun d10 =>
   zstore 5 T1 d8 d10 fun r1 T2 => fN (lowN l1 r1) fun l2 =>
 bnd (zres (some 5) T2 d8) fun d11 =>
 finK T nx (.tup [d11, (.v (.int .i64 (.ofNat 1)))]) T2 n4 l2
  ) (
   bnd (zfieldAddr 3 d6) fun d12 =>
   bnd (zload none T1 d12) fun d13 =>
   bnd (zindexAddr (.sl 5) d13 d4) fun d14 =>
   bnd (zfieldAddr 0 d14) fun d15 =>
   bnd (zload (some 4) T1 d15) fun d16 =>
   bndR (F190 [d16] T1 n4) fun d17 T3 n5 l3 => fN (lowN l1 l3) fun l4 =>
   cnd d17 (
    bnd (zload (some 5) T3 d6) fun d18 =>
    zstore 5 T3 d8 d18 fun r2 T4 => fN (lowN l4 r2) fun l5 =>
 bnd (zres (some 5) T4 d8) fun d19 =>
 finK T nx (.tup [d19, (.v (.int .i64 (.ofNat 4)))]) T4 n5 l5
   ) (
    bnd (zfieldAddr 3 d6) fun d20 =>
    bnd (zload none T3 d20) fun d21 =>
    bnd (zindexAddr (.sl 5) d21 d5) fun d22 =>
    bnd (zfieldAddr 0 d22) fun d23 =>
    bnd (zload (some 4) T3 d23) fun d24 =>
    bndR (F190 [d24] T3 n5) fun d25 T5 n6 l6 => fN (lowN l4 l6) fun l7 =>
    bnd (zun .not d25) fun d26 =>
    cnd d26 (
     bnd (zload (some 5) T5 d6) fun d27 =>
     zstore 5 T5 d8 d27 fun r3 T6 => fN (lowN l7 r3) fun l8 =>
 bnd (zres (some 5) T6 d8) fun d28 =>
 finK T nx (.tup [d28, (.v (.int .i64 (.ofNat 5)))]) T6 n6 l8
    ) (
     bnd (zfieldAddr 3 d6) fun d29 =>
     bnd (zload none T5 d29) fun d30 =>
     bnd (zindexAddr (.sl 5) d30 d4) fun d31 =>
     bnd (zfieldAddr 0 d31) fun d32 =>
     bnd (zfieldAddr 0 d32) fun d33 =>
     bnd (zload none T5 d33) fun d34 =>
     bnd (zbin .i .eql d34 (.v (.int .i64 (.ofNat 1)))) fun d35 =>
     cnd d35 (
      bnd (zload (some 5) T5 d6) fun d36 =>
      zstore 5 T5 d8 d36 fun r4 T7 => fN (lowN l7 r4) fun l9 =>
 bnd (zres (some 5) T7 d8) fun d37 =>
 finK T nx (.tup [d37, (.v (.int .i64 (.ofNat 7)))]) T7 n6 l9
     ) (
      jn (fun v2 T8 n7 l10 => unc v2 fun d38 w7 => unc w7 fun d39 w8 => unc w8 fun d40 w9 => unc w9 fun d41 w10 => unc w10 fun d42 w11 => unc w11 fun d43 w12 =>
       cnd d43 (
        bnd (zload (some 5) T8 d40) fun d44 =>
        zstore 5 T8 d42 d44 fun r5 T9 => fN (lowN l10 r5) fun l11 =>
 bnd (zres (some 5) T9 d42) fun d45 =>
 finK T nx (.tup [d45, (.v (.int .i64 (.ofNat 1)))]) T9 n7 l11
       ) (
 bnd (zload (some 5) T8 d40) fun d46 =>
 bndR (F162 [d46] T8 n7) fun d47 T10 n8 l12 => fN (lowN l10 l12) fun l13 =>
 zstore 5 T10 d40 d47 fun r6 T11 => fN (lowN l13 r6) fun l14 =>
 bnd (zfieldAddr 3 d40) fun d48 =>
 bnd (zload none T11 d48) fun d49 =>
 bnd (zload (some 4) T11 d41) fun d50 =>
 bnd (zbuild [(.int .i64 (.ofNat 0)), (.int .i64 (.ofNat 0)), (.int .i64 (.ofNat 0)), (.int .i64 (.ofNat 0)), (.int .i64 (.ofNat 0))] [(0, 4), (4, 1)] [0, 1] [d50, d38]) fun d51 =>
 bnd (zindexAddr (.sl 5) d49 d39) fun d52 =>
 zstore 5 T11 d52 d51 fun r7 T12 => fN (lowN l14 r7) fun l15 =>
 bnd (zload (some 5) T12 d40) fun d53 =>
 zstore 5 T12 d42 d53 fun r8 T13 => fN (lowN l15 r8) fun l16 =>
 bnd (zres (some 5) T13 d42) fun d54 =>
 finK T nx (.tup [d54, (.v (.int .i64 (.ofNat 0)))]) T13 n8 l16
       )) fun K1 =>
      bnd (zload (some 4) T5 d7) fun d55 =>
      bnd (zfieldAddr 3 d6) fun d56 =>
      bnd (zload none T5 d56) fun d57 =>
      bnd (zindexAddr (.sl 5) d57 d4) fun d58 =>
      bnd (zfieldAddr 0 d58) fun d59 =>
      bnd (zload (some 4) T5 d59) fun d60 =>
      bndR (F195 [d55, d60] T5 n6) fun d61 T14 n9 l17 => fN (lowN n6 l17) fun l18 => bB (Nat.beq l18 n6) <|
      bnd (zun .not d61) fun d62 =>
      cnd d62 (
      K1 [d4, d5, d6, d7, d8, d62] T14 n9 l7
      ) (
       bnd (zload (some 5) T14 d6) fun d63 =>
       bnd (zload (some 4) T14 d7) fun d64 =>
       bndR (F211 [d63, d64, d5] T14 n9) fun d65 T15 n10 l19 => fN (lowN l7 l19) fun l20 =>
      K1 [d4, d5, d6, d7, d8, d65] T15 n10 l20
      )
     )
    )
   )
  )) fun K2 =>
 bnd (zload (some 5) (Tr.set (some (XO.mk 32 5 1 (.n [(.v (.int .i64 (.ofNat 0))), (.v (.int .i64 (.ofNat 0))), (.v (.int .i64 (.ofNat 0))), .e0, .e0] .e .e))) (Tr.set (some (xRow 111 (dcells a3))) (Tr.set (some (xRow 32 (dcells a0))) T nx) n1) n2) (.ptr nx e1 0 0)) fun d66 =>
 bndR (F100 [d66] (Tr.set (some (XO.mk 32 5 1 (.n [(.v (.int .i64 (.ofNat 0))), (.v (.int .i64 (.ofNat 0))), (.v (.int .i64 (.ofNat 0))), .e0, .e0] .e .e))) (Tr.set (some (xRow 111 (dcells a3))) (Tr.set (some (xRow 32 (dcells a0))) T nx) n1) n2) n3) fun d67 T16 n11 l21 => fN (lowN nx l21) fun l22 =>
 bnd (zun .not d67) fun d68 =>
 cnd d68 (
 K2 [a1, a2, (.ptr nx e1 0 0), (.ptr n1 e2 0 0), (.ptr n2 5 0 0), d68] T16 n11 l22
 ) (
  bnd (zbin .i .lss a1 (.v (.int .i64 (.ofNat 0)))) fun d69 =>
  opG.gjn (fun k1 => zgd d69 false (
   k1 [] [] a1 T16 n11 l22
  ) (k1 [] [] (.v undef) T16 n11 l22)) fun _ _ d70 T17 n12 l23 =>
  opG.gjn (fun k2 => zgd d69 false (
   k2 [] [] d3 T17 n12 l23
  ) (k2 [] [] (.v undef) T17 n12 l23)) fun _ _ d71 T18 n13 l24 =>
  opG.gjn (fun k3 => zgd d69 false (
   bnd (zbin .i .geq d70 d71) fun d72 =>
   k3 [] [] d72 T18 n13 l24
  ) (k3 [] [] (.v undef) T18 n13 l24)) fun _ _ d73 T19 n14 l25 =>
  bnd (zpick d69 (.v (.bool true)) d73) fun d74 =>
  opG.gjn (fun k4 => zgd d74 false (
   k4 [] [] a2 T19 n14 l25
  ) (k4 [] [] (.v undef) T19 n14 l25)) fun _ _ d75 T20 n15 l26 =>
  opG.gjn (fun k5 => zgd d74 false (
   bnd (zbin .i .lss d75 (.v (.int .i64 (.ofNat 0)))) fun d76 =>
   k5 [] [] d76 T20 n15 l26
  ) (k5 [] [] (.v undef) T20 n15 l26)) fun _ _ d77 T21 n16 l27 =>
  bnd (zpick d74 (.v (.bool true)) d77) fun d78 =>
  opG.gjn (fun k6 => zgd d78 false (
   k6 [] [] a2 T21 n16 l27
  ) (k6 [] [] (.v undef) T21 n16 l27)) fun _ _ d79 T22 n17 l28 =>
  opG.gjn (fun k7 => zgd d78 false (
   k7 [] [] d3 T22 n17 l28
  ) (k7 [] [] (.v undef) T22 n17 l28)) fun _ _ d80 T23 n18 l29 =>
  opG.gjn (fun k8 => zgd d78 false (
   bnd (zbin .i .geq d79 d80) fun d81 =>
   k8 [] [] d81 T23 n18 l29
  ) (k8 [] [] (.v undef) T23 n18 l29)) fun _ _ d82 T24 n19 l30 =>
  bnd (zpick d78 (.v (.bool true)) d82) fun d83 =>
  opG.gjn (fun k9 => zgd d83 false (
   bnd (zload (some 4) T24 (.ptr n1 e2 0 0)) fun d84 =>
   k9 (ptr? (.ptr n1 e2 0 0)) [] d84 T24 n19 l30
  ) (k9 [] [] (.v undef) T24 n19 l30)) fun _ _ d85 T25 n20 l31 =>
  opG.gjn (fun k10 => zgd d83 false (
   bndR (F166 [d85] T25 n20) fun d86 T26 n21 l32 => fN (lowN l31 l32) fun l33 =>
   k10 [] [] d86 T26 n21 l33
  ) (k10 [] [] (.v undef) T25 n20 l31)) fun _ _ d87 T27 n22 l34 =>
  opG.gjn (fun k11 => zgd d83 false (
   bnd (zun .not d87) fun d88 =>
   k11 [] [] d88 T27 n22 l34
  ) (k11 [] [] (.v undef) T27 n22 l34)) fun _ _ d89 T28 n23 l35 =>
  bnd (zpick d83 (.v (.bool true)) d89) fun d90 =>
  opG.gjn (fun k12 => zgd d90 false (
   bnd (zload (some 4) T28 (.ptr n1 e2 0 0)) fun d91 =>
   k12 (ptr? (.ptr n1 e2 0 0)) [] d91 T28 n23 l35
  ) (k12 [] [] (.v undef) T28 n23 l35)) fun _ _ d92 T29 n24 l36 =>
  opG.gjn (fun k13 => zgd d90 false (
   bndR (F190 [d92] T29 n24) fun d93 T30 n25 l37 => fN (lowN l36 l37) fun l38 =>
   k13 [] [] d93 T30 n25 l38
  ) (k13 [] [] (.v undef) T29 n24 l36)) fun _ _ d94 T31 n26 l39 =>
  bnd (zpick d90 (.v (.bool true)) d94) fun d95 =>
  cnd d95 (
 K2 [a1, a2, (.ptr nx e1 0 0), (.ptr n1 e2 0 0), (.ptr n2 5 0 0), d95] T31 n26 l39
  ) (
   bnd (zload (some 5) T31 (.ptr nx e1 0 0)) fun d96 =>
   bndR (F250 [d96, a2] T31 n26) fun d97 T32 n27 l40 => fN (lowN l39 l40) fun l41 =>
   bnd (zbin .i .lss d97 (.v (.int .i64 (.ofNat 0)))) fun d98 =>
 K2 [a1, a2, (.ptr nx e1 0 0), (.ptr n1 e2 0 0), (.ptr n2 5 0 0), d98] T32 n27 l41
  )
 )
theorem e210 (a0 a1 a2 a3 : D) (T : ST) (nx : Nat) : fnK Tryz.prog [(190, F190), (162, F162), (195, F195), (211, F211), (100, F100), (166, F166), (250, F250)] (drD Tryz.prog [(190, F190), (162, F162), (195, F195), (211, F211), (100, F100), (166, F166), (250, F250)]) FU Tryz.f210 (.s .o (.s .o (.s (.b (.j [1, 2, 4, 7, 8, 14] (.s .o (.c .o (.s .o (.c .o .o)))) (.c (.s .o .o) (.s .o (.c (.s .o .o) (.s .o (.c (.s .o .o) (.s .o (.c (.s .o .o) (.j [1, 2, 4, 7, 8, 77] (.s .o (.c .o .o)) (.c (.s .o .o) .o))))))))))) (.s .o (.s .o (.s .o .o)))))) [a0, a1, a2, a3] T nx = s210 a0 a1 a2 a3 T nx := by kernel_rfl
noncomputable def F210 : Sem := ar4 s210
theorem k210 : FnOk Tryz.prog 210 F210 := ar4_ok (fnK_ok (by kernel_rfl) (CallsOk.cons h190 k190 (CallsOk.cons h162 k162 (CallsOk.cons h195 k195 (CallsOk.cons h211 k211 (CallsOk.cons h100 k100 (CallsOk.cons h166 k166 (CallsOk.cons h250 k250 CallsOk.nil))))))) (drD_ok hmix (CallsOk.cons h190 k190 (CallsOk.cons h162 k162 (CallsOk.cons h195 k195 (CallsOk.cons h211 k211 (CallsOk.cons h100 k100 (CallsOk.cons h166 k166 (CallsOk.cons h250 k250 CallsOk.nil))))))))) e210
end Go.Abs
