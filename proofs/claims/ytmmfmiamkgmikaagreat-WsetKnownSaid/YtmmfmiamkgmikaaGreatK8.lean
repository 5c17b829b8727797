/- Functions of the program as what they run as, printed by a program of this session. -/
import Derived.Test.YtmmfmiamkgmikaaGreatK7
set_option linter.unusedVariables false
set_option maxRecDepth 100000
open Go Go.Proofs
namespace Go.Abs
/- slices.Clone[[]int,int] -/
theorem h116 : HasFn Tryz.prog 116 := ⟨by kernel_rfl⟩
noncomputable def s116 (a0 : D) : ST → Nat → Option Rt := fun T nx =>
 bnd (zbin .sl .eql a0 .e0) fun d1 =>
 cnd d1 (
 finK T nx .e0 T nx nx
 ) (
 bB (solidL 1 []) <| fN (Nat.succ nx) fun n1 =>
 zappend 3 1 8 (Tr.set (some (xRows 3 1 [])) T nx) n1 nx (.vw nx 1 0 0) a0 fun f1 s1 d2 T1 l1 => fN (Nat.succ n1) fun n2 => fN l1 fun l2 =>
 finK T nx d2 T1 n2 l2
 )
theorem e116 (a0 : D) (T : ST) (nx : Nat) : fnK Tryz.prog [] dr0 FU Tryz.f116 (.s .o (.s (.s .o (.c (.s .o .o) .o)) (.s .o .o))) [a0] T nx = s116 a0 T nx := by kernel_rfl
noncomputable def F116 : Sem := ar1 s116
theorem k116 : FnOk Tryz.prog 116 F116 := ar1_ok (fnK_ok (by kernel_rfl) CallsOk.nil dr0_ok) e116
/- (reeve/forest.Forest).clone -/
theorem h270 : HasFn Tryz.prog 270 := ⟨by kernel_rfl⟩
noncomputable def s270 (a0 : D) : ST → Nat → Option Rt := fun T nx =>
 bB (solidB a0) <| fN (Nat.succ nx) fun n1 => fN (dcells a0).length fun e1 =>
 fN (Nat.succ n1) fun n2 =>
 bnd (zfieldAddr 0 (.ptr nx e1 0 0)) fun d1 =>
 bnd (zload none (Tr.set (some (XO.mk 201 1 1 (.n [.e0] .e .e))) (Tr.set (some (xRow 201 (dcells a0))) T nx) n1) d1) fun d2 =>
 bndR (F116 [d2] (Tr.set (some (XO.mk 201 1 1 (.n [.e0] .e .e))) (Tr.set (some (xRow 201 (dcells a0))) T nx) n1) n2) fun d3 T1 n3 l1 => fN (lowN nx l1) fun l2 =>
 bnd (zbuild [(.slice none 0 0)] [(0, 1)] [0] [d3]) fun d4 =>
 zstore 1 T1 (.ptr n1 1 0 0) d4 fun r1 T2 => fN (lowN l2 r1) fun l3 =>
 bnd (zres (some 1) T2 (.ptr n1 1 0 0)) fun d5 =>
 finK T nx d5 T2 n3 l3
theorem e270 (a0 : D) (T : ST) (nx : Nat) : fnK Tryz.prog [(116, F116)] dr0 FU Tryz.f270 (.s .o (.s .o .o)) [a0] T nx = s270 a0 T nx := by kernel_rfl
noncomputable def F270 : Sem := ar1 s270
theorem k270 : FnOk Tryz.prog 270 F270 := ar1_ok (fnK_ok (by kernel_rfl) (CallsOk.cons h116 k116 CallsOk.nil) dr0_ok) e270
/- reeve/forest.Move -/
theorem h252 : HasFn Tryz.prog 252 := ⟨by kernel_rfl⟩
noncomputable def s252 (fu : Nat) (a0 a1 a2 : D) : ST → Nat → Option Rt := fun T nx =>
 bB (solidB a0) <| fN (Nat.succ nx) fun n1 => fN (dcells a0).length fun e1 =>
 fN (Nat.succ n1) fun n2 =>
 bnd (zload (some 1) (Tr.set (some (XO.mk 201 1 1 (.n [.e0] .e .e))) (Tr.set (some (xRow 201 (dcells a0))) T nx) n1) (.ptr nx e1 0 0)) fun d1 =>
 bndR (F214 [d1, a1] (Tr.set (some (XO.mk 201 1 1 (.n [.e0] .e .e))) (Tr.set (some (xRow 201 (dcells a0))) T nx) n1) n2) fun d2 T1 n3 l1 => fN (lowN nx l1) fun l2 =>
 bnd (zun .not d2) fun d3 =>
 opG.gjn (fun k1 => zgd d3 false (
  k1 [] [] a2 T1 n3 l2
 ) (k1 [] [] (.v undef) T1 n3 l2)) fun _ _ d4 T2 n4 l3 =>
 opG.gjn (fun k2 => zgd d3 false (
  bnd (zbin .i .lss d4 (.v (.int .i64 (.ofNat 0)))) fun d5 =>
  k2 [] [] d5 T2 n4 l3
 ) (k2 [] [] (.v undef) T2 n4 l3)) fun _ _ d6 T3 n5 l4 =>
 bnd (zpick d3 (.v (.bool true)) d6) fun d7 =>
 opG.gjn (fun k3 => zgd d7 false (
  k3 [] [] a2 T3 n5 l4
 ) (k3 [] [] (.v undef) T3 n5 l4)) fun _ _ d8 T4 n6 l5 =>
 opG.gjn (fun k4 => zgd d7 false (
  bnd (zfieldAddr 0 (.ptr nx e1 0 0)) fun d9 =>
  k4 [] [] d9 T4 n6 l5
 ) (k4 [] [] (.v undef) T4 n6 l5)) fun _ _ d10 T5 n7 l6 =>
 opG.gjn (fun k5 => zgd d7 false (
  bnd (zload none T5 d10) fun d11 =>
  k5 (ptr? d10) [] d11 T5 n7 l6
 ) (k5 [] [] (.v undef) T5 n7 l6)) fun _ _ d12 T6 n8 l7 =>
 opG.gjn (fun k6 => zgd d7 false (
  bnd (zlen true d12) fun d13 =>
  k6 [] [] d13 T6 n8 l7
 ) (k6 [] [] (.v undef) T6 n8 l7)) fun _ _ d14 T7 n9 l8 =>
 opG.gjn (fun k7 => zgd d7 false (
  bnd (zbin .i .geq d8 d14) fun d15 =>
  k7 [] [] d15 T7 n9 l8
 ) (k7 [] [] (.v undef) T7 n9 l8)) fun _ _ d16 T8 n10 l9 =>
 bnd (zpick d7 (.v (.bool true)) d16) fun d17 =>
 opG.gjn (fun k8 => zgd d17 false (
  bnd (zload (some 1) T8 (.ptr nx e1 0 0)) fun d18 =>
  k8 (ptr? (.ptr nx e1 0 0)) [] d18 T8 n10 l9
 ) (k8 [] [] (.v undef) T8 n10 l9)) fun _ _ d19 T9 n11 l10 =>
 opG.gjn (fun k9 => zgd d17 false (
  k9 [] [] a2 T9 n11 l10
 ) (k9 [] [] (.v undef) T9 n11 l10)) fun _ _ d20 T10 n12 l11 =>
 opG.gjn (fun k10 => zgd d17 false (
  bndR (F194 [d19, d20] T10 n12) fun d21 T11 n13 l12 => fN (lowN l11 l12) fun l13 =>
  k10 [] [] d21 T11 n13 l13
 ) (k10 [] [] (.v undef) T10 n12 l11)) fun _ _ d22 T12 n14 l14 =>
 bnd (zpick d17 (.v (.bool true)) d22) fun d23 =>
 cnd d23 (
  bnd (zbuild [(.slice none 0 0)] [(0, 1)] [] []) fun d24 =>
  zstore 1 T12 (.ptr n1 1 0 0) d24 fun r1 T13 => fN (lowN l14 r1) fun l15 =>
 bnd (zres (some 1) T13 (.ptr n1 1 0 0)) fun d25 =>
 finK T nx (.tup [d25, (.v (.bool false))]) T13 n14 l15
 ) (
 bnd (zload (some 1) T12 (.ptr nx e1 0 0)) fun d26 =>
 bndR (F270 [d26] T12 n14) fun d27 T14 n15 l16 => fN (lowN l14 l16) fun l17 =>
 zstore 1 T14 (.ptr nx e1 0 0) d27 fun r2 T15 => fN (lowN l17 r2) fun l18 =>
 jn (fun v1 T16 n16 l19 => unc v1 fun d28 w1 => unc w1 fun d29 w2 => unc w2 fun d30 w3 => unc w3 fun d31 w4 =>
  bnd (zfieldAddr 0 d30) fun d32 =>
  bnd (zload none T16 d32) fun d33 =>
  bnd (zfieldAddr 0 d30) fun d34 =>
  bnd (zload none T16 d34) fun d35 =>
  bnd (zindexAddr (.sl 1) d35 d28) fun d36 =>
  bnd (zload none T16 d36) fun d37 =>
  bnd (zindexAddr (.sl 1) d33 d29) fun d38 =>
  zstore 1 T16 d38 d37 fun r3 T17 => fN (lowN l19 r3) fun l20 =>
  bnd (zfieldAddr 0 d30) fun d39 =>
  bnd (zload none T17 d39) fun d40 =>
  bnd (zindexAddr (.sl 1) d40 d28) fun d41 =>
  zstore 1 T17 d41 (.v (.int .i64 (.negSucc 1))) fun r4 T18 => fN (lowN l20 r4) fun l21 =>
  bnd (zload (some 1) T18 d30) fun d42 =>
  zstore 1 T18 d31 d42 fun r5 T19 => fN (lowN l21 r5) fun l22 =>
 bnd (zres (some 1) T19 d31) fun d43 =>
 finK T nx (.tup [d43, (.v (.bool true))]) T19 n16 l22) fun K1 =>
 bnd (zload (some 1) T15 (.ptr nx e1 0 0)) fun d44 =>
 bndR (F216 [d44, a1] T15 n15) fun d45 T20 n17 l23 => fN (lowN l18 l23) fun l24 =>
 bnd (zlen true d45) fun d46 =>
 lpc fu (fun go1 v2 T21 n18 l25 => unc v2 fun d47 w5 => unc w5 fun d48 w6 => unc w6 fun d49 w7 => unc w7 fun d50 w8 => unc w8 fun d51 w9 => unc w9 fun d52 w10 => unc w10 fun d53 w11 =>
  bnd (zbin .i .lss d53 d52) fun d54 =>
  cnd d54 (
  bnd (zindexAddr (.sl 1) d51 d53) fun d55 =>
  bnd (zload none T21 d55) fun d56 =>
  bnd (zfieldAddr 0 d49) fun d57 =>
  bnd (zload none T21 d57) fun d58 =>
  bnd (zindexAddr (.sl 1) d58 d56) fun d59 =>
  zstore 1 T21 d59 d48 fun r6 T22 => fN (lowN l25 r6) fun l26 =>
  bnd (zbin .i .add d53 (.v (.int .i64 (.ofNat 1)))) fun d60 =>
 go1 [d47, d48, d49, d50, d51, d52, d60] T22 n18 l26
  ) (
 K1 [d47, d48, d49, d50] T21 n18 l25
  )) [a1, a2, (.ptr nx e1 0 0), (.ptr n1 1 0 0), d45, d46, (.v (.int .i64 (.ofNat 0)))] T20 n17 l24
 )
theorem e252 (fu : Nat) (a0 a1 a2 : D) (T : ST) (nx : Nat) : fnK Tryz.prog [(214, F214), (194, F194), (270, F270), (216, F216)] (drD Tryz.prog [(214, F214), (194, F194), (270, F270), (216, F216)]) fu Tryz.f252 (.s .o (.s (.s .o (.c (.s .o .o) .o)) (.s .o (.j [1, 2, 3, 6] (.s .o (.b (.l [1, 2, 3, 6, 35, 36, 37] (.s .o (.s (.c .o .o) (.s (.b (.s .o .o)) .o)))))) (.s .o (.s .o (.s .o .o))))))) [a0, a1, a2] T nx = s252 fu a0 a1 a2 T nx := by kernel_rfl
noncomputable def F252 : Sem := ar3 (s252 FU)
theorem k252 : FnOk Tryz.prog 252 F252 := ar3_ok (fnK_ok (by kernel_rfl) (CallsOk.cons h214 k214 (CallsOk.cons h194 k194 (CallsOk.cons h270 k270 (CallsOk.cons h216 k216 CallsOk.nil)))) (drD_ok hmix (CallsOk.cons h214 k214 (CallsOk.cons h194 k194 (CallsOk.cons h270 k270 (CallsOk.cons h216 k216 CallsOk.nil)))))) (e252 FU)
/- reeve/give.moved -/
theorem h212 : HasFn Tryz.prog 212 := ⟨by kernel_rfl⟩
noncomputable def s212 (fu : Nat) (a0 a1 a2 : D) : ST → Nat → Option Rt := fun T nx =>
 bB (solidB a0) <| fN (Nat.succ nx) fun n1 => fN (dcells a0).length fun e1 =>
 fN (Nat.succ n1) fun n2 =>
 bnd (zload (some 5) (Tr.set (some (XO.mk 32 5 1 (.n [(.v (.int .i64 (.ofNat 0))), (.v (.int .i64 (.ofNat 0))), (.v (.int .i64 (.ofNat 0))), .e0, .e0] .e .e))) (Tr.set (some (xRow 32 (dcells a0))) T nx) n1) (.ptr nx e1 0 0)) fun d1 =>
 bndR (F147 [d1] (Tr.set (some (XO.mk 32 5 1 (.n [(.v (.int .i64 (.ofNat 0))), (.v (.int .i64 (.ofNat 0))), (.v (.int .i64 (.ofNat 0))), .e0, .e0] .e .e))) (Tr.set (some (xRow 32 (dcells a0))) T nx) n1) n2) fun d2 T1 n3 l1 => fN (lowN nx l1) fun l2 =>
 bndR (F252 [d2, a1, a2] T1 n3) fun d3 T2 n4 l3 => fN (lowN l2 l3) fun l4 =>
 bnd (zextract d3 0) fun d4 =>
 bnd (zextract d3 1) fun d5 =>
 fN (Nat.succ n4) fun n5 =>
 zstore 1 (Tr.set (some (XO.mk 201 1 1 (.n [.e0] .e .e))) T2 n4) (.ptr n4 1 0 0) d4 fun r1 T3 => fN (lowN l4 r1) fun l5 =>
 bnd (zload (some 5) T3 (.ptr nx e1 0 0)) fun d6 =>
 bndR (F162 [d6] T3 n5) fun d7 T4 n6 l6 => fN (lowN l5 l6) fun l7 =>
 zstore 5 T4 (.ptr nx e1 0 0) d7 fun r2 T5 => fN (lowN l7 r2) fun l8 =>
 bnd (zfieldAddr 3 (.ptr nx e1 0 0)) fun d8 =>
 bnd (zload none T5 d8) fun d9 =>
 bnd (zfieldAddr 3 (.ptr nx e1 0 0)) fun d10 =>
 bnd (zload none T5 d10) fun d11 =>
 bnd (zfieldAddr 3 (.ptr nx e1 0 0)) fun d12 =>
 bnd (zload none T5 d12) fun d13 =>
 bnd (zindexAddr (.sl 5) d13 a1) fun d14 =>
 bnd (zfieldAddr 0 d14) fun d15 =>
 bnd (zload (some 4) T5 d15) fun d16 =>
 bnd (zbuild [(.int .i64 (.ofNat 0)), (.int .i64 (.ofNat 0)), (.int .i64 (.ofNat 0)), (.int .i64 (.ofNat 0))] [(0, 1), (1, 1), (2, 1), (3, 1)] [] []) fun d17 =>
 bnd (zindexAddr (.sl 5) d9 a2) fun d18 =>
 bnd (zfieldAddr 0 d18) fun d19 =>
 zstore 4 T5 d19 d16 fun r3 T6 => fN (lowN l8 r3) fun l9 =>
 bnd (zindexAddr (.sl 5) d11 a1) fun d20 =>
 bnd (zfieldAddr 0 d20) fun d21 =>
 zstore 4 T6 d21 d17 fun r4 T7 => fN (lowN l9 r4) fun l10 =>
 bB (apt (.op (ptr? d10) []) (.op [r3] [r3])) <|
 jn (fun v1 T8 n7 l11 => unc v1 fun d22 w1 => unc w1 fun d23 w2 => unc w2 fun d24 w3 => unc w3 fun d25 w4 =>
  jn (fun v2 T9 n8 l12 => unc v2 fun d26 w5 => unc w5 fun d27 w6 =>
   bnd (zload (some 5) T9 d26) fun d28 =>
   zstore 5 T9 d27 d28 fun r5 T10 => fN (lowN l12 r5) fun l13 =>
 bnd (zres (some 5) T10 d27) fun d29 =>
 finK T nx d29 T10 n8 l13) fun K1 =>
  bnd (zfieldAddr 4 d24) fun d30 =>
  bnd (zload none T8 d30) fun d31 =>
  bnd (zlen true d31) fun d32 =>
  lpc fu (fun go1 v3 T11 n9 l14 => unc v3 fun d33 w7 => unc w7 fun d34 w8 => unc w8 fun d35 w9 => unc w9 fun d36 w10 => unc w10 fun d37 w11 => unc w11 fun d38 w12 =>
   bnd (zbin .i .lss d38 d37) fun d39 =>
   cnd d39 (
   jn (fun v4 T12 n10 l15 => unc v4 fun d40 w13 => unc w13 fun d41 w14 => unc w14 fun d42 w15 => unc w15 fun d43 w16 => unc w16 fun d44 w17 => unc w17 fun d45 w18 =>
    bnd (zbin .i .add d45 (.v (.int .i64 (.ofNat 1)))) fun d46 =>
  go1 [d40, d41, d42, d43, d44, d46] T12 n10 l15) fun K2 =>
   bnd (zfieldAddr 4 d35) fun d47 =>
   bnd (zload none T11 d47) fun d48 =>
   bnd (zindexAddr (.sl 13) d48 d38) fun d49 =>
   bnd (zfieldAddr 5 d49) fun d50 =>
   bnd (zload none T11 d50) fun d51 =>
   bnd (zbin .i .add d33 (.v (.int .i64 (.ofNat 1)))) fun d52 =>
   bnd (zbin .i .eql d51 d52) fun d53 =>
   cnd d53 (
    bnd (zfieldAddr 4 d35) fun d54 =>
    bnd (zload none T11 d54) fun d55 =>
    bnd (zbin .i .add d34 (.v (.int .i64 (.ofNat 1)))) fun d56 =>
    bnd (zindexAddr (.sl 13) d55 d38) fun d57 =>
    bnd (zfieldAddr 5 d57) fun d58 =>
    zstore 1 T11 d58 d56 fun r6 T13 => fN (lowN l14 r6) fun l16 =>
   K2 [d33, d34, d35, d36, d37, d38] T13 n9 l16
   ) (
   K2 [d33, d34, d35, d36, d37, d38] T11 n9 l14
   )
   ) (
  K1 [d35, d36] T11 n9 l14
   )) [d22, d23, d24, d25, d32, (.v (.int .i64 (.ofNat 0)))] T8 n7 l11) fun K3 =>
 bnd (zfieldAddr 0 (.ptr n4 1 0 0)) fun d59 =>
 bnd (zload none T7 d59) fun d60 =>
 bnd (zlen true d60) fun d61 =>
 lpc fu (fun go2 v5 T14 n11 l17 => unc v5 fun d62 w19 => unc w19 fun d63 w20 => unc w20 fun d64 w21 => unc w21 fun d65 w22 => unc w22 fun d66 w23 => unc w23 fun d67 w24 => unc w24 fun d68 w25 =>
  bnd (zbin .i .lss d68 d67) fun d69 =>
  cnd d69 (
  bnd (zindexAddr (.sl 1) d66 d68) fun d70 =>
  bnd (zload none T14 d70) fun d71 =>
  bnd (zfieldAddr 3 d64) fun d72 =>
  bnd (zload none T14 d72) fun d73 =>
  bnd (biK.zmaxI true d71 [(.v (.int .i64 (.negSucc 0)))]) fun d74 =>
  bnd (zindexAddr (.sl 5) d73 d68) fun d75 =>
  bnd (zfieldAddr 4 d75) fun d76 =>
  zstore 1 T14 d76 d74 fun r7 T15 => fN (lowN l17 r7) fun l18 =>
  bnd (zbin .i .add d68 (.v (.int .i64 (.ofNat 1)))) fun d77 =>
 go2 [d62, d63, d64, d65, d66, d67, d77] T15 n11 l18
  ) (
 K3 [d62, d63, d64, d65] T14 n11 l17
  )) [a1, a2, (.ptr nx e1 0 0), (.ptr n1 5 0 0), d60, d61, (.v (.int .i64 (.ofNat 0)))] T7 n6 l10
theorem e212 (fu : Nat) (a0 a1 a2 : D) (T : ST) (nx : Nat) : fnK Tryz.prog [(147, F147), (252, F252), (162, F162)] (drD Tryz.prog [(147, F147), (252, F252), (162, F162)]) fu Tryz.f212 (.s .o (.s .o (.s .o (.s .o (.j [1, 2, 3, 6] (.s .o (.b (.l [1, 2, 3, 6, 40, 41, 42] (.s .o (.s (.c .o .o) (.s (.b (.s .o .o)) .o)))))) (.j [3, 6] (.s .o (.b (.l [1, 2, 3, 6, 57, 58] (.s .o (.s (.c .o .o) (.j [1, 2, 3, 6, 57, 58] (.b (.s .o (.s .o (.c .o .o)))) .o)))))) (.s .o .o))))))) [a0, a1, a2] T nx = s212 fu a0 a1 a2 T nx := by kernel_rfl
noncomputable def F212 : Sem := ar3 (s212 FU)
theorem k212 : FnOk Tryz.prog 212 F212 := ar3_ok (fnK_ok (by kernel_rfl) (CallsOk.cons h147 k147 (CallsOk.cons h252 k252 (CallsOk.cons h162 k162 CallsOk.nil))) (drD_ok hmix (CallsOk.cons h147 k147 (CallsOk.cons h252 k252 (CallsOk.cons h162 k162 CallsOk.nil))))) (e212 FU)
/- reeve/give.done -/
theorem h155 : HasFn Tryz.prog 155 := ⟨by kernel_rfl⟩
noncomputable def s155 (a0 a1 a2 : D) : ST → Nat → Option Rt := fun T nx =>
 bB (solidB a0) <| fN (Nat.succ nx) fun n1 => fN (dcells a0).length fun e1 =>
 bB (solidB a2) <| fN (Nat.succ n1) fun n2 => fN (dcells a2).length fun e2 =>
 fN (Nat.succ n2) fun n3 =>
 bnd (zload (some 6) (Tr.set (some (XO.mk 32 5 1 (.n [(.v (.int .i64 (.ofNat 0))), (.v (.int .i64 (.ofNat 0))), (.v (.int .i64 (.ofNat 0))), .e0, .e0] .e .e))) (Tr.set (some (xRow 82 (dcells a2))) (Tr.set (some (xRow 32 (dcells a0))) T nx) n1) n2) (.ptr n1 e2 0 0)) fun d1 =>
 bndR (F101 [d1] (Tr.set (some (XO.mk 32 5 1 (.n [(.v (.int .i64 (.ofNat 0))), (.v (.int .i64 (.ofNat 0))), (.v (.int .i64 (.ofNat 0))), .e0, .e0] .e .e))) (Tr.set (some (xRow 82 (dcells a2))) (Tr.set (some (xRow 32 (dcells a0))) T nx) n1) n2) n3) fun d2 T1 n4 l1 => fN (lowN nx l1) fun l2 =>
 bnd (zun .not d2) fun d3 =>
 opG.gjn (fun k1 => zgd d3 false (
  bnd (zfieldAddr 0 (.ptr n1 e2 0 0)) fun d4 =>
  k1 [] [] d4 T1 n4 l2
 ) (k1 [] [] (.v undef) T1 n4 l2)) fun _ _ d5 T2 n5 l3 =>
 opG.gjn (fun k2 => zgd d3 false (
  bnd (zload none T2 d5) fun d6 =>
  k2 (ptr? d5) [] d6 T2 n5 l3
 ) (k2 [] [] (.v undef) T2 n5 l3)) fun _ _ d7 T3 n6 l4 =>
 opG.gjn (fun k3 => zgd d3 false (
  bnd (zbin .i .neq d7 (.v (.int .i64 (.ofNat 2)))) fun d8 =>
  k3 [] [] d8 T3 n6 l4
 ) (k3 [] [] (.v undef) T3 n6 l4)) fun _ _ d9 T4 n7 l5 =>
 opG.gjn (fun k4 => zgd d3 false (
  k4 [] [] d9 T4 n7 l5
 ) (k4 [] [] (.v undef) T4 n7 l5)) fun _ _ d10 T5 n8 l6 =>
 opG.gjn (fun k5 => zgd d10 true (
  bnd (zfieldAddr 0 (.ptr n1 e2 0 0)) fun d11 =>
  k5 [] [] d11 T5 n8 l6
 ) (k5 [] [] (.v undef) T5 n8 l6)) fun _ _ d12 T6 n9 l7 =>
 opG.gjn (fun k6 => zgd d10 true (
  bnd (zload none T6 d12) fun d13 =>
  k6 (ptr? d12) [] d13 T6 n9 l7
 ) (k6 [] [] (.v undef) T6 n9 l7)) fun _ _ d14 T7 n10 l8 =>
 opG.gjn (fun k7 => zgd d10 true (
  bnd (zbin .i .neq d14 (.v (.int .i64 (.ofNat 3)))) fun d15 =>
  k7 [] [] d15 T7 n10 l8
 ) (k7 [] [] (.v undef) T7 n10 l8)) fun _ _ d16 T8 n11 l9 =>
 opG.gjn (fun k8 => zgd d3 false (
  bnd (zpick d10 d16 (.v (.bool false))) fun d17 =>
  k8 [] [] d17 T8 n11 l9
 ) (k8 [] [] (.v undef) T8 n11 l9)) fun _ _ d18 T9 n12 l10 =>
 opG.gjn (fun k9 => zgd d3 false (
  k9 [] [] d18 T9 n12 l10
 ) (k9 [] [] (.v undef) T9 n12 l10)) fun _ _ d19 T10 n13 l11 =>
 opG.gjn (fun k10 => zgd d19 true (
  bnd (zfieldAddr 0 (.ptr n1 e2 0 0)) fun d20 =>
  k10 [] [] d20 T10 n13 l11
 ) (k10 [] [] (.v undef) T10 n13 l11)) fun _ _ d21 T11 n14 l12 =>
 opG.gjn (fun k11 => zgd d19 true (
  bnd (zload none T11 d21) fun d22 =>
  k11 (ptr? d21) [] d22 T11 n14 l12
 ) (k11 [] [] (.v undef) T11 n14 l12)) fun _ _ d23 T12 n15 l13 =>
 opG.gjn (fun k12 => zgd d19 true (
  bnd (zbin .i .neq d23 (.v (.int .i64 (.ofNat 4)))) fun d24 =>
  k12 [] [] d24 T12 n15 l13
 ) (k12 [] [] (.v undef) T12 n15 l13)) fun _ _ d25 T13 n16 l14 =>
 opG.gjn (fun k13 => zgd d3 false (
  bnd (zpick d19 d25 (.v (.bool false))) fun d26 =>
  k13 [] [] d26 T13 n16 l14
 ) (k13 [] [] (.v undef) T13 n16 l14)) fun _ _ d27 T14 n17 l15 =>
 bnd (zpick d3 (.v (.bool true)) d27) fun d28 =>
 cnd d28 (
  bnd (zload (some 5) T14 (.ptr nx e1 0 0)) fun d29 =>
  zstore 5 T14 (.ptr n2 5 0 0) d29 fun r1 T15 => fN (lowN l15 r1) fun l16 =>
 bnd (zres (some 5) T15 (.ptr n2 5 0 0)) fun d30 =>
 finK T nx (.tup [d30, (.v (.int .i64 (.ofNat 1)))]) T15 n17 l16
 ) (
 bnd (zload (some 5) T14 (.ptr nx e1 0 0)) fun d31 =>
 bnd (zfieldAddr 1 (.ptr n1 e2 0 0)) fun d32 =>
 bnd (zload (some 1) T14 d32) fun d33 =>
 bndR (F156 [d31, a1, d33] T14 n17) fun d34 T16 n18 l17 => fN (lowN l15 l17) fun l18 =>
 bnd (zextract d34 0) fun d35 =>
 bnd (zextract d34 1) fun d36 =>
 bnd (zextract d34 2) fun d37 =>
 fN (Nat.succ n18) fun n19 =>
 zstore 4 (Tr.set (some (XO.mk 111 4 1 (.n [(.v (.int .i64 (.ofNat 0))), (.v (.int .i64 (.ofNat 0))), (.v (.int .i64 (.ofNat 0))), (.v (.int .i64 (.ofNat 0)))] .e .e))) T16 n18) (.ptr n18 4 0 0) d36 fun r2 T17 => fN (lowN l18 r2) fun l19 =>
 bnd (zbin .i .neq d37 (.v (.int .i64 (.ofNat 0)))) fun d38 =>
 cnd d38 (
  bnd (zload (some 5) T17 (.ptr nx e1 0 0)) fun d39 =>
  zstore 5 T17 (.ptr n2 5 0 0) d39 fun r3 T18 => fN (lowN l19 r3) fun l20 =>
 bnd (zres (some 5) T18 (.ptr n2 5 0 0)) fun d40 =>
 finK T nx (.tup [d40, d37]) T18 n19 l20
 ) (
 jn (fun v1 T19 n20 l21 => unc v1 fun d41 w1 => unc w1 fun d42 w2 => unc w2 fun d43 w3 => unc w3 fun d44 w4 => unc w4 fun d45 w5 => unc w5 fun d46 w6 =>
  jn (fun v2 T20 n21 l22 => unc v2 fun d47 w7 => unc w7 fun d48 w8 => unc w8 fun d49 w9 => unc w9 fun d50 w10 => unc w10 fun d51 w11 => unc w11 fun d52 w12 =>
   bnd (zload (some 5) T20 d48) fun d53 =>
   bnd (zfieldAddr 2 d49) fun d54 =>
   bnd (zload (some 1) T20 d54) fun d55 =>
   bndR (F203 [d53, d47, d55] T20 n21) fun d56 T21 n22 l23 => fN (lowN l22 l23) fun l24 =>
   bnd (zextract d56 0) fun d57 =>
   bnd (zextract d56 1) fun d58 =>
   bnd (zbin .i .neq d58 (.v (.int .i64 (.ofNat 0)))) fun d59 =>
   cnd d59 (
    bnd (zload (some 5) T21 d48) fun d60 =>
    zstore 5 T21 d50 d60 fun r4 T22 => fN (lowN l24 r4) fun l25 =>
 bnd (zres (some 5) T22 d50) fun d61 =>
 finK T nx (.tup [d61, d58]) T22 n22 l25
   ) (
   bnd (zfieldAddr 0 d49) fun d62 =>
   bnd (zload none T21 d62) fun d63 =>
   bnd (zbin .i .neq d63 (.v (.int .i64 (.ofNat 4)))) fun d64 =>
   cnd d64 (
    bnd (zload (some 5) T21 d48) fun d65 =>
    bnd (zload (some 4) T21 d52) fun d66 =>
    bndR (F210 [d65, d51, d57, d66] T21 n22) fun d67 T23 n23 l26 => fN (lowN l24 l26) fun l27 =>
    bnd (zextract d67 0) fun d68 =>
    bnd (zextract d67 1) fun d69 =>
    zstore 5 T23 d50 d68 fun r5 T24 => fN (lowN l27 r5) fun l28 =>
 bnd (zres (some 5) T24 d50) fun d70 =>
 finK T nx (.tup [d70, d69]) T24 n23 l28
   ) (
   bnd (zload (some 5) T21 d48) fun d71 =>
   bnd (zload (some 4) T21 d52) fun d72 =>
   bndR (F211 [d71, d72, d57] T21 n22) fun d73 T25 n24 l29 => fN (lowN l24 l29) fun l30 =>
   cnd d73 (
    bnd (zload (some 5) T25 d48) fun d74 =>
    zstore 5 T25 d50 d74 fun r6 T26 => fN (lowN l30 r6) fun l31 =>
 bnd (zres (some 5) T26 d50) fun d75 =>
 finK T nx (.tup [d75, (.v (.int .i64 (.ofNat 1)))]) T26 n24 l31
   ) (
   bnd (zload (some 5) T25 d48) fun d76 =>
   bndR (F212 [d76, d51, d57] T25 n24) fun d77 T27 n25 l32 => fN (lowN l30 l32) fun l33 =>
   zstore 5 T27 d50 d77 fun r7 T28 => fN (lowN l33 r7) fun l34 =>
 bnd (zres (some 5) T28 d50) fun d78 =>
 finK T nx (.tup [d78, (.v (.int .i64 (.ofNat 0)))]) T28 n25 l34
   )
   )
   )) fun K1 =>
  bnd (zfieldAddr 0 d43) fun d79 =>
  bnd (zload none T19 d79) fun d80 =>
  bnd (zbin .i .eql d80 (.v (.int .i64 (.ofNat 3)))) fun d81 =>
  cnd d81 (
   bnd (zload (some 4) T19 d46) fun d82 =>
   bnd (zfieldAddr 4 d43) fun d83 =>
   bnd (zload none T19 d83) fun d84 =>
   bndR (F209 [d82, d84] T19 n20) fun d85 T29 n26 l35 => fN (lowN l21 l35) fun l36 =>
   bnd (zextract d85 0) fun d86 =>
   bnd (zextract d85 1) fun d87 =>
   zstore 4 T29 d46 d86 fun r8 T30 => fN (lowN l36 r8) fun l37 =>
   bnd (zbin .i .neq d87 (.v (.int .i64 (.ofNat 0)))) fun d88 =>
   cnd d88 (
    bnd (zload (some 5) T30 d42) fun d89 =>
    zstore 5 T30 d44 d89 fun r9 T31 => fN (lowN l37 r9) fun l38 =>
 bnd (zres (some 5) T31 d44) fun d90 =>
 finK T nx (.tup [d90, d87]) T31 n26 l38
   ) (
  K1 [d41, d42, d43, d44, d45, d46] T30 n26 l37
   )
  ) (
  K1 [d41, d42, d43, d44, d45, d46] T19 n20 l21
  )) fun K2 =>
 bnd (zfieldAddr 0 (.ptr n1 e2 0 0)) fun d91 =>
 bnd (zload none T17 d91) fun d92 =>
 bnd (zbin .i .neq d92 (.v (.int .i64 (.ofNat 4)))) fun d93 =>
 cnd d93 (
  bnd (zload (some 4) T17 (.ptr n18 4 0 0)) fun d94 =>
  bnd (zfieldAddr 3 (.ptr n1 e2 0 0)) fun d95 =>
  bnd (zload none T17 d95) fun d96 =>
  bndR (F208 [d94, d96] T17 n19) fun d97 T32 n27 l39 => fN (lowN l19 l39) fun l40 =>
  zstore 4 T32 (.ptr n18 4 0 0) d97 fun r10 T33 => fN (lowN l40 r10) fun l41 =>
 K2 [a1, (.ptr nx e1 0 0), (.ptr n1 e2 0 0), (.ptr n2 5 0 0), d35, (.ptr n18 4 0 0)] T33 n27 l41
 ) (
 K2 [a1, (.ptr nx e1 0 0), (.ptr n1 e2 0 0), (.ptr n2 5 0 0), d35, (.ptr n18 4 0 0)] T17 n19 l19
 )
 )
 )
theorem e155 (a0 a1 a2 : D) (T : ST) (nx : Nat) : fnK Tryz.prog [(101, F101), (156, F156), (203, F203), (210, F210), (211, F211), (212, F212), (209, F209), (208, F208)] dr0 FU Tryz.f155 (.s .o (.s (.s .o (.c (.s .o .o) .o)) (.s .o (.s (.s .o (.c (.s .o .o) .o)) (.j [1, 3, 5, 6, 8, 9] (.s .o (.c .o .o)) (.j [1, 3, 5, 6, 8, 9] (.s .o (.c (.s .o (.s .o (.c (.s .o .o) .o))) .o)) (.s .o (.s (.s .o (.c (.s .o .o) .o)) (.s (.s .o (.c (.s .o .o) .o)) (.s (.s .o (.c (.s .o .o) .o)) (.s .o .o))))))))))) [a0, a1, a2] T nx = s155 a0 a1 a2 T nx := by kernel_rfl
noncomputable def F155 : Sem := ar3 s155
theorem k155 : FnOk Tryz.prog 155 F155 := ar3_ok (fnK_ok (by kernel_rfl) (CallsOk.cons h101 k101 (CallsOk.cons h156 k156 (CallsOk.cons h203 k203 (CallsOk.cons h210 k210 (CallsOk.cons h211 k211 (CallsOk.cons h212 k212 (CallsOk.cons h209 k209 (CallsOk.cons h208 k208 CallsOk.nil)))))))) dr0_ok) e155
/- reeve/give.Do -/
theorem h104 : HasFn Tryz.prog 104 := ⟨by kernel_rfl⟩
noncomputable def s104 (a0 a1 a2 : D) : ST → Nat → Option Rt := fun T nx =>
 bB (solidB a0) <| fN (Nat.succ nx) fun n1 => fN (dcells a0).length fun e1 =>
 bB (solidB a2) <| fN (Nat.succ n1) fun n2 => fN (dcells a2).length fun e2 =>
 fN (Nat.succ n2) fun n3 =>
 fN (Nat.succ n3) fun n4 =>
 bnd (zload (some 5) (Tr.set (some (XO.mk 66 3 1 (.n [(.v (.int .i64 (.ofNat 0))), (.v (.int .u64 (.ofNat 0))), (.v (.int .i64 (.ofNat 0)))] .e .e))) (Tr.set (some (XO.mk 32 5 1 (.n [(.v (.int .i64 (.ofNat 0))), (.v (.int .i64 (.ofNat 0))), (.v (.int .i64 (.ofNat 0))), .e0, .e0] .e .e))) (Tr.set (some (xRow 82 (dcells a2))) (Tr.set (some (xRow 32 (dcells a0))) T nx) n1) n2) n3) (.ptr nx e1 0 0)) fun d1 =>
 bnd (zload (some 6) (Tr.set (some (XO.mk 66 3 1 (.n [(.v (.int .i64 (.ofNat 0))), (.v (.int .u64 (.ofNat 0))), (.v (.int .i64 (.ofNat 0)))] .e .e))) (Tr.set (some (XO.mk 32 5 1 (.n [(.v (.int .i64 (.ofNat 0))), (.v (.int .i64 (.ofNat 0))), (.v (.int .i64 (.ofNat 0))), .e0, .e0] .e .e))) (Tr.set (some (xRow 82 (dcells a2))) (Tr.set (some (xRow 32 (dcells a0))) T nx) n1) n2) n3) (.ptr n1 e2 0 0)) fun d2 =>
 bndR (F155 [d1, a1, d2] (Tr.set (some (XO.mk 66 3 1 (.n [(.v (.int .i64 (.ofNat 0))), (.v (.int .u64 (.ofNat 0))), (.v (.int .i64 (.ofNat 0)))] .e .e))) (Tr.set (some (XO.mk 32 5 1 (.n [(.v (.int .i64 (.ofNat 0))), (.v (.int .i64 (.ofNat 0))), (.v (.int .i64 (.ofNat 0))), .e0, .e0] .e .e))) (Tr.set (some (xRow 82 (dcells a2))) (Tr.set (some (xRow 32 (dcells a0))) T nx) n1) n2) n3) n4) fun d3 T1 n5 l1 => fN (lowN nx l1) fun l2 =>
 bnd (zextract d3 0) fun d4 =>
 bnd (zextract d3 1) fun d5 =>
 fN (Nat.succ n5) fun n6 =>
 zstore 5 (Tr.set (some (XO.mk 32 5 1 (.n [(.v (.int .i64 (.ofNat 0))), (.v (.int .i64 (.ofNat 0))), (.v (.int .i64 (.ofNat 0))), .e0, .e0] .e .e))) T1 n5) (.ptr n5 5 0 0) d4 fun r1 T2 => fN (lowN l2 r1) fun l3 =>
 bnd (zbin .i .neq d5 (.v (.int .i64 (.ofNat 0)))) fun d6 =>
 cnd d6 (
  bnd (zload (some 5) T2 (.ptr nx e1 0 0)) fun d7 =>
  bnd (zbuild [(.int .i64 (.ofNat 0)), (.int .u64 (.ofNat 0)), (.int .i64 (.ofNat 0))] [(0, 1), (1, 1), (2, 1)] [0] [d5]) fun d8 =>
  zstore 5 T2 (.ptr n2 5 0 0) d7 fun r2 T3 => fN (lowN l3 r2) fun l4 =>
  zstore 3 T3 (.ptr n3 3 0 0) d8 fun r3 T4 => fN (lowN l4 r3) fun l5 =>
 bnd (zres (some 5) T4 (.ptr n2 5 0 0)) fun d9 =>
 bnd (zres (some 3) T4 (.ptr n3 3 0 0)) fun d10 =>
 finK T nx (.tup [d9, d10]) T4 n6 l5
 ) (
 bnd (zload (some 5) T2 (.ptr n5 5 0 0)) fun d11 =>
 bnd (zbuild [(.int .i64 (.ofNat 0)), (.int .u64 (.ofNat 0)), (.int .i64 (.ofNat 0))] [(0, 1), (1, 1), (2, 1)] [] []) fun d12 =>
 zstore 5 T2 (.ptr n2 5 0 0) d11 fun r4 T5 => fN (lowN l3 r4) fun l6 =>
 zstore 3 T5 (.ptr n3 3 0 0) d12 fun r5 T6 => fN (lowN l6 r5) fun l7 =>
 bnd (zres (some 5) T6 (.ptr n2 5 0 0)) fun d13 =>
 bnd (zres (some 3) T6 (.ptr n3 3 0 0)) fun d14 =>
 finK T nx (.tup [d13, d14]) T6 n6 l7
 )
theorem e104 (a0 a1 a2 : D) (T : ST) (nx : Nat) : fnK Tryz.prog [(155, F155)] dr0 FU Tryz.f104 (.s .o (.s .o (.s (.s .o (.c (.s .o .o) .o)) (.s .o .o)))) [a0, a1, a2] T nx = s104 a0 a1 a2 T nx := by kernel_rfl
noncomputable def F104 : Sem := ar3 s104
theorem k104 : FnOk Tryz.prog 104 F104 := ar3_ok (fnK_ok (by kernel_rfl) (CallsOk.cons h155 k155 CallsOk.nil) dr0_ok) e104
/- cmp.isNaN[int] -/
theorem h234 : HasFn Tryz.prog 234 := ⟨by kernel_rfl⟩
noncomputable def s234 (a0 : D) : ST → Nat → Option Rt := fun T nx =>
 bnd (zbin .i .neq a0 a0) fun d1 =>
 finK T nx d1 T nx nx
theorem e234 (a0 : D) (T : ST) (nx : Nat) : fnK Tryz.prog [] dr0 FU Tryz.f234 (.s .o (.s .o .o)) [a0] T nx = s234 a0 T nx := by kernel_rfl
noncomputable def F234 : Sem := ar1 s234
theorem k234 : FnOk Tryz.prog 234 F234 := ar1_ok (fnK_ok (by kernel_rfl) CallsOk.nil dr0_ok) e234
/- cmp.Less[int] -/
theorem h178 : HasFn Tryz.prog 178 := ⟨by kernel_rfl⟩
noncomputable def s178 (a0 a1 : D) : ST → Nat → Option Rt := fun T nx =>
 bndR (F234 [a0] T nx) fun d1 T1 n1 l1 => fN (lowN nx l1) fun l2 =>
 opG.gjn (fun k1 => zgd d1 true (
  k1 [] [] a1 T1 n1 l2
 ) (k1 [] [] (.v undef) T1 n1 l2)) fun _ _ d2 T2 n2 l3 =>
 opG.gjn (fun k2 => zgd d1 true (
  bndR (F234 [d2] T2 n2) fun d3 T3 n3 l4 => fN (lowN l3 l4) fun l5 =>
  k2 [] [] d3 T3 n3 l5
 ) (k2 [] [] (.v undef) T2 n2 l3)) fun _ _ d4 T4 n4 l6 =>
 opG.gjn (fun k3 => zgd d1 true (
  bnd (zun .not d4) fun d5 =>
  k3 [] [] d5 T4 n4 l6
 ) (k3 [] [] (.v undef) T4 n4 l6)) fun _ _ d6 T5 n5 l7 =>
 bnd (zpick d1 d6 (.v (.bool false))) fun d7 =>
 opG.gjn (fun k4 => zgd d7 false (
  k4 [] [] a0 T5 n5 l7
 ) (k4 [] [] (.v undef) T5 n5 l7)) fun _ _ d8 T6 n6 l8 =>
 opG.gjn (fun k5 => zgd d7 false (
  k5 [] [] a1 T6 n6 l8
 ) (k5 [] [] (.v undef) T6 n6 l8)) fun _ _ d9 T7 n7 l9 =>
 opG.gjn (fun k6 => zgd d7 false (
  bnd (zbin .i .lss d8 d9) fun d10 =>
  k6 [] [] d10 T7 n7 l9
 ) (k6 [] [] (.v undef) T7 n7 l9)) fun _ _ d11 T8 n8 l10 =>
 bnd (zpick d7 (.v (.bool true)) d11) fun d12 =>
 finK T nx d12 T8 n8 l10
theorem e178 (a0 a1 : D) (T : ST) (nx : Nat) : fnK Tryz.prog [(234, F234)] dr0 FU Tryz.f178 (.s .o (.s .o .o)) [a0, a1] T nx = s178 a0 a1 T nx := by kernel_rfl
noncomputable def F178 : Sem := ar2 s178
theorem k178 : FnOk Tryz.prog 178 F178 := ar2_ok (fnK_ok (by kernel_rfl) (CallsOk.cons h234 k234 CallsOk.nil) dr0_ok) e178
/- slices.insertionSortOrdered[int] -/
theorem h172 : HasFn Tryz.prog 172 := ⟨by kernel_rfl⟩
noncomputable def s172 (fu : Nat) (a0 a1 a2 : D) : ST → Nat → Option Rt := fun T nx =>
 bnd (zbin .i .add a1 (.v (.int .i64 (.ofNat 1)))) fun d1 =>
 lpc fu (fun go1 v1 T1 n1 l1 => unc v1 fun d2 w1 => unc w1 fun d3 w2 => unc w2 fun d4 w3 => unc w3 fun d5 w4 =>
  bnd (zbin .i .lss d5 d4) fun d6 =>
  cnd d6 (
  jn (fun v2 T2 n2 l2 => unc v2 fun d7 w5 => unc w5 fun d8 w6 => unc w6 fun d9 w7 => unc w7 fun d10 w8 =>
   bnd (zbin .i .add d10 (.v (.int .i64 (.ofNat 1)))) fun d11 =>
 go1 [d7, d8, d9, d11] T2 n2 l2) fun K1 =>
  lpc fu (fun go2 v3 T3 n3 l3 => unc v3 fun d12 w9 => unc w9 fun d13 w10 => unc w10 fun d14 w11 => unc w11 fun d15 w12 => unc w12 fun d16 w13 =>
   bnd (zbin .i .gtr d16 d13) fun d17 =>
   opD.gjd (fun k1 => zgd d17 true (
    k1 (.op [] []) d12 T3 n3 l3
   ) (k1 (.op [] []) (.v undef) T3 n3 l3)) fun f1 d18 T4 n4 l4 =>
   opD.gjd (fun k2 => zgd d17 true (
    k2 (.op [] []) d16 T4 n4 l4
   ) (k2 (.op [] []) (.v undef) T4 n4 l4)) fun f2 d19 T5 n5 l5 =>
   opD.gjd (fun k3 => zgd d17 true (
    bnd (zindexAddr (.sl 1) d18 d19) fun d20 =>
    k3 (.op [] []) d20 T5 n5 l5
   ) (k3 (.op [] []) (.v undef) T5 n5 l5)) fun f3 d21 T6 n6 l6 =>
   opD.gjd (fun k4 => zgd d17 true (
    bnd (zload none T6 d21) fun d22 =>
    k4 (.op (ptr? d21) []) d22 T6 n6 l6
   ) (k4 (.op [] []) (.v undef) T6 n6 l6)) fun f4 d23 T7 n7 l7 =>
   opD.gjd (fun k5 => zgd d17 true (
    k5 (.op [] []) d12 T7 n7 l7
   ) (k5 (.op [] []) (.v undef) T7 n7 l7)) fun f5 d24 T8 n8 l8 =>
   opD.gjd (fun k6 => zgd d17 true (
    k6 (.op [] []) d16 T8 n8 l8
   ) (k6 (.op [] []) (.v undef) T8 n8 l8)) fun f6 d25 T9 n9 l9 =>
   opD.gjd (fun k7 => zgd d17 true (
    bnd (zbin .i .sub d25 (.v (.int .i64 (.ofNat 1)))) fun d26 =>
    k7 (.op [] []) d26 T9 n9 l9
   ) (k7 (.op [] []) (.v undef) T9 n9 l9)) fun f7 d27 T10 n10 l10 =>
   opD.gjd (fun k8 => zgd d17 true (
    bnd (zindexAddr (.sl 1) d24 d27) fun d28 =>
    k8 (.op [] []) d28 T10 n10 l10
   ) (k8 (.op [] []) (.v undef) T10 n10 l10)) fun f8 d29 T11 n11 l11 =>
   opD.gjd (fun k9 => zgd d17 true (
    bnd (zload none T11 d29) fun d30 =>
    k9 (.op (ptr? d29) []) d30 T11 n11 l11
   ) (k9 (.op [] []) (.v undef) T11 n11 l11)) fun f9 d31 T12 n12 l12 =>
   opD.gjd (fun k10 => zgd d17 true (
    bndR (F178 [d23, d31] T12 n12) fun d32 T13 n13 l13 => fN (lowN n12 l13) fun l14 => bB (Nat.beq l14 n12) <|
    k10 (.call n12 n13) d32 T13 n13 l12
   ) (k10 (.op [] []) (.v undef) T12 n12 l12)) fun f10 d33 T14 n14 l15 =>
   bnd (zpick d17 d33 (.v (.bool false))) fun d34 =>
   cnd d34 (
   bnd (zbin .i .sub d16 (.v (.int .i64 (.ofNat 1)))) fun d35 =>
   bnd (zbin .i .sub d16 (.v (.int .i64 (.ofNat 1)))) fun d36 =>
   bnd (zindexAddr (.sl 1) d12 d36) fun d37 =>
   bnd (zload none T14 d37) fun d38 =>
   bnd (zindexAddr (.sl 1) d12 d16) fun d39 =>
   bnd (zload none T14 d39) fun d40 =>
   bnd (zindexAddr (.sl 1) d12 d16) fun d41 =>
   zstore 1 T14 d41 d38 fun r1 T15 => fN (lowN l15 r1) fun l16 =>
   bnd (zindexAddr (.sl 1) d12 d35) fun d42 =>
   zstore 1 T15 d42 d40 fun r2 T16 => fN (lowN l16 r2) fun l17 =>
   bnd (zbin .i .sub d16 (.v (.int .i64 (.ofNat 1)))) fun d43 =>
  go2 [d12, d13, d14, d15, d43] T16 n14 l17
   ) (
  K1 [d12, d13, d14, d15] T14 n14 l15
   )) [d2, d3, d4, d5, d5] T1 n1 l1
  ) (
 finK T nx (.tup []) T1 n1 l1
  )) [a0, a1, a2, d1] T nx nx
theorem e172 (fu : Nat) (a0 a1 a2 : D) (T : ST) (nx : Nat) : fnK Tryz.prog [(178, F178)] (drD Tryz.prog [(178, F178)]) fu Tryz.f172 (.s .o (.b (.l [0, 1, 2, 6] (.s (.s .o (.c .o .o)) (.j [0, 1, 2, 6] (.b (.s .o (.b (.l [0, 1, 2, 6, 7] (.s (.s .o (.c .o .o)) (.s (.b .o) .o)))))) .o))))) [a0, a1, a2] T nx = s172 fu a0 a1 a2 T nx := by kernel_rfl
noncomputable def F172 : Sem := ar3 (s172 FU)
theorem k172 : FnOk Tryz.prog 172 F172 := ar3_ok (fnK_ok (by kernel_rfl) (CallsOk.cons h178 k178 CallsOk.nil) (drD_ok hmix (CallsOk.cons h178 k178 CallsOk.nil))) (e172 FU)
/- slices.siftDownOrdered[int] -/
theorem h229 : HasFn Tryz.prog 229 := ⟨by kernel_rfl⟩
noncomputable def s229 (fu : Nat) (a0 a1 a2 a3 : D) : ST → Nat → Option Rt := fun T nx =>
 lpc fu (fun go1 v1 T1 n1 l1 => unc v1 fun d1 w1 => unc w1 fun d2 w2 => unc w2 fun d3 w3 => unc w3 fun d4 w4 =>
  bnd (zbin .i .mul (.v (.int .i64 (.ofNat 2))) d4) fun d5 =>
  bnd (zbin .i .add d5 (.v (.int .i64 (.ofNat 1)))) fun d6 =>
  bnd (zbin .i .geq d6 d2) fun d7 =>
  cnd d7 (
 finK T nx (.tup []) T1 n1 l1
  ) (
  jn (fun v2 T2 n2 l2 => unc v2 fun d8 w5 => unc w5 fun d9 w6 => unc w6 fun d10 w7 => unc w7 fun d11 w8 => unc w8 fun d12 w9 =>
   bnd (zbin .i .add d10 d11) fun d13 =>
   bnd (zindexAddr (.sl 1) d8 d13) fun d14 =>
   bnd (zload none T2 d14) fun d15 =>
   bnd (zbin .i .add d10 d12) fun d16 =>
   bnd (zindexAddr (.sl 1) d8 d16) fun d17 =>
   bnd (zload none T2 d17) fun d18 =>
   bndR (F178 [d15, d18] T2 n2) fun d19 T3 n3 l3 => fN (lowN n2 l3) fun l4 => bB (Nat.beq l4 n2) <|
   bnd (zun .not d19) fun d20 =>
   cnd d20 (
 finK T nx (.tup []) T3 n3 l2
   ) (
   bnd (zbin .i .add d10 d11) fun d21 =>
   bnd (zbin .i .add d10 d12) fun d22 =>
   bnd (zbin .i .add d10 d12) fun d23 =>
   bnd (zindexAddr (.sl 1) d8 d23) fun d24 =>
   bnd (zload none T3 d24) fun d25 =>
   bnd (zbin .i .add d10 d11) fun d26 =>
   bnd (zindexAddr (.sl 1) d8 d26) fun d27 =>
   bnd (zload none T3 d27) fun d28 =>
   bnd (zindexAddr (.sl 1) d8 d21) fun d29 =>
   zstore 1 T3 d29 d25 fun r1 T4 => fN (lowN l2 r1) fun l5 =>
   bnd (zindexAddr (.sl 1) d8 d22) fun d30 =>
   zstore 1 T4 d30 d28 fun r2 T5 => fN (lowN l5 r2) fun l6 =>
 go1 [d8, d9, d10, d12] T5 n3 l6
   )) fun K1 =>
  bnd (zbin .i .add d6 (.v (.int .i64 (.ofNat 1)))) fun d31 =>
  bnd (zbin .i .lss d31 d2) fun d32 =>
  opD.gjd (fun k1 => zgd d32 true (
   k1 (.op [] []) d1 T1 n1 l1
  ) (k1 (.op [] []) (.v undef) T1 n1 l1)) fun f1 d33 T6 n4 l7 =>
  opD.gjd (fun k2 => zgd d32 true (
   k2 (.op [] []) d3 T6 n4 l7
  ) (k2 (.op [] []) (.v undef) T6 n4 l7)) fun f2 d34 T7 n5 l8 =>
  opD.gjd (fun k3 => zgd d32 true (
   k3 (.op [] []) d6 T7 n5 l8
  ) (k3 (.op [] []) (.v undef) T7 n5 l8)) fun f3 d35 T8 n6 l9 =>
  opD.gjd (fun k4 => zgd d32 true (
   bnd (zbin .i .add d34 d35) fun d36 =>
   k4 (.op [] []) d36 T8 n6 l9
  ) (k4 (.op [] []) (.v undef) T8 n6 l9)) fun f4 d37 T9 n7 l10 =>
  opD.gjd (fun k5 => zgd d32 true (
   bnd (zindexAddr (.sl 1) d33 d37) fun d38 =>
   k5 (.op [] []) d38 T9 n7 l10
  ) (k5 (.op [] []) (.v undef) T9 n7 l10)) fun f5 d39 T10 n8 l11 =>
  opD.gjd (fun k6 => zgd d32 true (
   bnd (zload none T10 d39) fun d40 =>
   k6 (.op (ptr? d39) []) d40 T10 n8 l11
  ) (k6 (.op [] []) (.v undef) T10 n8 l11)) fun f6 d41 T11 n9 l12 =>
  opD.gjd (fun k7 => zgd d32 true (
   k7 (.op [] []) d1 T11 n9 l12
  ) (k7 (.op [] []) (.v undef) T11 n9 l12)) fun f7 d42 T12 n10 l13 =>
  opD.gjd (fun k8 => zgd d32 true (
   k8 (.op [] []) d3 T12 n10 l13
  ) (k8 (.op [] []) (.v undef) T12 n10 l13)) fun f8 d43 T13 n11 l14 =>
  opD.gjd (fun k9 => zgd d32 true (
   k9 (.op [] []) d6 T13 n11 l14
  ) (k9 (.op [] []) (.v undef) T13 n11 l14)) fun f9 d44 T14 n12 l15 =>
  opD.gjd (fun k10 => zgd d32 true (
   bnd (zbin .i .add d43 d44) fun d45 =>
   k10 (.op [] []) d45 T14 n12 l15
  ) (k10 (.op [] []) (.v undef) T14 n12 l15)) fun f10 d46 T15 n13 l16 =>
  opD.gjd (fun k11 => zgd d32 true (
   bnd (zbin .i .add d46 (.v (.int .i64 (.ofNat 1)))) fun d47 =>
   k11 (.op [] []) d47 T15 n13 l16
  ) (k11 (.op [] []) (.v undef) T15 n13 l16)) fun f11 d48 T16 n14 l17 =>
  opD.gjd (fun k12 => zgd d32 true (
   bnd (zindexAddr (.sl 1) d42 d48) fun d49 =>
   k12 (.op [] []) d49 T16 n14 l17
  ) (k12 (.op [] []) (.v undef) T16 n14 l17)) fun f12 d50 T17 n15 l18 =>
  opD.gjd (fun k13 => zgd d32 true (
   bnd (zload none T17 d50) fun d51 =>
   k13 (.op (ptr? d50) []) d51 T17 n15 l18
  ) (k13 (.op [] []) (.v undef) T17 n15 l18)) fun f13 d52 T18 n16 l19 =>
  opD.gjd (fun k14 => zgd d32 true (
   bndR (F178 [d41, d52] T18 n16) fun d53 T19 n17 l20 => fN (lowN n16 l20) fun l21 => bB (Nat.beq l21 n16) <|
   k14 (.call n16 n17) d53 T19 n17 l19
  ) (k14 (.op [] []) (.v undef) T18 n16 l19)) fun f14 d54 T20 n18 l22 =>
  bnd (zpick d32 d54 (.v (.bool false))) fun d55 =>
  cnd d55 (
   bnd (zbin .i .add d6 (.v (.int .i64 (.ofNat 1)))) fun d56 =>
  K1 [d1, d2, d3, d4, d56] T20 n18 l22
  ) (
  K1 [d1, d2, d3, d4, d6] T20 n18 l22
  )
  )) [a0, a2, a3, a1] T nx nx
theorem e229 (fu : Nat) (a0 a1 a2 a3 : D) (T : ST) (nx : Nat) : fnK Tryz.prog [(178, F178)] (drD Tryz.prog [(178, F178)]) fu Tryz.f229 (.s .o (.b (.l [0, 2, 3, 8] (.b (.s .o (.s (.s .o (.c .o .o)) (.j [0, 2, 3, 8, 9] (.s .o (.c .o .o)) (.s (.s .o (.c .o .o)) (.s .o .o))))))))) [a0, a1, a2, a3] T nx = s229 fu a0 a1 a2 a3 T nx := by kernel_rfl
noncomputable def F229 : Sem := ar4 (s229 FU)
theorem k229 : FnOk Tryz.prog 229 F229 := ar4_ok (fnK_ok (by kernel_rfl) (CallsOk.cons h178 k178 CallsOk.nil) (drD_ok hmix (CallsOk.cons h178 k178 CallsOk.nil))) (e229 FU)
/- slices.heapSortOrdered[int] -/
theorem h173 : HasFn Tryz.prog 173 := ⟨by kernel_rfl⟩
noncomputable def s173 (fu : Nat) (a0 a1 a2 : D) : ST → Nat → Option Rt := fun T nx =>
 bnd (zbin .i .sub a2 a1) fun d1 =>
 jn (fun v1 T1 n1 l1 => unc v1 fun d2 w1 => unc w1 fun d3 w2 => unc w2 fun d4 w3 => unc w3 fun d5 w4 =>
  bnd (zbin .i .sub d5 (.v (.int .i64 (.ofNat 1)))) fun d6 =>
  lpc fu (fun go1 v2 T2 n2 l2 => unc v2 fun d7 w5 => unc w5 fun d8 w6 => unc w6 fun d9 w7 => unc w7 fun d10 w8 =>
   bnd (zbin .i .geq d10 (.v (.int .i64 (.ofNat 0)))) fun d11 =>
   cnd d11 (
   bnd (zbin .i .add d8 d10) fun d12 =>
   bnd (zbin .i .add d8 d10) fun d13 =>
   bnd (zindexAddr (.sl 1) d7 d13) fun d14 =>
   bnd (zload none T2 d14) fun d15 =>
   bnd (zindexAddr (.sl 1) d7 d8) fun d16 =>
   bnd (zload none T2 d16) fun d17 =>
   bnd (zindexAddr (.sl 1) d7 d8) fun d18 =>
   zstore 1 T2 d18 d15 fun r1 T3 => fN (lowN l2 r1) fun l3 =>
   bnd (zindexAddr (.sl 1) d7 d12) fun d19 =>
   zstore 1 T3 d19 d17 fun r2 T4 => fN (lowN l3 r2) fun l4 =>
   bndR (F229 [d7, d9, d10, d8] T4 n2) fun d20 T5 n3 l5 => fN (lowN l4 l5) fun l6 =>
   bnd (zbin .i .sub d10 (.v (.int .i64 (.ofNat 1)))) fun d21 =>
  go1 [d7, d8, d9, d21] T5 n3 l6
   ) (
 finK T nx (.tup []) T2 n2 l2
   )) [d2, d3, d4, d6] T1 n1 l1) fun K1 =>
 bnd (zbin .i .sub d1 (.v (.int .i64 (.ofNat 1)))) fun d22 =>
 bnd (zbin .i .quo d22 (.v (.int .i64 (.ofNat 2)))) fun d23 =>
 lpc fu (fun go2 v3 T6 n4 l7 => unc v3 fun d24 w9 => unc w9 fun d25 w10 => unc w10 fun d26 w11 => unc w11 fun d27 w12 => unc w12 fun d28 w13 =>
  bnd (zbin .i .geq d28 (.v (.int .i64 (.ofNat 0)))) fun d29 =>
  cnd d29 (
  bndR (F229 [d24, d28, d27, d25] T6 n4) fun d30 T7 n5 l8 => fN (lowN l7 l8) fun l9 =>
  bnd (zbin .i .sub d28 (.v (.int .i64 (.ofNat 1)))) fun d31 =>
 go2 [d24, d25, d26, d27, d31] T7 n5 l9
  ) (
 K1 [d24, d25, d26, d27] T6 n4 l7
  )) [a0, a1, (.v (.int .i64 (.ofNat 0))), d1, d23] T nx nx
theorem e173 (fu : Nat) (a0 a1 a2 : D) (T : ST) (nx : Nat) : fnK Tryz.prog [(229, F229)] (drD Tryz.prog [(229, F229)]) fu Tryz.f173 (.s .o (.s .o (.s .o (.j [0, 6, 7, 8] (.s .o (.b (.l [0, 6, 7, 8, 9] (.s (.s .o (.c .o .o)) (.s (.b .o) .o))))) (.s .o (.b (.l [0, 6, 7, 10] (.s (.s .o (.c .o .o)) (.s (.b (.s .o .o)) .o))))))))) [a0, a1, a2] T nx = s173 fu a0 a1 a2 T nx := by kernel_rfl
noncomputable def F173 : Sem := ar3 (s173 FU)
theorem k173 : FnOk Tryz.prog 173 F173 := ar3_ok (fnK_ok (by kernel_rfl) (CallsOk.cons h229 k229 CallsOk.nil) (drD_ok hmix (CallsOk.cons h229 k229 CallsOk.nil))) (e173 FU)
/- math/bits.Len32 -/
theorem h181 : HasFn Tryz.prog 181 := ⟨by kernel_rfl⟩
noncomputable def s181 (a0 : D) : ST → Nat → Option Rt := fun T nx =>
 jn (fun v1 T1 n1 l1 => unc v1 fun d1 w1 => unc w1 fun d2 w2 =>
  jn (fun v2 T2 n2 l2 => unc v2 fun d3 w3 => unc w3 fun d4 w4 =>
   bnd (zconv (.ii .u8) d3) fun d5 =>
   bnd (zindex .str (.v (.string (ByteArray.mk #[0, 1, 2, 2, 3, 3, 3, 3, 4, 4, 4, 4, 4, 4, 4, 4, 5, 5, 5, 5, 5, 5, 5, 5, 5, 5, 5, 5, 5, 5, 5, 5, 6, 6, 6, 6, 6, 6, 6, 6, 6, 6, 6, 6, 6, 6, 6, 6, 6, 6, 6, 6, 6, 6, 6, 6, 6, 6, 6, 6, 6, 6, 6, 6, 7, 7, 7, 7, 7, 7, 7, 7, 7, 7, 7, 7, 7, 7, 7, 7, 7, 7, 7, 7, 7, 7, 7, 7, 7, 7, 7, 7, 7, 7, 7, 7, 7, 7, 7, 7, 7, 7, 7, 7, 7, 7, 7, 7, 7, 7, 7, 7, 7, 7, 7, 7, 7, 7, 7, 7, 7, 7, 7, 7, 7, 7, 7, 7, 8, 8, 8, 8, 8, 8, 8, 8, 8, 8, 8, 8, 8, 8, 8, 8, 8, 8, 8, 8, 8, 8, 8, 8, 8, 8, 8, 8, 8, 8, 8, 8, 8, 8, 8, 8, 8, 8, 8, 8, 8, 8, 8, 8, 8, 8, 8, 8, 8, 8, 8, 8, 8, 8, 8, 8, 8, 8, 8, 8, 8, 8, 8, 8, 8, 8, 8, 8, 8, 8, 8, 8, 8, 8, 8, 8, 8, 8, 8, 8, 8, 8, 8, 8, 8, 8, 8, 8, 8, 8, 8, 8, 8, 8, 8, 8, 8, 8, 8, 8, 8, 8, 8, 8, 8, 8, 8, 8, 8, 8, 8, 8, 8, 8, 8, 8, 8, 8, 8, 8, 8, 8, 8, 8, 8, 8, 8, 8]))) d5) fun d6 =>
   bnd (zconv (.ii .i64) d6) fun d7 =>
   bnd (zbin .i .add d4 d7) fun d8 =>
 finK T nx d8 T2 n2 l2) fun K1 =>
  bnd (zbin .i .geq d1 (.v (.int .u32 (.ofNat 256)))) fun d9 =>
  cnd d9 (
   bnd (zbin .sh .shr d1 (.v (.int .u64 (.ofNat 8)))) fun d10 =>
   bnd (zbin .i .add d2 (.v (.int .i64 (.ofNat 8)))) fun d11 =>
  K1 [d10, d11] T1 n1 l1
  ) (
  K1 [d1, d2] T1 n1 l1
  )) fun K2 =>
 bnd (zbin .i .geq a0 (.v (.int .u32 (.ofNat 65536)))) fun d12 =>
 cnd d12 (
  bnd (zbin .sh .shr a0 (.v (.int .u64 (.ofNat 16)))) fun d13 =>
 K2 [d13, (.v (.int .i64 (.ofNat 16)))] T nx nx
 ) (
 K2 [a0, (.v (.int .i64 (.ofNat 0)))] T nx nx
 )
theorem e181 (a0 : D) (T : ST) (nx : Nat) : fnK Tryz.prog [] dr0 FU Tryz.f181 (.s .o (.j [0, 2] (.s .o (.c (.s .o .o) .o)) (.j [0, 2] (.s .o (.c (.s .o .o) .o)) (.s .o .o)))) [a0] T nx = s181 a0 T nx := by kernel_rfl
noncomputable def F181 : Sem := ar1 s181
theorem k181 : FnOk Tryz.prog 181 F181 := ar1_ok (fnK_ok (by kernel_rfl) CallsOk.nil dr0_ok) e181
end Go.Abs
