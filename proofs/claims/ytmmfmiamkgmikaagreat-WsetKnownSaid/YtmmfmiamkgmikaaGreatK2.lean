/- Functions of the program as what they run as, printed by a program of this session. -/
import Derived.Test.YtmmfmiamkgmikaaGreatK1
set_option linter.unusedVariables false
set_option maxRecDepth 100000
open Go Go.Proofs
namespace Go.Abs
/- reeve/thing.in -/
theorem h171 : HasFn Tryz.prog 171 := ⟨by kernel_rfl⟩
noncomputable def s171 (a0 a1 a2 : D) : ST → Nat → Option Rt := fun T nx =>
 bnd (zbin .i .geq a0 a1) fun d1 =>
 opG.gjn (fun k1 => zgd d1 true (
  k1 [] [] a0 T nx nx
 ) (k1 [] [] (.v undef) T nx nx)) fun _ _ d2 T1 n1 l1 =>
 opG.gjn (fun k2 => zgd d1 true (
  k2 [] [] a2 T1 n1 l1
 ) (k2 [] [] (.v undef) T1 n1 l1)) fun _ _ d3 T2 n2 l2 =>
 opG.gjn (fun k3 => zgd d1 true (
  bnd (zbin .i .leq d2 d3) fun d4 =>
  k3 [] [] d4 T2 n2 l2
 ) (k3 [] [] (.v undef) T2 n2 l2)) fun _ _ d5 T3 n3 l3 =>
 bnd (zpick d1 d5 (.v (.bool false))) fun d6 =>
 finK T nx d6 T3 n3 l3
theorem e171 (a0 a1 a2 : D) (T : ST) (nx : Nat) : fnK Tryz.prog [] dr0 FU Tryz.f171 (.s .o (.s .o .o)) [a0, a1, a2] T nx = s171 a0 a1 a2 T nx := by kernel_rfl
noncomputable def F171 : Sem := ar3 s171
theorem k171 : FnOk Tryz.prog 171 F171 := ar3_ok (fnK_ok (by kernel_rfl) CallsOk.nil dr0_ok) e171
/- reeve/thing.Good -/
theorem h113 : HasFn Tryz.prog 113 := ⟨by kernel_rfl⟩
noncomputable def s113 (a0 : D) : ST → Nat → Option Rt := fun T nx =>
 bB (solidB a0) <| fN (Nat.succ nx) fun n1 => fN (dcells a0).length fun e1 =>
 bnd (zload (some 13) (Tr.set (some (xRow 51 (dcells a0))) T nx) (.ptr nx e1 0 0)) fun d1 =>
 bndR (F170 [d1] (Tr.set (some (xRow 51 (dcells a0))) T nx) n1) fun d2 T1 n2 l1 => fN (lowN n1 l1) fun l2 => bB (Nat.beq l2 n1) <|
 bnd (zload (some 13) T1 (.ptr nx e1 0 0)) fun d3 =>
 bnd (zbin (.ag [.int .i64, .int .i64, .int .i64, .int .i64, .int .i64, .int .i64, .int .i64, .bool, .int .u64, .int .u64, .int .u64, .int .u64, .int .u64]) .neq d2 d3) fun d4 =>
 bB (apt (.call n1 n2) (.op (ptr? (.ptr nx e1 0 0)) [])) <|
 cnd d4 (
 finK T nx (.v (.bool false)) T1 n2 nx
 ) (
 bnd (zfieldAddr 0 (.ptr nx e1 0 0)) fun d5 =>
 bnd (zload none T1 d5) fun d6 =>
 bnd (zbin .i .eql d6 (.v (.int .i64 (.ofNat 1)))) fun d7 =>
 cnd d7 (
  bnd (zfieldAddr 3 (.ptr nx e1 0 0)) fun d8 =>
  bnd (zload none T1 d8) fun d9 =>
  bndR (F171 [d9, (.v (.int .i64 (.ofNat 1))), (.v (.int .i64 (.ofNat 4096)))] T1 n2) fun d10 T2 n3 l3 => fN (lowN nx l3) fun l4 =>
  opG.gjn (fun k1 => zgd d10 true (
   bnd (zfieldAddr 4 (.ptr nx e1 0 0)) fun d11 =>
   k1 [] [] d11 T2 n3 l4
  ) (k1 [] [] (.v undef) T2 n3 l4)) fun _ _ d12 T3 n4 l5 =>
  opG.gjn (fun k2 => zgd d10 true (
   bnd (zload none T3 d12) fun d13 =>
   k2 (ptr? d12) [] d13 T3 n4 l5
  ) (k2 [] [] (.v undef) T3 n4 l5)) fun _ _ d14 T4 n5 l6 =>
  opG.gjn (fun k3 => zgd d10 true (
   bnd (zfieldAddr 3 (.ptr nx e1 0 0)) fun d15 =>
   k3 [] [] d15 T4 n5 l6
  ) (k3 [] [] (.v undef) T4 n5 l6)) fun _ _ d16 T5 n6 l7 =>
  opG.gjn (fun k4 => zgd d10 true (
   bnd (zload none T5 d16) fun d17 =>
   k4 (ptr? d16) [] d17 T5 n6 l7
  ) (k4 [] [] (.v undef) T5 n6 l7)) fun _ _ d18 T6 n7 l8 =>
  opG.gjn (fun k5 => zgd d10 true (
   bndR (F171 [d14, (.v (.int .i64 (.ofNat 0))), d18] T6 n7) fun d19 T7 n8 l9 => fN (lowN l8 l9) fun l10 =>
   k5 [] [] d19 T7 n8 l10
  ) (k5 [] [] (.v undef) T6 n7 l8)) fun _ _ d20 T8 n9 l11 =>
  bnd (zpick d10 d20 (.v (.bool false))) fun d21 =>
 finK T nx d21 T8 n9 l11
 ) (
  bnd (zbin .i .eql d6 (.v (.int .i64 (.ofNat 2)))) fun d22 =>
  cnd d22 (
   bnd (zfieldAddr 1 (.ptr nx e1 0 0)) fun d23 =>
   bnd (zload none T1 d23) fun d24 =>
   bndR (F171 [d24, (.v (.int .i64 (.ofNat 1))), (.v (.int .i64 (.ofNat 4)))] T1 n2) fun d25 T9 n10 l12 => fN (lowN n2 l12) fun l13 => bB (Nat.beq l13 n2) <|
   opD.gjd (fun k6 => zgd d25 true (
    bnd (zfieldAddr 2 (.ptr nx e1 0 0)) fun d26 =>
    k6 (.op [] []) d26 T9 n10 nx
   ) (k6 (.op [] []) (.v undef) T9 n10 nx)) fun f1 d27 T10 n11 l14 =>
   opD.gjd (fun k7 => zgd d25 true (
    bnd (zload none T10 d27) fun d28 =>
    k7 (.op (ptr? d27) []) d28 T10 n11 l14
   ) (k7 (.op [] []) (.v undef) T10 n11 l14)) fun f2 d29 T11 n12 l15 =>
   opD.gjd (fun k8 => zgd d25 true (
    bnd (zfieldAddr 1 (.ptr nx e1 0 0)) fun d30 =>
    k8 (.op [] []) d30 T11 n12 l15
   ) (k8 (.op [] []) (.v undef) T11 n12 l15)) fun f3 d31 T12 n13 l16 =>
   opD.gjd (fun k9 => zgd d25 true (
    bnd (zload none T12 d31) fun d32 =>
    k9 (.op (ptr? d31) []) d32 T12 n13 l16
   ) (k9 (.op [] []) (.v undef) T12 n13 l16)) fun f4 d33 T13 n14 l17 =>
   opD.gjd (fun k10 => zgd d25 true (
    bnd (zbin .sh .shl (.v (.int .i64 (.ofNat 1))) d33) fun d34 =>
    k10 (.op [] []) d34 T13 n14 l17
   ) (k10 (.op [] []) (.v undef) T13 n14 l17)) fun f5 d35 T14 n15 l18 =>
   opD.gjd (fun k11 => zgd d25 true (
    bnd (zbin .i .sub (.v (.int .i64 (.ofNat 96))) d35) fun d36 =>
    k11 (.op [] []) d36 T14 n15 l18
   ) (k11 (.op [] []) (.v undef) T14 n15 l18)) fun f6 d37 T15 n16 l19 =>
   opD.gjd (fun k12 => zgd d25 true (
    bndR (F171 [d29, (.v (.int .i64 (.ofNat 0))), d37] T15 n16) fun d38 T16 n17 l20 => fN (lowN n16 l20) fun l21 => bB (Nat.beq l21 n16) <|
    k12 (.call n16 n17) d38 T16 n17 l19
   ) (k12 (.op [] []) (.v undef) T15 n16 l19)) fun f7 d39 T17 n18 l22 =>
   bnd (zpick d25 d39 (.v (.bool false))) fun d40 =>
 finK T nx d40 T17 n18 l22
  ) (
   bnd (zbin .i .eql d6 (.v (.int .i64 (.ofNat 3)))) fun d41 =>
   cnd d41 (
    bnd (zfieldAddr 6 (.ptr nx e1 0 0)) fun d42 =>
    bnd (zload none T1 d42) fun d43 =>
    bndR (F171 [d43, (.v (.int .i64 (.ofNat 0))), (.v (.int .i64 (.ofNat 65535)))] T1 n2) fun d44 T18 n19 l23 => fN (lowN nx l23) fun l24 =>
    opG.gjn (fun k13 => zgd d44 true (
     bnd (zfieldAddr 5 (.ptr nx e1 0 0)) fun d45 =>
     k13 [] [] d45 T18 n19 l24
    ) (k13 [] [] (.v undef) T18 n19 l24)) fun _ _ d46 T19 n20 l25 =>
    opG.gjn (fun k14 => zgd d44 true (
     bnd (zload none T19 d46) fun d47 =>
     k14 (ptr? d46) [] d47 T19 n20 l25
    ) (k14 [] [] (.v undef) T19 n20 l25)) fun _ _ d48 T20 n21 l26 =>
    opG.gjn (fun k15 => zgd d44 true (
     bndR (F171 [d48, (.v (.int .i64 (.ofNat 0))), (.v (.int .i64 (.ofNat 96)))] T20 n21) fun d49 T21 n22 l27 => fN (lowN l26 l27) fun l28 =>
     k15 [] [] d49 T21 n22 l28
    ) (k15 [] [] (.v undef) T20 n21 l26)) fun _ _ d50 T22 n23 l29 =>
    bnd (zpick d44 d50 (.v (.bool false))) fun d51 =>
 finK T nx d51 T22 n23 l29
   ) (
 finK T nx (.v (.bool true)) T1 n2 nx
   )
  )
 )
 )
theorem e113 (a0 : D) (T : ST) (nx : Nat) : fnK Tryz.prog [(170, F170), (171, F171)] (drD Tryz.prog [(170, F170), (171, F171)]) FU Tryz.f113 (.s .o (.s (.s .o (.c (.s .o .o) .o)) (.s (.s .o (.b (.s .o (.c (.s .o .o) (.s .o (.c (.s .o .o) (.s .o (.c (.s .o .o) .o)))))))) (.s .o .o)))) [a0] T nx = s113 a0 T nx := by kernel_rfl
noncomputable def F113 : Sem := ar1 s113
theorem k113 : FnOk Tryz.prog 113 F113 := ar1_ok (fnK_ok (by kernel_rfl) (CallsOk.cons h170 k170 (CallsOk.cons h171 k171 CallsOk.nil)) (drD_ok hmix (CallsOk.cons h170 k170 (CallsOk.cons h171 k171 CallsOk.nil)))) e113
/- (reeve/state.State).holders -/
theorem h192 : HasFn Tryz.prog 192 := ⟨by kernel_rfl⟩
noncomputable def s192 (fu : Nat) (a0 a1 : D) : ST → Nat → Option Rt := fun T nx =>
 bB (solidB a0) <| fN (Nat.succ nx) fun n1 => fN (dcells a0).length fun e1 =>
 jn (fun v1 T1 n2 l1 => unc v1 fun d1 w1 =>
 finK T nx d1 T1 n2 l1) fun K1 =>
 bnd (zfieldAddr 3 (.ptr nx e1 0 0)) fun d2 =>
 bnd (zload none (Tr.set (some (xRow 32 (dcells a0))) T nx) d2) fun d3 =>
 bnd (zlen true d3) fun d4 =>
 lpc fu (fun go1 v2 T2 n3 l2 => unc v2 fun d5 w2 => unc w2 fun d6 w3 => unc w3 fun d7 w4 => unc w4 fun d8 w5 => unc w5 fun d9 w6 =>
  bnd (zbin .i .lss d9 d8) fun d10 =>
  cnd d10 (
  jn (fun v3 T3 n4 l3 => unc v3 fun d11 w7 => unc w7 fun d12 w8 => unc w8 fun d13 w9 => unc w9 fun d14 w10 => unc w10 fun d15 w11 =>
   bnd (zbin .i .add d15 (.v (.int .i64 (.ofNat 1)))) fun d16 =>
 go1 [d11, d12, d13, d14, d16] T3 n4 l3) fun K2 =>
  bnd (zindexAddr (.sl 5) d7 d9) fun d17 =>
  bnd (zload (some 5) T2 d17) fun d18 =>
  fN (Nat.succ n3) fun n5 =>
  zstore 5 (Tr.set (some (XO.mk 113 5 1 (.n [(.v (.int .i64 (.ofNat 0))), (.v (.int .i64 (.ofNat 0))), (.v (.int .i64 (.ofNat 0))), (.v (.int .i64 (.ofNat 0))), (.v (.int .i64 (.ofNat 0)))] .e .e))) T2 n3) (.ptr n3 5 0 0) d18 fun r1 T4 => fN (lowN l2 r1) fun l4 =>
  bnd (zfieldAddr 0 (.ptr n3 5 0 0)) fun d19 =>
  bnd (zload (some 4) T4 d19) fun d20 =>
  bndR (F190 [d20] T4 n5) fun d21 T5 n6 l5 => fN (lowN l4 l5) fun l6 =>
  bnd (zun .not d21) fun d22 =>
  opG.gjn (fun k1 => zgd d22 true (
   bnd (zfieldAddr 0 (.ptr n3 5 0 0)) fun d23 =>
   k1 [] [] d23 T5 n6 l6
  ) (k1 [] [] (.v undef) T5 n6 l6)) fun _ _ d24 T6 n7 l7 =>
  opG.gjn (fun k2 => zgd d22 true (
   bnd (zfieldAddr 1 d24) fun d25 =>
   k2 [] [] d25 T6 n7 l7
  ) (k2 [] [] (.v undef) T6 n7 l7)) fun _ _ d26 T7 n8 l8 =>
  opG.gjn (fun k3 => zgd d22 true (
   bnd (zload none T7 d26) fun d27 =>
   k3 (ptr? d26) [] d27 T7 n8 l8
  ) (k3 [] [] (.v undef) T7 n8 l8)) fun _ _ d28 T8 n9 l9 =>
  opG.gjn (fun k4 => zgd d22 true (
   k4 [] [] d5 T8 n9 l9
  ) (k4 [] [] (.v undef) T8 n9 l9)) fun _ _ d29 T9 n10 l10 =>
  opG.gjn (fun k5 => zgd d22 true (
   bnd (zbin .i .eql d28 d29) fun d30 =>
   k5 [] [] d30 T9 n10 l10
  ) (k5 [] [] (.v undef) T9 n10 l10)) fun _ _ d31 T10 n11 l11 =>
  bnd (zpick d22 d31 (.v (.bool false))) fun d32 =>
  cnd d32 (
   bB (solidL 1 [d9]) <| fN (Nat.succ n11) fun n12 =>
   zappend 3 1 8 (Tr.set (some (xRows 3 1 [dcells d9])) T10 n11) n12 l11 d6 (.vw n11 1 0 1) fun f1 s1 d33 T11 l12 => fN (Nat.succ n12) fun n13 => fN l12 fun l13 =>
  K2 [d5, d33, d7, d8, d9] T11 n13 l13
  ) (
  K2 [d5, d6, d7, d8, d9] T10 n11 l11
  )
  ) (
 K1 [d6] T2 n3 l2
  )) [a1, .e0, d3, d4, (.v (.int .i64 (.ofNat 0)))] (Tr.set (some (xRow 32 (dcells a0))) T nx) n1 nx
theorem e192 (fu : Nat) (a0 a1 : D) (T : ST) (nx : Nat) : fnK Tryz.prog [(190, F190)] dr0 fu Tryz.f192 (.s .o (.s .o (.j [5] (.s .o (.b (.l [1, 5, 9, 10, 11] (.s .o (.s (.c .o .o) (.j [1, 5, 9, 10, 11] (.b (.s .o (.s .o (.c .o .o)))) .o)))))) (.s .o .o)))) [a0, a1] T nx = s192 fu a0 a1 T nx := by kernel_rfl
noncomputable def F192 : Sem := ar2 (s192 FU)
theorem k192 : FnOk Tryz.prog 192 F192 := ar2_ok (fnK_ok (by kernel_rfl) (CallsOk.cons h190 k190 CallsOk.nil) dr0_ok) (e192 FU)
/- (reeve/state.State).things -/
theorem h143 : HasFn Tryz.prog 143 := ⟨by kernel_rfl⟩
noncomputable def s143 (fu : Nat) (a0 : D) : ST → Nat → Option Rt := fun T nx =>
 bB (solidB a0) <| fN (Nat.succ nx) fun n1 => fN (dcells a0).length fun e1 =>
 jn (fun v1 T1 n2 l1 =>
 finK T nx (.v (.bool true)) T1 n2 l1) fun K1 =>
 bnd (zfieldAddr 4 (.ptr nx e1 0 0)) fun d1 =>
 bnd (zload none (Tr.set (some (xRow 32 (dcells a0))) T nx) d1) fun d2 =>
 bnd (zlen true d2) fun d3 =>
 lpc fu (fun go1 v2 T2 n3 l2 => unc v2 fun d4 w1 => unc w1 fun d5 w2 => unc w2 fun d6 w3 => unc w3 fun d7 w4 =>
  bnd (zbin .i .lss d7 d6) fun d8 =>
  cnd d8 (
  bnd (zindexAddr (.sl 13) d5 d7) fun d9 =>
  bnd (zload (some 13) T2 d9) fun d10 =>
  fN (Nat.succ n3) fun n4 =>
  zstore 13 (Tr.set (some (XO.mk 51 13 1 (.n [(.v (.int .i64 (.ofNat 0))), (.v (.int .i64 (.ofNat 0))), (.v (.int .i64 (.ofNat 0))), (.v (.int .i64 (.ofNat 0))), (.v (.int .i64 (.ofNat 0))), (.v (.int .i64 (.ofNat 0))), (.v (.int .i64 (.ofNat 0))), (.v (.bool false)), (.v (.int .u64 (.ofNat 0))), (.v (.int .u64 (.ofNat 0))), (.v (.int .u64 (.ofNat 0))), (.v (.int .u64 (.ofNat 0))), (.v (.int .u64 (.ofNat 0)))] .e .e))) T2 n3) (.ptr n3 13 0 0) d10 fun r1 T3 => fN (lowN l2 r1) fun l3 =>
  bnd (zload (some 13) T3 (.ptr n3 13 0 0)) fun d11 =>
  bndR (F113 [d11] T3 n4) fun d12 T4 n5 l4 => fN (lowN l3 l4) fun l5 =>
  bnd (zun .not d12) fun d13 =>
  cnd d13 (
 finK T nx (.v (.bool false)) T4 n5 l5
  ) (
  bnd (zfieldAddr 5 (.ptr n3 13 0 0)) fun d14 =>
  bnd (zload none T4 d14) fun d15 =>
  bnd (zbin .i .gtr d15 (.v (.int .i64 (.ofNat 0)))) fun d16 =>
  opG.gjn (fun k1 => zgd d16 true (
   bnd (zfieldAddr 5 (.ptr n3 13 0 0)) fun d17 =>
   k1 [] [] d17 T4 n5 l5
  ) (k1 [] [] (.v undef) T4 n5 l5)) fun _ _ d18 T5 n6 l6 =>
  opG.gjn (fun k2 => zgd d16 true (
   bnd (zload none T5 d18) fun d19 =>
   k2 (ptr? d18) [] d19 T5 n6 l6
  ) (k2 [] [] (.v undef) T5 n6 l6)) fun _ _ d20 T6 n7 l7 =>
  opG.gjn (fun k3 => zgd d16 true (
   bnd (zfieldAddr 3 d4) fun d21 =>
   k3 [] [] d21 T6 n7 l7
  ) (k3 [] [] (.v undef) T6 n7 l7)) fun _ _ d22 T7 n8 l8 =>
  opG.gjn (fun k4 => zgd d16 true (
   bnd (zload none T7 d22) fun d23 =>
   k4 (ptr? d22) [] d23 T7 n8 l8
  ) (k4 [] [] (.v undef) T7 n8 l8)) fun _ _ d24 T8 n9 l9 =>
  opG.gjn (fun k5 => zgd d16 true (
   bnd (zlen true d24) fun d25 =>
   k5 [] [] d25 T8 n9 l9
  ) (k5 [] [] (.v undef) T8 n9 l9)) fun _ _ d26 T9 n10 l10 =>
  opG.gjn (fun k6 => zgd d16 true (
   bnd (zbin .i .gtr d20 d26) fun d27 =>
   k6 [] [] d27 T9 n10 l10
  ) (k6 [] [] (.v undef) T9 n10 l10)) fun _ _ d28 T10 n11 l11 =>
  opG.gjn (fun k7 => zgd d16 true (
   k7 [] [] d28 T10 n11 l11
  ) (k7 [] [] (.v undef) T10 n11 l11)) fun _ _ d29 T11 n12 l12 =>
  opG.gjn (fun k8 => zgd d29 false (
   bnd (zfieldAddr 3 d4) fun d30 =>
   k8 [] [] d30 T11 n12 l12
  ) (k8 [] [] (.v undef) T11 n12 l12)) fun _ _ d31 T12 n13 l13 =>
  opG.gjn (fun k9 => zgd d29 false (
   bnd (zload none T12 d31) fun d32 =>
   k9 (ptr? d31) [] d32 T12 n13 l13
  ) (k9 [] [] (.v undef) T12 n13 l13)) fun _ _ d33 T13 n14 l14 =>
  opG.gjn (fun k10 => zgd d29 false (
   bnd (zfieldAddr 5 (.ptr n3 13 0 0)) fun d34 =>
   k10 [] [] d34 T13 n14 l14
  ) (k10 [] [] (.v undef) T13 n14 l14)) fun _ _ d35 T14 n15 l15 =>
  opG.gjn (fun k11 => zgd d29 false (
   bnd (zload none T14 d35) fun d36 =>
   k11 (ptr? d35) [] d36 T14 n15 l15
  ) (k11 [] [] (.v undef) T14 n15 l15)) fun _ _ d37 T15 n16 l16 =>
  opG.gjn (fun k12 => zgd d29 false (
   bnd (zbin .i .sub d37 (.v (.int .i64 (.ofNat 1)))) fun d38 =>
   k12 [] [] d38 T15 n16 l16
  ) (k12 [] [] (.v undef) T15 n16 l16)) fun _ _ d39 T16 n17 l17 =>
  opG.gjn (fun k13 => zgd d29 false (
   bnd (zindexAddr (.sl 5) d33 d39) fun d40 =>
   k13 [] [] d40 T16 n17 l17
  ) (k13 [] [] (.v undef) T16 n17 l17)) fun _ _ d41 T17 n18 l18 =>
  opG.gjn (fun k14 => zgd d29 false (
   bnd (zfieldAddr 0 d41) fun d42 =>
   k14 [] [] d42 T17 n18 l18
  ) (k14 [] [] (.v undef) T17 n18 l18)) fun _ _ d43 T18 n19 l19 =>
  opG.gjn (fun k15 => zgd d29 false (
   bnd (zload (some 4) T18 d43) fun d44 =>
   k15 (ptr? d43) [] d44 T18 n19 l19
  ) (k15 [] [] (.v undef) T18 n19 l19)) fun _ _ d45 T19 n20 l20 =>
  opG.gjn (fun k16 => zgd d29 false (
   bndR (F190 [d45] T19 n20) fun d46 T20 n21 l21 => fN (lowN l20 l21) fun l22 =>
   k16 [] [] d46 T20 n21 l22
  ) (k16 [] [] (.v undef) T19 n20 l20)) fun _ _ d47 T21 n22 l23 =>
  opG.gjn (fun k17 => zgd d16 true (
   bnd (zpick d29 (.v (.bool true)) d47) fun d48 =>
   k17 [] [] d48 T21 n22 l23
  ) (k17 [] [] (.v undef) T21 n22 l23)) fun _ _ d49 T22 n23 l24 =>
  bnd (zpick d16 d49 (.v (.bool false))) fun d50 =>
  cnd d50 (
 finK T nx (.v (.bool false)) T22 n23 l24
  ) (
  bnd (zbin .i .geq d7 (.v (.int .i64 (.ofNat 2)))) fun d51 =>
  opG.gjn (fun k18 => zgd d51 true (
   k18 [] [] d7 T22 n23 l24
  ) (k18 [] [] (.v undef) T22 n23 l24)) fun _ _ d52 T23 n24 l25 =>
  opG.gjn (fun k19 => zgd d51 true (
   bnd (zfieldAddr 0 d4) fun d53 =>
   k19 [] [] d53 T23 n24 l25
  ) (k19 [] [] (.v undef) T23 n24 l25)) fun _ _ d54 T24 n25 l26 =>
  opG.gjn (fun k20 => zgd d51 true (
   bnd (zfieldAddr 0 d54) fun d55 =>
   k20 [] [] d55 T24 n25 l26
  ) (k20 [] [] (.v undef) T24 n25 l26)) fun _ _ d56 T25 n26 l27 =>
  opG.gjn (fun k21 => zgd d51 true (
   bnd (zload none T25 d56) fun d57 =>
   k21 (ptr? d56) [] d57 T25 n26 l27
  ) (k21 [] [] (.v undef) T25 n26 l27)) fun _ _ d58 T26 n27 l28 =>
  opG.gjn (fun k22 => zgd d51 true (
   bnd (zbin .i .add (.v (.int .i64 (.ofNat 2))) d58) fun d59 =>
   k22 [] [] d59 T26 n27 l28
  ) (k22 [] [] (.v undef) T26 n27 l28)) fun _ _ d60 T27 n28 l29 =>
  opG.gjn (fun k23 => zgd d51 true (
   bnd (zbin .i .lss d52 d60) fun d61 =>
   k23 [] [] d61 T27 n28 l29
  ) (k23 [] [] (.v undef) T27 n28 l29)) fun _ _ d62 T28 n29 l30 =>
  bnd (zpick d51 d62 (.v (.bool false))) fun d63 =>
  opD.gjd (fun k24 => zgd d63 true (
   bnd (zload (some 13) T28 (.ptr n3 13 0 0)) fun d64 =>
   k24 (.op (ptr? (.ptr n3 13 0 0)) []) d64 T28 n29 l30
  ) (k24 (.op [] []) (.v undef) T28 n29 l30)) fun f1 d65 T29 n30 l31 =>
  opD.gjd (fun k25 => zgd d63 true (
   bnd (zfieldAddr 0 d4) fun d66 =>
   k25 (.op [] []) d66 T29 n30 l31
  ) (k25 (.op [] []) (.v undef) T29 n30 l31)) fun f2 d67 T30 n31 l32 =>
  opD.gjd (fun k26 => zgd d63 true (
   bnd (zload (some 3) T30 d67) fun d68 =>
   k26 (.op (ptr? d67) []) d68 T30 n31 l32
  ) (k26 (.op [] []) (.v undef) T30 n31 l32)) fun f3 d69 T31 n32 l33 =>
  opD.gjd (fun k27 => zgd d63 true (
   k27 (.op [] []) d7 T31 n32 l33
  ) (k27 (.op [] []) (.v undef) T31 n32 l33)) fun f4 d70 T32 n33 l34 =>
  opD.gjd (fun k28 => zgd d63 true (
   bnd (zbin .i .sub d70 (.v (.int .i64 (.ofNat 2)))) fun d71 =>
   k28 (.op [] []) d71 T32 n33 l34
  ) (k28 (.op [] []) (.v undef) T32 n33 l34)) fun f5 d72 T33 n34 l35 =>
  opD.gjd (fun k29 => zgd d63 true (
   bndR (F59 [d69, d72] T33 n34) fun d73 T34 n35 l36 => fN (lowN n34 l36) fun l37 => bB (Nat.beq l37 n34) <|
   k29 (.call n34 n35) d73 T34 n35 l35
  ) (k29 (.op [] []) (.v undef) T33 n34 l35)) fun f6 d74 T35 n36 l38 =>
  opD.gjd (fun k30 => zgd d63 true (
   bnd (zbuild [(.int .i64 (.ofNat 0)), (.int .i64 (.ofNat 0)), (.int .i64 (.ofNat 0)), (.int .i64 (.ofNat 0)), (.int .i64 (.ofNat 0)), (.int .i64 (.ofNat 0)), (.int .i64 (.ofNat 0)), (.bool false), (.int .u64 (.ofNat 0)), (.int .u64 (.ofNat 0)), (.int .u64 (.ofNat 0)), (.int .u64 (.ofNat 0)), (.int .u64 (.ofNat 0))] [(0, 1), (1, 1), (2, 1), (3, 1), (4, 1), (5, 1), (6, 1), (7, 1), (8, 1), (9, 4)] [0, 1, 2] [(.v (.int .i64 (.ofNat 2))), (.v (.int .i64 (.ofNat 3))), d74]) fun d75 =>
   k30 (.op [] []) d75 T35 n36 l38
  ) (k30 (.op [] []) (.v undef) T35 n36 l38)) fun f7 d76 T36 n37 l39 =>
  opD.gjd (fun k31 => zgd d63 true (
   bnd (zbin (.ag [.int .i64, .int .i64, .int .i64, .int .i64, .int .i64, .int .i64, .int .i64, .bool, .int .u64, .int .u64, .int .u64, .int .u64, .int .u64]) .neq d65 d76) fun d77 =>
   k31 (.op [] []) d77 T36 n37 l39
  ) (k31 (.op [] []) (.v undef) T36 n37 l39)) fun f8 d78 T37 n38 l40 =>
  bnd (zpick d63 d78 (.v (.bool false))) fun d79 =>
  bB (apt f1 f6) <|
  cnd d79 (
 finK T nx (.v (.bool false)) T37 n38 l40
  ) (
  bnd (zun .not d63) fun d80 =>
  opG.gjn (fun k32 => zgd d80 true (
   bnd (zfieldAddr 0 (.ptr n3 13 0 0)) fun d81 =>
   k32 [] [] d81 T37 n38 l40
  ) (k32 [] [] (.v undef) T37 n38 l40)) fun _ _ d82 T38 n39 l41 =>
  opG.gjn (fun k33 => zgd d80 true (
   bnd (zload none T38 d82) fun d83 =>
   k33 (ptr? d82) [] d83 T38 n39 l41
  ) (k33 [] [] (.v undef) T38 n39 l41)) fun _ _ d84 T39 n40 l42 =>
  opG.gjn (fun k34 => zgd d80 true (
   bnd (zbin .i .neq d84 (.v (.int .i64 (.ofNat 0)))) fun d85 =>
   k34 [] [] d85 T39 n40 l42
  ) (k34 [] [] (.v undef) T39 n40 l42)) fun _ _ d86 T40 n41 l43 =>
  bnd (zpick d80 d86 (.v (.bool false))) fun d87 =>
  opG.gjn (fun k35 => zgd d87 true (
   bnd (zload (some 5) T40 d4) fun d88 =>
   k35 (ptr? d4) [] d88 T40 n41 l43
  ) (k35 [] [] (.v undef) T40 n41 l43)) fun _ _ d89 T41 n42 l44 =>
  opG.gjn (fun k36 => zgd d87 true (
   k36 [] [] d7 T41 n42 l44
  ) (k36 [] [] (.v undef) T41 n42 l44)) fun _ _ d90 T42 n43 l45 =>
  opG.gjn (fun k37 => zgd d87 true (
   bndR (F192 [d89, d90] T42 n43) fun d91 T43 n44 l46 => fN (lowN l45 l46) fun l47 =>
   k37 [] [] d91 T43 n44 l47
  ) (k37 [] [] (.v undef) T42 n43 l45)) fun _ _ d92 T44 n45 l48 =>
  opG.gjn (fun k38 => zgd d87 true (
   bnd (zlen true d92) fun d93 =>
   k38 [] [] d93 T44 n45 l48
  ) (k38 [] [] (.v undef) T44 n45 l48)) fun _ _ d94 T45 n46 l49 =>
  opG.gjn (fun k39 => zgd d87 true (
   bnd (zbin .i .eql d94 (.v (.int .i64 (.ofNat 0)))) fun d95 =>
   k39 [] [] d95 T45 n46 l49
  ) (k39 [] [] (.v undef) T45 n46 l49)) fun _ _ d96 T46 n47 l50 =>
  bnd (zpick d87 d96 (.v (.bool false))) fun d97 =>
  cnd d97 (
 finK T nx (.v (.bool false)) T46 n47 l50
  ) (
  bnd (zbin .i .add d7 (.v (.int .i64 (.ofNat 1)))) fun d98 =>
 go1 [d4, d5, d6, d98] T46 n47 l50
  )
  )
  )
  )
  ) (
 K1 [] T2 n3 l2
  )) [(.ptr nx e1 0 0), d2, d3, (.v (.int .i64 (.ofNat 0)))] (Tr.set (some (xRow 32 (dcells a0))) T nx) n1 nx
theorem e143 (fu : Nat) (a0 : D) (T : ST) (nx : Nat) : fnK Tryz.prog [(113, F113), (190, F190), (59, F59), (192, F192)] (drD Tryz.prog [(113, F113), (190, F190), (59, F59), (192, F192)]) fu Tryz.f143 (.s .o (.j [] (.s .o (.b (.l [1, 7, 8, 9] (.s .o (.s (.c .o .o) (.s (.b (.s .o (.s (.s .o (.c (.s .o .o) .o)) (.s (.s .o (.c (.s .o .o) .o)) (.s .o (.s (.s .o (.c (.s .o .o) .o)) (.s .o (.c (.s .o .o) .o)))))))) .o)))))) (.s .o .o))) [a0] T nx = s143 fu a0 T nx := by kernel_rfl
noncomputable def F143 : Sem := ar1 (s143 FU)
theorem k143 : FnOk Tryz.prog 143 F143 := ar1_ok (fnK_ok (by kernel_rfl) (CallsOk.cons h113 k113 (CallsOk.cons h190 k190 (CallsOk.cons h59 k59 (CallsOk.cons h192 k192 CallsOk.nil)))) (drD_ok hmix (CallsOk.cons h113 k113 (CallsOk.cons h190 k190 (CallsOk.cons h59 k59 (CallsOk.cons h192 k192 CallsOk.nil)))))) (e143 FU)
/- (reeve/state.State).nodes -/
theorem h144 : HasFn Tryz.prog 144 := ⟨by kernel_rfl⟩
noncomputable def s144 (fu : Nat) (a0 : D) : ST → Nat → Option Rt := fun T nx =>
 bB (solidB a0) <| fN (Nat.succ nx) fun n1 => fN (dcells a0).length fun e1 =>
 bnd (zfieldAddr 3 (.ptr nx e1 0 0)) fun d1 =>
 bnd (zload none (Tr.set (some (xRow 32 (dcells a0))) T nx) d1) fun d2 =>
 bnd (zlen true d2) fun d3 =>
 zmakeSlice 4 1 1 [(.bool false)] (Tr.set (some (xRow 32 (dcells a0))) T nx) n1 d3 d3 fun d4 T1 => fN (Nat.succ n1) fun n2 =>
 jn (fun v1 T2 n3 l1 => unc v1 fun d5 w1 => unc w1 fun d6 w2 =>
  jn (fun v2 T3 n4 l2 =>
 finK T nx (.v (.bool true)) T3 n4 l2) fun K1 =>
  bnd (zfieldAddr 3 d5) fun d7 =>
  bnd (zload none T2 d7) fun d8 =>
  bnd (zlen true d8) fun d9 =>
  lpc fu (fun go1 v3 T4 n5 l3 => unc v3 fun d10 w3 => unc w3 fun d11 w4 => unc w4 fun d12 w5 => unc w5 fun d13 w6 =>
   bnd (zbin .i .lss d13 d12) fun d14 =>
   cnd d14 (
   bnd (zindexAddr (.sl 5) d11 d13) fun d15 =>
   bnd (zload (some 5) T4 d15) fun d16 =>
   fN (Nat.succ n5) fun n6 =>
   zstore 5 (Tr.set (some (XO.mk 113 5 1 (.n [(.v (.int .i64 (.ofNat 0))), (.v (.int .i64 (.ofNat 0))), (.v (.int .i64 (.ofNat 0))), (.v (.int .i64 (.ofNat 0))), (.v (.int .i64 (.ofNat 0)))] .e .e))) T4 n5) (.ptr n5 5 0 0) d16 fun r1 T5 => fN (lowN l3 r1) fun l4 =>
   bnd (zindexAddr (.sl 1) d10 d13) fun d17 =>
   bnd (zload none T5 d17) fun d18 =>
   bnd (zun .not d18) fun d19 =>
   opG.gjn (fun k1 => zgd d19 true (
    bnd (zfieldAddr 0 (.ptr n5 5 0 0)) fun d20 =>
    k1 [] [] d20 T5 n6 l4
   ) (k1 [] [] (.v undef) T5 n6 l4)) fun _ _ d21 T6 n7 l5 =>
   opG.gjn (fun k2 => zgd d19 true (
    bnd (zload (some 4) T6 d21) fun d22 =>
    k2 (ptr? d21) [] d22 T6 n7 l5
   ) (k2 [] [] (.v undef) T6 n7 l5)) fun _ _ d23 T7 n8 l6 =>
   opG.gjn (fun k3 => zgd d19 true (
    bndR (F190 [d23] T7 n8) fun d24 T8 n9 l7 => fN (lowN l6 l7) fun l8 =>
    k3 [] [] d24 T8 n9 l8
   ) (k3 [] [] (.v undef) T7 n8 l6)) fun _ _ d25 T9 n10 l9 =>
   opG.gjn (fun k4 => zgd d19 true (
    bnd (zun .not d25) fun d26 =>
    k4 [] [] d26 T9 n10 l9
   ) (k4 [] [] (.v undef) T9 n10 l9)) fun _ _ d27 T10 n11 l10 =>
   bnd (zpick d19 d27 (.v (.bool false))) fun d28 =>
   cnd d28 (
 finK T nx (.v (.bool false)) T10 n11 l10
   ) (
   bnd (zbin .i .add d13 (.v (.int .i64 (.ofNat 1)))) fun d29 =>
  go1 [d10, d11, d12, d29] T10 n11 l10
   )
   ) (
  K1 [] T4 n5 l3
   )) [d6, d8, d9, (.v (.int .i64 (.ofNat 0)))] T2 n3 l1) fun K2 =>
 bnd (zfieldAddr 4 (.ptr nx e1 0 0)) fun d30 =>
 bnd (zload none T1 d30) fun d31 =>
 bnd (zlen true d31) fun d32 =>
 lpc fu (fun go2 v4 T11 n12 l11 => unc v4 fun d33 w7 => unc w7 fun d34 w8 => unc w8 fun d35 w9 => unc w9 fun d36 w10 => unc w10 fun d37 w11 =>
  bnd (zbin .i .lss d37 d36) fun d38 =>
  cnd d38 (
  jn (fun v5 T12 n13 l12 => unc v5 fun d39 w12 => unc w12 fun d40 w13 => unc w13 fun d41 w14 => unc w14 fun d42 w15 => unc w15 fun d43 w16 =>
   bnd (zbin .i .add d43 (.v (.int .i64 (.ofNat 1)))) fun d44 =>
 go2 [d39, d40, d41, d42, d44] T12 n13 l12) fun K3 =>
  bnd (zindexAddr (.sl 13) d35 d37) fun d45 =>
  bnd (zload (some 13) T11 d45) fun d46 =>
  fN (Nat.succ n12) fun n14 =>
  zstore 13 (Tr.set (some (XO.mk 51 13 1 (.n [(.v (.int .i64 (.ofNat 0))), (.v (.int .i64 (.ofNat 0))), (.v (.int .i64 (.ofNat 0))), (.v (.int .i64 (.ofNat 0))), (.v (.int .i64 (.ofNat 0))), (.v (.int .i64 (.ofNat 0))), (.v (.int .i64 (.ofNat 0))), (.v (.bool false)), (.v (.int .u64 (.ofNat 0))), (.v (.int .u64 (.ofNat 0))), (.v (.int .u64 (.ofNat 0))), (.v (.int .u64 (.ofNat 0))), (.v (.int .u64 (.ofNat 0)))] .e .e))) T11 n12) (.ptr n12 13 0 0) d46 fun r2 T13 => fN (lowN l11 r2) fun l13 =>
  bnd (zfieldAddr 0 (.ptr n12 13 0 0)) fun d47 =>
  bnd (zload none T13 d47) fun d48 =>
  bnd (zbin .i .neq d48 (.v (.int .i64 (.ofNat 2)))) fun d49 =>
  cnd d49 (
  K3 [d33, d34, d35, d36, d37] T13 n14 l13
  ) (
  bnd (zfieldAddr 1 (.ptr n12 13 0 0)) fun d50 =>
  bnd (zload none T13 d50) fun d51 =>
  bnd (zbin .sh .shl (.v (.int .i64 (.ofNat 1))) d51) fun d52 =>
  lpc fu (fun go3 v6 T14 n15 l14 => unc v6 fun d53 w17 => unc w17 fun d54 w18 => unc w18 fun d55 w19 => unc w19 fun d56 w20 => unc w20 fun d57 w21 => unc w21 fun d58 w22 => unc w22 fun d59 w23 => unc w23 fun d60 w24 =>
   bnd (zbin .i .lss d60 d59) fun d61 =>
   cnd d61 (
   bnd (zfieldAddr 2 d55) fun d62 =>
   bnd (zload none T14 d62) fun d63 =>
   bnd (zbin .i .add d63 d60) fun d64 =>
   bnd (zlen true d54) fun d65 =>
   bnd (zbin .i .geq d64 d65) fun d66 =>
   opG.gjn (fun k5 => zgd d66 false (
    k5 [] [] d54 T14 n15 l14
   ) (k5 [] [] (.v undef) T14 n15 l14)) fun _ _ d67 T15 n16 l15 =>
   opG.gjn (fun k6 => zgd d66 false (
    k6 [] [] d64 T15 n16 l15
   ) (k6 [] [] (.v undef) T15 n16 l15)) fun _ _ d68 T16 n17 l16 =>
   opG.gjn (fun k7 => zgd d66 false (
    bnd (zindexAddr (.sl 1) d67 d68) fun d69 =>
    k7 [] [] d69 T16 n17 l16
   ) (k7 [] [] (.v undef) T16 n17 l16)) fun _ _ d70 T17 n18 l17 =>
   opG.gjn (fun k8 => zgd d66 false (
    bnd (zload none T17 d70) fun d71 =>
    k8 (ptr? d70) [] d71 T17 n18 l17
   ) (k8 [] [] (.v undef) T17 n18 l17)) fun _ _ d72 T18 n19 l18 =>
   bnd (zpick d66 (.v (.bool true)) d72) fun d73 =>
   cnd d73 (
 finK T nx (.v (.bool false)) T18 n19 l18
   ) (
   bnd (zindexAddr (.sl 1) d54 d64) fun d74 =>
   zstore 1 T18 d74 (.v (.bool true)) fun r3 T19 => fN (lowN l18 r3) fun l19 =>
   bnd (zbin .i .add d60 (.v (.int .i64 (.ofNat 1)))) fun d75 =>
  go3 [d53, d54, d55, d56, d57, d58, d59, d75] T19 n19 l19
   )
   ) (
  K3 [d53, d54, d56, d57, d58] T14 n15 l14
   )) [d33, d34, (.ptr n12 13 0 0), d35, d36, d37, d52, (.v (.int .i64 (.ofNat 0)))] T13 n14 l13
  )
  ) (
 K2 [d33, d34] T11 n12 l11
  )) [(.ptr nx e1 0 0), d4, d31, d32, (.v (.int .i64 (.ofNat 0)))] T1 n2 nx
theorem e144 (fu : Nat) (a0 : D) (T : ST) (nx : Nat) : fnK Tryz.prog [(190, F190)] dr0 fu Tryz.f144 (.s .o (.s .o (.j [1, 3] (.s .o (.b (.l [1, 3, 15, 16, 17] (.s .o (.s (.c .o .o) (.j [1, 3, 15, 16, 17] (.b (.s .o (.s (.s .o (.c .o .o)) (.s .o (.b (.l [1, 3, 5, 15, 16, 17, 26, 27] (.s .o (.s (.c .o .o) (.s (.b (.s .o (.s .o (.s (.s .o (.c (.s .o .o) .o)) .o)))) .o))))))))) .o)))))) (.j [] (.s .o (.b (.l [3, 50, 51, 52] (.s .o (.s (.c .o .o) (.s (.b (.s .o (.s .o (.c (.s .o .o) .o)))) .o)))))) (.s .o .o))))) [a0] T nx = s144 fu a0 T nx := by kernel_rfl
noncomputable def F144 : Sem := ar1 (s144 FU)
theorem k144 : FnOk Tryz.prog 144 F144 := ar1_ok (fnK_ok (by kernel_rfl) (CallsOk.cons h190 k190 CallsOk.nil) dr0_ok) (e144 FU)
/- reeve/state.has -/
theorem h262 : HasFn Tryz.prog 262 := ⟨by kernel_rfl⟩
noncomputable def s262 (a0 a1 : D) : ST → Nat → Option Rt := fun T nx =>
 bB (solidB a0) <| fN (Nat.succ nx) fun n1 => fN (dcells a0).length fun e1 =>
 bnd (zfieldAddr 0 (.ptr nx e1 0 0)) fun d1 =>
 bnd (zload none (Tr.set (some (xRow 51 (dcells a0))) T nx) d1) fun d2 =>
 bnd (zbin .i .eql d2 (.v (.int .i64 (.ofNat 2)))) fun d3 =>
 opD.gjd (fun k1 => zgd d3 true (
  k1 (.op [] []) a1 (Tr.set (some (xRow 51 (dcells a0))) T nx) n1 nx
 ) (k1 (.op [] []) (.v undef) (Tr.set (some (xRow 51 (dcells a0))) T nx) n1 nx)) fun f1 d4 T1 n2 l1 =>
 opD.gjd (fun k2 => zgd d3 true (
  bnd (zfieldAddr 2 (.ptr nx e1 0 0)) fun d5 =>
  k2 (.op [] []) d5 T1 n2 l1
 ) (k2 (.op [] []) (.v undef) T1 n2 l1)) fun f2 d6 T2 n3 l2 =>
 opD.gjd (fun k3 => zgd d3 true (
  bnd (zload none T2 d6) fun d7 =>
  k3 (.op (ptr? d6) []) d7 T2 n3 l2
 ) (k3 (.op [] []) (.v undef) T2 n3 l2)) fun f3 d8 T3 n4 l3 =>
 opD.gjd (fun k4 => zgd d3 true (
  bnd (zbin .i .geq d4 d8) fun d9 =>
  k4 (.op [] []) d9 T3 n4 l3
 ) (k4 (.op [] []) (.v undef) T3 n4 l3)) fun f4 d10 T4 n5 l4 =>
 bnd (zpick d3 d10 (.v (.bool false))) fun d11 =>
 opD.gjd (fun k5 => zgd d11 true (
  k5 (.op [] []) a1 T4 n5 l4
 ) (k5 (.op [] []) (.v undef) T4 n5 l4)) fun f5 d12 T5 n6 l5 =>
 opD.gjd (fun k6 => zgd d11 true (
  bnd (zfieldAddr 2 (.ptr nx e1 0 0)) fun d13 =>
  k6 (.op [] []) d13 T5 n6 l5
 ) (k6 (.op [] []) (.v undef) T5 n6 l5)) fun f6 d14 T6 n7 l6 =>
 opD.gjd (fun k7 => zgd d11 true (
  bnd (zload none T6 d14) fun d15 =>
  k7 (.op (ptr? d14) []) d15 T6 n7 l6
 ) (k7 (.op [] []) (.v undef) T6 n7 l6)) fun f7 d16 T7 n8 l7 =>
 opD.gjd (fun k8 => zgd d11 true (
  bnd (zfieldAddr 1 (.ptr nx e1 0 0)) fun d17 =>
  k8 (.op [] []) d17 T7 n8 l7
 ) (k8 (.op [] []) (.v undef) T7 n8 l7)) fun f8 d18 T8 n9 l8 =>
 opD.gjd (fun k9 => zgd d11 true (
  bnd (zload none T8 d18) fun d19 =>
  k9 (.op (ptr? d18) []) d19 T8 n9 l8
 ) (k9 (.op [] []) (.v undef) T8 n9 l8)) fun f9 d20 T9 n10 l9 =>
 opD.gjd (fun k10 => zgd d11 true (
  bnd (zbin .sh .shl (.v (.int .i64 (.ofNat 1))) d20) fun d21 =>
  k10 (.op [] []) d21 T9 n10 l9
 ) (k10 (.op [] []) (.v undef) T9 n10 l9)) fun f10 d22 T10 n11 l10 =>
 opD.gjd (fun k11 => zgd d11 true (
  bnd (zbin .i .add d16 d22) fun d23 =>
  k11 (.op [] []) d23 T10 n11 l10
 ) (k11 (.op [] []) (.v undef) T10 n11 l10)) fun f11 d24 T11 n12 l11 =>
 opD.gjd (fun k12 => zgd d11 true (
  bnd (zbin .i .lss d12 d24) fun d25 =>
  k12 (.op [] []) d25 T11 n12 l11
 ) (k12 (.op [] []) (.v undef) T11 n12 l11)) fun f12 d26 T12 n13 l12 =>
 bnd (zpick d11 d26 (.v (.bool false))) fun d27 =>
 finK T nx d27 T12 n13 l12
theorem e262 (a0 a1 : D) (T : ST) (nx : Nat) : fnK Tryz.prog [] (drD Tryz.prog []) FU Tryz.f262 (.s .o (.s .o .o)) [a0, a1] T nx = s262 a0 a1 T nx := by kernel_rfl
noncomputable def F262 : Sem := ar2 s262
theorem k262 : FnOk Tryz.prog 262 F262 := ar2_ok (fnK_ok (by kernel_rfl) CallsOk.nil (drD_ok hmix CallsOk.nil)) e262
/- reeve/state.within -/
theorem h237 : HasFn Tryz.prog 237 := ⟨by kernel_rfl⟩
noncomputable def s237 (a0 a1 a2 : D) : ST → Nat → Option Rt := fun T nx =>
 bB (solidB a0) <| fN (Nat.succ nx) fun n1 => fN (dcells a0).length fun e1 =>
 none
theorem e237 (a0 a1 a2 : D) (T : ST) (nx : Nat) : fnK Tryz.prog [] dr0 FU Tryz.f237 (.s .o (.s (.s .o (.c .o .o)) (.s .o (.s .o (.b (.l [] (.s .o (.s (.c .o .o) (.s (.b (.s .o (.s .o (.c .o .o)))) .o))))))))) [a0, a1, a2] T nx = s237 a0 a1 a2 T nx := by kernel_rfl
noncomputable def F237 : Sem := ar3 s237
theorem k237 : FnOk Tryz.prog 237 F237 := ar3_ok (fnK_ok (by kernel_rfl) CallsOk.nil dr0_ok) e237
/- reeve/state.Free$1 -/
theorem h248 : HasFn Tryz.prog 248 := ⟨by kernel_rfl⟩
noncomputable def s248 (a0 : D) : ST → Nat → Option Rt := fun T nx =>
 bB (solidB a0) <| fN (Nat.succ nx) fun n1 => fN (dcells a0).length fun e1 =>
 bnd (zfieldAddr 0 (.ptr nx e1 0 0)) fun d1 =>
 bnd (zload none (Tr.set (some (xRow 51 (dcells a0))) T nx) d1) fun d2 =>
 bnd (zbin .i .eql d2 (.v (.int .i64 (.ofNat 0)))) fun d3 =>
 finK T nx d3 (Tr.set (some (xRow 51 (dcells a0))) T nx) n1 nx
theorem e248 (a0 : D) (T : ST) (nx : Nat) : fnK Tryz.prog [] dr0 FU Tryz.f248 (.s .o (.s .o .o)) [a0] T nx = s248 a0 T nx := by kernel_rfl
noncomputable def F248 : Sem := ar1 s248
theorem k248 : FnOk Tryz.prog 248 F248 := ar1_ok (fnK_ok (by kernel_rfl) CallsOk.nil dr0_ok) e248
/- (reeve/state.State).owner$1 -/
theorem h263 : HasFn Tryz.prog 263 := ⟨by kernel_rfl⟩
noncomputable def s263 (a0 a1 : D) : ST → Nat → Option Rt := fun T nx =>
 bB (solidB a0) <| fN (Nat.succ nx) fun n1 => fN (dcells a0).length fun e1 =>
 bnd (zload (some 13) (Tr.set (some (xRow 51 (dcells a0))) T nx) (.ptr nx e1 0 0)) fun d1 =>
 bnd (zload none (Tr.set (some (xRow 51 (dcells a0))) T nx) a1) fun d2 =>
 bndR (F262 [d1, d2] (Tr.set (some (xRow 51 (dcells a0))) T nx) n1) fun d3 T1 n2 l1 => fN (lowN nx l1) fun l2 =>
 finK T nx d3 T1 n2 l2
theorem e263 (a0 a1 : D) (T : ST) (nx : Nat) : fnK Tryz.prog [(262, F262)] dr0 FU Tryz.f263 (.s .o (.s .o .o)) [a0, a1] T nx = s263 a0 a1 T nx := by kernel_rfl
noncomputable def F263 : Sem := ar2 s263
theorem k263 : FnOk Tryz.prog 263 F263 := ar2_ok (fnK_ok (by kernel_rfl) (CallsOk.cons h262 k262 CallsOk.nil) dr0_ok) e263
/- slices.IndexFunc[[]reeve/thing.Thing,reeve/thing.Thing] -/
theorem h247 : HasFn Tryz.prog 247 := ⟨by kernel_rfl⟩
noncomputable def C247 : List (FuncId × Sem) := [(248, F248), (263, F263)]
noncomputable def s247 (fu : Nat) (a0 a1 : D) : ST → Nat → Option Rt := fun T nx =>
 jn (fun v1 T1 n1 l1 =>
 finK T nx (.v (.int .i64 (.negSucc 0))) T1 n1 l1) fun K1 =>
 bnd (zlen true a0) fun d1 =>
 lpc fu (fun go1 v2 T2 n2 l2 => unc v2 fun d2 w1 => unc w1 fun d3 w2 => unc w2 fun d4 w3 => unc w3 fun d5 w4 =>
  bnd (zbin .i .lss d5 d4) fun d6 =>
  cnd d6 (
  bnd (zindexAddr (.sl 13) d2 d5) fun d7 =>
  bnd (zload (some 13) T2 d7) fun d8 =>
  zclo d3 fun f1 c1 => zsome (findC f1 C247) fun F1 => bndR (F1 ([d8] ++ c1) T2 n2) fun d9 T3 n3 l3 =>
  fN (lowN l2 l3) fun l4 =>
  cnd d9 (
 finK T nx d5 T3 n3 l4
  ) (
  bnd (zbin .i .add d5 (.v (.int .i64 (.ofNat 1)))) fun d10 =>
 go1 [d2, d3, d4, d10] T3 n3 l4
  )
  ) (
 K1 [] T2 n2 l2
  )) [a0, a1, d1, (.v (.int .i64 (.ofNat 0)))] T nx nx
theorem e247 (fu : Nat) (a0 a1 : D) (T : ST) (nx : Nat) : fnK Tryz.prog C247 dr0 fu Tryz.f247 (.s .o (.j [] (.s .o (.b (.l [0, 1, 7, 8] (.s .o (.s (.c .o .o) (.s (.b (.s .o (.s .o (.c (.s .o .o) .o)))) .o)))))) (.s .o .o))) [a0, a1] T nx = s247 fu a0 a1 T nx := by kernel_rfl
noncomputable def F247 : Sem := ar2 (s247 FU)
theorem k247 : FnOk Tryz.prog 247 F247 := ar2_ok (fnK_ok (by kernel_rfl) (CallsOk.cons h248 k248 (CallsOk.cons h263 k263 CallsOk.nil)) dr0_ok) (e247 FU)
/- (reeve/state.State).owner -/
theorem h238 : HasFn Tryz.prog 238 := ⟨by kernel_rfl⟩
noncomputable def s238 (a0 a1 : D) : ST → Nat → Option Rt := fun T nx =>
 bB (solidB a0) <| fN (Nat.succ nx) fun n1 => fN (dcells a0).length fun e1 =>
 bB (solidB a1) <| fN (Nat.succ n1) fun n2 => fN (dcells a1).length fun e2 =>
 bnd (zfieldAddr 4 (.ptr nx e1 0 0)) fun d1 =>
 bnd (zload none (Tr.set (some (xRow 3 (dcells a1))) (Tr.set (some (xRow 32 (dcells a0))) T nx) n1) d1) fun d2 =>
 bndR (F247 [d2, (.clo 263 [(.ptr n1 e2 0 0)])] (Tr.set (some (xRow 3 (dcells a1))) (Tr.set (some (xRow 32 (dcells a0))) T nx) n1) n2) fun d3 T1 n3 l1 => fN (lowN nx l1) fun l2 =>
 finK T nx d3 T1 n3 l2
theorem e238 (a0 a1 : D) (T : ST) (nx : Nat) : fnK Tryz.prog [(247, F247)] dr0 FU Tryz.f238 (.s .o (.s .o .o)) [a0, a1] T nx = s238 a0 a1 T nx := by kernel_rfl
noncomputable def F238 : Sem := ar2 s238
theorem k238 : FnOk Tryz.prog 238 F238 := ar2_ok (fnK_ok (by kernel_rfl) (CallsOk.cons h247 k247 CallsOk.nil) dr0_ok) e238
/- (reeve/state.State).inside -/
theorem h193 : HasFn Tryz.prog 193 := ⟨by kernel_rfl⟩
noncomputable def s193 (a0 a1 a2 : D) : ST → Nat → Option Rt := fun T nx =>
 bB (solidB a0) <| fN (Nat.succ nx) fun n1 => fN (dcells a0).length fun e1 =>
 bnd (zload (some 5) (Tr.set (some (xRow 32 (dcells a0))) T nx) (.ptr nx e1 0 0)) fun d1 =>
 bndR (F191 [d1, a1] (Tr.set (some (xRow 32 (dcells a0))) T nx) n1) fun d2 T1 n2 l1 => fN (lowN nx l1) fun l2 =>
 bnd (zun .not d2) fun d3 =>
 opG.gjn (fun k1 => zgd d3 false (
  bnd (zfieldAddr 4 (.ptr nx e1 0 0)) fun d4 =>
  k1 [] [] d4 T1 n2 l2
 ) (k1 [] [] (.v undef) T1 n2 l2)) fun _ _ d5 T2 n3 l3 =>
 opG.gjn (fun k2 => zgd d3 false (
  bnd (zload none T2 d5) fun d6 =>
  k2 (ptr? d5) [] d6 T2 n3 l3
 ) (k2 [] [] (.v undef) T2 n3 l3)) fun _ _ d7 T3 n4 l4 =>
 opG.gjn (fun k3 => zgd d3 false (
  k3 [] [] a1 T3 n4 l4
 ) (k3 [] [] (.v undef) T3 n4 l4)) fun _ _ d8 T4 n5 l5 =>
 opG.gjn (fun k4 => zgd d3 false (
  bnd (zindexAddr (.sl 13) d7 d8) fun d9 =>
  k4 [] [] d9 T4 n5 l5
 ) (k4 [] [] (.v undef) T4 n5 l5)) fun _ _ d10 T5 n6 l6 =>
 opG.gjn (fun k5 => zgd d3 false (
  bnd (zfieldAddr 0 d10) fun d11 =>
  k5 [] [] d11 T5 n6 l6
 ) (k5 [] [] (.v undef) T5 n6 l6)) fun _ _ d12 T6 n7 l7 =>
 opG.gjn (fun k6 => zgd d3 false (
  bnd (zload none T6 d12) fun d13 =>
  k6 (ptr? d12) [] d13 T6 n7 l7
 ) (k6 [] [] (.v undef) T6 n7 l7)) fun _ _ d14 T7 n8 l8 =>
 opG.gjn (fun k7 => zgd d3 false (
  bnd (zbin .i .neq d14 (.v (.int .i64 (.ofNat 2)))) fun d15 =>
  k7 [] [] d15 T7 n8 l8
 ) (k7 [] [] (.v undef) T7 n8 l8)) fun _ _ d16 T8 n9 l9 =>
 bnd (zpick d3 (.v (.bool true)) d16) fun d17 =>
 cnd d17 (
 finK T nx (.v (.bool false)) T8 n9 l9
 ) (
 none
 )
theorem e193 (a0 a1 a2 : D) (T : ST) (nx : Nat) : fnK Tryz.prog [(191, F191)] dr0 FU Tryz.f193 (.s .o (.s (.s .o (.c (.s .o .o) .o)) (.s .o (.s .o (.s .o .o))))) [a0, a1, a2] T nx = s193 a0 a1 a2 T nx := by kernel_rfl
noncomputable def F193 : Sem := ar3 s193
theorem k193 : FnOk Tryz.prog 193 F193 := ar3_ok (fnK_ok (by kernel_rfl) (CallsOk.cons h191 k191 CallsOk.nil) dr0_ok) e193
/- (reeve/state.State).ring -/
theorem h145 : HasFn Tryz.prog 145 := ⟨by kernel_rfl⟩
noncomputable def s145 (fu : Nat) (a0 : D) : ST → Nat → Option Rt := fun T nx =>
 bB (solidB a0) <| fN (Nat.succ nx) fun n1 => fN (dcells a0).length fun e1 =>
 jn (fun v1 T1 n2 l1 =>
 finK T nx (.v (.bool false)) T1 n2 l1) fun K1 =>
 bnd (zfieldAddr 3 (.ptr nx e1 0 0)) fun d1 =>
 bnd (zload none (Tr.set (some (xRow 32 (dcells a0))) T nx) d1) fun d2 =>
 bnd (zlen true d2) fun d3 =>
 lpc fu (fun go1 v2 T2 n3 l2 => unc v2 fun d4 w1 => unc w1 fun d5 w2 => unc w2 fun d6 w3 => unc w3 fun d7 w4 =>
  bnd (zbin .i .lss d7 d6) fun d8 =>
  cnd d8 (
  bnd (zindexAddr (.sl 5) d5 d7) fun d9 =>
  bnd (zload (some 5) T2 d9) fun d10 =>
  fN (Nat.succ n3) fun n4 =>
  zstore 5 (Tr.set (some (XO.mk 113 5 1 (.n [(.v (.int .i64 (.ofNat 0))), (.v (.int .i64 (.ofNat 0))), (.v (.int .i64 (.ofNat 0))), (.v (.int .i64 (.ofNat 0))), (.v (.int .i64 (.ofNat 0)))] .e .e))) T2 n3) (.ptr n3 5 0 0) d10 fun r1 T3 => fN (lowN l2 r1) fun l3 =>
  bnd (zfieldAddr 0 (.ptr n3 5 0 0)) fun d11 =>
  bnd (zfieldAddr 0 d11) fun d12 =>
  bnd (zload none T3 d12) fun d13 =>
  bnd (zbin .i .eql d13 (.v (.int .i64 (.ofNat 2)))) fun d14 =>
  opG.gjn (fun k1 => zgd d14 true (
   bnd (zload (some 5) T3 d4) fun d15 =>
   k1 (ptr? d4) [] d15 T3 n4 l3
  ) (k1 [] [] (.v undef) T3 n4 l3)) fun _ _ d16 T4 n5 l4 =>
  opG.gjn (fun k2 => zgd d14 true (
   bnd (zfieldAddr 0 (.ptr n3 5 0 0)) fun d17 =>
   k2 [] [] d17 T4 n5 l4
  ) (k2 [] [] (.v undef) T4 n5 l4)) fun _ _ d18 T5 n6 l5 =>
  opG.gjn (fun k3 => zgd d14 true (
   bnd (zfieldAddr 1 d18) fun d19 =>
   k3 [] [] d19 T5 n6 l5
  ) (k3 [] [] (.v undef) T5 n6 l5)) fun _ _ d20 T6 n7 l6 =>
  opG.gjn (fun k4 => zgd d14 true (
   bnd (zload none T6 d20) fun d21 =>
   k4 (ptr? d20) [] d21 T6 n7 l6
  ) (k4 [] [] (.v undef) T6 n7 l6)) fun _ _ d22 T7 n8 l7 =>
  opG.gjn (fun k5 => zgd d14 true (
   k5 [] [] d7 T7 n8 l7
  ) (k5 [] [] (.v undef) T7 n8 l7)) fun _ _ d23 T8 n9 l8 =>
  opG.gjn (fun k6 => zgd d14 true (
   bndR (F193 [d16, d22, d23] T8 n9) fun d24 T9 n10 l9 => fN (lowN l8 l9) fun l10 =>
   k6 [] [] d24 T9 n10 l10
  ) (k6 [] [] (.v undef) T8 n9 l8)) fun _ _ d25 T10 n11 l11 =>
  bnd (zpick d14 d25 (.v (.bool false))) fun d26 =>
  cnd d26 (
 finK T nx (.v (.bool true)) T10 n11 l11
  ) (
  bnd (zbin .i .add d7 (.v (.int .i64 (.ofNat 1)))) fun d27 =>
 go1 [d4, d5, d6, d27] T10 n11 l11
  )
  ) (
 K1 [] T2 n3 l2
  )) [(.ptr nx e1 0 0), d2, d3, (.v (.int .i64 (.ofNat 0)))] (Tr.set (some (xRow 32 (dcells a0))) T nx) n1 nx
theorem e145 (fu : Nat) (a0 : D) (T : ST) (nx : Nat) : fnK Tryz.prog [(193, F193)] dr0 fu Tryz.f145 (.s .o (.j [] (.s .o (.b (.l [1, 6, 7, 8] (.s .o (.s (.c .o .o) (.s (.b (.s .o (.s .o (.c (.s .o .o) .o)))) .o)))))) (.s .o .o))) [a0] T nx = s145 fu a0 T nx := by kernel_rfl
noncomputable def F145 : Sem := ar1 (s145 FU)
theorem k145 : FnOk Tryz.prog 145 F145 := ar1_ok (fnK_ok (by kernel_rfl) (CallsOk.cons h193 k193 CallsOk.nil) dr0_ok) (e145 FU)
end Go.Abs
