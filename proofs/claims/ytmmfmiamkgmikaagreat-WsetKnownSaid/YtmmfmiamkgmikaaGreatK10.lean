/- Functions of the program as what they run as, printed by a program of this session. -/
import Derived.Test.YtmmfmiamkgmikaaGreatK9
set_option linter.unusedVariables false
set_option maxRecDepth 100000
open Go Go.Proofs
namespace Go.Abs
/- slices.pdqsortOrdered[int] -/
theorem h114 : HasFn Tryz.prog 114 := ⟨by kernel_rfl⟩
noncomputable def s114 (G : Sem) (fu : Nat) (a0 a1 a2 a3 : D) : ST → Nat → Option Rt := fun T nx =>
 lpc fu (fun go1 v1 T1 n1 l1 => unc v1 fun d1 w1 => unc w1 fun d2 w2 => unc w2 fun d3 w3 => unc w3 fun d4 w4 => unc w4 fun d5 w5 => unc w5 fun d6 w6 =>
  bnd (zbin .i .sub d3 d2) fun d7 =>
  bnd (zbin .i .leq d7 (.v (.int .i64 (.ofNat 12)))) fun d8 =>
  cnd d8 (
   bndR (F172 [d1, d2, d3] T1 n1) fun d9 T2 n2 l2 => fN (lowN l1 l2) fun l3 =>
 finK T nx (.tup []) T2 n2 l3
  ) (
  bnd (zbin .i .eql d4 (.v (.int .i64 (.ofNat 0)))) fun d10 =>
  cnd d10 (
   bndR (F173 [d1, d2, d3] T1 n1) fun d11 T3 n3 l4 => fN (lowN l1 l4) fun l5 =>
 finK T nx (.tup []) T3 n3 l5
  ) (
  jn (fun v2 T4 n4 l6 => unc v2 fun d12 w7 => unc w7 fun d13 w8 => unc w8 fun d14 w9 => unc w9 fun d15 w10 => unc w10 fun d16 w11 => unc w11 fun d17 w12 => unc w12 fun d18 w13 =>
   bndR (F175 [d12, d13, d14] T4 n4) fun d19 T5 n5 l7 => fN (lowN l6 l7) fun l8 =>
   bnd (zextract d19 0) fun d20 =>
   bnd (zextract d19 1) fun d21 =>
   jn (fun v3 T6 n6 l9 => unc v3 fun d22 w14 => unc w14 fun d23 w15 => unc w15 fun d24 w16 => unc w16 fun d25 w17 => unc w17 fun d26 w18 => unc w18 fun d27 w19 => unc w19 fun d28 w20 => unc w20 fun d29 w21 => unc w21 fun d30 w22 =>
    jn (fun v4 T7 n7 l10 => unc v4 fun d31 w23 => unc w23 fun d32 w24 => unc w24 fun d33 w25 => unc w25 fun d34 w26 => unc w26 fun d35 w27 => unc w27 fun d36 w28 => unc w28 fun d37 w29 => unc w29 fun d38 w30 =>
     bnd (zbin .i .gtr d32 (.v (.int .i64 (.ofNat 0)))) fun d39 =>
     opD.gjd (fun k1 => zgd d39 true (
      k1 (.op [] []) d31 T7 n7 l10
     ) (k1 (.op [] []) (.v undef) T7 n7 l10)) fun f1 d40 T8 n8 l11 =>
     opD.gjd (fun k2 => zgd d39 true (
      k2 (.op [] []) d32 T8 n8 l11
     ) (k2 (.op [] []) (.v undef) T8 n8 l11)) fun f2 d41 T9 n9 l12 =>
     opD.gjd (fun k3 => zgd d39 true (
      bnd (zbin .i .sub d41 (.v (.int .i64 (.ofNat 1)))) fun d42 =>
      k3 (.op [] []) d42 T9 n9 l12
     ) (k3 (.op [] []) (.v undef) T9 n9 l12)) fun f3 d43 T10 n10 l13 =>
     opD.gjd (fun k4 => zgd d39 true (
      bnd (zindexAddr (.sl 1) d40 d43) fun d44 =>
      k4 (.op [] []) d44 T10 n10 l13
     ) (k4 (.op [] []) (.v undef) T10 n10 l13)) fun f4 d45 T11 n11 l14 =>
     opD.gjd (fun k5 => zgd d39 true (
      bnd (zload none T11 d45) fun d46 =>
      k5 (.op (ptr? d45) []) d46 T11 n11 l14
     ) (k5 (.op [] []) (.v undef) T11 n11 l14)) fun f5 d47 T12 n12 l15 =>
     opD.gjd (fun k6 => zgd d39 true (
      k6 (.op [] []) d31 T12 n12 l15
     ) (k6 (.op [] []) (.v undef) T12 n12 l15)) fun f6 d48 T13 n13 l16 =>
     opD.gjd (fun k7 => zgd d39 true (
      k7 (.op [] []) d38 T13 n13 l16
     ) (k7 (.op [] []) (.v undef) T13 n13 l16)) fun f7 d49 T14 n14 l17 =>
     opD.gjd (fun k8 => zgd d39 true (
      bnd (zindexAddr (.sl 1) d48 d49) fun d50 =>
      k8 (.op [] []) d50 T14 n14 l17
     ) (k8 (.op [] []) (.v undef) T14 n14 l17)) fun f8 d51 T15 n15 l18 =>
     opD.gjd (fun k9 => zgd d39 true (
      bnd (zload none T15 d51) fun d52 =>
      k9 (.op (ptr? d51) []) d52 T15 n15 l18
     ) (k9 (.op [] []) (.v undef) T15 n15 l18)) fun f9 d53 T16 n16 l19 =>
     opD.gjd (fun k10 => zgd d39 true (
      bndR (F178 [d47, d53] T16 n16) fun d54 T17 n17 l20 => fN (lowN n16 l20) fun l21 => bB (Nat.beq l21 n16) <|
      k10 (.call n16 n17) d54 T17 n17 l19
     ) (k10 (.op [] []) (.v undef) T16 n16 l19)) fun f10 d55 T18 n18 l22 =>
     opD.gjd (fun k11 => zgd d39 true (
      bnd (zun .not d55) fun d56 =>
      k11 (.op [] []) d56 T18 n18 l22
     ) (k11 (.op [] []) (.v undef) T18 n18 l22)) fun f11 d57 T19 n19 l23 =>
     bnd (zpick d39 d57 (.v (.bool false))) fun d58 =>
     cnd d58 (
      bndR (F179 [d31, d32, d33, d38] T19 n19) fun d59 T20 n20 l24 => fN (lowN l23 l24) fun l25 =>
 go1 [d31, d59, d33, d34, d35, d36] T20 n20 l25
     ) (
     bndR (F180 [d31, d32, d33, d38] T19 n19) fun d60 T21 n21 l26 => fN (lowN l23 l26) fun l27 =>
     bnd (zextract d60 0) fun d61 =>
     bnd (zextract d60 1) fun d62 =>
     bnd (zbin .i .sub d61 d32) fun d63 =>
     bnd (zbin .i .sub d33 d61) fun d64 =>
     bnd (zbin .i .quo d37 (.v (.int .i64 (.ofNat 8)))) fun d65 =>
     bnd (zbin .i .lss d63 d64) fun d66 =>
     cnd d66 (
      bnd (zbin .i .geq d63 d65) fun d67 =>
      bndR (G [d31, d32, d61, d34] T21 n21) fun d68 T22 n22 l28 => fN (lowN l27 l28) fun l29 =>
      bnd (zbin .i .add d61 (.v (.int .i64 (.ofNat 1)))) fun d69 =>
 go1 [d31, d69, d33, d34, d67, d62] T22 n22 l29
     ) (
      bnd (zbin .i .geq d64 d65) fun d70 =>
      bnd (zbin .i .add d61 (.v (.int .i64 (.ofNat 1)))) fun d71 =>
      bndR (G [d31, d71, d33, d34] T21 n21) fun d72 T23 n23 l30 => fN (lowN l27 l30) fun l31 =>
 go1 [d31, d32, d61, d34, d70, d62] T23 n23 l31
     )
     )) fun K1 =>
    opG.gjn (fun k12 => zgd d26 true (
     k12 [] [] d27 T6 n6 l9
    ) (k12 [] [] (.v undef) T6 n6 l9)) fun _ _ d73 T24 n24 l32 =>
    bnd (zpick d26 d73 (.v (.bool false))) fun d74 =>
    opG.gjn (fun k13 => zgd d74 true (
     k13 [] [] d30 T24 n24 l32
    ) (k13 [] [] (.v undef) T24 n24 l32)) fun _ _ d75 T25 n25 l33 =>
    opG.gjn (fun k14 => zgd d74 true (
     bnd (zbin .i .eql d75 (.v (.int .i64 (.ofNat 1)))) fun d76 =>
     k14 [] [] d76 T25 n25 l33
    ) (k14 [] [] (.v undef) T25 n25 l33)) fun _ _ d77 T26 n26 l34 =>
    bnd (zpick d74 d77 (.v (.bool false))) fun d78 =>
    cnd d78 (
     bndR (F177 [d22, d23, d24] T26 n26) fun d79 T27 n27 l35 => fN (lowN l34 l35) fun l36 =>
     cnd d79 (
 finK T nx (.tup []) T27 n27 l36
     ) (
    K1 [d22, d23, d24, d25, d26, d27, d28, d29] T27 n27 l36
     )
    ) (
    K1 [d22, d23, d24, d25, d26, d27, d28, d29] T26 n26 l34
    )) fun K2 =>
   bnd (zbin .i .eql d21 (.v (.int .i64 (.ofNat 2)))) fun d80 =>
   cnd d80 (
    bndR (F176 [d12, d13, d14] T5 n5) fun d81 T28 n28 l37 => fN (lowN l8 l37) fun l38 =>
    bnd (zbin .i .sub d14 (.v (.int .i64 (.ofNat 1)))) fun d82 =>
    bnd (zbin .i .sub d20 d13) fun d83 =>
    bnd (zbin .i .sub d82 d83) fun d84 =>
   K2 [d12, d13, d14, d15, d16, d17, d18, d84, (.v (.int .i64 (.ofNat 1)))] T28 n28 l38
   ) (
   K2 [d12, d13, d14, d15, d16, d17, d18, d20, d21] T5 n5 l8
   )) fun K3 =>
  bnd (zun .not d5) fun d85 =>
  cnd d85 (
   bndR (F174 [d1, d2, d3] T1 n1) fun d86 T29 n29 l39 => fN (lowN l1 l39) fun l40 =>
   bnd (zbin .i .sub d4 (.v (.int .i64 (.ofNat 1)))) fun d87 =>
  K3 [d1, d2, d3, d87, d5, d6, d7] T29 n29 l40
  ) (
  K3 [d1, d2, d3, d4, d5, d6, d7] T1 n1 l1
  )
  )
  )) [a0, a1, a2, a3, (.v (.bool true)), (.v (.bool true))] T nx nx
theorem e114 (G : Sem) (fu : Nat) (a0 a1 a2 a3 : D) (T : ST) (nx : Nat) : fnK Tryz.prog [(172, F172), (173, F173), (175, F175), (178, F178), (179, F179), (180, F180), (114, G), (177, F177), (176, F176), (174, F174)] (drD Tryz.prog [(172, F172), (173, F173), (175, F175), (178, F178), (179, F179), (180, F180), (114, G), (177, F177), (176, F176), (174, F174)]) fu Tryz.f114 (.s .o (.s .o (.b (.l [0, 1, 2, 3, 8, 9] (.b (.s .o (.s (.s .o (.c (.s .o .o) .o)) (.s (.s .o (.c (.s .o .o) .o)) (.j [0, 1, 2, 3, 8, 9, 10] (.s .o (.c (.s .o .o) .o)) (.s .o (.j [0, 1, 2, 3, 8, 9, 10, 11, 12] (.s .o (.c (.s .o (.s .o .o)) .o)) (.j [0, 1, 2, 3, 8, 9, 10, 11] (.s .o (.c (.s .o (.c .o .o)) .o)) (.s (.s .o (.c (.s .o (.s .o .o)) .o)) (.s .o (.s .o (.s .o (.s .o (.s .o (.c (.s .o (.s .o .o)) (.s .o (.s .o .o))))))))))))))))))))) [a0, a1, a2, a3] T nx = s114 G fu a0 a1 a2 a3 T nx := by kernel_rfl
noncomputable def F114 : Sem := recS (fun G => ar4 (s114 G FU)) 100000
theorem k114 : FnOk Tryz.prog 114 F114 := recS_ok (fun G hG => ar4_ok (fnK_ok (by kernel_rfl) (CallsOk.cons h172 k172 (CallsOk.cons h173 k173 (CallsOk.cons h175 k175 (CallsOk.cons h178 k178 (CallsOk.cons h179 k179 (CallsOk.cons h180 k180 (CallsOk.cons h114 hG (CallsOk.cons h177 k177 (CallsOk.cons h176 k176 (CallsOk.cons h174 k174 CallsOk.nil)))))))))) (drD_ok hmix (CallsOk.cons h172 k172 (CallsOk.cons h173 k173 (CallsOk.cons h175 k175 (CallsOk.cons h178 k178 (CallsOk.cons h179 k179 (CallsOk.cons h180 k180 (CallsOk.cons h114 hG (CallsOk.cons h177 k177 (CallsOk.cons h176 k176 (CallsOk.cons h174 k174 CallsOk.nil)))))))))))) (e114 G FU)) 100000
/- slices.Sort[[]int,int] -/
theorem h64 : HasFn Tryz.prog 64 := ⟨by kernel_rfl⟩
noncomputable def s64 (a0 : D) : ST → Nat → Option Rt := fun T nx =>
 bnd (zlen true a0) fun d1 =>
 bnd (zconv (.ii .u64) d1) fun d2 =>
 bndR (F115 [d2] T nx) fun d3 T1 n1 l1 => fN (lowN nx l1) fun l2 =>
 bndR (F114 [a0, (.v (.int .i64 (.ofNat 0))), d1, d3] T1 n1) fun d4 T2 n2 l3 => fN (lowN l2 l3) fun l4 =>
 finK T nx (.tup []) T2 n2 l4
theorem e64 (a0 : D) (T : ST) (nx : Nat) : fnK Tryz.prog [(115, F115), (114, F114)] dr0 FU Tryz.f64 (.s .o .o) [a0] T nx = s64 a0 T nx := by kernel_rfl
noncomputable def F64 : Sem := ar1 s64
theorem k64 : FnOk Tryz.prog 64 F64 := ar1_ok (fnK_ok (by kernel_rfl) (CallsOk.cons h115 k115 (CallsOk.cons h114 k114 CallsOk.nil)) dr0_ok) e64
/- (reeve/forest.Forest).behind -/
theorem h215 : HasFn Tryz.prog 215 := ⟨by kernel_rfl⟩
noncomputable def s215 (G : Sem) (fu : Nat) (a0 a1 : D) : ST → Nat → Option Rt := fun T nx =>
 bB (solidB a0) <| fN (Nat.succ nx) fun n1 => fN (dcells a0).length fun e1 =>
 jn (fun v1 T1 n2 l1 => unc v1 fun d1 w1 =>
 finK T nx d1 T1 n2 l1) fun K1 =>
 bnd (zlen true a1) fun d2 =>
 lpc fu (fun go1 v2 T2 n3 l2 => unc v2 fun d3 w2 => unc w2 fun d4 w3 => unc w3 fun d5 w4 => unc w4 fun d6 w5 => unc w5 fun d7 w6 =>
  bnd (zbin .i .lss d7 d6) fun d8 =>
  cnd d8 (
  bnd (zindexAddr (.sl 1) d5 d7) fun d9 =>
  bnd (zload none T2 d9) fun d10 =>
  bB (solidL 1 [d10]) <| fN (Nat.succ n3) fun n4 =>
  zappend 3 1 8 (Tr.set (some (xRows 3 1 [dcells d10])) T2 n3) n4 l2 d4 (.vw n3 1 0 1) fun f1 s1 d11 T3 l3 => fN (Nat.succ n4) fun n5 => fN l3 fun l4 =>
  bnd (zload (some 1) T3 d3) fun d12 =>
  bnd (zload (some 1) T3 d3) fun d13 =>
  bndR (F216 [d13, d10] T3 n5) fun d14 T4 n6 l5 => fN (lowN n5 l5) fun l6 => bB (Nat.beq l6 n5) <|
  bndR (G [d12, d14] T4 n6) fun d15 T5 n7 l7 => fN (lowN n6 l7) fun l8 => bB (Nat.beq l8 n6) <|
  zappend 3 1 8 T5 n7 l4 d11 d15 fun f2 s2 d16 T6 l9 => fN (Nat.succ n7) fun n8 => fN l9 fun l10 =>
  bB (apt (.op (ptr? d3) []) (.call n5 n6)) <|
  bnd (zbin .i .add d7 (.v (.int .i64 (.ofNat 1)))) fun d17 =>
 go1 [d3, d16, d5, d6, d17] T6 n8 l10
  ) (
 K1 [d4] T2 n3 l2
  )) [(.ptr nx e1 0 0), .e0, a1, d2, (.v (.int .i64 (.ofNat 0)))] (Tr.set (some (xRow 201 (dcells a0))) T nx) n1 nx
theorem e215 (G : Sem) (fu : Nat) (a0 a1 : D) (T : ST) (nx : Nat) : fnK Tryz.prog [(216, F216), (215, G)] (drD Tryz.prog [(216, F216), (215, G)]) fu Tryz.f215 (.s .o (.s .o (.j [5] (.s .o (.b (.l [2, 5, 8, 9, 10] (.s .o (.s (.c .o .o) (.s (.b (.s .o (.s .o .o))) .o)))))) (.s .o .o)))) [a0, a1] T nx = s215 G fu a0 a1 T nx := by kernel_rfl
noncomputable def F215 : Sem := recS (fun G => ar2 (s215 G FU)) 100000
theorem k215 : FnOk Tryz.prog 215 F215 := recS_ok (fun G hG => ar2_ok (fnK_ok (by kernel_rfl) (CallsOk.cons h216 k216 (CallsOk.cons h215 hG CallsOk.nil)) (drD_ok hmix (CallsOk.cons h216 k216 (CallsOk.cons h215 hG CallsOk.nil)))) (e215 G FU)) 100000
/- reeve/forest.Below -/
theorem h157 : HasFn Tryz.prog 157 := ⟨by kernel_rfl⟩
noncomputable def s157 (a0 a1 : D) : ST → Nat → Option Rt := fun T nx =>
 bB (solidB a0) <| fN (Nat.succ nx) fun n1 => fN (dcells a0).length fun e1 =>
 bnd (zload (some 1) (Tr.set (some (xRow 201 (dcells a0))) T nx) (.ptr nx e1 0 0)) fun d1 =>
 bndR (F214 [d1, a1] (Tr.set (some (xRow 201 (dcells a0))) T nx) n1) fun d2 T1 n2 l1 => fN (lowN nx l1) fun l2 =>
 bnd (zun .not d2) fun d3 =>
 cnd d3 (
 finK T nx .e0 T1 n2 l2
 ) (
 bnd (zload (some 1) T1 (.ptr nx e1 0 0)) fun d4 =>
 bnd (zload (some 1) T1 (.ptr nx e1 0 0)) fun d5 =>
 bndR (F216 [d5, a1] T1 n2) fun d6 T2 n3 l3 => fN (lowN n2 l3) fun l4 => bB (Nat.beq l4 n2) <|
 bndR (F215 [d4, d6] T2 n3) fun d7 T3 n4 l5 => fN (lowN n3 l5) fun l6 => bB (Nat.beq l6 n3) <|
 bB (apt (.op (ptr? (.ptr nx e1 0 0)) []) (.call n2 n3)) <|
 bndR (F64 [d7] T3 n4) fun d8 T4 n5 l7 => fN (lowN l2 l7) fun l8 =>
 finK T nx d7 T4 n5 l8
 )
theorem e157 (a0 a1 : D) (T : ST) (nx : Nat) : fnK Tryz.prog [(214, F214), (216, F216), (215, F215), (64, F64)] (drD Tryz.prog [(214, F214), (216, F216), (215, F215), (64, F64)]) FU Tryz.f157 (.s .o (.s (.s .o (.c (.s .o .o) .o)) (.s .o (.s .o (.s .o .o))))) [a0, a1] T nx = s157 a0 a1 T nx := by kernel_rfl
noncomputable def F157 : Sem := ar2 s157
theorem k157 : FnOk Tryz.prog 157 F157 := ar2_ok (fnK_ok (by kernel_rfl) (CallsOk.cons h214 k214 (CallsOk.cons h216 k216 (CallsOk.cons h215 k215 (CallsOk.cons h64 k64 CallsOk.nil)))) (drD_ok hmix (CallsOk.cons h214 k214 (CallsOk.cons h216 k216 (CallsOk.cons h215 k215 (CallsOk.cons h64 k64 CallsOk.nil)))))) e157
/- reeve/take.empty -/
theorem h217 : HasFn Tryz.prog 217 := ⟨by kernel_rfl⟩
noncomputable def s217 (fu : Nat) (a0 a1 : D) : ST → Nat → Option Rt := fun T nx =>
 bB (solidB a0) <| fN (Nat.succ nx) fun n1 => fN (dcells a0).length fun e1 =>
 bnd (zbin .i .lss a1 (.v (.int .i64 (.ofNat 0)))) fun d1 =>
 opG.gjn (fun k1 => zgd d1 false (
  k1 [] [] a1 (Tr.set (some (xRow 32 (dcells a0))) T nx) n1 nx
 ) (k1 [] [] (.v undef) (Tr.set (some (xRow 32 (dcells a0))) T nx) n1 nx)) fun _ _ d2 T1 n2 l1 =>
 opG.gjn (fun k2 => zgd d1 false (
  bnd (zfieldAddr 3 (.ptr nx e1 0 0)) fun d3 =>
  k2 [] [] d3 T1 n2 l1
 ) (k2 [] [] (.v undef) T1 n2 l1)) fun _ _ d4 T2 n3 l2 =>
 opG.gjn (fun k3 => zgd d1 false (
  bnd (zload none T2 d4) fun d5 =>
  k3 (ptr? d4) [] d5 T2 n3 l2
 ) (k3 [] [] (.v undef) T2 n3 l2)) fun _ _ d6 T3 n4 l3 =>
 opG.gjn (fun k4 => zgd d1 false (
  bnd (zlen true d6) fun d7 =>
  k4 [] [] d7 T3 n4 l3
 ) (k4 [] [] (.v undef) T3 n4 l3)) fun _ _ d8 T4 n5 l4 =>
 opG.gjn (fun k5 => zgd d1 false (
  bnd (zbin .i .geq d2 d8) fun d9 =>
  k5 [] [] d9 T4 n5 l4
 ) (k5 [] [] (.v undef) T4 n5 l4)) fun _ _ d10 T5 n6 l5 =>
 bnd (zpick d1 (.v (.bool true)) d10) fun d11 =>
 opG.gjn (fun k6 => zgd d11 false (
  bnd (zfieldAddr 3 (.ptr nx e1 0 0)) fun d12 =>
  k6 [] [] d12 T5 n6 l5
 ) (k6 [] [] (.v undef) T5 n6 l5)) fun _ _ d13 T6 n7 l6 =>
 opG.gjn (fun k7 => zgd d11 false (
  bnd (zload none T6 d13) fun d14 =>
  k7 (ptr? d13) [] d14 T6 n7 l6
 ) (k7 [] [] (.v undef) T6 n7 l6)) fun _ _ d15 T7 n8 l7 =>
 opG.gjn (fun k8 => zgd d11 false (
  k8 [] [] a1 T7 n8 l7
 ) (k8 [] [] (.v undef) T7 n8 l7)) fun _ _ d16 T8 n9 l8 =>
 opG.gjn (fun k9 => zgd d11 false (
  bnd (zindexAddr (.sl 5) d15 d16) fun d17 =>
  k9 [] [] d17 T8 n9 l8
 ) (k9 [] [] (.v undef) T8 n9 l8)) fun _ _ d18 T9 n10 l9 =>
 opG.gjn (fun k10 => zgd d11 false (
  bnd (zfieldAddr 0 d18) fun d19 =>
  k10 [] [] d19 T9 n10 l9
 ) (k10 [] [] (.v undef) T9 n10 l9)) fun _ _ d20 T10 n11 l10 =>
 opG.gjn (fun k11 => zgd d11 false (
  bnd (zload (some 4) T10 d20) fun d21 =>
  k11 (ptr? d20) [] d21 T10 n11 l10
 ) (k11 [] [] (.v undef) T10 n11 l10)) fun _ _ d22 T11 n12 l11 =>
 opG.gjn (fun k12 => zgd d11 false (
  bndR (F190 [d22] T11 n12) fun d23 T12 n13 l12 => fN (lowN l11 l12) fun l13 =>
  k12 [] [] d23 T12 n13 l13
 ) (k12 [] [] (.v undef) T11 n12 l11)) fun _ _ d24 T13 n14 l14 =>
 bnd (zpick d11 (.v (.bool true)) d24) fun d25 =>
 cnd d25 (
 finK T nx (.v (.bool false)) T13 n14 l14
 ) (
 jn (fun v1 T14 n15 l15 => unc v1 fun d26 w1 => unc w1 fun d27 w2 =>
  bnd (zfieldAddr 3 d27) fun d28 =>
  bnd (zload none T14 d28) fun d29 =>
  bnd (zbuild [(.int .i64 (.ofNat 0)), (.int .i64 (.ofNat 0)), (.int .i64 (.ofNat 0)), (.int .i64 (.ofNat 0)), (.int .i64 (.ofNat 0))] [(0, 4), (4, 1)] [1] [(.v (.int .i64 (.negSucc 0)))]) fun d30 =>
  bnd (zindexAddr (.sl 5) d29 d26) fun d31 =>
  zstore 5 T14 d31 d30 fun r1 T15 => fN (lowN l15 r1) fun l16 =>
  jn (fun v2 T16 n16 l17 =>
 finK T nx (.v (.bool true)) T16 n16 l17) fun K1 =>
  bnd (zfieldAddr 4 d27) fun d32 =>
  bnd (zload none T15 d32) fun d33 =>
  bnd (zlen true d33) fun d34 =>
  lpc fu (fun go1 v3 T17 n17 l18 => unc v3 fun d35 w3 => unc w3 fun d36 w4 => unc w4 fun d37 w5 => unc w5 fun d38 w6 =>
   bnd (zbin .i .lss d38 d37) fun d39 =>
   cnd d39 (
   jn (fun v4 T18 n18 l19 => unc v4 fun d40 w7 => unc w7 fun d41 w8 => unc w8 fun d42 w9 => unc w9 fun d43 w10 =>
    bnd (zbin .i .add d43 (.v (.int .i64 (.ofNat 1)))) fun d44 =>
  go1 [d40, d41, d42, d44] T18 n18 l19) fun K2 =>
   bnd (zfieldAddr 4 d36) fun d45 =>
   bnd (zload none T17 d45) fun d46 =>
   bnd (zindexAddr (.sl 13) d46 d38) fun d47 =>
   bnd (zfieldAddr 5 d47) fun d48 =>
   bnd (zload none T17 d48) fun d49 =>
   bnd (zbin .i .add d35 (.v (.int .i64 (.ofNat 1)))) fun d50 =>
   bnd (zbin .i .eql d49 d50) fun d51 =>
   cnd d51 (
    bnd (zfieldAddr 4 d36) fun d52 =>
    bnd (zload none T17 d52) fun d53 =>
    bnd (zindexAddr (.sl 13) d53 d38) fun d54 =>
    bnd (zfieldAddr 5 d54) fun d55 =>
    zstore 1 T17 d55 (.v (.int .i64 (.ofNat 0))) fun r2 T19 => fN (lowN l18 r2) fun l20 =>
   K2 [d35, d36, d37, d38] T19 n17 l20
   ) (
   K2 [d35, d36, d37, d38] T17 n17 l18
   )
   ) (
  K1 [] T17 n17 l18
   )) [d26, d27, d34, (.v (.int .i64 (.ofNat 0)))] T15 n15 l16) fun K3 =>
 bnd (zfieldAddr 3 (.ptr nx e1 0 0)) fun d56 =>
 bnd (zload none T13 d56) fun d57 =>
 bnd (zlen true d57) fun d58 =>
 lpc fu (fun go2 v5 T20 n19 l21 => unc v5 fun d59 w11 => unc w11 fun d60 w12 => unc w12 fun d61 w13 => unc w13 fun d62 w14 =>
  bnd (zbin .i .lss d62 d61) fun d63 =>
  cnd d63 (
  jn (fun v6 T21 n20 l22 => unc v6 fun d64 w15 => unc w15 fun d65 w16 => unc w16 fun d66 w17 => unc w17 fun d67 w18 =>
   bnd (zbin .i .add d67 (.v (.int .i64 (.ofNat 1)))) fun d68 =>
 go2 [d64, d65, d66, d68] T21 n20 l22) fun K4 =>
  bnd (zfieldAddr 3 d60) fun d69 =>
  bnd (zload none T20 d69) fun d70 =>
  bnd (zindexAddr (.sl 5) d70 d62) fun d71 =>
  bnd (zfieldAddr 4 d71) fun d72 =>
  bnd (zload none T20 d72) fun d73 =>
  bnd (zbin .i .eql d73 d59) fun d74 =>
  cnd d74 (
   bnd (zfieldAddr 3 d60) fun d75 =>
   bnd (zload none T20 d75) fun d76 =>
   bnd (zfieldAddr 3 d60) fun d77 =>
   bnd (zload none T20 d77) fun d78 =>
   bnd (zindexAddr (.sl 5) d78 d59) fun d79 =>
   bnd (zfieldAddr 4 d79) fun d80 =>
   bnd (zload none T20 d80) fun d81 =>
   bnd (zindexAddr (.sl 5) d76 d62) fun d82 =>
   bnd (zfieldAddr 4 d82) fun d83 =>
   zstore 1 T20 d83 d81 fun r3 T22 => fN (lowN l21 r3) fun l23 =>
  K4 [d59, d60, d61, d62] T22 n19 l23
  ) (
  K4 [d59, d60, d61, d62] T20 n19 l21
  )
  ) (
 K3 [d59, d60] T20 n19 l21
  )) [a1, (.ptr nx e1 0 0), d58, (.v (.int .i64 (.ofNat 0)))] T13 n14 l14
 )
theorem e217 (fu : Nat) (a0 a1 : D) (T : ST) (nx : Nat) : fnK Tryz.prog [(190, F190)] (drD Tryz.prog [(190, F190)]) fu Tryz.f217 (.s .o (.s (.s .o (.c (.s .o .o) .o)) (.j [1, 2] (.s .o (.b (.l [1, 2, 27, 28] (.s .o (.s (.c .o .o) (.j [1, 2, 27, 28] (.b (.s .o (.s .o (.c .o .o)))) .o)))))) (.s .o (.j [] (.s .o (.b (.l [1, 2, 58, 59] (.s .o (.s (.c .o .o) (.j [1, 2, 58, 59] (.b (.s .o (.s .o (.c .o .o)))) .o)))))) (.s .o .o)))))) [a0, a1] T nx = s217 fu a0 a1 T nx := by kernel_rfl
noncomputable def F217 : Sem := ar2 (s217 FU)
theorem k217 : FnOk Tryz.prog 217 F217 := ar2_ok (fnK_ok (by kernel_rfl) (CallsOk.cons h190 k190 CallsOk.nil) (drD_ok hmix (CallsOk.cons h190 k190 CallsOk.nil))) (e217 FU)
/- reeve/take.held$1 -/
theorem h272 : HasFn Tryz.prog 272 := ⟨by kernel_rfl⟩
noncomputable def s272 (a0 a1 : D) : ST → Nat → Option Rt := fun T nx =>
 bB (solidB a0) <| fN (Nat.succ nx) fun n1 => fN (dcells a0).length fun e1 =>
 bnd (zfieldAddr 0 (.ptr nx e1 0 0)) fun d1 =>
 bnd (zload (some 4) (Tr.set (some (xRow 113 (dcells a0))) T nx) d1) fun d2 =>
 bndR (F190 [d2] (Tr.set (some (xRow 113 (dcells a0))) T nx) n1) fun d3 T1 n2 l1 => fN (lowN nx l1) fun l2 =>
 bnd (zun .not d3) fun d4 =>
 opG.gjn (fun k1 => zgd d4 true (
  bnd (zfieldAddr 0 (.ptr nx e1 0 0)) fun d5 =>
  k1 [] [] d5 T1 n2 l2
 ) (k1 [] [] (.v undef) T1 n2 l2)) fun _ _ d6 T2 n3 l3 =>
 opG.gjn (fun k2 => zgd d4 true (
  bnd (zfieldAddr 1 d6) fun d7 =>
  k2 [] [] d7 T2 n3 l3
 ) (k2 [] [] (.v undef) T2 n3 l3)) fun _ _ d8 T3 n4 l4 =>
 opG.gjn (fun k3 => zgd d4 true (
  bnd (zload none T3 d8) fun d9 =>
  k3 (ptr? d8) [] d9 T3 n4 l4
 ) (k3 [] [] (.v undef) T3 n4 l4)) fun _ _ d10 T4 n5 l5 =>
 opG.gjn (fun k4 => zgd d4 true (
  bnd (zload none T4 a1) fun d11 =>
  k4 (ptr? a1) [] d11 T4 n5 l5
 ) (k4 [] [] (.v undef) T4 n5 l5)) fun _ _ d12 T5 n6 l6 =>
 opG.gjn (fun k5 => zgd d4 true (
  bnd (zbin .i .eql d10 d12) fun d13 =>
  k5 [] [] d13 T5 n6 l6
 ) (k5 [] [] (.v undef) T5 n6 l6)) fun _ _ d14 T6 n7 l7 =>
 bnd (zpick d4 d14 (.v (.bool false))) fun d15 =>
 finK T nx d15 T6 n7 l7
theorem e272 (a0 a1 : D) (T : ST) (nx : Nat) : fnK Tryz.prog [(190, F190)] dr0 FU Tryz.f272 (.s .o (.s .o .o)) [a0, a1] T nx = s272 a0 a1 T nx := by kernel_rfl
noncomputable def F272 : Sem := ar2 s272
theorem k272 : FnOk Tryz.prog 272 F272 := ar2_ok (fnK_ok (by kernel_rfl) (CallsOk.cons h190 k190 CallsOk.nil) dr0_ok) e272
/- slices.IndexFunc[[]reeve/state.Slot,reeve/state.Slot] -/
theorem h277 : HasFn Tryz.prog 277 := ⟨by kernel_rfl⟩
noncomputable def C277 : List (FuncId × Sem) := [(272, F272)]
noncomputable def s277 (fu : Nat) (a0 a1 : D) : ST → Nat → Option Rt := fun T nx =>
 jn (fun v1 T1 n1 l1 =>
 finK T nx (.v (.int .i64 (.negSucc 0))) T1 n1 l1) fun K1 =>
 bnd (zlen true a0) fun d1 =>
 lpc fu (fun go1 v2 T2 n2 l2 => unc v2 fun d2 w1 => unc w1 fun d3 w2 => unc w2 fun d4 w3 => unc w3 fun d5 w4 =>
  bnd (zbin .i .lss d5 d4) fun d6 =>
  cnd d6 (
  bnd (zindexAddr (.sl 5) d2 d5) fun d7 =>
  bnd (zload (some 5) T2 d7) fun d8 =>
  zclo d3 fun f1 c1 => zsome (findC f1 C277) fun F1 => bndR (F1 ([d8] ++ c1) T2 n2) fun d9 T3 n3 l3 =>
  fN (lowN l2 l3) fun l4 =>
  cnd d9 (
 finK T nx d5 T3 n3 l4
  ) (
  bnd (zbin .i .add d5 (.v (.int .i64 (.ofNat 1)))) fun d10 =>
 go1 [d2, d3, d4, d10] T3 n3 l4
  )
  ) (
 K1 [] T2 n2 l2
  )) [a0, a1, d1, (.v (.int .i64 (.ofNat 0)))] T nx nx
theorem e277 (fu : Nat) (a0 a1 : D) (T : ST) (nx : Nat) : fnK Tryz.prog C277 dr0 fu Tryz.f277 (.s .o (.j [] (.s .o (.b (.l [0, 1, 7, 8] (.s .o (.s (.c .o .o) (.s (.b (.s .o (.s .o (.c (.s .o .o) .o)))) .o)))))) (.s .o .o))) [a0, a1] T nx = s277 fu a0 a1 T nx := by kernel_rfl
noncomputable def F277 : Sem := ar2 (s277 FU)
theorem k277 : FnOk Tryz.prog 277 F277 := ar2_ok (fnK_ok (by kernel_rfl) (CallsOk.cons h272 k272 CallsOk.nil) dr0_ok) (e277 FU)
/- slices.ContainsFunc[[]reeve/state.Slot,reeve/state.Slot] -/
theorem h271 : HasFn Tryz.prog 271 := ⟨by kernel_rfl⟩
noncomputable def s271 (a0 a1 : D) : ST → Nat → Option Rt := fun T nx =>
 bndR (F277 [a0, a1] T nx) fun d1 T1 n1 l1 => fN (lowN nx l1) fun l2 =>
 bnd (zbin .i .geq d1 (.v (.int .i64 (.ofNat 0)))) fun d2 =>
 finK T nx d2 T1 n1 l2
theorem e271 (a0 a1 : D) (T : ST) (nx : Nat) : fnK Tryz.prog [(277, F277)] dr0 FU Tryz.f271 (.s .o (.s .o .o)) [a0, a1] T nx = s271 a0 a1 T nx := by kernel_rfl
noncomputable def F271 : Sem := ar2 s271
theorem k271 : FnOk Tryz.prog 271 F271 := ar2_ok (fnK_ok (by kernel_rfl) (CallsOk.cons h277 k277 CallsOk.nil) dr0_ok) e271
/- reeve/take.held -/
theorem h256 : HasFn Tryz.prog 256 := ⟨by kernel_rfl⟩
noncomputable def s256 (a0 a1 : D) : ST → Nat → Option Rt := fun T nx =>
 bB (solidB a0) <| fN (Nat.succ nx) fun n1 => fN (dcells a0).length fun e1 =>
 bB (solidB a1) <| fN (Nat.succ n1) fun n2 => fN (dcells a1).length fun e2 =>
 bnd (zfieldAddr 3 (.ptr nx e1 0 0)) fun d1 =>
 bnd (zload none (Tr.set (some (xRow 3 (dcells a1))) (Tr.set (some (xRow 32 (dcells a0))) T nx) n1) d1) fun d2 =>
 bndR (F271 [d2, (.clo 272 [(.ptr n1 e2 0 0)])] (Tr.set (some (xRow 3 (dcells a1))) (Tr.set (some (xRow 32 (dcells a0))) T nx) n1) n2) fun d3 T1 n3 l1 => fN (lowN nx l1) fun l2 =>
 finK T nx d3 T1 n3 l2
theorem e256 (a0 a1 : D) (T : ST) (nx : Nat) : fnK Tryz.prog [(271, F271)] dr0 FU Tryz.f256 (.s .o (.s .o .o)) [a0, a1] T nx = s256 a0 a1 T nx := by kernel_rfl
noncomputable def F256 : Sem := ar2 s256
theorem k256 : FnOk Tryz.prog 256 F256 := ar2_ok (fnK_ok (by kernel_rfl) (CallsOk.cons h271 k271 CallsOk.nil) dr0_ok) e256
/- reeve/take.lost -/
theorem h218 : HasFn Tryz.prog 218 := ⟨by kernel_rfl⟩
noncomputable def s218 (fu : Nat) (a0 a1 : D) : ST → Nat → Option Rt := fun T nx =>
 bB (solidB a0) <| fN (Nat.succ nx) fun n1 => fN (dcells a0).length fun e1 =>
 bnd (zfieldAddr 4 (.ptr nx e1 0 0)) fun d1 =>
 bnd (zload none (Tr.set (some (xRow 32 (dcells a0))) T nx) d1) fun d2 =>
 bnd (zindexAddr (.sl 13) d2 a1) fun d3 =>
 bnd (zload (some 13) (Tr.set (some (xRow 32 (dcells a0))) T nx) d3) fun d4 =>
 fN (Nat.succ n1) fun n2 =>
 zstore 13 (Tr.set (some (XO.mk 51 13 1 (.n [(.v (.int .i64 (.ofNat 0))), (.v (.int .i64 (.ofNat 0))), (.v (.int .i64 (.ofNat 0))), (.v (.int .i64 (.ofNat 0))), (.v (.int .i64 (.ofNat 0))), (.v (.int .i64 (.ofNat 0))), (.v (.int .i64 (.ofNat 0))), (.v (.bool false)), (.v (.int .u64 (.ofNat 0))), (.v (.int .u64 (.ofNat 0))), (.v (.int .u64 (.ofNat 0))), (.v (.int .u64 (.ofNat 0))), (.v (.int .u64 (.ofNat 0)))] .e .e))) (Tr.set (some (xRow 32 (dcells a0))) T nx) n1) (.ptr n1 13 0 0) d4 fun r1 T1 => fN (lowN nx r1) fun l1 =>
 bnd (zbin .i .geq a1 (.v (.int .i64 (.ofNat 2)))) fun d5 =>
 opG.gjn (fun k1 => zgd d5 true (
  k1 [] [] a1 T1 n2 l1
 ) (k1 [] [] (.v undef) T1 n2 l1)) fun _ _ d6 T2 n3 l2 =>
 opG.gjn (fun k2 => zgd d5 true (
  bnd (zfieldAddr 0 (.ptr nx e1 0 0)) fun d7 =>
  k2 [] [] d7 T2 n3 l2
 ) (k2 [] [] (.v undef) T2 n3 l2)) fun _ _ d8 T3 n4 l3 =>
 opG.gjn (fun k3 => zgd d5 true (
  bnd (zfieldAddr 0 d8) fun d9 =>
  k3 [] [] d9 T3 n4 l3
 ) (k3 [] [] (.v undef) T3 n4 l3)) fun _ _ d10 T4 n5 l4 =>
 opG.gjn (fun k4 => zgd d5 true (
  bnd (zload none T4 d10) fun d11 =>
  k4 (ptr? d10) [] d11 T4 n5 l4
 ) (k4 [] [] (.v undef) T4 n5 l4)) fun _ _ d12 T5 n6 l5 =>
 opG.gjn (fun k5 => zgd d5 true (
  bnd (zbin .i .add (.v (.int .i64 (.ofNat 2))) d12) fun d13 =>
  k5 [] [] d13 T5 n6 l5
 ) (k5 [] [] (.v undef) T5 n6 l5)) fun _ _ d14 T6 n7 l6 =>
 opG.gjn (fun k6 => zgd d5 true (
  bnd (zbin .i .lss d6 d14) fun d15 =>
  k6 [] [] d15 T6 n7 l6
 ) (k6 [] [] (.v undef) T6 n7 l6)) fun _ _ d16 T7 n8 l7 =>
 bnd (zpick d5 d16 (.v (.bool false))) fun d17 =>
 bnd (zfieldAddr 0 (.ptr n1 13 0 0)) fun d18 =>
 bnd (zload none T7 d18) fun d19 =>
 bnd (zbin .i .eql d19 (.v (.int .i64 (.ofNat 0)))) fun d20 =>
 opG.gjn (fun k7 => zgd d20 false (
  k7 [] [] d17 T7 n8 l7
 ) (k7 [] [] (.v undef) T7 n8 l7)) fun _ _ d21 T8 n9 l8 =>
 bnd (zpick d20 (.v (.bool true)) d21) fun d22 =>
 opG.gjn (fun k8 => zgd d22 false (
  bnd (zload (some 5) T8 (.ptr nx e1 0 0)) fun d23 =>
  k8 (ptr? (.ptr nx e1 0 0)) [] d23 T8 n9 l8
 ) (k8 [] [] (.v undef) T8 n9 l8)) fun _ _ d24 T9 n10 l9 =>
 opG.gjn (fun k9 => zgd d22 false (
  k9 [] [] a1 T9 n10 l9
 ) (k9 [] [] (.v undef) T9 n10 l9)) fun _ _ d25 T10 n11 l10 =>
 opG.gjn (fun k10 => zgd d22 false (
  bndR (F256 [d24, d25] T10 n11) fun d26 T11 n12 l11 => fN (lowN l10 l11) fun l12 =>
  k10 [] [] d26 T11 n12 l12
 ) (k10 [] [] (.v undef) T10 n11 l10)) fun _ _ d27 T12 n13 l13 =>
 bnd (zpick d22 (.v (.bool true)) d27) fun d28 =>
 cnd d28 (
 finK T nx (.tup [(.v (.int .i64 (.ofNat 0))), (.v (.bool false))]) T12 n13 l13
 ) (
 jn (fun v1 T13 n14 l14 => unc v1 fun d29 w1 => unc w1 fun d30 w2 => unc w2 fun d31 w3 =>
  bnd (zfieldAddr 4 d30) fun d32 =>
  bnd (zload none T13 d32) fun d33 =>
  bnd (zbuild [(.int .i64 (.ofNat 0)), (.int .i64 (.ofNat 0)), (.int .i64 (.ofNat 0)), (.int .i64 (.ofNat 0)), (.int .i64 (.ofNat 0)), (.int .i64 (.ofNat 0)), (.int .i64 (.ofNat 0)), (.bool false), (.int .u64 (.ofNat 0)), (.int .u64 (.ofNat 0)), (.int .u64 (.ofNat 0)), (.int .u64 (.ofNat 0)), (.int .u64 (.ofNat 0))] [(0, 1), (1, 1), (2, 1), (3, 1), (4, 1), (5, 1), (6, 1), (7, 1), (8, 1), (9, 4)] [] []) fun d34 =>
  bnd (zindexAddr (.sl 13) d33 d29) fun d35 =>
  zstore 13 T13 d35 d34 fun r2 T14 => fN (lowN l14 r2) fun l15 =>
 finK T nx (.tup [d31, (.v (.bool true))]) T14 n14 l15) fun K1 =>
 bnd (zfieldAddr 1 (.ptr n1 13 0 0)) fun d36 =>
 bnd (zload none T12 d36) fun d37 =>
 bnd (zbin .sh .shl (.v (.int .i64 (.ofNat 1))) d37) fun d38 =>
 lpc fu (fun go1 v2 T15 n15 l16 => unc v2 fun d39 w4 => unc w4 fun d40 w5 => unc w5 fun d41 w6 => unc w6 fun d42 w7 => unc w7 fun d43 w8 => unc w8 fun d44 w9 =>
  bnd (zbin .i .lss d44 d43) fun d45 =>
  cnd d45 (
  jn (fun v3 T16 n16 l17 => unc v3 fun d46 w10 => unc w10 fun d47 w11 => unc w11 fun d48 w12 => unc w12 fun d49 w13 => unc w13 fun d50 w14 => unc w14 fun d51 w15 =>
   bnd (zbin .i .add d51 (.v (.int .i64 (.ofNat 1)))) fun d52 =>
 go1 [d46, d47, d48, d49, d50, d52] T16 n16 l17) fun K2 =>
  bnd (zfieldAddr 0 d41) fun d53 =>
  bnd (zload none T15 d53) fun d54 =>
  bnd (zbin .i .eql d54 (.v (.int .i64 (.ofNat 2)))) fun d55 =>
  opG.gjn (fun k11 => zgd d55 true (
   bnd (zload (some 5) T15 d40) fun d56 =>
   k11 (ptr? d40) [] d56 T15 n15 l16
  ) (k11 [] [] (.v undef) T15 n15 l16)) fun _ _ d57 T17 n17 l18 =>
  opG.gjn (fun k12 => zgd d55 true (
   bnd (zfieldAddr 2 d41) fun d58 =>
   k12 [] [] d58 T17 n17 l18
  ) (k12 [] [] (.v undef) T17 n17 l18)) fun _ _ d59 T18 n18 l19 =>
  opG.gjn (fun k13 => zgd d55 true (
   bnd (zload none T18 d59) fun d60 =>
   k13 (ptr? d59) [] d60 T18 n18 l19
  ) (k13 [] [] (.v undef) T18 n18 l19)) fun _ _ d61 T19 n19 l20 =>
  opG.gjn (fun k14 => zgd d55 true (
   k14 [] [] d44 T19 n19 l20
  ) (k14 [] [] (.v undef) T19 n19 l20)) fun _ _ d62 T20 n20 l21 =>
  opG.gjn (fun k15 => zgd d55 true (
   bnd (zbin .i .add d61 d62) fun d63 =>
   k15 [] [] d63 T20 n20 l21
  ) (k15 [] [] (.v undef) T20 n20 l21)) fun _ _ d64 T21 n21 l22 =>
  opG.gjn (fun k16 => zgd d55 true (
   bndR (F217 [d57, d64] T21 n21) fun d65 T22 n22 l23 => fN (lowN l22 l23) fun l24 =>
   k16 [] [] d65 T22 n22 l24
  ) (k16 [] [] (.v undef) T21 n21 l22)) fun _ _ d66 T23 n23 l25 =>
  bnd (zpick d55 d66 (.v (.bool false))) fun d67 =>
  cnd d67 (
   bnd (zbin .i .add d42 (.v (.int .i64 (.ofNat 1)))) fun d68 =>
  K2 [d39, d40, d41, d68, d43, d44] T23 n23 l25
  ) (
  K2 [d39, d40, d41, d42, d43, d44] T23 n23 l25
  )
  ) (
 K1 [d39, d40, d42] T15 n15 l16
  )) [a1, (.ptr nx e1 0 0), (.ptr n1 13 0 0), (.v (.int .i64 (.ofNat 0))), d38, (.v (.int .i64 (.ofNat 0)))] T12 n13 l13
 )
theorem e218 (fu : Nat) (a0 a1 : D) (T : ST) (nx : Nat) : fnK Tryz.prog [(256, F256), (217, F217)] dr0 fu Tryz.f218 (.s .o (.s .o (.s .o (.s (.s .o (.c (.s .o .o) .o)) (.s .o (.j [1, 2, 8] (.s .o (.b (.l [1, 2, 6, 8, 38, 39] (.s .o (.s (.c .o .o) (.j [1, 2, 6, 8, 38, 39] (.b (.s .o (.s .o (.c .o .o)))) .o)))))) (.s .o (.s .o .o)))))))) [a0, a1] T nx = s218 fu a0 a1 T nx := by kernel_rfl
noncomputable def F218 : Sem := ar2 (s218 FU)
theorem k218 : FnOk Tryz.prog 218 F218 := ar2_ok (fnK_ok (by kernel_rfl) (CallsOk.cons h256 k256 (CallsOk.cons h217 k217 CallsOk.nil)) dr0_ok) (e218 FU)
/- reeve/take.Empty -/
theorem h158 : HasFn Tryz.prog 158 := ⟨by kernel_rfl⟩
noncomputable def s158 (fu : Nat) (a0 a1 : D) : ST → Nat → Option Rt := fun T nx =>
 bB (solidB a0) <| fN (Nat.succ nx) fun n1 => fN (dcells a0).length fun e1 =>
 fN (Nat.succ n1) fun n2 =>
 bnd (zload (some 5) (Tr.set (some (XO.mk 32 5 1 (.n [(.v (.int .i64 (.ofNat 0))), (.v (.int .i64 (.ofNat 0))), (.v (.int .i64 (.ofNat 0))), .e0, .e0] .e .e))) (Tr.set (some (xRow 32 (dcells a0))) T nx) n1) (.ptr nx e1 0 0)) fun d1 =>
 bndR (F162 [d1] (Tr.set (some (XO.mk 32 5 1 (.n [(.v (.int .i64 (.ofNat 0))), (.v (.int .i64 (.ofNat 0))), (.v (.int .i64 (.ofNat 0))), .e0, .e0] .e .e))) (Tr.set (some (xRow 32 (dcells a0))) T nx) n1) n2) fun d2 T1 n3 l1 => fN (lowN nx l1) fun l2 =>
 zstore 5 T1 (.ptr nx e1 0 0) d2 fun r1 T2 => fN (lowN l2 r1) fun l3 =>
 bnd (zload (some 5) T2 (.ptr nx e1 0 0)) fun d3 =>
 bndR (F100 [d3] T2 n3) fun d4 T3 n4 l4 => fN (lowN l3 l4) fun l5 =>
 bnd (zun .not d4) fun d5 =>
 cnd d5 (
  bnd (zload (some 5) T3 (.ptr nx e1 0 0)) fun d6 =>
  zstore 5 T3 (.ptr n1 5 0 0) d6 fun r2 T4 => fN (lowN l5 r2) fun l6 =>
 bnd (zres (some 5) T4 (.ptr n1 5 0 0)) fun d7 =>
 finK T nx (.tup [d7, (.v (.int .i64 (.ofNat 0)))]) T4 n4 l6
 ) (
 jn (fun v1 T5 n5 l7 => unc v1 fun d8 w1 => unc w1 fun d9 w2 => unc w2 fun d10 w3 =>
  jn (fun v2 T6 n6 l8 => unc v2 fun d11 w4 => unc w4 fun d12 w5 => unc w5 fun d13 w6 =>
   bnd (zload (some 5) T6 d11) fun d14 =>
   zstore 5 T6 d12 d14 fun r3 T7 => fN (lowN l8 r3) fun l9 =>
 bnd (zres (some 5) T7 d12) fun d15 =>
 finK T nx (.tup [d15, d13]) T7 n6 l9) fun K1 =>
  lpc fu (fun go1 v3 T8 n7 l10 => unc v3 fun d16 w7 => unc w7 fun d17 w8 => unc w8 fun d18 w9 => unc w9 fun d19 w10 =>
   cnd d19 (
   bnd (zfieldAddr 4 d16) fun d20 =>
   bnd (zload none T8 d20) fun d21 =>
   bnd (zlen true d21) fun d22 =>
   lpc fu (fun go2 v4 T9 n8 l11 => unc v4 fun d23 w11 => unc w11 fun d24 w12 => unc w12 fun d25 w13 => unc w13 fun d26 w14 => unc w14 fun d27 w15 => unc w15 fun d28 w16 =>
    bnd (zbin .i .lss d28 d27) fun d29 =>
    cnd d29 (
    bnd (zload (some 5) T9 d23) fun d30 =>
    bndR (F218 [d30, d28] T9 n8) fun d31 T10 n9 l12 => fN (lowN l11 l12) fun l13 =>
    bnd (zextract d31 0) fun d32 =>
    bnd (zextract d31 1) fun d33 =>
    bnd (zbin .i .add d25 d32) fun d34 =>
    opG.gjn (fun k1 => zgd d33 false (
     k1 [] [] d26 T10 n9 l13
    ) (k1 [] [] (.v undef) T10 n9 l13)) fun _ _ d35 T11 n10 l14 =>
    bnd (zpick d33 (.v (.bool true)) d35) fun d36 =>
    bnd (zbin .i .add d28 (.v (.int .i64 (.ofNat 1)))) fun d37 =>
   go2 [d23, d24, d34, d36, d27, d37] T11 n10 l14
    ) (
  go1 [d23, d24, d25, d26] T9 n8 l11
    )) [d16, d17, d18, (.v (.bool false)), d22, (.v (.int .i64 (.ofNat 0)))] T8 n7 l10
   ) (
  K1 [d16, d17, d18] T8 n7 l10
   )) [d8, d9, d10, (.v (.bool true))] T5 n5 l7) fun K2 =>
 bnd (zlen true a1) fun d38 =>
 lpc fu (fun go3 v5 T12 n11 l15 => unc v5 fun d39 w17 => unc w17 fun d40 w18 => unc w18 fun d41 w19 => unc w19 fun d42 w20 => unc w20 fun d43 w21 => unc w21 fun d44 w22 =>
  bnd (zbin .i .lss d44 d43) fun d45 =>
  cnd d45 (
  jn (fun v6 T13 n12 l16 => unc v6 fun d46 w23 => unc w23 fun d47 w24 => unc w24 fun d48 w25 => unc w25 fun d49 w26 => unc w26 fun d50 w27 => unc w27 fun d51 w28 =>
   bnd (zbin .i .add d51 (.v (.int .i64 (.ofNat 1)))) fun d52 =>
 go3 [d46, d47, d48, d49, d50, d52] T13 n12 l16) fun K3 =>
  bnd (zindexAddr (.sl 1) d42 d44) fun d53 =>
  bnd (zload none T12 d53) fun d54 =>
  bnd (zload (some 5) T12 d39) fun d55 =>
  bndR (F217 [d55, d54] T12 n11) fun d56 T14 n13 l17 => fN (lowN l15 l17) fun l18 =>
  cnd d56 (
   bnd (zbin .i .add d41 (.v (.int .i64 (.ofNat 1)))) fun d57 =>
  K3 [d39, d40, d57, d42, d43, d44] T14 n13 l18
  ) (
  K3 [d39, d40, d41, d42, d43, d44] T14 n13 l18
  )
  ) (
 K2 [d39, d40, d41] T12 n11 l15
  )) [(.ptr nx e1 0 0), (.ptr n1 5 0 0), (.v (.int .i64 (.ofNat 0))), a1, d38, (.v (.int .i64 (.ofNat 0)))] T3 n4 l5
 )
theorem e158 (fu : Nat) (a0 a1 : D) (T : ST) (nx : Nat) : fnK Tryz.prog [(162, F162), (100, F100), (218, F218), (217, F217)] dr0 fu Tryz.f158 (.s .o (.s .o (.s (.s .o (.c (.s .o .o) .o)) (.s .o (.j [2, 4, 6] (.s .o (.b (.l [2, 4, 6, 19, 20, 21] (.s .o (.s (.c .o .o) (.j [2, 4, 6, 19, 20, 21] (.b (.s .o (.s .o (.c .o .o)))) .o)))))) (.j [2, 4, 6] (.s .o (.b (.l [2, 4, 6, 9] (.s (.s .o (.c .o .o)) (.b (.s .o (.s .o (.b (.l [2, 4, 6, 9, 34, 35] (.s .o (.s (.c .o .o) (.s (.b (.s .o (.s .o (.s .o .o)))) .o)))))))))))) (.s .o .o))))))) [a0, a1] T nx = s158 fu a0 a1 T nx := by kernel_rfl
noncomputable def F158 : Sem := ar2 (s158 FU)
theorem k158 : FnOk Tryz.prog 158 F158 := ar2_ok (fnK_ok (by kernel_rfl) (CallsOk.cons h162 k162 (CallsOk.cons h100 k100 (CallsOk.cons h218 k218 (CallsOk.cons h217 k217 CallsOk.nil)))) dr0_ok) (e158 FU)
/- reeve/take.Do -/
theorem h105 : HasFn Tryz.prog 105 := ⟨by kernel_rfl⟩
noncomputable def s105 (a0 a1 a2 : D) : ST → Nat → Option Rt := fun T nx =>
 bB (solidB a0) <| fN (Nat.succ nx) fun n1 => fN (dcells a0).length fun e1 =>
 bB (solidB a2) <| fN (Nat.succ n1) fun n2 => fN (dcells a2).length fun e2 =>
 fN (Nat.succ n2) fun n3 =>
 fN (Nat.succ n3) fun n4 =>
 bnd (zload (some 6) (Tr.set (some (XO.mk 66 3 1 (.n [(.v (.int .i64 (.ofNat 0))), (.v (.int .u64 (.ofNat 0))), (.v (.int .i64 (.ofNat 0)))] .e .e))) (Tr.set (some (XO.mk 32 5 1 (.n [(.v (.int .i64 (.ofNat 0))), (.v (.int .i64 (.ofNat 0))), (.v (.int .i64 (.ofNat 0))), .e0, .e0] .e .e))) (Tr.set (some (xRow 82 (dcells a2))) (Tr.set (some (xRow 32 (dcells a0))) T nx) n1) n2) n3) (.ptr n1 e2 0 0)) fun d1 =>
 bndR (F101 [d1] (Tr.set (some (XO.mk 66 3 1 (.n [(.v (.int .i64 (.ofNat 0))), (.v (.int .u64 (.ofNat 0))), (.v (.int .i64 (.ofNat 0)))] .e .e))) (Tr.set (some (XO.mk 32 5 1 (.n [(.v (.int .i64 (.ofNat 0))), (.v (.int .i64 (.ofNat 0))), (.v (.int .i64 (.ofNat 0))), .e0, .e0] .e .e))) (Tr.set (some (xRow 82 (dcells a2))) (Tr.set (some (xRow 32 (dcells a0))) T nx) n1) n2) n3) n4) fun d2 T1 n5 l1 => fN (lowN nx l1) fun l2 =>
 bnd (zun .not d2) fun d3 =>
 opG.gjn (fun k1 => zgd d3 false (
  bnd (zfieldAddr 0 (.ptr n1 e2 0 0)) fun d4 =>
  k1 [] [] d4 T1 n5 l2
 ) (k1 [] [] (.v undef) T1 n5 l2)) fun _ _ d5 T2 n6 l3 =>
 opG.gjn (fun k2 => zgd d3 false (
  bnd (zload none T2 d5) fun d6 =>
  k2 (ptr? d5) [] d6 T2 n6 l3
 ) (k2 [] [] (.v undef) T2 n6 l3)) fun _ _ d7 T3 n7 l4 =>
 opG.gjn (fun k3 => zgd d3 false (
  bnd (zbin .i .neq d7 (.v (.int .i64 (.ofNat 5)))) fun d8 =>
  k3 [] [] d8 T3 n7 l4
 ) (k3 [] [] (.v undef) T3 n7 l4)) fun _ _ d9 T4 n8 l5 =>
 opG.gjn (fun k4 => zgd d3 false (
  k4 [] [] d9 T4 n8 l5
 ) (k4 [] [] (.v undef) T4 n8 l5)) fun _ _ d10 T5 n9 l6 =>
 opG.gjn (fun k5 => zgd d10 true (
  bnd (zfieldAddr 0 (.ptr n1 e2 0 0)) fun d11 =>
  k5 [] [] d11 T5 n9 l6
 ) (k5 [] [] (.v undef) T5 n9 l6)) fun _ _ d12 T6 n10 l7 =>
 opG.gjn (fun k6 => zgd d10 true (
  bnd (zload none T6 d12) fun d13 =>
  k6 (ptr? d12) [] d13 T6 n10 l7
 ) (k6 [] [] (.v undef) T6 n10 l7)) fun _ _ d14 T7 n11 l8 =>
 opG.gjn (fun k7 => zgd d10 true (
  bnd (zbin .i .neq d14 (.v (.int .i64 (.ofNat 6)))) fun d15 =>
  k7 [] [] d15 T7 n11 l8
 ) (k7 [] [] (.v undef) T7 n11 l8)) fun _ _ d16 T8 n12 l9 =>
 opG.gjn (fun k8 => zgd d3 false (
  bnd (zpick d10 d16 (.v (.bool false))) fun d17 =>
  k8 [] [] d17 T8 n12 l9
 ) (k8 [] [] (.v undef) T8 n12 l9)) fun _ _ d18 T9 n13 l10 =>
 bnd (zpick d3 (.v (.bool true)) d18) fun d19 =>
 cnd d19 (
  bnd (zload (some 5) T9 (.ptr nx e1 0 0)) fun d20 =>
  bnd (zbuild [(.int .i64 (.ofNat 0)), (.int .u64 (.ofNat 0)), (.int .i64 (.ofNat 0))] [(0, 1), (1, 1), (2, 1)] [0] [(.v (.int .i64 (.ofNat 1)))]) fun d21 =>
  zstore 5 T9 (.ptr n2 5 0 0) d20 fun r1 T10 => fN (lowN l10 r1) fun l11 =>
  zstore 3 T10 (.ptr n3 3 0 0) d21 fun r2 T11 => fN (lowN l11 r2) fun l12 =>
 bnd (zres (some 5) T11 (.ptr n2 5 0 0)) fun d22 =>
 bnd (zres (some 3) T11 (.ptr n3 3 0 0)) fun d23 =>
 finK T nx (.tup [d22, d23]) T11 n13 l12
 ) (
 bnd (zload (some 5) T9 (.ptr nx e1 0 0)) fun d24 =>
 bnd (zfieldAddr 1 (.ptr n1 e2 0 0)) fun d25 =>
 bnd (zload (some 1) T9 d25) fun d26 =>
 bndR (F156 [d24, a1, d26] T9 n13) fun d27 T12 n14 l13 => fN (lowN l10 l13) fun l14 =>
 bnd (zextract d27 0) fun d28 =>
 bnd (zextract d27 1) fun d29 =>
 bnd (zextract d27 2) fun d30 =>
 fN (Nat.succ n14) fun n15 =>
 zstore 4 (Tr.set (some (XO.mk 111 4 1 (.n [(.v (.int .i64 (.ofNat 0))), (.v (.int .i64 (.ofNat 0))), (.v (.int .i64 (.ofNat 0))), (.v (.int .i64 (.ofNat 0)))] .e .e))) T12 n14) (.ptr n14 4 0 0) d29 fun r3 T13 => fN (lowN l14 r3) fun l15 =>
 bnd (zbin .i .neq d30 (.v (.int .i64 (.ofNat 0)))) fun d31 =>
 cnd d31 (
  bnd (zload (some 5) T13 (.ptr nx e1 0 0)) fun d32 =>
  bnd (zbuild [(.int .i64 (.ofNat 0)), (.int .u64 (.ofNat 0)), (.int .i64 (.ofNat 0))] [(0, 1), (1, 1), (2, 1)] [0] [d30]) fun d33 =>
  zstore 5 T13 (.ptr n2 5 0 0) d32 fun r4 T14 => fN (lowN l15 r4) fun l16 =>
  zstore 3 T14 (.ptr n3 3 0 0) d33 fun r5 T15 => fN (lowN l16 r5) fun l17 =>
 bnd (zres (some 5) T15 (.ptr n2 5 0 0)) fun d34 =>
 bnd (zres (some 3) T15 (.ptr n3 3 0 0)) fun d35 =>
 finK T nx (.tup [d34, d35]) T15 n15 l17
 ) (
 bB (solidL 1 [d28]) <| fN (Nat.succ n15) fun n16 =>
 jn (fun v1 T16 n17 l18 => unc v1 fun d36 w1 => unc w1 fun d37 w2 => unc w2 fun d38 w3 => unc w3 fun d39 w4 =>
  bnd (zload (some 5) T16 d36) fun d40 =>
  bndR (F158 [d40, d39] T16 n17) fun d41 T17 n18 l19 => fN (lowN l18 l19) fun l20 =>
  bnd (zextract d41 0) fun d42 =>
  bnd (zextract d41 1) fun d43 =>
  zstore 5 T17 d36 d42 fun r6 T18 => fN (lowN l20 r6) fun l21 =>
  bnd (zload (some 5) T18 d36) fun d44 =>
  bnd (zbuild [(.int .i64 (.ofNat 0)), (.int .u64 (.ofNat 0)), (.int .i64 (.ofNat 0))] [(0, 1), (1, 1), (2, 1)] [2] [d43]) fun d45 =>
  zstore 5 T18 d37 d44 fun r7 T19 => fN (lowN l21 r7) fun l22 =>
  zstore 3 T19 d38 d45 fun r8 T20 => fN (lowN l22 r8) fun l23 =>
 bnd (zres (some 5) T20 d37) fun d46 =>
 bnd (zres (some 3) T20 d38) fun d47 =>
 finK T nx (.tup [d46, d47]) T20 n18 l23) fun K1 =>
 bnd (zfieldAddr 0 (.ptr n1 e2 0 0)) fun d48 =>
 bnd (zload none (Tr.set (some (xRows 3 1 [dcells d28])) T13 n15) d48) fun d49 =>
 bnd (zbin .i .eql d49 (.v (.int .i64 (.ofNat 6)))) fun d50 =>
 cnd d50 (
  bnd (zload (some 5) (Tr.set (some (xRows 3 1 [dcells d28])) T13 n15) (.ptr nx e1 0 0)) fun d51 =>
  bndR (F147 [d51] (Tr.set (some (xRows 3 1 [dcells d28])) T13 n15) n16) fun d52 T21 n19 l24 => fN (lowN l15 l24) fun l25 =>
  bndR (F157 [d52, d28] T21 n19) fun d53 T22 n20 l26 => fN (lowN l25 l26) fun l27 =>
 K1 [(.ptr nx e1 0 0), (.ptr n2 5 0 0), (.ptr n3 3 0 0), d53] T22 n20 l27
 ) (
 K1 [(.ptr nx e1 0 0), (.ptr n2 5 0 0), (.ptr n3 3 0 0), (.vw n15 1 0 1)] (Tr.set (some (xRows 3 1 [dcells d28])) T13 n15) n16 l15
 )
 )
 )
theorem e105 (a0 a1 a2 : D) (T : ST) (nx : Nat) : fnK Tryz.prog [(101, F101), (156, F156), (158, F158), (147, F147), (157, F157)] dr0 FU Tryz.f105 (.s .o (.s (.s .o (.c (.s .o .o) .o)) (.s .o (.s (.s .o (.c (.s .o .o) .o)) (.s .o (.j [3, 6, 7, 11] (.s .o (.c .o .o)) (.s .o (.s .o .o)))))))) [a0, a1, a2] T nx = s105 a0 a1 a2 T nx := by kernel_rfl
noncomputable def F105 : Sem := ar3 s105
theorem k105 : FnOk Tryz.prog 105 F105 := ar3_ok (fnK_ok (by kernel_rfl) (CallsOk.cons h101 k101 (CallsOk.cons h156 k156 (CallsOk.cons h158 k158 (CallsOk.cons h147 k147 (CallsOk.cons h157 k157 CallsOk.nil))))) dr0_ok) e105
end Go.Abs
