/- Functions of the program as what they run as, printed by a program of this session. -/
import Derived.Test.YtmmfmiamkgmikaaGreatK11
set_option linter.unusedVariables false
set_option maxRecDepth 100000
open Go Go.Proofs
namespace Go.Abs
/- reeve/rule.Do -/
theorem h55 : HasFn Tryz.prog 55 := ⟨by kernel_rfl⟩
noncomputable def s55 (a0 a1 a2 : D) : ST → Nat → Option Rt := fun T nx =>
 bB (solidB a0) <| fN (Nat.succ nx) fun n1 => fN (dcells a0).length fun e1 =>
 bB (solidB a2) <| fN (Nat.succ n1) fun n2 => fN (dcells a2).length fun e2 =>
 fN (Nat.succ n2) fun n3 =>
 fN (Nat.succ n3) fun n4 =>
 bnd (zload (some 5) (Tr.set (some (XO.mk 66 3 1 (.n [(.v (.int .i64 (.ofNat 0))), (.v (.int .u64 (.ofNat 0))), (.v (.int .i64 (.ofNat 0)))] .e .e))) (Tr.set (some (XO.mk 32 5 1 (.n [(.v (.int .i64 (.ofNat 0))), (.v (.int .i64 (.ofNat 0))), (.v (.int .i64 (.ofNat 0))), .e0, .e0] .e .e))) (Tr.set (some (xRow 82 (dcells a2))) (Tr.set (some (xRow 32 (dcells a0))) T nx) n1) n2) n3) (.ptr nx e1 0 0)) fun d1 =>
 bndR (F100 [d1] (Tr.set (some (XO.mk 66 3 1 (.n [(.v (.int .i64 (.ofNat 0))), (.v (.int .u64 (.ofNat 0))), (.v (.int .i64 (.ofNat 0)))] .e .e))) (Tr.set (some (XO.mk 32 5 1 (.n [(.v (.int .i64 (.ofNat 0))), (.v (.int .i64 (.ofNat 0))), (.v (.int .i64 (.ofNat 0))), .e0, .e0] .e .e))) (Tr.set (some (xRow 82 (dcells a2))) (Tr.set (some (xRow 32 (dcells a0))) T nx) n1) n2) n3) n4) fun d2 T1 n5 l1 => fN (lowN nx l1) fun l2 =>
 bnd (zun .not d2) fun d3 =>
 opG.gjn (fun k1 => zgd d3 false (
  bnd (zload (some 6) T1 (.ptr n1 e2 0 0)) fun d4 =>
  k1 (ptr? (.ptr n1 e2 0 0)) [] d4 T1 n5 l2
 ) (k1 [] [] (.v undef) T1 n5 l2)) fun _ _ d5 T2 n6 l3 =>
 opG.gjn (fun k2 => zgd d3 false (
  bndR (F101 [d5] T2 n6) fun d6 T3 n7 l4 => fN (lowN l3 l4) fun l5 =>
  k2 [] [] d6 T3 n7 l5
 ) (k2 [] [] (.v undef) T2 n6 l3)) fun _ _ d7 T4 n8 l6 =>
 opG.gjn (fun k3 => zgd d3 false (
  bnd (zun .not d7) fun d8 =>
  k3 [] [] d8 T4 n8 l6
 ) (k3 [] [] (.v undef) T4 n8 l6)) fun _ _ d9 T5 n9 l7 =>
 bnd (zpick d3 (.v (.bool true)) d9) fun d10 =>
 opG.gjn (fun k4 => zgd d10 false (
  bnd (zload (some 5) T5 (.ptr nx e1 0 0)) fun d11 =>
  k4 (ptr? (.ptr nx e1 0 0)) [] d11 T5 n9 l7
 ) (k4 [] [] (.v undef) T5 n9 l7)) fun _ _ d12 T6 n10 l8 =>
 opG.gjn (fun k5 => zgd d10 false (
  k5 [] [] a1 T6 n10 l8
 ) (k5 [] [] (.v undef) T6 n10 l8)) fun _ _ d13 T7 n11 l9 =>
 opG.gjn (fun k6 => zgd d10 false (
  bndR (F102 [d12, d13] T7 n11) fun d14 T8 n12 l10 => fN (lowN l9 l10) fun l11 =>
  k6 [] [] d14 T8 n12 l11
 ) (k6 [] [] (.v undef) T7 n11 l9)) fun _ _ d15 T9 n13 l12 =>
 opG.gjn (fun k7 => zgd d10 false (
  bnd (zun .not d15) fun d16 =>
  k7 [] [] d16 T9 n13 l12
 ) (k7 [] [] (.v undef) T9 n13 l12)) fun _ _ d17 T10 n14 l13 =>
 bnd (zpick d10 (.v (.bool true)) d17) fun d18 =>
 cnd d18 (
  bnd (zload (some 5) T10 (.ptr nx e1 0 0)) fun d19 =>
  bnd (zbuild [(.int .i64 (.ofNat 0)), (.int .u64 (.ofNat 0)), (.int .i64 (.ofNat 0))] [(0, 1), (1, 1), (2, 1)] [0] [(.v (.int .i64 (.ofNat 1)))]) fun d20 =>
  zstore 5 T10 (.ptr n2 5 0 0) d19 fun r1 T11 => fN (lowN l13 r1) fun l14 =>
  zstore 3 T11 (.ptr n3 3 0 0) d20 fun r2 T12 => fN (lowN l14 r2) fun l15 =>
 bnd (zres (some 5) T12 (.ptr n2 5 0 0)) fun d21 =>
 bnd (zres (some 3) T12 (.ptr n3 3 0 0)) fun d22 =>
 finK T nx (.tup [d21, d22]) T12 n14 l15
 ) (
 bnd (zfieldAddr 0 (.ptr n1 e2 0 0)) fun d23 =>
 bnd (zload none T10 d23) fun d24 =>
 bnd (zbin .i .eql d24 (.v (.int .i64 (.ofNat 1)))) fun d25 =>
 cnd d25 (
  bnd (zload (some 5) T10 (.ptr nx e1 0 0)) fun d26 =>
  bnd (zload (some 6) T10 (.ptr n1 e2 0 0)) fun d27 =>
  bndR (F103 [d26, a1, d27] T10 n14) fun d28 T13 n15 l16 => fN (lowN l13 l16) fun l17 =>
  bnd (zextract d28 0) fun d29 =>
  bnd (zextract d28 1) fun d30 =>
  zstore 5 T13 (.ptr n2 5 0 0) d29 fun r3 T14 => fN (lowN l17 r3) fun l18 =>
  zstore 3 T14 (.ptr n3 3 0 0) d30 fun r4 T15 => fN (lowN l18 r4) fun l19 =>
 bnd (zres (some 5) T15 (.ptr n2 5 0 0)) fun d31 =>
 bnd (zres (some 3) T15 (.ptr n3 3 0 0)) fun d32 =>
 finK T nx (.tup [d31, d32]) T15 n15 l19
 ) (
  jn (fun v1 T16 n16 l20 => unc v1 fun d33 w1 => unc w1 fun d34 w2 => unc w2 fun d35 w3 => unc w3 fun d36 w4 => unc w4 fun d37 w5 => unc w5 fun d38 w6 => unc w6 fun d39 w7 =>
   cnd d39 (
    bnd (zload (some 5) T16 d34) fun d40 =>
    bnd (zload (some 6) T16 d35) fun d41 =>
    bndR (F104 [d40, d33, d41] T16 n16) fun d42 T17 n17 l21 => fN (lowN l20 l21) fun l22 =>
    bnd (zextract d42 0) fun d43 =>
    bnd (zextract d42 1) fun d44 =>
    zstore 5 T17 d36 d43 fun r5 T18 => fN (lowN l22 r5) fun l23 =>
    zstore 3 T18 d37 d44 fun r6 T19 => fN (lowN l23 r6) fun l24 =>
 bnd (zres (some 5) T19 d36) fun d45 =>
 bnd (zres (some 3) T19 d37) fun d46 =>
 finK T nx (.tup [d45, d46]) T19 n17 l24
   ) (
    jn (fun v2 T20 n18 l25 => unc v2 fun d47 w8 => unc w8 fun d48 w9 => unc w9 fun d49 w10 => unc w10 fun d50 w11 => unc w11 fun d51 w12 => unc w12 fun d52 w13 => unc w13 fun d53 w14 =>
     cnd d53 (
      bnd (zload (some 5) T20 d48) fun d54 =>
      bnd (zload (some 6) T20 d49) fun d55 =>
      bndR (F105 [d54, d47, d55] T20 n18) fun d56 T21 n19 l26 => fN (lowN l25 l26) fun l27 =>
      bnd (zextract d56 0) fun d57 =>
      bnd (zextract d56 1) fun d58 =>
      zstore 5 T21 d50 d57 fun r7 T22 => fN (lowN l27 r7) fun l28 =>
      zstore 3 T22 d51 d58 fun r8 T23 => fN (lowN l28 r8) fun l29 =>
 bnd (zres (some 5) T23 d50) fun d59 =>
 bnd (zres (some 3) T23 d51) fun d60 =>
 finK T nx (.tup [d59, d60]) T23 n19 l29
     ) (
      jn (fun v3 T24 n20 l30 => unc v3 fun d61 w15 => unc w15 fun d62 w16 => unc w16 fun d63 w17 => unc w17 fun d64 w18 => unc w18 fun d65 w19 => unc w19 fun d66 w20 => unc w20 fun d67 w21 =>
       cnd d67 (
        bnd (zload (some 5) T24 d62) fun d68 =>
        bnd (zload (some 6) T24 d63) fun d69 =>
        bndR (F106 [d68, d61, d69] T24 n20) fun d70 T25 n21 l31 => fN (lowN l30 l31) fun l32 =>
        bnd (zextract d70 0) fun d71 =>
        bnd (zextract d70 1) fun d72 =>
        zstore 5 T25 d64 d71 fun r9 T26 => fN (lowN l32 r9) fun l33 =>
        zstore 3 T26 d65 d72 fun r10 T27 => fN (lowN l33 r10) fun l34 =>
 bnd (zres (some 5) T27 d64) fun d73 =>
 bnd (zres (some 3) T27 d65) fun d74 =>
 finK T nx (.tup [d73, d74]) T27 n21 l34
       ) (
        jn (fun v4 T28 n22 l35 => unc v4 fun d75 w22 => unc w22 fun d76 w23 => unc w23 fun d77 w24 => unc w24 fun d78 w25 => unc w25 fun d79 w26 => unc w26 fun d80 w27 =>
         cnd d80 (
          bnd (zload (some 5) T28 d76) fun d81 =>
          bnd (zload (some 6) T28 d77) fun d82 =>
          bndR (F107 [d81, d75, d82] T28 n22) fun d83 T29 n23 l36 => fN (lowN l35 l36) fun l37 =>
          bnd (zextract d83 0) fun d84 =>
          bnd (zextract d83 1) fun d85 =>
          zstore 5 T29 d78 d84 fun r11 T30 => fN (lowN l37 r11) fun l38 =>
          zstore 3 T30 d79 d85 fun r12 T31 => fN (lowN l38 r12) fun l39 =>
 bnd (zres (some 5) T31 d78) fun d86 =>
 bnd (zres (some 3) T31 d79) fun d87 =>
 finK T nx (.tup [d86, d87]) T31 n23 l39
         ) (
 bnd (zload (some 5) T28 d76) fun d88 =>
 bnd (zload (some 6) T28 d77) fun d89 =>
 bndR (F108 [d88, d75, d89] T28 n22) fun d90 T32 n24 l40 => fN (lowN l35 l40) fun l41 =>
 bnd (zextract d90 0) fun d91 =>
 bnd (zextract d90 1) fun d92 =>
 zstore 5 T32 d78 d91 fun r13 T33 => fN (lowN l41 r13) fun l42 =>
 zstore 3 T33 d79 d92 fun r14 T34 => fN (lowN l42 r14) fun l43 =>
 bnd (zres (some 5) T34 d78) fun d93 =>
 bnd (zres (some 3) T34 d79) fun d94 =>
 finK T nx (.tup [d93, d94]) T34 n24 l43
         )) fun K1 =>
        bnd (zbin .i .eql d66 (.v (.int .i64 (.ofNat 9)))) fun d95 =>
        cnd d95 (
        K1 [d61, d62, d63, d64, d65, d95] T24 n20 l30
        ) (
         bnd (zbin .i .eql d66 (.v (.int .i64 (.ofNat 10)))) fun d96 =>
        K1 [d61, d62, d63, d64, d65, d96] T24 n20 l30
        )
       )) fun K2 =>
      bnd (zbin .i .eql d52 (.v (.int .i64 (.ofNat 7)))) fun d97 =>
      cnd d97 (
      K2 [d47, d48, d49, d50, d51, d52, d97] T20 n18 l25
      ) (
       bnd (zbin .i .eql d52 (.v (.int .i64 (.ofNat 8)))) fun d98 =>
      K2 [d47, d48, d49, d50, d51, d52, d98] T20 n18 l25
      )
     )) fun K3 =>
    bnd (zbin .i .eql d38 (.v (.int .i64 (.ofNat 5)))) fun d99 =>
    cnd d99 (
    K3 [d33, d34, d35, d36, d37, d38, d99] T16 n16 l20
    ) (
     bnd (zbin .i .eql d38 (.v (.int .i64 (.ofNat 6)))) fun d100 =>
    K3 [d33, d34, d35, d36, d37, d38, d100] T16 n16 l20
    )
   )) fun K4 =>
  bnd (zbin .i .eql d24 (.v (.int .i64 (.ofNat 2)))) fun d101 =>
  cnd d101 (
  K4 [a1, (.ptr nx e1 0 0), (.ptr n1 e2 0 0), (.ptr n2 5 0 0), (.ptr n3 3 0 0), d24, d101] T10 n14 l13
  ) (
   bnd (zbin .i .eql d24 (.v (.int .i64 (.ofNat 3)))) fun d102 =>
   cnd d102 (
  K4 [a1, (.ptr nx e1 0 0), (.ptr n1 e2 0 0), (.ptr n2 5 0 0), (.ptr n3 3 0 0), d24, d102] T10 n14 l13
   ) (
    bnd (zbin .i .eql d24 (.v (.int .i64 (.ofNat 4)))) fun d103 =>
  K4 [a1, (.ptr nx e1 0 0), (.ptr n1 e2 0 0), (.ptr n2 5 0 0), (.ptr n3 3 0 0), d24, d103] T10 n14 l13
   )
  )
 )
 )
theorem e55 (a0 a1 a2 : D) (T : ST) (nx : Nat) : fnK Tryz.prog [(100, F100), (101, F101), (102, F102), (103, F103), (104, F104), (105, F105), (106, F106), (107, F107), (108, F108)] dr0 FU Tryz.f55 (.s .o (.s (.s .o (.c (.s .o .o) .o)) (.s (.s .o (.b (.s .o (.c (.s .o .o) (.j [1, 3, 5, 6, 7, 25, 34] (.s .o (.c .o (.s .o (.c .o .o)))) (.c (.s .o .o) (.j [1, 3, 5, 6, 7, 25, 44] (.s .o (.c .o .o)) (.c (.s .o .o) (.j [1, 3, 5, 6, 7, 25, 53] (.s .o (.c .o .o)) (.c (.s .o .o) (.j [1, 3, 5, 6, 7, 62] (.s .o (.c .o .o)) (.c (.s .o .o) .o)))))))))))) (.s .o .o)))) [a0, a1, a2] T nx = s55 a0 a1 a2 T nx := by kernel_rfl
noncomputable def F55 : Sem := ar3 s55
theorem k55 : FnOk Tryz.prog 55 F55 := ar3_ok (fnK_ok (by kernel_rfl) (CallsOk.cons h100 k100 (CallsOk.cons h101 k101 (CallsOk.cons h102 k102 (CallsOk.cons h103 k103 (CallsOk.cons h104 k104 (CallsOk.cons h105 k105 (CallsOk.cons h106 k106 (CallsOk.cons h107 k107 (CallsOk.cons h108 k108 CallsOk.nil))))))))) dr0_ok) e55
/- reeve/reevelaw23.awake -/
theorem h7 : HasFn Tryz.prog 7 := ⟨by kernel_rfl⟩
noncomputable def s7 : ST → Nat → Option Rt := fun T nx =>
 bndR (F9 [] T nx) fun d1 T1 n1 l1 => fN (lowN nx l1) fun l2 =>
 bndR (F9 [] T1 n1) fun d2 T2 n2 l3 => fN (lowN l2 l3) fun l4 =>
 bndR (F8 [d1, d2] T2 n2) fun d3 T3 n3 l5 => fN (lowN l4 l5) fun l6 =>
 bnd (zextract d3 0) fun d4 =>
 bnd (zextract d3 1) fun d5 =>
 bndR (F9 [] T3 n3) fun d6 T4 n4 l7 => fN (lowN l6 l7) fun l8 =>
 bB (solidL 1 [(.v (.int .i64 (.ofNat 0)))]) <| fN (Nat.succ n4) fun n5 =>
 bnd (zbuild [(.slice none 0 0)] [(0, 1)] [0] [(.vw n4 1 0 1)]) fun d7 =>
 bB (solidL 1 [(.v (.int .i64 (.ofNat 2)))]) <| fN (Nat.succ n5) fun n6 =>
 bnd (zbuild [(.slice none 0 0)] [(0, 1)] [0] [(.vw n5 1 0 1)]) fun d8 =>
 bnd (zbuild [(.int .i64 (.ofNat 0)), (.slice none 0 0), (.slice none 0 0), (.int .i64 (.ofNat 0)), (.int .i64 (.ofNat 0)), (.int .u64 (.ofNat 0))] [(0, 1), (1, 1), (2, 1), (3, 1), (4, 1), (5, 1)] [0, 1, 2] [(.v (.int .i64 (.ofNat 4))), d7, d8]) fun d9 =>
 bndR (F55 [d6, (.v (.int .i64 (.ofNat 0))), d9] (Tr.set (some (xRows 3 1 [dcells (.v (.int .i64 (.ofNat 2)))])) (Tr.set (some (xRows 3 1 [dcells (.v (.int .i64 (.ofNat 0)))])) T4 n4) n5) n6) fun d10 T5 n7 l9 => fN (lowN l8 l9) fun l10 =>
 bnd (zextract d10 0) fun d11 =>
 bnd (zextract d10 1) fun d12 =>
 fN (Nat.succ n7) fun n8 =>
 fN (Nat.succ n8) fun n9 =>
 zstore 5 (Tr.set (some (XO.mk 66 3 1 (.n [(.v (.int .i64 (.ofNat 0))), (.v (.int .u64 (.ofNat 0))), (.v (.int .i64 (.ofNat 0)))] .e .e))) (Tr.set (some (XO.mk 32 5 1 (.n [(.v (.int .i64 (.ofNat 0))), (.v (.int .i64 (.ofNat 0))), (.v (.int .i64 (.ofNat 0))), .e0, .e0] .e .e))) T5 n7) n8) (.ptr n7 5 0 0) d11 fun r1 T6 => fN (lowN l10 r1) fun l11 =>
 zstore 3 T6 (.ptr n8 3 0 0) d12 fun r2 T7 => fN (lowN l11 r2) fun l12 =>
 bndR (F9 [] T7 n9) fun d13 T8 n10 l13 => fN (lowN n9 l13) fun l14 => bB (Nat.beq l14 n9) <|
 bnd (zload (some 5) T8 (.ptr n7 5 0 0)) fun d14 =>
 bndR (F8 [d13, d14] T8 n10) fun d15 T9 n11 l15 => fN (lowN n10 l15) fun l16 => bB (Nat.beq l16 n10) <|
 bnd (zextract d15 0) fun d16 =>
 bnd (zextract d15 1) fun d17 =>
 bB (apt (.call n9 n10) (.op (ptr? (.ptr n7 5 0 0)) [])) <|
 bnd (zbin .i .eql d5 (.v (.int .i64 (.ofNat 0)))) fun d18 =>
 opG.gjn (fun k1 => zgd d18 true (
  k1 [] [] d4 T9 n11 l12
 ) (k1 [] [] (.v undef) T9 n11 l12)) fun _ _ d19 T10 n12 l17 =>
 opG.gjn (fun k2 => zgd d18 true (
  bnd (zlen true d19) fun d20 =>
  k2 [] [] d20 T10 n12 l17
 ) (k2 [] [] (.v undef) T10 n12 l17)) fun _ _ d21 T11 n13 l18 =>
 opG.gjn (fun k3 => zgd d18 true (
  bnd (zbin .i .eql d21 (.v (.int .i64 (.ofNat 0)))) fun d22 =>
  k3 [] [] d22 T11 n13 l18
 ) (k3 [] [] (.v undef) T11 n13 l18)) fun _ _ d23 T12 n14 l19 =>
 bnd (zpick d18 d23 (.v (.bool false))) fun d24 =>
 opG.gjn (fun k4 => zgd d24 true (
  bnd (zfieldAddr 0 (.ptr n8 3 0 0)) fun d25 =>
  k4 [] [] d25 T12 n14 l19
 ) (k4 [] [] (.v undef) T12 n14 l19)) fun _ _ d26 T13 n15 l20 =>
 opG.gjn (fun k5 => zgd d24 true (
  bnd (zload none T13 d26) fun d27 =>
  k5 (ptr? d26) [] d27 T13 n15 l20
 ) (k5 [] [] (.v undef) T13 n15 l20)) fun _ _ d28 T14 n16 l21 =>
 opG.gjn (fun k6 => zgd d24 true (
  bnd (zbin .i .eql d28 (.v (.int .i64 (.ofNat 0)))) fun d29 =>
  k6 [] [] d29 T14 n16 l21
 ) (k6 [] [] (.v undef) T14 n16 l21)) fun _ _ d30 T15 n17 l22 =>
 bnd (zpick d24 d30 (.v (.bool false))) fun d31 =>
 opG.gjn (fun k7 => zgd d31 true (
  k7 [] [] d17 T15 n17 l22
 ) (k7 [] [] (.v undef) T15 n17 l22)) fun _ _ d32 T16 n18 l23 =>
 opG.gjn (fun k8 => zgd d31 true (
  bnd (zbin .i .eql d32 (.v (.int .i64 (.ofNat 0)))) fun d33 =>
  k8 [] [] d33 T16 n18 l23
 ) (k8 [] [] (.v undef) T16 n18 l23)) fun _ _ d34 T17 n19 l24 =>
 bnd (zpick d31 d34 (.v (.bool false))) fun d35 =>
 opG.gjn (fun k9 => zgd d35 true (
  k9 [] [] d16 T17 n19 l24
 ) (k9 [] [] (.v undef) T17 n19 l24)) fun _ _ d36 T18 n20 l25 =>
 opG.gjn (fun k10 => zgd d35 true (
  bnd (zlen true d36) fun d37 =>
  k10 [] [] d37 T18 n20 l25
 ) (k10 [] [] (.v undef) T18 n20 l25)) fun _ _ d38 T19 n21 l26 =>
 opG.gjn (fun k11 => zgd d35 true (
  bnd (zbin .i .eql d38 (.v (.int .i64 (.ofNat 2)))) fun d39 =>
  k11 [] [] d39 T19 n21 l26
 ) (k11 [] [] (.v undef) T19 n21 l26)) fun _ _ d40 T20 n22 l27 =>
 bnd (zpick d35 d40 (.v (.bool false))) fun d41 =>
 opG.gjn (fun k12 => zgd d41 true (
  k12 [] [] d16 T20 n22 l27
 ) (k12 [] [] (.v undef) T20 n22 l27)) fun _ _ d42 T21 n23 l28 =>
 opG.gjn (fun k13 => zgd d41 true (
  bnd (zindexAddr (.sl 2) d42 (.v (.int .i64 (.ofNat 0)))) fun d43 =>
  k13 [] [] d43 T21 n23 l28
 ) (k13 [] [] (.v undef) T21 n23 l28)) fun _ _ d44 T22 n24 l29 =>
 opG.gjn (fun k14 => zgd d41 true (
  bnd (zfieldAddr 0 d44) fun d45 =>
  k14 [] [] d45 T22 n24 l29
 ) (k14 [] [] (.v undef) T22 n24 l29)) fun _ _ d46 T23 n25 l30 =>
 opG.gjn (fun k15 => zgd d41 true (
  bnd (zload none T23 d46) fun d47 =>
  k15 (ptr? d46) [] d47 T23 n25 l30
 ) (k15 [] [] (.v undef) T23 n25 l30)) fun _ _ d48 T24 n26 l31 =>
 opG.gjn (fun k16 => zgd d41 true (
  bnd (zbin .i .eql d48 (.v (.int .i64 (.ofNat 2432)))) fun d49 =>
  k16 [] [] d49 T24 n26 l31
 ) (k16 [] [] (.v undef) T24 n26 l31)) fun _ _ d50 T25 n27 l32 =>
 bnd (zpick d41 d50 (.v (.bool false))) fun d51 =>
 opG.gjn (fun k17 => zgd d51 true (
  k17 [] [] d16 T25 n27 l32
 ) (k17 [] [] (.v undef) T25 n27 l32)) fun _ _ d52 T26 n28 l33 =>
 opG.gjn (fun k18 => zgd d51 true (
  bnd (zindexAddr (.sl 2) d52 (.v (.int .i64 (.ofNat 0)))) fun d53 =>
  k18 [] [] d53 T26 n28 l33
 ) (k18 [] [] (.v undef) T26 n28 l33)) fun _ _ d54 T27 n29 l34 =>
 opG.gjn (fun k19 => zgd d51 true (
  bnd (zfieldAddr 1 d54) fun d55 =>
  k19 [] [] d55 T27 n29 l34
 ) (k19 [] [] (.v undef) T27 n29 l34)) fun _ _ d56 T28 n30 l35 =>
 opG.gjn (fun k20 => zgd d51 true (
  bnd (zload none T28 d56) fun d57 =>
  k20 (ptr? d56) [] d57 T28 n30 l35
 ) (k20 [] [] (.v undef) T28 n30 l35)) fun _ _ d58 T29 n31 l36 =>
 opG.gjn (fun k21 => zgd d51 true (
  bnd (zbin .i .eql d58 (.v (.int .u64 (.ofNat 0)))) fun d59 =>
  k21 [] [] d59 T29 n31 l36
 ) (k21 [] [] (.v undef) T29 n31 l36)) fun _ _ d60 T30 n32 l37 =>
 bnd (zpick d51 d60 (.v (.bool false))) fun d61 =>
 finK T nx d61 T30 n32 l37
theorem e7 (T : ST) (nx : Nat) : fnK Tryz.prog [(9, F9), (8, F8), (55, F55)] (drD Tryz.prog [(9, F9), (8, F8), (55, F55)]) FU Tryz.f7 (.s .o (.s .o (.s .o (.s .o (.s .o .o))))) [] T nx = s7  T nx := by kernel_rfl
noncomputable def F7 : Sem := ar0 s7
theorem k7 : FnOk Tryz.prog 7 F7 := ar0_ok (fnK_ok (by kernel_rfl) (CallsOk.cons h9 k9 (CallsOk.cons h8 k8 (CallsOk.cons h55 k55 CallsOk.nil))) (drD_ok hmix (CallsOk.cons h9 k9 (CallsOk.cons h8 k8 (CallsOk.cons h55 k55 CallsOk.nil))))) e7
/- slices.Clone[[]uint64,uint64] -/
theorem h63 : HasFn Tryz.prog 63 := ⟨by kernel_rfl⟩
noncomputable def s63 (a0 : D) : ST → Nat → Option Rt := fun T nx =>
 bnd (zbin .sl .eql a0 .e0) fun d1 =>
 cnd d1 (
 finK T nx .e0 T nx nx
 ) (
 bB (solidL 1 []) <| fN (Nat.succ nx) fun n1 =>
 zappend 38 1 8 (Tr.set (some (xRows 38 1 [])) T nx) n1 nx (.vw nx 1 0 0) a0 fun f1 s1 d2 T1 l1 => fN (Nat.succ n1) fun n2 => fN l1 fun l2 =>
 finK T nx d2 T1 n2 l2
 )
theorem e63 (a0 : D) (T : ST) (nx : Nat) : fnK Tryz.prog [] dr0 FU Tryz.f63 (.s .o (.s (.s .o (.c (.s .o .o) .o)) (.s .o .o))) [a0] T nx = s63 a0 T nx := by kernel_rfl
noncomputable def F63 : Sem := ar1 s63
theorem k63 : FnOk Tryz.prog 63 F63 := ar1_ok (fnK_ok (by kernel_rfl) CallsOk.nil dr0_ok) e63
/- reeve/wset.Do -/
theorem h14 : HasFn Tryz.prog 14 := ⟨by kernel_rfl⟩
noncomputable def s14 (fu : Nat) (a0 a1 : D) : ST → Nat → Option Rt := fun T nx =>
 bndR (F63 [a0] T nx) fun d1 T1 n1 l1 => fN (lowN nx l1) fun l2 =>
 jn (fun v1 T2 n2 l3 => unc v1 fun d2 w1 =>
 finK T nx d2 T2 n2 l3) fun K1 =>
 bnd (zlen true a1) fun d3 =>
 lpc fu (fun go1 v2 T3 n3 l4 => unc v2 fun d4 w2 => unc w2 fun d5 w3 => unc w3 fun d6 w4 => unc w4 fun d7 w5 =>
  bnd (zbin .i .lss d7 d6) fun d8 =>
  cnd d8 (
  jn (fun v3 T4 n4 l5 => unc v3 fun d9 w6 => unc w6 fun d10 w7 => unc w7 fun d11 w8 => unc w8 fun d12 w9 =>
   bnd (zbin .i .add d12 (.v (.int .i64 (.ofNat 1)))) fun d13 =>
 go1 [d9, d10, d11, d13] T4 n4 l5) fun K2 =>
  bnd (zindexAddr (.sl 2) d5 d7) fun d14 =>
  bnd (zload (some 2) T3 d14) fun d15 =>
  fN (Nat.succ n3) fun n5 =>
  zstore 2 (Tr.set (some (XO.mk 40 2 1 (.n [(.v (.int .i64 (.ofNat 0))), (.v (.int .u64 (.ofNat 0)))] .e .e))) T3 n3) (.ptr n3 2 0 0) d15 fun r1 T5 => fN (lowN l4 r1) fun l6 =>
  bnd (zfieldAddr 0 (.ptr n3 2 0 0)) fun d16 =>
  bnd (zload none T5 d16) fun d17 =>
  bnd (zbin .i .geq d17 (.v (.int .i64 (.ofNat 0)))) fun d18 =>
  opG.gjn (fun k1 => zgd d18 true (
   bnd (zfieldAddr 0 (.ptr n3 2 0 0)) fun d19 =>
   k1 [] [] d19 T5 n5 l6
  ) (k1 [] [] (.v undef) T5 n5 l6)) fun _ _ d20 T6 n6 l7 =>
  opG.gjn (fun k2 => zgd d18 true (
   bnd (zload none T6 d20) fun d21 =>
   k2 (ptr? d20) [] d21 T6 n6 l7
  ) (k2 [] [] (.v undef) T6 n6 l7)) fun _ _ d22 T7 n7 l8 =>
  opG.gjn (fun k3 => zgd d18 true (
   k3 [] [] d4 T7 n7 l8
  ) (k3 [] [] (.v undef) T7 n7 l8)) fun _ _ d23 T8 n8 l9 =>
  opG.gjn (fun k4 => zgd d18 true (
   bnd (zlen true d23) fun d24 =>
   k4 [] [] d24 T8 n8 l9
  ) (k4 [] [] (.v undef) T8 n8 l9)) fun _ _ d25 T9 n9 l10 =>
  opG.gjn (fun k5 => zgd d18 true (
   bnd (zbin .i .lss d22 d25) fun d26 =>
   k5 [] [] d26 T9 n9 l10
  ) (k5 [] [] (.v undef) T9 n9 l10)) fun _ _ d27 T10 n10 l11 =>
  bnd (zpick d18 d27 (.v (.bool false))) fun d28 =>
  cnd d28 (
   bnd (zfieldAddr 0 (.ptr n3 2 0 0)) fun d29 =>
   bnd (zload none T10 d29) fun d30 =>
   bnd (zfieldAddr 1 (.ptr n3 2 0 0)) fun d31 =>
   bnd (zload none T10 d31) fun d32 =>
   bnd (zindexAddr (.sl 1) d4 d30) fun d33 =>
   zstore 1 T10 d33 d32 fun r2 T11 => fN (lowN l11 r2) fun l12 =>
  K2 [d4, d5, d6, d7] T11 n10 l12
  ) (
  K2 [d4, d5, d6, d7] T10 n10 l11
  )
  ) (
 K1 [d4] T3 n3 l4
  )) [d1, a1, d3, (.v (.int .i64 (.ofNat 0)))] T1 n1 l2
theorem e14 (fu : Nat) (a0 a1 : D) (T : ST) (nx : Nat) : fnK Tryz.prog [(63, F63)] dr0 fu Tryz.f14 (.s .o (.s .o (.j [5] (.s .o (.b (.l [5, 10, 11, 12] (.s .o (.s (.c .o .o) (.j [5, 10, 11, 12] (.b (.s .o (.s .o (.c .o .o)))) .o)))))) (.s .o .o)))) [a0, a1] T nx = s14 fu a0 a1 T nx := by kernel_rfl
noncomputable def F14 : Sem := ar2 (s14 FU)
theorem k14 : FnOk Tryz.prog 14 F14 := ar2_ok (fnK_ok (by kernel_rfl) (CallsOk.cons h63 k63 CallsOk.nil) dr0_ok) (e14 FU)
/- reeve/reevelaw23.words -/
theorem h15 : HasFn Tryz.prog 15 := ⟨by kernel_rfl⟩
noncomputable def s15 (fu : Nat) (a0 a1 : D) : ST → Nat → Option Rt := fun T nx =>
 bnd (zlen true a0) fun d1 =>
 bnd (zlen true a1) fun d2 =>
 bnd (zbin .i .neq d1 d2) fun d3 =>
 cnd d3 (
 finK T nx (.v (.bool false)) T nx nx
 ) (
 jn (fun v1 T1 n1 l1 =>
 finK T nx (.v (.bool true)) T1 n1 l1) fun K1 =>
 lpc fu (fun go1 v2 T2 n2 l2 => unc v2 fun d4 w1 => unc w1 fun d5 w2 => unc w2 fun d6 w3 =>
  bnd (zlen true d4) fun d7 =>
  bnd (zbin .i .lss d6 d7) fun d8 =>
  cnd d8 (
  bnd (zindexAddr (.sl 1) d4 d6) fun d9 =>
  bnd (zload none T2 d9) fun d10 =>
  bnd (zindexAddr (.sl 1) d5 d6) fun d11 =>
  bnd (zload none T2 d11) fun d12 =>
  bnd (zbin .i .neq d10 d12) fun d13 =>
  cnd d13 (
 finK T nx (.v (.bool false)) T2 n2 l2
  ) (
  bnd (zbin .i .add d6 (.v (.int .i64 (.ofNat 1)))) fun d14 =>
 go1 [d4, d5, d14] T2 n2 l2
  )
  ) (
 K1 [] T2 n2 l2
  )) [a0, a1, (.v (.int .i64 (.ofNat 0)))] T nx nx
 )
theorem e15 (fu : Nat) (a0 a1 : D) (T : ST) (nx : Nat) : fnK Tryz.prog [] (drD Tryz.prog []) fu Tryz.f15 (.s .o (.s (.s .o (.c (.s .o .o) .o)) (.j [] (.s .o (.b (.l [0, 1, 5] (.s (.s .o (.c .o .o)) (.s (.b (.s .o (.c (.s .o .o) .o))) .o))))) (.s .o .o)))) [a0, a1] T nx = s15 fu a0 a1 T nx := by kernel_rfl
noncomputable def F15 : Sem := ar2 (s15 FU)
theorem k15 : FnOk Tryz.prog 15 F15 := ar2_ok (fnK_ok (by kernel_rfl) CallsOk.nil (drD_ok hmix CallsOk.nil)) (e15 FU)
/- reeve/wset.Good -/
theorem h16 : HasFn Tryz.prog 16 := ⟨by kernel_rfl⟩
noncomputable def s16 (fu : Nat) (a0 a1 : D) : ST → Nat → Option Rt := fun T nx =>
 bB (solidB a0) <| fN (Nat.succ nx) fun n1 => fN (dcells a0).length fun e1 =>
 bnd (zload (some 3) (Tr.set (some (xRow 28 (dcells a0))) T nx) (.ptr nx e1 0 0)) fun d1 =>
 bndR (F58 [d1] (Tr.set (some (xRow 28 (dcells a0))) T nx) n1) fun d2 T1 n2 l1 => fN (lowN nx l1) fun l2 =>
 bnd (zun .not d2) fun d3 =>
 opG.gjn (fun k1 => zgd d3 false (
  k1 [] [] a1 T1 n2 l2
 ) (k1 [] [] (.v undef) T1 n2 l2)) fun _ _ d4 T2 n3 l3 =>
 opG.gjn (fun k2 => zgd d3 false (
  bnd (zlen true d4) fun d5 =>
  k2 [] [] d5 T2 n3 l3
 ) (k2 [] [] (.v undef) T2 n3 l3)) fun _ _ d6 T3 n4 l4 =>
 opG.gjn (fun k3 => zgd d3 false (
  bnd (zbin .i .gtr d6 (.v (.int .i64 (.ofNat 600)))) fun d7 =>
  k3 [] [] d7 T3 n4 l4
 ) (k3 [] [] (.v undef) T3 n4 l4)) fun _ _ d8 T4 n5 l5 =>
 bnd (zpick d3 (.v (.bool true)) d8) fun d9 =>
 cnd d9 (
 finK T nx (.v (.bool false)) T4 n5 l5
 ) (
 bnd (zload (some 3) T4 (.ptr nx e1 0 0)) fun d10 =>
 bndR (F12 [d10, (.v (.int .i64 (.ofNat 0)))] T4 n5) fun d11 T5 n6 l6 => fN (lowN l5 l6) fun l7 =>
 bnd (zbin .i .sub d11 (.v (.int .i64 (.ofNat 1)))) fun d12 =>
 jn (fun v1 T6 n7 l8 =>
 finK T nx (.v (.bool true)) T6 n7 l8) fun K1 =>
 bnd (zlen true a1) fun d13 =>
 lpc fu (fun go1 v2 T7 n8 l9 => unc v2 fun d14 w1 => unc w1 fun d15 w2 => unc w2 fun d16 w3 => unc w3 fun d17 w4 => unc w4 fun d18 w5 =>
  bnd (zbin .i .lss d18 d17) fun d19 =>
  cnd d19 (
  bnd (zindexAddr (.sl 2) d16 d18) fun d20 =>
  bnd (zload (some 2) T7 d20) fun d21 =>
  fN (Nat.succ n8) fun n9 =>
  zstore 2 (Tr.set (some (XO.mk 40 2 1 (.n [(.v (.int .i64 (.ofNat 0))), (.v (.int .u64 (.ofNat 0)))] .e .e))) T7 n8) (.ptr n8 2 0 0) d21 fun r1 T8 => fN (lowN l9 r1) fun l10 =>
  bnd (zfieldAddr 0 (.ptr n8 2 0 0)) fun d22 =>
  bnd (zload none T8 d22) fun d23 =>
  bnd (zbin .i .leq d23 d15) fun d24 =>
  opD.gjd (fun k4 => zgd d24 false (
   bnd (zfieldAddr 0 (.ptr n8 2 0 0)) fun d25 =>
   k4 (.op [] []) d25 T8 n9 l10
  ) (k4 (.op [] []) (.v undef) T8 n9 l10)) fun f1 d26 T9 n10 l11 =>
  opD.gjd (fun k5 => zgd d24 false (
   bnd (zload none T9 d26) fun d27 =>
   k5 (.op (ptr? d26) []) d27 T9 n10 l11
  ) (k5 (.op [] []) (.v undef) T9 n10 l11)) fun f2 d28 T10 n11 l12 =>
  opD.gjd (fun k6 => zgd d24 false (
   bnd (zload (some 3) T10 d14) fun d29 =>
   k6 (.op (ptr? d14) []) d29 T10 n11 l12
  ) (k6 (.op [] []) (.v undef) T10 n11 l12)) fun f3 d30 T11 n12 l13 =>
  opD.gjd (fun k7 => zgd d24 false (
   bndR (F17 [d30] T11 n12) fun d31 T12 n13 l14 => fN (lowN n12 l14) fun l15 => bB (Nat.beq l15 n12) <|
   k7 (.call n12 n13) d31 T12 n13 l13
  ) (k7 (.op [] []) (.v undef) T11 n12 l13)) fun f4 d32 T13 n14 l16 =>
  opD.gjd (fun k8 => zgd d24 false (
   bnd (zbin .i .geq d28 d32) fun d33 =>
   k8 (.op [] []) d33 T13 n14 l16
  ) (k8 (.op [] []) (.v undef) T13 n14 l16)) fun f5 d34 T14 n15 l17 =>
  bnd (zpick d24 (.v (.bool true)) d34) fun d35 =>
  bB (apt f2 f4) <|
  cnd d35 (
 finK T nx (.v (.bool false)) T14 n15 l17
  ) (
  bnd (zfieldAddr 0 (.ptr n8 2 0 0)) fun d36 =>
  bnd (zload none T14 d36) fun d37 =>
  bnd (zbin .i .add d18 (.v (.int .i64 (.ofNat 1)))) fun d38 =>
 go1 [d14, d37, d16, d17, d38] T14 n15 l17
  )
  ) (
 K1 [] T7 n8 l9
  )) [(.ptr nx e1 0 0), d12, a1, d13, (.v (.int .i64 (.ofNat 0)))] T5 n6 l7
 )
theorem e16 (fu : Nat) (a0 a1 : D) (T : ST) (nx : Nat) : fnK Tryz.prog [(58, F58), (12, F12), (17, F17)] (drD Tryz.prog [(58, F58), (12, F12), (17, F17)]) fu Tryz.f16 (.s .o (.s (.s .o (.c (.s .o .o) .o)) (.s .o (.j [] (.s .o (.b (.l [2, 5, 19, 20, 21] (.s .o (.s (.c .o .o) (.s (.b (.s .o (.s (.s .o (.c (.s .o .o) .o)) .o))) .o)))))) (.s .o .o))))) [a0, a1] T nx = s16 fu a0 a1 T nx := by kernel_rfl
noncomputable def F16 : Sem := ar2 (s16 FU)
theorem k16 : FnOk Tryz.prog 16 F16 := ar2_ok (fnK_ok (by kernel_rfl) (CallsOk.cons h58 k58 (CallsOk.cons h12 k12 (CallsOk.cons h17 k17 CallsOk.nil))) (drD_ok hmix (CallsOk.cons h58 k58 (CallsOk.cons h12 k12 (CallsOk.cons h17 k17 CallsOk.nil))))) (e16 FU)
/- reeve/reevelaw23.ints -/
theorem h18 : HasFn Tryz.prog 18 := ⟨by kernel_rfl⟩
noncomputable def s18 (fu : Nat) (a0 a1 : D) : ST → Nat → Option Rt := fun T nx =>
 bnd (zlen true a0) fun d1 =>
 bnd (zlen true a1) fun d2 =>
 bnd (zbin .i .neq d1 d2) fun d3 =>
 cnd d3 (
 finK T nx (.v (.bool false)) T nx nx
 ) (
 jn (fun v1 T1 n1 l1 =>
 finK T nx (.v (.bool true)) T1 n1 l1) fun K1 =>
 lpc fu (fun go1 v2 T2 n2 l2 => unc v2 fun d4 w1 => unc w1 fun d5 w2 => unc w2 fun d6 w3 =>
  bnd (zlen true d4) fun d7 =>
  bnd (zbin .i .lss d6 d7) fun d8 =>
  cnd d8 (
  bnd (zindexAddr (.sl 1) d4 d6) fun d9 =>
  bnd (zload none T2 d9) fun d10 =>
  bnd (zindexAddr (.sl 1) d5 d6) fun d11 =>
  bnd (zload none T2 d11) fun d12 =>
  bnd (zbin .i .neq d10 d12) fun d13 =>
  cnd d13 (
 finK T nx (.v (.bool false)) T2 n2 l2
  ) (
  bnd (zbin .i .add d6 (.v (.int .i64 (.ofNat 1)))) fun d14 =>
 go1 [d4, d5, d14] T2 n2 l2
  )
  ) (
 K1 [] T2 n2 l2
  )) [a0, a1, (.v (.int .i64 (.ofNat 0)))] T nx nx
 )
theorem e18 (fu : Nat) (a0 a1 : D) (T : ST) (nx : Nat) : fnK Tryz.prog [] (drD Tryz.prog []) fu Tryz.f18 (.s .o (.s (.s .o (.c (.s .o .o) .o)) (.j [] (.s .o (.b (.l [0, 1, 5] (.s (.s .o (.c .o .o)) (.s (.b (.s .o (.c (.s .o .o) .o))) .o))))) (.s .o .o)))) [a0, a1] T nx = s18 fu a0 a1 T nx := by kernel_rfl
noncomputable def F18 : Sem := ar2 (s18 FU)
theorem k18 : FnOk Tryz.prog 18 F18 := ar2_ok (fnK_ok (by kernel_rfl) CallsOk.nil (drD_ok hmix CallsOk.nil)) (e18 FU)
/- slices.Compact[[]int,int] -/
theorem h65 : HasFn Tryz.prog 65 := ⟨by kernel_rfl⟩
noncomputable def s65 (fu : Nat) (a0 : D) : ST → Nat → Option Rt := fun T nx =>
 bnd (zlen true a0) fun d1 =>
 bnd (zbin .i .lss d1 (.v (.int .i64 (.ofNat 2)))) fun d2 =>
 cnd d2 (
 finK T nx a0 T nx nx
 ) (
 jn (fun v1 T1 n1 l1 => unc v1 fun d3 w1 =>
 finK T nx d3 T1 n1 l1) fun K1 =>
 lpc fu (fun go1 v2 T2 n2 l2 => unc v2 fun d4 w2 => unc w2 fun d5 w3 =>
  bnd (zlen true d4) fun d6 =>
  bnd (zbin .i .lss d5 d6) fun d7 =>
  cnd d7 (
  jn (fun v3 T3 n3 l3 => unc v3 fun d8 w4 => unc w4 fun d9 w5 =>
   bnd (zbin .i .add d9 (.v (.int .i64 (.ofNat 1)))) fun d10 =>
 go1 [d8, d10] T3 n3 l3) fun K2 =>
  bnd (zindexAddr (.sl 1) d4 d5) fun d11 =>
  bnd (zload none T2 d11) fun d12 =>
  bnd (zbin .i .sub d5 (.v (.int .i64 (.ofNat 1)))) fun d13 =>
  bnd (zindexAddr (.sl 1) d4 d13) fun d14 =>
  bnd (zload none T2 d14) fun d15 =>
  bnd (zbin .i .eql d12 d15) fun d16 =>
  cnd d16 (
   zslice (.sl 1) T2 d4 (some d5) none fun f1 d17 =>
   jn (fun v4 T4 n4 l4 => unc v4 fun d18 w6 => unc w6 fun d19 w7 =>
    zslice (.sl 1) T4 d18 (some d19) none fun f2 d20 =>
    biK.zclear [(.int .i64 (.ofNat 0))] T4 l4 d20 fun r1 T5 => fN (lowN l4 r1) fun l5 =>
    zslice (.sl 1) T5 d18 none (some d19) fun f3 d21 =>
 finK T nx d21 T5 n4 l5) fun K3 =>
   lpc fu (fun go2 v5 T6 n5 l6 => unc v5 fun d22 w8 => unc w8 fun d23 w9 => unc w9 fun d24 w10 => unc w10 fun d25 w11 =>
    bnd (zlen true d24) fun d26 =>
    bnd (zbin .i .lss d25 d26) fun d27 =>
    cnd d27 (
    jn (fun v6 T7 n6 l7 => unc v6 fun d28 w12 => unc w12 fun d29 w13 => unc w13 fun d30 w14 => unc w14 fun d31 w15 =>
     bnd (zbin .i .add d31 (.v (.int .i64 (.ofNat 1)))) fun d32 =>
   go2 [d28, d29, d30, d32] T7 n6 l7) fun K4 =>
    bnd (zindexAddr (.sl 1) d24 d25) fun d33 =>
    bnd (zload none T6 d33) fun d34 =>
    bnd (zbin .i .sub d25 (.v (.int .i64 (.ofNat 1)))) fun d35 =>
    bnd (zindexAddr (.sl 1) d24 d35) fun d36 =>
    bnd (zload none T6 d36) fun d37 =>
    bnd (zbin .i .neq d34 d37) fun d38 =>
    cnd d38 (
     bnd (zindexAddr (.sl 1) d24 d25) fun d39 =>
     bnd (zload none T6 d39) fun d40 =>
     bnd (zindexAddr (.sl 1) d22 d23) fun d41 =>
     zstore 1 T6 d41 d40 fun r2 T8 => fN (lowN l6 r2) fun l8 =>
     bnd (zbin .i .add d23 (.v (.int .i64 (.ofNat 1)))) fun d42 =>
    K4 [d22, d42, d24, d25] T8 n5 l8
    ) (
    K4 [d22, d23, d24, d25] T6 n5 l6
    )
    ) (
   K3 [d22, d23] T6 n5 l6
    )) [d4, d5, d17, (.v (.int .i64 (.ofNat 1)))] T2 n2 l2
  ) (
  K2 [d4, d5] T2 n2 l2
  )
  ) (
 K1 [d4] T2 n2 l2
  )) [a0, (.v (.int .i64 (.ofNat 1)))] T nx nx
 )
theorem e65 (fu : Nat) (a0 : D) (T : ST) (nx : Nat) : fnK Tryz.prog [] (drD Tryz.prog []) fu Tryz.f65 (.s .o (.s (.s .o (.c (.s .o .o) .o)) (.j [0] (.s .o (.b (.l [0, 3] (.s (.s .o (.c .o .o)) (.j [0, 3] (.b (.s .o (.c (.s .o (.j [0, 3] (.s .o (.b (.l [0, 3, 4, 5] (.s (.s .o (.c .o .o)) (.j [0, 3, 4, 5] (.b (.s .o (.c (.s .o .o) .o))) .o))))) (.s .o (.s .o .o)))) .o))) .o))))) (.s .o .o)))) [a0] T nx = s65 fu a0 T nx := by kernel_rfl
noncomputable def F65 : Sem := ar1 (s65 FU)
theorem k65 : FnOk Tryz.prog 65 F65 := ar1_ok (fnK_ok (by kernel_rfl) CallsOk.nil (drD_ok hmix CallsOk.nil)) (e65 FU)
/- reeve/wset.Rows -/
theorem h19 : HasFn Tryz.prog 19 := ⟨by kernel_rfl⟩
noncomputable def s19 (fu : Nat) (a0 : D) : ST → Nat → Option Rt := fun T nx =>
 jn (fun v1 T1 n1 l1 => unc v1 fun d1 w1 =>
  bndR (F64 [d1] T1 n1) fun d2 T2 n2 l2 => fN (lowN l1 l2) fun l3 =>
  bndR (F65 [d1] T2 n2) fun d3 T3 n3 l4 => fN (lowN l3 l4) fun l5 =>
 finK T nx d3 T3 n3 l5) fun K1 =>
 bnd (zlen true a0) fun d4 =>
 lpc fu (fun go1 v2 T4 n4 l6 => unc v2 fun d5 w2 => unc w2 fun d6 w3 => unc w3 fun d7 w4 => unc w4 fun d8 w5 =>
  bnd (zbin .i .lss d8 d7) fun d9 =>
  cnd d9 (
  jn (fun v3 T5 n5 l7 => unc v3 fun d10 w6 => unc w6 fun d11 w7 => unc w7 fun d12 w8 => unc w8 fun d13 w9 =>
   bnd (zbin .i .add d13 (.v (.int .i64 (.ofNat 1)))) fun d14 =>
 go1 [d10, d11, d12, d14] T5 n5 l7) fun K2 =>
  bnd (zindexAddr (.sl 2) d6 d8) fun d15 =>
  bnd (zload (some 2) T4 d15) fun d16 =>
  fN (Nat.succ n4) fun n6 =>
  zstore 2 (Tr.set (some (XO.mk 40 2 1 (.n [(.v (.int .i64 (.ofNat 0))), (.v (.int .u64 (.ofNat 0)))] .e .e))) T4 n4) (.ptr n4 2 0 0) d16 fun r1 T6 => fN (lowN l6 r1) fun l8 =>
  bnd (zfieldAddr 0 (.ptr n4 2 0 0)) fun d17 =>
  bnd (zload none T6 d17) fun d18 =>
  bnd (zbin .i .geq d18 (.v (.int .i64 (.ofNat 0)))) fun d19 =>
  cnd d19 (
   bnd (zfieldAddr 0 (.ptr n4 2 0 0)) fun d20 =>
   bnd (zload none T6 d20) fun d21 =>
   bnd (zbin .i .quo d21 (.v (.int .i64 (.ofNat 8)))) fun d22 =>
   bB (solidL 1 [d22]) <| fN (Nat.succ n6) fun n7 =>
   zappend 3 1 8 (Tr.set (some (xRows 3 1 [dcells d22])) T6 n6) n7 l8 d5 (.vw n6 1 0 1) fun f1 s1 d23 T7 l9 => fN (Nat.succ n7) fun n8 => fN l9 fun l10 =>
  K2 [d23, d6, d7, d8] T7 n8 l10
  ) (
  K2 [d5, d6, d7, d8] T6 n6 l8
  )
  ) (
 K1 [d5] T4 n4 l6
  )) [.e0, a0, d4, (.v (.int .i64 (.ofNat 0)))] T nx nx
theorem e19 (fu : Nat) (a0 : D) (T : ST) (nx : Nat) : fnK Tryz.prog [(64, F64), (65, F65)] dr0 fu Tryz.f19 (.s .o (.s .o (.j [3] (.s .o (.b (.l [3, 6, 7, 8] (.s .o (.s (.c .o .o) (.j [3, 6, 7, 8] (.b (.s .o (.s .o (.c .o .o)))) .o)))))) (.s .o (.s .o .o))))) [a0] T nx = s19 fu a0 T nx := by kernel_rfl
noncomputable def F19 : Sem := ar1 (s19 FU)
theorem k19 : FnOk Tryz.prog 19 F19 := ar1_ok (fnK_ok (by kernel_rfl) (CallsOk.cons h64 k64 (CallsOk.cons h65 k65 CallsOk.nil)) dr0_ok) (e19 FU)
/- reeve/reevelaw23.WsetKnown -/
theorem h3 : HasFn Tryz.prog 3 := ⟨by kernel_rfl⟩
noncomputable def s3 : ST → Nat → Option Rt := fun T nx =>
 bndR (F7 [] T nx) fun d1 T1 n1 l1 => fN (lowN nx l1) fun l2 =>
 bnd (zun .not d1) fun d2 =>
 cnd d2 (
 finK T nx (.v (.bool false)) T1 n1 l2
 ) (
 bndR (F9 [] T1 n1) fun d3 T2 n2 l3 => fN (lowN l2 l3) fun l4 =>
 bnd (zbuild [(.int .i64 (.ofNat 0)), (.int .i64 (.ofNat 0)), (.int .i64 (.ofNat 0)), (.slice none 0 0), (.slice none 0 0)] [(0, 3), (3, 1), (4, 1)] [] []) fun d4 =>
 bndR (F8 [d3, d4] T2 n2) fun d5 T3 n3 l5 => fN (lowN l4 l5) fun l6 =>
 bnd (zextract d5 0) fun d6 =>
 bnd (zextract d5 1) fun d7 =>
 bnd (zbuild [(.int .i64 (.ofNat 0)), (.int .i64 (.ofNat 0)), (.int .i64 (.ofNat 0))] [(0, 1), (1, 1), (2, 1)] [0, 1, 2] [(.v (.int .i64 (.ofNat 1))), (.v (.int .i64 (.ofNat 8))), (.v (.int .i64 (.ofNat 3)))]) fun d8 =>
 bndR (F10 [d8, (.v (.int .i64 (.ofNat 64)))] T3 n3) fun d9 T4 n4 l7 => fN (lowN l6 l7) fun l8 =>
 bnd (zextract d9 0) fun d10 =>
 bnd (zextract d9 1) fun d11 =>
 fN (Nat.succ n4) fun n5 =>
 zstore 5 (Tr.set (some (XO.mk 32 5 1 (.n [(.v (.int .i64 (.ofNat 0))), (.v (.int .i64 (.ofNat 0))), (.v (.int .i64 (.ofNat 0))), .e0, .e0] .e .e))) T4 n4) (.ptr n4 5 0 0) d10 fun r1 T5 => fN (lowN l8 r1) fun l9 =>
 bndR (F9 [] T5 n5) fun d12 T6 n6 l10 => fN (lowN n5 l10) fun l11 => bB (Nat.beq l11 n5) <|
 bnd (zload (some 5) T6 (.ptr n4 5 0 0)) fun d13 =>
 bndR (F8 [d12, d13] T6 n6) fun d14 T7 n7 l12 => fN (lowN n6 l12) fun l13 => bB (Nat.beq l13 n6) <|
 bnd (zextract d14 0) fun d15 =>
 bnd (zextract d14 1) fun d16 =>
 bB (apt (.call n5 n6) (.op (ptr? (.ptr n4 5 0 0)) [])) <|
 bndR (F11 [] T7 n7) fun d17 T8 n8 l14 => fN (lowN l9 l14) fun l15 =>
 fN (Nat.succ n8) fun n9 =>
 zstore 3 (Tr.set (some (XO.mk 28 3 1 (.n [(.v (.int .i64 (.ofNat 0))), (.v (.int .i64 (.ofNat 0))), (.v (.int .i64 (.ofNat 0)))] .e .e))) T8 n8) (.ptr n8 3 0 0) d17 fun r2 T9 => fN (lowN l15 r2) fun l16 =>
 bnd (zload (some 3) T9 (.ptr n8 3 0 0)) fun d18 =>
 bndR (F12 [d18, (.v (.int .i64 (.ofNat 0)))] T9 n9) fun d19 T10 n10 l17 => fN (lowN n9 l17) fun l18 => bB (Nat.beq l18 n9) <|
 bnd (zload (some 3) T10 (.ptr n8 3 0 0)) fun d20 =>
 bndR (F13 [d20, (.v (.int .i64 (.ofNat 0)))] T10 n10) fun d21 T11 n11 l19 => fN (lowN n10 l19) fun l20 => bB (Nat.beq l20 n10) <|
 bB (apt (.call n9 n10) (.op (ptr? (.ptr n8 3 0 0)) [])) <|
 bnd (zbuild [(.int .i64 (.ofNat 0)), (.int .u64 (.ofNat 0))] [(0, 1), (1, 1)] [0, 1] [(.v (.int .i64 (.ofNat 1))), (.v (.int .u64 (.ofNat 5)))]) fun d22 =>
 bnd (zbuild [(.int .i64 (.ofNat 0)), (.int .u64 (.ofNat 0))] [(0, 1), (1, 1)] [0, 1] [(.v (.int .i64 (.negSucc 0))), (.v (.int .u64 (.ofNat 6)))]) fun d23 =>
 bnd (zbuild [(.int .i64 (.ofNat 0)), (.int .u64 (.ofNat 0))] [(0, 1), (1, 1)] [0, 1] [(.v (.int .i64 (.ofNat 99))), (.v (.int .u64 (.ofNat 7)))]) fun d24 =>
 bB (solidL 2 [d22, d23, d24]) <| fN (Nat.succ n11) fun n12 =>
 bB (solidL 1 [(.v (.int .u64 (.ofNat 0))), (.v (.int .u64 (.ofNat 1))), (.v (.int .u64 (.ofNat 2)))]) <| fN (Nat.succ n12) fun n13 =>
 bndR (F14 [(.vw n12 1 0 3), (.vw n11 2 0 3)] (Tr.set (some (xRows 38 1 [dcells (.v (.int .u64 (.ofNat 0))), dcells (.v (.int .u64 (.ofNat 1))), dcells (.v (.int .u64 (.ofNat 2)))])) (Tr.set (some (xRows 40 2 [dcells d22, dcells d23, dcells d24])) T11 n11) n12) n13) fun d25 T12 n14 l21 => fN (lowN l16 l21) fun l22 =>
 bnd (zbin .i .eql d7 (.v (.int .i64 (.ofNat 1)))) fun d26 =>
 opD.gjd (fun k1 => zgd d26 true (
  k1 (.op [] []) d16 T12 n14 l22
 ) (k1 (.op [] []) (.v undef) T12 n14 l22)) fun f1 d27 T13 n15 l23 =>
 opD.gjd (fun k2 => zgd d26 true (
  bnd (zbin .i .eql d27 (.v (.int .i64 (.ofNat 1)))) fun d28 =>
  k2 (.op [] []) d28 T13 n15 l23
 ) (k2 (.op [] []) (.v undef) T13 n15 l23)) fun f2 d29 T14 n16 l24 =>
 bnd (zpick d26 d29 (.v (.bool false))) fun d30 =>
 opD.gjd (fun k3 => zgd d30 true (
  k3 (.op [] []) d25 T14 n16 l24
 ) (k3 (.op [] []) (.v undef) T14 n16 l24)) fun f3 d31 T15 n17 l25 =>
 opD.gjd (fun k4 => zgd d30 true (
  bB (solidL 1 [(.v (.int .u64 (.ofNat 0))), (.v (.int .u64 (.ofNat 5))), (.v (.int .u64 (.ofNat 2)))]) <| fN (Nat.succ n17) fun n18 =>
  k4 (.op [] [n17]) (.vw n17 1 0 3) (Tr.set (some (xRows 38 1 [dcells (.v (.int .u64 (.ofNat 0))), dcells (.v (.int .u64 (.ofNat 5))), dcells (.v (.int .u64 (.ofNat 2)))])) T15 n17) n18 l25
 ) (k4 (.op [] []) (.v undef) T15 n17 l25)) fun f4 d32 T16 n19 l26 =>
 opD.gjd (fun k5 => zgd d30 true (
  bndR (F15 [d31, d32] T16 n19) fun d33 T17 n20 l27 => fN (lowN n19 l27) fun l28 => bB (Nat.beq l28 n19) <|
  k5 (.call n19 n20) d33 T17 n20 l26
 ) (k5 (.op [] []) (.v undef) T16 n19 l26)) fun f5 d34 T18 n21 l29 =>
 bnd (zpick d30 d34 (.v (.bool false))) fun d35 =>
 opD.gjd (fun k6 => zgd d35 true (
  bnd (zload (some 3) T18 (.ptr n8 3 0 0)) fun d36 =>
  k6 (.op (ptr? (.ptr n8 3 0 0)) []) d36 T18 n21 l29
 ) (k6 (.op [] []) (.v undef) T18 n21 l29)) fun f6 d37 T19 n22 l30 =>
 opD.gjd (fun k7 => zgd d35 true (
  k7 (.op [] []) d19 T19 n22 l30
 ) (k7 (.op [] []) (.v undef) T19 n22 l30)) fun f7 d38 T20 n23 l31 =>
 opD.gjd (fun k8 => zgd d35 true (
  bnd (zbuild [(.int .i64 (.ofNat 0)), (.int .u64 (.ofNat 0))] [(0, 1), (1, 1)] [0] [d38]) fun d39 =>
  k8 (.op [] []) d39 T20 n23 l31
 ) (k8 (.op [] []) (.v undef) T20 n23 l31)) fun f8 d40 T21 n24 l32 =>
 opD.gjd (fun k9 => zgd d35 true (
  k9 (.op [] []) d19 T21 n24 l32
 ) (k9 (.op [] []) (.v undef) T21 n24 l32)) fun f9 d41 T22 n25 l33 =>
 opD.gjd (fun k10 => zgd d35 true (
  bnd (zbin .i .add d41 (.v (.int .i64 (.ofNat 1)))) fun d42 =>
  k10 (.op [] []) d42 T22 n25 l33
 ) (k10 (.op [] []) (.v undef) T22 n25 l33)) fun f10 d43 T23 n26 l34 =>
 opD.gjd (fun k11 => zgd d35 true (
  bnd (zbuild [(.int .i64 (.ofNat 0)), (.int .u64 (.ofNat 0))] [(0, 1), (1, 1)] [0] [d43]) fun d44 =>
  k11 (.op [] []) d44 T23 n26 l34
 ) (k11 (.op [] []) (.v undef) T23 n26 l34)) fun f11 d45 T24 n27 l35 =>
 opD.gjd (fun k12 => zgd d35 true (
  k12 (.op [] []) d21 T24 n27 l35
 ) (k12 (.op [] []) (.v undef) T24 n27 l35)) fun f12 d46 T25 n28 l36 =>
 opD.gjd (fun k13 => zgd d35 true (
  bnd (zbin .i .add d46 (.v (.int .i64 (.ofNat 7)))) fun d47 =>
  k13 (.op [] []) d47 T25 n28 l36
 ) (k13 (.op [] []) (.v undef) T25 n28 l36)) fun f13 d48 T26 n29 l37 =>
 opD.gjd (fun k14 => zgd d35 true (
  bnd (zbuild [(.int .i64 (.ofNat 0)), (.int .u64 (.ofNat 0))] [(0, 1), (1, 1)] [0] [d48]) fun d49 =>
  k14 (.op [] []) d49 T26 n29 l37
 ) (k14 (.op [] []) (.v undef) T26 n29 l37)) fun f14 d50 T27 n30 l38 =>
 opD.gjd (fun k15 => zgd d35 true (
  bB (solidL 2 [d40, d45, d50]) <| fN (Nat.succ n30) fun n31 =>
  k15 (.op [] [n30]) (.vw n30 2 0 3) (Tr.set (some (xRows 40 2 [dcells d40, dcells d45, dcells d50])) T27 n30) n31 l38
 ) (k15 (.op [] []) (.v undef) T27 n30 l38)) fun f15 d51 T28 n32 l39 =>
 opD.gjd (fun k16 => zgd d35 true (
  bndR (F16 [d37, d51] T28 n32) fun d52 T29 n33 l40 => fN (lowN n32 l40) fun l41 => bB (Nat.beq l41 n32) <|
  k16 (.call n32 n33) d52 T29 n33 l39
 ) (k16 (.op [] []) (.v undef) T28 n32 l39)) fun f16 d53 T30 n34 l42 =>
 bnd (zpick d35 d53 (.v (.bool false))) fun d54 =>
 opD.gjd (fun k17 => zgd d54 true (
  bnd (zload (some 3) T30 (.ptr n8 3 0 0)) fun d55 =>
  k17 (.op (ptr? (.ptr n8 3 0 0)) []) d55 T30 n34 l42
 ) (k17 (.op [] []) (.v undef) T30 n34 l42)) fun f17 d56 T31 n35 l43 =>
 opD.gjd (fun k18 => zgd d54 true (
  k18 (.op [] []) d19 T31 n35 l43
 ) (k18 (.op [] []) (.v undef) T31 n35 l43)) fun f18 d57 T32 n36 l44 =>
 opD.gjd (fun k19 => zgd d54 true (
  bnd (zbin .i .sub d57 (.v (.int .i64 (.ofNat 1)))) fun d58 =>
  k19 (.op [] []) d58 T32 n36 l44
 ) (k19 (.op [] []) (.v undef) T32 n36 l44)) fun f19 d59 T33 n37 l45 =>
 opD.gjd (fun k20 => zgd d54 true (
  bnd (zbuild [(.int .i64 (.ofNat 0)), (.int .u64 (.ofNat 0))] [(0, 1), (1, 1)] [0] [d59]) fun d60 =>
  k20 (.op [] []) d60 T33 n37 l45
 ) (k20 (.op [] []) (.v undef) T33 n37 l45)) fun f20 d61 T34 n38 l46 =>
 opD.gjd (fun k21 => zgd d54 true (
  bB (solidL 2 [d61]) <| fN (Nat.succ n38) fun n39 =>
  k21 (.op [] [n38]) (.vw n38 2 0 1) (Tr.set (some (xRows 40 2 [dcells d61])) T34 n38) n39 l46
 ) (k21 (.op [] []) (.v undef) T34 n38 l46)) fun f21 d62 T35 n40 l47 =>
 opD.gjd (fun k22 => zgd d54 true (
  bndR (F16 [d56, d62] T35 n40) fun d63 T36 n41 l48 => fN (lowN n40 l48) fun l49 => bB (Nat.beq l49 n40) <|
  k22 (.call n40 n41) d63 T36 n41 l47
 ) (k22 (.op [] []) (.v undef) T35 n40 l47)) fun f22 d64 T37 n42 l50 =>
 opD.gjd (fun k23 => zgd d54 true (
  bnd (zun .not d64) fun d65 =>
  k23 (.op [] []) d65 T37 n42 l50
 ) (k23 (.op [] []) (.v undef) T37 n42 l50)) fun f23 d66 T38 n43 l51 =>
 bnd (zpick d54 d66 (.v (.bool false))) fun d67 =>
 opD.gjd (fun k24 => zgd d67 true (
  bnd (zload (some 3) T38 (.ptr n8 3 0 0)) fun d68 =>
  k24 (.op (ptr? (.ptr n8 3 0 0)) []) d68 T38 n43 l51
 ) (k24 (.op [] []) (.v undef) T38 n43 l51)) fun f24 d69 T39 n44 l52 =>
 opD.gjd (fun k25 => zgd d67 true (
  bnd (zload (some 3) T39 (.ptr n8 3 0 0)) fun d70 =>
  k25 (.op (ptr? (.ptr n8 3 0 0)) []) d70 T39 n44 l52
 ) (k25 (.op [] []) (.v undef) T39 n44 l52)) fun f25 d71 T40 n45 l53 =>
 opD.gjd (fun k26 => zgd d67 true (
  bndR (F17 [d71] T40 n45) fun d72 T41 n46 l54 => fN (lowN n45 l54) fun l55 => bB (Nat.beq l55 n45) <|
  k26 (.call n45 n46) d72 T41 n46 l53
 ) (k26 (.op [] []) (.v undef) T40 n45 l53)) fun f26 d73 T42 n47 l56 =>
 opD.gjd (fun k27 => zgd d67 true (
  bnd (zbuild [(.int .i64 (.ofNat 0)), (.int .u64 (.ofNat 0))] [(0, 1), (1, 1)] [0] [d73]) fun d74 =>
  k27 (.op [] []) d74 T42 n47 l56
 ) (k27 (.op [] []) (.v undef) T42 n47 l56)) fun f27 d75 T43 n48 l57 =>
 opD.gjd (fun k28 => zgd d67 true (
  bB (solidL 2 [d75]) <| fN (Nat.succ n48) fun n49 =>
  k28 (.op [] [n48]) (.vw n48 2 0 1) (Tr.set (some (xRows 40 2 [dcells d75])) T43 n48) n49 l57
 ) (k28 (.op [] []) (.v undef) T43 n48 l57)) fun f28 d76 T44 n50 l58 =>
 opD.gjd (fun k29 => zgd d67 true (
  bndR (F16 [d69, d76] T44 n50) fun d77 T45 n51 l59 => fN (lowN n50 l59) fun l60 => bB (Nat.beq l60 n50) <|
  k29 (.call n50 n51) d77 T45 n51 l58
 ) (k29 (.op [] []) (.v undef) T44 n50 l58)) fun f29 d78 T46 n52 l61 =>
 opD.gjd (fun k30 => zgd d67 true (
  bnd (zun .not d78) fun d79 =>
  k30 (.op [] []) d79 T46 n52 l61
 ) (k30 (.op [] []) (.v undef) T46 n52 l61)) fun f30 d80 T47 n53 l62 =>
 bnd (zpick d67 d80 (.v (.bool false))) fun d81 =>
 opD.gjd (fun k31 => zgd d81 true (
  bnd (zload (some 3) T47 (.ptr n8 3 0 0)) fun d82 =>
  k31 (.op (ptr? (.ptr n8 3 0 0)) []) d82 T47 n53 l62
 ) (k31 (.op [] []) (.v undef) T47 n53 l62)) fun f31 d83 T48 n54 l63 =>
 opD.gjd (fun k32 => zgd d81 true (
  k32 (.op [] []) d19 T48 n54 l63
 ) (k32 (.op [] []) (.v undef) T48 n54 l63)) fun f32 d84 T49 n55 l64 =>
 opD.gjd (fun k33 => zgd d81 true (
  bnd (zbuild [(.int .i64 (.ofNat 0)), (.int .u64 (.ofNat 0))] [(0, 1), (1, 1)] [0] [d84]) fun d85 =>
  k33 (.op [] []) d85 T49 n55 l64
 ) (k33 (.op [] []) (.v undef) T49 n55 l64)) fun f33 d86 T50 n56 l65 =>
 opD.gjd (fun k34 => zgd d81 true (
  k34 (.op [] []) d19 T50 n56 l65
 ) (k34 (.op [] []) (.v undef) T50 n56 l65)) fun f34 d87 T51 n57 l66 =>
 opD.gjd (fun k35 => zgd d81 true (
  bnd (zbuild [(.int .i64 (.ofNat 0)), (.int .u64 (.ofNat 0))] [(0, 1), (1, 1)] [0] [d87]) fun d88 =>
  k35 (.op [] []) d88 T51 n57 l66
 ) (k35 (.op [] []) (.v undef) T51 n57 l66)) fun f35 d89 T52 n58 l67 =>
 opD.gjd (fun k36 => zgd d81 true (
  bB (solidL 2 [d86, d89]) <| fN (Nat.succ n58) fun n59 =>
  k36 (.op [] [n58]) (.vw n58 2 0 2) (Tr.set (some (xRows 40 2 [dcells d86, dcells d89])) T52 n58) n59 l67
 ) (k36 (.op [] []) (.v undef) T52 n58 l67)) fun f36 d90 T53 n60 l68 =>
 opD.gjd (fun k37 => zgd d81 true (
  bndR (F16 [d83, d90] T53 n60) fun d91 T54 n61 l69 => fN (lowN n60 l69) fun l70 => bB (Nat.beq l70 n60) <|
  k37 (.call n60 n61) d91 T54 n61 l68
 ) (k37 (.op [] []) (.v undef) T53 n60 l68)) fun f37 d92 T55 n62 l71 =>
 opD.gjd (fun k38 => zgd d81 true (
  bnd (zun .not d92) fun d93 =>
  k38 (.op [] []) d93 T55 n62 l71
 ) (k38 (.op [] []) (.v undef) T55 n62 l71)) fun f38 d94 T56 n63 l72 =>
 bnd (zpick d81 d94 (.v (.bool false))) fun d95 =>
 opD.gjd (fun k39 => zgd d95 true (
  bnd (zbuild [(.int .i64 (.ofNat 0)), (.int .i64 (.ofNat 0)), (.int .i64 (.ofNat 0))] [(0, 1), (1, 1), (2, 1)] [] []) fun d96 =>
  k39 (.op [] []) d96 T56 n63 l72
 ) (k39 (.op [] []) (.v undef) T56 n63 l72)) fun f39 d97 T57 n64 l73 =>
 opD.gjd (fun k40 => zgd d95 true (
  bndR (F16 [d97, .e0] T57 n64) fun d98 T58 n65 l74 => fN (lowN n64 l74) fun l75 => bB (Nat.beq l75 n64) <|
  k40 (.call n64 n65) d98 T58 n65 l73
 ) (k40 (.op [] []) (.v undef) T57 n64 l73)) fun f40 d99 T59 n66 l76 =>
 opD.gjd (fun k41 => zgd d95 true (
  bnd (zun .not d99) fun d100 =>
  k41 (.op [] []) d100 T59 n66 l76
 ) (k41 (.op [] []) (.v undef) T59 n66 l76)) fun f41 d101 T60 n67 l77 =>
 bnd (zpick d95 d101 (.v (.bool false))) fun d102 =>
 opD.gjd (fun k42 => zgd d102 true (
  bnd (zload (some 3) T60 (.ptr n8 3 0 0)) fun d103 =>
  k42 (.op (ptr? (.ptr n8 3 0 0)) []) d103 T60 n67 l77
 ) (k42 (.op [] []) (.v undef) T60 n67 l77)) fun f42 d104 T61 n68 l78 =>
 opD.gjd (fun k43 => zgd d102 true (
  bndR (F16 [d104, .e0] T61 n68) fun d105 T62 n69 l79 => fN (lowN n68 l79) fun l80 => bB (Nat.beq l80 n68) <|
  k43 (.call n68 n69) d105 T62 n69 l78
 ) (k43 (.op [] []) (.v undef) T61 n68 l78)) fun f43 d106 T63 n70 l81 =>
 bnd (zpick d102 d106 (.v (.bool false))) fun d107 =>
 opD.gjd (fun k44 => zgd d107 true (
  bnd (zbuild [(.int .i64 (.ofNat 0)), (.int .u64 (.ofNat 0))] [(0, 1), (1, 1)] [0] [(.v (.int .i64 (.ofNat 17)))]) fun d108 =>
  k44 (.op [] []) d108 T63 n70 l81
 ) (k44 (.op [] []) (.v undef) T63 n70 l81)) fun f44 d109 T64 n71 l82 =>
 opD.gjd (fun k45 => zgd d107 true (
  bnd (zbuild [(.int .i64 (.ofNat 0)), (.int .u64 (.ofNat 0))] [(0, 1), (1, 1)] [0] [(.v (.int .i64 (.ofNat 3)))]) fun d110 =>
  k45 (.op [] []) d110 T64 n71 l82
 ) (k45 (.op [] []) (.v undef) T64 n71 l82)) fun f45 d111 T65 n72 l83 =>
 opD.gjd (fun k46 => zgd d107 true (
  bnd (zbuild [(.int .i64 (.ofNat 0)), (.int .u64 (.ofNat 0))] [(0, 1), (1, 1)] [0] [(.v (.int .i64 (.negSucc 3)))]) fun d112 =>
  k46 (.op [] []) d112 T65 n72 l83
 ) (k46 (.op [] []) (.v undef) T65 n72 l83)) fun f46 d113 T66 n73 l84 =>
 opD.gjd (fun k47 => zgd d107 true (
  bnd (zbuild [(.int .i64 (.ofNat 0)), (.int .u64 (.ofNat 0))] [(0, 1), (1, 1)] [0] [(.v (.int .i64 (.ofNat 23)))]) fun d114 =>
  k47 (.op [] []) d114 T66 n73 l84
 ) (k47 (.op [] []) (.v undef) T66 n73 l84)) fun f47 d115 T67 n74 l85 =>
 opD.gjd (fun k48 => zgd d107 true (
  bnd (zbuild [(.int .i64 (.ofNat 0)), (.int .u64 (.ofNat 0))] [(0, 1), (1, 1)] [0] [(.v (.int .i64 (.ofNat 0)))]) fun d116 =>
  k48 (.op [] []) d116 T67 n74 l85
 ) (k48 (.op [] []) (.v undef) T67 n74 l85)) fun f48 d117 T68 n75 l86 =>
 opD.gjd (fun k49 => zgd d107 true (
  bB (solidL 2 [d109, d111, d113, d115, d117]) <| fN (Nat.succ n75) fun n76 =>
  k49 (.op [] [n75]) (.vw n75 2 0 5) (Tr.set (some (xRows 40 2 [dcells d109, dcells d111, dcells d113, dcells d115, dcells d117])) T68 n75) n76 l86
 ) (k49 (.op [] []) (.v undef) T68 n75 l86)) fun f49 d118 T69 n77 l87 =>
 opD.gjd (fun k50 => zgd d107 true (
  bndR (F19 [d118] T69 n77) fun d119 T70 n78 l88 => fN (lowN n77 l88) fun l89 => bB (Nat.beq l89 n77) <|
  k50 (.call n77 n78) d119 T70 n78 l87
 ) (k50 (.op [] []) (.v undef) T69 n77 l87)) fun f50 d120 T71 n79 l90 =>
 opD.gjd (fun k51 => zgd d107 true (
  bB (solidL 1 [(.v (.int .i64 (.ofNat 0))), (.v (.int .i64 (.ofNat 2)))]) <| fN (Nat.succ n79) fun n80 =>
  k51 (.op [] [n79]) (.vw n79 1 0 2) (Tr.set (some (xRows 3 1 [dcells (.v (.int .i64 (.ofNat 0))), dcells (.v (.int .i64 (.ofNat 2)))])) T71 n79) n80 l90
 ) (k51 (.op [] []) (.v undef) T71 n79 l90)) fun f51 d121 T72 n81 l91 =>
 opD.gjd (fun k52 => zgd d107 true (
  bndR (F18 [d120, d121] T72 n81) fun d122 T73 n82 l92 => fN (lowN n81 l92) fun l93 => bB (Nat.beq l93 n81) <|
  k52 (.call n81 n82) d122 T73 n82 l91
 ) (k52 (.op [] []) (.v undef) T72 n81 l91)) fun f52 d123 T74 n83 l94 =>
 bnd (zpick d107 d123 (.v (.bool false))) fun d124 =>
 opD.gjd (fun k53 => zgd d124 true (
  bndR (F9 [] T74 n83) fun d125 T75 n84 l95 => fN (lowN n83 l95) fun l96 => bB (Nat.beq l96 n83) <|
  k53 (.call n83 n84) d125 T75 n84 l94
 ) (k53 (.op [] []) (.v undef) T74 n83 l94)) fun f53 d126 T76 n85 l97 =>
 opD.gjd (fun k54 => zgd d124 true (
  bnd (zfield 4 none d126) fun d127 =>
  k54 (.op [] []) d127 T76 n85 l97
 ) (k54 (.op [] []) (.v undef) T76 n85 l97)) fun f54 d128 T77 n86 l98 =>
 opD.gjd (fun k55 => zgd d124 true (
  bnd (zindexAddr (.sl 13) d128 (.v (.int .i64 (.ofNat 0)))) fun d129 =>
  k55 (.op [] []) d129 T77 n86 l98
 ) (k55 (.op [] []) (.v undef) T77 n86 l98)) fun f55 d130 T78 n87 l99 =>
 opD.gjd (fun k56 => zgd d124 true (
  bnd (zload (some 13) T78 d130) fun d131 =>
  k56 (.op (ptr? d130) []) d131 T78 n87 l99
 ) (k56 (.op [] []) (.v undef) T78 n87 l99)) fun f56 d132 T79 n88 l100 =>
 opD.gjd (fun k57 => zgd d124 true (
  bnd (zbuild [(.int .i64 (.ofNat 0)), (.int .i64 (.ofNat 0)), (.int .i64 (.ofNat 0)), (.int .i64 (.ofNat 0)), (.int .i64 (.ofNat 0)), (.int .i64 (.ofNat 0)), (.int .i64 (.ofNat 0)), (.bool false), (.int .u64 (.ofNat 0)), (.int .u64 (.ofNat 0)), (.int .u64 (.ofNat 0)), (.int .u64 (.ofNat 0)), (.int .u64 (.ofNat 0))] [(0, 1), (1, 1), (2, 1), (3, 1), (4, 1), (5, 1), (6, 1), (7, 1), (8, 1), (9, 4)] [0, 3] [(.v (.int .i64 (.ofNat 1))), (.v (.int .i64 (.ofNat 64)))]) fun d133 =>
  k57 (.op [] []) d133 T79 n88 l100
 ) (k57 (.op [] []) (.v undef) T79 n88 l100)) fun f57 d134 T80 n89 l101 =>
 opD.gjd (fun k58 => zgd d124 true (
  bnd (zbin (.ag [.int .i64, .int .i64, .int .i64, .int .i64, .int .i64, .int .i64, .int .i64, .bool, .int .u64, .int .u64, .int .u64, .int .u64, .int .u64]) .eql d132 d134) fun d135 =>
  k58 (.op [] []) d135 T80 n89 l101
 ) (k58 (.op [] []) (.v undef) T80 n89 l101)) fun f58 d136 T81 n90 l102 =>
 bnd (zpick d124 d136 (.v (.bool false))) fun d137 =>
 bB (apt f6 f15) <|
 bB (apt f17 f21) <|
 bB (apt f24 f26) <|
 bB (apt f24 f28) <|
 bB (apt f31 f36) <|
 bB (apt f49 f51) <|
 bB (apt f50 f51) <|
 finK T nx d137 T81 n90 l102
 )
theorem e3 (T : ST) (nx : Nat) : fnK Tryz.prog [(7, F7), (9, F9), (8, F8), (10, F10), (11, F11), (12, F12), (13, F13), (14, F14), (15, F15), (16, F16), (17, F17), (19, F19), (18, F18)] (drD Tryz.prog [(7, F7), (9, F9), (8, F8), (10, F10), (11, F11), (12, F12), (13, F13), (14, F14), (15, F15), (16, F16), (17, F17), (19, F19), (18, F18)]) FU Tryz.f3 (.s .o (.s (.s .o (.c (.s .o .o) .o)) (.s .o (.s .o (.s .o (.s .o (.s .o (.s .o (.s .o (.s .o .o)))))))))) [] T nx = s3  T nx := by kernel_rfl
noncomputable def F3 : Sem := ar0 s3
theorem k3 : FnOk Tryz.prog 3 F3 := ar0_ok (fnK_ok (by kernel_rfl) (CallsOk.cons h7 k7 (CallsOk.cons h9 k9 (CallsOk.cons h8 k8 (CallsOk.cons h10 k10 (CallsOk.cons h11 k11 (CallsOk.cons h12 k12 (CallsOk.cons h13 k13 (CallsOk.cons h14 k14 (CallsOk.cons h15 k15 (CallsOk.cons h16 k16 (CallsOk.cons h17 k17 (CallsOk.cons h19 k19 (CallsOk.cons h18 k18 CallsOk.nil))))))))))))) (drD_ok hmix (CallsOk.cons h7 k7 (CallsOk.cons h9 k9 (CallsOk.cons h8 k8 (CallsOk.cons h10 k10 (CallsOk.cons h11 k11 (CallsOk.cons h12 k12 (CallsOk.cons h13 k13 (CallsOk.cons h14 k14 (CallsOk.cons h15 k15 (CallsOk.cons h16 k16 (CallsOk.cons h17 k17 (CallsOk.cons h19 k19 (CallsOk.cons h18 k18 CallsOk.nil))))))))))))))) e3
end Go.Abs
