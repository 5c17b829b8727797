/- Functions of the program as what they run as, printed by a program of this session. -/
import Derived.Test.YtmmfmiamkgmikaaGreatK4
set_option linter.unusedVariables false
set_option maxRecDepth 100000
open Go Go.Proofs
namespace Go.Abs
/- reeve/thing.New -/
theorem h57 : HasFn Tryz.prog 57 := ⟨by kernel_rfl⟩
noncomputable def s57 (a0 a1 a2 : D) : ST → Nat → Option Rt := fun T nx =>
 fN (Nat.succ nx) fun n1 =>
 bnd (zbuild [(.int .i64 (.ofNat 0)), (.int .i64 (.ofNat 0)), (.int .i64 (.ofNat 0)), (.int .i64 (.ofNat 0)), (.int .i64 (.ofNat 0)), (.int .i64 (.ofNat 0)), (.int .i64 (.ofNat 0)), (.bool false), (.int .u64 (.ofNat 0)), (.int .u64 (.ofNat 0)), (.int .u64 (.ofNat 0)), (.int .u64 (.ofNat 0)), (.int .u64 (.ofNat 0))] [(0, 1), (1, 1), (2, 1), (3, 1), (4, 1), (5, 1), (6, 1), (7, 1), (8, 1), (9, 4)] [0] [a0]) fun d1 =>
 fN (Nat.succ n1) fun n2 =>
 zstore 13 (Tr.set (some (XO.mk 51 13 1 (.n [(.v (.int .i64 (.ofNat 0))), (.v (.int .i64 (.ofNat 0))), (.v (.int .i64 (.ofNat 0))), (.v (.int .i64 (.ofNat 0))), (.v (.int .i64 (.ofNat 0))), (.v (.int .i64 (.ofNat 0))), (.v (.int .i64 (.ofNat 0))), (.v (.bool false)), (.v (.int .u64 (.ofNat 0))), (.v (.int .u64 (.ofNat 0))), (.v (.int .u64 (.ofNat 0))), (.v (.int .u64 (.ofNat 0))), (.v (.int .u64 (.ofNat 0)))] .e .e))) (Tr.set (some (XO.mk 51 13 1 (.n [(.v (.int .i64 (.ofNat 0))), (.v (.int .i64 (.ofNat 0))), (.v (.int .i64 (.ofNat 0))), (.v (.int .i64 (.ofNat 0))), (.v (.int .i64 (.ofNat 0))), (.v (.int .i64 (.ofNat 0))), (.v (.int .i64 (.ofNat 0))), (.v (.bool false)), (.v (.int .u64 (.ofNat 0))), (.v (.int .u64 (.ofNat 0))), (.v (.int .u64 (.ofNat 0))), (.v (.int .u64 (.ofNat 0))), (.v (.int .u64 (.ofNat 0)))] .e .e))) T nx) n1) (.ptr n1 13 0 0) d1 fun r1 T1 => fN (lowN nx r1) fun l1 =>
 jn (fun v1 T2 n3 l2 => unc v1 fun d2 w1 => unc w1 fun d3 w2 =>
  bnd (zload (some 13) T2 d3) fun d4 =>
  bndR (F113 [d4] T2 n3) fun d5 T3 n4 l3 => fN (lowN l2 l3) fun l4 =>
  bnd (zun .not d5) fun d6 =>
  cnd d6 (
   bnd (zbuild [(.int .i64 (.ofNat 0)), (.int .i64 (.ofNat 0)), (.int .i64 (.ofNat 0)), (.int .i64 (.ofNat 0)), (.int .i64 (.ofNat 0)), (.int .i64 (.ofNat 0)), (.int .i64 (.ofNat 0)), (.bool false), (.int .u64 (.ofNat 0)), (.int .u64 (.ofNat 0)), (.int .u64 (.ofNat 0)), (.int .u64 (.ofNat 0)), (.int .u64 (.ofNat 0))] [(0, 1), (1, 1), (2, 1), (3, 1), (4, 1), (5, 1), (6, 1), (7, 1), (8, 1), (9, 4)] [] []) fun d7 =>
   zstore 13 T3 d2 d7 fun r2 T4 => fN (lowN l4 r2) fun l5 =>
 bnd (zres (some 13) T4 d2) fun d8 =>
 finK T nx (.tup [d8, (.v (.bool false))]) T4 n4 l5
  ) (
  bnd (zload (some 13) T3 d3) fun d9 =>
  zstore 13 T3 d2 d9 fun r3 T5 => fN (lowN l4 r3) fun l6 =>
 bnd (zres (some 13) T5 d2) fun d10 =>
 finK T nx (.tup [d10, (.v (.bool true))]) T5 n4 l6
  )) fun K1 =>
 bnd (zbin .i .eql a0 (.v (.int .i64 (.ofNat 1)))) fun d11 =>
 cnd d11 (
  bnd (zfieldAddr 3 (.ptr n1 13 0 0)) fun d12 =>
  zstore 1 T1 d12 a1 fun r4 T6 => fN (lowN l1 r4) fun l7 =>
 K1 [(.ptr nx 13 0 0), (.ptr n1 13 0 0)] T6 n2 l7
 ) (
  bnd (zbin .i .eql a0 (.v (.int .i64 (.ofNat 2)))) fun d13 =>
  cnd d13 (
   bnd (zfieldAddr 1 (.ptr n1 13 0 0)) fun d14 =>
   zstore 1 T1 d14 a1 fun r5 T7 => fN (lowN l1 r5) fun l8 =>
   bnd (zfieldAddr 2 (.ptr n1 13 0 0)) fun d15 =>
   zstore 1 T7 d15 a2 fun r6 T8 => fN (lowN l8 r6) fun l9 =>
 K1 [(.ptr nx 13 0 0), (.ptr n1 13 0 0)] T8 n2 l9
  ) (
   jn (fun v2 T9 n5 l10 => unc v2 fun d16 w3 => unc w3 fun d17 w4 => unc w4 fun d18 w5 =>
    cnd d18 (
 K1 [d16, d17] T9 n5 l10
    ) (
     bnd (zbuild [(.int .i64 (.ofNat 0)), (.int .i64 (.ofNat 0)), (.int .i64 (.ofNat 0)), (.int .i64 (.ofNat 0)), (.int .i64 (.ofNat 0)), (.int .i64 (.ofNat 0)), (.int .i64 (.ofNat 0)), (.bool false), (.int .u64 (.ofNat 0)), (.int .u64 (.ofNat 0)), (.int .u64 (.ofNat 0)), (.int .u64 (.ofNat 0)), (.int .u64 (.ofNat 0))] [(0, 1), (1, 1), (2, 1), (3, 1), (4, 1), (5, 1), (6, 1), (7, 1), (8, 1), (9, 4)] [] []) fun d19 =>
     zstore 13 T9 d16 d19 fun r7 T10 => fN (lowN l10 r7) fun l11 =>
 bnd (zres (some 13) T10 d16) fun d20 =>
 finK T nx (.tup [d20, (.v (.bool false))]) T10 n5 l11
    )) fun K2 =>
   bnd (zbin .i .eql a0 (.v (.int .i64 (.ofNat 3)))) fun d21 =>
   cnd d21 (
   K2 [(.ptr nx 13 0 0), (.ptr n1 13 0 0), d21] T1 n2 l1
   ) (
    bnd (zbin .i .eql a0 (.v (.int .i64 (.ofNat 4)))) fun d22 =>
    cnd d22 (
   K2 [(.ptr nx 13 0 0), (.ptr n1 13 0 0), d22] T1 n2 l1
    ) (
     bnd (zbin .i .eql a0 (.v (.int .i64 (.ofNat 5)))) fun d23 =>
   K2 [(.ptr nx 13 0 0), (.ptr n1 13 0 0), d23] T1 n2 l1
    )
   )
  )
 )
theorem e57 (a0 a1 a2 : D) (T : ST) (nx : Nat) : fnK Tryz.prog [(113, F113)] dr0 FU Tryz.f57 (.s .o (.s .o (.j [6, 8] (.s .o (.b (.s .o (.c .o (.s .o (.c .o (.j [6, 8, 23] (.s .o (.c .o (.s .o (.c .o .o)))) (.c .o (.s .o .o))))))))) (.s (.s .o (.c (.s .o .o) .o)) (.s .o .o))))) [a0, a1, a2] T nx = s57 a0 a1 a2 T nx := by kernel_rfl
noncomputable def F57 : Sem := ar3 s57
theorem k57 : FnOk Tryz.prog 57 F57 := ar3_ok (fnK_ok (by kernel_rfl) (CallsOk.cons h113 k113 CallsOk.nil) dr0_ok) e57
/- reeve/state.New -/
theorem h10 : HasFn Tryz.prog 10 := ⟨by kernel_rfl⟩
noncomputable def s10 (fu : Nat) (a0 a1 : D) : ST → Nat → Option Rt := fun T nx =>
 bB (solidB a0) <| fN (Nat.succ nx) fun n1 => fN (dcells a0).length fun e1 =>
 fN (Nat.succ n1) fun n2 =>
 bndR (F57 [(.v (.int .i64 (.ofNat 1))), a1, (.v (.int .i64 (.ofNat 0)))] (Tr.set (some (XO.mk 32 5 1 (.n [(.v (.int .i64 (.ofNat 0))), (.v (.int .i64 (.ofNat 0))), (.v (.int .i64 (.ofNat 0))), .e0, .e0] .e .e))) (Tr.set (some (xRow 28 (dcells a0))) T nx) n1) n2) fun d1 T1 n3 l1 => fN (lowN nx l1) fun l2 =>
 bnd (zextract d1 0) fun d2 =>
 bnd (zextract d1 1) fun d3 =>
 fN (Nat.succ n3) fun n4 =>
 zstore 13 (Tr.set (some (XO.mk 51 13 1 (.n [(.v (.int .i64 (.ofNat 0))), (.v (.int .i64 (.ofNat 0))), (.v (.int .i64 (.ofNat 0))), (.v (.int .i64 (.ofNat 0))), (.v (.int .i64 (.ofNat 0))), (.v (.int .i64 (.ofNat 0))), (.v (.int .i64 (.ofNat 0))), (.v (.bool false)), (.v (.int .u64 (.ofNat 0))), (.v (.int .u64 (.ofNat 0))), (.v (.int .u64 (.ofNat 0))), (.v (.int .u64 (.ofNat 0))), (.v (.int .u64 (.ofNat 0)))] .e .e))) T1 n3) (.ptr n3 13 0 0) d2 fun r1 T2 => fN (lowN l2 r1) fun l3 =>
 bnd (zload (some 3) T2 (.ptr nx e1 0 0)) fun d4 =>
 bndR (F58 [d4] T2 n4) fun d5 T3 n5 l4 => fN (lowN l3 l4) fun l5 =>
 bnd (zun .not d5) fun d6 =>
 opG.gjn (fun k1 => zgd d6 false (
  k1 [] [] d3 T3 n5 l5
 ) (k1 [] [] (.v undef) T3 n5 l5)) fun _ _ d7 T4 n6 l6 =>
 opG.gjn (fun k2 => zgd d6 false (
  bnd (zun .not d7) fun d8 =>
  k2 [] [] d8 T4 n6 l6
 ) (k2 [] [] (.v undef) T4 n6 l6)) fun _ _ d9 T5 n7 l7 =>
 bnd (zpick d6 (.v (.bool true)) d9) fun d10 =>
 cnd d10 (
  bnd (zbuild [(.int .i64 (.ofNat 0)), (.int .i64 (.ofNat 0)), (.int .i64 (.ofNat 0)), (.slice none 0 0), (.slice none 0 0)] [(0, 3), (3, 1), (4, 1)] [] []) fun d11 =>
  zstore 5 T5 (.ptr n1 5 0 0) d11 fun r2 T6 => fN (lowN l7 r2) fun l8 =>
 bnd (zres (some 5) T6 (.ptr n1 5 0 0)) fun d12 =>
 finK T nx (.tup [d12, (.v (.int .i64 (.ofNat 1)))]) T6 n7 l8
 ) (
 bnd (zload (some 3) T5 (.ptr nx e1 0 0)) fun d13 =>
 bnd (zfieldAddr 1 (.ptr nx e1 0 0)) fun d14 =>
 bnd (zload none T5 d14) fun d15 =>
 zmakeSlice 113 5 40 [(.int .i64 (.ofNat 0)), (.int .i64 (.ofNat 0)), (.int .i64 (.ofNat 0)), (.int .i64 (.ofNat 0)), (.int .i64 (.ofNat 0))] T5 n7 d15 d15 fun d16 T7 => fN (Nat.succ n7) fun n8 =>
 bnd (zfieldAddr 2 (.ptr nx e1 0 0)) fun d17 =>
 bnd (zload none T7 d17) fun d18 =>
 zmakeSlice 51 13 104 [(.int .i64 (.ofNat 0)), (.int .i64 (.ofNat 0)), (.int .i64 (.ofNat 0)), (.int .i64 (.ofNat 0)), (.int .i64 (.ofNat 0)), (.int .i64 (.ofNat 0)), (.int .i64 (.ofNat 0)), (.bool false), (.int .u64 (.ofNat 0)), (.int .u64 (.ofNat 0)), (.int .u64 (.ofNat 0)), (.int .u64 (.ofNat 0)), (.int .u64 (.ofNat 0))] T7 n8 d18 d18 fun d19 T8 => fN (Nat.succ n8) fun n9 =>
 bnd (zbuild [(.int .i64 (.ofNat 0)), (.int .i64 (.ofNat 0)), (.int .i64 (.ofNat 0)), (.slice none 0 0), (.slice none 0 0)] [(0, 3), (3, 1), (4, 1)] [0, 1, 2] [d13, d16, d19]) fun d20 =>
 fN (Nat.succ n9) fun n10 =>
 zstore 5 (Tr.set (some (XO.mk 32 5 1 (.n [(.v (.int .i64 (.ofNat 0))), (.v (.int .i64 (.ofNat 0))), (.v (.int .i64 (.ofNat 0))), .e0, .e0] .e .e))) T8 n9) (.ptr n9 5 0 0) d20 fun r3 T9 => fN (lowN l7 r3) fun l9 =>
 bB (apt (.op (ptr? (.ptr nx e1 0 0)) []) (.op [] [n7])) <|
 bB (apt (.op (ptr? (.ptr nx e1 0 0)) []) (.op [] [n8])) <|
 bB (apt (.op (ptr? (.ptr nx e1 0 0)) []) (.op [] [n9])) <|
 bB (apt (.op (ptr? d14) []) (.op [] [n8])) <|
 bB (apt (.op (ptr? d14) []) (.op [] [n9])) <|
 bB (apt (.op [] [n7]) (.op (ptr? d17) [])) <|
 bB (apt (.op [] [n7]) (.op [] [n8])) <|
 bB (apt (.op [] [n7]) (.op [] [n9])) <|
 bB (apt (.op (ptr? d17) []) (.op [] [n9])) <|
 bB (apt (.op [] [n8]) (.op [] [n9])) <|
 jn (fun v1 T10 n11 l10 => unc v1 fun d21 w1 => unc w1 fun d22 w2 => unc w2 fun d23 w3 => unc w3 fun d24 w4 =>
  bnd (zfieldAddr 4 d24) fun d25 =>
  bnd (zload none T10 d25) fun d26 =>
  bnd (zload (some 13) T10 d23) fun d27 =>
  bnd (zindexAddr (.sl 13) d26 (.v (.int .i64 (.ofNat 0)))) fun d28 =>
  zstore 13 T10 d28 d27 fun r4 T11 => fN (lowN l10 r4) fun l11 =>
  bnd (zfieldAddr 4 d24) fun d29 =>
  bnd (zload none T11 d29) fun d30 =>
  bndR (F57 [(.v (.int .i64 (.ofNat 3))), (.v (.int .i64 (.ofNat 0))), (.v (.int .i64 (.ofNat 0)))] T11 n11) fun d31 T12 n12 l12 => fN (lowN n11 l12) fun l13 => bB (Nat.beq l13 n11) <|
  bnd (zextract d31 0) fun d32 =>
  bnd (zextract d31 1) fun d33 =>
  bnd (zindexAddr (.sl 13) d30 (.v (.int .i64 (.ofNat 1)))) fun d34 =>
  zstore 13 T12 d34 d32 fun r5 T13 => fN (lowN l11 r5) fun l14 =>
  bB (apt (.op (ptr? d29) []) (.call n11 n12)) <|
  bnd (zload (some 3) T13 d21) fun d35 =>
  bndR (F59 [d35, (.v (.int .i64 (.ofNat 0)))] T13 n12) fun d36 T14 n13 l15 => fN (lowN l14 l15) fun l16 =>
  bnd (zfieldAddr 3 d24) fun d37 =>
  bnd (zload none T14 d37) fun d38 =>
  bnd (zbuild [(.int .i64 (.ofNat 0)), (.int .i64 (.ofNat 0)), (.int .i64 (.ofNat 0)), (.int .i64 (.ofNat 0))] [(0, 1), (1, 1), (2, 1), (3, 1)] [0, 1, 2] [(.v (.int .i64 (.ofNat 1))), (.v (.int .i64 (.ofNat 0))), (.v (.int .i64 (.ofNat 7)))]) fun d39 =>
  bnd (zindexAddr (.sl 5) d38 d36) fun d40 =>
  bnd (zfieldAddr 0 d40) fun d41 =>
  zstore 4 T14 d41 d39 fun r6 T15 => fN (lowN l16 r6) fun l17 =>
  jn (fun v2 T16 n14 l18 => unc v2 fun d42 w5 => unc w5 fun d43 w6 => unc w6 fun d44 w7 =>
   bnd (zfieldAddr 3 d43) fun d45 =>
   bnd (zload none T16 d45) fun d46 =>
   bnd (zbin .i .add d44 (.v (.int .i64 (.ofNat 1)))) fun d47 =>
   bnd (zindexAddr (.sl 5) d46 d47) fun d48 =>
   bnd (zfieldAddr 4 d48) fun d49 =>
   zstore 1 T16 d49 (.v (.int .i64 (.negSucc 0))) fun r7 T17 => fN (lowN l18 r7) fun l19 =>
   bnd (zload (some 5) T17 d43) fun d50 =>
   zstore 5 T17 d42 d50 fun r8 T18 => fN (lowN l19 r8) fun l20 =>
 bnd (zres (some 5) T18 d42) fun d51 =>
 finK T nx (.tup [d51, (.v (.int .i64 (.ofNat 0)))]) T18 n14 l20) fun K1 =>
  bnd (zfieldAddr 0 d21) fun d52 =>
  bnd (zload none T15 d52) fun d53 =>
  lpc fu (fun go1 v3 T19 n15 l21 => unc v3 fun d54 w8 => unc w8 fun d55 w9 => unc w9 fun d56 w10 => unc w10 fun d57 w11 => unc w11 fun d58 w12 => unc w12 fun d59 w13 =>
   bnd (zbin .i .lss d59 d58) fun d60 =>
   cnd d60 (
   bnd (zload (some 3) T19 d54) fun d61 =>
   bndR (F59 [d61, d59] T19 n15) fun d62 T20 n16 l22 => fN (lowN l21 l22) fun l23 =>
   bnd (zfieldAddr 4 d56) fun d63 =>
   bnd (zload none T20 d63) fun d64 =>
   bnd (zbin .i .add (.v (.int .i64 (.ofNat 2))) d59) fun d65 =>
   bndR (F57 [(.v (.int .i64 (.ofNat 2))), (.v (.int .i64 (.ofNat 3))), d62] T20 n16) fun d66 T21 n17 l24 => fN (lowN n16 l24) fun l25 => bB (Nat.beq l25 n16) <|
   bnd (zextract d66 0) fun d67 =>
   bnd (zextract d66 1) fun d68 =>
   bnd (zindexAddr (.sl 13) d64 d65) fun d69 =>
   zstore 13 T21 d69 d67 fun r9 T22 => fN (lowN l23 r9) fun l26 =>
   bB (apt (.op (ptr? d63) []) (.call n16 n17)) <|
   bnd (zfieldAddr 3 d56) fun d70 =>
   bnd (zload none T22 d70) fun d71 =>
   bnd (zbin .i .add d62 (.v (.int .i64 (.ofNat 1)))) fun d72 =>
   bnd (zbuild [(.int .i64 (.ofNat 0)), (.int .i64 (.ofNat 0)), (.int .i64 (.ofNat 0)), (.int .i64 (.ofNat 0))] [(0, 1), (1, 1), (2, 1), (3, 1)] [0, 1, 2] [(.v (.int .i64 (.ofNat 3))), (.v (.int .i64 (.ofNat 1))), (.v (.int .i64 (.ofNat 7)))]) fun d73 =>
   bnd (zbin .i .add d57 (.v (.int .i64 (.ofNat 1)))) fun d74 =>
   bnd (zbuild [(.int .i64 (.ofNat 0)), (.int .i64 (.ofNat 0)), (.int .i64 (.ofNat 0)), (.int .i64 (.ofNat 0)), (.int .i64 (.ofNat 0))] [(0, 4), (4, 1)] [0, 1] [d73, d74]) fun d75 =>
   bnd (zindexAddr (.sl 5) d71 d72) fun d76 =>
   zstore 5 T22 d76 d75 fun r10 T23 => fN (lowN l26 r10) fun l27 =>
   bnd (zbin .i .add d59 (.v (.int .i64 (.ofNat 1)))) fun d77 =>
  go1 [d54, d55, d56, d57, d58, d77] T23 n17 l27
   ) (
  K1 [d55, d56, d57] T19 n15 l21
   )) [d21, d22, d24, d36, d53, (.v (.int .i64 (.ofNat 0)))] T15 n13 l17) fun K2 =>
 bnd (zfieldAddr 3 (.ptr n9 5 0 0)) fun d78 =>
 bnd (zload none T9 d78) fun d79 =>
 bnd (zlen true d79) fun d80 =>
 lpc fu (fun go2 v4 T24 n18 l28 => unc v4 fun d81 w14 => unc w14 fun d82 w15 => unc w15 fun d83 w16 => unc w16 fun d84 w17 => unc w17 fun d85 w18 => unc w18 fun d86 w19 =>
  bnd (zbin .i .lss d86 d85) fun d87 =>
  cnd d87 (
  bnd (zfieldAddr 3 d84) fun d88 =>
  bnd (zload none T24 d88) fun d89 =>
  bnd (zindexAddr (.sl 5) d89 d86) fun d90 =>
  bnd (zfieldAddr 4 d90) fun d91 =>
  zstore 1 T24 d91 (.v (.int .i64 (.negSucc 0))) fun r11 T25 => fN (lowN l28 r11) fun l29 =>
  bnd (zbin .i .add d86 (.v (.int .i64 (.ofNat 1)))) fun d92 =>
 go2 [d81, d82, d83, d84, d85, d92] T25 n18 l29
  ) (
 K2 [d81, d82, d83, d84] T24 n18 l28
  )) [(.ptr nx e1 0 0), (.ptr n1 5 0 0), (.ptr n3 13 0 0), (.ptr n9 5 0 0), d80, (.v (.int .i64 (.ofNat 0)))] T9 n10 l9
 )
theorem e10 (fu : Nat) (a0 a1 : D) (T : ST) (nx : Nat) : fnK Tryz.prog [(57, F57), (58, F58), (59, F59)] (drD Tryz.prog [(57, F57), (58, F58), (59, F59)]) fu Tryz.f10 (.s .o (.s .o (.s (.s .o (.c (.s .o .o) .o)) (.s .o (.j [2, 4, 6, 8] (.s .o (.b (.l [2, 4, 6, 8, 36, 37] (.s .o (.s (.c .o .o) (.s (.b (.s .o .o)) .o)))))) (.s .o (.s .o (.s .o (.s .o (.j [4, 8, 10] (.s .o (.b (.l [2, 4, 8, 10, 66, 67] (.s .o (.s (.c .o .o) (.s (.b (.s .o (.s .o (.s .o .o)))) .o)))))) (.s .o (.s .o .o)))))))))))) [a0, a1] T nx = s10 fu a0 a1 T nx := by kernel_rfl
noncomputable def F10 : Sem := ar2 (s10 FU)
theorem k10 : FnOk Tryz.prog 10 F10 := ar2_ok (fnK_ok (by kernel_rfl) (CallsOk.cons h57 k57 (CallsOk.cons h58 k58 (CallsOk.cons h59 k59 CallsOk.nil))) (drD_ok hmix (CallsOk.cons h57 k57 (CallsOk.cons h58 k58 (CallsOk.cons h59 k59 CallsOk.nil))))) (e10 FU)
/- reeve/geo.Plain -/
theorem h11 : HasFn Tryz.prog 11 := ⟨by kernel_rfl⟩
noncomputable def s11 : ST → Nat → Option Rt := fun T nx =>
 fN (Nat.succ nx) fun n1 =>
 bnd (zbuild [(.int .i64 (.ofNat 0)), (.int .i64 (.ofNat 0)), (.int .i64 (.ofNat 0))] [(0, 1), (1, 1), (2, 1)] [0, 1, 2] [(.v (.int .i64 (.ofNat 2))), (.v (.int .i64 (.ofNat 32))), (.v (.int .i64 (.ofNat 16)))]) fun d1 =>
 zstore 3 (Tr.set (some (XO.mk 28 3 1 (.n [(.v (.int .i64 (.ofNat 0))), (.v (.int .i64 (.ofNat 0))), (.v (.int .i64 (.ofNat 0)))] .e .e))) T nx) (.ptr nx 3 0 0) d1 fun r1 T1 => fN (lowN nx r1) fun l1 =>
 bnd (zres (some 3) T1 (.ptr nx 3 0 0)) fun d2 =>
 finK T nx d2 T1 n1 l1
theorem e11 (T : ST) (nx : Nat) : fnK Tryz.prog [] dr0 FU Tryz.f11 (.s .o (.s .o .o)) [] T nx = s11  T nx := by kernel_rfl
noncomputable def F11 : Sem := ar0 s11
theorem k11 : FnOk Tryz.prog 11 F11 := ar0_ok (fnK_ok (by kernel_rfl) CallsOk.nil dr0_ok) e11
/- reeve/reevelaw23.first -/
theorem h9 : HasFn Tryz.prog 9 := ⟨by kernel_rfl⟩
noncomputable def s9 : ST → Nat → Option Rt := fun T nx =>
 fN (Nat.succ nx) fun n1 =>
 bndR (F11 [] (Tr.set (some (XO.mk 32 5 1 (.n [(.v (.int .i64 (.ofNat 0))), (.v (.int .i64 (.ofNat 0))), (.v (.int .i64 (.ofNat 0))), .e0, .e0] .e .e))) T nx) n1) fun d1 T1 n2 l1 => fN (lowN nx l1) fun l2 =>
 bndR (F10 [d1, (.v (.int .i64 (.ofNat 64)))] T1 n2) fun d2 T2 n3 l3 => fN (lowN l2 l3) fun l4 =>
 bnd (zextract d2 0) fun d3 =>
 bnd (zextract d2 1) fun d4 =>
 fN (Nat.succ n3) fun n4 =>
 zstore 5 (Tr.set (some (XO.mk 32 5 1 (.n [(.v (.int .i64 (.ofNat 0))), (.v (.int .i64 (.ofNat 0))), (.v (.int .i64 (.ofNat 0))), .e0, .e0] .e .e))) T2 n3) (.ptr n3 5 0 0) d3 fun r1 T3 => fN (lowN l4 r1) fun l5 =>
 bnd (zload (some 5) T3 (.ptr n3 5 0 0)) fun d5 =>
 zstore 5 T3 (.ptr nx 5 0 0) d5 fun r2 T4 => fN (lowN l5 r2) fun l6 =>
 bnd (zres (some 5) T4 (.ptr nx 5 0 0)) fun d6 =>
 finK T nx d6 T4 n4 l6
theorem e9 (T : ST) (nx : Nat) : fnK Tryz.prog [(11, F11), (10, F10)] dr0 FU Tryz.f9 (.s .o (.s .o (.s .o .o))) [] T nx = s9  T nx := by kernel_rfl
noncomputable def F9 : Sem := ar0 s9
theorem k9 : FnOk Tryz.prog 9 F9 := ar0_ok (fnK_ok (by kernel_rfl) (CallsOk.cons h11 k11 (CallsOk.cons h10 k10 CallsOk.nil)) dr0_ok) e9
/- internal/bytealg.IndexByteString -/
noncomputable def F275 : Sem := xByte
theorem x275 : XOk Tryz.prog 275 F275 := xByte_ok (fn := Tryz.f275) (by kernel_rfl) (by kernel_rfl) (by kernel_rfl) (by kernel_rfl) (by kernel_rfl)
/- internal/stringslite.IndexByte -/
theorem h264 : HasFn Tryz.prog 264 := ⟨by kernel_rfl⟩
noncomputable def s264 (a0 a1 : D) : ST → Nat → Option Rt := fun T nx =>
 bndR (F275 [a0, a1] T nx) fun d1 T1 n1 l1 => fN (lowN nx l1) fun l2 =>
 finK T nx d1 T1 n1 l2
theorem e264 (a0 a1 : D) (T : ST) (nx : Nat) : fnK Tryz.prog [(275, F275)] dr0 FU Tryz.f264 (.s .o (.s .o .o)) [a0, a1] T nx = s264 a0 a1 T nx := by kernel_rfl
noncomputable def F264 : Sem := ar2 s264
theorem k264 : FnOk Tryz.prog 264 F264 := ar2_ok (fnK_ok (by kernel_rfl) (CallsOk.ext x275 CallsOk.nil) dr0_ok) e264
/- internal/bytealg.IndexString -/
noncomputable def F265 : Sem := noF
theorem x265 : XOk Tryz.prog 265 F265 := noF_x
/- internal/bytealg.Cutover -/
theorem h266 : HasFn Tryz.prog 266 := ⟨by kernel_rfl⟩
noncomputable def s266 (a0 : D) : ST → Nat → Option Rt := fun T nx =>
 bnd (zbin .i .add a0 (.v (.int .i64 (.ofNat 16)))) fun d1 =>
 bnd (zbin .i .quo d1 (.v (.int .i64 (.ofNat 8)))) fun d2 =>
 finK T nx d2 T nx nx
theorem e266 (a0 : D) (T : ST) (nx : Nat) : fnK Tryz.prog [] dr0 FU Tryz.f266 (.s .o (.s .o .o)) [a0] T nx = s266 a0 T nx := by kernel_rfl
noncomputable def F266 : Sem := ar1 s266
theorem k266 : FnOk Tryz.prog 266 F266 := ar1_ok (fnK_ok (by kernel_rfl) CallsOk.nil dr0_ok) e266
/- internal/bytealg.hashStr[string] -/
theorem h276 : HasFn Tryz.prog 276 := ⟨by kernel_rfl⟩
noncomputable def s276 (fu : Nat) (a0 : D) : ST → Nat → Option Rt := fun T nx =>
 jn (fun v1 T1 n1 l1 => unc v1 fun d1 w1 => unc w1 fun d2 w2 =>
  jn (fun v2 T2 n2 l2 => unc v2 fun d3 w3 => unc w3 fun d4 w4 =>
 finK T nx (.tup [d3, d4]) T2 n2 l2) fun K1 =>
  bnd (zlen false d1) fun d5 =>
  lpc fu (fun go1 v3 T3 n3 l3 => unc v3 fun d6 w5 => unc w5 fun d7 w6 => unc w6 fun d8 w7 => unc w7 fun d9 w8 =>
   bnd (zbin .i .gtr d9 (.v (.int .i64 (.ofNat 0)))) fun d10 =>
   cnd d10 (
   jn (fun v4 T4 n4 l4 => unc v4 fun d11 w9 => unc w9 fun d12 w10 => unc w10 fun d13 w11 => unc w11 fun d14 w12 =>
    bnd (zbin .i .mul d13 d13) fun d15 =>
   bnd (zbin .sh .shr d14 (.v (.int .u64 (.ofNat 1)))) fun d16 =>
  go1 [d11, d12, d15, d16] T4 n4 l4) fun K2 =>
   bnd (zbin .i .and d9 (.v (.int .i64 (.ofNat 1)))) fun d17 =>
   bnd (zbin .i .neq d17 (.v (.int .i64 (.ofNat 0)))) fun d18 =>
   cnd d18 (
    bnd (zbin .i .mul d7 d8) fun d19 =>
   K2 [d6, d19, d8, d9] T3 n3 l3
   ) (
   K2 [d6, d7, d8, d9] T3 n3 l3
   )
   ) (
  K1 [d6, d7] T3 n3 l3
   )) [d2, (.v (.int .u32 (.ofNat 1))), (.v (.int .u32 (.ofNat 16777619))), d5] T1 n1 l1) fun K3 =>
 lpc fu (fun go2 v5 T5 n5 l5 => unc v5 fun d20 w13 => unc w13 fun d21 w14 => unc w14 fun d22 w15 =>
  bnd (zlen false d20) fun d23 =>
  bnd (zbin .i .lss d22 d23) fun d24 =>
  cnd d24 (
  bnd (zbin .i .mul d21 (.v (.int .u32 (.ofNat 16777619)))) fun d25 =>
  bnd (zindex .str d20 d22) fun d26 =>
  bnd (zconv (.ii .u32) d26) fun d27 =>
  bnd (zbin .i .add d25 d27) fun d28 =>
  bnd (zbin .i .add d22 (.v (.int .i64 (.ofNat 1)))) fun d29 =>
 go2 [d20, d28, d29] T5 n5 l5
  ) (
 K3 [d20, d21] T5 n5 l5
  )) [a0, (.v (.int .u32 (.ofNat 0))), (.v (.int .i64 (.ofNat 0)))] T nx nx
theorem e276 (fu : Nat) (a0 : D) (T : ST) (nx : Nat) : fnK Tryz.prog [] dr0 fu Tryz.f276 (.s .o (.s .o (.j [0, 4] (.s .o (.b (.l [0, 4, 5] (.s (.s .o (.c .o .o)) (.s (.b .o) .o))))) (.s .o (.j [4, 6] (.s .o (.b (.l [4, 6, 7, 8] (.s (.s .o (.c .o .o)) (.s (.b (.j [4, 6, 7, 8] (.s .o (.c .o .o)) .o)) .o))))) (.s .o .o)))))) [a0] T nx = s276 fu a0 T nx := by kernel_rfl
noncomputable def F276 : Sem := ar1 (s276 FU)
theorem k276 : FnOk Tryz.prog 276 F276 := ar1_ok (fnK_ok (by kernel_rfl) CallsOk.nil dr0_ok) (e276 FU)
/- internal/bytealg.IndexRabinKarp[string] -/
theorem h267 : HasFn Tryz.prog 267 := ⟨by kernel_rfl⟩
noncomputable def s267 (fu : Nat) (a0 a1 : D) : ST → Nat → Option Rt := fun T nx =>
 bndR (F276 [a1] T nx) fun d1 T1 n1 l1 => fN (lowN nx l1) fun l2 =>
 bnd (zextract d1 0) fun d2 =>
 bnd (zextract d1 1) fun d3 =>
 bnd (zlen false a1) fun d4 =>
 jn (fun v1 T2 n2 l3 => unc v1 fun d5 w1 => unc w1 fun d6 w2 => unc w2 fun d7 w3 => unc w3 fun d8 w4 => unc w4 fun d9 w5 => unc w5 fun d10 w6 =>
  bnd (zbin .i .eql d10 d7) fun d11 =>
  opG.gjn (fun k1 => zgd d11 true (
   k1 [] [] d5 T2 n2 l3
  ) (k1 [] [] (.v undef) T2 n2 l3)) fun _ _ d12 T3 n3 l4 =>
  opG.gjn (fun k2 => zgd d11 true (
   k2 [] [] d9 T3 n3 l4
  ) (k2 [] [] (.v undef) T3 n3 l4)) fun _ _ d13 T4 n4 l5 =>
  opG.gjn (fun k3 => zgd d11 true (
   zslice .str T4 d12 none (some d13) fun f1 d14 =>
   k3 f1 [] d14 T4 n4 l5
  ) (k3 [] [] (.v undef) T4 n4 l5)) fun _ _ d15 T5 n5 l6 =>
  opG.gjn (fun k4 => zgd d11 true (
   k4 [] [] d6 T5 n5 l6
  ) (k4 [] [] (.v undef) T5 n5 l6)) fun _ _ d16 T6 n6 l7 =>
  opG.gjn (fun k5 => zgd d11 true (
   bnd (zbin .st .eql d15 d16) fun d17 =>
   k5 [] [] d17 T6 n6 l7
  ) (k5 [] [] (.v undef) T6 n6 l7)) fun _ _ d18 T7 n7 l8 =>
  bnd (zpick d11 d18 (.v (.bool false))) fun d19 =>
  cnd d19 (
 finK T nx (.v (.int .i64 (.ofNat 0))) T7 n7 l8
  ) (
  jn (fun v2 T8 n8 l9 =>
 finK T nx (.v (.int .i64 (.negSucc 0))) T8 n8 l9) fun K1 =>
  lpc fu (fun go1 v3 T9 n9 l10 => unc v3 fun d20 w7 => unc w7 fun d21 w8 => unc w8 fun d22 w9 => unc w9 fun d23 w10 => unc w10 fun d24 w11 => unc w11 fun d25 w12 => unc w12 fun d26 w13 =>
   bnd (zlen false d20) fun d27 =>
   bnd (zbin .i .lss d26 d27) fun d28 =>
   cnd d28 (
   bnd (zbin .i .mul d25 (.v (.int .u32 (.ofNat 16777619)))) fun d29 =>
   bnd (zindex .str d20 d26) fun d30 =>
   bnd (zconv (.ii .u32) d30) fun d31 =>
   bnd (zbin .i .add d29 d31) fun d32 =>
   bnd (zbin .i .sub d26 d24) fun d33 =>
   bnd (zindex .str d20 d33) fun d34 =>
   bnd (zconv (.ii .u32) d34) fun d35 =>
   bnd (zbin .i .mul d23 d35) fun d36 =>
   bnd (zbin .i .sub d32 d36) fun d37 =>
   bnd (zbin .i .add d26 (.v (.int .i64 (.ofNat 1)))) fun d38 =>
   bnd (zbin .i .eql d37 d22) fun d39 =>
   opG.gjn (fun k6 => zgd d39 true (
    k6 [] [] d20 T9 n9 l10
   ) (k6 [] [] (.v undef) T9 n9 l10)) fun _ _ d40 T10 n10 l11 =>
   opG.gjn (fun k7 => zgd d39 true (
    k7 [] [] d38 T10 n10 l11
   ) (k7 [] [] (.v undef) T10 n10 l11)) fun _ _ d41 T11 n11 l12 =>
   opG.gjn (fun k8 => zgd d39 true (
    k8 [] [] d24 T11 n11 l12
   ) (k8 [] [] (.v undef) T11 n11 l12)) fun _ _ d42 T12 n12 l13 =>
   opG.gjn (fun k9 => zgd d39 true (
    bnd (zbin .i .sub d41 d42) fun d43 =>
    k9 [] [] d43 T12 n12 l13
   ) (k9 [] [] (.v undef) T12 n12 l13)) fun _ _ d44 T13 n13 l14 =>
   opG.gjn (fun k10 => zgd d39 true (
    k10 [] [] d38 T13 n13 l14
   ) (k10 [] [] (.v undef) T13 n13 l14)) fun _ _ d45 T14 n14 l15 =>
   opG.gjn (fun k11 => zgd d39 true (
    zslice .str T14 d40 (some d44) (some d45) fun f2 d46 =>
    k11 f2 [] d46 T14 n14 l15
   ) (k11 [] [] (.v undef) T14 n14 l15)) fun _ _ d47 T15 n15 l16 =>
   opG.gjn (fun k12 => zgd d39 true (
    k12 [] [] d21 T15 n15 l16
   ) (k12 [] [] (.v undef) T15 n15 l16)) fun _ _ d48 T16 n16 l17 =>
   opG.gjn (fun k13 => zgd d39 true (
    bnd (zbin .st .eql d47 d48) fun d49 =>
    k13 [] [] d49 T16 n16 l17
   ) (k13 [] [] (.v undef) T16 n16 l17)) fun _ _ d50 T17 n17 l18 =>
   bnd (zpick d39 d50 (.v (.bool false))) fun d51 =>
   cnd d51 (
    bnd (zbin .i .sub d38 d24) fun d52 =>
 finK T nx d52 T17 n17 l18
   ) (
  go1 [d20, d21, d22, d23, d24, d37, d38] T17 n17 l18
   )
   ) (
  K1 [] T9 n9 l10
   )) [d5, d6, d7, d8, d9, d10, d9] T7 n7 l8
  )) fun K2 =>
 lpc fu (fun go2 v4 T18 n18 l19 => unc v4 fun d53 w14 => unc w14 fun d54 w15 => unc w15 fun d55 w16 => unc w16 fun d56 w17 => unc w17 fun d57 w18 => unc w18 fun d58 w19 => unc w19 fun d59 w20 =>
  bnd (zbin .i .lss d59 d57) fun d60 =>
  cnd d60 (
  bnd (zbin .i .mul d58 (.v (.int .u32 (.ofNat 16777619)))) fun d61 =>
  bnd (zindex .str d53 d59) fun d62 =>
  bnd (zconv (.ii .u32) d62) fun d63 =>
  bnd (zbin .i .add d61 d63) fun d64 =>
  bnd (zbin .i .add d59 (.v (.int .i64 (.ofNat 1)))) fun d65 =>
 go2 [d53, d54, d55, d56, d57, d64, d65] T18 n18 l19
  ) (
 K2 [d53, d54, d55, d56, d57, d58] T18 n18 l19
  )) [a0, a1, d2, d3, d4, (.v (.int .u32 (.ofNat 0))), (.v (.int .i64 (.ofNat 0)))] T1 n1 l2
theorem e267 (fu : Nat) (a0 a1 : D) (T : ST) (nx : Nat) : fnK Tryz.prog [(276, F276)] dr0 fu Tryz.f267 (.s .o (.s .o (.s .o (.s .o (.j [0, 1, 5, 6, 7, 8] (.s .o (.b (.l [0, 1, 5, 6, 7, 8, 9] (.s (.s .o (.c .o .o)) (.s (.b .o) .o))))) (.s (.s .o (.c (.s .o .o) .o)) (.j [] (.s .o (.b (.l [0, 1, 5, 6, 7, 8, 10] (.s (.s .o (.c .o .o)) (.b (.s .o (.s .o (.s .o (.s .o (.s .o (.c (.s .o .o) .o))))))))))) (.s .o .o)))))))) [a0, a1] T nx = s267 fu a0 a1 T nx := by kernel_rfl
noncomputable def F267 : Sem := ar2 (s267 FU)
theorem k267 : FnOk Tryz.prog 267 F267 := ar2_ok (fnK_ok (by kernel_rfl) (CallsOk.cons h276 k276 CallsOk.nil) dr0_ok) (e267 FU)
/- internal/stringslite.Index -/
theorem h240 : HasFn Tryz.prog 240 := ⟨by kernel_rfl⟩
noncomputable def s240 (a0 a1 : D) : ST → Nat → Option Rt := fun T nx =>
 bnd (zlen false a1) fun d1 =>
 bnd (zbin .i .eql d1 (.v (.int .i64 (.ofNat 0)))) fun d2 =>
 opG.gjn (fun k1 => zgd d2 false (
  k1 [] [] a1 T nx nx
 ) (k1 [] [] (.v undef) T nx nx)) fun _ _ d3 T1 n1 l1 =>
 opG.gjn (fun k2 => zgd d2 false (
  k2 [] [] a0 T1 n1 l1
 ) (k2 [] [] (.v undef) T1 n1 l1)) fun _ _ d4 T2 n2 l2 =>
 opG.gjn (fun k3 => zgd d2 false (
  bnd (zbin .st .eql d3 d4) fun d5 =>
  k3 [] [] d5 T2 n2 l2
 ) (k3 [] [] (.v undef) T2 n2 l2)) fun _ _ d6 T3 n3 l3 =>
 bnd (zpick d2 (.v (.bool true)) d6) fun d7 =>
 cnd d7 (
 finK T nx (.v (.int .i64 (.ofNat 0))) T3 n3 l3
 ) (
  bnd (zbin .i .eql d1 (.v (.int .i64 (.ofNat 1)))) fun d8 =>
  cnd d8 (
   bnd (zindex .str a1 (.v (.int .i64 (.ofNat 0)))) fun d9 =>
   bndR (F264 [a0, d9] T3 n3) fun d10 T4 n4 l4 => fN (lowN l3 l4) fun l5 =>
 finK T nx d10 T4 n4 l5
  ) (
   bnd (zlen false a0) fun d11 =>
   bnd (zbin .i .geq d1 d11) fun d12 =>
   cnd d12 (
 finK T nx (.v (.int .i64 (.negSucc 0))) T3 n3 l3
   ) (
    none
   )
  )
 )
theorem e240 (a0 a1 : D) (T : ST) (nx : Nat) : fnK Tryz.prog [(264, F264)] dr0 FU Tryz.f240 (.s .o (.s .o (.s (.b (.s .o (.c (.s .o .o) (.s .o (.c (.s .o .o) (.s .o (.c (.s .o .o) (.s .o (.c (.s .o .o) .o))))))))) (.s .o (.s .o (.s .o (.s .o (.s .o (.s (.b (.l [] (.s (.s .o (.c .o .o)) (.b (.s (.s .o (.c (.s .o (.s (.s .o (.c (.s .o .o) .o)) .o)) .o)) (.s (.s .o (.c (.s .o .o) .o)) (.s .o (.s .o (.s .o (.c (.s .o (.s (.s .o (.c (.s .o .o) .o)) (.s .o .o))) (.s .o (.c (.s .o (.s (.s .o (.c (.s .o .o) .o)) (.s .o .o))) .o)))))))))))) (.s .o .o)))))))))) [a0, a1] T nx = s240 a0 a1 T nx := by kernel_rfl
noncomputable def F240 : Sem := ar2 s240
theorem k240 : FnOk Tryz.prog 240 F240 := ar2_ok (fnK_ok (by kernel_rfl) (CallsOk.cons h264 k264 CallsOk.nil) dr0_ok) e240
/- internal/stringslite.Cut -/
theorem h239 : HasFn Tryz.prog 239 := ⟨by kernel_rfl⟩
noncomputable def s239 (a0 a1 : D) : ST → Nat → Option Rt := fun T nx =>
 bndR (F240 [a0, a1] T nx) fun d1 T1 n1 l1 => fN (lowN nx l1) fun l2 =>
 bnd (zbin .i .geq d1 (.v (.int .i64 (.ofNat 0)))) fun d2 =>
 cnd d2 (
  zslice .str T1 a0 none (some d1) fun f1 d3 =>
  bnd (zlen false a1) fun d4 =>
  bnd (zbin .i .add d1 d4) fun d5 =>
  zslice .str T1 a0 (some d5) none fun f2 d6 =>
 finK T nx (.tup [d3, d6, (.v (.bool true))]) T1 n1 l2
 ) (
 finK T nx (.tup [a0, (.v (.string (ByteArray.mk #[]))), (.v (.bool false))]) T1 n1 l2
 )
theorem e239 (a0 a1 : D) (T : ST) (nx : Nat) : fnK Tryz.prog [(240, F240)] (drD Tryz.prog [(240, F240)]) FU Tryz.f239 (.s .o (.s (.s .o (.s .o (.c (.s .o .o) .o))) (.s .o .o))) [a0, a1] T nx = s239 a0 a1 T nx := by kernel_rfl
noncomputable def F239 : Sem := ar2 s239
theorem k239 : FnOk Tryz.prog 239 F239 := ar2_ok (fnK_ok (by kernel_rfl) (CallsOk.cons h240 k240 CallsOk.nil) (drD_ok hmix (CallsOk.cons h240 k240 CallsOk.nil))) e239
/- strings.Cut -/
theorem h196 : HasFn Tryz.prog 196 := ⟨by kernel_rfl⟩
noncomputable def s196 (a0 a1 : D) : ST → Nat → Option Rt := fun T nx =>
 bndR (F239 [a0, a1] T nx) fun d1 T1 n1 l1 => fN (lowN nx l1) fun l2 =>
 bnd (zextract d1 0) fun d2 =>
 bnd (zextract d1 1) fun d3 =>
 bnd (zextract d1 2) fun d4 =>
 finK T nx (.tup [d2, d3, d4]) T1 n1 l2
theorem e196 (a0 a1 : D) (T : ST) (nx : Nat) : fnK Tryz.prog [(239, F239)] dr0 FU Tryz.f196 (.s .o (.s .o .o)) [a0, a1] T nx = s196 a0 a1 T nx := by kernel_rfl
noncomputable def F196 : Sem := ar2 s196
theorem k196 : FnOk Tryz.prog 196 F196 := ar2_ok (fnK_ok (by kernel_rfl) (CallsOk.cons h239 k239 CallsOk.nil) dr0_ok) e196
/- reeve/call.fields -/
theorem h149 : HasFn Tryz.prog 149 := ⟨by kernel_rfl⟩
noncomputable def s149 (a0 : D) : ST → Nat → Option Rt := fun T nx =>
 bB (solidL 1 [(.v (.string (ByteArray.mk #[]))), (.v (.string (ByteArray.mk #[109, 97, 107, 101, 32, 65, 66, 88, 89]))), (.v (.string (ByteArray.mk #[99, 111, 112, 121, 32, 65, 66, 88]))), (.v (.string (ByteArray.mk #[109, 105, 110, 116, 32, 65, 66, 88, 89]))), (.v (.string (ByteArray.mk #[109, 111, 118, 101, 32, 65, 66]))), (.v (.string (ByteArray.mk #[100, 101, 108, 101, 116, 101, 32, 65]))), (.v (.string (ByteArray.mk #[114, 101, 118, 111, 107, 101, 32, 65]))), (.v (.string (ByteArray.mk #[115, 101, 110, 100, 32, 65, 98, 87]))), (.v (.string (ByteArray.mk #[114, 101, 99, 118, 32, 65, 98]))), (.v (.string (ByteArray.mk #[114, 105, 110, 103, 32, 65]))), (.v (.string (ByteArray.mk #[112, 111, 108, 108, 32, 65]))), (.v (.string (ByteArray.mk #[119, 114, 105, 116, 101, 32, 65, 88, 87]))), (.v (.string (ByteArray.mk #[114, 101, 97, 100, 32, 65, 88]))), (.v (.string (ByteArray.mk #[116, 101, 108, 108, 32, 65])))]) <| fN (Nat.succ nx) fun n1 =>
 bnd (zbin .i .lss a0 (.v (.int .i64 (.ofNat 1)))) fun d1 =>
 opG.gjn (fun k1 => zgd d1 false (
  k1 [] [] a0 (Tr.set (some (xRows 9 1 [dcells (.v (.string (ByteArray.mk #[]))), dcells (.v (.string (ByteArray.mk #[109, 97, 107, 101, 32, 65, 66, 88, 89]))), dcells (.v (.string (ByteArray.mk #[99, 111, 112, 121, 32, 65, 66, 88]))), dcells (.v (.string (ByteArray.mk #[109, 105, 110, 116, 32, 65, 66, 88, 89]))), dcells (.v (.string (ByteArray.mk #[109, 111, 118, 101, 32, 65, 66]))), dcells (.v (.string (ByteArray.mk #[100, 101, 108, 101, 116, 101, 32, 65]))), dcells (.v (.string (ByteArray.mk #[114, 101, 118, 111, 107, 101, 32, 65]))), dcells (.v (.string (ByteArray.mk #[115, 101, 110, 100, 32, 65, 98, 87]))), dcells (.v (.string (ByteArray.mk #[114, 101, 99, 118, 32, 65, 98]))), dcells (.v (.string (ByteArray.mk #[114, 105, 110, 103, 32, 65]))), dcells (.v (.string (ByteArray.mk #[112, 111, 108, 108, 32, 65]))), dcells (.v (.string (ByteArray.mk #[119, 114, 105, 116, 101, 32, 65, 88, 87]))), dcells (.v (.string (ByteArray.mk #[114, 101, 97, 100, 32, 65, 88]))), dcells (.v (.string (ByteArray.mk #[116, 101, 108, 108, 32, 65])))])) T nx) n1 nx
 ) (k1 [] [] (.v undef) (Tr.set (some (xRows 9 1 [dcells (.v (.string (ByteArray.mk #[]))), dcells (.v (.string (ByteArray.mk #[109, 97, 107, 101, 32, 65, 66, 88, 89]))), dcells (.v (.string (ByteArray.mk #[99, 111, 112, 121, 32, 65, 66, 88]))), dcells (.v (.string (ByteArray.mk #[109, 105, 110, 116, 32, 65, 66, 88, 89]))), dcells (.v (.string (ByteArray.mk #[109, 111, 118, 101, 32, 65, 66]))), dcells (.v (.string (ByteArray.mk #[100, 101, 108, 101, 116, 101, 32, 65]))), dcells (.v (.string (ByteArray.mk #[114, 101, 118, 111, 107, 101, 32, 65]))), dcells (.v (.string (ByteArray.mk #[115, 101, 110, 100, 32, 65, 98, 87]))), dcells (.v (.string (ByteArray.mk #[114, 101, 99, 118, 32, 65, 98]))), dcells (.v (.string (ByteArray.mk #[114, 105, 110, 103, 32, 65]))), dcells (.v (.string (ByteArray.mk #[112, 111, 108, 108, 32, 65]))), dcells (.v (.string (ByteArray.mk #[119, 114, 105, 116, 101, 32, 65, 88, 87]))), dcells (.v (.string (ByteArray.mk #[114, 101, 97, 100, 32, 65, 88]))), dcells (.v (.string (ByteArray.mk #[116, 101, 108, 108, 32, 65])))])) T nx) n1 nx)) fun _ _ d2 T1 n2 l1 =>
 opG.gjn (fun k2 => zgd d1 false (
  bnd (zbin .i .gtr d2 (.v (.int .i64 (.ofNat 13)))) fun d3 =>
  k2 [] [] d3 T1 n2 l1
 ) (k2 [] [] (.v undef) T1 n2 l1)) fun _ _ d4 T2 n3 l2 =>
 bnd (zpick d1 (.v (.bool true)) d4) fun d5 =>
 cnd d5 (
 finK T nx (.tup [(.v (.string (ByteArray.mk #[]))), (.v (.string (ByteArray.mk #[])))]) T2 n3 l2
 ) (
 bnd (zindexAddr (.sl 1) (.vw nx 1 0 14) a0) fun d6 =>
 bnd (zload none T2 d6) fun d7 =>
 bndR (F196 [d7, (.v (.string (ByteArray.mk #[32])))] T2 n3) fun d8 T3 n4 l3 => fN (lowN l2 l3) fun l4 =>
 bnd (zextract d8 0) fun d9 =>
 bnd (zextract d8 1) fun d10 =>
 bnd (zextract d8 2) fun d11 =>
 finK T nx (.tup [d9, d10]) T3 n4 l4
 )
theorem e149 (a0 : D) (T : ST) (nx : Nat) : fnK Tryz.prog [(196, F196)] dr0 FU Tryz.f149 (.s .o (.s .o (.s (.s .o (.c (.s .o .o) .o)) (.s .o (.s .o .o))))) [a0] T nx = s149 a0 T nx := by kernel_rfl
noncomputable def F149 : Sem := ar1 s149
theorem k149 : FnOk Tryz.prog 149 F149 := ar1_ok (fnK_ok (by kernel_rfl) (CallsOk.cons h196 k196 CallsOk.nil) dr0_ok) e149
/- strings.Index -/
theorem h197 : HasFn Tryz.prog 197 := ⟨by kernel_rfl⟩
noncomputable def s197 (a0 a1 : D) : ST → Nat → Option Rt := fun T nx =>
 bndR (F240 [a0, a1] T nx) fun d1 T1 n1 l1 => fN (lowN nx l1) fun l2 =>
 finK T nx d1 T1 n1 l2
theorem e197 (a0 a1 : D) (T : ST) (nx : Nat) : fnK Tryz.prog [(240, F240)] dr0 FU Tryz.f197 (.s .o (.s .o .o)) [a0, a1] T nx = s197 a0 a1 T nx := by kernel_rfl
noncomputable def F197 : Sem := ar2 s197
theorem k197 : FnOk Tryz.prog 197 F197 := ar2_ok (fnK_ok (by kernel_rfl) (CallsOk.cons h240 k240 CallsOk.nil) dr0_ok) e197
/- strings.Contains -/
theorem h150 : HasFn Tryz.prog 150 := ⟨by kernel_rfl⟩
noncomputable def s150 (a0 a1 : D) : ST → Nat → Option Rt := fun T nx =>
 bndR (F197 [a0, a1] T nx) fun d1 T1 n1 l1 => fN (lowN nx l1) fun l2 =>
 bnd (zbin .i .geq d1 (.v (.int .i64 (.ofNat 0)))) fun d2 =>
 finK T nx d2 T1 n1 l2
theorem e150 (a0 a1 : D) (T : ST) (nx : Nat) : fnK Tryz.prog [(197, F197)] dr0 FU Tryz.f150 (.s .o (.s .o .o)) [a0, a1] T nx = s150 a0 a1 T nx := by kernel_rfl
noncomputable def F150 : Sem := ar2 s150
theorem k150 : FnOk Tryz.prog 150 F150 := ar2_ok (fnK_ok (by kernel_rfl) (CallsOk.cons h197 k197 CallsOk.nil) dr0_ok) e150
/- reeve/path.Good$1 -/
theorem h198 : HasFn Tryz.prog 198 := ⟨by kernel_rfl⟩
noncomputable def s198 (a0 : D) : ST → Nat → Option Rt := fun T nx =>
 bnd (zbin .i .lss a0 (.v (.int .i64 (.ofNat 0)))) fun d1 =>
 opG.gjn (fun k1 => zgd d1 false (
  k1 [] [] a0 T nx nx
 ) (k1 [] [] (.v undef) T nx nx)) fun _ _ d2 T1 n1 l1 =>
 opG.gjn (fun k2 => zgd d1 false (
  bnd (zbin .i .gtr d2 (.v (.int .i64 (.ofNat 15)))) fun d3 =>
  k2 [] [] d3 T1 n1 l1
 ) (k2 [] [] (.v undef) T1 n1 l1)) fun _ _ d4 T2 n2 l2 =>
 bnd (zpick d1 (.v (.bool true)) d4) fun d5 =>
 finK T nx d5 T2 n2 l2
theorem e198 (a0 : D) (T : ST) (nx : Nat) : fnK Tryz.prog [] dr0 FU Tryz.f198 (.s .o (.s .o .o)) [a0] T nx = s198 a0 T nx := by kernel_rfl
noncomputable def F198 : Sem := ar1 s198
theorem k198 : FnOk Tryz.prog 198 F198 := ar1_ok (fnK_ok (by kernel_rfl) CallsOk.nil dr0_ok) e198
/- slices.IndexFunc[[]int,int] -/
theorem h241 : HasFn Tryz.prog 241 := ⟨by kernel_rfl⟩
noncomputable def C241 : List (FuncId × Sem) := [(198, F198)]
noncomputable def s241 (fu : Nat) (a0 a1 : D) : ST → Nat → Option Rt := fun T nx =>
 jn (fun v1 T1 n1 l1 =>
 finK T nx (.v (.int .i64 (.negSucc 0))) T1 n1 l1) fun K1 =>
 bnd (zlen true a0) fun d1 =>
 lpc fu (fun go1 v2 T2 n2 l2 => unc v2 fun d2 w1 => unc w1 fun d3 w2 => unc w2 fun d4 w3 => unc w3 fun d5 w4 =>
  bnd (zbin .i .lss d5 d4) fun d6 =>
  cnd d6 (
  bnd (zindexAddr (.sl 1) d2 d5) fun d7 =>
  bnd (zload none T2 d7) fun d8 =>
  zclo d3 fun f1 c1 => zsome (findC f1 C241) fun F1 => bndR (F1 ([d8] ++ c1) T2 n2) fun d9 T3 n3 l3 =>
  fN (lowN l2 l3) fun l4 =>
  cnd d9 (
 finK T nx d5 T3 n3 l4
  ) (
  bnd (zbin .i .add d5 (.v (.int .i64 (.ofNat 1)))) fun d10 =>
 go1 [d2, d3, d4, d10] T3 n3 l4
  )
  ) (
 K1 [] T2 n2 l2
  )) [a0, a1, d1, (.v (.int .i64 (.ofNat 0)))] T nx nx
theorem e241 (fu : Nat) (a0 a1 : D) (T : ST) (nx : Nat) : fnK Tryz.prog C241 dr0 fu Tryz.f241 (.s .o (.j [] (.s .o (.b (.l [0, 1, 7, 8] (.s .o (.s (.c .o .o) (.s (.b (.s .o (.s .o (.c (.s .o .o) .o)))) .o)))))) (.s .o .o))) [a0, a1] T nx = s241 fu a0 a1 T nx := by kernel_rfl
noncomputable def F241 : Sem := ar2 (s241 FU)
theorem k241 : FnOk Tryz.prog 241 F241 := ar2_ok (fnK_ok (by kernel_rfl) (CallsOk.cons h198 k198 CallsOk.nil) dr0_ok) (e241 FU)
/- slices.ContainsFunc[[]int,int] -/
theorem h199 : HasFn Tryz.prog 199 := ⟨by kernel_rfl⟩
noncomputable def s199 (a0 a1 : D) : ST → Nat → Option Rt := fun T nx =>
 bndR (F241 [a0, a1] T nx) fun d1 T1 n1 l1 => fN (lowN nx l1) fun l2 =>
 bnd (zbin .i .geq d1 (.v (.int .i64 (.ofNat 0)))) fun d2 =>
 finK T nx d2 T1 n1 l2
theorem e199 (a0 a1 : D) (T : ST) (nx : Nat) : fnK Tryz.prog [(241, F241)] dr0 FU Tryz.f199 (.s .o (.s .o .o)) [a0, a1] T nx = s199 a0 a1 T nx := by kernel_rfl
noncomputable def F199 : Sem := ar2 s199
theorem k199 : FnOk Tryz.prog 199 F199 := ar2_ok (fnK_ok (by kernel_rfl) (CallsOk.cons h241 k241 CallsOk.nil) dr0_ok) e199
/- reeve/path.Good -/
theorem h151 : HasFn Tryz.prog 151 := ⟨by kernel_rfl⟩
noncomputable def s151 (a0 : D) : ST → Nat → Option Rt := fun T nx =>
 bB (solidB a0) <| fN (Nat.succ nx) fun n1 => fN (dcells a0).length fun e1 =>
 bnd (zfieldAddr 0 (.ptr nx e1 0 0)) fun d1 =>
 bnd (zload none (Tr.set (some (xRow 79 (dcells a0))) T nx) d1) fun d2 =>
 bnd (zlen true d2) fun d3 =>
 bnd (zbin .i .geq d3 (.v (.int .i64 (.ofNat 1)))) fun d4 =>
 opG.gjn (fun k1 => zgd d4 true (
  bnd (zfieldAddr 0 (.ptr nx e1 0 0)) fun d5 =>
  k1 [] [] d5 (Tr.set (some (xRow 79 (dcells a0))) T nx) n1 nx
 ) (k1 [] [] (.v undef) (Tr.set (some (xRow 79 (dcells a0))) T nx) n1 nx)) fun _ _ d6 T1 n2 l1 =>
 opG.gjn (fun k2 => zgd d4 true (
  bnd (zload none T1 d6) fun d7 =>
  k2 (ptr? d6) [] d7 T1 n2 l1
 ) (k2 [] [] (.v undef) T1 n2 l1)) fun _ _ d8 T2 n3 l2 =>
 opG.gjn (fun k3 => zgd d4 true (
  bnd (zlen true d8) fun d9 =>
  k3 [] [] d9 T2 n3 l2
 ) (k3 [] [] (.v undef) T2 n3 l2)) fun _ _ d10 T3 n4 l3 =>
 opG.gjn (fun k4 => zgd d4 true (
  bnd (zbin .i .leq d10 (.v (.int .i64 (.ofNat 3)))) fun d11 =>
  k4 [] [] d11 T3 n4 l3
 ) (k4 [] [] (.v undef) T3 n4 l3)) fun _ _ d12 T4 n5 l4 =>
 bnd (zpick d4 d12 (.v (.bool false))) fun d13 =>
 opG.gjn (fun k5 => zgd d13 true (
  bnd (zfieldAddr 0 (.ptr nx e1 0 0)) fun d14 =>
  k5 [] [] d14 T4 n5 l4
 ) (k5 [] [] (.v undef) T4 n5 l4)) fun _ _ d15 T5 n6 l5 =>
 opG.gjn (fun k6 => zgd d13 true (
  bnd (zload none T5 d15) fun d16 =>
  k6 (ptr? d15) [] d16 T5 n6 l5
 ) (k6 [] [] (.v undef) T5 n6 l5)) fun _ _ d17 T6 n7 l6 =>
 opG.gjn (fun k7 => zgd d13 true (
  k7 [] [] (.clo 198 []) T6 n7 l6
 ) (k7 [] [] (.v undef) T6 n7 l6)) fun _ _ d18 T7 n8 l7 =>
 opG.gjn (fun k8 => zgd d13 true (
  bndR (F199 [d17, d18] T7 n8) fun d19 T8 n9 l8 => fN (lowN l7 l8) fun l9 =>
  k8 [] [] d19 T8 n9 l9
 ) (k8 [] [] (.v undef) T7 n8 l7)) fun _ _ d20 T9 n10 l10 =>
 opG.gjn (fun k9 => zgd d13 true (
  bnd (zun .not d20) fun d21 =>
  k9 [] [] d21 T9 n10 l10
 ) (k9 [] [] (.v undef) T9 n10 l10)) fun _ _ d22 T10 n11 l11 =>
 bnd (zpick d13 d22 (.v (.bool false))) fun d23 =>
 finK T nx d23 T10 n11 l11
theorem e151 (a0 : D) (T : ST) (nx : Nat) : fnK Tryz.prog [(199, F199)] dr0 FU Tryz.f151 (.s .o (.s .o (.s .o .o))) [a0] T nx = s151 a0 T nx := by kernel_rfl
noncomputable def F151 : Sem := ar1 s151
theorem k151 : FnOk Tryz.prog 151 F151 := ar1_ok (fnK_ok (by kernel_rfl) (CallsOk.cons h199 k199 CallsOk.nil) dr0_ok) e151
end Go.Abs
