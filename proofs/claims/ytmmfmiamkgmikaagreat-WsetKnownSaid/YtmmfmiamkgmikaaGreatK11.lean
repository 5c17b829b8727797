/- Functions of the program as what they run as, printed by a program of this session. -/
import Derived.Test.YtmmfmiamkgmikaaGreatK10
set_option linter.unusedVariables false
set_option maxRecDepth 100000
open Go Go.Proofs
namespace Go.Abs
/- reeve/mail.send -/
theorem h160 : HasFn Tryz.prog 160 := ⟨by kernel_rfl⟩
noncomputable def s160 (a0 a1 a2 a3 : D) : ST → Nat → Option Rt := fun T nx =>
 bB (solidB a0) <| fN (Nat.succ nx) fun n1 => fN (dcells a0).length fun e1 =>
 bB (solidB a2) <| fN (Nat.succ n1) fun n2 => fN (dcells a2).length fun e2 =>
 bB (solidB a3) <| fN (Nat.succ n2) fun n3 => fN (dcells a3).length fun e3 =>
 fN (Nat.succ n3) fun n4 =>
 fN (Nat.succ n4) fun n5 =>
 jn (fun v1 T1 n6 l1 => unc v1 fun d1 w1 => unc w1 fun d2 w2 => unc w2 fun d3 w3 => unc w3 fun d4 w4 => unc w4 fun d5 w5 => unc w5 fun d6 w6 =>
  bnd (zfieldAddr 4 d1) fun d7 =>
  bnd (zload none T1 d7) fun d8 =>
  bnd (zfieldAddr 1 d3) fun d9 =>
  bnd (zload none T1 d9) fun d10 =>
  bnd (zindexAddr (.sl 13) d8 d10) fun d11 =>
  bnd (zfieldAddr 7 d11) fun d12 =>
  bnd (zload none T1 d12) fun d13 =>
  cnd d13 (
   bnd (zload (some 5) T1 d1) fun d14 =>
   bnd (zbuild [(.int .i64 (.ofNat 0)), (.int .u64 (.ofNat 0)), (.int .i64 (.ofNat 0))] [(0, 1), (1, 1), (2, 1)] [0] [(.v (.int .i64 (.ofNat 13)))]) fun d15 =>
   zstore 5 T1 d4 d14 fun r1 T2 => fN (lowN l1 r1) fun l2 =>
   zstore 3 T2 d5 d15 fun r2 T3 => fN (lowN l2 r2) fun l3 =>
 bnd (zres (some 5) T3 d4) fun d16 =>
 bnd (zres (some 3) T3 d5) fun d17 =>
 finK T nx (.tup [d16, d17]) T3 n6 l3
  ) (
  bnd (zload (some 5) T1 d1) fun d18 =>
  bndR (F162 [d18] T1 n6) fun d19 T4 n7 l4 => fN (lowN l1 l4) fun l5 =>
  zstore 5 T4 d1 d19 fun r3 T5 => fN (lowN l5 r3) fun l6 =>
  bnd (zfieldAddr 4 d1) fun d20 =>
  bnd (zload none T5 d20) fun d21 =>
  bnd (zfieldAddr 1 d3) fun d22 =>
  bnd (zload none T5 d22) fun d23 =>
  bnd (zfieldAddr 5 d2) fun d24 =>
  bnd (zload none T5 d24) fun d25 =>
  bnd (zfieldAddr 3 d3) fun d26 =>
  bnd (zload none T5 d26) fun d27 =>
  bnd (zbuild [(.int .i64 (.ofNat 0)), (.int .i64 (.ofNat 0)), (.int .i64 (.ofNat 0)), (.int .i64 (.ofNat 0)), (.int .i64 (.ofNat 0)), (.int .i64 (.ofNat 0)), (.int .i64 (.ofNat 0)), (.bool false), (.int .u64 (.ofNat 0)), (.int .u64 (.ofNat 0)), (.int .u64 (.ofNat 0)), (.int .u64 (.ofNat 0)), (.int .u64 (.ofNat 0))] [(0, 1), (1, 1), (2, 1), (3, 1), (4, 1), (5, 1), (6, 1), (7, 1), (8, 1), (9, 4)] [0, 7, 8, 6, 5] [(.v (.int .i64 (.ofNat 3))), (.v (.bool true)), d25, d27, d6]) fun d28 =>
  bnd (zindexAddr (.sl 13) d21 d23) fun d29 =>
  zstore 13 T5 d29 d28 fun r4 T6 => fN (lowN l6 r4) fun l7 =>
  bnd (zload (some 5) T6 d1) fun d30 =>
  bnd (zbuild [(.int .i64 (.ofNat 0)), (.int .u64 (.ofNat 0)), (.int .i64 (.ofNat 0))] [(0, 1), (1, 1), (2, 1)] [] []) fun d31 =>
  zstore 5 T6 d4 d30 fun r5 T7 => fN (lowN l7 r5) fun l8 =>
  zstore 3 T7 d5 d31 fun r6 T8 => fN (lowN l8 r6) fun l9 =>
 bnd (zres (some 5) T8 d4) fun d32 =>
 bnd (zres (some 3) T8 d5) fun d33 =>
 finK T nx (.tup [d32, d33]) T8 n7 l9
  )) fun K1 =>
 bnd (zfieldAddr 2 (.ptr n1 e2 0 0)) fun d34 =>
 bnd (zfieldAddr 0 d34) fun d35 =>
 bnd (zload none (Tr.set (some (XO.mk 66 3 1 (.n [(.v (.int .i64 (.ofNat 0))), (.v (.int .u64 (.ofNat 0))), (.v (.int .i64 (.ofNat 0)))] .e .e))) (Tr.set (some (XO.mk 32 5 1 (.n [(.v (.int .i64 (.ofNat 0))), (.v (.int .i64 (.ofNat 0))), (.v (.int .i64 (.ofNat 0))), .e0, .e0] .e .e))) (Tr.set (some (xRow 111 (dcells a3))) (Tr.set (some (xRow 82 (dcells a2))) (Tr.set (some (xRow 32 (dcells a0))) T nx) n1) n2) n3) n4) d35) fun d36 =>
 bnd (zlen true d36) fun d37 =>
 bnd (zbin .i .gtr d37 (.v (.int .i64 (.ofNat 0)))) fun d38 =>
 cnd d38 (
  bnd (zfieldAddr 2 (.ptr n2 e3 0 0)) fun d39 =>
  bnd (zload none (Tr.set (some (XO.mk 66 3 1 (.n [(.v (.int .i64 (.ofNat 0))), (.v (.int .u64 (.ofNat 0))), (.v (.int .i64 (.ofNat 0)))] .e .e))) (Tr.set (some (XO.mk 32 5 1 (.n [(.v (.int .i64 (.ofNat 0))), (.v (.int .i64 (.ofNat 0))), (.v (.int .i64 (.ofNat 0))), .e0, .e0] .e .e))) (Tr.set (some (xRow 111 (dcells a3))) (Tr.set (some (xRow 82 (dcells a2))) (Tr.set (some (xRow 32 (dcells a0))) T nx) n1) n2) n3) n4) d39) fun d40 =>
  bndR (F159 [(.v (.int .i64 (.ofNat 4))), d40] (Tr.set (some (XO.mk 66 3 1 (.n [(.v (.int .i64 (.ofNat 0))), (.v (.int .u64 (.ofNat 0))), (.v (.int .i64 (.ofNat 0)))] .e .e))) (Tr.set (some (XO.mk 32 5 1 (.n [(.v (.int .i64 (.ofNat 0))), (.v (.int .i64 (.ofNat 0))), (.v (.int .i64 (.ofNat 0))), .e0, .e0] .e .e))) (Tr.set (some (xRow 111 (dcells a3))) (Tr.set (some (xRow 82 (dcells a2))) (Tr.set (some (xRow 32 (dcells a0))) T nx) n1) n2) n3) n4) n5) fun d41 T9 n8 l10 => fN (lowN nx l10) fun l11 =>
  bnd (zun .not d41) fun d42 =>
  cnd d42 (
   bnd (zload (some 5) T9 (.ptr nx e1 0 0)) fun d43 =>
   bnd (zbuild [(.int .i64 (.ofNat 0)), (.int .u64 (.ofNat 0)), (.int .i64 (.ofNat 0))] [(0, 1), (1, 1), (2, 1)] [0] [(.v (.int .i64 (.ofNat 6)))]) fun d44 =>
   zstore 5 T9 (.ptr n3 5 0 0) d43 fun r7 T10 => fN (lowN l11 r7) fun l12 =>
   zstore 3 T10 (.ptr n4 3 0 0) d44 fun r8 T11 => fN (lowN l12 r8) fun l13 =>
 bnd (zres (some 5) T11 (.ptr n3 5 0 0)) fun d45 =>
 bnd (zres (some 3) T11 (.ptr n4 3 0 0)) fun d46 =>
 finK T nx (.tup [d45, d46]) T11 n8 l13
  ) (
  bnd (zload (some 5) T9 (.ptr nx e1 0 0)) fun d47 =>
  bnd (zfieldAddr 2 (.ptr n1 e2 0 0)) fun d48 =>
  bnd (zload (some 1) T9 d48) fun d49 =>
  bndR (F156 [d47, a1, d49] T9 n8) fun d50 T12 n9 l14 => fN (lowN l11 l14) fun l15 =>
  bnd (zextract d50 0) fun d51 =>
  bnd (zextract d50 1) fun d52 =>
  bnd (zextract d50 2) fun d53 =>
  fN (Nat.succ n9) fun n10 =>
  zstore 4 (Tr.set (some (XO.mk 111 4 1 (.n [(.v (.int .i64 (.ofNat 0))), (.v (.int .i64 (.ofNat 0))), (.v (.int .i64 (.ofNat 0))), (.v (.int .i64 (.ofNat 0)))] .e .e))) T12 n9) (.ptr n9 4 0 0) d52 fun r9 T13 => fN (lowN l15 r9) fun l16 =>
  bnd (zbin .i .neq d53 (.v (.int .i64 (.ofNat 0)))) fun d54 =>
  cnd d54 (
   bnd (zload (some 5) T13 (.ptr nx e1 0 0)) fun d55 =>
   bnd (zbuild [(.int .i64 (.ofNat 0)), (.int .u64 (.ofNat 0)), (.int .i64 (.ofNat 0))] [(0, 1), (1, 1), (2, 1)] [0] [d53]) fun d56 =>
   zstore 5 T13 (.ptr n3 5 0 0) d55 fun r10 T14 => fN (lowN l16 r10) fun l17 =>
   zstore 3 T14 (.ptr n4 3 0 0) d56 fun r11 T15 => fN (lowN l17 r11) fun l18 =>
 bnd (zres (some 5) T15 (.ptr n3 5 0 0)) fun d57 =>
 bnd (zres (some 3) T15 (.ptr n4 3 0 0)) fun d58 =>
 finK T nx (.tup [d57, d58]) T15 n10 l18
  ) (
   bnd (zfieldAddr 0 (.ptr n9 4 0 0)) fun d59 =>
   bnd (zload none T13 d59) fun d60 =>
   bnd (zbin .i .eql d60 (.v (.int .i64 (.ofNat 1)))) fun d61 =>
   cnd d61 (
    bnd (zload (some 5) T13 (.ptr nx e1 0 0)) fun d62 =>
    bnd (zbuild [(.int .i64 (.ofNat 0)), (.int .u64 (.ofNat 0)), (.int .i64 (.ofNat 0))] [(0, 1), (1, 1), (2, 1)] [0] [(.v (.int .i64 (.ofNat 7)))]) fun d63 =>
    zstore 5 T13 (.ptr n3 5 0 0) d62 fun r12 T16 => fN (lowN l16 r12) fun l19 =>
    zstore 3 T16 (.ptr n4 3 0 0) d63 fun r13 T17 => fN (lowN l19 r13) fun l20 =>
 bnd (zres (some 5) T17 (.ptr n3 5 0 0)) fun d64 =>
 bnd (zres (some 3) T17 (.ptr n4 3 0 0)) fun d65 =>
 finK T nx (.tup [d64, d65]) T17 n10 l20
   ) (
  bnd (zbin .i .add d51 (.v (.int .i64 (.ofNat 1)))) fun d66 =>
 K1 [(.ptr nx e1 0 0), (.ptr n1 e2 0 0), (.ptr n2 e3 0 0), (.ptr n3 5 0 0), (.ptr n4 3 0 0), d66] T13 n10 l16
   )
  )
  )
 ) (
 K1 [(.ptr nx e1 0 0), (.ptr n1 e2 0 0), (.ptr n2 e3 0 0), (.ptr n3 5 0 0), (.ptr n4 3 0 0), (.v (.int .i64 (.ofNat 0)))] (Tr.set (some (XO.mk 66 3 1 (.n [(.v (.int .i64 (.ofNat 0))), (.v (.int .u64 (.ofNat 0))), (.v (.int .i64 (.ofNat 0)))] .e .e))) (Tr.set (some (XO.mk 32 5 1 (.n [(.v (.int .i64 (.ofNat 0))), (.v (.int .i64 (.ofNat 0))), (.v (.int .i64 (.ofNat 0))), .e0, .e0] .e .e))) (Tr.set (some (xRow 111 (dcells a3))) (Tr.set (some (xRow 82 (dcells a2))) (Tr.set (some (xRow 32 (dcells a0))) T nx) n1) n2) n3) n4) n5 nx
 )
theorem e160 (a0 a1 a2 a3 : D) (T : ST) (nx : Nat) : fnK Tryz.prog [(162, F162), (159, F159), (156, F156)] dr0 FU Tryz.f160 (.s .o (.s .o (.j [4, 6, 7, 8, 9, 10] (.s .o (.c (.s (.s .o (.c (.s .o .o) .o)) (.s .o (.s (.b (.s .o (.c (.s .o .o) (.s .o (.c (.s .o .o) .o))))) .o))) .o)) (.s (.s .o (.c (.s .o .o) .o)) (.s .o (.s .o (.s .o .o))))))) [a0, a1, a2, a3] T nx = s160 a0 a1 a2 a3 T nx := by kernel_rfl
noncomputable def F160 : Sem := ar4 s160
theorem k160 : FnOk Tryz.prog 160 F160 := ar4_ok (fnK_ok (by kernel_rfl) (CallsOk.cons h162 k162 (CallsOk.cons h159 k159 (CallsOk.cons h156 k156 CallsOk.nil))) dr0_ok) e160
/- reeve/mail.recv -/
theorem h161 : HasFn Tryz.prog 161 := ⟨by kernel_rfl⟩
noncomputable def s161 (a0 a1 a2 a3 : D) : ST → Nat → Option Rt := fun T nx =>
 bB (solidB a0) <| fN (Nat.succ nx) fun n1 => fN (dcells a0).length fun e1 =>
 bB (solidB a2) <| fN (Nat.succ n1) fun n2 => fN (dcells a2).length fun e2 =>
 bB (solidB a3) <| fN (Nat.succ n2) fun n3 => fN (dcells a3).length fun e3 =>
 fN (Nat.succ n3) fun n4 =>
 fN (Nat.succ n4) fun n5 =>
 bnd (zfieldAddr 4 (.ptr nx e1 0 0)) fun d1 =>
 bnd (zload none (Tr.set (some (XO.mk 66 3 1 (.n [(.v (.int .i64 (.ofNat 0))), (.v (.int .u64 (.ofNat 0))), (.v (.int .i64 (.ofNat 0)))] .e .e))) (Tr.set (some (XO.mk 32 5 1 (.n [(.v (.int .i64 (.ofNat 0))), (.v (.int .i64 (.ofNat 0))), (.v (.int .i64 (.ofNat 0))), .e0, .e0] .e .e))) (Tr.set (some (xRow 111 (dcells a3))) (Tr.set (some (xRow 82 (dcells a2))) (Tr.set (some (xRow 32 (dcells a0))) T nx) n1) n2) n3) n4) d1) fun d2 =>
 bnd (zfieldAddr 1 (.ptr n2 e3 0 0)) fun d3 =>
 bnd (zload none (Tr.set (some (XO.mk 66 3 1 (.n [(.v (.int .i64 (.ofNat 0))), (.v (.int .u64 (.ofNat 0))), (.v (.int .i64 (.ofNat 0)))] .e .e))) (Tr.set (some (XO.mk 32 5 1 (.n [(.v (.int .i64 (.ofNat 0))), (.v (.int .i64 (.ofNat 0))), (.v (.int .i64 (.ofNat 0))), .e0, .e0] .e .e))) (Tr.set (some (xRow 111 (dcells a3))) (Tr.set (some (xRow 82 (dcells a2))) (Tr.set (some (xRow 32 (dcells a0))) T nx) n1) n2) n3) n4) d3) fun d4 =>
 bnd (zindexAddr (.sl 13) d2 d4) fun d5 =>
 bnd (zload (some 13) (Tr.set (some (XO.mk 66 3 1 (.n [(.v (.int .i64 (.ofNat 0))), (.v (.int .u64 (.ofNat 0))), (.v (.int .i64 (.ofNat 0)))] .e .e))) (Tr.set (some (XO.mk 32 5 1 (.n [(.v (.int .i64 (.ofNat 0))), (.v (.int .i64 (.ofNat 0))), (.v (.int .i64 (.ofNat 0))), .e0, .e0] .e .e))) (Tr.set (some (xRow 111 (dcells a3))) (Tr.set (some (xRow 82 (dcells a2))) (Tr.set (some (xRow 32 (dcells a0))) T nx) n1) n2) n3) n4) d5) fun d6 =>
 fN (Nat.succ n5) fun n6 =>
 zstore 13 (Tr.set (some (XO.mk 51 13 1 (.n [(.v (.int .i64 (.ofNat 0))), (.v (.int .i64 (.ofNat 0))), (.v (.int .i64 (.ofNat 0))), (.v (.int .i64 (.ofNat 0))), (.v (.int .i64 (.ofNat 0))), (.v (.int .i64 (.ofNat 0))), (.v (.int .i64 (.ofNat 0))), (.v (.bool false)), (.v (.int .u64 (.ofNat 0))), (.v (.int .u64 (.ofNat 0))), (.v (.int .u64 (.ofNat 0))), (.v (.int .u64 (.ofNat 0))), (.v (.int .u64 (.ofNat 0)))] .e .e))) (Tr.set (some (XO.mk 66 3 1 (.n [(.v (.int .i64 (.ofNat 0))), (.v (.int .u64 (.ofNat 0))), (.v (.int .i64 (.ofNat 0)))] .e .e))) (Tr.set (some (XO.mk 32 5 1 (.n [(.v (.int .i64 (.ofNat 0))), (.v (.int .i64 (.ofNat 0))), (.v (.int .i64 (.ofNat 0))), .e0, .e0] .e .e))) (Tr.set (some (xRow 111 (dcells a3))) (Tr.set (some (xRow 82 (dcells a2))) (Tr.set (some (xRow 32 (dcells a0))) T nx) n1) n2) n3) n4) n5) (.ptr n5 13 0 0) d6 fun r1 T1 => fN (lowN nx r1) fun l1 =>
 bnd (zfieldAddr 7 (.ptr n5 13 0 0)) fun d7 =>
 bnd (zload none T1 d7) fun d8 =>
 bnd (zun .not d8) fun d9 =>
 cnd d9 (
  bnd (zload (some 5) T1 (.ptr nx e1 0 0)) fun d10 =>
  bnd (zbuild [(.int .i64 (.ofNat 0)), (.int .u64 (.ofNat 0)), (.int .i64 (.ofNat 0))] [(0, 1), (1, 1), (2, 1)] [0] [(.v (.int .i64 (.ofNat 14)))]) fun d11 =>
  zstore 5 T1 (.ptr n3 5 0 0) d10 fun r2 T2 => fN (lowN l1 r2) fun l2 =>
  zstore 3 T2 (.ptr n4 3 0 0) d11 fun r3 T3 => fN (lowN l2 r3) fun l3 =>
 bnd (zres (some 5) T3 (.ptr n3 5 0 0)) fun d12 =>
 bnd (zres (some 3) T3 (.ptr n4 3 0 0)) fun d13 =>
 finK T nx (.tup [d12, d13]) T3 n6 l3
 ) (
 bnd (zload (some 5) T1 (.ptr nx e1 0 0)) fun d14 =>
 bndR (F162 [d14] T1 n6) fun d15 T4 n7 l4 => fN (lowN l1 l4) fun l5 =>
 fN (Nat.succ n7) fun n8 =>
 zstore 5 (Tr.set (some (XO.mk 32 5 1 (.n [(.v (.int .i64 (.ofNat 0))), (.v (.int .i64 (.ofNat 0))), (.v (.int .i64 (.ofNat 0))), .e0, .e0] .e .e))) T4 n7) (.ptr n7 5 0 0) d15 fun r4 T5 => fN (lowN l5 r4) fun l6 =>
 jn (fun v1 T6 n9 l7 => unc v1 fun d16 w1 => unc w1 fun d17 w2 => unc w2 fun d18 w3 => unc w3 fun d19 w4 => unc w4 fun d20 w5 =>
  bnd (zfieldAddr 4 d20) fun d21 =>
  bnd (zload none T6 d21) fun d22 =>
  bnd (zfieldAddr 1 d16) fun d23 =>
  bnd (zload none T6 d23) fun d24 =>
  bnd (zbuild [(.int .i64 (.ofNat 0)), (.int .i64 (.ofNat 0)), (.int .i64 (.ofNat 0)), (.int .i64 (.ofNat 0)), (.int .i64 (.ofNat 0)), (.int .i64 (.ofNat 0)), (.int .i64 (.ofNat 0)), (.bool false), (.int .u64 (.ofNat 0)), (.int .u64 (.ofNat 0)), (.int .u64 (.ofNat 0)), (.int .u64 (.ofNat 0)), (.int .u64 (.ofNat 0))] [(0, 1), (1, 1), (2, 1), (3, 1), (4, 1), (5, 1), (6, 1), (7, 1), (8, 1), (9, 4)] [0] [(.v (.int .i64 (.ofNat 3)))]) fun d25 =>
  bnd (zindexAddr (.sl 13) d22 d24) fun d26 =>
  zstore 13 T6 d26 d25 fun r5 T7 => fN (lowN l7 r5) fun l8 =>
  bnd (zload (some 5) T7 d20) fun d27 =>
  bnd (zfieldAddr 8 d19) fun d28 =>
  bnd (zload none T7 d28) fun d29 =>
  bnd (zfieldAddr 6 d19) fun d30 =>
  bnd (zload none T7 d30) fun d31 =>
  bnd (zbuild [(.int .i64 (.ofNat 0)), (.int .u64 (.ofNat 0)), (.int .i64 (.ofNat 0))] [(0, 1), (1, 1), (2, 1)] [1, 2] [d29, d31]) fun d32 =>
  zstore 5 T7 d17 d27 fun r6 T8 => fN (lowN l8 r6) fun l9 =>
  zstore 3 T8 d18 d32 fun r7 T9 => fN (lowN l9 r7) fun l10 =>
  bB (apt (.op (ptr? d28) []) (.op [r6] [r6])) <|
  bB (apt (.op (ptr? d30) []) (.op [r6] [r6])) <|
 bnd (zres (some 5) T9 d17) fun d33 =>
 bnd (zres (some 3) T9 d18) fun d34 =>
 finK T nx (.tup [d33, d34]) T9 n9 l10) fun K1 =>
 bnd (zfieldAddr 2 (.ptr n1 e2 0 0)) fun d35 =>
 bnd (zfieldAddr 0 d35) fun d36 =>
 bnd (zload none T5 d36) fun d37 =>
 bnd (zlen true d37) fun d38 =>
 bnd (zbin .i .gtr d38 (.v (.int .i64 (.ofNat 0)))) fun d39 =>
 opG.gjn (fun k1 => zgd d39 true (
  bnd (zfieldAddr 5 (.ptr n5 13 0 0)) fun d40 =>
  k1 [] [] d40 T5 n8 l6
 ) (k1 [] [] (.v undef) T5 n8 l6)) fun _ _ d41 T10 n10 l11 =>
 opG.gjn (fun k2 => zgd d39 true (
  bnd (zload none T10 d41) fun d42 =>
  k2 (ptr? d41) [] d42 T10 n10 l11
 ) (k2 [] [] (.v undef) T10 n10 l11)) fun _ _ d43 T11 n11 l12 =>
 opG.gjn (fun k3 => zgd d39 true (
  bnd (zbin .i .gtr d43 (.v (.int .i64 (.ofNat 0)))) fun d44 =>
  k3 [] [] d44 T11 n11 l12
 ) (k3 [] [] (.v undef) T11 n11 l12)) fun _ _ d45 T12 n12 l13 =>
 bnd (zpick d39 d45 (.v (.bool false))) fun d46 =>
 cnd d46 (
  bnd (zload (some 5) T12 (.ptr nx e1 0 0)) fun d47 =>
  bnd (zfieldAddr 2 (.ptr n1 e2 0 0)) fun d48 =>
  bnd (zload (some 1) T12 d48) fun d49 =>
  bndR (F203 [d47, a1, d49] T12 n12) fun d50 T13 n13 l14 => fN (lowN l13 l14) fun l15 =>
  bnd (zextract d50 0) fun d51 =>
  bnd (zextract d50 1) fun d52 =>
  bnd (zbin .i .neq d52 (.v (.int .i64 (.ofNat 0)))) fun d53 =>
  cnd d53 (
   bnd (zload (some 5) T13 (.ptr nx e1 0 0)) fun d54 =>
   bnd (zbuild [(.int .i64 (.ofNat 0)), (.int .u64 (.ofNat 0)), (.int .i64 (.ofNat 0))] [(0, 1), (1, 1), (2, 1)] [0] [d52]) fun d55 =>
   zstore 5 T13 (.ptr n3 5 0 0) d54 fun r8 T14 => fN (lowN l15 r8) fun l16 =>
   zstore 3 T14 (.ptr n4 3 0 0) d55 fun r9 T15 => fN (lowN l16 r9) fun l17 =>
 bnd (zres (some 5) T15 (.ptr n3 5 0 0)) fun d56 =>
 bnd (zres (some 3) T15 (.ptr n4 3 0 0)) fun d57 =>
 finK T nx (.tup [d56, d57]) T15 n13 l17
  ) (
  bnd (zload (some 5) T13 (.ptr nx e1 0 0)) fun d58 =>
  bnd (zfieldAddr 5 (.ptr n5 13 0 0)) fun d59 =>
  bnd (zload none T13 d59) fun d60 =>
  bnd (zbin .i .sub d60 (.v (.int .i64 (.ofNat 1)))) fun d61 =>
  bnd (zfieldAddr 3 (.ptr nx e1 0 0)) fun d62 =>
  bnd (zload none T13 d62) fun d63 =>
  bnd (zfieldAddr 5 (.ptr n5 13 0 0)) fun d64 =>
  bnd (zload none T13 d64) fun d65 =>
  bnd (zbin .i .sub d65 (.v (.int .i64 (.ofNat 1)))) fun d66 =>
  bnd (zindexAddr (.sl 5) d63 d66) fun d67 =>
  bnd (zfieldAddr 0 d67) fun d68 =>
  bnd (zload (some 4) T13 d68) fun d69 =>
  bndR (F210 [d58, d61, d51, d69] T13 n13) fun d70 T16 n14 l18 => fN (lowN n13 l18) fun l19 => bB (Nat.beq l19 n13) <|
  bnd (zextract d70 0) fun d71 =>
  bnd (zextract d70 1) fun d72 =>
  zstore 5 T16 (.ptr n7 5 0 0) d71 fun r10 T17 => fN (lowN l15 r10) fun l20 =>
  bnd (zbin .i .neq d72 (.v (.int .i64 (.ofNat 0)))) fun d73 =>
  cnd d73 (
   bnd (zload (some 5) T17 (.ptr nx e1 0 0)) fun d74 =>
   bnd (zbuild [(.int .i64 (.ofNat 0)), (.int .u64 (.ofNat 0)), (.int .i64 (.ofNat 0))] [(0, 1), (1, 1), (2, 1)] [0] [d72]) fun d75 =>
   zstore 5 T17 (.ptr n3 5 0 0) d74 fun r11 T18 => fN (lowN l20 r11) fun l21 =>
   zstore 3 T18 (.ptr n4 3 0 0) d75 fun r12 T19 => fN (lowN l21 r12) fun l22 =>
 bnd (zres (some 5) T19 (.ptr n3 5 0 0)) fun d76 =>
 bnd (zres (some 3) T19 (.ptr n4 3 0 0)) fun d77 =>
 finK T nx (.tup [d76, d77]) T19 n14 l22
  ) (
 K1 [(.ptr n2 e3 0 0), (.ptr n3 5 0 0), (.ptr n4 3 0 0), (.ptr n5 13 0 0), (.ptr n7 5 0 0)] T17 n14 l20
  )
  )
 ) (
 K1 [(.ptr n2 e3 0 0), (.ptr n3 5 0 0), (.ptr n4 3 0 0), (.ptr n5 13 0 0), (.ptr n7 5 0 0)] T12 n12 l13
 )
 )
theorem e161 (a0 a1 a2 a3 : D) (T : ST) (nx : Nat) : fnK Tryz.prog [(162, F162), (203, F203), (210, F210)] (drD Tryz.prog [(162, F162), (203, F203), (210, F210)]) FU Tryz.f161 (.s .o (.s .o (.s (.s .o (.c (.s .o .o) .o)) (.s .o (.j [7, 8, 9, 10, 11] (.s .o (.c (.s .o (.s (.s .o (.c (.s .o .o) .o)) (.s .o (.s .o (.c (.s .o .o) .o))))) .o)) (.s .o (.s .o .o))))))) [a0, a1, a2, a3] T nx = s161 a0 a1 a2 a3 T nx := by kernel_rfl
noncomputable def F161 : Sem := ar4 s161
theorem k161 : FnOk Tryz.prog 161 F161 := ar4_ok (fnK_ok (by kernel_rfl) (CallsOk.cons h162 k162 (CallsOk.cons h203 k203 (CallsOk.cons h210 k210 CallsOk.nil))) (drD_ok hmix (CallsOk.cons h162 k162 (CallsOk.cons h203 k203 (CallsOk.cons h210 k210 CallsOk.nil))))) e161
/- reeve/mail.Do -/
theorem h106 : HasFn Tryz.prog 106 := ⟨by kernel_rfl⟩
noncomputable def s106 (a0 a1 a2 : D) : ST → Nat → Option Rt := fun T nx =>
 bB (solidB a0) <| fN (Nat.succ nx) fun n1 => fN (dcells a0).length fun e1 =>
 bB (solidB a2) <| fN (Nat.succ n1) fun n2 => fN (dcells a2).length fun e2 =>
 fN (Nat.succ n2) fun n3 =>
 fN (Nat.succ n3) fun n4 =>
 bnd (zload (some 6) (Tr.set (some (XO.mk 66 3 1 (.n [(.v (.int .i64 (.ofNat 0))), (.v (.int .u64 (.ofNat 0))), (.v (.int .i64 (.ofNat 0)))] .e .e))) (Tr.set (some (XO.mk 32 5 1 (.n [(.v (.int .i64 (.ofNat 0))), (.v (.int .i64 (.ofNat 0))), (.v (.int .i64 (.ofNat 0))), .e0, .e0] .e .e))) (Tr.set (some (xRow 82 (dcells a2))) (Tr.set (some (xRow 32 (dcells a0))) T nx) n1) n2) n3) (.ptr n1 e2 0 0)) fun d1 =>
 bndR (F101 [d1] (Tr.set (some (XO.mk 66 3 1 (.n [(.v (.int .i64 (.ofNat 0))), (.v (.int .u64 (.ofNat 0))), (.v (.int .i64 (.ofNat 0)))] .e .e))) (Tr.set (some (XO.mk 32 5 1 (.n [(.v (.int .i64 (.ofNat 0))), (.v (.int .i64 (.ofNat 0))), (.v (.int .i64 (.ofNat 0))), .e0, .e0] .e .e))) (Tr.set (some (xRow 82 (dcells a2))) (Tr.set (some (xRow 32 (dcells a0))) T nx) n1) n2) n3) n4) fun d2 T1 n5 l1 => fN (lowN nx l1) fun l2 =>
 bnd (zun .not d2) fun d3 =>
 opG.gjn (fun k1 => zgd d3 false (
  bnd (zfieldAddr 0 (.ptr n1 e2 0 0)) fun d4 =>
  k1 [] [] d4 T1 n5 l2
 ) (k1 [] [] (.v undef) T1 n5 l2)) fun _ _ d5 T2 n6 l3 =>
 opG.gjn (fun k2 => zgd d3 false (
  bnd (zload none T2 d5) fun d6 =>
  k2 (ptr? d5) [] d6 T2 n6 l3
 ) (k2 [] [] (.v undef) T2 n6 l3)) fun _ _ d7 T3 n7 l4 =>
 opG.gjn (fun k3 => zgd d3 false (
  bnd (zbin .i .neq d7 (.v (.int .i64 (.ofNat 7)))) fun d8 =>
  k3 [] [] d8 T3 n7 l4
 ) (k3 [] [] (.v undef) T3 n7 l4)) fun _ _ d9 T4 n8 l5 =>
 opG.gjn (fun k4 => zgd d3 false (
  k4 [] [] d9 T4 n8 l5
 ) (k4 [] [] (.v undef) T4 n8 l5)) fun _ _ d10 T5 n9 l6 =>
 opG.gjn (fun k5 => zgd d10 true (
  bnd (zfieldAddr 0 (.ptr n1 e2 0 0)) fun d11 =>
  k5 [] [] d11 T5 n9 l6
 ) (k5 [] [] (.v undef) T5 n9 l6)) fun _ _ d12 T6 n10 l7 =>
 opG.gjn (fun k6 => zgd d10 true (
  bnd (zload none T6 d12) fun d13 =>
  k6 (ptr? d12) [] d13 T6 n10 l7
 ) (k6 [] [] (.v undef) T6 n10 l7)) fun _ _ d14 T7 n11 l8 =>
 opG.gjn (fun k7 => zgd d10 true (
  bnd (zbin .i .neq d14 (.v (.int .i64 (.ofNat 8)))) fun d15 =>
  k7 [] [] d15 T7 n11 l8
 ) (k7 [] [] (.v undef) T7 n11 l8)) fun _ _ d16 T8 n12 l9 =>
 opG.gjn (fun k8 => zgd d3 false (
  bnd (zpick d10 d16 (.v (.bool false))) fun d17 =>
  k8 [] [] d17 T8 n12 l9
 ) (k8 [] [] (.v undef) T8 n12 l9)) fun _ _ d18 T9 n13 l10 =>
 bnd (zpick d3 (.v (.bool true)) d18) fun d19 =>
 cnd d19 (
  bnd (zload (some 5) T9 (.ptr nx e1 0 0)) fun d20 =>
  bnd (zbuild [(.int .i64 (.ofNat 0)), (.int .u64 (.ofNat 0)), (.int .i64 (.ofNat 0))] [(0, 1), (1, 1), (2, 1)] [0] [(.v (.int .i64 (.ofNat 1)))]) fun d21 =>
  zstore 5 T9 (.ptr n2 5 0 0) d20 fun r1 T10 => fN (lowN l10 r1) fun l11 =>
  zstore 3 T10 (.ptr n3 3 0 0) d21 fun r2 T11 => fN (lowN l11 r2) fun l12 =>
 bnd (zres (some 5) T11 (.ptr n2 5 0 0)) fun d22 =>
 bnd (zres (some 3) T11 (.ptr n3 3 0 0)) fun d23 =>
 finK T nx (.tup [d22, d23]) T11 n13 l12
 ) (
 bnd (zload (some 5) T9 (.ptr nx e1 0 0)) fun d24 =>
 bnd (zfieldAddr 1 (.ptr n1 e2 0 0)) fun d25 =>
 bnd (zload (some 1) T9 d25) fun d26 =>
 bndR (F156 [d24, a1, d26] T9 n13) fun d27 T12 n14 l13 => fN (lowN l10 l13) fun l14 =>
 bnd (zextract d27 0) fun d28 =>
 bnd (zextract d27 1) fun d29 =>
 bnd (zextract d27 2) fun d30 =>
 fN (Nat.succ n14) fun n15 =>
 zstore 4 (Tr.set (some (XO.mk 111 4 1 (.n [(.v (.int .i64 (.ofNat 0))), (.v (.int .i64 (.ofNat 0))), (.v (.int .i64 (.ofNat 0))), (.v (.int .i64 (.ofNat 0)))] .e .e))) T12 n14) (.ptr n14 4 0 0) d29 fun r3 T13 => fN (lowN l14 r3) fun l15 =>
 jn (fun v1 T14 n16 l16 => unc v1 fun d31 w1 => unc w1 fun d32 w2 => unc w2 fun d33 w3 => unc w3 fun d34 w4 => unc w4 fun d35 w5 => unc w5 fun d36 w6 => unc w6 fun d37 w7 => unc w7 fun d38 w8 =>
  bnd (zbin .i .neq d37 (.v (.int .i64 (.ofNat 0)))) fun d39 =>
  cnd d39 (
   bnd (zload (some 5) T14 d32) fun d40 =>
   bnd (zbuild [(.int .i64 (.ofNat 0)), (.int .u64 (.ofNat 0)), (.int .i64 (.ofNat 0))] [(0, 1), (1, 1), (2, 1)] [0] [d37]) fun d41 =>
   zstore 5 T14 d34 d40 fun r4 T15 => fN (lowN l16 r4) fun l17 =>
   zstore 3 T15 d35 d41 fun r5 T16 => fN (lowN l17 r5) fun l18 =>
 bnd (zres (some 5) T16 d34) fun d42 =>
 bnd (zres (some 3) T16 d35) fun d43 =>
 finK T nx (.tup [d42, d43]) T16 n16 l18
  ) (
   bnd (zfieldAddr 0 d36) fun d44 =>
   bnd (zload none T14 d44) fun d45 =>
   bnd (zbin .i .neq d45 (.v (.int .i64 (.ofNat 3)))) fun d46 =>
   cnd d46 (
    bnd (zload (some 5) T14 d32) fun d47 =>
    bnd (zbuild [(.int .i64 (.ofNat 0)), (.int .u64 (.ofNat 0)), (.int .i64 (.ofNat 0))] [(0, 1), (1, 1), (2, 1)] [0] [(.v (.int .i64 (.ofNat 7)))]) fun d48 =>
    zstore 5 T14 d34 d47 fun r6 T17 => fN (lowN l16 r6) fun l19 =>
    zstore 3 T17 d35 d48 fun r7 T18 => fN (lowN l19 r7) fun l20 =>
 bnd (zres (some 5) T18 d34) fun d49 =>
 bnd (zres (some 3) T18 d35) fun d50 =>
 finK T nx (.tup [d49, d50]) T18 n16 l20
   ) (
    bnd (zfieldAddr 2 d36) fun d51 =>
    bnd (zload none T14 d51) fun d52 =>
    bndR (F159 [d38, d52] T14 n16) fun d53 T19 n17 l21 => fN (lowN l16 l21) fun l22 =>
    bnd (zun .not d53) fun d54 =>
    cnd d54 (
     bnd (zload (some 5) T19 d32) fun d55 =>
     bnd (zbuild [(.int .i64 (.ofNat 0)), (.int .u64 (.ofNat 0)), (.int .i64 (.ofNat 0))] [(0, 1), (1, 1), (2, 1)] [0] [(.v (.int .i64 (.ofNat 6)))]) fun d56 =>
     zstore 5 T19 d34 d55 fun r8 T20 => fN (lowN l22 r8) fun l23 =>
     zstore 3 T20 d35 d56 fun r9 T21 => fN (lowN l23 r9) fun l24 =>
 bnd (zres (some 5) T21 d34) fun d57 =>
 bnd (zres (some 3) T21 d35) fun d58 =>
 finK T nx (.tup [d57, d58]) T21 n17 l24
    ) (
  bnd (zfieldAddr 0 d33) fun d59 =>
  bnd (zload none T19 d59) fun d60 =>
  bnd (zbin .i .eql d60 (.v (.int .i64 (.ofNat 7)))) fun d61 =>
  cnd d61 (
   bnd (zload (some 5) T19 d32) fun d62 =>
   bnd (zload (some 6) T19 d33) fun d63 =>
   bnd (zload (some 4) T19 d36) fun d64 =>
   bndR (F160 [d62, d31, d63, d64] T19 n17) fun d65 T22 n18 l25 => fN (lowN l22 l25) fun l26 =>
   bnd (zextract d65 0) fun d66 =>
   bnd (zextract d65 1) fun d67 =>
   zstore 5 T22 d34 d66 fun r10 T23 => fN (lowN l26 r10) fun l27 =>
   zstore 3 T23 d35 d67 fun r11 T24 => fN (lowN l27 r11) fun l28 =>
 bnd (zres (some 5) T24 d34) fun d68 =>
 bnd (zres (some 3) T24 d35) fun d69 =>
 finK T nx (.tup [d68, d69]) T24 n18 l28
  ) (
  bnd (zload (some 5) T19 d32) fun d70 =>
  bnd (zload (some 6) T19 d33) fun d71 =>
  bnd (zload (some 4) T19 d36) fun d72 =>
  bndR (F161 [d70, d31, d71, d72] T19 n17) fun d73 T25 n19 l29 => fN (lowN l22 l29) fun l30 =>
  bnd (zextract d73 0) fun d74 =>
  bnd (zextract d73 1) fun d75 =>
  zstore 5 T25 d34 d74 fun r12 T26 => fN (lowN l30 r12) fun l31 =>
  zstore 3 T26 d35 d75 fun r13 T27 => fN (lowN l31 r13) fun l32 =>
 bnd (zres (some 5) T27 d34) fun d76 =>
 bnd (zres (some 3) T27 d35) fun d77 =>
 finK T nx (.tup [d76, d77]) T27 n19 l32
  )
    )
   )
  )) fun K1 =>
 bnd (zfieldAddr 0 (.ptr n1 e2 0 0)) fun d78 =>
 bnd (zload none T13 d78) fun d79 =>
 bnd (zbin .i .eql d79 (.v (.int .i64 (.ofNat 8)))) fun d80 =>
 cnd d80 (
 K1 [a1, (.ptr nx e1 0 0), (.ptr n1 e2 0 0), (.ptr n2 5 0 0), (.ptr n3 3 0 0), (.ptr n14 4 0 0), d30, (.v (.int .i64 (.ofNat 1)))] T13 n15 l15
 ) (
 K1 [a1, (.ptr nx e1 0 0), (.ptr n1 e2 0 0), (.ptr n2 5 0 0), (.ptr n3 3 0 0), (.ptr n14 4 0 0), d30, (.v (.int .i64 (.ofNat 2)))] T13 n15 l15
 )
 )
theorem e106 (a0 a1 a2 : D) (T : ST) (nx : Nat) : fnK Tryz.prog [(101, F101), (156, F156), (159, F159), (160, F160), (161, F161)] dr0 FU Tryz.f106 (.s .o (.s (.s .o (.c (.s .o .o) .o)) (.s .o (.s .o (.j [1, 3, 5, 6, 7, 9, 10, 11] (.s .o (.c .o .o)) (.s (.b (.s .o (.c (.s .o .o) (.s .o (.c (.s .o .o) (.s .o (.c (.s .o .o) .o))))))) (.s (.s .o (.c (.s .o .o) .o)) (.s .o .o)))))))) [a0, a1, a2] T nx = s106 a0 a1 a2 T nx := by kernel_rfl
noncomputable def F106 : Sem := ar3 s106
theorem k106 : FnOk Tryz.prog 106 F106 := ar3_ok (fnK_ok (by kernel_rfl) (CallsOk.cons h101 k101 (CallsOk.cons h156 k156 (CallsOk.cons h159 k159 (CallsOk.cons h160 k160 (CallsOk.cons h161 k161 CallsOk.nil))))) dr0_ok) e106
/- reeve/bell.Do -/
theorem h107 : HasFn Tryz.prog 107 := ⟨by kernel_rfl⟩
noncomputable def s107 (a0 a1 a2 : D) : ST → Nat → Option Rt := fun T nx =>
 bB (solidB a0) <| fN (Nat.succ nx) fun n1 => fN (dcells a0).length fun e1 =>
 bB (solidB a2) <| fN (Nat.succ n1) fun n2 => fN (dcells a2).length fun e2 =>
 fN (Nat.succ n2) fun n3 =>
 fN (Nat.succ n3) fun n4 =>
 bnd (zload (some 6) (Tr.set (some (XO.mk 66 3 1 (.n [(.v (.int .i64 (.ofNat 0))), (.v (.int .u64 (.ofNat 0))), (.v (.int .i64 (.ofNat 0)))] .e .e))) (Tr.set (some (XO.mk 32 5 1 (.n [(.v (.int .i64 (.ofNat 0))), (.v (.int .i64 (.ofNat 0))), (.v (.int .i64 (.ofNat 0))), .e0, .e0] .e .e))) (Tr.set (some (xRow 82 (dcells a2))) (Tr.set (some (xRow 32 (dcells a0))) T nx) n1) n2) n3) (.ptr n1 e2 0 0)) fun d1 =>
 bndR (F101 [d1] (Tr.set (some (XO.mk 66 3 1 (.n [(.v (.int .i64 (.ofNat 0))), (.v (.int .u64 (.ofNat 0))), (.v (.int .i64 (.ofNat 0)))] .e .e))) (Tr.set (some (XO.mk 32 5 1 (.n [(.v (.int .i64 (.ofNat 0))), (.v (.int .i64 (.ofNat 0))), (.v (.int .i64 (.ofNat 0))), .e0, .e0] .e .e))) (Tr.set (some (xRow 82 (dcells a2))) (Tr.set (some (xRow 32 (dcells a0))) T nx) n1) n2) n3) n4) fun d2 T1 n5 l1 => fN (lowN nx l1) fun l2 =>
 bnd (zun .not d2) fun d3 =>
 opG.gjn (fun k1 => zgd d3 false (
  bnd (zfieldAddr 0 (.ptr n1 e2 0 0)) fun d4 =>
  k1 [] [] d4 T1 n5 l2
 ) (k1 [] [] (.v undef) T1 n5 l2)) fun _ _ d5 T2 n6 l3 =>
 opG.gjn (fun k2 => zgd d3 false (
  bnd (zload none T2 d5) fun d6 =>
  k2 (ptr? d5) [] d6 T2 n6 l3
 ) (k2 [] [] (.v undef) T2 n6 l3)) fun _ _ d7 T3 n7 l4 =>
 opG.gjn (fun k3 => zgd d3 false (
  bnd (zbin .i .neq d7 (.v (.int .i64 (.ofNat 9)))) fun d8 =>
  k3 [] [] d8 T3 n7 l4
 ) (k3 [] [] (.v undef) T3 n7 l4)) fun _ _ d9 T4 n8 l5 =>
 opG.gjn (fun k4 => zgd d3 false (
  k4 [] [] d9 T4 n8 l5
 ) (k4 [] [] (.v undef) T4 n8 l5)) fun _ _ d10 T5 n9 l6 =>
 opG.gjn (fun k5 => zgd d10 true (
  bnd (zfieldAddr 0 (.ptr n1 e2 0 0)) fun d11 =>
  k5 [] [] d11 T5 n9 l6
 ) (k5 [] [] (.v undef) T5 n9 l6)) fun _ _ d12 T6 n10 l7 =>
 opG.gjn (fun k6 => zgd d10 true (
  bnd (zload none T6 d12) fun d13 =>
  k6 (ptr? d12) [] d13 T6 n10 l7
 ) (k6 [] [] (.v undef) T6 n10 l7)) fun _ _ d14 T7 n11 l8 =>
 opG.gjn (fun k7 => zgd d10 true (
  bnd (zbin .i .neq d14 (.v (.int .i64 (.ofNat 10)))) fun d15 =>
  k7 [] [] d15 T7 n11 l8
 ) (k7 [] [] (.v undef) T7 n11 l8)) fun _ _ d16 T8 n12 l9 =>
 opG.gjn (fun k8 => zgd d3 false (
  bnd (zpick d10 d16 (.v (.bool false))) fun d17 =>
  k8 [] [] d17 T8 n12 l9
 ) (k8 [] [] (.v undef) T8 n12 l9)) fun _ _ d18 T9 n13 l10 =>
 bnd (zpick d3 (.v (.bool true)) d18) fun d19 =>
 cnd d19 (
  bnd (zload (some 5) T9 (.ptr nx e1 0 0)) fun d20 =>
  bnd (zbuild [(.int .i64 (.ofNat 0)), (.int .u64 (.ofNat 0)), (.int .i64 (.ofNat 0))] [(0, 1), (1, 1), (2, 1)] [0] [(.v (.int .i64 (.ofNat 1)))]) fun d21 =>
  zstore 5 T9 (.ptr n2 5 0 0) d20 fun r1 T10 => fN (lowN l10 r1) fun l11 =>
  zstore 3 T10 (.ptr n3 3 0 0) d21 fun r2 T11 => fN (lowN l11 r2) fun l12 =>
 bnd (zres (some 5) T11 (.ptr n2 5 0 0)) fun d22 =>
 bnd (zres (some 3) T11 (.ptr n3 3 0 0)) fun d23 =>
 finK T nx (.tup [d22, d23]) T11 n13 l12
 ) (
 bnd (zload (some 5) T9 (.ptr nx e1 0 0)) fun d24 =>
 bnd (zfieldAddr 1 (.ptr n1 e2 0 0)) fun d25 =>
 bnd (zload (some 1) T9 d25) fun d26 =>
 bndR (F156 [d24, a1, d26] T9 n13) fun d27 T12 n14 l13 => fN (lowN l10 l13) fun l14 =>
 bnd (zextract d27 0) fun d28 =>
 bnd (zextract d27 1) fun d29 =>
 bnd (zextract d27 2) fun d30 =>
 fN (Nat.succ n14) fun n15 =>
 zstore 4 (Tr.set (some (XO.mk 111 4 1 (.n [(.v (.int .i64 (.ofNat 0))), (.v (.int .i64 (.ofNat 0))), (.v (.int .i64 (.ofNat 0))), (.v (.int .i64 (.ofNat 0)))] .e .e))) T12 n14) (.ptr n14 4 0 0) d29 fun r3 T13 => fN (lowN l14 r3) fun l15 =>
 jn (fun v1 T14 n16 l16 => unc v1 fun d31 w1 => unc w1 fun d32 w2 => unc w2 fun d33 w3 => unc w3 fun d34 w4 => unc w4 fun d35 w5 => unc w5 fun d36 w6 => unc w6 fun d37 w7 =>
  bnd (zbin .i .neq d36 (.v (.int .i64 (.ofNat 0)))) fun d38 =>
  cnd d38 (
   bnd (zload (some 5) T14 d31) fun d39 =>
   bnd (zbuild [(.int .i64 (.ofNat 0)), (.int .u64 (.ofNat 0)), (.int .i64 (.ofNat 0))] [(0, 1), (1, 1), (2, 1)] [0] [d36]) fun d40 =>
   zstore 5 T14 d33 d39 fun r4 T15 => fN (lowN l16 r4) fun l17 =>
   zstore 3 T15 d34 d40 fun r5 T16 => fN (lowN l17 r5) fun l18 =>
 bnd (zres (some 5) T16 d33) fun d41 =>
 bnd (zres (some 3) T16 d34) fun d42 =>
 finK T nx (.tup [d41, d42]) T16 n16 l18
  ) (
   bnd (zfieldAddr 0 d35) fun d43 =>
   bnd (zload none T14 d43) fun d44 =>
   bnd (zbin .i .neq d44 (.v (.int .i64 (.ofNat 4)))) fun d45 =>
   cnd d45 (
    bnd (zload (some 5) T14 d31) fun d46 =>
    bnd (zbuild [(.int .i64 (.ofNat 0)), (.int .u64 (.ofNat 0)), (.int .i64 (.ofNat 0))] [(0, 1), (1, 1), (2, 1)] [0] [(.v (.int .i64 (.ofNat 7)))]) fun d47 =>
    zstore 5 T14 d33 d46 fun r6 T17 => fN (lowN l16 r6) fun l19 =>
    zstore 3 T17 d34 d47 fun r7 T18 => fN (lowN l19 r7) fun l20 =>
 bnd (zres (some 5) T18 d33) fun d48 =>
 bnd (zres (some 3) T18 d34) fun d49 =>
 finK T nx (.tup [d48, d49]) T18 n16 l20
   ) (
    bnd (zfieldAddr 2 d35) fun d50 =>
    bnd (zload none T14 d50) fun d51 =>
    bndR (F159 [d37, d51] T14 n16) fun d52 T19 n17 l21 => fN (lowN l16 l21) fun l22 =>
    bnd (zun .not d52) fun d53 =>
    cnd d53 (
     bnd (zload (some 5) T19 d31) fun d54 =>
     bnd (zbuild [(.int .i64 (.ofNat 0)), (.int .u64 (.ofNat 0)), (.int .i64 (.ofNat 0))] [(0, 1), (1, 1), (2, 1)] [0] [(.v (.int .i64 (.ofNat 6)))]) fun d55 =>
     zstore 5 T19 d33 d54 fun r8 T20 => fN (lowN l22 r8) fun l23 =>
     zstore 3 T20 d34 d55 fun r9 T21 => fN (lowN l23 r9) fun l24 =>
 bnd (zres (some 5) T21 d33) fun d56 =>
 bnd (zres (some 3) T21 d34) fun d57 =>
 finK T nx (.tup [d56, d57]) T21 n17 l24
    ) (
  bnd (zfieldAddr 4 d31) fun d58 =>
  bnd (zload none T19 d58) fun d59 =>
  bnd (zfieldAddr 1 d35) fun d60 =>
  bnd (zload none T19 d60) fun d61 =>
  bnd (zindexAddr (.sl 13) d59 d61) fun d62 =>
  bnd (zfieldAddr 8 d62) fun d63 =>
  bnd (zload none T19 d63) fun d64 =>
  bnd (zfieldAddr 0 d32) fun d65 =>
  bnd (zload none T19 d65) fun d66 =>
  bnd (zbin .i .eql d66 (.v (.int .i64 (.ofNat 10)))) fun d67 =>
  opG.gjn (fun k9 => zgd d67 true (
   k9 [] [] d64 T19 n17 l22
  ) (k9 [] [] (.v undef) T19 n17 l22)) fun _ _ d68 T22 n18 l25 =>
  opG.gjn (fun k10 => zgd d67 true (
   bnd (zbin .i .eql d68 (.v (.int .u64 (.ofNat 0)))) fun d69 =>
   k10 [] [] d69 T22 n18 l25
  ) (k10 [] [] (.v undef) T22 n18 l25)) fun _ _ d70 T23 n19 l26 =>
  bnd (zpick d67 d70 (.v (.bool false))) fun d71 =>
  cnd d71 (
   bnd (zload (some 5) T23 d31) fun d72 =>
   bnd (zbuild [(.int .i64 (.ofNat 0)), (.int .u64 (.ofNat 0)), (.int .i64 (.ofNat 0))] [(0, 1), (1, 1), (2, 1)] [0] [(.v (.int .i64 (.ofNat 14)))]) fun d73 =>
   zstore 5 T23 d33 d72 fun r10 T24 => fN (lowN l26 r10) fun l27 =>
   zstore 3 T24 d34 d73 fun r11 T25 => fN (lowN l27 r11) fun l28 =>
 bnd (zres (some 5) T25 d33) fun d74 =>
 bnd (zres (some 3) T25 d34) fun d75 =>
 finK T nx (.tup [d74, d75]) T25 n19 l28
  ) (
  bnd (zload (some 5) T23 d31) fun d76 =>
  bndR (F162 [d76] T23 n19) fun d77 T26 n20 l29 => fN (lowN l26 l29) fun l30 =>
  zstore 5 T26 d31 d77 fun r12 T27 => fN (lowN l30 r12) fun l31 =>
  bnd (zfieldAddr 0 d32) fun d78 =>
  bnd (zload none T27 d78) fun d79 =>
  bnd (zbin .i .eql d79 (.v (.int .i64 (.ofNat 10)))) fun d80 =>
  cnd d80 (
   bnd (zfieldAddr 4 d31) fun d81 =>
   bnd (zload none T27 d81) fun d82 =>
   bnd (zfieldAddr 1 d35) fun d83 =>
   bnd (zload none T27 d83) fun d84 =>
   bnd (zindexAddr (.sl 13) d82 d84) fun d85 =>
   bnd (zfieldAddr 8 d85) fun d86 =>
   zstore 1 T27 d86 (.v (.int .u64 (.ofNat 0))) fun r13 T28 => fN (lowN l31 r13) fun l32 =>
   bnd (zload (some 5) T28 d31) fun d87 =>
   bnd (zbuild [(.int .i64 (.ofNat 0)), (.int .u64 (.ofNat 0)), (.int .i64 (.ofNat 0))] [(0, 1), (1, 1), (2, 1)] [1] [d64]) fun d88 =>
   zstore 5 T28 d33 d87 fun r14 T29 => fN (lowN l32 r14) fun l33 =>
   zstore 3 T29 d34 d88 fun r15 T30 => fN (lowN l33 r15) fun l34 =>
 bnd (zres (some 5) T30 d33) fun d89 =>
 bnd (zres (some 3) T30 d34) fun d90 =>
 finK T nx (.tup [d89, d90]) T30 n20 l34
  ) (
  bnd (zfieldAddr 4 d31) fun d91 =>
  bnd (zload none T27 d91) fun d92 =>
  bnd (zfieldAddr 1 d35) fun d93 =>
  bnd (zload none T27 d93) fun d94 =>
  bnd (zfieldAddr 3 d35) fun d95 =>
  bnd (zload none T27 d95) fun d96 =>
  bnd (zbin .i .rem d96 (.v (.int .i64 (.ofNat 64)))) fun d97 =>
  bnd (zbin .sh .shl (.v (.int .u64 (.ofNat 1))) d97) fun d98 =>
  bnd (zbin .i .or d64 d98) fun d99 =>
  bnd (zindexAddr (.sl 13) d92 d94) fun d100 =>
  bnd (zfieldAddr 8 d100) fun d101 =>
  zstore 1 T27 d101 d99 fun r16 T31 => fN (lowN l31 r16) fun l35 =>
  bnd (zload (some 5) T31 d31) fun d102 =>
  bnd (zbuild [(.int .i64 (.ofNat 0)), (.int .u64 (.ofNat 0)), (.int .i64 (.ofNat 0))] [(0, 1), (1, 1), (2, 1)] [] []) fun d103 =>
  zstore 5 T31 d33 d102 fun r17 T32 => fN (lowN l35 r17) fun l36 =>
  zstore 3 T32 d34 d103 fun r18 T33 => fN (lowN l36 r18) fun l37 =>
 bnd (zres (some 5) T33 d33) fun d104 =>
 bnd (zres (some 3) T33 d34) fun d105 =>
 finK T nx (.tup [d104, d105]) T33 n20 l37
  )
  )
    )
   )
  )) fun K1 =>
 bnd (zfieldAddr 0 (.ptr n1 e2 0 0)) fun d106 =>
 bnd (zload none T13 d106) fun d107 =>
 bnd (zbin .i .eql d107 (.v (.int .i64 (.ofNat 10)))) fun d108 =>
 cnd d108 (
 K1 [(.ptr nx e1 0 0), (.ptr n1 e2 0 0), (.ptr n2 5 0 0), (.ptr n3 3 0 0), (.ptr n14 4 0 0), d30, (.v (.int .i64 (.ofNat 1)))] T13 n15 l15
 ) (
 K1 [(.ptr nx e1 0 0), (.ptr n1 e2 0 0), (.ptr n2 5 0 0), (.ptr n3 3 0 0), (.ptr n14 4 0 0), d30, (.v (.int .i64 (.ofNat 2)))] T13 n15 l15
 )
 )
theorem e107 (a0 a1 a2 : D) (T : ST) (nx : Nat) : fnK Tryz.prog [(101, F101), (156, F156), (159, F159), (162, F162)] (drD Tryz.prog [(101, F101), (156, F156), (159, F159), (162, F162)]) FU Tryz.f107 (.s .o (.s (.s .o (.c (.s .o .o) .o)) (.s .o (.s .o (.j [3, 5, 6, 7, 9, 10, 11] (.s .o (.c .o .o)) (.s (.b (.s .o (.c (.s .o .o) (.s .o (.c (.s .o .o) (.s .o (.c (.s .o .o) .o))))))) (.s .o (.s (.s .o (.c (.s .o .o) .o)) (.s .o (.s (.s .o (.c (.s .o (.s .o .o)) .o)) (.s .o (.s .o .o)))))))))))) [a0, a1, a2] T nx = s107 a0 a1 a2 T nx := by kernel_rfl
noncomputable def F107 : Sem := ar3 s107
theorem k107 : FnOk Tryz.prog 107 F107 := ar3_ok (fnK_ok (by kernel_rfl) (CallsOk.cons h101 k101 (CallsOk.cons h156 k156 (CallsOk.cons h159 k159 (CallsOk.cons h162 k162 CallsOk.nil)))) (drD_ok hmix (CallsOk.cons h101 k101 (CallsOk.cons h156 k156 (CallsOk.cons h159 k159 (CallsOk.cons h162 k162 CallsOk.nil)))))) e107
/- reeve/forest.Depth -/
theorem h163 : HasFn Tryz.prog 163 := ⟨by kernel_rfl⟩
noncomputable def s163 (fu : Nat) (a0 a1 : D) : ST → Nat → Option Rt := fun T nx =>
 bB (solidB a0) <| fN (Nat.succ nx) fun n1 => fN (dcells a0).length fun e1 =>
 bnd (zload (some 1) (Tr.set (some (xRow 201 (dcells a0))) T nx) (.ptr nx e1 0 0)) fun d1 =>
 bndR (F214 [d1, a1] (Tr.set (some (xRow 201 (dcells a0))) T nx) n1) fun d2 T1 n2 l1 => fN (lowN nx l1) fun l2 =>
 bnd (zun .not d2) fun d3 =>
 cnd d3 (
 finK T nx (.v (.int .i64 (.negSucc 0))) T1 n2 l2
 ) (
 jn (fun v1 T2 n3 l3 => unc v1 fun d4 w1 =>
 finK T nx d4 T2 n3 l3) fun K1 =>
 bnd (zfieldAddr 0 (.ptr nx e1 0 0)) fun d5 =>
 bnd (zload none T1 d5) fun d6 =>
 bnd (zindexAddr (.sl 1) d6 a1) fun d7 =>
 bnd (zload none T1 d7) fun d8 =>
 lpc fu (fun go1 v2 T3 n4 l4 => unc v2 fun d9 w2 => unc w2 fun d10 w3 => unc w3 fun d11 w4 =>
  bnd (zbin .i .neq d11 (.v (.int .i64 (.negSucc 0)))) fun d12 =>
  cnd d12 (
  bnd (zbin .i .add d10 (.v (.int .i64 (.ofNat 1)))) fun d13 =>
  bnd (zfieldAddr 0 d9) fun d14 =>
  bnd (zload none T3 d14) fun d15 =>
  bnd (zindexAddr (.sl 1) d15 d11) fun d16 =>
  bnd (zload none T3 d16) fun d17 =>
 go1 [d9, d13, d17] T3 n4 l4
  ) (
 K1 [d10] T3 n4 l4
  )) [(.ptr nx e1 0 0), (.v (.int .i64 (.ofNat 0))), d8] T1 n2 l2
 )
theorem e163 (fu : Nat) (a0 a1 : D) (T : ST) (nx : Nat) : fnK Tryz.prog [(214, F214)] dr0 fu Tryz.f163 (.s .o (.s (.s .o (.c (.s .o .o) .o)) (.s .o (.j [5] (.s .o (.b (.l [2, 5, 6] (.s (.s .o (.c .o .o)) (.s (.b .o) .o))))) (.s .o .o))))) [a0, a1] T nx = s163 fu a0 a1 T nx := by kernel_rfl
noncomputable def F163 : Sem := ar2 (s163 FU)
theorem k163 : FnOk Tryz.prog 163 F163 := ar2_ok (fnK_ok (by kernel_rfl) (CallsOk.cons h214 k214 CallsOk.nil) dr0_ok) (e163 FU)
/- reeve/leaf.Do -/
theorem h108 : HasFn Tryz.prog 108 := ⟨by kernel_rfl⟩
noncomputable def s108 (a0 a1 a2 : D) : ST → Nat → Option Rt := fun T nx =>
 bB (solidB a0) <| fN (Nat.succ nx) fun n1 => fN (dcells a0).length fun e1 =>
 bB (solidB a2) <| fN (Nat.succ n1) fun n2 => fN (dcells a2).length fun e2 =>
 fN (Nat.succ n2) fun n3 =>
 fN (Nat.succ n3) fun n4 =>
 bnd (zload (some 6) (Tr.set (some (XO.mk 66 3 1 (.n [(.v (.int .i64 (.ofNat 0))), (.v (.int .u64 (.ofNat 0))), (.v (.int .i64 (.ofNat 0)))] .e .e))) (Tr.set (some (XO.mk 32 5 1 (.n [(.v (.int .i64 (.ofNat 0))), (.v (.int .i64 (.ofNat 0))), (.v (.int .i64 (.ofNat 0))), .e0, .e0] .e .e))) (Tr.set (some (xRow 82 (dcells a2))) (Tr.set (some (xRow 32 (dcells a0))) T nx) n1) n2) n3) (.ptr n1 e2 0 0)) fun d1 =>
 bndR (F101 [d1] (Tr.set (some (XO.mk 66 3 1 (.n [(.v (.int .i64 (.ofNat 0))), (.v (.int .u64 (.ofNat 0))), (.v (.int .i64 (.ofNat 0)))] .e .e))) (Tr.set (some (XO.mk 32 5 1 (.n [(.v (.int .i64 (.ofNat 0))), (.v (.int .i64 (.ofNat 0))), (.v (.int .i64 (.ofNat 0))), .e0, .e0] .e .e))) (Tr.set (some (xRow 82 (dcells a2))) (Tr.set (some (xRow 32 (dcells a0))) T nx) n1) n2) n3) n4) fun d2 T1 n5 l1 => fN (lowN nx l1) fun l2 =>
 bnd (zun .not d2) fun d3 =>
 opG.gjn (fun k1 => zgd d3 false (
  bnd (zfieldAddr 0 (.ptr n1 e2 0 0)) fun d4 =>
  k1 [] [] d4 T1 n5 l2
 ) (k1 [] [] (.v undef) T1 n5 l2)) fun _ _ d5 T2 n6 l3 =>
 opG.gjn (fun k2 => zgd d3 false (
  bnd (zload none T2 d5) fun d6 =>
  k2 (ptr? d5) [] d6 T2 n6 l3
 ) (k2 [] [] (.v undef) T2 n6 l3)) fun _ _ d7 T3 n7 l4 =>
 opG.gjn (fun k3 => zgd d3 false (
  bnd (zbin .i .neq d7 (.v (.int .i64 (.ofNat 11)))) fun d8 =>
  k3 [] [] d8 T3 n7 l4
 ) (k3 [] [] (.v undef) T3 n7 l4)) fun _ _ d9 T4 n8 l5 =>
 opG.gjn (fun k4 => zgd d3 false (
  k4 [] [] d9 T4 n8 l5
 ) (k4 [] [] (.v undef) T4 n8 l5)) fun _ _ d10 T5 n9 l6 =>
 opG.gjn (fun k5 => zgd d10 true (
  bnd (zfieldAddr 0 (.ptr n1 e2 0 0)) fun d11 =>
  k5 [] [] d11 T5 n9 l6
 ) (k5 [] [] (.v undef) T5 n9 l6)) fun _ _ d12 T6 n10 l7 =>
 opG.gjn (fun k6 => zgd d10 true (
  bnd (zload none T6 d12) fun d13 =>
  k6 (ptr? d12) [] d13 T6 n10 l7
 ) (k6 [] [] (.v undef) T6 n10 l7)) fun _ _ d14 T7 n11 l8 =>
 opG.gjn (fun k7 => zgd d10 true (
  bnd (zbin .i .neq d14 (.v (.int .i64 (.ofNat 12)))) fun d15 =>
  k7 [] [] d15 T7 n11 l8
 ) (k7 [] [] (.v undef) T7 n11 l8)) fun _ _ d16 T8 n12 l9 =>
 opG.gjn (fun k8 => zgd d3 false (
  bnd (zpick d10 d16 (.v (.bool false))) fun d17 =>
  k8 [] [] d17 T8 n12 l9
 ) (k8 [] [] (.v undef) T8 n12 l9)) fun _ _ d18 T9 n13 l10 =>
 opG.gjn (fun k9 => zgd d3 false (
  k9 [] [] d18 T9 n13 l10
 ) (k9 [] [] (.v undef) T9 n13 l10)) fun _ _ d19 T10 n14 l11 =>
 opG.gjn (fun k10 => zgd d19 true (
  bnd (zfieldAddr 0 (.ptr n1 e2 0 0)) fun d20 =>
  k10 [] [] d20 T10 n14 l11
 ) (k10 [] [] (.v undef) T10 n14 l11)) fun _ _ d21 T11 n15 l12 =>
 opG.gjn (fun k11 => zgd d19 true (
  bnd (zload none T11 d21) fun d22 =>
  k11 (ptr? d21) [] d22 T11 n15 l12
 ) (k11 [] [] (.v undef) T11 n15 l12)) fun _ _ d23 T12 n16 l13 =>
 opG.gjn (fun k12 => zgd d19 true (
  bnd (zbin .i .neq d23 (.v (.int .i64 (.ofNat 13)))) fun d24 =>
  k12 [] [] d24 T12 n16 l13
 ) (k12 [] [] (.v undef) T12 n16 l13)) fun _ _ d25 T13 n17 l14 =>
 opG.gjn (fun k13 => zgd d3 false (
  bnd (zpick d19 d25 (.v (.bool false))) fun d26 =>
  k13 [] [] d26 T13 n17 l14
 ) (k13 [] [] (.v undef) T13 n17 l14)) fun _ _ d27 T14 n18 l15 =>
 bnd (zpick d3 (.v (.bool true)) d27) fun d28 =>
 cnd d28 (
  bnd (zload (some 5) T14 (.ptr nx e1 0 0)) fun d29 =>
  bnd (zbuild [(.int .i64 (.ofNat 0)), (.int .u64 (.ofNat 0)), (.int .i64 (.ofNat 0))] [(0, 1), (1, 1), (2, 1)] [0] [(.v (.int .i64 (.ofNat 1)))]) fun d30 =>
  zstore 5 T14 (.ptr n2 5 0 0) d29 fun r1 T15 => fN (lowN l15 r1) fun l16 =>
  zstore 3 T15 (.ptr n3 3 0 0) d30 fun r2 T16 => fN (lowN l16 r2) fun l17 =>
 bnd (zres (some 5) T16 (.ptr n2 5 0 0)) fun d31 =>
 bnd (zres (some 3) T16 (.ptr n3 3 0 0)) fun d32 =>
 finK T nx (.tup [d31, d32]) T16 n18 l17
 ) (
 bnd (zload (some 5) T14 (.ptr nx e1 0 0)) fun d33 =>
 bnd (zfieldAddr 1 (.ptr n1 e2 0 0)) fun d34 =>
 bnd (zload (some 1) T14 d34) fun d35 =>
 bndR (F156 [d33, a1, d35] T14 n18) fun d36 T17 n19 l18 => fN (lowN l15 l18) fun l19 =>
 bnd (zextract d36 0) fun d37 =>
 bnd (zextract d36 1) fun d38 =>
 bnd (zextract d36 2) fun d39 =>
 fN (Nat.succ n19) fun n20 =>
 zstore 4 (Tr.set (some (XO.mk 111 4 1 (.n [(.v (.int .i64 (.ofNat 0))), (.v (.int .i64 (.ofNat 0))), (.v (.int .i64 (.ofNat 0))), (.v (.int .i64 (.ofNat 0)))] .e .e))) T17 n19) (.ptr n19 4 0 0) d38 fun r3 T18 => fN (lowN l19 r3) fun l20 =>
 bnd (zbin .i .neq d39 (.v (.int .i64 (.ofNat 0)))) fun d40 =>
 cnd d40 (
  bnd (zload (some 5) T18 (.ptr nx e1 0 0)) fun d41 =>
  bnd (zbuild [(.int .i64 (.ofNat 0)), (.int .u64 (.ofNat 0)), (.int .i64 (.ofNat 0))] [(0, 1), (1, 1), (2, 1)] [0] [d39]) fun d42 =>
  zstore 5 T18 (.ptr n2 5 0 0) d41 fun r4 T19 => fN (lowN l20 r4) fun l21 =>
  zstore 3 T19 (.ptr n3 3 0 0) d42 fun r5 T20 => fN (lowN l21 r5) fun l22 =>
 bnd (zres (some 5) T20 (.ptr n2 5 0 0)) fun d43 =>
 bnd (zres (some 3) T20 (.ptr n3 3 0 0)) fun d44 =>
 finK T nx (.tup [d43, d44]) T20 n20 l22
 ) (
 bnd (zfieldAddr 0 (.ptr n1 e2 0 0)) fun d45 =>
 bnd (zload none T18 d45) fun d46 =>
 bnd (zbin .i .eql d46 (.v (.int .i64 (.ofNat 13)))) fun d47 =>
 cnd d47 (
  bnd (zload (some 4) T18 (.ptr n19 4 0 0)) fun d48 =>
  bndR (F111 [d48] T18 n20) fun d49 T21 n21 l23 => fN (lowN l20 l23) fun l24 =>
  bnd (zextract d49 0) fun d50 =>
  bnd (zextract d49 1) fun d51 =>
  bnd (zload (some 5) T21 (.ptr nx e1 0 0)) fun d52 =>
  bnd (zload (some 5) T21 (.ptr nx e1 0 0)) fun d53 =>
  bndR (F147 [d53] T21 n21) fun d54 T22 n22 l25 => fN (lowN n21 l25) fun l26 => bB (Nat.beq l26 n21) <|
  bndR (F163 [d54, d37] T22 n22) fun d55 T23 n23 l27 => fN (lowN n22 l27) fun l28 => bB (Nat.beq l28 n22) <|
  bnd (zbuild [(.int .i64 (.ofNat 0)), (.int .u64 (.ofNat 0)), (.int .i64 (.ofNat 0))] [(0, 1), (1, 1), (2, 1)] [1, 2] [d50, d55]) fun d56 =>
  zstore 5 T23 (.ptr n2 5 0 0) d52 fun r6 T24 => fN (lowN l24 r6) fun l29 =>
  zstore 3 T24 (.ptr n3 3 0 0) d56 fun r7 T25 => fN (lowN l29 r7) fun l30 =>
  bB (apt (.op (ptr? (.ptr nx e1 0 0)) []) (.call n21 n22)) <|
  bB (apt (.op (ptr? (.ptr nx e1 0 0)) []) (.call n22 n23)) <|
 bnd (zres (some 5) T25 (.ptr n2 5 0 0)) fun d57 =>
 bnd (zres (some 3) T25 (.ptr n3 3 0 0)) fun d58 =>
 finK T nx (.tup [d57, d58]) T25 n23 l30
 ) (
 jn (fun v1 T26 n24 l31 => unc v1 fun d59 w1 => unc w1 fun d60 w2 => unc w2 fun d61 w3 => unc w3 fun d62 w4 => unc w4 fun d63 w5 => unc w5 fun d64 w6 =>
  bnd (zfieldAddr 0 d63) fun d65 =>
  bnd (zload none T26 d65) fun d66 =>
  bnd (zbin .i .neq d66 (.v (.int .i64 (.ofNat 5)))) fun d67 =>
  cnd d67 (
   bnd (zload (some 5) T26 d59) fun d68 =>
   bnd (zbuild [(.int .i64 (.ofNat 0)), (.int .u64 (.ofNat 0)), (.int .i64 (.ofNat 0))] [(0, 1), (1, 1), (2, 1)] [0] [(.v (.int .i64 (.ofNat 7)))]) fun d69 =>
   zstore 5 T26 d61 d68 fun r8 T27 => fN (lowN l31 r8) fun l32 =>
   zstore 3 T27 d62 d69 fun r9 T28 => fN (lowN l32 r9) fun l33 =>
 bnd (zres (some 5) T28 d61) fun d70 =>
 bnd (zres (some 3) T28 d62) fun d71 =>
 finK T nx (.tup [d70, d71]) T28 n24 l33
  ) (
   bnd (zfieldAddr 2 d63) fun d72 =>
   bnd (zload none T26 d72) fun d73 =>
   bndR (F159 [d64, d73] T26 n24) fun d74 T29 n25 l34 => fN (lowN l31 l34) fun l35 =>
   bnd (zun .not d74) fun d75 =>
   cnd d75 (
    bnd (zload (some 5) T29 d59) fun d76 =>
    bnd (zbuild [(.int .i64 (.ofNat 0)), (.int .u64 (.ofNat 0)), (.int .i64 (.ofNat 0))] [(0, 1), (1, 1), (2, 1)] [0] [(.v (.int .i64 (.ofNat 6)))]) fun d77 =>
    zstore 5 T29 d61 d76 fun r10 T30 => fN (lowN l35 r10) fun l36 =>
    zstore 3 T30 d62 d77 fun r11 T31 => fN (lowN l36 r11) fun l37 =>
 bnd (zres (some 5) T31 d61) fun d78 =>
 bnd (zres (some 3) T31 d62) fun d79 =>
 finK T nx (.tup [d78, d79]) T31 n25 l37
   ) (
    bnd (zfieldAddr 0 d60) fun d80 =>
    bnd (zload none T29 d80) fun d81 =>
    bnd (zbin .i .eql d81 (.v (.int .i64 (.ofNat 12)))) fun d82 =>
    cnd d82 (
     bnd (zload (some 5) T29 d59) fun d83 =>
     bnd (zfieldAddr 4 d59) fun d84 =>
     bnd (zload none T29 d84) fun d85 =>
     bnd (zfieldAddr 1 d63) fun d86 =>
     bnd (zload none T29 d86) fun d87 =>
     bnd (zfieldAddr 3 d60) fun d88 =>
     bnd (zload none T29 d88) fun d89 =>
     bnd (zindexAddr (.sl 13) d85 d87) fun d90 =>
     bnd (zfieldAddr 9 d90) fun d91 =>
     bnd (zindexAddr (.arr 4 1) d91 d89) fun d92 =>
     bnd (zload none T29 d92) fun d93 =>
     bnd (zbuild [(.int .i64 (.ofNat 0)), (.int .u64 (.ofNat 0)), (.int .i64 (.ofNat 0))] [(0, 1), (1, 1), (2, 1)] [1] [d93]) fun d94 =>
     zstore 5 T29 d61 d83 fun r12 T32 => fN (lowN l35 r12) fun l38 =>
     zstore 3 T32 d62 d94 fun r13 T33 => fN (lowN l38 r13) fun l39 =>
     bB (apt (.op (ptr? d84) []) (.op [r12] [r12])) <|
     bB (apt (.op (ptr? d86) []) (.op [r12] [r12])) <|
     bB (apt (.op (ptr? d88) []) (.op [r12] [r12])) <|
     bB (apt (.op (ptr? d92) []) (.op [r12] [r12])) <|
 bnd (zres (some 5) T33 d61) fun d95 =>
 bnd (zres (some 3) T33 d62) fun d96 =>
 finK T nx (.tup [d95, d96]) T33 n25 l39
    ) (
  bnd (zload (some 5) T29 d59) fun d97 =>
  bndR (F162 [d97] T29 n25) fun d98 T34 n26 l40 => fN (lowN l35 l40) fun l41 =>
  zstore 5 T34 d59 d98 fun r14 T35 => fN (lowN l41 r14) fun l42 =>
  bnd (zfieldAddr 4 d59) fun d99 =>
  bnd (zload none T35 d99) fun d100 =>
  bnd (zfieldAddr 1 d63) fun d101 =>
  bnd (zload none T35 d101) fun d102 =>
  bnd (zfieldAddr 3 d60) fun d103 =>
  bnd (zload none T35 d103) fun d104 =>
  bnd (zfieldAddr 5 d60) fun d105 =>
  bnd (zload none T35 d105) fun d106 =>
  bnd (zindexAddr (.sl 13) d100 d102) fun d107 =>
  bnd (zfieldAddr 9 d107) fun d108 =>
  bnd (zindexAddr (.arr 4 1) d108 d104) fun d109 =>
  zstore 1 T35 d109 d106 fun r15 T36 => fN (lowN l42 r15) fun l43 =>
  bnd (zload (some 5) T36 d59) fun d110 =>
  bnd (zbuild [(.int .i64 (.ofNat 0)), (.int .u64 (.ofNat 0)), (.int .i64 (.ofNat 0))] [(0, 1), (1, 1), (2, 1)] [] []) fun d111 =>
  zstore 5 T36 d61 d110 fun r16 T37 => fN (lowN l43 r16) fun l44 =>
  zstore 3 T37 d62 d111 fun r17 T38 => fN (lowN l44 r17) fun l45 =>
 bnd (zres (some 5) T38 d61) fun d112 =>
 bnd (zres (some 3) T38 d62) fun d113 =>
 finK T nx (.tup [d112, d113]) T38 n26 l45
    )
   )
  )) fun K1 =>
 bnd (zfieldAddr 0 (.ptr n1 e2 0 0)) fun d114 =>
 bnd (zload none T18 d114) fun d115 =>
 bnd (zbin .i .eql d115 (.v (.int .i64 (.ofNat 12)))) fun d116 =>
 cnd d116 (
 K1 [(.ptr nx e1 0 0), (.ptr n1 e2 0 0), (.ptr n2 5 0 0), (.ptr n3 3 0 0), (.ptr n19 4 0 0), (.v (.int .i64 (.ofNat 1)))] T18 n20 l20
 ) (
 K1 [(.ptr nx e1 0 0), (.ptr n1 e2 0 0), (.ptr n2 5 0 0), (.ptr n3 3 0 0), (.ptr n19 4 0 0), (.v (.int .i64 (.ofNat 2)))] T18 n20 l20
 )
 )
 )
 )
theorem e108 (a0 a1 a2 : D) (T : ST) (nx : Nat) : fnK Tryz.prog [(101, F101), (156, F156), (111, F111), (147, F147), (163, F163), (159, F159), (162, F162)] (drD Tryz.prog [(101, F101), (156, F156), (111, F111), (147, F147), (163, F163), (159, F159), (162, F162)]) FU Tryz.f108 (.s .o (.s (.s .o (.c (.s .o .o) .o)) (.s .o (.s (.s .o (.c (.s .o .o) .o)) (.s (.s .o (.c (.s .o (.s .o .o)) .o)) (.s .o (.j [3, 5, 6, 7, 9, 13] (.s .o (.c .o .o)) (.s (.b (.s .o (.c (.s .o .o) (.s .o (.c (.s .o .o) (.s .o (.c (.s .o .o) .o))))))) (.s .o (.s .o (.s .o .o))))))))))) [a0, a1, a2] T nx = s108 a0 a1 a2 T nx := by kernel_rfl
noncomputable def F108 : Sem := ar3 s108
theorem k108 : FnOk Tryz.prog 108 F108 := ar3_ok (fnK_ok (by kernel_rfl) (CallsOk.cons h101 k101 (CallsOk.cons h156 k156 (CallsOk.cons h111 k111 (CallsOk.cons h147 k147 (CallsOk.cons h163 k163 (CallsOk.cons h159 k159 (CallsOk.cons h162 k162 CallsOk.nil))))))) (drD_ok hmix (CallsOk.cons h101 k101 (CallsOk.cons h156 k156 (CallsOk.cons h111 k111 (CallsOk.cons h147 k147 (CallsOk.cons h163 k163 (CallsOk.cons h159 k159 (CallsOk.cons h162 k162 CallsOk.nil))))))))) e108
end Go.Abs
