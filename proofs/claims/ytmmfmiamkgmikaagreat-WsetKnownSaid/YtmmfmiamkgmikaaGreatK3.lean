/- Functions of the program as what they run as, printed by a program of this session. -/
import Derived.Test.YtmmfmiamkgmikaaGreatK2
set_option linter.unusedVariables false
set_option maxRecDepth 100000
open Go Go.Proofs
namespace Go.Abs
/- (reeve/forest.Forest).is -/
theorem h194 : HasFn Tryz.prog 194 := ⟨by kernel_rfl⟩
noncomputable def s194 (a0 a1 : D) : ST → Nat → Option Rt := fun T nx =>
 bB (solidB a0) <| fN (Nat.succ nx) fun n1 => fN (dcells a0).length fun e1 =>
 bnd (zbin .i .geq a1 (.v (.int .i64 (.ofNat 0)))) fun d1 =>
 opG.gjn (fun k1 => zgd d1 true (
  k1 [] [] a1 (Tr.set (some (xRow 201 (dcells a0))) T nx) n1 nx
 ) (k1 [] [] (.v undef) (Tr.set (some (xRow 201 (dcells a0))) T nx) n1 nx)) fun _ _ d2 T1 n2 l1 =>
 opG.gjn (fun k2 => zgd d1 true (
  bnd (zfieldAddr 0 (.ptr nx e1 0 0)) fun d3 =>
  k2 [] [] d3 T1 n2 l1
 ) (k2 [] [] (.v undef) T1 n2 l1)) fun _ _ d4 T2 n3 l2 =>
 opG.gjn (fun k3 => zgd d1 true (
  bnd (zload none T2 d4) fun d5 =>
  k3 (ptr? d4) [] d5 T2 n3 l2
 ) (k3 [] [] (.v undef) T2 n3 l2)) fun _ _ d6 T3 n4 l3 =>
 opG.gjn (fun k4 => zgd d1 true (
  bnd (zlen true d6) fun d7 =>
  k4 [] [] d7 T3 n4 l3
 ) (k4 [] [] (.v undef) T3 n4 l3)) fun _ _ d8 T4 n5 l4 =>
 opG.gjn (fun k5 => zgd d1 true (
  bnd (zbin .i .lss d2 d8) fun d9 =>
  k5 [] [] d9 T4 n5 l4
 ) (k5 [] [] (.v undef) T4 n5 l4)) fun _ _ d10 T5 n6 l5 =>
 bnd (zpick d1 d10 (.v (.bool false))) fun d11 =>
 opG.gjn (fun k6 => zgd d11 true (
  bnd (zfieldAddr 0 (.ptr nx e1 0 0)) fun d12 =>
  k6 [] [] d12 T5 n6 l5
 ) (k6 [] [] (.v undef) T5 n6 l5)) fun _ _ d13 T6 n7 l6 =>
 opG.gjn (fun k7 => zgd d11 true (
  bnd (zload none T6 d13) fun d14 =>
  k7 (ptr? d13) [] d14 T6 n7 l6
 ) (k7 [] [] (.v undef) T6 n7 l6)) fun _ _ d15 T7 n8 l7 =>
 opG.gjn (fun k8 => zgd d11 true (
  k8 [] [] a1 T7 n8 l7
 ) (k8 [] [] (.v undef) T7 n8 l7)) fun _ _ d16 T8 n9 l8 =>
 opG.gjn (fun k9 => zgd d11 true (
  bnd (zindexAddr (.sl 1) d15 d16) fun d17 =>
  k9 [] [] d17 T8 n9 l8
 ) (k9 [] [] (.v undef) T8 n9 l8)) fun _ _ d18 T9 n10 l9 =>
 opG.gjn (fun k10 => zgd d11 true (
  bnd (zload none T9 d18) fun d19 =>
  k10 (ptr? d18) [] d19 T9 n10 l9
 ) (k10 [] [] (.v undef) T9 n10 l9)) fun _ _ d20 T10 n11 l10 =>
 opG.gjn (fun k11 => zgd d11 true (
  bnd (zbin .i .neq d20 (.v (.int .i64 (.negSucc 1)))) fun d21 =>
  k11 [] [] d21 T10 n11 l10
 ) (k11 [] [] (.v undef) T10 n11 l10)) fun _ _ d22 T11 n12 l11 =>
 bnd (zpick d11 d22 (.v (.bool false))) fun d23 =>
 finK T nx d23 T11 n12 l11
theorem e194 (a0 a1 : D) (T : ST) (nx : Nat) : fnK Tryz.prog [] dr0 FU Tryz.f194 (.s .o (.s .o .o)) [a0, a1] T nx = s194 a0 a1 T nx := by kernel_rfl
noncomputable def F194 : Sem := ar2 s194
theorem k194 : FnOk Tryz.prog 194 F194 := ar2_ok (fnK_ok (by kernel_rfl) CallsOk.nil dr0_ok) e194
/- reeve/forest.Good -/
theorem h146 : HasFn Tryz.prog 146 := ⟨by kernel_rfl⟩
noncomputable def s146 (fu : Nat) (a0 : D) : ST → Nat → Option Rt := fun T nx =>
 bB (solidB a0) <| fN (Nat.succ nx) fun n1 => fN (dcells a0).length fun e1 =>
 bnd (zfieldAddr 0 (.ptr nx e1 0 0)) fun d1 =>
 bnd (zload none (Tr.set (some (xRow 201 (dcells a0))) T nx) d1) fun d2 =>
 bnd (zlen true d2) fun d3 =>
 bnd (zbin .i .gtr d3 (.v (.int .i64 (.ofNat 96)))) fun d4 =>
 cnd d4 (
 finK T nx (.v (.bool false)) (Tr.set (some (xRow 201 (dcells a0))) T nx) n1 nx
 ) (
 jn (fun v1 T1 n2 l1 => unc v1 fun d5 w1 =>
  jn (fun v2 T2 n3 l2 =>
 finK T nx (.v (.bool true)) T2 n3 l2) fun K1 =>
  bnd (zfieldAddr 0 d5) fun d6 =>
  bnd (zload none T1 d6) fun d7 =>
  bnd (zlen true d7) fun d8 =>
  lpc fu (fun go1 v3 T3 n4 l3 => unc v3 fun d9 w2 => unc w2 fun d10 w3 => unc w3 fun d11 w4 =>
   bnd (zbin .i .lss d11 d10) fun d12 =>
   cnd d12 (
   jn (fun v4 T4 n5 l4 => unc v4 fun d13 w5 => unc w5 fun d14 w6 => unc w6 fun d15 w7 =>
    bnd (zbin .i .add d15 (.v (.int .i64 (.ofNat 1)))) fun d16 =>
  go1 [d13, d14, d16] T4 n5 l4) fun K2 =>
   lpc fu (fun go2 v5 T5 n6 l5 => unc v5 fun d17 w8 => unc w8 fun d18 w9 => unc w9 fun d19 w10 => unc w10 fun d20 w11 => unc w11 fun d21 w12 =>
    bnd (zload (some 1) T5 d17) fun d22 =>
    bndR (F194 [d22, d19] T5 n6) fun d23 T6 n7 l6 => fN (lowN l5 l6) fun l7 =>
    cnd d23 (
    bnd (zfieldAddr 0 d17) fun d24 =>
    bnd (zload none T6 d24) fun d25 =>
    bnd (zlen true d25) fun d26 =>
    bnd (zbin .i .gtr d18 d26) fun d27 =>
    cnd d27 (
 finK T nx (.v (.bool false)) T6 n7 l7
    ) (
    bnd (zbin .i .add d18 (.v (.int .i64 (.ofNat 1)))) fun d28 =>
    bnd (zfieldAddr 0 d17) fun d29 =>
    bnd (zload none T6 d29) fun d30 =>
    bnd (zindexAddr (.sl 1) d30 d19) fun d31 =>
    bnd (zload none T6 d31) fun d32 =>
   go2 [d17, d28, d32, d20, d21] T6 n7 l7
    )
    ) (
   K2 [d17, d20, d21] T6 n7 l7
    )) [d9, (.v (.int .i64 (.ofNat 0))), d11, d10, d11] T3 n4 l3
   ) (
  K1 [] T3 n4 l3
   )) [d5, d8, (.v (.int .i64 (.ofNat 0)))] T1 n2 l1) fun K3 =>
 bnd (zfieldAddr 0 (.ptr nx e1 0 0)) fun d33 =>
 bnd (zload none (Tr.set (some (xRow 201 (dcells a0))) T nx) d33) fun d34 =>
 bnd (zlen true d34) fun d35 =>
 lpc fu (fun go3 v6 T7 n8 l8 => unc v6 fun d36 w13 => unc w13 fun d37 w14 => unc w14 fun d38 w15 => unc w15 fun d39 w16 =>
  bnd (zbin .i .lss d39 d38) fun d40 =>
  cnd d40 (
  bnd (zindexAddr (.sl 1) d37 d39) fun d41 =>
  bnd (zload none T7 d41) fun d42 =>
  bnd (zbin .i .neq d42 (.v (.int .i64 (.negSucc 1)))) fun d43 =>
  opG.gjn (fun k1 => zgd d43 true (
   k1 [] [] d42 T7 n8 l8
  ) (k1 [] [] (.v undef) T7 n8 l8)) fun _ _ d44 T8 n9 l9 =>
  opG.gjn (fun k2 => zgd d43 true (
   bnd (zbin .i .neq d44 (.v (.int .i64 (.negSucc 0)))) fun d45 =>
   k2 [] [] d45 T8 n9 l9
  ) (k2 [] [] (.v undef) T8 n9 l9)) fun _ _ d46 T9 n10 l10 =>
  bnd (zpick d43 d46 (.v (.bool false))) fun d47 =>
  opG.gjn (fun k3 => zgd d47 true (
   bnd (zload (some 1) T9 d36) fun d48 =>
   k3 (ptr? d36) [] d48 T9 n10 l10
  ) (k3 [] [] (.v undef) T9 n10 l10)) fun _ _ d49 T10 n11 l11 =>
  opG.gjn (fun k4 => zgd d47 true (
   k4 [] [] d42 T10 n11 l11
  ) (k4 [] [] (.v undef) T10 n11 l11)) fun _ _ d50 T11 n12 l12 =>
  opG.gjn (fun k5 => zgd d47 true (
   bndR (F194 [d49, d50] T11 n12) fun d51 T12 n13 l13 => fN (lowN l12 l13) fun l14 =>
   k5 [] [] d51 T12 n13 l14
  ) (k5 [] [] (.v undef) T11 n12 l12)) fun _ _ d52 T13 n14 l15 =>
  opG.gjn (fun k6 => zgd d47 true (
   bnd (zun .not d52) fun d53 =>
   k6 [] [] d53 T13 n14 l15
  ) (k6 [] [] (.v undef) T13 n14 l15)) fun _ _ d54 T14 n15 l16 =>
  bnd (zpick d47 d54 (.v (.bool false))) fun d55 =>
  cnd d55 (
 finK T nx (.v (.bool false)) T14 n15 l16
  ) (
  bnd (zbin .i .add d39 (.v (.int .i64 (.ofNat 1)))) fun d56 =>
 go3 [d36, d37, d38, d56] T14 n15 l16
  )
  ) (
 K3 [d36] T7 n8 l8
  )) [(.ptr nx e1 0 0), d34, d35, (.v (.int .i64 (.ofNat 0)))] (Tr.set (some (xRow 201 (dcells a0))) T nx) n1 nx
 )
theorem e146 (fu : Nat) (a0 : D) (T : ST) (nx : Nat) : fnK Tryz.prog [(194, F194)] dr0 fu Tryz.f146 (.s .o (.s (.s .o (.c (.s .o .o) .o)) (.j [1] (.s .o (.b (.l [1, 13, 14, 15] (.s .o (.s (.c .o .o) (.s (.b (.s .o (.s .o (.c (.s .o .o) .o)))) .o)))))) (.j [] (.s .o (.b (.l [1, 34, 35] (.s .o (.s (.c .o .o) (.j [1, 34, 35] (.b (.s .o (.s .o (.s .o (.b (.l [1, 6, 7, 34, 35] (.s (.s .o (.c .o .o)) (.s (.b (.s (.s .o (.c (.s .o .o) .o)) .o)) .o)))))))) .o)))))) (.s .o .o))))) [a0] T nx = s146 fu a0 T nx := by kernel_rfl
noncomputable def F146 : Sem := ar1 (s146 FU)
theorem k146 : FnOk Tryz.prog 146 F146 := ar1_ok (fnK_ok (by kernel_rfl) (CallsOk.cons h194 k194 CallsOk.nil) dr0_ok) (e146 FU)
/- reeve/state.Forest -/
theorem h147 : HasFn Tryz.prog 147 := ⟨by kernel_rfl⟩
noncomputable def s147 (fu : Nat) (a0 : D) : ST → Nat → Option Rt := fun T nx =>
 bB (solidB a0) <| fN (Nat.succ nx) fun n1 => fN (dcells a0).length fun e1 =>
 fN (Nat.succ n1) fun n2 =>
 fN (Nat.succ n2) fun n3 =>
 jn (fun v1 T1 n4 l1 => unc v1 fun d1 w1 => unc w1 fun d2 w2 =>
  bnd (zload (some 1) T1 d2) fun d3 =>
  zstore 1 T1 d1 d3 fun r1 T2 => fN (lowN l1 r1) fun l2 =>
 bnd (zres (some 1) T2 d1) fun d4 =>
 finK T nx d4 T2 n4 l2) fun K1 =>
 bnd (zfieldAddr 3 (.ptr nx e1 0 0)) fun d5 =>
 bnd (zload none (Tr.set (some (XO.mk 201 1 1 (.n [.e0] .e .e))) (Tr.set (some (XO.mk 201 1 1 (.n [.e0] .e .e))) (Tr.set (some (xRow 32 (dcells a0))) T nx) n1) n2) d5) fun d6 =>
 bnd (zlen true d6) fun d7 =>
 lpc fu (fun go1 v2 T3 n5 l3 => unc v2 fun d8 w3 => unc w3 fun d9 w4 => unc w4 fun d10 w5 => unc w5 fun d11 w6 => unc w6 fun d12 w7 =>
  bnd (zbin .i .lss d12 d11) fun d13 =>
  cnd d13 (
  bnd (zindexAddr (.sl 5) d10 d12) fun d14 =>
  bnd (zload (some 5) T3 d14) fun d15 =>
  fN (Nat.succ n5) fun n6 =>
  zstore 5 (Tr.set (some (XO.mk 113 5 1 (.n [(.v (.int .i64 (.ofNat 0))), (.v (.int .i64 (.ofNat 0))), (.v (.int .i64 (.ofNat 0))), (.v (.int .i64 (.ofNat 0))), (.v (.int .i64 (.ofNat 0)))] .e .e))) T3 n5) (.ptr n5 5 0 0) d15 fun r2 T4 => fN (lowN l3 r2) fun l4 =>
  jn (fun v3 T5 n7 l5 => unc v3 fun d16 w8 => unc w8 fun d17 w9 => unc w9 fun d18 w10 => unc w10 fun d19 w11 => unc w11 fun d20 w12 => unc w12 fun d21 w13 =>
   bnd (zfieldAddr 0 d17) fun d22 =>
   bnd (zload none T5 d22) fun d23 =>
   bnd (zfieldAddr 4 d18) fun d24 =>
   bnd (zload none T5 d24) fun d25 =>
   bB (solidL 1 [d25]) <| fN (Nat.succ n7) fun n8 =>
   zappend 3 1 8 (Tr.set (some (xRows 3 1 [dcells d25])) T5 n7) n8 l5 d23 (.vw n7 1 0 1) fun f1 s1 d26 T6 l6 => fN (Nat.succ n8) fun n9 => fN l6 fun l7 =>
   bnd (zfieldAddr 0 d17) fun d27 =>
   zstore 1 T6 d27 d26 fun r3 T7 => fN (lowN l7 r3) fun l8 =>
  bnd (zbin .i .add d21 (.v (.int .i64 (.ofNat 1)))) fun d28 =>
 go1 [d16, d17, d19, d20, d28] T7 n9 l8) fun K2 =>
  bnd (zfieldAddr 0 (.ptr n5 5 0 0)) fun d29 =>
  bnd (zload (some 4) T4 d29) fun d30 =>
  bndR (F190 [d30] T4 n6) fun d31 T8 n10 l9 => fN (lowN l4 l9) fun l10 =>
  cnd d31 (
   bnd (zfieldAddr 4 (.ptr n5 5 0 0)) fun d32 =>
   zstore 1 T8 d32 (.v (.int .i64 (.negSucc 1))) fun r4 T9 => fN (lowN l10 r4) fun l11 =>
  K2 [d8, d9, (.ptr n5 5 0 0), d10, d11, d12] T9 n10 l11
  ) (
  K2 [d8, d9, (.ptr n5 5 0 0), d10, d11, d12] T8 n10 l10
  )
  ) (
 K1 [d8, d9] T3 n5 l3
  )) [(.ptr n1 1 0 0), (.ptr n2 1 0 0), d6, d7, (.v (.int .i64 (.ofNat 0)))] (Tr.set (some (XO.mk 201 1 1 (.n [.e0] .e .e))) (Tr.set (some (XO.mk 201 1 1 (.n [.e0] .e .e))) (Tr.set (some (xRow 32 (dcells a0))) T nx) n1) n2) n3 nx
theorem e147 (fu : Nat) (a0 : D) (T : ST) (nx : Nat) : fnK Tryz.prog [(190, F190)] dr0 fu Tryz.f147 (.s .o (.s .o (.j [2, 3] (.s .o (.b (.l [2, 3, 7, 8, 9] (.s .o (.s (.c .o .o) (.s (.b (.s .o (.j [2, 3, 5, 7, 8, 9] (.s .o (.c .o .o)) .o))) .o)))))) (.s .o .o)))) [a0] T nx = s147 fu a0 T nx := by kernel_rfl
noncomputable def F147 : Sem := ar1 (s147 FU)
theorem k147 : FnOk Tryz.prog 147 F147 := ar1_ok (fnK_ok (by kernel_rfl) (CallsOk.cons h190 k190 CallsOk.nil) dr0_ok) (e147 FU)
/- reeve/right.of -/
theorem h257 : HasFn Tryz.prog 257 := ⟨by kernel_rfl⟩
noncomputable def s257 (a0 : D) : ST → Nat → Option Rt := fun T nx =>
 bndR (F202 [a0] T nx) fun d1 T1 n1 l1 => fN (lowN nx l1) fun l2 =>
 bnd (zun .not d1) fun d2 =>
 cnd d2 (
 finK T nx (.v (.int .i64 (.ofNat 0))) T1 n1 l2
 ) (
 finK T nx a0 T1 n1 l2
 )
theorem e257 (a0 : D) (T : ST) (nx : Nat) : fnK Tryz.prog [(202, F202)] dr0 FU Tryz.f257 (.s .o (.s (.s .o (.c (.s .o .o) .o)) (.s .o .o))) [a0] T nx = s257 a0 T nx := by kernel_rfl
noncomputable def F257 : Sem := ar1 s257
theorem k257 : FnOk Tryz.prog 257 F257 := ar1_ok (fnK_ok (by kernel_rfl) (CallsOk.cons h202 k202 CallsOk.nil) dr0_ok) e257
/- reeve/right.Less -/
theorem h219 : HasFn Tryz.prog 219 := ⟨by kernel_rfl⟩
noncomputable def s219 (a0 a1 : D) : ST → Nat → Option Rt := fun T nx =>
 bndR (F257 [a0] T nx) fun d1 T1 n1 l1 => fN (lowN nx l1) fun l2 =>
 bndR (F257 [a1] T1 n1) fun d2 T2 n2 l3 => fN (lowN l2 l3) fun l4 =>
 bnd (zbin .i .andNot d1 d2) fun d3 =>
 finK T nx d3 T2 n2 l4
theorem e219 (a0 a1 : D) (T : ST) (nx : Nat) : fnK Tryz.prog [(257, F257)] dr0 FU Tryz.f219 (.s .o (.s .o .o)) [a0, a1] T nx = s219 a0 a1 T nx := by kernel_rfl
noncomputable def F219 : Sem := ar2 s219
theorem k219 : FnOk Tryz.prog 219 F219 := ar2_ok (fnK_ok (by kernel_rfl) (CallsOk.cons h257 k257 CallsOk.nil) dr0_ok) e219
/- reeve/right.Within -/
theorem h159 : HasFn Tryz.prog 159 := ⟨by kernel_rfl⟩
noncomputable def s159 (a0 a1 : D) : ST → Nat → Option Rt := fun T nx =>
 bndR (F219 [a0, a1] T nx) fun d1 T1 n1 l1 => fN (lowN nx l1) fun l2 =>
 bnd (zbin .i .eql d1 (.v (.int .i64 (.ofNat 0)))) fun d2 =>
 finK T nx d2 T1 n1 l2
theorem e159 (a0 a1 : D) (T : ST) (nx : Nat) : fnK Tryz.prog [(219, F219)] dr0 FU Tryz.f159 (.s .o (.s .o .o)) [a0, a1] T nx = s159 a0 a1 T nx := by kernel_rfl
noncomputable def F159 : Sem := ar2 s159
theorem k159 : FnOk Tryz.prog 159 F159 := ar2_ok (fnK_ok (by kernel_rfl) (CallsOk.cons h219 k219 CallsOk.nil) dr0_ok) e159
/- reeve/cap.Less -/
theorem h195 : HasFn Tryz.prog 195 := ⟨by kernel_rfl⟩
noncomputable def s195 (a0 a1 : D) : ST → Nat → Option Rt := fun T nx =>
 bB (solidB a0) <| fN (Nat.succ nx) fun n1 => fN (dcells a0).length fun e1 =>
 bB (solidB a1) <| fN (Nat.succ n1) fun n2 => fN (dcells a1).length fun e2 =>
 bnd (zload (some 4) (Tr.set (some (xRow 111 (dcells a1))) (Tr.set (some (xRow 111 (dcells a0))) T nx) n1) (.ptr nx e1 0 0)) fun d1 =>
 bndR (F190 [d1] (Tr.set (some (xRow 111 (dcells a1))) (Tr.set (some (xRow 111 (dcells a0))) T nx) n1) n2) fun d2 T1 n3 l1 => fN (lowN nx l1) fun l2 =>
 cnd d2 (
 finK T nx (.v (.bool true)) T1 n3 l2
 ) (
 bnd (zfieldAddr 0 (.ptr nx e1 0 0)) fun d3 =>
 bnd (zload none T1 d3) fun d4 =>
 bnd (zfieldAddr 0 (.ptr n1 e2 0 0)) fun d5 =>
 bnd (zload none T1 d5) fun d6 =>
 bnd (zbin .i .eql d4 d6) fun d7 =>
 opG.gjn (fun k1 => zgd d7 true (
  bnd (zfieldAddr 1 (.ptr nx e1 0 0)) fun d8 =>
  k1 [] [] d8 T1 n3 l2
 ) (k1 [] [] (.v undef) T1 n3 l2)) fun _ _ d9 T2 n4 l3 =>
 opG.gjn (fun k2 => zgd d7 true (
  bnd (zload none T2 d9) fun d10 =>
  k2 (ptr? d9) [] d10 T2 n4 l3
 ) (k2 [] [] (.v undef) T2 n4 l3)) fun _ _ d11 T3 n5 l4 =>
 opG.gjn (fun k3 => zgd d7 true (
  bnd (zfieldAddr 1 (.ptr n1 e2 0 0)) fun d12 =>
  k3 [] [] d12 T3 n5 l4
 ) (k3 [] [] (.v undef) T3 n5 l4)) fun _ _ d13 T4 n6 l5 =>
 opG.gjn (fun k4 => zgd d7 true (
  bnd (zload none T4 d13) fun d14 =>
  k4 (ptr? d13) [] d14 T4 n6 l5
 ) (k4 [] [] (.v undef) T4 n6 l5)) fun _ _ d15 T5 n7 l6 =>
 opG.gjn (fun k5 => zgd d7 true (
  bnd (zbin .i .eql d11 d15) fun d16 =>
  k5 [] [] d16 T5 n7 l6
 ) (k5 [] [] (.v undef) T5 n7 l6)) fun _ _ d17 T6 n8 l7 =>
 bnd (zpick d7 d17 (.v (.bool false))) fun d18 =>
 opG.gjn (fun k6 => zgd d18 true (
  bnd (zfieldAddr 2 (.ptr nx e1 0 0)) fun d19 =>
  k6 [] [] d19 T6 n8 l7
 ) (k6 [] [] (.v undef) T6 n8 l7)) fun _ _ d20 T7 n9 l8 =>
 opG.gjn (fun k7 => zgd d18 true (
  bnd (zload none T7 d20) fun d21 =>
  k7 (ptr? d20) [] d21 T7 n9 l8
 ) (k7 [] [] (.v undef) T7 n9 l8)) fun _ _ d22 T8 n10 l9 =>
 opG.gjn (fun k8 => zgd d18 true (
  bnd (zfieldAddr 2 (.ptr n1 e2 0 0)) fun d23 =>
  k8 [] [] d23 T8 n10 l9
 ) (k8 [] [] (.v undef) T8 n10 l9)) fun _ _ d24 T9 n11 l10 =>
 opG.gjn (fun k9 => zgd d18 true (
  bnd (zload none T9 d24) fun d25 =>
  k9 (ptr? d24) [] d25 T9 n11 l10
 ) (k9 [] [] (.v undef) T9 n11 l10)) fun _ _ d26 T10 n12 l11 =>
 opG.gjn (fun k10 => zgd d18 true (
  bndR (F159 [d22, d26] T10 n12) fun d27 T11 n13 l12 => fN (lowN l11 l12) fun l13 =>
  k10 [] [] d27 T11 n13 l13
 ) (k10 [] [] (.v undef) T10 n12 l11)) fun _ _ d28 T12 n14 l14 =>
 bnd (zpick d18 d28 (.v (.bool false))) fun d29 =>
 opG.gjn (fun k11 => zgd d29 true (
  bnd (zfieldAddr 3 (.ptr n1 e2 0 0)) fun d30 =>
  k11 [] [] d30 T12 n14 l14
 ) (k11 [] [] (.v undef) T12 n14 l14)) fun _ _ d31 T13 n15 l15 =>
 opG.gjn (fun k12 => zgd d29 true (
  bnd (zload none T13 d31) fun d32 =>
  k12 (ptr? d31) [] d32 T13 n15 l15
 ) (k12 [] [] (.v undef) T13 n15 l15)) fun _ _ d33 T14 n16 l16 =>
 opG.gjn (fun k13 => zgd d29 true (
  bnd (zbin .i .eql d33 (.v (.int .i64 (.ofNat 0)))) fun d34 =>
  k13 [] [] d34 T14 n16 l16
 ) (k13 [] [] (.v undef) T14 n16 l16)) fun _ _ d35 T15 n17 l17 =>
 opG.gjn (fun k14 => zgd d29 true (
  k14 [] [] d35 T15 n17 l17
 ) (k14 [] [] (.v undef) T15 n17 l17)) fun _ _ d36 T16 n18 l18 =>
 opG.gjn (fun k15 => zgd d36 false (
  bnd (zfieldAddr 3 (.ptr n1 e2 0 0)) fun d37 =>
  k15 [] [] d37 T16 n18 l18
 ) (k15 [] [] (.v undef) T16 n18 l18)) fun _ _ d38 T17 n19 l19 =>
 opG.gjn (fun k16 => zgd d36 false (
  bnd (zload none T17 d38) fun d39 =>
  k16 (ptr? d38) [] d39 T17 n19 l19
 ) (k16 [] [] (.v undef) T17 n19 l19)) fun _ _ d40 T18 n20 l20 =>
 opG.gjn (fun k17 => zgd d36 false (
  bnd (zfieldAddr 3 (.ptr nx e1 0 0)) fun d41 =>
  k17 [] [] d41 T18 n20 l20
 ) (k17 [] [] (.v undef) T18 n20 l20)) fun _ _ d42 T19 n21 l21 =>
 opG.gjn (fun k18 => zgd d36 false (
  bnd (zload none T19 d42) fun d43 =>
  k18 (ptr? d42) [] d43 T19 n21 l21
 ) (k18 [] [] (.v undef) T19 n21 l21)) fun _ _ d44 T20 n22 l22 =>
 opG.gjn (fun k19 => zgd d36 false (
  bnd (zbin .i .eql d40 d44) fun d45 =>
  k19 [] [] d45 T20 n22 l22
 ) (k19 [] [] (.v undef) T20 n22 l22)) fun _ _ d46 T21 n23 l23 =>
 opG.gjn (fun k20 => zgd d29 true (
  bnd (zpick d36 (.v (.bool true)) d46) fun d47 =>
  k20 [] [] d47 T21 n23 l23
 ) (k20 [] [] (.v undef) T21 n23 l23)) fun _ _ d48 T22 n24 l24 =>
 bnd (zpick d29 d48 (.v (.bool false))) fun d49 =>
 finK T nx d49 T22 n24 l24
 )
theorem e195 (a0 a1 : D) (T : ST) (nx : Nat) : fnK Tryz.prog [(190, F190), (159, F159)] dr0 FU Tryz.f195 (.s .o (.s (.s .o (.c (.s .o .o) .o)) (.s .o .o))) [a0, a1] T nx = s195 a0 a1 T nx := by kernel_rfl
noncomputable def F195 : Sem := ar2 s195
theorem k195 : FnOk Tryz.prog 195 F195 := ar2_ok (fnK_ok (by kernel_rfl) (CallsOk.cons h190 k190 (CallsOk.cons h159 k159 CallsOk.nil)) dr0_ok) e195
/- (reeve/state.State).allowed -/
theorem h148 : HasFn Tryz.prog 148 := ⟨by kernel_rfl⟩
noncomputable def s148 (fu : Nat) (a0 : D) : ST → Nat → Option Rt := fun T nx =>
 bB (solidB a0) <| fN (Nat.succ nx) fun n1 => fN (dcells a0).length fun e1 =>
 jn (fun v1 T1 n2 l1 =>
 finK T nx (.v (.bool true)) T1 n2 l1) fun K1 =>
 bnd (zfieldAddr 3 (.ptr nx e1 0 0)) fun d1 =>
 bnd (zload none (Tr.set (some (xRow 32 (dcells a0))) T nx) d1) fun d2 =>
 bnd (zlen true d2) fun d3 =>
 lpc fu (fun go1 v2 T2 n3 l2 => unc v2 fun d4 w1 => unc w1 fun d5 w2 => unc w2 fun d6 w3 => unc w3 fun d7 w4 =>
  bnd (zbin .i .lss d7 d6) fun d8 =>
  cnd d8 (
  jn (fun v3 T3 n4 l3 => unc v3 fun d9 w5 => unc w5 fun d10 w6 => unc w6 fun d11 w7 => unc w7 fun d12 w8 =>
   bnd (zbin .i .add d12 (.v (.int .i64 (.ofNat 1)))) fun d13 =>
 go1 [d9, d10, d11, d13] T3 n4 l3) fun K2 =>
  bnd (zindexAddr (.sl 5) d5 d7) fun d14 =>
  bnd (zload (some 5) T2 d14) fun d15 =>
  fN (Nat.succ n3) fun n5 =>
  zstore 5 (Tr.set (some (XO.mk 113 5 1 (.n [(.v (.int .i64 (.ofNat 0))), (.v (.int .i64 (.ofNat 0))), (.v (.int .i64 (.ofNat 0))), (.v (.int .i64 (.ofNat 0))), (.v (.int .i64 (.ofNat 0)))] .e .e))) T2 n3) (.ptr n3 5 0 0) d15 fun r1 T4 => fN (lowN l2 r1) fun l4 =>
  bnd (zfieldAddr 4 (.ptr n3 5 0 0)) fun d16 =>
  bnd (zload none T4 d16) fun d17 =>
  bnd (zbin .i .lss d17 (.v (.int .i64 (.ofNat 0)))) fun d18 =>
  cnd d18 (
  K2 [d4, d5, d6, d7] T4 n5 l4
  ) (
  bnd (zfieldAddr 3 d4) fun d19 =>
  bnd (zload none T4 d19) fun d20 =>
  bnd (zfieldAddr 4 (.ptr n3 5 0 0)) fun d21 =>
  bnd (zload none T4 d21) fun d22 =>
  bnd (zindexAddr (.sl 5) d20 d22) fun d23 =>
  bnd (zfieldAddr 0 d23) fun d24 =>
  bnd (zload (some 4) T4 d24) fun d25 =>
  fN (Nat.succ n5) fun n6 =>
  zstore 4 (Tr.set (some (XO.mk 111 4 1 (.n [(.v (.int .i64 (.ofNat 0))), (.v (.int .i64 (.ofNat 0))), (.v (.int .i64 (.ofNat 0))), (.v (.int .i64 (.ofNat 0)))] .e .e))) T4 n5) (.ptr n5 4 0 0) d25 fun r2 T5 => fN (lowN l4 r2) fun l5 =>
  bnd (zfieldAddr 0 (.ptr n3 5 0 0)) fun d26 =>
  bnd (zload (some 4) T5 d26) fun d27 =>
  bnd (zload (some 4) T5 (.ptr n5 4 0 0)) fun d28 =>
  bndR (F195 [d27, d28] T5 n6) fun d29 T6 n7 l6 => fN (lowN l5 l6) fun l7 =>
  bnd (zun .not d29) fun d30 =>
  opG.gjn (fun k1 => zgd d30 true (
   bnd (zfieldAddr 0 (.ptr n5 4 0 0)) fun d31 =>
   k1 [] [] d31 T6 n7 l7
  ) (k1 [] [] (.v undef) T6 n7 l7)) fun _ _ d32 T7 n8 l8 =>
  opG.gjn (fun k2 => zgd d30 true (
   bnd (zload none T7 d32) fun d33 =>
   k2 (ptr? d32) [] d33 T7 n8 l8
  ) (k2 [] [] (.v undef) T7 n8 l8)) fun _ _ d34 T8 n9 l9 =>
  opG.gjn (fun k3 => zgd d30 true (
   bnd (zbin .i .neq d34 (.v (.int .i64 (.ofNat 1)))) fun d35 =>
   k3 [] [] d35 T8 n9 l9
  ) (k3 [] [] (.v undef) T8 n9 l9)) fun _ _ d36 T9 n10 l10 =>
  opG.gjn (fun k4 => zgd d30 true (
   k4 [] [] d36 T9 n10 l10
  ) (k4 [] [] (.v undef) T9 n10 l10)) fun _ _ d37 T10 n11 l11 =>
  opG.gjn (fun k5 => zgd d37 false (
   bnd (zfieldAddr 0 (.ptr n3 5 0 0)) fun d38 =>
   k5 [] [] d38 T10 n11 l11
  ) (k5 [] [] (.v undef) T10 n11 l11)) fun _ _ d39 T11 n12 l12 =>
  opG.gjn (fun k6 => zgd d37 false (
   bnd (zfieldAddr 1 d39) fun d40 =>
   k6 [] [] d40 T11 n12 l12
  ) (k6 [] [] (.v undef) T11 n12 l12)) fun _ _ d41 T12 n13 l13 =>
  opG.gjn (fun k7 => zgd d37 false (
   bnd (zload none T12 d41) fun d42 =>
   k7 (ptr? d41) [] d42 T12 n13 l13
  ) (k7 [] [] (.v undef) T12 n13 l13)) fun _ _ d43 T13 n14 l14 =>
  opG.gjn (fun k8 => zgd d37 false (
   bnd (zfieldAddr 1 (.ptr n5 4 0 0)) fun d44 =>
   k8 [] [] d44 T13 n14 l14
  ) (k8 [] [] (.v undef) T13 n14 l14)) fun _ _ d45 T14 n15 l15 =>
  opG.gjn (fun k9 => zgd d37 false (
   bnd (zload none T14 d45) fun d46 =>
   k9 (ptr? d45) [] d46 T14 n15 l15
  ) (k9 [] [] (.v undef) T14 n15 l15)) fun _ _ d47 T15 n16 l16 =>
  opG.gjn (fun k10 => zgd d37 false (
   bnd (zbin .i .eql d43 d47) fun d48 =>
   k10 [] [] d48 T15 n16 l16
  ) (k10 [] [] (.v undef) T15 n16 l16)) fun _ _ d49 T16 n17 l17 =>
  opG.gjn (fun k11 => zgd d30 true (
   bnd (zpick d37 (.v (.bool true)) d49) fun d50 =>
   k11 [] [] d50 T16 n17 l17
  ) (k11 [] [] (.v undef) T16 n17 l17)) fun _ _ d51 T17 n18 l18 =>
  bnd (zpick d30 d51 (.v (.bool false))) fun d52 =>
  cnd d52 (
 finK T nx (.v (.bool false)) T17 n18 l18
  ) (
  K2 [d4, d5, d6, d7] T17 n18 l18
  )
  )
  ) (
 K1 [] T2 n3 l2
  )) [(.ptr nx e1 0 0), d2, d3, (.v (.int .i64 (.ofNat 0)))] (Tr.set (some (xRow 32 (dcells a0))) T nx) n1 nx
theorem e148 (fu : Nat) (a0 : D) (T : ST) (nx : Nat) : fnK Tryz.prog [(195, F195)] dr0 fu Tryz.f148 (.s .o (.j [] (.s .o (.b (.l [1, 7, 8, 9] (.s .o (.s (.c .o .o) (.j [1, 7, 8, 9] (.b (.s .o (.s (.s .o (.c .o .o)) (.s .o (.s .o (.c (.s .o .o) .o)))))) .o)))))) (.s .o .o))) [a0] T nx = s148 fu a0 T nx := by kernel_rfl
noncomputable def F148 : Sem := ar1 (s148 FU)
theorem k148 : FnOk Tryz.prog 148 F148 := ar1_ok (fnK_ok (by kernel_rfl) (CallsOk.cons h195 k195 CallsOk.nil) dr0_ok) (e148 FU)
/- reeve/state.Good -/
theorem h100 : HasFn Tryz.prog 100 := ⟨by kernel_rfl⟩
noncomputable def s100 (a0 : D) : ST → Nat → Option Rt := fun T nx =>
 bB (solidB a0) <| fN (Nat.succ nx) fun n1 => fN (dcells a0).length fun e1 =>
 bnd (zfieldAddr 0 (.ptr nx e1 0 0)) fun d1 =>
 bnd (zload (some 3) (Tr.set (some (xRow 32 (dcells a0))) T nx) d1) fun d2 =>
 bndR (F58 [d2] (Tr.set (some (xRow 32 (dcells a0))) T nx) n1) fun d3 T1 n2 l1 => fN (lowN nx l1) fun l2 =>
 bnd (zun .not d3) fun d4 =>
 opG.gjn (fun k1 => zgd d4 false (
  bnd (zfieldAddr 3 (.ptr nx e1 0 0)) fun d5 =>
  k1 [] [] d5 T1 n2 l2
 ) (k1 [] [] (.v undef) T1 n2 l2)) fun _ _ d6 T2 n3 l3 =>
 opG.gjn (fun k2 => zgd d4 false (
  bnd (zload none T2 d6) fun d7 =>
  k2 (ptr? d6) [] d7 T2 n3 l3
 ) (k2 [] [] (.v undef) T2 n3 l3)) fun _ _ d8 T3 n4 l4 =>
 opG.gjn (fun k3 => zgd d4 false (
  bnd (zlen true d8) fun d9 =>
  k3 [] [] d9 T3 n4 l4
 ) (k3 [] [] (.v undef) T3 n4 l4)) fun _ _ d10 T4 n5 l5 =>
 opG.gjn (fun k4 => zgd d4 false (
  bnd (zfieldAddr 0 (.ptr nx e1 0 0)) fun d11 =>
  k4 [] [] d11 T4 n5 l5
 ) (k4 [] [] (.v undef) T4 n5 l5)) fun _ _ d12 T5 n6 l6 =>
 opG.gjn (fun k5 => zgd d4 false (
  bnd (zfieldAddr 1 d12) fun d13 =>
  k5 [] [] d13 T5 n6 l6
 ) (k5 [] [] (.v undef) T5 n6 l6)) fun _ _ d14 T6 n7 l7 =>
 opG.gjn (fun k6 => zgd d4 false (
  bnd (zload none T6 d14) fun d15 =>
  k6 (ptr? d14) [] d15 T6 n7 l7
 ) (k6 [] [] (.v undef) T6 n7 l7)) fun _ _ d16 T7 n8 l8 =>
 opG.gjn (fun k7 => zgd d4 false (
  bnd (zbin .i .neq d10 d16) fun d17 =>
  k7 [] [] d17 T7 n8 l8
 ) (k7 [] [] (.v undef) T7 n8 l8)) fun _ _ d18 T8 n9 l9 =>
 bnd (zpick d4 (.v (.bool true)) d18) fun d19 =>
 opG.gjn (fun k8 => zgd d19 false (
  bnd (zfieldAddr 4 (.ptr nx e1 0 0)) fun d20 =>
  k8 [] [] d20 T8 n9 l9
 ) (k8 [] [] (.v undef) T8 n9 l9)) fun _ _ d21 T9 n10 l10 =>
 opG.gjn (fun k9 => zgd d19 false (
  bnd (zload none T9 d21) fun d22 =>
  k9 (ptr? d21) [] d22 T9 n10 l10
 ) (k9 [] [] (.v undef) T9 n10 l10)) fun _ _ d23 T10 n11 l11 =>
 opG.gjn (fun k10 => zgd d19 false (
  bnd (zlen true d23) fun d24 =>
  k10 [] [] d24 T10 n11 l11
 ) (k10 [] [] (.v undef) T10 n11 l11)) fun _ _ d25 T11 n12 l12 =>
 opG.gjn (fun k11 => zgd d19 false (
  bnd (zfieldAddr 0 (.ptr nx e1 0 0)) fun d26 =>
  k11 [] [] d26 T11 n12 l12
 ) (k11 [] [] (.v undef) T11 n12 l12)) fun _ _ d27 T12 n13 l13 =>
 opG.gjn (fun k12 => zgd d19 false (
  bnd (zfieldAddr 2 d27) fun d28 =>
  k12 [] [] d28 T12 n13 l13
 ) (k12 [] [] (.v undef) T12 n13 l13)) fun _ _ d29 T13 n14 l14 =>
 opG.gjn (fun k13 => zgd d19 false (
  bnd (zload none T13 d29) fun d30 =>
  k13 (ptr? d29) [] d30 T13 n14 l14
 ) (k13 [] [] (.v undef) T13 n14 l14)) fun _ _ d31 T14 n15 l15 =>
 opG.gjn (fun k14 => zgd d19 false (
  bnd (zbin .i .neq d25 d31) fun d32 =>
  k14 [] [] d32 T14 n15 l15
 ) (k14 [] [] (.v undef) T14 n15 l15)) fun _ _ d33 T15 n16 l16 =>
 bnd (zpick d19 (.v (.bool true)) d33) fun d34 =>
 cnd d34 (
 finK T nx (.v (.bool false)) T15 n16 l16
 ) (
 bnd (zload (some 5) T15 (.ptr nx e1 0 0)) fun d35 =>
 bndR (F142 [d35] T15 n16) fun d36 T16 n17 l17 => fN (lowN l16 l17) fun l18 =>
 opG.gjn (fun k15 => zgd d36 true (
  bnd (zload (some 5) T16 (.ptr nx e1 0 0)) fun d37 =>
  k15 (ptr? (.ptr nx e1 0 0)) [] d37 T16 n17 l18
 ) (k15 [] [] (.v undef) T16 n17 l18)) fun _ _ d38 T17 n18 l19 =>
 opG.gjn (fun k16 => zgd d36 true (
  bndR (F143 [d38] T17 n18) fun d39 T18 n19 l20 => fN (lowN l19 l20) fun l21 =>
  k16 [] [] d39 T18 n19 l21
 ) (k16 [] [] (.v undef) T17 n18 l19)) fun _ _ d40 T19 n20 l22 =>
 bnd (zpick d36 d40 (.v (.bool false))) fun d41 =>
 opG.gjn (fun k17 => zgd d41 true (
  bnd (zload (some 5) T19 (.ptr nx e1 0 0)) fun d42 =>
  k17 (ptr? (.ptr nx e1 0 0)) [] d42 T19 n20 l22
 ) (k17 [] [] (.v undef) T19 n20 l22)) fun _ _ d43 T20 n21 l23 =>
 opG.gjn (fun k18 => zgd d41 true (
  bndR (F144 [d43] T20 n21) fun d44 T21 n22 l24 => fN (lowN l23 l24) fun l25 =>
  k18 [] [] d44 T21 n22 l25
 ) (k18 [] [] (.v undef) T20 n21 l23)) fun _ _ d45 T22 n23 l26 =>
 bnd (zpick d41 d45 (.v (.bool false))) fun d46 =>
 opG.gjn (fun k19 => zgd d46 true (
  bnd (zload (some 5) T22 (.ptr nx e1 0 0)) fun d47 =>
  k19 (ptr? (.ptr nx e1 0 0)) [] d47 T22 n23 l26
 ) (k19 [] [] (.v undef) T22 n23 l26)) fun _ _ d48 T23 n24 l27 =>
 opG.gjn (fun k20 => zgd d46 true (
  bndR (F145 [d48] T23 n24) fun d49 T24 n25 l28 => fN (lowN l27 l28) fun l29 =>
  k20 [] [] d49 T24 n25 l29
 ) (k20 [] [] (.v undef) T23 n24 l27)) fun _ _ d50 T25 n26 l30 =>
 opG.gjn (fun k21 => zgd d46 true (
  bnd (zun .not d50) fun d51 =>
  k21 [] [] d51 T25 n26 l30
 ) (k21 [] [] (.v undef) T25 n26 l30)) fun _ _ d52 T26 n27 l31 =>
 bnd (zpick d46 d52 (.v (.bool false))) fun d53 =>
 opG.gjn (fun k22 => zgd d53 true (
  bnd (zload (some 5) T26 (.ptr nx e1 0 0)) fun d54 =>
  k22 (ptr? (.ptr nx e1 0 0)) [] d54 T26 n27 l31
 ) (k22 [] [] (.v undef) T26 n27 l31)) fun _ _ d55 T27 n28 l32 =>
 opG.gjn (fun k23 => zgd d53 true (
  bndR (F147 [d55] T27 n28) fun d56 T28 n29 l33 => fN (lowN l32 l33) fun l34 =>
  k23 [] [] d56 T28 n29 l34
 ) (k23 [] [] (.v undef) T27 n28 l32)) fun _ _ d57 T29 n30 l35 =>
 opG.gjn (fun k24 => zgd d53 true (
  bndR (F146 [d57] T29 n30) fun d58 T30 n31 l36 => fN (lowN l35 l36) fun l37 =>
  k24 [] [] d58 T30 n31 l37
 ) (k24 [] [] (.v undef) T29 n30 l35)) fun _ _ d59 T31 n32 l38 =>
 bnd (zpick d53 d59 (.v (.bool false))) fun d60 =>
 opG.gjn (fun k25 => zgd d60 true (
  bnd (zload (some 5) T31 (.ptr nx e1 0 0)) fun d61 =>
  k25 (ptr? (.ptr nx e1 0 0)) [] d61 T31 n32 l38
 ) (k25 [] [] (.v undef) T31 n32 l38)) fun _ _ d62 T32 n33 l39 =>
 opG.gjn (fun k26 => zgd d60 true (
  bndR (F148 [d62] T32 n33) fun d63 T33 n34 l40 => fN (lowN l39 l40) fun l41 =>
  k26 [] [] d63 T33 n34 l41
 ) (k26 [] [] (.v undef) T32 n33 l39)) fun _ _ d64 T34 n35 l42 =>
 bnd (zpick d60 d64 (.v (.bool false))) fun d65 =>
 finK T nx d65 T34 n35 l42
 )
theorem e100 (a0 : D) (T : ST) (nx : Nat) : fnK Tryz.prog [(58, F58), (142, F142), (143, F143), (144, F144), (145, F145), (147, F147), (146, F146), (148, F148)] dr0 FU Tryz.f100 (.s .o (.s (.s .o (.c (.s .o .o) .o)) (.s .o .o))) [a0] T nx = s100 a0 T nx := by kernel_rfl
noncomputable def F100 : Sem := ar1 s100
theorem k100 : FnOk Tryz.prog 100 F100 := ar1_ok (fnK_ok (by kernel_rfl) (CallsOk.cons h58 k58 (CallsOk.cons h142 k142 (CallsOk.cons h143 k143 (CallsOk.cons h144 k144 (CallsOk.cons h145 k145 (CallsOk.cons h147 k147 (CallsOk.cons h146 k146 (CallsOk.cons h148 k148 CallsOk.nil)))))))) dr0_ok) e100
/- reeve/geo.Rows -/
theorem h109 : HasFn Tryz.prog 109 := ⟨by kernel_rfl⟩
noncomputable def s109 (a0 : D) : ST → Nat → Option Rt := fun T nx =>
 bB (solidB a0) <| fN (Nat.succ nx) fun n1 => fN (dcells a0).length fun e1 =>
 bnd (zload (some 3) (Tr.set (some (xRow 28 (dcells a0))) T nx) (.ptr nx e1 0 0)) fun d1 =>
 bndR (F58 [d1] (Tr.set (some (xRow 28 (dcells a0))) T nx) n1) fun d2 T1 n2 l1 => fN (lowN nx l1) fun l2 =>
 bnd (zun .not d2) fun d3 =>
 cnd d3 (
 finK T nx (.v (.int .i64 (.ofNat 0))) T1 n2 l2
 ) (
 bnd (zload (some 3) T1 (.ptr nx e1 0 0)) fun d4 =>
 bndR (F17 [d4] T1 n2) fun d5 T2 n3 l3 => fN (lowN l2 l3) fun l4 =>
 bnd (zbin .i .quo d5 (.v (.int .i64 (.ofNat 8)))) fun d6 =>
 bnd (zbin .i .add d6 (.v (.int .i64 (.ofNat 1)))) fun d7 =>
 finK T nx d7 T2 n3 l4
 )
theorem e109 (a0 : D) (T : ST) (nx : Nat) : fnK Tryz.prog [(58, F58), (17, F17)] dr0 FU Tryz.f109 (.s .o (.s (.s .o (.c (.s .o .o) .o)) (.s .o .o))) [a0] T nx = s109 a0 T nx := by kernel_rfl
noncomputable def F109 : Sem := ar1 s109
theorem k109 : FnOk Tryz.prog 109 F109 := ar1_ok (fnK_ok (by kernel_rfl) (CallsOk.cons h58 k58 (CallsOk.cons h17 k17 CallsOk.nil)) dr0_ok) e109
/- math.archTrunc -/
noncomputable def F278 : Sem := xTrunc
theorem x278 : XOk Tryz.prog 278 F278 := xTrunc_ok (fn := Tryz.f278) (by kernel_rfl) (by kernel_rfl) (by kernel_rfl) (by kernel_rfl) (by kernel_rfl)
/- math.Float64bits -/
noncomputable def F280 : Sem := xFbits
theorem x280 : XOk Tryz.prog 280 F280 := xFbits_ok (fn := Tryz.f280) (by kernel_rfl) (by kernel_rfl) (by kernel_rfl) (by kernel_rfl) (by kernel_rfl)
/- math.Float64frombits -/
noncomputable def F283 : Sem := xFfrom
theorem x283 : XOk Tryz.prog 283 F283 := xFfrom_ok (fn := Tryz.f283) (by kernel_rfl) (by kernel_rfl) (by kernel_rfl) (by kernel_rfl) (by kernel_rfl)
/- math.Abs -/
theorem h281 : HasFn Tryz.prog 281 := ⟨by kernel_rfl⟩
noncomputable def s281 (a0 : D) : ST → Nat → Option Rt := fun T nx =>
 bndR (F280 [a0] T nx) fun d1 T1 n1 l1 => fN (lowN nx l1) fun l2 =>
 bnd (zbin .i .andNot d1 (.v (.int .u64 (.ofNat 9223372036854775808)))) fun d2 =>
 bndR (F283 [d2] T1 n1) fun d3 T2 n2 l3 => fN (lowN l2 l3) fun l4 =>
 finK T nx d3 T2 n2 l4
theorem e281 (a0 : D) (T : ST) (nx : Nat) : fnK Tryz.prog [(280, F280), (283, F283)] dr0 FU Tryz.f281 (.s .o (.s .o .o)) [a0] T nx = s281 a0 T nx := by kernel_rfl
noncomputable def F281 : Sem := ar1 s281
theorem k281 : FnOk Tryz.prog 281 F281 := ar1_ok (fnK_ok (by kernel_rfl) (CallsOk.ext x280 (CallsOk.ext x283 CallsOk.nil)) dr0_ok) e281
/- math.Copysign -/
theorem h282 : HasFn Tryz.prog 282 := ⟨by kernel_rfl⟩
noncomputable def s282 (a0 a1 : D) : ST → Nat → Option Rt := fun T nx =>
 bndR (F280 [a0] T nx) fun d1 T1 n1 l1 => fN (lowN nx l1) fun l2 =>
 bnd (zbin .i .andNot d1 (.v (.int .u64 (.ofNat 9223372036854775808)))) fun d2 =>
 bndR (F280 [a1] T1 n1) fun d3 T2 n2 l3 => fN (lowN l2 l3) fun l4 =>
 bnd (zbin .i .and d3 (.v (.int .u64 (.ofNat 9223372036854775808)))) fun d4 =>
 bnd (zbin .i .or d2 d4) fun d5 =>
 bndR (F283 [d5] T2 n2) fun d6 T3 n3 l5 => fN (lowN l4 l5) fun l6 =>
 finK T nx d6 T3 n3 l6
theorem e282 (a0 a1 : D) (T : ST) (nx : Nat) : fnK Tryz.prog [(280, F280), (283, F283)] dr0 FU Tryz.f282 (.s .o (.s .o .o)) [a0, a1] T nx = s282 a0 a1 T nx := by kernel_rfl
noncomputable def F282 : Sem := ar2 s282
theorem k282 : FnOk Tryz.prog 282 F282 := ar2_ok (fnK_ok (by kernel_rfl) (CallsOk.ext x280 (CallsOk.ext x283 CallsOk.nil)) dr0_ok) e282
/- math.trunc -/
theorem h279 : HasFn Tryz.prog 279 := ⟨by kernel_rfl⟩
noncomputable def s279 (a0 : D) : ST → Nat → Option Rt := fun T nx =>
 bndR (F281 [a0] T nx) fun d1 T1 n1 l1 => fN (lowN nx l1) fun l2 =>
 bnd (zbin .f .lss d1 (.v (.float .f64 4607182418800017408))) fun d2 =>
 cnd d2 (
  bndR (F282 [(.v (.float .f64 0)), a0] T1 n1) fun d3 T2 n2 l3 => fN (lowN l2 l3) fun l4 =>
 finK T nx d3 T2 n2 l4
 ) (
 bndR (F280 [a0] T1 n1) fun d4 T3 n3 l5 => fN (lowN l2 l5) fun l6 =>
 bnd (zbin .sh .shr d4 (.v (.int .u64 (.ofNat 52)))) fun d5 =>
 bnd (zbin .i .and d5 (.v (.int .u64 (.ofNat 2047)))) fun d6 =>
 bnd (zbin .i .sub d6 (.v (.int .u64 (.ofNat 1023)))) fun d7 =>
 jn (fun v1 T4 n4 l7 => unc v1 fun d8 w1 =>
  bndR (F283 [d8] T4 n4) fun d9 T5 n5 l8 => fN (lowN l7 l8) fun l9 =>
 finK T nx d9 T5 n5 l9) fun K1 =>
 bnd (zbin .i .lss d7 (.v (.int .u64 (.ofNat 52)))) fun d10 =>
 cnd d10 (
  bnd (zbin .i .sub (.v (.int .u64 (.ofNat 52))) d7) fun d11 =>
  bnd (zbin .sh .shl (.v (.int .u64 (.ofNat 1))) d11) fun d12 =>
  bnd (zbin .i .sub d12 (.v (.int .u64 (.ofNat 1)))) fun d13 =>
  bnd (zbin .i .andNot d4 d13) fun d14 =>
 K1 [d14] T3 n3 l6
 ) (
 K1 [d4] T3 n3 l6
 )
 )
theorem e279 (a0 : D) (T : ST) (nx : Nat) : fnK Tryz.prog [(281, F281), (282, F282), (280, F280), (283, F283)] dr0 FU Tryz.f279 (.s .o (.s (.s .o (.c (.s .o .o) .o)) (.s .o (.s .o (.j [3] (.s .o (.c .o .o)) (.s .o .o)))))) [a0] T nx = s279 a0 T nx := by kernel_rfl
noncomputable def F279 : Sem := ar1 s279
theorem k279 : FnOk Tryz.prog 279 F279 := ar1_ok (fnK_ok (by kernel_rfl) (CallsOk.cons h281 k281 (CallsOk.cons h282 k282 (CallsOk.ext x280 (CallsOk.ext x283 CallsOk.nil)))) dr0_ok) e279
/- math.Trunc -/
theorem h273 : HasFn Tryz.prog 273 := ⟨by kernel_rfl⟩
noncomputable def s273 (a0 : D) : ST → Nat → Option Rt := fun T nx =>
 cnd (.v (.bool true)) (
  bndR (F278 [a0] T nx) fun d1 T1 n1 l1 => fN (lowN nx l1) fun l2 =>
 finK T nx d1 T1 n1 l2
 ) (
 bndR (F279 [a0] T nx) fun d2 T2 n2 l3 => fN (lowN nx l3) fun l4 =>
 finK T nx d2 T2 n2 l4
 )
theorem e273 (a0 : D) (T : ST) (nx : Nat) : fnK Tryz.prog [(278, F278), (279, F279)] dr0 FU Tryz.f273 (.s .o (.s (.c (.s .o .o) .o) (.s .o .o))) [a0] T nx = s273 a0 T nx := by kernel_rfl
noncomputable def F273 : Sem := ar1 s273
theorem k273 : FnOk Tryz.prog 273 F273 := ar1_ok (fnK_ok (by kernel_rfl) (CallsOk.ext x278 (CallsOk.cons h279 k279 CallsOk.nil)) dr0_ok) e273
/- math.Signbit -/
theorem h274 : HasFn Tryz.prog 274 := ⟨by kernel_rfl⟩
noncomputable def s274 (a0 : D) : ST → Nat → Option Rt := fun T nx =>
 bndR (F280 [a0] T nx) fun d1 T1 n1 l1 => fN (lowN nx l1) fun l2 =>
 bnd (zconv (.ii .i64) d1) fun d2 =>
 bnd (zbin .i .lss d2 (.v (.int .i64 (.ofNat 0)))) fun d3 =>
 finK T nx d3 T1 n1 l2
theorem e274 (a0 : D) (T : ST) (nx : Nat) : fnK Tryz.prog [(280, F280)] dr0 FU Tryz.f274 (.s .o (.s .o .o)) [a0] T nx = s274 a0 T nx := by kernel_rfl
noncomputable def F274 : Sem := ar1 s274
theorem k274 : FnOk Tryz.prog 274 F274 := ar1_ok (fnK_ok (by kernel_rfl) (CallsOk.ext x280 CallsOk.nil) dr0_ok) e274
/- reeve/gauss.whole -/
theorem h258 : HasFn Tryz.prog 258 := ⟨by kernel_rfl⟩
noncomputable def s258 (a0 : D) : ST → Nat → Option Rt := fun T nx =>
 bnd (zbin .f .geq a0 (.v (.float .f64 14010698440749613056))) fun d1 =>
 opG.gjn (fun k1 => zgd d1 true (
  k1 [] [] a0 T nx nx
 ) (k1 [] [] (.v undef) T nx nx)) fun _ _ d2 T1 n1 l1 =>
 opG.gjn (fun k2 => zgd d1 true (
  bnd (zbin .f .leq d2 (.v (.float .f64 4787326403894837248))) fun d3 =>
  k2 [] [] d3 T1 n1 l1
 ) (k2 [] [] (.v undef) T1 n1 l1)) fun _ _ d4 T2 n2 l2 =>
 bnd (zpick d1 d4 (.v (.bool false))) fun d5 =>
 bnd (zun .not d5) fun d6 =>
 opG.gjn (fun k3 => zgd d6 false (
  k3 [] [] a0 T2 n2 l2
 ) (k3 [] [] (.v undef) T2 n2 l2)) fun _ _ d7 T3 n3 l3 =>
 opG.gjn (fun k4 => zgd d6 false (
  k4 [] [] a0 T3 n3 l3
 ) (k4 [] [] (.v undef) T3 n3 l3)) fun _ _ d8 T4 n4 l4 =>
 opG.gjn (fun k5 => zgd d6 false (
  bndR (F273 [d8] T4 n4) fun d9 T5 n5 l5 => fN (lowN l4 l5) fun l6 =>
  k5 [] [] d9 T5 n5 l6
 ) (k5 [] [] (.v undef) T4 n4 l4)) fun _ _ d10 T6 n6 l7 =>
 opG.gjn (fun k6 => zgd d6 false (
  bnd (zbin .f .neq d7 d10) fun d11 =>
  k6 [] [] d11 T6 n6 l7
 ) (k6 [] [] (.v undef) T6 n6 l7)) fun _ _ d12 T7 n7 l8 =>
 bnd (zpick d6 (.v (.bool true)) d12) fun d13 =>
 opG.gjn (fun k7 => zgd d13 false (
  k7 [] [] a0 T7 n7 l8
 ) (k7 [] [] (.v undef) T7 n7 l8)) fun _ _ d14 T8 n8 l9 =>
 opG.gjn (fun k8 => zgd d13 false (
  bnd (zbin .f .eql d14 (.v (.float .f64 0))) fun d15 =>
  k8 [] [] d15 T8 n8 l9
 ) (k8 [] [] (.v undef) T8 n8 l9)) fun _ _ d16 T9 n9 l10 =>
 opG.gjn (fun k9 => zgd d13 false (
  k9 [] [] d16 T9 n9 l10
 ) (k9 [] [] (.v undef) T9 n9 l10)) fun _ _ d17 T10 n10 l11 =>
 opG.gjn (fun k10 => zgd d17 true (
  k10 [] [] a0 T10 n10 l11
 ) (k10 [] [] (.v undef) T10 n10 l11)) fun _ _ d18 T11 n11 l12 =>
 opG.gjn (fun k11 => zgd d17 true (
  bndR (F274 [d18] T11 n11) fun d19 T12 n12 l13 => fN (lowN l12 l13) fun l14 =>
  k11 [] [] d19 T12 n12 l14
 ) (k11 [] [] (.v undef) T11 n11 l12)) fun _ _ d20 T13 n13 l15 =>
 opG.gjn (fun k12 => zgd d13 false (
  bnd (zpick d17 d20 (.v (.bool false))) fun d21 =>
  k12 [] [] d21 T13 n13 l15
 ) (k12 [] [] (.v undef) T13 n13 l15)) fun _ _ d22 T14 n14 l16 =>
 bnd (zpick d13 (.v (.bool true)) d22) fun d23 =>
 cnd d23 (
 finK T nx (.tup [(.v (.int .i64 (.ofNat 0))), (.v (.bool false))]) T14 n14 l16
 ) (
 bnd (zconv (.fi .i64) a0) fun d24 =>
 finK T nx (.tup [d24, (.v (.bool true))]) T14 n14 l16
 )
theorem e258 (a0 : D) (T : ST) (nx : Nat) : fnK Tryz.prog [(273, F273), (274, F274)] dr0 FU Tryz.f258 (.s .o (.s (.s .o (.c (.s .o .o) .o)) (.s .o .o))) [a0] T nx = s258 a0 T nx := by kernel_rfl
noncomputable def F258 : Sem := ar1 s258
theorem k258 : FnOk Tryz.prog 258 F258 := ar1_ok (fnK_ok (by kernel_rfl) (CallsOk.cons h273 k273 (CallsOk.cons h274 k274 CallsOk.nil)) dr0_ok) e258
/- reeve/gauss.Parts -/
theorem h222 : HasFn Tryz.prog 222 := ⟨by kernel_rfl⟩
noncomputable def s222 (a0 : D) : ST → Nat → Option Rt := fun T nx =>
 bnd (biK.zre a0) fun d1 =>
 bndR (F258 [d1] T nx) fun d2 T1 n1 l1 => fN (lowN nx l1) fun l2 =>
 bnd (zextract d2 0) fun d3 =>
 bnd (zextract d2 1) fun d4 =>
 bnd (biK.zim a0) fun d5 =>
 bndR (F258 [d5] T1 n1) fun d6 T2 n2 l3 => fN (lowN l2 l3) fun l4 =>
 bnd (zextract d6 0) fun d7 =>
 bnd (zextract d6 1) fun d8 =>
 bnd (zun .not d4) fun d9 =>
 opG.gjn (fun k1 => zgd d9 false (
  k1 [] [] d8 T2 n2 l4
 ) (k1 [] [] (.v undef) T2 n2 l4)) fun _ _ d10 T3 n3 l5 =>
 opG.gjn (fun k2 => zgd d9 false (
  bnd (zun .not d10) fun d11 =>
  k2 [] [] d11 T3 n3 l5
 ) (k2 [] [] (.v undef) T3 n3 l5)) fun _ _ d12 T4 n4 l6 =>
 bnd (zpick d9 (.v (.bool true)) d12) fun d13 =>
 cnd d13 (
 finK T nx (.tup [(.v (.int .i64 (.ofNat 0))), (.v (.int .i64 (.ofNat 0))), (.v (.bool false))]) T4 n4 l6
 ) (
 finK T nx (.tup [d3, d7, (.v (.bool true))]) T4 n4 l6
 )
theorem e222 (a0 : D) (T : ST) (nx : Nat) : fnK Tryz.prog [(258, F258)] dr0 FU Tryz.f222 (.s .o (.s .o (.s .o (.s (.s .o (.c (.s .o .o) .o)) (.s .o .o))))) [a0] T nx = s222 a0 T nx := by kernel_rfl
noncomputable def F222 : Sem := ar1 s222
theorem k222 : FnOk Tryz.prog 222 F222 := ar1_ok (fnK_ok (by kernel_rfl) (CallsOk.cons h258 k258 CallsOk.nil) dr0_ok) e222
/- reeve/gauss.Word -/
theorem h164 : HasFn Tryz.prog 164 := ⟨by kernel_rfl⟩
noncomputable def s164 (a0 : D) : ST → Nat → Option Rt := fun T nx =>
 bndR (F222 [a0] T nx) fun d1 T1 n1 l1 => fN (lowN nx l1) fun l2 =>
 bnd (zextract d1 0) fun d2 =>
 bnd (zextract d1 1) fun d3 =>
 bnd (zextract d1 2) fun d4 =>
 bnd (zun .not d4) fun d5 =>
 opG.gjn (fun k1 => zgd d5 false (
  k1 [] [] d2 T1 n1 l2
 ) (k1 [] [] (.v undef) T1 n1 l2)) fun _ _ d6 T2 n2 l3 =>
 opG.gjn (fun k2 => zgd d5 false (
  bnd (zbin .i .lss d6 (.v (.int .i64 (.ofNat 0)))) fun d7 =>
  k2 [] [] d7 T2 n2 l3
 ) (k2 [] [] (.v undef) T2 n2 l3)) fun _ _ d8 T3 n3 l4 =>
 bnd (zpick d5 (.v (.bool true)) d8) fun d9 =>
 opG.gjn (fun k3 => zgd d9 false (
  k3 [] [] d2 T3 n3 l4
 ) (k3 [] [] (.v undef) T3 n3 l4)) fun _ _ d10 T4 n4 l5 =>
 opG.gjn (fun k4 => zgd d9 false (
  bnd (zbin .i .gtr d10 (.v (.int .i64 (.ofNat 4294967295)))) fun d11 =>
  k4 [] [] d11 T4 n4 l5
 ) (k4 [] [] (.v undef) T4 n4 l5)) fun _ _ d12 T5 n5 l6 =>
 bnd (zpick d9 (.v (.bool true)) d12) fun d13 =>
 opG.gjn (fun k5 => zgd d13 false (
  k5 [] [] d3 T5 n5 l6
 ) (k5 [] [] (.v undef) T5 n5 l6)) fun _ _ d14 T6 n6 l7 =>
 opG.gjn (fun k6 => zgd d13 false (
  bnd (zbin .i .lss d14 (.v (.int .i64 (.ofNat 0)))) fun d15 =>
  k6 [] [] d15 T6 n6 l7
 ) (k6 [] [] (.v undef) T6 n6 l7)) fun _ _ d16 T7 n7 l8 =>
 bnd (zpick d13 (.v (.bool true)) d16) fun d17 =>
 opG.gjn (fun k7 => zgd d17 false (
  k7 [] [] d3 T7 n7 l8
 ) (k7 [] [] (.v undef) T7 n7 l8)) fun _ _ d18 T8 n8 l9 =>
 opG.gjn (fun k8 => zgd d17 false (
  bnd (zbin .i .gtr d18 (.v (.int .i64 (.ofNat 4294967295)))) fun d19 =>
  k8 [] [] d19 T8 n8 l9
 ) (k8 [] [] (.v undef) T8 n8 l9)) fun _ _ d20 T9 n9 l10 =>
 bnd (zpick d17 (.v (.bool true)) d20) fun d21 =>
 cnd d21 (
 finK T nx (.tup [(.v (.int .u64 (.ofNat 0))), (.v (.bool false))]) T9 n9 l10
 ) (
 bnd (zconv (.ii .u64) d3) fun d22 =>
 bnd (zbin .sh .shl d22 (.v (.int .u64 (.ofNat 32)))) fun d23 =>
 bnd (zconv (.ii .u64) d2) fun d24 =>
 bnd (zbin .i .or d23 d24) fun d25 =>
 finK T nx (.tup [d25, (.v (.bool true))]) T9 n9 l10
 )
theorem e164 (a0 : D) (T : ST) (nx : Nat) : fnK Tryz.prog [(222, F222)] dr0 FU Tryz.f164 (.s .o (.s .o (.s (.s .o (.c (.s .o .o) .o)) (.s .o .o)))) [a0] T nx = s164 a0 T nx := by kernel_rfl
noncomputable def F164 : Sem := ar1 s164
theorem k164 : FnOk Tryz.prog 164 F164 := ar1_ok (fnK_ok (by kernel_rfl) (CallsOk.cons h222 k222 CallsOk.nil) dr0_ok) e164
end Go.Abs
