/- Functions of the program as what they run as, printed by a program of this session. -/
import Derived.Test.YtmmfmiamkgmikaaGreatK5
set_option linter.unusedVariables false
set_option maxRecDepth 100000
open Go Go.Proofs
namespace Go.Abs
/- strings.ContainsAny -/
theorem h152 : HasFn Tryz.prog 152 := ⟨by kernel_rfl⟩
noncomputable def s152 (a0 a1 : D) : ST → Nat → Option Rt := fun T nx =>
 bndR (F200 [a0, a1] T nx) fun d1 T1 n1 l1 => fN (lowN nx l1) fun l2 =>
 bnd (zbin .i .geq d1 (.v (.int .i64 (.ofNat 0)))) fun d2 =>
 finK T nx d2 T1 n1 l2
theorem e152 (a0 a1 : D) (T : ST) (nx : Nat) : fnK Tryz.prog [(200, F200)] dr0 FU Tryz.f152 (.s .o (.s .o .o)) [a0, a1] T nx = s152 a0 a1 T nx := by kernel_rfl
noncomputable def F152 : Sem := ar2 s152
theorem k152 : FnOk Tryz.prog 152 F152 := ar2_ok (fnK_ok (by kernel_rfl) (CallsOk.cons h200 k200 CallsOk.nil) dr0_ok) e152
/- reeve/call.in -/
theorem h201 : HasFn Tryz.prog 201 := ⟨by kernel_rfl⟩
noncomputable def s201 (a0 a1 a2 : D) : ST → Nat → Option Rt := fun T nx =>
 bnd (zbin .i .geq a0 a1) fun d1 =>
 opG.gjn (fun k1 => zgd d1 true (
  k1 [] [] a0 T nx nx
 ) (k1 [] [] (.v undef) T nx nx)) fun _ _ d2 T1 n1 l1 =>
 opG.gjn (fun k2 => zgd d1 true (
  k2 [] [] a2 T1 n1 l1
 ) (k2 [] [] (.v undef) T1 n1 l1)) fun _ _ d3 T2 n2 l2 =>
 opG.gjn (fun k3 => zgd d1 true (
  bnd (zbin .i .leq d2 d3) fun d4 =>
  k3 [] [] d4 T2 n2 l2
 ) (k3 [] [] (.v undef) T2 n2 l2)) fun _ _ d5 T3 n3 l3 =>
 bnd (zpick d1 d5 (.v (.bool false))) fun d6 =>
 finK T nx d6 T3 n3 l3
theorem e201 (a0 a1 a2 : D) (T : ST) (nx : Nat) : fnK Tryz.prog [] dr0 FU Tryz.f201 (.s .o (.s .o .o)) [a0, a1, a2] T nx = s201 a0 a1 a2 T nx := by kernel_rfl
noncomputable def F201 : Sem := ar3 s201
theorem k201 : FnOk Tryz.prog 201 F201 := ar3_ok (fnK_ok (by kernel_rfl) CallsOk.nil dr0_ok) e201
/- reeve/call.numbers -/
theorem h153 : HasFn Tryz.prog 153 := ⟨by kernel_rfl⟩
noncomputable def s153 (a0 : D) : ST → Nat → Option Rt := fun T nx =>
 bB (solidB a0) <| fN (Nat.succ nx) fun n1 => fN (dcells a0).length fun e1 =>
 bnd (zfieldAddr 0 (.ptr nx e1 0 0)) fun d1 =>
 bnd (zload none (Tr.set (some (xRow 82 (dcells a0))) T nx) d1) fun d2 =>
 bnd (zbin .i .eql d2 (.v (.int .i64 (.ofNat 1)))) fun d3 =>
 cnd d3 (
  bnd (zfieldAddr 3 (.ptr nx e1 0 0)) fun d4 =>
  bnd (zload none (Tr.set (some (xRow 82 (dcells a0))) T nx) d4) fun d5 =>
  bndR (F201 [d5, (.v (.int .i64 (.ofNat 1))), (.v (.int .i64 (.ofNat 5)))] (Tr.set (some (xRow 82 (dcells a0))) T nx) n1) fun d6 T1 n2 l1 => fN (lowN nx l1) fun l2 =>
  opG.gjn (fun k1 => zgd d6 true (
   bnd (zfieldAddr 4 (.ptr nx e1 0 0)) fun d7 =>
   k1 [] [] d7 T1 n2 l2
  ) (k1 [] [] (.v undef) T1 n2 l2)) fun _ _ d8 T2 n3 l3 =>
  opG.gjn (fun k2 => zgd d6 true (
   bnd (zload none T2 d8) fun d9 =>
   k2 (ptr? d8) [] d9 T2 n3 l3
  ) (k2 [] [] (.v undef) T2 n3 l3)) fun _ _ d10 T3 n4 l4 =>
  opG.gjn (fun k3 => zgd d6 true (
   bndR (F201 [d10, (.v (.int .i64 (.ofNat 0))), (.v (.int .i64 (.ofNat 4096)))] T3 n4) fun d11 T4 n5 l5 => fN (lowN l4 l5) fun l6 =>
   k3 [] [] d11 T4 n5 l6
  ) (k3 [] [] (.v undef) T3 n4 l4)) fun _ _ d12 T5 n6 l7 =>
  bnd (zpick d6 d12 (.v (.bool false))) fun d13 =>
 finK T nx d13 T5 n6 l7
 ) (
  bnd (zbin .i .eql d2 (.v (.int .i64 (.ofNat 2)))) fun d14 =>
  cnd d14 (
   bnd (zfieldAddr 3 (.ptr nx e1 0 0)) fun d15 =>
   bnd (zload none (Tr.set (some (xRow 82 (dcells a0))) T nx) d15) fun d16 =>
   bndR (F202 [d16] (Tr.set (some (xRow 82 (dcells a0))) T nx) n1) fun d17 T6 n7 l8 => fN (lowN nx l8) fun l9 =>
   opG.gjn (fun k4 => zgd d17 true (
    bnd (zfieldAddr 4 (.ptr nx e1 0 0)) fun d18 =>
    k4 [] [] d18 T6 n7 l9
   ) (k4 [] [] (.v undef) T6 n7 l9)) fun _ _ d19 T7 n8 l10 =>
   opG.gjn (fun k5 => zgd d17 true (
    bnd (zload none T7 d19) fun d20 =>
    k5 (ptr? d19) [] d20 T7 n8 l10
   ) (k5 [] [] (.v undef) T7 n8 l10)) fun _ _ d21 T8 n9 l11 =>
   opG.gjn (fun k6 => zgd d17 true (
    bnd (zbin .i .eql d21 (.v (.int .i64 (.ofNat 0)))) fun d22 =>
    k6 [] [] d22 T8 n9 l11
   ) (k6 [] [] (.v undef) T8 n9 l11)) fun _ _ d23 T9 n10 l12 =>
   bnd (zpick d17 d23 (.v (.bool false))) fun d24 =>
 finK T nx d24 T9 n10 l12
  ) (
   bnd (zbin .i .eql d2 (.v (.int .i64 (.ofNat 3)))) fun d25 =>
   cnd d25 (
    bnd (zfieldAddr 3 (.ptr nx e1 0 0)) fun d26 =>
    bnd (zload none (Tr.set (some (xRow 82 (dcells a0))) T nx) d26) fun d27 =>
    bndR (F202 [d27] (Tr.set (some (xRow 82 (dcells a0))) T nx) n1) fun d28 T10 n11 l13 => fN (lowN nx l13) fun l14 =>
    opG.gjn (fun k7 => zgd d28 true (
     bnd (zfieldAddr 4 (.ptr nx e1 0 0)) fun d29 =>
     k7 [] [] d29 T10 n11 l14
    ) (k7 [] [] (.v undef) T10 n11 l14)) fun _ _ d30 T11 n12 l15 =>
    opG.gjn (fun k8 => zgd d28 true (
     bnd (zload none T11 d30) fun d31 =>
     k8 (ptr? d30) [] d31 T11 n12 l15
    ) (k8 [] [] (.v undef) T11 n12 l15)) fun _ _ d32 T12 n13 l16 =>
    opG.gjn (fun k9 => zgd d28 true (
     bndR (F201 [d32, (.v (.int .i64 (.ofNat 1))), (.v (.int .i64 (.ofNat 65535)))] T12 n13) fun d33 T13 n14 l17 => fN (lowN l16 l17) fun l18 =>
     k9 [] [] d33 T13 n14 l18
    ) (k9 [] [] (.v undef) T12 n13 l16)) fun _ _ d34 T14 n15 l19 =>
    bnd (zpick d28 d34 (.v (.bool false))) fun d35 =>
 finK T nx d35 T14 n15 l19
   ) (
    jn (fun v1 T15 n16 l20 => unc v1 fun d36 w1 => unc w1 fun d37 w2 =>
     cnd d37 (
      bnd (zfieldAddr 3 d36) fun d38 =>
      bnd (zload none T15 d38) fun d39 =>
      bndR (F201 [d39, (.v (.int .i64 (.ofNat 0))), (.v (.int .i64 (.ofNat 3)))] T15 n16) fun d40 T16 n17 l21 => fN (lowN l20 l21) fun l22 =>
      opG.gjn (fun k10 => zgd d40 true (
       bnd (zfieldAddr 4 d36) fun d41 =>
       k10 [] [] d41 T16 n17 l22
      ) (k10 [] [] (.v undef) T16 n17 l22)) fun _ _ d42 T17 n18 l23 =>
      opG.gjn (fun k11 => zgd d40 true (
       bnd (zload none T17 d42) fun d43 =>
       k11 (ptr? d42) [] d43 T17 n18 l23
      ) (k11 [] [] (.v undef) T17 n18 l23)) fun _ _ d44 T18 n19 l24 =>
      opG.gjn (fun k12 => zgd d40 true (
       bnd (zbin .i .eql d44 (.v (.int .i64 (.ofNat 0)))) fun d45 =>
       k12 [] [] d45 T18 n19 l24
      ) (k12 [] [] (.v undef) T18 n19 l24)) fun _ _ d46 T19 n20 l25 =>
      bnd (zpick d40 d46 (.v (.bool false))) fun d47 =>
 finK T nx d47 T19 n20 l25
     ) (
 bnd (zfieldAddr 3 d36) fun d48 =>
 bnd (zload none T15 d48) fun d49 =>
 bnd (zbin .i .eql d49 (.v (.int .i64 (.ofNat 0)))) fun d50 =>
 opG.gjn (fun k13 => zgd d50 true (
  bnd (zfieldAddr 4 d36) fun d51 =>
  k13 [] [] d51 T15 n16 l20
 ) (k13 [] [] (.v undef) T15 n16 l20)) fun _ _ d52 T20 n21 l26 =>
 opG.gjn (fun k14 => zgd d50 true (
  bnd (zload none T20 d52) fun d53 =>
  k14 (ptr? d52) [] d53 T20 n21 l26
 ) (k14 [] [] (.v undef) T20 n21 l26)) fun _ _ d54 T21 n22 l27 =>
 opG.gjn (fun k15 => zgd d50 true (
  bnd (zbin .i .eql d54 (.v (.int .i64 (.ofNat 0)))) fun d55 =>
  k15 [] [] d55 T21 n22 l27
 ) (k15 [] [] (.v undef) T21 n22 l27)) fun _ _ d56 T22 n23 l28 =>
 bnd (zpick d50 d56 (.v (.bool false))) fun d57 =>
 finK T nx d57 T22 n23 l28
     )) fun K1 =>
    bnd (zbin .i .eql d2 (.v (.int .i64 (.ofNat 11)))) fun d58 =>
    cnd d58 (
    K1 [(.ptr nx e1 0 0), d58] (Tr.set (some (xRow 82 (dcells a0))) T nx) n1 nx
    ) (
     bnd (zbin .i .eql d2 (.v (.int .i64 (.ofNat 12)))) fun d59 =>
    K1 [(.ptr nx e1 0 0), d59] (Tr.set (some (xRow 82 (dcells a0))) T nx) n1 nx
    )
   )
  )
 )
theorem e153 (a0 : D) (T : ST) (nx : Nat) : fnK Tryz.prog [(201, F201), (202, F202)] dr0 FU Tryz.f153 (.s .o (.s (.s .o (.b (.s .o (.c (.s .o .o) (.s .o (.c (.s .o .o) (.s .o (.c (.s .o .o) (.j [1, 35] (.s .o (.c .o .o)) (.c (.s .o .o) .o)))))))))) (.s .o .o))) [a0] T nx = s153 a0 T nx := by kernel_rfl
noncomputable def F153 : Sem := ar1 s153
theorem k153 : FnOk Tryz.prog 153 F153 := ar1_ok (fnK_ok (by kernel_rfl) (CallsOk.cons h201 k201 (CallsOk.cons h202 k202 CallsOk.nil)) dr0_ok) e153
/- reeve/call.Good -/
theorem h101 : HasFn Tryz.prog 101 := ⟨by kernel_rfl⟩
noncomputable def s101 (a0 : D) : ST → Nat → Option Rt := fun T nx =>
 bB (solidB a0) <| fN (Nat.succ nx) fun n1 => fN (dcells a0).length fun e1 =>
 bnd (zfieldAddr 0 (.ptr nx e1 0 0)) fun d1 =>
 bnd (zload none (Tr.set (some (xRow 82 (dcells a0))) T nx) d1) fun d2 =>
 bndR (F149 [d2] (Tr.set (some (xRow 82 (dcells a0))) T nx) n1) fun d3 T1 n2 l1 => fN (lowN nx l1) fun l2 =>
 bnd (zextract d3 0) fun d4 =>
 bnd (zextract d3 1) fun d5 =>
 bnd (zfieldAddr 2 (.ptr nx e1 0 0)) fun d6 =>
 bnd (zfieldAddr 0 d6) fun d7 =>
 bnd (zload none T1 d7) fun d8 =>
 bnd (zlen true d8) fun d9 =>
 bnd (zbin .i .eql d9 (.v (.int .i64 (.ofNat 0)))) fun d10 =>
 opG.gjn (fun k1 => zgd d10 true (
  k1 [] [] d5 T1 n2 l2
 ) (k1 [] [] (.v undef) T1 n2 l2)) fun _ _ d11 T2 n3 l3 =>
 opG.gjn (fun k2 => zgd d10 true (
  bndR (F150 [d11, (.v (.string (ByteArray.mk #[66])))] T2 n3) fun d12 T3 n4 l4 => fN (lowN l3 l4) fun l5 =>
  k2 [] [] d12 T3 n4 l5
 ) (k2 [] [] (.v undef) T2 n3 l3)) fun _ _ d13 T4 n5 l6 =>
 opG.gjn (fun k3 => zgd d10 true (
  bnd (zun .not d13) fun d14 =>
  k3 [] [] d14 T4 n5 l6
 ) (k3 [] [] (.v undef) T4 n5 l6)) fun _ _ d15 T5 n6 l7 =>
 bnd (zpick d10 d15 (.v (.bool false))) fun d16 =>
 opG.gjn (fun k4 => zgd d16 false (
  bnd (zfieldAddr 2 (.ptr nx e1 0 0)) fun d17 =>
  k4 [] [] d17 T5 n6 l7
 ) (k4 [] [] (.v undef) T5 n6 l7)) fun _ _ d18 T6 n7 l8 =>
 opG.gjn (fun k5 => zgd d16 false (
  bnd (zload (some 1) T6 d18) fun d19 =>
  k5 (ptr? d18) [] d19 T6 n7 l8
 ) (k5 [] [] (.v undef) T6 n7 l8)) fun _ _ d20 T7 n8 l9 =>
 opG.gjn (fun k6 => zgd d16 false (
  bndR (F151 [d20] T7 n8) fun d21 T8 n9 l10 => fN (lowN l9 l10) fun l11 =>
  k6 [] [] d21 T8 n9 l11
 ) (k6 [] [] (.v undef) T7 n8 l9)) fun _ _ d22 T9 n10 l12 =>
 opG.gjn (fun k7 => zgd d16 false (
  k7 [] [] d22 T9 n10 l12
 ) (k7 [] [] (.v undef) T9 n10 l12)) fun _ _ d23 T10 n11 l13 =>
 opG.gjn (fun k8 => zgd d23 true (
  k8 [] [] d5 T10 n11 l13
 ) (k8 [] [] (.v undef) T10 n11 l13)) fun _ _ d24 T11 n12 l14 =>
 opG.gjn (fun k9 => zgd d23 true (
  bndR (F152 [d24, (.v (.string (ByteArray.mk #[66, 98])))] T11 n12) fun d25 T12 n13 l15 => fN (lowN l14 l15) fun l16 =>
  k9 [] [] d25 T12 n13 l16
 ) (k9 [] [] (.v undef) T11 n12 l14)) fun _ _ d26 T13 n14 l17 =>
 opG.gjn (fun k10 => zgd d16 false (
  bnd (zpick d23 d26 (.v (.bool false))) fun d27 =>
  k10 [] [] d27 T13 n14 l17
 ) (k10 [] [] (.v undef) T13 n14 l17)) fun _ _ d28 T14 n15 l18 =>
 bnd (zpick d16 (.v (.bool true)) d28) fun d29 =>
 bnd (zbin .st .neq d5 (.v (.string (ByteArray.mk #[])))) fun d30 =>
 opG.gjn (fun k11 => zgd d30 true (
  bnd (zfieldAddr 1 (.ptr nx e1 0 0)) fun d31 =>
  k11 [] [] d31 T14 n15 l18
 ) (k11 [] [] (.v undef) T14 n15 l18)) fun _ _ d32 T15 n16 l19 =>
 opG.gjn (fun k12 => zgd d30 true (
  bnd (zload (some 1) T15 d32) fun d33 =>
  k12 (ptr? d32) [] d33 T15 n16 l19
 ) (k12 [] [] (.v undef) T15 n16 l19)) fun _ _ d34 T16 n17 l20 =>
 opG.gjn (fun k13 => zgd d30 true (
  bndR (F151 [d34] T16 n17) fun d35 T17 n18 l21 => fN (lowN l20 l21) fun l22 =>
  k13 [] [] d35 T17 n18 l22
 ) (k13 [] [] (.v undef) T16 n17 l20)) fun _ _ d36 T18 n19 l23 =>
 bnd (zpick d30 d36 (.v (.bool false))) fun d37 =>
 opG.gjn (fun k14 => zgd d37 true (
  k14 [] [] d29 T18 n19 l23
 ) (k14 [] [] (.v undef) T18 n19 l23)) fun _ _ d38 T19 n20 l24 =>
 bnd (zpick d37 d38 (.v (.bool false))) fun d39 =>
 opG.gjn (fun k15 => zgd d39 true (
  bnd (zload (some 6) T19 (.ptr nx e1 0 0)) fun d40 =>
  k15 (ptr? (.ptr nx e1 0 0)) [] d40 T19 n20 l24
 ) (k15 [] [] (.v undef) T19 n20 l24)) fun _ _ d41 T20 n21 l25 =>
 opG.gjn (fun k16 => zgd d39 true (
  bndR (F153 [d41] T20 n21) fun d42 T21 n22 l26 => fN (lowN l25 l26) fun l27 =>
  k16 [] [] d42 T21 n22 l27
 ) (k16 [] [] (.v undef) T20 n21 l25)) fun _ _ d43 T22 n23 l28 =>
 bnd (zpick d39 d43 (.v (.bool false))) fun d44 =>
 opG.gjn (fun k17 => zgd d44 true (
  bnd (zfieldAddr 5 (.ptr nx e1 0 0)) fun d45 =>
  k17 [] [] d45 T22 n23 l28
 ) (k17 [] [] (.v undef) T22 n23 l28)) fun _ _ d46 T23 n24 l29 =>
 opG.gjn (fun k18 => zgd d44 true (
  bnd (zload none T23 d46) fun d47 =>
  k18 (ptr? d46) [] d47 T23 n24 l29
 ) (k18 [] [] (.v undef) T23 n24 l29)) fun _ _ d48 T24 n25 l30 =>
 opG.gjn (fun k19 => zgd d44 true (
  bnd (zbin .i .eql d48 (.v (.int .u64 (.ofNat 0)))) fun d49 =>
  k19 [] [] d49 T24 n25 l30
 ) (k19 [] [] (.v undef) T24 n25 l30)) fun _ _ d50 T25 n26 l31 =>
 opG.gjn (fun k20 => zgd d44 true (
  k20 [] [] d50 T25 n26 l31
 ) (k20 [] [] (.v undef) T25 n26 l31)) fun _ _ d51 T26 n27 l32 =>
 opG.gjn (fun k21 => zgd d51 false (
  k21 [] [] d5 T26 n27 l32
 ) (k21 [] [] (.v undef) T26 n27 l32)) fun _ _ d52 T27 n28 l33 =>
 opG.gjn (fun k22 => zgd d51 false (
  bndR (F150 [d52, (.v (.string (ByteArray.mk #[87])))] T27 n28) fun d53 T28 n29 l34 => fN (lowN l33 l34) fun l35 =>
  k22 [] [] d53 T28 n29 l35
 ) (k22 [] [] (.v undef) T27 n28 l33)) fun _ _ d54 T29 n30 l36 =>
 opG.gjn (fun k23 => zgd d44 true (
  bnd (zpick d51 (.v (.bool true)) d54) fun d55 =>
  k23 [] [] d55 T29 n30 l36
 ) (k23 [] [] (.v undef) T29 n30 l36)) fun _ _ d56 T30 n31 l37 =>
 bnd (zpick d44 d56 (.v (.bool false))) fun d57 =>
 finK T nx d57 T30 n31 l37
theorem e101 (a0 : D) (T : ST) (nx : Nat) : fnK Tryz.prog [(149, F149), (150, F150), (151, F151), (152, F152), (153, F153)] dr0 FU Tryz.f101 (.s .o (.s .o (.s .o (.s .o .o)))) [a0] T nx = s101 a0 T nx := by kernel_rfl
noncomputable def F101 : Sem := ar1 s101
theorem k101 : FnOk Tryz.prog 101 F101 := ar1_ok (fnK_ok (by kernel_rfl) (CallsOk.cons h149 k149 (CallsOk.cons h150 k150 (CallsOk.cons h151 k151 (CallsOk.cons h152 k152 (CallsOk.cons h153 k153 CallsOk.nil))))) dr0_ok) e101
/- reeve/rule.there -/
theorem h102 : HasFn Tryz.prog 102 := ⟨by kernel_rfl⟩
noncomputable def s102 (a0 a1 : D) : ST → Nat → Option Rt := fun T nx =>
 bB (solidB a0) <| fN (Nat.succ nx) fun n1 => fN (dcells a0).length fun e1 =>
 bnd (zbin .i .geq a1 (.v (.int .i64 (.ofNat 0)))) fun d1 =>
 opG.gjn (fun k1 => zgd d1 true (
  k1 [] [] a1 (Tr.set (some (xRow 32 (dcells a0))) T nx) n1 nx
 ) (k1 [] [] (.v undef) (Tr.set (some (xRow 32 (dcells a0))) T nx) n1 nx)) fun _ _ d2 T1 n2 l1 =>
 opG.gjn (fun k2 => zgd d1 true (
  bnd (zfieldAddr 0 (.ptr nx e1 0 0)) fun d3 =>
  k2 [] [] d3 T1 n2 l1
 ) (k2 [] [] (.v undef) T1 n2 l1)) fun _ _ d4 T2 n3 l2 =>
 opG.gjn (fun k3 => zgd d1 true (
  bnd (zfieldAddr 0 d4) fun d5 =>
  k3 [] [] d5 T2 n3 l2
 ) (k3 [] [] (.v undef) T2 n3 l2)) fun _ _ d6 T3 n4 l3 =>
 opG.gjn (fun k4 => zgd d1 true (
  bnd (zload none T3 d6) fun d7 =>
  k4 (ptr? d6) [] d7 T3 n4 l3
 ) (k4 [] [] (.v undef) T3 n4 l3)) fun _ _ d8 T4 n5 l4 =>
 opG.gjn (fun k5 => zgd d1 true (
  bnd (zbin .i .lss d2 d8) fun d9 =>
  k5 [] [] d9 T4 n5 l4
 ) (k5 [] [] (.v undef) T4 n5 l4)) fun _ _ d10 T5 n6 l5 =>
 bnd (zpick d1 d10 (.v (.bool false))) fun d11 =>
 finK T nx d11 T5 n6 l5
theorem e102 (a0 a1 : D) (T : ST) (nx : Nat) : fnK Tryz.prog [] dr0 FU Tryz.f102 (.s .o (.s .o .o)) [a0, a1] T nx = s102 a0 a1 T nx := by kernel_rfl
noncomputable def F102 : Sem := ar2 s102
theorem k102 : FnOk Tryz.prog 102 F102 := ar2_ok (fnK_ok (by kernel_rfl) CallsOk.nil dr0_ok) e102
/- reeve/find.in -/
theorem h253 : HasFn Tryz.prog 253 := ⟨by kernel_rfl⟩
noncomputable def s253 (a0 a1 a2 : D) : ST → Nat → Option Rt := fun T nx =>
 bnd (zbin .i .geq a0 a1) fun d1 =>
 opG.gjn (fun k1 => zgd d1 true (
  k1 [] [] a0 T nx nx
 ) (k1 [] [] (.v undef) T nx nx)) fun _ _ d2 T1 n1 l1 =>
 opG.gjn (fun k2 => zgd d1 true (
  k2 [] [] a2 T1 n1 l1
 ) (k2 [] [] (.v undef) T1 n1 l1)) fun _ _ d3 T2 n2 l2 =>
 opG.gjn (fun k3 => zgd d1 true (
  bnd (zbin .i .leq d2 d3) fun d4 =>
  k3 [] [] d4 T2 n2 l2
 ) (k3 [] [] (.v undef) T2 n2 l2)) fun _ _ d5 T3 n3 l3 =>
 bnd (zpick d1 d5 (.v (.bool false))) fun d6 =>
 finK T nx d6 T3 n3 l3
theorem e253 (a0 a1 a2 : D) (T : ST) (nx : Nat) : fnK Tryz.prog [] dr0 FU Tryz.f253 (.s .o (.s .o .o)) [a0, a1, a2] T nx = s253 a0 a1 a2 T nx := by kernel_rfl
noncomputable def F253 : Sem := ar3 s253
theorem k253 : FnOk Tryz.prog 253 F253 := ar3_ok (fnK_ok (by kernel_rfl) CallsOk.nil dr0_ok) e253
/- reeve/find.through -/
theorem h254 : HasFn Tryz.prog 254 := ⟨by kernel_rfl⟩
noncomputable def s254 (a0 a1 : D) : ST → Nat → Option Rt := fun T nx =>
 bB (solidB a0) <| fN (Nat.succ nx) fun n1 => fN (dcells a0).length fun e1 =>
 fN (Nat.succ n1) fun n2 =>
 bnd (zfieldAddr 3 (.ptr nx e1 0 0)) fun d1 =>
 bnd (zload none (Tr.set (some (XO.mk 51 13 1 (.n [(.v (.int .i64 (.ofNat 0))), (.v (.int .i64 (.ofNat 0))), (.v (.int .i64 (.ofNat 0))), (.v (.int .i64 (.ofNat 0))), (.v (.int .i64 (.ofNat 0))), (.v (.int .i64 (.ofNat 0))), (.v (.int .i64 (.ofNat 0))), (.v (.bool false)), (.v (.int .u64 (.ofNat 0))), (.v (.int .u64 (.ofNat 0))), (.v (.int .u64 (.ofNat 0))), (.v (.int .u64 (.ofNat 0))), (.v (.int .u64 (.ofNat 0)))] .e .e))) (Tr.set (some (xRow 32 (dcells a0))) T nx) n1) d1) fun d2 =>
 bnd (zindexAddr (.sl 5) d2 a1) fun d3 =>
 bnd (zfieldAddr 0 d3) fun d4 =>
 bnd (zload (some 4) (Tr.set (some (XO.mk 51 13 1 (.n [(.v (.int .i64 (.ofNat 0))), (.v (.int .i64 (.ofNat 0))), (.v (.int .i64 (.ofNat 0))), (.v (.int .i64 (.ofNat 0))), (.v (.int .i64 (.ofNat 0))), (.v (.int .i64 (.ofNat 0))), (.v (.int .i64 (.ofNat 0))), (.v (.bool false)), (.v (.int .u64 (.ofNat 0))), (.v (.int .u64 (.ofNat 0))), (.v (.int .u64 (.ofNat 0))), (.v (.int .u64 (.ofNat 0))), (.v (.int .u64 (.ofNat 0)))] .e .e))) (Tr.set (some (xRow 32 (dcells a0))) T nx) n1) d4) fun d5 =>
 fN (Nat.succ n2) fun n3 =>
 zstore 4 (Tr.set (some (XO.mk 111 4 1 (.n [(.v (.int .i64 (.ofNat 0))), (.v (.int .i64 (.ofNat 0))), (.v (.int .i64 (.ofNat 0))), (.v (.int .i64 (.ofNat 0)))] .e .e))) (Tr.set (some (XO.mk 51 13 1 (.n [(.v (.int .i64 (.ofNat 0))), (.v (.int .i64 (.ofNat 0))), (.v (.int .i64 (.ofNat 0))), (.v (.int .i64 (.ofNat 0))), (.v (.int .i64 (.ofNat 0))), (.v (.int .i64 (.ofNat 0))), (.v (.int .i64 (.ofNat 0))), (.v (.bool false)), (.v (.int .u64 (.ofNat 0))), (.v (.int .u64 (.ofNat 0))), (.v (.int .u64 (.ofNat 0))), (.v (.int .u64 (.ofNat 0))), (.v (.int .u64 (.ofNat 0)))] .e .e))) (Tr.set (some (xRow 32 (dcells a0))) T nx) n1) n2) (.ptr n2 4 0 0) d5 fun r1 T1 => fN (lowN nx r1) fun l1 =>
 bnd (zfieldAddr 0 (.ptr n2 4 0 0)) fun d6 =>
 bnd (zload none T1 d6) fun d7 =>
 bnd (zbin .i .neq d7 (.v (.int .i64 (.ofNat 2)))) fun d8 =>
 opG.gjn (fun k1 => zgd d8 false (
  bnd (zfieldAddr 2 (.ptr n2 4 0 0)) fun d9 =>
  k1 [] [] d9 T1 n3 l1
 ) (k1 [] [] (.v undef) T1 n3 l1)) fun _ _ d10 T2 n4 l2 =>
 opG.gjn (fun k2 => zgd d8 false (
  bnd (zload none T2 d10) fun d11 =>
  k2 (ptr? d10) [] d11 T2 n4 l2
 ) (k2 [] [] (.v undef) T2 n4 l2)) fun _ _ d12 T3 n5 l3 =>
 opG.gjn (fun k3 => zgd d8 false (
  bndR (F159 [(.v (.int .i64 (.ofNat 1))), d12] T3 n5) fun d13 T4 n6 l4 => fN (lowN l3 l4) fun l5 =>
  k3 [] [] d13 T4 n6 l5
 ) (k3 [] [] (.v undef) T3 n5 l3)) fun _ _ d14 T5 n7 l6 =>
 opG.gjn (fun k4 => zgd d8 false (
  bnd (zun .not d14) fun d15 =>
  k4 [] [] d15 T5 n7 l6
 ) (k4 [] [] (.v undef) T5 n7 l6)) fun _ _ d16 T6 n8 l7 =>
 bnd (zpick d8 (.v (.bool true)) d16) fun d17 =>
 cnd d17 (
  bnd (zbuild [(.int .i64 (.ofNat 0)), (.int .i64 (.ofNat 0)), (.int .i64 (.ofNat 0)), (.int .i64 (.ofNat 0)), (.int .i64 (.ofNat 0)), (.int .i64 (.ofNat 0)), (.int .i64 (.ofNat 0)), (.bool false), (.int .u64 (.ofNat 0)), (.int .u64 (.ofNat 0)), (.int .u64 (.ofNat 0)), (.int .u64 (.ofNat 0)), (.int .u64 (.ofNat 0))] [(0, 1), (1, 1), (2, 1), (3, 1), (4, 1), (5, 1), (6, 1), (7, 1), (8, 1), (9, 4)] [] []) fun d18 =>
  zstore 13 T6 (.ptr n1 13 0 0) d18 fun r2 T7 => fN (lowN l7 r2) fun l8 =>
 bnd (zres (some 13) T7 (.ptr n1 13 0 0)) fun d19 =>
 finK T nx (.tup [d19, (.v (.bool false))]) T7 n8 l8
 ) (
 bnd (zfieldAddr 4 (.ptr nx e1 0 0)) fun d20 =>
 bnd (zload none T6 d20) fun d21 =>
 bnd (zfieldAddr 1 (.ptr n2 4 0 0)) fun d22 =>
 bnd (zload none T6 d22) fun d23 =>
 bnd (zindexAddr (.sl 13) d21 d23) fun d24 =>
 bnd (zload (some 13) T6 d24) fun d25 =>
 zstore 13 T6 (.ptr n1 13 0 0) d25 fun r3 T8 => fN (lowN l7 r3) fun l9 =>
 bnd (zres (some 13) T8 (.ptr n1 13 0 0)) fun d26 =>
 finK T nx (.tup [d26, (.v (.bool true))]) T8 n8 l9
 )
theorem e254 (a0 a1 : D) (T : ST) (nx : Nat) : fnK Tryz.prog [(159, F159)] dr0 FU Tryz.f254 (.s .o (.s .o (.s (.s .o (.c (.s .o .o) .o)) (.s .o .o)))) [a0, a1] T nx = s254 a0 a1 T nx := by kernel_rfl
noncomputable def F254 : Sem := ar2 s254
theorem k254 : FnOk Tryz.prog 254 F254 := ar2_ok (fnK_ok (by kernel_rfl) (CallsOk.cons h159 k159 CallsOk.nil) dr0_ok) e254
/- reeve/find.step -/
theorem h255 : HasFn Tryz.prog 255 := ⟨by kernel_rfl⟩
noncomputable def s255 (a0 a1 : D) : ST → Nat → Option Rt := fun T nx =>
 bB (solidB a0) <| fN (Nat.succ nx) fun n1 => fN (dcells a0).length fun e1 =>
 bnd (zfieldAddr 1 (.ptr nx e1 0 0)) fun d1 =>
 bnd (zload none (Tr.set (some (xRow 51 (dcells a0))) T nx) d1) fun d2 =>
 bnd (zbin .sh .shl (.v (.int .i64 (.ofNat 1))) d2) fun d3 =>
 bnd (zbin .i .geq a1 d3) fun d4 =>
 cnd d4 (
 finK T nx (.v (.int .i64 (.negSucc 0))) (Tr.set (some (xRow 51 (dcells a0))) T nx) n1 nx
 ) (
 bnd (zfieldAddr 2 (.ptr nx e1 0 0)) fun d5 =>
 bnd (zload none (Tr.set (some (xRow 51 (dcells a0))) T nx) d5) fun d6 =>
 bnd (zbin .i .add d6 a1) fun d7 =>
 finK T nx d7 (Tr.set (some (xRow 51 (dcells a0))) T nx) n1 nx
 )
theorem e255 (a0 a1 : D) (T : ST) (nx : Nat) : fnK Tryz.prog [] dr0 FU Tryz.f255 (.s .o (.s (.s .o (.c (.s .o .o) .o)) (.s .o .o))) [a0, a1] T nx = s255 a0 a1 T nx := by kernel_rfl
noncomputable def F255 : Sem := ar2 s255
theorem k255 : FnOk Tryz.prog 255 F255 := ar2_ok (fnK_ok (by kernel_rfl) CallsOk.nil dr0_ok) e255
/- reeve/find.Slot -/
theorem h213 : HasFn Tryz.prog 213 := ⟨by kernel_rfl⟩
noncomputable def s213 (fu : Nat) (a0 a1 a2 : D) : ST → Nat → Option Rt := fun T nx =>
 bB (solidB a0) <| fN (Nat.succ nx) fun n1 => fN (dcells a0).length fun e1 =>
 bB (solidB a2) <| fN (Nat.succ n1) fun n2 => fN (dcells a2).length fun e2 =>
 bnd (zload (some 5) (Tr.set (some (xRow 79 (dcells a2))) (Tr.set (some (xRow 32 (dcells a0))) T nx) n1) (.ptr nx e1 0 0)) fun d1 =>
 bndR (F100 [d1] (Tr.set (some (xRow 79 (dcells a2))) (Tr.set (some (xRow 32 (dcells a0))) T nx) n1) n2) fun d2 T1 n3 l1 => fN (lowN nx l1) fun l2 =>
 bnd (zun .not d2) fun d3 =>
 opG.gjn (fun k1 => zgd d3 false (
  k1 [] [] a1 T1 n3 l2
 ) (k1 [] [] (.v undef) T1 n3 l2)) fun _ _ d4 T2 n4 l3 =>
 opG.gjn (fun k2 => zgd d3 false (
  bnd (zfieldAddr 0 (.ptr nx e1 0 0)) fun d5 =>
  k2 [] [] d5 T2 n4 l3
 ) (k2 [] [] (.v undef) T2 n4 l3)) fun _ _ d6 T3 n5 l4 =>
 opG.gjn (fun k3 => zgd d3 false (
  bnd (zfieldAddr 0 d6) fun d7 =>
  k3 [] [] d7 T3 n5 l4
 ) (k3 [] [] (.v undef) T3 n5 l4)) fun _ _ d8 T4 n6 l5 =>
 opG.gjn (fun k4 => zgd d3 false (
  bnd (zload none T4 d8) fun d9 =>
  k4 (ptr? d8) [] d9 T4 n6 l5
 ) (k4 [] [] (.v undef) T4 n6 l5)) fun _ _ d10 T5 n7 l6 =>
 opG.gjn (fun k5 => zgd d3 false (
  bnd (zbin .i .sub d10 (.v (.int .i64 (.ofNat 1)))) fun d11 =>
  k5 [] [] d11 T5 n7 l6
 ) (k5 [] [] (.v undef) T5 n7 l6)) fun _ _ d12 T6 n8 l7 =>
 opG.gjn (fun k6 => zgd d3 false (
  bndR (F253 [d4, (.v (.int .i64 (.ofNat 0))), d12] T6 n8) fun d13 T7 n9 l8 => fN (lowN l7 l8) fun l9 =>
  k6 [] [] d13 T7 n9 l9
 ) (k6 [] [] (.v undef) T6 n8 l7)) fun _ _ d14 T8 n10 l10 =>
 opG.gjn (fun k7 => zgd d3 false (
  bnd (zun .not d14) fun d15 =>
  k7 [] [] d15 T8 n10 l10
 ) (k7 [] [] (.v undef) T8 n10 l10)) fun _ _ d16 T9 n11 l11 =>
 bnd (zpick d3 (.v (.bool true)) d16) fun d17 =>
 opG.gjn (fun k8 => zgd d17 false (
  bnd (zload (some 1) T9 (.ptr n1 e2 0 0)) fun d18 =>
  k8 (ptr? (.ptr n1 e2 0 0)) [] d18 T9 n11 l11
 ) (k8 [] [] (.v undef) T9 n11 l11)) fun _ _ d19 T10 n12 l12 =>
 opG.gjn (fun k9 => zgd d17 false (
  bndR (F151 [d19] T10 n12) fun d20 T11 n13 l13 => fN (lowN l12 l13) fun l14 =>
  k9 [] [] d20 T11 n13 l14
 ) (k9 [] [] (.v undef) T10 n12 l12)) fun _ _ d21 T12 n14 l15 =>
 opG.gjn (fun k10 => zgd d17 false (
  bnd (zun .not d21) fun d22 =>
  k10 [] [] d22 T12 n14 l15
 ) (k10 [] [] (.v undef) T12 n14 l15)) fun _ _ d23 T13 n15 l16 =>
 bnd (zpick d17 (.v (.bool true)) d23) fun d24 =>
 cnd d24 (
 finK T nx (.tup [(.v (.int .i64 (.ofNat 0))), (.v (.int .i64 (.ofNat 1)))]) T13 n15 l16
 ) (
 bnd (zfieldAddr 4 (.ptr nx e1 0 0)) fun d25 =>
 bnd (zload none T13 d25) fun d26 =>
 bnd (zbin .i .add (.v (.int .i64 (.ofNat 2))) a1) fun d27 =>
 bnd (zindexAddr (.sl 13) d26 d27) fun d28 =>
 bnd (zload (some 13) T13 d28) fun d29 =>
 fN (Nat.succ n15) fun n16 =>
 zstore 13 (Tr.set (some (XO.mk 51 13 1 (.n [(.v (.int .i64 (.ofNat 0))), (.v (.int .i64 (.ofNat 0))), (.v (.int .i64 (.ofNat 0))), (.v (.int .i64 (.ofNat 0))), (.v (.int .i64 (.ofNat 0))), (.v (.int .i64 (.ofNat 0))), (.v (.int .i64 (.ofNat 0))), (.v (.bool false)), (.v (.int .u64 (.ofNat 0))), (.v (.int .u64 (.ofNat 0))), (.v (.int .u64 (.ofNat 0))), (.v (.int .u64 (.ofNat 0))), (.v (.int .u64 (.ofNat 0)))] .e .e))) T13 n15) (.ptr n15 13 0 0) d29 fun r1 T14 => fN (lowN l16 r1) fun l17 =>
 jn (fun v1 T15 n17 l18 => unc v1 fun d30 w1 =>
 finK T nx (.tup [d30, (.v (.int .i64 (.ofNat 0)))]) T15 n17 l18) fun K1 =>
 bnd (zfieldAddr 0 (.ptr n1 e2 0 0)) fun d31 =>
 bnd (zload none T14 d31) fun d32 =>
 bnd (zlen true d32) fun d33 =>
 lpc fu (fun go1 v2 T16 n18 l19 => unc v2 fun d34 w2 => unc w2 fun d35 w3 => unc w3 fun d36 w4 => unc w4 fun d37 w5 => unc w5 fun d38 w6 => unc w6 fun d39 w7 => unc w7 fun d40 w8 =>
  bnd (zbin .i .lss d40 d39) fun d41 =>
  cnd d41 (
  bnd (zindexAddr (.sl 1) d38 d40) fun d42 =>
  bnd (zload none T16 d42) fun d43 =>
  jn (fun v3 T17 n19 l20 => unc v3 fun d44 w9 => unc w9 fun d45 w10 => unc w10 fun d46 w11 => unc w11 fun d47 w12 => unc w12 fun d48 w13 => unc w13 fun d49 w14 => unc w14 fun d50 w15 =>
   bnd (zun .not d46) fun d51 =>
   opG.gjn (fun k11 => zgd d51 false (
    bnd (zload (some 13) T17 d45) fun d52 =>
    k11 (ptr? d45) [] d52 T17 n19 l20
   ) (k11 [] [] (.v undef) T17 n19 l20)) fun _ _ d53 T18 n20 l21 =>
   opG.gjn (fun k12 => zgd d51 false (
    k12 [] [] d47 T18 n20 l21
   ) (k12 [] [] (.v undef) T18 n20 l21)) fun _ _ d54 T19 n21 l22 =>
   opG.gjn (fun k13 => zgd d51 false (
    bndR (F255 [d53, d54] T19 n21) fun d55 T20 n22 l23 => fN (lowN l22 l23) fun l24 =>
    k13 [] [] d55 T20 n22 l24
   ) (k13 [] [] (.v undef) T19 n21 l22)) fun _ _ d56 T21 n23 l25 =>
   opG.gjn (fun k14 => zgd d51 false (
    bnd (zbin .i .lss d56 (.v (.int .i64 (.ofNat 0)))) fun d57 =>
    k14 [] [] d57 T21 n23 l25
   ) (k14 [] [] (.v undef) T21 n23 l25)) fun _ _ d58 T22 n24 l26 =>
   bnd (zpick d51 (.v (.bool true)) d58) fun d59 =>
   cnd d59 (
 finK T nx (.tup [(.v (.int .i64 (.ofNat 0))), (.v (.int .i64 (.ofNat 3)))]) T22 n24 l26
   ) (
   bnd (zload (some 13) T22 d45) fun d60 =>
   bndR (F255 [d60, d47] T22 n24) fun d61 T23 n25 l27 => fN (lowN l26 l27) fun l28 =>
  bnd (zbin .i .add d50 (.v (.int .i64 (.ofNat 1)))) fun d62 =>
 go1 [d44, d45, d46, d61, d48, d49, d62] T23 n25 l28
   )) fun K2 =>
  bnd (zbin .i .gtr d40 (.v (.int .i64 (.ofNat 0)))) fun d63 =>
  cnd d63 (
   bnd (zload (some 5) T16 d34) fun d64 =>
   bndR (F254 [d64, d37] T16 n18) fun d65 T24 n26 l29 => fN (lowN l19 l29) fun l30 =>
   bnd (zextract d65 0) fun d66 =>
   bnd (zextract d65 1) fun d67 =>
   zstore 13 T24 d35 d66 fun r2 T25 => fN (lowN l30 r2) fun l31 =>
  K2 [d34, d35, d67, d43, d38, d39, d40] T25 n26 l31
  ) (
  K2 [d34, d35, d36, d43, d38, d39, d40] T16 n18 l19
  )
  ) (
 K1 [d37] T16 n18 l19
  )) [(.ptr nx e1 0 0), (.ptr n15 13 0 0), (.v (.bool true)), (.v (.int .i64 (.ofNat 0))), d32, d33, (.v (.int .i64 (.ofNat 0)))] T14 n16 l17
 )
theorem e213 (fu : Nat) (a0 a1 a2 : D) (T : ST) (nx : Nat) : fnK Tryz.prog [(100, F100), (253, F253), (151, F151), (255, F255), (254, F254)] dr0 fu Tryz.f213 (.s .o (.s (.s .o (.c (.s .o .o) .o)) (.s .o (.s .o (.j [10] (.s .o (.b (.l [3, 8, 9, 10, 37, 38, 39] (.s .o (.s (.c .o .o) (.s (.b (.s .o (.j [3, 8, 9, 12, 37, 38, 39] (.s .o (.c .o .o)) (.s (.s .o (.c (.s .o .o) .o)) .o)))) .o)))))) (.s .o .o)))))) [a0, a1, a2] T nx = s213 fu a0 a1 a2 T nx := by kernel_rfl
noncomputable def F213 : Sem := ar3 (s213 FU)
theorem k213 : FnOk Tryz.prog 213 F213 := ar3_ok (fnK_ok (by kernel_rfl) (CallsOk.cons h100 k100 (CallsOk.cons h253 k253 (CallsOk.cons h151 k151 (CallsOk.cons h255 k255 (CallsOk.cons h254 k254 CallsOk.nil))))) dr0_ok) (e213 FU)
/- reeve/find.Cap -/
theorem h156 : HasFn Tryz.prog 156 := ⟨by kernel_rfl⟩
noncomputable def s156 (a0 a1 a2 : D) : ST → Nat → Option Rt := fun T nx =>
 bB (solidB a0) <| fN (Nat.succ nx) fun n1 => fN (dcells a0).length fun e1 =>
 bB (solidB a2) <| fN (Nat.succ n1) fun n2 => fN (dcells a2).length fun e2 =>
 fN (Nat.succ n2) fun n3 =>
 bnd (zload (some 5) (Tr.set (some (XO.mk 111 4 1 (.n [(.v (.int .i64 (.ofNat 0))), (.v (.int .i64 (.ofNat 0))), (.v (.int .i64 (.ofNat 0))), (.v (.int .i64 (.ofNat 0)))] .e .e))) (Tr.set (some (xRow 79 (dcells a2))) (Tr.set (some (xRow 32 (dcells a0))) T nx) n1) n2) (.ptr nx e1 0 0)) fun d1 =>
 bnd (zload (some 1) (Tr.set (some (XO.mk 111 4 1 (.n [(.v (.int .i64 (.ofNat 0))), (.v (.int .i64 (.ofNat 0))), (.v (.int .i64 (.ofNat 0))), (.v (.int .i64 (.ofNat 0)))] .e .e))) (Tr.set (some (xRow 79 (dcells a2))) (Tr.set (some (xRow 32 (dcells a0))) T nx) n1) n2) (.ptr n1 e2 0 0)) fun d2 =>
 bndR (F213 [d1, a1, d2] (Tr.set (some (XO.mk 111 4 1 (.n [(.v (.int .i64 (.ofNat 0))), (.v (.int .i64 (.ofNat 0))), (.v (.int .i64 (.ofNat 0))), (.v (.int .i64 (.ofNat 0)))] .e .e))) (Tr.set (some (xRow 79 (dcells a2))) (Tr.set (some (xRow 32 (dcells a0))) T nx) n1) n2) n3) fun d3 T1 n4 l1 => fN (lowN nx l1) fun l2 =>
 bnd (zextract d3 0) fun d4 =>
 bnd (zextract d3 1) fun d5 =>
 bnd (zbin .i .neq d5 (.v (.int .i64 (.ofNat 0)))) fun d6 =>
 cnd d6 (
  bnd (zbuild [(.int .i64 (.ofNat 0)), (.int .i64 (.ofNat 0)), (.int .i64 (.ofNat 0)), (.int .i64 (.ofNat 0))] [(0, 1), (1, 1), (2, 1), (3, 1)] [] []) fun d7 =>
  zstore 4 T1 (.ptr n2 4 0 0) d7 fun r1 T2 => fN (lowN l2 r1) fun l3 =>
 bnd (zres (some 4) T2 (.ptr n2 4 0 0)) fun d8 =>
 finK T nx (.tup [(.v (.int .i64 (.ofNat 0))), d8, d5]) T2 n4 l3
 ) (
  bnd (zfieldAddr 3 (.ptr nx e1 0 0)) fun d9 =>
  bnd (zload none T1 d9) fun d10 =>
  bnd (zindexAddr (.sl 5) d10 d4) fun d11 =>
  bnd (zfieldAddr 0 d11) fun d12 =>
  bnd (zload (some 4) T1 d12) fun d13 =>
  bndR (F190 [d13] T1 n4) fun d14 T3 n5 l4 => fN (lowN l2 l4) fun l5 =>
  cnd d14 (
   bnd (zbuild [(.int .i64 (.ofNat 0)), (.int .i64 (.ofNat 0)), (.int .i64 (.ofNat 0)), (.int .i64 (.ofNat 0))] [(0, 1), (1, 1), (2, 1), (3, 1)] [] []) fun d15 =>
   zstore 4 T3 (.ptr n2 4 0 0) d15 fun r2 T4 => fN (lowN l5 r2) fun l6 =>
 bnd (zres (some 4) T4 (.ptr n2 4 0 0)) fun d16 =>
 finK T nx (.tup [(.v (.int .i64 (.ofNat 0))), d16, (.v (.int .i64 (.ofNat 4)))]) T4 n5 l6
  ) (
 bnd (zfieldAddr 3 (.ptr nx e1 0 0)) fun d17 =>
 bnd (zload none T3 d17) fun d18 =>
 bnd (zindexAddr (.sl 5) d18 d4) fun d19 =>
 bnd (zfieldAddr 0 d19) fun d20 =>
 bnd (zload (some 4) T3 d20) fun d21 =>
 zstore 4 T3 (.ptr n2 4 0 0) d21 fun r3 T5 => fN (lowN l5 r3) fun l7 =>
 bnd (zres (some 4) T5 (.ptr n2 4 0 0)) fun d22 =>
 finK T nx (.tup [d4, d22, (.v (.int .i64 (.ofNat 0)))]) T5 n5 l7
  )
 )
theorem e156 (a0 a1 a2 : D) (T : ST) (nx : Nat) : fnK Tryz.prog [(213, F213), (190, F190)] (drD Tryz.prog [(213, F213), (190, F190)]) FU Tryz.f156 (.s .o (.s .o (.s (.b (.s .o (.c (.s .o .o) (.s .o (.c (.s .o .o) .o))))) (.s .o .o)))) [a0, a1, a2] T nx = s156 a0 a1 a2 T nx := by kernel_rfl
noncomputable def F156 : Sem := ar3 s156
theorem k156 : FnOk Tryz.prog 156 F156 := ar3_ok (fnK_ok (by kernel_rfl) (CallsOk.cons h213 k213 (CallsOk.cons h190 k190 CallsOk.nil)) (drD_ok hmix (CallsOk.cons h213 k213 (CallsOk.cons h190 k190 CallsOk.nil)))) e156
/- slices.Clone[[]reeve/state.Slot,reeve/state.Slot] -/
theorem h220 : HasFn Tryz.prog 220 := ⟨by kernel_rfl⟩
noncomputable def s220 (a0 : D) : ST → Nat → Option Rt := fun T nx =>
 bnd (zbin .sl .eql a0 .e0) fun d1 =>
 cnd d1 (
 finK T nx .e0 T nx nx
 ) (
 bB (solidL 5 []) <| fN (Nat.succ nx) fun n1 =>
 zappend 113 5 40 (Tr.set (some (xRows 113 5 [])) T nx) n1 nx (.vw nx 5 0 0) a0 fun f1 s1 d2 T1 l1 => fN (Nat.succ n1) fun n2 => fN l1 fun l2 =>
 finK T nx d2 T1 n2 l2
 )
theorem e220 (a0 : D) (T : ST) (nx : Nat) : fnK Tryz.prog [] dr0 FU Tryz.f220 (.s .o (.s (.s .o (.c (.s .o .o) .o)) (.s .o .o))) [a0] T nx = s220 a0 T nx := by kernel_rfl
noncomputable def F220 : Sem := ar1 s220
theorem k220 : FnOk Tryz.prog 220 F220 := ar1_ok (fnK_ok (by kernel_rfl) CallsOk.nil dr0_ok) e220
/- slices.Clone[[]reeve/thing.Thing,reeve/thing.Thing] -/
theorem h221 : HasFn Tryz.prog 221 := ⟨by kernel_rfl⟩
noncomputable def s221 (a0 : D) : ST → Nat → Option Rt := fun T nx =>
 bnd (zbin .sl .eql a0 .e0) fun d1 =>
 cnd d1 (
 finK T nx .e0 T nx nx
 ) (
 bB (solidL 13 []) <| fN (Nat.succ nx) fun n1 =>
 zappend 51 13 104 (Tr.set (some (xRows 51 13 [])) T nx) n1 nx (.vw nx 13 0 0) a0 fun f1 s1 d2 T1 l1 => fN (Nat.succ n1) fun n2 => fN l1 fun l2 =>
 finK T nx d2 T1 n2 l2
 )
theorem e221 (a0 : D) (T : ST) (nx : Nat) : fnK Tryz.prog [] dr0 FU Tryz.f221 (.s .o (.s (.s .o (.c (.s .o .o) .o)) (.s .o .o))) [a0] T nx = s221 a0 T nx := by kernel_rfl
noncomputable def F221 : Sem := ar1 s221
theorem k221 : FnOk Tryz.prog 221 F221 := ar1_ok (fnK_ok (by kernel_rfl) CallsOk.nil dr0_ok) e221
/- reeve/state.Clone -/
theorem h162 : HasFn Tryz.prog 162 := ⟨by kernel_rfl⟩
noncomputable def s162 (a0 : D) : ST → Nat → Option Rt := fun T nx =>
 bB (solidB a0) <| fN (Nat.succ nx) fun n1 => fN (dcells a0).length fun e1 =>
 fN (Nat.succ n1) fun n2 =>
 bnd (zfieldAddr 0 (.ptr nx e1 0 0)) fun d1 =>
 bnd (zload (some 3) (Tr.set (some (XO.mk 32 5 1 (.n [(.v (.int .i64 (.ofNat 0))), (.v (.int .i64 (.ofNat 0))), (.v (.int .i64 (.ofNat 0))), .e0, .e0] .e .e))) (Tr.set (some (xRow 32 (dcells a0))) T nx) n1) d1) fun d2 =>
 bnd (zfieldAddr 3 (.ptr nx e1 0 0)) fun d3 =>
 bnd (zload none (Tr.set (some (XO.mk 32 5 1 (.n [(.v (.int .i64 (.ofNat 0))), (.v (.int .i64 (.ofNat 0))), (.v (.int .i64 (.ofNat 0))), .e0, .e0] .e .e))) (Tr.set (some (xRow 32 (dcells a0))) T nx) n1) d3) fun d4 =>
 bndR (F220 [d4] (Tr.set (some (XO.mk 32 5 1 (.n [(.v (.int .i64 (.ofNat 0))), (.v (.int .i64 (.ofNat 0))), (.v (.int .i64 (.ofNat 0))), .e0, .e0] .e .e))) (Tr.set (some (xRow 32 (dcells a0))) T nx) n1) n2) fun d5 T1 n3 l1 => fN (lowN n2 l1) fun l2 => bB (Nat.beq l2 n2) <|
 bnd (zfieldAddr 4 (.ptr nx e1 0 0)) fun d6 =>
 bnd (zload none T1 d6) fun d7 =>
 bndR (F221 [d7] T1 n3) fun d8 T2 n4 l3 => fN (lowN n3 l3) fun l4 => bB (Nat.beq l4 n3) <|
 bnd (zbuild [(.int .i64 (.ofNat 0)), (.int .i64 (.ofNat 0)), (.int .i64 (.ofNat 0)), (.slice none 0 0), (.slice none 0 0)] [(0, 3), (3, 1), (4, 1)] [0, 1, 2] [d2, d5, d8]) fun d9 =>
 zstore 5 T2 (.ptr n1 5 0 0) d9 fun r1 T3 => fN (lowN nx r1) fun l5 =>
 bB (apt (.op (ptr? d1) []) (.call n2 n3)) <|
 bB (apt (.op (ptr? d1) []) (.call n3 n4)) <|
 bB (apt (.call n2 n3) (.op (ptr? d6) [])) <|
 bnd (zres (some 5) T3 (.ptr n1 5 0 0)) fun d10 =>
 finK T nx d10 T3 n4 l5
theorem e162 (a0 : D) (T : ST) (nx : Nat) : fnK Tryz.prog [(220, F220), (221, F221)] (drD Tryz.prog [(220, F220), (221, F221)]) FU Tryz.f162 (.s .o (.s .o .o)) [a0] T nx = s162 a0 T nx := by kernel_rfl
noncomputable def F162 : Sem := ar1 s162
theorem k162 : FnOk Tryz.prog 162 F162 := ar1_ok (fnK_ok (by kernel_rfl) (CallsOk.cons h220 k220 (CallsOk.cons h221 k221 CallsOk.nil)) (drD_ok hmix (CallsOk.cons h220 k220 (CallsOk.cons h221 k221 CallsOk.nil)))) e162
/- reeve/find.Empty -/
theorem h203 : HasFn Tryz.prog 203 := ⟨by kernel_rfl⟩
noncomputable def s203 (a0 a1 a2 : D) : ST → Nat → Option Rt := fun T nx =>
 bB (solidB a0) <| fN (Nat.succ nx) fun n1 => fN (dcells a0).length fun e1 =>
 bB (solidB a2) <| fN (Nat.succ n1) fun n2 => fN (dcells a2).length fun e2 =>
 bnd (zload (some 5) (Tr.set (some (xRow 79 (dcells a2))) (Tr.set (some (xRow 32 (dcells a0))) T nx) n1) (.ptr nx e1 0 0)) fun d1 =>
 bnd (zload (some 1) (Tr.set (some (xRow 79 (dcells a2))) (Tr.set (some (xRow 32 (dcells a0))) T nx) n1) (.ptr n1 e2 0 0)) fun d2 =>
 bndR (F213 [d1, a1, d2] (Tr.set (some (xRow 79 (dcells a2))) (Tr.set (some (xRow 32 (dcells a0))) T nx) n1) n2) fun d3 T1 n3 l1 => fN (lowN nx l1) fun l2 =>
 bnd (zextract d3 0) fun d4 =>
 bnd (zextract d3 1) fun d5 =>
 bnd (zbin .i .neq d5 (.v (.int .i64 (.ofNat 0)))) fun d6 =>
 cnd d6 (
 finK T nx (.tup [(.v (.int .i64 (.ofNat 0))), d5]) T1 n3 l2
 ) (
  bnd (zfieldAddr 3 (.ptr nx e1 0 0)) fun d7 =>
  bnd (zload none T1 d7) fun d8 =>
  bnd (zindexAddr (.sl 5) d8 d4) fun d9 =>
  bnd (zfieldAddr 0 d9) fun d10 =>
  bnd (zload (some 4) T1 d10) fun d11 =>
  bndR (F190 [d11] T1 n3) fun d12 T2 n4 l3 => fN (lowN l2 l3) fun l4 =>
  bnd (zun .not d12) fun d13 =>
  cnd d13 (
 finK T nx (.tup [(.v (.int .i64 (.ofNat 0))), (.v (.int .i64 (.ofNat 5)))]) T2 n4 l4
  ) (
 finK T nx (.tup [d4, (.v (.int .i64 (.ofNat 0)))]) T2 n4 l4
  )
 )
theorem e203 (a0 a1 a2 : D) (T : ST) (nx : Nat) : fnK Tryz.prog [(213, F213), (190, F190)] dr0 FU Tryz.f203 (.s .o (.s .o (.s (.b (.s .o (.c (.s .o .o) (.s .o (.c (.s .o .o) .o))))) (.s .o .o)))) [a0, a1, a2] T nx = s203 a0 a1 a2 T nx := by kernel_rfl
noncomputable def F203 : Sem := ar3 s203
theorem k203 : FnOk Tryz.prog 203 F203 := ar3_ok (fnK_ok (by kernel_rfl) (CallsOk.cons h213 k213 (CallsOk.cons h190 k190 CallsOk.nil)) dr0_ok) e203
/- reeve/thing.Cost -/
theorem h204 : HasFn Tryz.prog 204 := ⟨by kernel_rfl⟩
noncomputable def s204 (a0 a1 : D) : ST → Nat → Option Rt := fun T nx =>
 jn (fun v1 T1 n1 l1 =>
 finK T nx (.tup [(.v (.int .i64 (.ofNat 0))), (.v (.bool false))]) T1 n1 l1) fun K1 =>
 bnd (zbin .i .eql a0 (.v (.int .i64 (.ofNat 1)))) fun d1 =>
 cnd d1 (
  bndR (F171 [a1, (.v (.int .i64 (.ofNat 1))), (.v (.int .i64 (.ofNat 4096)))] T nx) fun d2 T2 n2 l2 => fN (lowN nx l2) fun l3 =>
  cnd d2 (
 finK T nx (.tup [a1, (.v (.bool true))]) T2 n2 l3
  ) (
 K1 [] T2 n2 l3
  )
 ) (
  bnd (zbin .i .eql a0 (.v (.int .i64 (.ofNat 2)))) fun d3 =>
  cnd d3 (
   bndR (F171 [a1, (.v (.int .i64 (.ofNat 1))), (.v (.int .i64 (.ofNat 4)))] T nx) fun d4 T3 n3 l4 => fN (lowN nx l4) fun l5 =>
   cnd d4 (
    bnd (zbin .sh .shl (.v (.int .i64 (.ofNat 1))) a1) fun d5 =>
 finK T nx (.tup [d5, (.v (.bool true))]) T3 n3 l5
   ) (
 K1 [] T3 n3 l5
   )
  ) (
   jn (fun v2 T4 n4 l6 => unc v2 fun d6 w1 => unc w1 fun d7 w2 =>
    cnd d7 (
 finK T nx (.tup [(.v (.int .i64 (.ofNat 1))), (.v (.bool true))]) T4 n4 l6
    ) (
     bnd (zbin .i .eql d6 (.v (.int .i64 (.ofNat 5)))) fun d8 =>
     cnd d8 (
 finK T nx (.tup [(.v (.int .i64 (.ofNat 2))), (.v (.bool true))]) T4 n4 l6
     ) (
 K1 [] T4 n4 l6
     )
    )) fun K2 =>
   bnd (zbin .i .eql a0 (.v (.int .i64 (.ofNat 3)))) fun d9 =>
   cnd d9 (
   K2 [a0, d9] T nx nx
   ) (
    bnd (zbin .i .eql a0 (.v (.int .i64 (.ofNat 4)))) fun d10 =>
   K2 [a0, d10] T nx nx
   )
  )
 )
theorem e204 (a0 a1 : D) (T : ST) (nx : Nat) : fnK Tryz.prog [(171, F171)] dr0 FU Tryz.f204 (.s .o (.j [] (.s .o (.b (.s .o (.c (.s .o (.c (.s .o .o) .o)) (.s .o (.c (.s .o (.c (.s .o .o) .o)) (.j [6, 18] (.s .o (.c .o .o)) (.c (.s .o .o) (.s .o (.c (.s .o .o) .o)))))))))) (.s .o .o))) [a0, a1] T nx = s204 a0 a1 T nx := by kernel_rfl
noncomputable def F204 : Sem := ar2 s204
theorem k204 : FnOk Tryz.prog 204 F204 := ar2_ok (fnK_ok (by kernel_rfl) (CallsOk.cons h171 k171 CallsOk.nil) dr0_ok) e204
/- reeve/forest.may -/
theorem h214 : HasFn Tryz.prog 214 := ⟨by kernel_rfl⟩
noncomputable def s214 (a0 a1 : D) : ST → Nat → Option Rt := fun T nx =>
 bB (solidB a0) <| fN (Nat.succ nx) fun n1 => fN (dcells a0).length fun e1 =>
 bnd (zload (some 1) (Tr.set (some (xRow 201 (dcells a0))) T nx) (.ptr nx e1 0 0)) fun d1 =>
 bndR (F146 [d1] (Tr.set (some (xRow 201 (dcells a0))) T nx) n1) fun d2 T1 n2 l1 => fN (lowN nx l1) fun l2 =>
 opG.gjn (fun k1 => zgd d2 true (
  bnd (zload (some 1) T1 (.ptr nx e1 0 0)) fun d3 =>
  k1 (ptr? (.ptr nx e1 0 0)) [] d3 T1 n2 l2
 ) (k1 [] [] (.v undef) T1 n2 l2)) fun _ _ d4 T2 n3 l3 =>
 opG.gjn (fun k2 => zgd d2 true (
  k2 [] [] a1 T2 n3 l3
 ) (k2 [] [] (.v undef) T2 n3 l3)) fun _ _ d5 T3 n4 l4 =>
 opG.gjn (fun k3 => zgd d2 true (
  bndR (F194 [d4, d5] T3 n4) fun d6 T4 n5 l5 => fN (lowN l4 l5) fun l6 =>
  k3 [] [] d6 T4 n5 l6
 ) (k3 [] [] (.v undef) T3 n4 l4)) fun _ _ d7 T5 n6 l7 =>
 bnd (zpick d2 d7 (.v (.bool false))) fun d8 =>
 finK T nx d8 T5 n6 l7
theorem e214 (a0 a1 : D) (T : ST) (nx : Nat) : fnK Tryz.prog [(146, F146), (194, F194)] dr0 FU Tryz.f214 (.s .o (.s .o .o)) [a0, a1] T nx = s214 a0 a1 T nx := by kernel_rfl
noncomputable def F214 : Sem := ar2 s214
theorem k214 : FnOk Tryz.prog 214 F214 := ar2_ok (fnK_ok (by kernel_rfl) (CallsOk.cons h146 k146 (CallsOk.cons h194 k194 CallsOk.nil)) dr0_ok) e214
end Go.Abs
