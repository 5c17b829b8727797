/- Functions of the program as what they run as, printed by a program of this session. -/
import Derived.Test.YtmmfmiamkgmikaaGreatK8
set_option linter.unusedVariables false
set_option maxRecDepth 100000
open Go Go.Proofs
namespace Go.Abs
/- math/bits.Len64 -/
theorem h182 : HasFn Tryz.prog 182 := ⟨by kernel_rfl⟩
noncomputable def s182 (a0 : D) : ST → Nat → Option Rt := fun T nx =>
 jn (fun v1 T1 n1 l1 => unc v1 fun d1 w1 => unc w1 fun d2 w2 =>
  jn (fun v2 T2 n2 l2 => unc v2 fun d3 w3 => unc w3 fun d4 w4 =>
   jn (fun v3 T3 n3 l3 => unc v3 fun d5 w5 => unc w5 fun d6 w6 =>
    bnd (zconv (.ii .u8) d5) fun d7 =>
    bnd (zindex .str (.v (.string (ByteArray.mk #[0, 1, 2, 2, 3, 3, 3, 3, 4, 4, 4, 4, 4, 4, 4, 4, 5, 5, 5, 5, 5, 5, 5, 5, 5, 5, 5, 5, 5, 5, 5, 5, 6, 6, 6, 6, 6, 6, 6, 6, 6, 6, 6, 6, 6, 6, 6, 6, 6, 6, 6, 6, 6, 6, 6, 6, 6, 6, 6, 6, 6, 6, 6, 6, 7, 7, 7, 7, 7, 7, 7, 7, 7, 7, 7, 7, 7, 7, 7, 7, 7, 7, 7, 7, 7, 7, 7, 7, 7, 7, 7, 7, 7, 7, 7, 7, 7, 7, 7, 7, 7, 7, 7, 7, 7, 7, 7, 7, 7, 7, 7, 7, 7, 7, 7, 7, 7, 7, 7, 7, 7, 7, 7, 7, 7, 7, 7, 7, 8, 8, 8, 8, 8, 8, 8, 8, 8, 8, 8, 8, 8, 8, 8, 8, 8, 8, 8, 8, 8, 8, 8, 8, 8, 8, 8, 8, 8, 8, 8, 8, 8, 8, 8, 8, 8, 8, 8, 8, 8, 8, 8, 8, 8, 8, 8, 8, 8, 8, 8, 8, 8, 8, 8, 8, 8, 8, 8, 8, 8, 8, 8, 8, 8, 8, 8, 8, 8, 8, 8, 8, 8, 8, 8, 8, 8, 8, 8, 8, 8, 8, 8, 8, 8, 8, 8, 8, 8, 8, 8, 8, 8, 8, 8, 8, 8, 8, 8, 8, 8, 8, 8, 8, 8, 8, 8, 8, 8, 8, 8, 8, 8, 8, 8, 8, 8, 8, 8, 8, 8, 8, 8, 8, 8, 8, 8, 8]))) d7) fun d8 =>
    bnd (zconv (.ii .i64) d8) fun d9 =>
    bnd (zbin .i .add d6 d9) fun d10 =>
 finK T nx d10 T3 n3 l3) fun K1 =>
   bnd (zbin .i .geq d3 (.v (.int .u64 (.ofNat 256)))) fun d11 =>
   cnd d11 (
    bnd (zbin .sh .shr d3 (.v (.int .u64 (.ofNat 8)))) fun d12 =>
    bnd (zbin .i .add d4 (.v (.int .i64 (.ofNat 8)))) fun d13 =>
   K1 [d12, d13] T2 n2 l2
   ) (
   K1 [d3, d4] T2 n2 l2
   )) fun K2 =>
  bnd (zbin .i .geq d1 (.v (.int .u64 (.ofNat 65536)))) fun d14 =>
  cnd d14 (
   bnd (zbin .sh .shr d1 (.v (.int .u64 (.ofNat 16)))) fun d15 =>
   bnd (zbin .i .add d2 (.v (.int .i64 (.ofNat 16)))) fun d16 =>
  K2 [d15, d16] T1 n1 l1
  ) (
  K2 [d1, d2] T1 n1 l1
  )) fun K3 =>
 bnd (zbin .i .geq a0 (.v (.int .u64 (.ofNat 4294967296)))) fun d17 =>
 cnd d17 (
  bnd (zbin .sh .shr a0 (.v (.int .u64 (.ofNat 32)))) fun d18 =>
 K3 [d18, (.v (.int .i64 (.ofNat 32)))] T nx nx
 ) (
 K3 [a0, (.v (.int .i64 (.ofNat 0)))] T nx nx
 )
theorem e182 (a0 : D) (T : ST) (nx : Nat) : fnK Tryz.prog [] dr0 FU Tryz.f182 (.s .o (.j [0, 2] (.s .o (.c (.s .o .o) .o)) (.j [0, 2] (.s .o (.c (.s .o .o) .o)) (.j [0, 2] (.s .o (.c (.s .o .o) .o)) (.s .o .o))))) [a0] T nx = s182 a0 T nx := by kernel_rfl
noncomputable def F182 : Sem := ar1 s182
theorem k182 : FnOk Tryz.prog 182 F182 := ar1_ok (fnK_ok (by kernel_rfl) CallsOk.nil dr0_ok) e182
/- math/bits.Len -/
theorem h115 : HasFn Tryz.prog 115 := ⟨by kernel_rfl⟩
noncomputable def s115 (a0 : D) : ST → Nat → Option Rt := fun T nx =>
 cnd (.v (.bool false)) (
  bnd (zconv (.ii .u32) a0) fun d1 =>
  bndR (F181 [d1] T nx) fun d2 T1 n1 l1 => fN (lowN nx l1) fun l2 =>
 finK T nx d2 T1 n1 l2
 ) (
 bndR (F182 [a0] T nx) fun d3 T2 n2 l3 => fN (lowN nx l3) fun l4 =>
 finK T nx d3 T2 n2 l4
 )
theorem e115 (a0 : D) (T : ST) (nx : Nat) : fnK Tryz.prog [(181, F181), (182, F182)] dr0 FU Tryz.f115 (.s .o (.s (.c (.s .o .o) .o) (.s .o .o))) [a0] T nx = s115 a0 T nx := by kernel_rfl
noncomputable def F115 : Sem := ar1 s115
theorem k115 : FnOk Tryz.prog 115 F115 := ar1_ok (fnK_ok (by kernel_rfl) (CallsOk.cons h181 k181 (CallsOk.cons h182 k182 CallsOk.nil)) dr0_ok) e115
/- slices.nextPowerOfTwo -/
theorem h230 : HasFn Tryz.prog 230 := ⟨by kernel_rfl⟩
noncomputable def s230 (a0 : D) : ST → Nat → Option Rt := fun T nx =>
 bnd (zconv (.ii .u64) a0) fun d1 =>
 bndR (F115 [d1] T nx) fun d2 T1 n1 l1 => fN (lowN nx l1) fun l2 =>
 bnd (zbin .sh .shl (.v (.int .u64 (.ofNat 1))) d2) fun d3 =>
 finK T nx d3 T1 n1 l2
theorem e230 (a0 : D) (T : ST) (nx : Nat) : fnK Tryz.prog [(115, F115)] dr0 FU Tryz.f230 (.s .o (.s .o .o)) [a0] T nx = s230 a0 T nx := by kernel_rfl
noncomputable def F230 : Sem := ar1 s230
theorem k230 : FnOk Tryz.prog 230 F230 := ar1_ok (fnK_ok (by kernel_rfl) (CallsOk.cons h115 k115 CallsOk.nil) dr0_ok) e230
/- (*slices.xorshift).Next -/
theorem h231 : HasFn Tryz.prog 231 := ⟨by kernel_rfl⟩
noncomputable def s231 (a0 : D) : ST → Nat → Option Rt := fun T nx =>
 bnd (znil a0) fun d1 =>
 bnd (zload none T d1) fun d2 =>
 bnd (znil a0) fun d3 =>
 bnd (zload none T d3) fun d4 =>
 bnd (zbin .sh .shl d4 (.v (.int .u64 (.ofNat 13)))) fun d5 =>
 bnd (zbin .i .xor d2 d5) fun d6 =>
 bnd (znil a0) fun d7 =>
 zstore 1 T d7 d6 fun r1 T1 => fN (lowN nx r1) fun l1 =>
 bnd (znil a0) fun d8 =>
 bnd (zload none T1 d8) fun d9 =>
 bnd (znil a0) fun d10 =>
 bnd (zload none T1 d10) fun d11 =>
 bnd (zbin .sh .shr d11 (.v (.int .u64 (.ofNat 7)))) fun d12 =>
 bnd (zbin .i .xor d9 d12) fun d13 =>
 bnd (znil a0) fun d14 =>
 zstore 1 T1 d14 d13 fun r2 T2 => fN (lowN l1 r2) fun l2 =>
 bnd (znil a0) fun d15 =>
 bnd (zload none T2 d15) fun d16 =>
 bnd (znil a0) fun d17 =>
 bnd (zload none T2 d17) fun d18 =>
 bnd (zbin .sh .shl d18 (.v (.int .u64 (.ofNat 17)))) fun d19 =>
 bnd (zbin .i .xor d16 d19) fun d20 =>
 bnd (znil a0) fun d21 =>
 zstore 1 T2 d21 d20 fun r3 T3 => fN (lowN l2 r3) fun l3 =>
 bnd (znil a0) fun d22 =>
 bnd (zload none T3 d22) fun d23 =>
 finK T nx d23 T3 nx l3
theorem e231 (a0 : D) (T : ST) (nx : Nat) : fnK Tryz.prog [] (drD Tryz.prog []) FU Tryz.f231 (.s .o (.s .o (.s .o (.s .o (.s .o .o))))) [a0] T nx = s231 a0 T nx := by kernel_rfl
noncomputable def F231 : Sem := ar1 s231
theorem k231 : FnOk Tryz.prog 231 F231 := ar1_ok (fnK_ok (by kernel_rfl) CallsOk.nil (drD_ok hmix CallsOk.nil)) e231
/- slices.breakPatternsOrdered[int] -/
theorem h174 : HasFn Tryz.prog 174 := ⟨by kernel_rfl⟩
noncomputable def s174 (fu : Nat) (a0 a1 a2 : D) : ST → Nat → Option Rt := fun T nx =>
 bnd (zbin .i .sub a2 a1) fun d1 =>
 bnd (zbin .i .geq d1 (.v (.int .i64 (.ofNat 8)))) fun d2 =>
 cnd d2 (
  bnd (zconv (.ii .u64) d1) fun d3 =>
  fN (Nat.succ nx) fun n1 =>
  zstore 1 (Tr.set (some (XO.mk 271 1 1 (.n [(.v (.int .u64 (.ofNat 0)))] .e .e))) T nx) (.ptr nx 1 0 0) d3 fun r1 T1 => fN (lowN nx r1) fun l1 =>
  bndR (F230 [d1] T1 n1) fun d4 T2 n2 l2 => fN (lowN l1 l2) fun l3 =>
  bnd (zbin .i .quo d1 (.v (.int .i64 (.ofNat 4)))) fun d5 =>
  bnd (zbin .i .mul d5 (.v (.int .i64 (.ofNat 2)))) fun d6 =>
  bnd (zbin .i .add a1 d6) fun d7 =>
  bnd (zbin .i .sub d7 (.v (.int .i64 (.ofNat 1)))) fun d8 =>
  lpc fu (fun go1 v1 T3 n3 l4 => unc v1 fun d9 w1 => unc w1 fun d10 w2 => unc w2 fun d11 w3 => unc w3 fun d12 w4 => unc w4 fun d13 w5 => unc w5 fun d14 w6 =>
   bnd (zbin .i .quo d11 (.v (.int .i64 (.ofNat 4)))) fun d15 =>
   bnd (zbin .i .mul d15 (.v (.int .i64 (.ofNat 2)))) fun d16 =>
   bnd (zbin .i .add d10 d16) fun d17 =>
   bnd (zbin .i .add d17 (.v (.int .i64 (.ofNat 1)))) fun d18 =>
   bnd (zbin .i .leq d14 d18) fun d19 =>
   cnd d19 (
   bndR (F231 [d12] T3 n3) fun d20 T4 n4 l5 => fN (lowN l4 l5) fun l6 =>
   bnd (zbin .i .sub d13 (.v (.int .u64 (.ofNat 1)))) fun d21 =>
   bnd (zbin .i .and d20 d21) fun d22 =>
   bnd (zconv (.ii .i64) d22) fun d23 =>
   jn (fun v2 T5 n5 l7 => unc v2 fun d24 w7 => unc w7 fun d25 w8 => unc w8 fun d26 w9 => unc w9 fun d27 w10 => unc w10 fun d28 w11 => unc w11 fun d29 w12 => unc w12 fun d30 w13 =>
    bnd (zbin .i .add d25 d30) fun d31 =>
    bnd (zbin .i .add d25 d30) fun d32 =>
    bnd (zindexAddr (.sl 1) d24 d32) fun d33 =>
    bnd (zload none T5 d33) fun d34 =>
    bnd (zindexAddr (.sl 1) d24 d29) fun d35 =>
    bnd (zload none T5 d35) fun d36 =>
    bnd (zindexAddr (.sl 1) d24 d29) fun d37 =>
    zstore 1 T5 d37 d34 fun r2 T6 => fN (lowN l7 r2) fun l8 =>
    bnd (zindexAddr (.sl 1) d24 d31) fun d38 =>
    zstore 1 T6 d38 d36 fun r3 T7 => fN (lowN l8 r3) fun l9 =>
   bnd (zbin .i .add d29 (.v (.int .i64 (.ofNat 1)))) fun d39 =>
  go1 [d24, d25, d26, d27, d28, d39] T7 n5 l9) fun K1 =>
   bnd (zbin .i .geq d23 d11) fun d40 =>
   cnd d40 (
    bnd (zbin .i .sub d23 d11) fun d41 =>
   K1 [d9, d10, d11, d12, d13, d14, d41] T4 n4 l6
   ) (
   K1 [d9, d10, d11, d12, d13, d14, d23] T4 n4 l6
   )
   ) (
 finK T nx (.tup []) T3 n3 l4
   )) [a0, a1, d1, (.ptr nx 1 0 0), d4, d8] T2 n2 l3
 ) (
 finK T nx (.tup []) T nx nx
 )
theorem e174 (fu : Nat) (a0 a1 a2 : D) (T : ST) (nx : Nat) : fnK Tryz.prog [(230, F230), (231, F231)] (drD Tryz.prog [(230, F230), (231, F231)]) fu Tryz.f174 (.s .o (.s .o (.c (.s .o (.s .o (.s .o (.b (.l [0, 1, 6, 7, 8, 9] (.s (.s .o (.c .o .o)) (.s (.b (.s .o (.j [0, 1, 6, 7, 8, 9, 10] (.s .o (.c .o .o)) .o))) .o))))))) .o))) [a0, a1, a2] T nx = s174 fu a0 a1 a2 T nx := by kernel_rfl
noncomputable def F174 : Sem := ar3 (s174 FU)
theorem k174 : FnOk Tryz.prog 174 F174 := ar3_ok (fnK_ok (by kernel_rfl) (CallsOk.cons h230 k230 (CallsOk.cons h231 k231 CallsOk.nil)) (drD_ok hmix (CallsOk.cons h230 k230 (CallsOk.cons h231 k231 CallsOk.nil)))) (e174 FU)
/- slices.order2Ordered[int] -/
theorem h260 : HasFn Tryz.prog 260 := ⟨by kernel_rfl⟩
noncomputable def s260 (a0 a1 a2 a3 : D) : ST → Nat → Option Rt := fun T nx =>
 bnd (zindexAddr (.sl 1) a0 a2) fun d1 =>
 bnd (zload none T d1) fun d2 =>
 bnd (zindexAddr (.sl 1) a0 a1) fun d3 =>
 bnd (zload none T d3) fun d4 =>
 bndR (F178 [d2, d4] T nx) fun d5 T1 n1 l1 => fN (lowN nx l1) fun l2 => bB (Nat.beq l2 nx) <|
 cnd d5 (
  bnd (znil a3) fun d6 =>
  bnd (zload none T1 d6) fun d7 =>
  bnd (zbin .i .add d7 (.v (.int .i64 (.ofNat 1)))) fun d8 =>
  bnd (znil a3) fun d9 =>
  zstore 1 T1 d9 d8 fun r1 T2 => fN (lowN nx r1) fun l3 =>
 finK T nx (.tup [a2, a1]) T2 n1 l3
 ) (
 finK T nx (.tup [a1, a2]) T1 n1 nx
 )
theorem e260 (a0 a1 a2 a3 : D) (T : ST) (nx : Nat) : fnK Tryz.prog [(178, F178)] (drD Tryz.prog [(178, F178)]) FU Tryz.f260 (.s .o (.s (.s .o (.c (.s .o (.s .o .o)) .o)) (.s .o .o))) [a0, a1, a2, a3] T nx = s260 a0 a1 a2 a3 T nx := by kernel_rfl
noncomputable def F260 : Sem := ar4 s260
theorem k260 : FnOk Tryz.prog 260 F260 := ar4_ok (fnK_ok (by kernel_rfl) (CallsOk.cons h178 k178 CallsOk.nil) (drD_ok hmix (CallsOk.cons h178 k178 CallsOk.nil))) e260
/- slices.medianOrdered[int] -/
theorem h233 : HasFn Tryz.prog 233 := ⟨by kernel_rfl⟩
noncomputable def s233 (a0 a1 a2 a3 a4 : D) : ST → Nat → Option Rt := fun T nx =>
 bndR (F260 [a0, a1, a2, a4] T nx) fun d1 T1 n1 l1 => fN (lowN nx l1) fun l2 =>
 bnd (zextract d1 0) fun d2 =>
 bnd (zextract d1 1) fun d3 =>
 bndR (F260 [a0, d3, a3, a4] T1 n1) fun d4 T2 n2 l3 => fN (lowN l2 l3) fun l4 =>
 bnd (zextract d4 0) fun d5 =>
 bnd (zextract d4 1) fun d6 =>
 bndR (F260 [a0, d2, d5, a4] T2 n2) fun d7 T3 n3 l5 => fN (lowN l4 l5) fun l6 =>
 bnd (zextract d7 0) fun d8 =>
 bnd (zextract d7 1) fun d9 =>
 finK T nx d9 T3 n3 l6
theorem e233 (a0 a1 a2 a3 a4 : D) (T : ST) (nx : Nat) : fnK Tryz.prog [(260, F260)] dr0 FU Tryz.f233 (.s .o (.s .o (.s .o (.s .o (.s .o .o))))) [a0, a1, a2, a3, a4] T nx = s233 a0 a1 a2 a3 a4 T nx := by kernel_rfl
noncomputable def F233 : Sem := ar5 s233
theorem k233 : FnOk Tryz.prog 233 F233 := ar5_ok (fnK_ok (by kernel_rfl) (CallsOk.cons h260 k260 CallsOk.nil) dr0_ok) e233
/- slices.medianAdjacentOrdered[int] -/
theorem h232 : HasFn Tryz.prog 232 := ⟨by kernel_rfl⟩
noncomputable def s232 (a0 a1 a2 : D) : ST → Nat → Option Rt := fun T nx =>
 bnd (zbin .i .sub a1 (.v (.int .i64 (.ofNat 1)))) fun d1 =>
 bnd (zbin .i .add a1 (.v (.int .i64 (.ofNat 1)))) fun d2 =>
 bndR (F233 [a0, d1, a1, d2, a2] T nx) fun d3 T1 n1 l1 => fN (lowN nx l1) fun l2 =>
 finK T nx d3 T1 n1 l2
theorem e232 (a0 a1 a2 : D) (T : ST) (nx : Nat) : fnK Tryz.prog [(233, F233)] dr0 FU Tryz.f232 (.s .o (.s .o .o)) [a0, a1, a2] T nx = s232 a0 a1 a2 T nx := by kernel_rfl
noncomputable def F232 : Sem := ar3 s232
theorem k232 : FnOk Tryz.prog 232 F232 := ar3_ok (fnK_ok (by kernel_rfl) (CallsOk.cons h233 k233 CallsOk.nil) dr0_ok) e232
/- slices.choosePivotOrdered[int] -/
theorem h175 : HasFn Tryz.prog 175 := ⟨by kernel_rfl⟩
noncomputable def s175 (a0 a1 a2 : D) : ST → Nat → Option Rt := fun T nx =>
 bnd (zbin .i .sub a2 a1) fun d1 =>
 fN (Nat.succ nx) fun n1 =>
 bnd (zbin .i .quo d1 (.v (.int .i64 (.ofNat 4)))) fun d2 =>
 bnd (zbin .i .mul d2 (.v (.int .i64 (.ofNat 1)))) fun d3 =>
 bnd (zbin .i .add a1 d3) fun d4 =>
 bnd (zbin .i .quo d1 (.v (.int .i64 (.ofNat 4)))) fun d5 =>
 bnd (zbin .i .mul d5 (.v (.int .i64 (.ofNat 2)))) fun d6 =>
 bnd (zbin .i .add a1 d6) fun d7 =>
 bnd (zbin .i .quo d1 (.v (.int .i64 (.ofNat 4)))) fun d8 =>
 bnd (zbin .i .mul d8 (.v (.int .i64 (.ofNat 3)))) fun d9 =>
 bnd (zbin .i .add a1 d9) fun d10 =>
 jn (fun v1 T1 n2 l1 => unc v1 fun d11 w1 => unc w1 fun d12 w2 =>
  bnd (zload none T1 d11) fun d13 =>
  bnd (zbin .i .eql d13 (.v (.int .i64 (.ofNat 0)))) fun d14 =>
  cnd d14 (
 finK T nx (.tup [d12, (.v (.int .i64 (.ofNat 1)))]) T1 n2 l1
  ) (
   bnd (zbin .i .eql d13 (.v (.int .i64 (.ofNat 12)))) fun d15 =>
   cnd d15 (
 finK T nx (.tup [d12, (.v (.int .i64 (.ofNat 2)))]) T1 n2 l1
   ) (
 finK T nx (.tup [d12, (.v (.int .i64 (.ofNat 0)))]) T1 n2 l1
   )
  )) fun K1 =>
 bnd (zbin .i .geq d1 (.v (.int .i64 (.ofNat 8)))) fun d16 =>
 cnd d16 (
  jn (fun v2 T2 n3 l2 => unc v2 fun d17 w3 => unc w3 fun d18 w4 => unc w4 fun d19 w5 => unc w5 fun d20 w6 => unc w6 fun d21 w7 =>
   bndR (F233 [d17, d19, d20, d21, d18] T2 n3) fun d22 T3 n4 l3 => fN (lowN l2 l3) fun l4 =>
 K1 [d18, d22] T3 n4 l4) fun K2 =>
  bnd (zbin .i .geq d1 (.v (.int .i64 (.ofNat 50)))) fun d23 =>
  cnd d23 (
   bndR (F232 [a0, d4, (.ptr nx 1 0 0)] (Tr.set (some (XO.mk 3 1 1 (.n [(.v (.int .i64 (.ofNat 0)))] .e .e))) T nx) n1) fun d24 T4 n5 l5 => fN (lowN nx l5) fun l6 =>
   bndR (F232 [a0, d7, (.ptr nx 1 0 0)] T4 n5) fun d25 T5 n6 l7 => fN (lowN l6 l7) fun l8 =>
   bndR (F232 [a0, d10, (.ptr nx 1 0 0)] T5 n6) fun d26 T6 n7 l9 => fN (lowN l8 l9) fun l10 =>
  K2 [a0, (.ptr nx 1 0 0), d24, d25, d26] T6 n7 l10
  ) (
  K2 [a0, (.ptr nx 1 0 0), d4, d7, d10] (Tr.set (some (XO.mk 3 1 1 (.n [(.v (.int .i64 (.ofNat 0)))] .e .e))) T nx) n1 nx
  )
 ) (
 K1 [(.ptr nx 1 0 0), d7] (Tr.set (some (XO.mk 3 1 1 (.n [(.v (.int .i64 (.ofNat 0)))] .e .e))) T nx) n1 nx
 )
theorem e175 (a0 a1 a2 : D) (T : ST) (nx : Nat) : fnK Tryz.prog [(233, F233), (232, F232)] dr0 FU Tryz.f175 (.s .o (.s .o (.s .o (.s .o (.s .o (.s .o (.j [9, 11] (.s .o (.c (.j [0, 9, 10, 11, 12] (.s .o (.c (.s .o (.s .o .o)) .o)) .o) .o)) (.s .o (.b (.s .o (.c (.s .o .o) (.s .o (.c (.s .o .o) (.s .o .o)))))))))))))) [a0, a1, a2] T nx = s175 a0 a1 a2 T nx := by kernel_rfl
noncomputable def F175 : Sem := ar3 s175
theorem k175 : FnOk Tryz.prog 175 F175 := ar3_ok (fnK_ok (by kernel_rfl) (CallsOk.cons h233 k233 (CallsOk.cons h232 k232 CallsOk.nil)) dr0_ok) e175
/- slices.reverseRangeOrdered[int] -/
theorem h176 : HasFn Tryz.prog 176 := ⟨by kernel_rfl⟩
noncomputable def s176 (fu : Nat) (a0 a1 a2 : D) : ST → Nat → Option Rt := fun T nx =>
 bnd (zbin .i .sub a2 (.v (.int .i64 (.ofNat 1)))) fun d1 =>
 lpc fu (fun go1 v1 T1 n1 l1 => unc v1 fun d2 w1 => unc w1 fun d3 w2 => unc w2 fun d4 w3 =>
  bnd (zbin .i .lss d3 d4) fun d5 =>
  cnd d5 (
  bnd (zindexAddr (.sl 1) d2 d4) fun d6 =>
  bnd (zload none T1 d6) fun d7 =>
  bnd (zindexAddr (.sl 1) d2 d3) fun d8 =>
  bnd (zload none T1 d8) fun d9 =>
  bnd (zindexAddr (.sl 1) d2 d3) fun d10 =>
  zstore 1 T1 d10 d7 fun r1 T2 => fN (lowN l1 r1) fun l2 =>
  bnd (zindexAddr (.sl 1) d2 d4) fun d11 =>
  zstore 1 T2 d11 d9 fun r2 T3 => fN (lowN l2 r2) fun l3 =>
  bnd (zbin .i .add d3 (.v (.int .i64 (.ofNat 1)))) fun d12 =>
  bnd (zbin .i .sub d4 (.v (.int .i64 (.ofNat 1)))) fun d13 =>
 go1 [d2, d12, d13] T3 n1 l3
  ) (
 finK T nx (.tup []) T1 n1 l1
  )) [a0, a1, d1] T nx nx
theorem e176 (fu : Nat) (a0 a1 a2 : D) (T : ST) (nx : Nat) : fnK Tryz.prog [] (drD Tryz.prog []) fu Tryz.f176 (.s .o (.s .o (.b (.l [0, 6, 7] (.s (.s .o (.c .o .o)) (.b (.s .o (.s .o .o)))))))) [a0, a1, a2] T nx = s176 fu a0 a1 a2 T nx := by kernel_rfl
noncomputable def F176 : Sem := ar3 (s176 FU)
theorem k176 : FnOk Tryz.prog 176 F176 := ar3_ok (fnK_ok (by kernel_rfl) CallsOk.nil (drD_ok hmix CallsOk.nil)) (e176 FU)
/- slices.partialInsertionSortOrdered[int] -/
theorem h177 : HasFn Tryz.prog 177 := ⟨by kernel_rfl⟩
noncomputable def s177 (fu : Nat) (a0 a1 a2 : D) : ST → Nat → Option Rt := fun T nx =>
 bnd (zbin .i .add a1 (.v (.int .i64 (.ofNat 1)))) fun d1 =>
 jn (fun v1 T1 n1 l1 =>
 finK T nx (.v (.bool false)) T1 n1 l1) fun K1 =>
 lpc fu (fun go1 v2 T2 n2 l2 => unc v2 fun d2 w1 => unc w1 fun d3 w2 => unc w2 fun d4 w3 => unc w3 fun d5 w4 => unc w4 fun d6 w5 =>
  bnd (zbin .i .lss d6 (.v (.int .i64 (.ofNat 5)))) fun d7 =>
  cnd d7 (
  jn (fun v3 T3 n3 l3 => unc v3 fun d8 w6 => unc w6 fun d9 w7 => unc w7 fun d10 w8 => unc w8 fun d11 w9 => unc w9 fun d12 w10 =>
   bnd (zbin .i .add d12 (.v (.int .i64 (.ofNat 1)))) fun d13 =>
 go1 [d8, d9, d10, d11, d13] T3 n3 l3) fun K2 =>
  jn (fun v4 T4 n4 l4 => unc v4 fun d14 w11 => unc w11 fun d15 w12 => unc w12 fun d16 w13 => unc w13 fun d17 w14 => unc w14 fun d18 w15 =>
   bnd (zbin .i .eql d17 d16) fun d19 =>
   cnd d19 (
 finK T nx (.v (.bool true)) T4 n4 l4
   ) (
   bnd (zbin .i .sub d16 d15) fun d20 =>
   bnd (zbin .i .lss d20 (.v (.int .i64 (.ofNat 50)))) fun d21 =>
   cnd d21 (
 finK T nx (.v (.bool false)) T4 n4 l4
   ) (
   bnd (zbin .i .sub d17 (.v (.int .i64 (.ofNat 1)))) fun d22 =>
   bnd (zbin .i .sub d17 (.v (.int .i64 (.ofNat 1)))) fun d23 =>
   bnd (zindexAddr (.sl 1) d14 d23) fun d24 =>
   bnd (zload none T4 d24) fun d25 =>
   bnd (zindexAddr (.sl 1) d14 d17) fun d26 =>
   bnd (zload none T4 d26) fun d27 =>
   bnd (zindexAddr (.sl 1) d14 d17) fun d28 =>
   zstore 1 T4 d28 d25 fun r1 T5 => fN (lowN l4 r1) fun l5 =>
   bnd (zindexAddr (.sl 1) d14 d22) fun d29 =>
   zstore 1 T5 d29 d27 fun r2 T6 => fN (lowN l5 r2) fun l6 =>
   jn (fun v5 T7 n5 l7 => unc v5 fun d30 w16 => unc w16 fun d31 w17 => unc w17 fun d32 w18 => unc w18 fun d33 w19 => unc w19 fun d34 w20 =>
    bnd (zbin .i .sub d32 d33) fun d35 =>
    bnd (zbin .i .geq d35 (.v (.int .i64 (.ofNat 2)))) fun d36 =>
    cnd d36 (
     bnd (zbin .i .add d33 (.v (.int .i64 (.ofNat 1)))) fun d37 =>
     lpc fu (fun go2 v6 T8 n6 l8 => unc v6 fun d38 w21 => unc w21 fun d39 w22 => unc w22 fun d40 w23 => unc w23 fun d41 w24 => unc w24 fun d42 w25 => unc w25 fun d43 w26 =>
      bnd (zbin .i .lss d43 d40) fun d44 =>
      cnd d44 (
      bnd (zindexAddr (.sl 1) d38 d43) fun d45 =>
      bnd (zload none T8 d45) fun d46 =>
      bnd (zbin .i .sub d43 (.v (.int .i64 (.ofNat 1)))) fun d47 =>
      bnd (zindexAddr (.sl 1) d38 d47) fun d48 =>
      bnd (zload none T8 d48) fun d49 =>
      bndR (F178 [d46, d49] T8 n6) fun d50 T9 n7 l9 => fN (lowN n6 l9) fun l10 => bB (Nat.beq l10 n6) <|
      bnd (zun .not d50) fun d51 =>
      cnd d51 (
  K2 [d38, d39, d40, d41, d42] T9 n7 l8
      ) (
      bnd (zbin .i .sub d43 (.v (.int .i64 (.ofNat 1)))) fun d52 =>
      bnd (zbin .i .sub d43 (.v (.int .i64 (.ofNat 1)))) fun d53 =>
      bnd (zindexAddr (.sl 1) d38 d53) fun d54 =>
      bnd (zload none T9 d54) fun d55 =>
      bnd (zindexAddr (.sl 1) d38 d43) fun d56 =>
      bnd (zload none T9 d56) fun d57 =>
      bnd (zindexAddr (.sl 1) d38 d43) fun d58 =>
      zstore 1 T9 d58 d55 fun r3 T10 => fN (lowN l8 r3) fun l11 =>
      bnd (zindexAddr (.sl 1) d38 d52) fun d59 =>
      zstore 1 T10 d59 d57 fun r4 T11 => fN (lowN l11 r4) fun l12 =>
      bnd (zbin .i .add d43 (.v (.int .i64 (.ofNat 1)))) fun d60 =>
     go2 [d38, d39, d40, d41, d42, d60] T11 n7 l12
      )
      ) (
  K2 [d38, d39, d40, d41, d42] T8 n6 l8
      )) [d30, d31, d32, d33, d34, d37] T7 n5 l7
    ) (
  K2 [d30, d31, d32, d33, d34] T7 n5 l7
    )) fun K3 =>
   bnd (zbin .i .sub d17 d15) fun d61 =>
   bnd (zbin .i .geq d61 (.v (.int .i64 (.ofNat 2)))) fun d62 =>
   cnd d62 (
    bnd (zbin .i .sub d17 (.v (.int .i64 (.ofNat 1)))) fun d63 =>
    lpc fu (fun go3 v7 T12 n8 l13 => unc v7 fun d64 w27 => unc w27 fun d65 w28 => unc w28 fun d66 w29 => unc w29 fun d67 w30 => unc w30 fun d68 w31 => unc w31 fun d69 w32 =>
     bnd (zbin .i .geq d69 (.v (.int .i64 (.ofNat 1)))) fun d70 =>
     cnd d70 (
     bnd (zindexAddr (.sl 1) d64 d69) fun d71 =>
     bnd (zload none T12 d71) fun d72 =>
     bnd (zbin .i .sub d69 (.v (.int .i64 (.ofNat 1)))) fun d73 =>
     bnd (zindexAddr (.sl 1) d64 d73) fun d74 =>
     bnd (zload none T12 d74) fun d75 =>
     bndR (F178 [d72, d75] T12 n8) fun d76 T13 n9 l14 => fN (lowN n8 l14) fun l15 => bB (Nat.beq l15 n8) <|
     bnd (zun .not d76) fun d77 =>
     cnd d77 (
   K3 [d64, d65, d66, d67, d68] T13 n9 l13
     ) (
     bnd (zbin .i .sub d69 (.v (.int .i64 (.ofNat 1)))) fun d78 =>
     bnd (zbin .i .sub d69 (.v (.int .i64 (.ofNat 1)))) fun d79 =>
     bnd (zindexAddr (.sl 1) d64 d79) fun d80 =>
     bnd (zload none T13 d80) fun d81 =>
     bnd (zindexAddr (.sl 1) d64 d69) fun d82 =>
     bnd (zload none T13 d82) fun d83 =>
     bnd (zindexAddr (.sl 1) d64 d69) fun d84 =>
     zstore 1 T13 d84 d81 fun r5 T14 => fN (lowN l13 r5) fun l16 =>
     bnd (zindexAddr (.sl 1) d64 d78) fun d85 =>
     zstore 1 T14 d85 d83 fun r6 T15 => fN (lowN l16 r6) fun l17 =>
     bnd (zbin .i .sub d69 (.v (.int .i64 (.ofNat 1)))) fun d86 =>
    go3 [d64, d65, d66, d67, d68, d86] T15 n9 l17
     )
     ) (
   K3 [d64, d65, d66, d67, d68] T12 n8 l13
     )) [d14, d15, d16, d17, d18, d63] T6 n4 l6
   ) (
   K3 [d14, d15, d16, d17, d18] T6 n4 l6
   )
   )
   )) fun K4 =>
  lpc fu (fun go4 v8 T16 n10 l18 => unc v8 fun d87 w33 => unc w33 fun d88 w34 => unc w34 fun d89 w35 => unc w35 fun d90 w36 => unc w36 fun d91 w37 =>
   bnd (zbin .i .lss d90 d89) fun d92 =>
   opD.gjd (fun k1 => zgd d92 true (
    k1 (.op [] []) d87 T16 n10 l18
   ) (k1 (.op [] []) (.v undef) T16 n10 l18)) fun f1 d93 T17 n11 l19 =>
   opD.gjd (fun k2 => zgd d92 true (
    k2 (.op [] []) d90 T17 n11 l19
   ) (k2 (.op [] []) (.v undef) T17 n11 l19)) fun f2 d94 T18 n12 l20 =>
   opD.gjd (fun k3 => zgd d92 true (
    bnd (zindexAddr (.sl 1) d93 d94) fun d95 =>
    k3 (.op [] []) d95 T18 n12 l20
   ) (k3 (.op [] []) (.v undef) T18 n12 l20)) fun f3 d96 T19 n13 l21 =>
   opD.gjd (fun k4 => zgd d92 true (
    bnd (zload none T19 d96) fun d97 =>
    k4 (.op (ptr? d96) []) d97 T19 n13 l21
   ) (k4 (.op [] []) (.v undef) T19 n13 l21)) fun f4 d98 T20 n14 l22 =>
   opD.gjd (fun k5 => zgd d92 true (
    k5 (.op [] []) d87 T20 n14 l22
   ) (k5 (.op [] []) (.v undef) T20 n14 l22)) fun f5 d99 T21 n15 l23 =>
   opD.gjd (fun k6 => zgd d92 true (
    k6 (.op [] []) d90 T21 n15 l23
   ) (k6 (.op [] []) (.v undef) T21 n15 l23)) fun f6 d100 T22 n16 l24 =>
   opD.gjd (fun k7 => zgd d92 true (
    bnd (zbin .i .sub d100 (.v (.int .i64 (.ofNat 1)))) fun d101 =>
    k7 (.op [] []) d101 T22 n16 l24
   ) (k7 (.op [] []) (.v undef) T22 n16 l24)) fun f7 d102 T23 n17 l25 =>
   opD.gjd (fun k8 => zgd d92 true (
    bnd (zindexAddr (.sl 1) d99 d102) fun d103 =>
    k8 (.op [] []) d103 T23 n17 l25
   ) (k8 (.op [] []) (.v undef) T23 n17 l25)) fun f8 d104 T24 n18 l26 =>
   opD.gjd (fun k9 => zgd d92 true (
    bnd (zload none T24 d104) fun d105 =>
    k9 (.op (ptr? d104) []) d105 T24 n18 l26
   ) (k9 (.op [] []) (.v undef) T24 n18 l26)) fun f9 d106 T25 n19 l27 =>
   opD.gjd (fun k10 => zgd d92 true (
    bndR (F178 [d98, d106] T25 n19) fun d107 T26 n20 l28 => fN (lowN n19 l28) fun l29 => bB (Nat.beq l29 n19) <|
    k10 (.call n19 n20) d107 T26 n20 l27
   ) (k10 (.op [] []) (.v undef) T25 n19 l27)) fun f10 d108 T27 n21 l30 =>
   opD.gjd (fun k11 => zgd d92 true (
    bnd (zun .not d108) fun d109 =>
    k11 (.op [] []) d109 T27 n21 l30
   ) (k11 (.op [] []) (.v undef) T27 n21 l30)) fun f11 d110 T28 n22 l31 =>
   bnd (zpick d92 d110 (.v (.bool false))) fun d111 =>
   cnd d111 (
   bnd (zbin .i .add d90 (.v (.int .i64 (.ofNat 1)))) fun d112 =>
  go4 [d87, d88, d89, d112, d91] T28 n22 l31
   ) (
  K4 [d87, d88, d89, d90, d91] T28 n22 l31
   )) [d2, d3, d4, d5, d6] T2 n2 l2
  ) (
 K1 [] T2 n2 l2
  )) [a0, a1, a2, d1, (.v (.int .i64 (.ofNat 0)))] T nx nx
theorem e177 (fu : Nat) (a0 a1 a2 : D) (T : ST) (nx : Nat) : fnK Tryz.prog [(178, F178)] (drD Tryz.prog [(178, F178)]) fu Tryz.f177 (.s .o (.s .o (.j [] (.s .o (.b (.l [0, 1, 2, 7, 8] (.s (.s .o (.c .o .o)) (.j [0, 1, 2, 7, 8] (.b (.j [0, 1, 2, 7, 8] (.b (.l [0, 1, 2, 7, 8] (.s (.s .o (.c .o .o)) (.b .o)))) (.s (.s .o (.c (.s .o .o) .o)) (.s (.s .o (.c (.s .o .o) .o)) (.s .o (.j [0, 1, 2, 7, 8] (.s .o (.c (.s .o (.b (.l [0, 1, 2, 7, 8, 9] (.s (.s .o (.c .o .o)) (.s (.b (.s (.s .o (.c .o .o)) .o)) .o))))) .o)) (.s .o (.c (.s .o (.b (.l [0, 1, 2, 7, 8, 10] (.s (.s .o (.c .o .o)) (.s (.b (.s (.s .o (.c .o .o)) .o)) .o))))) .o)))))))) .o))))) (.s .o .o)))) [a0, a1, a2] T nx = s177 fu a0 a1 a2 T nx := by kernel_rfl
noncomputable def F177 : Sem := ar3 (s177 FU)
theorem k177 : FnOk Tryz.prog 177 F177 := ar3_ok (fnK_ok (by kernel_rfl) (CallsOk.cons h178 k178 CallsOk.nil) (drD_ok hmix (CallsOk.cons h178 k178 CallsOk.nil))) (e177 FU)
/- slices.partitionEqualOrdered[int] -/
theorem h179 : HasFn Tryz.prog 179 := ⟨by kernel_rfl⟩
noncomputable def s179 (fu : Nat) (a0 a1 a2 a3 : D) : ST → Nat → Option Rt := fun T nx =>
 bnd (zindexAddr (.sl 1) a0 a3) fun d1 =>
 bnd (zload none T d1) fun d2 =>
 bnd (zindexAddr (.sl 1) a0 a1) fun d3 =>
 bnd (zload none T d3) fun d4 =>
 bnd (zindexAddr (.sl 1) a0 a1) fun d5 =>
 zstore 1 T d5 d2 fun r1 T1 => fN (lowN nx r1) fun l1 =>
 bnd (zindexAddr (.sl 1) a0 a3) fun d6 =>
 zstore 1 T1 d6 d4 fun r2 T2 => fN (lowN l1 r2) fun l2 =>
 bnd (zbin .i .add a1 (.v (.int .i64 (.ofNat 1)))) fun d7 =>
 bnd (zbin .i .sub a2 (.v (.int .i64 (.ofNat 1)))) fun d8 =>
 jn (fun v1 T3 n1 l3 => unc v1 fun d9 w1 =>
 finK T nx d9 T3 n1 l3) fun K1 =>
 lpc fu (fun go1 v2 T4 n2 l4 => unc v2 fun d10 w2 => unc w2 fun d11 w3 => unc w3 fun d12 w4 => unc w4 fun d13 w5 =>
  jn (fun v3 T5 n3 l5 => unc v3 fun d14 w6 => unc w6 fun d15 w7 => unc w7 fun d16 w8 => unc w8 fun d17 w9 =>
   jn (fun v4 T6 n4 l6 => unc v4 fun d18 w10 => unc w10 fun d19 w11 => unc w11 fun d20 w12 => unc w12 fun d21 w13 =>
    bnd (zbin .i .gtr d20 d21) fun d22 =>
    cnd d22 (
 K1 [d20] T6 n4 l6
    ) (
    bnd (zindexAddr (.sl 1) d18 d21) fun d23 =>
    bnd (zload none T6 d23) fun d24 =>
    bnd (zindexAddr (.sl 1) d18 d20) fun d25 =>
    bnd (zload none T6 d25) fun d26 =>
    bnd (zindexAddr (.sl 1) d18 d20) fun d27 =>
    zstore 1 T6 d27 d24 fun r3 T7 => fN (lowN l6 r3) fun l7 =>
    bnd (zindexAddr (.sl 1) d18 d21) fun d28 =>
    zstore 1 T7 d28 d26 fun r4 T8 => fN (lowN l7 r4) fun l8 =>
    bnd (zbin .i .add d20 (.v (.int .i64 (.ofNat 1)))) fun d29 =>
    bnd (zbin .i .sub d21 (.v (.int .i64 (.ofNat 1)))) fun d30 =>
 go1 [d18, d19, d29, d30] T8 n4 l8
    )) fun K2 =>
   lpc fu (fun go2 v5 T9 n5 l9 => unc v5 fun d31 w14 => unc w14 fun d32 w15 => unc w15 fun d33 w16 => unc w16 fun d34 w17 =>
    bnd (zbin .i .leq d33 d34) fun d35 =>
    opD.gjd (fun k1 => zgd d35 true (
     k1 (.op [] []) d31 T9 n5 l9
    ) (k1 (.op [] []) (.v undef) T9 n5 l9)) fun f1 d36 T10 n6 l10 =>
    opD.gjd (fun k2 => zgd d35 true (
     k2 (.op [] []) d32 T10 n6 l10
    ) (k2 (.op [] []) (.v undef) T10 n6 l10)) fun f2 d37 T11 n7 l11 =>
    opD.gjd (fun k3 => zgd d35 true (
     bnd (zindexAddr (.sl 1) d36 d37) fun d38 =>
     k3 (.op [] []) d38 T11 n7 l11
    ) (k3 (.op [] []) (.v undef) T11 n7 l11)) fun f3 d39 T12 n8 l12 =>
    opD.gjd (fun k4 => zgd d35 true (
     bnd (zload none T12 d39) fun d40 =>
     k4 (.op (ptr? d39) []) d40 T12 n8 l12
    ) (k4 (.op [] []) (.v undef) T12 n8 l12)) fun f4 d41 T13 n9 l13 =>
    opD.gjd (fun k5 => zgd d35 true (
     k5 (.op [] []) d31 T13 n9 l13
    ) (k5 (.op [] []) (.v undef) T13 n9 l13)) fun f5 d42 T14 n10 l14 =>
    opD.gjd (fun k6 => zgd d35 true (
     k6 (.op [] []) d34 T14 n10 l14
    ) (k6 (.op [] []) (.v undef) T14 n10 l14)) fun f6 d43 T15 n11 l15 =>
    opD.gjd (fun k7 => zgd d35 true (
     bnd (zindexAddr (.sl 1) d42 d43) fun d44 =>
     k7 (.op [] []) d44 T15 n11 l15
    ) (k7 (.op [] []) (.v undef) T15 n11 l15)) fun f7 d45 T16 n12 l16 =>
    opD.gjd (fun k8 => zgd d35 true (
     bnd (zload none T16 d45) fun d46 =>
     k8 (.op (ptr? d45) []) d46 T16 n12 l16
    ) (k8 (.op [] []) (.v undef) T16 n12 l16)) fun f8 d47 T17 n13 l17 =>
    opD.gjd (fun k9 => zgd d35 true (
     bndR (F178 [d41, d47] T17 n13) fun d48 T18 n14 l18 => fN (lowN n13 l18) fun l19 => bB (Nat.beq l19 n13) <|
     k9 (.call n13 n14) d48 T18 n14 l17
    ) (k9 (.op [] []) (.v undef) T17 n13 l17)) fun f9 d49 T19 n15 l20 =>
    bnd (zpick d35 d49 (.v (.bool false))) fun d50 =>
    cnd d50 (
    bnd (zbin .i .sub d34 (.v (.int .i64 (.ofNat 1)))) fun d51 =>
   go2 [d31, d32, d33, d51] T19 n15 l20
    ) (
   K2 [d31, d32, d33, d34] T19 n15 l20
    )) [d14, d15, d16, d17] T5 n3 l5) fun K3 =>
  lpc fu (fun go3 v6 T20 n16 l21 => unc v6 fun d52 w18 => unc w18 fun d53 w19 => unc w19 fun d54 w20 => unc w20 fun d55 w21 =>
   bnd (zbin .i .leq d54 d55) fun d56 =>
   opD.gjd (fun k10 => zgd d56 true (
    k10 (.op [] []) d52 T20 n16 l21
   ) (k10 (.op [] []) (.v undef) T20 n16 l21)) fun f10 d57 T21 n17 l22 =>
   opD.gjd (fun k11 => zgd d56 true (
    k11 (.op [] []) d53 T21 n17 l22
   ) (k11 (.op [] []) (.v undef) T21 n17 l22)) fun f11 d58 T22 n18 l23 =>
   opD.gjd (fun k12 => zgd d56 true (
    bnd (zindexAddr (.sl 1) d57 d58) fun d59 =>
    k12 (.op [] []) d59 T22 n18 l23
   ) (k12 (.op [] []) (.v undef) T22 n18 l23)) fun f12 d60 T23 n19 l24 =>
   opD.gjd (fun k13 => zgd d56 true (
    bnd (zload none T23 d60) fun d61 =>
    k13 (.op (ptr? d60) []) d61 T23 n19 l24
   ) (k13 (.op [] []) (.v undef) T23 n19 l24)) fun f13 d62 T24 n20 l25 =>
   opD.gjd (fun k14 => zgd d56 true (
    k14 (.op [] []) d52 T24 n20 l25
   ) (k14 (.op [] []) (.v undef) T24 n20 l25)) fun f14 d63 T25 n21 l26 =>
   opD.gjd (fun k15 => zgd d56 true (
    k15 (.op [] []) d54 T25 n21 l26
   ) (k15 (.op [] []) (.v undef) T25 n21 l26)) fun f15 d64 T26 n22 l27 =>
   opD.gjd (fun k16 => zgd d56 true (
    bnd (zindexAddr (.sl 1) d63 d64) fun d65 =>
    k16 (.op [] []) d65 T26 n22 l27
   ) (k16 (.op [] []) (.v undef) T26 n22 l27)) fun f16 d66 T27 n23 l28 =>
   opD.gjd (fun k17 => zgd d56 true (
    bnd (zload none T27 d66) fun d67 =>
    k17 (.op (ptr? d66) []) d67 T27 n23 l28
   ) (k17 (.op [] []) (.v undef) T27 n23 l28)) fun f17 d68 T28 n24 l29 =>
   opD.gjd (fun k18 => zgd d56 true (
    bndR (F178 [d62, d68] T28 n24) fun d69 T29 n25 l30 => fN (lowN n24 l30) fun l31 => bB (Nat.beq l31 n24) <|
    k18 (.call n24 n25) d69 T29 n25 l29
   ) (k18 (.op [] []) (.v undef) T28 n24 l29)) fun f18 d70 T30 n26 l32 =>
   opD.gjd (fun k19 => zgd d56 true (
    bnd (zun .not d70) fun d71 =>
    k19 (.op [] []) d71 T30 n26 l32
   ) (k19 (.op [] []) (.v undef) T30 n26 l32)) fun f19 d72 T31 n27 l33 =>
   bnd (zpick d56 d72 (.v (.bool false))) fun d73 =>
   cnd d73 (
   bnd (zbin .i .add d54 (.v (.int .i64 (.ofNat 1)))) fun d74 =>
  go3 [d52, d53, d74, d55] T31 n27 l33
   ) (
  K3 [d52, d53, d54, d55] T31 n27 l33
   )) [d10, d11, d12, d13] T4 n2 l4) [a0, a1, d7, d8] T2 nx l2
theorem e179 (fu : Nat) (a0 a1 a2 a3 : D) (T : ST) (nx : Nat) : fnK Tryz.prog [(178, F178)] (drD Tryz.prog [(178, F178)]) fu Tryz.f179 (.s .o (.s .o (.s .o (.j [9] (.b (.l [0, 1, 9, 10] (.b (.j [0, 1, 9, 10] (.b (.l [0, 1, 9, 10] (.s (.s .o (.c .o .o)) (.b .o)))) (.j [0, 1, 9, 10] (.b (.l [0, 1, 9, 10] (.s (.s .o (.c .o .o)) (.b .o)))) (.s (.s .o (.c .o .o)) (.s .o (.s .o .o)))))))) (.s .o .o))))) [a0, a1, a2, a3] T nx = s179 fu a0 a1 a2 a3 T nx := by kernel_rfl
noncomputable def F179 : Sem := ar4 (s179 FU)
theorem k179 : FnOk Tryz.prog 179 F179 := ar4_ok (fnK_ok (by kernel_rfl) (CallsOk.cons h178 k178 CallsOk.nil) (drD_ok hmix (CallsOk.cons h178 k178 CallsOk.nil))) (e179 FU)
/- slices.partitionOrdered[int] -/
theorem h180 : HasFn Tryz.prog 180 := ⟨by kernel_rfl⟩
noncomputable def s180 (fu : Nat) (a0 a1 a2 a3 : D) : ST → Nat → Option Rt := fun T nx =>
 bnd (zindexAddr (.sl 1) a0 a3) fun d1 =>
 bnd (zload none T d1) fun d2 =>
 bnd (zindexAddr (.sl 1) a0 a1) fun d3 =>
 bnd (zload none T d3) fun d4 =>
 bnd (zindexAddr (.sl 1) a0 a1) fun d5 =>
 zstore 1 T d5 d2 fun r1 T1 => fN (lowN nx r1) fun l1 =>
 bnd (zindexAddr (.sl 1) a0 a3) fun d6 =>
 zstore 1 T1 d6 d4 fun r2 T2 => fN (lowN l1 r2) fun l2 =>
 bnd (zbin .i .add a1 (.v (.int .i64 (.ofNat 1)))) fun d7 =>
 bnd (zbin .i .sub a2 (.v (.int .i64 (.ofNat 1)))) fun d8 =>
 jn (fun v1 T3 n1 l3 => unc v1 fun d9 w1 => unc w1 fun d10 w2 => unc w2 fun d11 w3 => unc w3 fun d12 w4 =>
  jn (fun v2 T4 n2 l4 => unc v2 fun d13 w5 => unc w5 fun d14 w6 => unc w6 fun d15 w7 => unc w7 fun d16 w8 =>
   bnd (zbin .i .gtr d15 d16) fun d17 =>
   cnd d17 (
    bnd (zindexAddr (.sl 1) d13 d14) fun d18 =>
    bnd (zload none T4 d18) fun d19 =>
    bnd (zindexAddr (.sl 1) d13 d16) fun d20 =>
    bnd (zload none T4 d20) fun d21 =>
    bnd (zindexAddr (.sl 1) d13 d16) fun d22 =>
    zstore 1 T4 d22 d19 fun r3 T5 => fN (lowN l4 r3) fun l5 =>
    bnd (zindexAddr (.sl 1) d13 d14) fun d23 =>
    zstore 1 T5 d23 d21 fun r4 T6 => fN (lowN l5 r4) fun l6 =>
 finK T nx (.tup [d16, (.v (.bool true))]) T6 n2 l6
   ) (
   bnd (zindexAddr (.sl 1) d13 d16) fun d24 =>
   bnd (zload none T4 d24) fun d25 =>
   bnd (zindexAddr (.sl 1) d13 d15) fun d26 =>
   bnd (zload none T4 d26) fun d27 =>
   bnd (zindexAddr (.sl 1) d13 d15) fun d28 =>
   zstore 1 T4 d28 d25 fun r5 T7 => fN (lowN l4 r5) fun l7 =>
   bnd (zindexAddr (.sl 1) d13 d16) fun d29 =>
   zstore 1 T7 d29 d27 fun r6 T8 => fN (lowN l7 r6) fun l8 =>
   bnd (zbin .i .add d15 (.v (.int .i64 (.ofNat 1)))) fun d30 =>
   bnd (zbin .i .sub d16 (.v (.int .i64 (.ofNat 1)))) fun d31 =>
   jn (fun v3 T9 n3 l9 => unc v3 fun d32 w9 => unc w9 fun d33 w10 => unc w10 fun d34 w11 =>
    bnd (zindexAddr (.sl 1) d32 d33) fun d35 =>
    bnd (zload none T9 d35) fun d36 =>
    bnd (zindexAddr (.sl 1) d32 d34) fun d37 =>
    bnd (zload none T9 d37) fun d38 =>
    bnd (zindexAddr (.sl 1) d32 d34) fun d39 =>
    zstore 1 T9 d39 d36 fun r7 T10 => fN (lowN l9 r7) fun l10 =>
    bnd (zindexAddr (.sl 1) d32 d33) fun d40 =>
    zstore 1 T10 d40 d38 fun r8 T11 => fN (lowN l10 r8) fun l11 =>
 finK T nx (.tup [d34, (.v (.bool false))]) T11 n3 l11) fun K1 =>
   lpc fu (fun go1 v4 T12 n4 l12 => unc v4 fun d41 w12 => unc w12 fun d42 w13 => unc w13 fun d43 w14 => unc w14 fun d44 w15 =>
    jn (fun v5 T13 n5 l13 => unc v5 fun d45 w16 => unc w16 fun d46 w17 => unc w17 fun d47 w18 => unc w18 fun d48 w19 =>
     jn (fun v6 T14 n6 l14 => unc v6 fun d49 w20 => unc w20 fun d50 w21 => unc w21 fun d51 w22 => unc w22 fun d52 w23 =>
      bnd (zbin .i .gtr d51 d52) fun d53 =>
      cnd d53 (
   K1 [d49, d50, d52] T14 n6 l14
      ) (
      bnd (zindexAddr (.sl 1) d49 d52) fun d54 =>
      bnd (zload none T14 d54) fun d55 =>
      bnd (zindexAddr (.sl 1) d49 d51) fun d56 =>
      bnd (zload none T14 d56) fun d57 =>
      bnd (zindexAddr (.sl 1) d49 d51) fun d58 =>
      zstore 1 T14 d58 d55 fun r9 T15 => fN (lowN l14 r9) fun l15 =>
      bnd (zindexAddr (.sl 1) d49 d52) fun d59 =>
      zstore 1 T15 d59 d57 fun r10 T16 => fN (lowN l15 r10) fun l16 =>
      bnd (zbin .i .add d51 (.v (.int .i64 (.ofNat 1)))) fun d60 =>
      bnd (zbin .i .sub d52 (.v (.int .i64 (.ofNat 1)))) fun d61 =>
   go1 [d49, d50, d60, d61] T16 n6 l16
      )) fun K2 =>
     lpc fu (fun go2 v7 T17 n7 l17 => unc v7 fun d62 w24 => unc w24 fun d63 w25 => unc w25 fun d64 w26 => unc w26 fun d65 w27 =>
      bnd (zbin .i .leq d64 d65) fun d66 =>
      opD.gjd (fun k1 => zgd d66 true (
       k1 (.op [] []) d62 T17 n7 l17
      ) (k1 (.op [] []) (.v undef) T17 n7 l17)) fun f1 d67 T18 n8 l18 =>
      opD.gjd (fun k2 => zgd d66 true (
       k2 (.op [] []) d65 T18 n8 l18
      ) (k2 (.op [] []) (.v undef) T18 n8 l18)) fun f2 d68 T19 n9 l19 =>
      opD.gjd (fun k3 => zgd d66 true (
       bnd (zindexAddr (.sl 1) d67 d68) fun d69 =>
       k3 (.op [] []) d69 T19 n9 l19
      ) (k3 (.op [] []) (.v undef) T19 n9 l19)) fun f3 d70 T20 n10 l20 =>
      opD.gjd (fun k4 => zgd d66 true (
       bnd (zload none T20 d70) fun d71 =>
       k4 (.op (ptr? d70) []) d71 T20 n10 l20
      ) (k4 (.op [] []) (.v undef) T20 n10 l20)) fun f4 d72 T21 n11 l21 =>
      opD.gjd (fun k5 => zgd d66 true (
       k5 (.op [] []) d62 T21 n11 l21
      ) (k5 (.op [] []) (.v undef) T21 n11 l21)) fun f5 d73 T22 n12 l22 =>
      opD.gjd (fun k6 => zgd d66 true (
       k6 (.op [] []) d63 T22 n12 l22
      ) (k6 (.op [] []) (.v undef) T22 n12 l22)) fun f6 d74 T23 n13 l23 =>
      opD.gjd (fun k7 => zgd d66 true (
       bnd (zindexAddr (.sl 1) d73 d74) fun d75 =>
       k7 (.op [] []) d75 T23 n13 l23
      ) (k7 (.op [] []) (.v undef) T23 n13 l23)) fun f7 d76 T24 n14 l24 =>
      opD.gjd (fun k8 => zgd d66 true (
       bnd (zload none T24 d76) fun d77 =>
       k8 (.op (ptr? d76) []) d77 T24 n14 l24
      ) (k8 (.op [] []) (.v undef) T24 n14 l24)) fun f8 d78 T25 n15 l25 =>
      opD.gjd (fun k9 => zgd d66 true (
       bndR (F178 [d72, d78] T25 n15) fun d79 T26 n16 l26 => fN (lowN n15 l26) fun l27 => bB (Nat.beq l27 n15) <|
       k9 (.call n15 n16) d79 T26 n16 l25
      ) (k9 (.op [] []) (.v undef) T25 n15 l25)) fun f9 d80 T27 n17 l28 =>
      opD.gjd (fun k10 => zgd d66 true (
       bnd (zun .not d80) fun d81 =>
       k10 (.op [] []) d81 T27 n17 l28
      ) (k10 (.op [] []) (.v undef) T27 n17 l28)) fun f10 d82 T28 n18 l29 =>
      bnd (zpick d66 d82 (.v (.bool false))) fun d83 =>
      cnd d83 (
      bnd (zbin .i .sub d65 (.v (.int .i64 (.ofNat 1)))) fun d84 =>
     go2 [d62, d63, d64, d84] T28 n18 l29
      ) (
     K2 [d62, d63, d64, d65] T28 n18 l29
      )) [d45, d46, d47, d48] T13 n5 l13) fun K3 =>
    lpc fu (fun go3 v8 T29 n19 l30 => unc v8 fun d85 w28 => unc w28 fun d86 w29 => unc w29 fun d87 w30 => unc w30 fun d88 w31 =>
     bnd (zbin .i .leq d87 d88) fun d89 =>
     opD.gjd (fun k11 => zgd d89 true (
      k11 (.op [] []) d85 T29 n19 l30
     ) (k11 (.op [] []) (.v undef) T29 n19 l30)) fun f11 d90 T30 n20 l31 =>
     opD.gjd (fun k12 => zgd d89 true (
      k12 (.op [] []) d87 T30 n20 l31
     ) (k12 (.op [] []) (.v undef) T30 n20 l31)) fun f12 d91 T31 n21 l32 =>
     opD.gjd (fun k13 => zgd d89 true (
      bnd (zindexAddr (.sl 1) d90 d91) fun d92 =>
      k13 (.op [] []) d92 T31 n21 l32
     ) (k13 (.op [] []) (.v undef) T31 n21 l32)) fun f13 d93 T32 n22 l33 =>
     opD.gjd (fun k14 => zgd d89 true (
      bnd (zload none T32 d93) fun d94 =>
      k14 (.op (ptr? d93) []) d94 T32 n22 l33
     ) (k14 (.op [] []) (.v undef) T32 n22 l33)) fun f14 d95 T33 n23 l34 =>
     opD.gjd (fun k15 => zgd d89 true (
      k15 (.op [] []) d85 T33 n23 l34
     ) (k15 (.op [] []) (.v undef) T33 n23 l34)) fun f15 d96 T34 n24 l35 =>
     opD.gjd (fun k16 => zgd d89 true (
      k16 (.op [] []) d86 T34 n24 l35
     ) (k16 (.op [] []) (.v undef) T34 n24 l35)) fun f16 d97 T35 n25 l36 =>
     opD.gjd (fun k17 => zgd d89 true (
      bnd (zindexAddr (.sl 1) d96 d97) fun d98 =>
      k17 (.op [] []) d98 T35 n25 l36
     ) (k17 (.op [] []) (.v undef) T35 n25 l36)) fun f17 d99 T36 n26 l37 =>
     opD.gjd (fun k18 => zgd d89 true (
      bnd (zload none T36 d99) fun d100 =>
      k18 (.op (ptr? d99) []) d100 T36 n26 l37
     ) (k18 (.op [] []) (.v undef) T36 n26 l37)) fun f18 d101 T37 n27 l38 =>
     opD.gjd (fun k19 => zgd d89 true (
      bndR (F178 [d95, d101] T37 n27) fun d102 T38 n28 l39 => fN (lowN n27 l39) fun l40 => bB (Nat.beq l40 n27) <|
      k19 (.call n27 n28) d102 T38 n28 l38
     ) (k19 (.op [] []) (.v undef) T37 n27 l38)) fun f19 d103 T39 n29 l41 =>
     bnd (zpick d89 d103 (.v (.bool false))) fun d104 =>
     cnd d104 (
     bnd (zbin .i .add d87 (.v (.int .i64 (.ofNat 1)))) fun d105 =>
    go3 [d85, d86, d105, d88] T39 n29 l41
     ) (
    K3 [d85, d86, d87, d88] T39 n29 l41
     )) [d41, d42, d43, d44] T12 n4 l12) [d13, d14, d30, d31] T8 n2 l8
   )) fun K4 =>
  lpc fu (fun go4 v9 T40 n30 l42 => unc v9 fun d106 w32 => unc w32 fun d107 w33 => unc w33 fun d108 w34 => unc w34 fun d109 w35 =>
   bnd (zbin .i .leq d108 d109) fun d110 =>
   opD.gjd (fun k20 => zgd d110 true (
    k20 (.op [] []) d106 T40 n30 l42
   ) (k20 (.op [] []) (.v undef) T40 n30 l42)) fun f20 d111 T41 n31 l43 =>
   opD.gjd (fun k21 => zgd d110 true (
    k21 (.op [] []) d109 T41 n31 l43
   ) (k21 (.op [] []) (.v undef) T41 n31 l43)) fun f21 d112 T42 n32 l44 =>
   opD.gjd (fun k22 => zgd d110 true (
    bnd (zindexAddr (.sl 1) d111 d112) fun d113 =>
    k22 (.op [] []) d113 T42 n32 l44
   ) (k22 (.op [] []) (.v undef) T42 n32 l44)) fun f22 d114 T43 n33 l45 =>
   opD.gjd (fun k23 => zgd d110 true (
    bnd (zload none T43 d114) fun d115 =>
    k23 (.op (ptr? d114) []) d115 T43 n33 l45
   ) (k23 (.op [] []) (.v undef) T43 n33 l45)) fun f23 d116 T44 n34 l46 =>
   opD.gjd (fun k24 => zgd d110 true (
    k24 (.op [] []) d106 T44 n34 l46
   ) (k24 (.op [] []) (.v undef) T44 n34 l46)) fun f24 d117 T45 n35 l47 =>
   opD.gjd (fun k25 => zgd d110 true (
    k25 (.op [] []) d107 T45 n35 l47
   ) (k25 (.op [] []) (.v undef) T45 n35 l47)) fun f25 d118 T46 n36 l48 =>
   opD.gjd (fun k26 => zgd d110 true (
    bnd (zindexAddr (.sl 1) d117 d118) fun d119 =>
    k26 (.op [] []) d119 T46 n36 l48
   ) (k26 (.op [] []) (.v undef) T46 n36 l48)) fun f26 d120 T47 n37 l49 =>
   opD.gjd (fun k27 => zgd d110 true (
    bnd (zload none T47 d120) fun d121 =>
    k27 (.op (ptr? d120) []) d121 T47 n37 l49
   ) (k27 (.op [] []) (.v undef) T47 n37 l49)) fun f27 d122 T48 n38 l50 =>
   opD.gjd (fun k28 => zgd d110 true (
    bndR (F178 [d116, d122] T48 n38) fun d123 T49 n39 l51 => fN (lowN n38 l51) fun l52 => bB (Nat.beq l52 n38) <|
    k28 (.call n38 n39) d123 T49 n39 l50
   ) (k28 (.op [] []) (.v undef) T48 n38 l50)) fun f28 d124 T50 n40 l53 =>
   opD.gjd (fun k29 => zgd d110 true (
    bnd (zun .not d124) fun d125 =>
    k29 (.op [] []) d125 T50 n40 l53
   ) (k29 (.op [] []) (.v undef) T50 n40 l53)) fun f29 d126 T51 n41 l54 =>
   bnd (zpick d110 d126 (.v (.bool false))) fun d127 =>
   cnd d127 (
   bnd (zbin .i .sub d109 (.v (.int .i64 (.ofNat 1)))) fun d128 =>
  go4 [d106, d107, d108, d128] T51 n41 l54
   ) (
  K4 [d106, d107, d108, d109] T51 n41 l54
   )) [d9, d10, d11, d12] T3 n1 l3) fun K5 =>
 lpc fu (fun go5 v10 T52 n42 l55 => unc v10 fun d129 w36 => unc w36 fun d130 w37 => unc w37 fun d131 w38 => unc w38 fun d132 w39 =>
  bnd (zbin .i .leq d131 d132) fun d133 =>
  opD.gjd (fun k30 => zgd d133 true (
   k30 (.op [] []) d129 T52 n42 l55
  ) (k30 (.op [] []) (.v undef) T52 n42 l55)) fun f30 d134 T53 n43 l56 =>
  opD.gjd (fun k31 => zgd d133 true (
   k31 (.op [] []) d131 T53 n43 l56
  ) (k31 (.op [] []) (.v undef) T53 n43 l56)) fun f31 d135 T54 n44 l57 =>
  opD.gjd (fun k32 => zgd d133 true (
   bnd (zindexAddr (.sl 1) d134 d135) fun d136 =>
   k32 (.op [] []) d136 T54 n44 l57
  ) (k32 (.op [] []) (.v undef) T54 n44 l57)) fun f32 d137 T55 n45 l58 =>
  opD.gjd (fun k33 => zgd d133 true (
   bnd (zload none T55 d137) fun d138 =>
   k33 (.op (ptr? d137) []) d138 T55 n45 l58
  ) (k33 (.op [] []) (.v undef) T55 n45 l58)) fun f33 d139 T56 n46 l59 =>
  opD.gjd (fun k34 => zgd d133 true (
   k34 (.op [] []) d129 T56 n46 l59
  ) (k34 (.op [] []) (.v undef) T56 n46 l59)) fun f34 d140 T57 n47 l60 =>
  opD.gjd (fun k35 => zgd d133 true (
   k35 (.op [] []) d130 T57 n47 l60
  ) (k35 (.op [] []) (.v undef) T57 n47 l60)) fun f35 d141 T58 n48 l61 =>
  opD.gjd (fun k36 => zgd d133 true (
   bnd (zindexAddr (.sl 1) d140 d141) fun d142 =>
   k36 (.op [] []) d142 T58 n48 l61
  ) (k36 (.op [] []) (.v undef) T58 n48 l61)) fun f36 d143 T59 n49 l62 =>
  opD.gjd (fun k37 => zgd d133 true (
   bnd (zload none T59 d143) fun d144 =>
   k37 (.op (ptr? d143) []) d144 T59 n49 l62
  ) (k37 (.op [] []) (.v undef) T59 n49 l62)) fun f37 d145 T60 n50 l63 =>
  opD.gjd (fun k38 => zgd d133 true (
   bndR (F178 [d139, d145] T60 n50) fun d146 T61 n51 l64 => fN (lowN n50 l64) fun l65 => bB (Nat.beq l65 n50) <|
   k38 (.call n50 n51) d146 T61 n51 l63
  ) (k38 (.op [] []) (.v undef) T60 n50 l63)) fun f38 d147 T62 n52 l66 =>
  bnd (zpick d133 d147 (.v (.bool false))) fun d148 =>
  cnd d148 (
  bnd (zbin .i .add d131 (.v (.int .i64 (.ofNat 1)))) fun d149 =>
 go5 [d129, d130, d149, d132] T62 n52 l66
  ) (
 K5 [d129, d130, d131, d132] T62 n52 l66
  )) [a0, a1, d7, d8] T2 nx l2
theorem e180 (fu : Nat) (a0 a1 a2 a3 : D) (T : ST) (nx : Nat) : fnK Tryz.prog [(178, F178)] (drD Tryz.prog [(178, F178)]) fu Tryz.f180 (.s .o (.s .o (.s .o (.j [0, 1, 10, 11] (.b (.l [0, 1, 10, 11] (.s (.s .o (.c .o .o)) (.b .o)))) (.j [0, 1, 10, 11] (.b (.l [0, 1, 10, 11] (.s (.s .o (.c .o .o)) (.b .o)))) (.s (.s .o (.c (.s .o (.s .o .o)) .o)) (.s .o (.s .o (.s .o (.j [0, 1, 11] (.b (.l [0, 1, 10, 11] (.b (.j [0, 1, 10, 11] (.b (.l [0, 1, 10, 11] (.s (.s .o (.c .o .o)) (.b .o)))) (.j [0, 1, 10, 11] (.b (.l [0, 1, 10, 11] (.s (.s .o (.c .o .o)) (.b .o)))) (.s (.s .o (.c .o .o)) (.s .o (.s .o .o)))))))) (.s .o (.s .o .o)))))))))))) [a0, a1, a2, a3] T nx = s180 fu a0 a1 a2 a3 T nx := by kernel_rfl
noncomputable def F180 : Sem := ar4 (s180 FU)
theorem k180 : FnOk Tryz.prog 180 F180 := ar4_ok (fnK_ok (by kernel_rfl) (CallsOk.cons h178 k178 CallsOk.nil) (drD_ok hmix (CallsOk.cons h178 k178 CallsOk.nil))) (e180 FU)
end Go.Abs
