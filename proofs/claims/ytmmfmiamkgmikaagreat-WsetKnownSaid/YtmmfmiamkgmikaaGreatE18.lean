/- Running code over abstract data, part 18: functions without a body. -/
import Derived.Test.YtmmfmiamkgmikaaGreatE17
import Derived.Lib.Bytealg
set_option linter.unusedVariables false
set_option linter.unusedSimpArgs false
namespace Go.Abs

theorem XOk.of {P : Program} {f : FuncId} {fn : Func} {e : Array Value → _root_.Go.Sem Value} {F : Sem} (hf : P.funcs[f]? = some fn) (hn : (fn.name == "runtime.NumGoroutine") = false) (hb : fn.body.isNone = true) (hx : Extern.findNext fn = none) (he : Extern.find fn = some e)
    (h : ∀ (ds : List D) (T : ST) (nx : Nat) (rt : Rt), F ds T nx = some rt → ∃ (vs : List Value) (z : Value), ds = vs.map .v ∧ rt = ⟨.v z, T, nx, nx⟩ ∧ ∀ w : World, (e vs.toArray).run P w = .ok z w) : XOk P f F := by
  intro ds T nx rt hr
  obtain ⟨vs, z, h1, h2, h3⟩ := h ds T nx rt hr
  refine ⟨vs, z, h1, h2, fun w => ?_⟩
  have hn' : ¬ fn.name = "runtime.NumGoroutine" := by simpa using hn
  have hb' : fn.body = none := by simpa using hb
  simp [callFunc, hf, hn', hb', hx, he, h3, mark]
  rfl

noncomputable def ret1 (z : Value) (T : ST) (nx : Nat) : Option Rt := some ⟨.v z, T, nx, nx⟩
noncomputable def xFbits : Sem := fun ds T nx => match ds with
  | [.v (.float .f64 b)] => ret1 (.int .u64 (.ofNat b)) T nx
  | _ => none
noncomputable def xFfrom : Sem := fun ds T nx => match ds with
  | [.v (.int .u64 (.ofNat b))] => ret1 (.float .f64 b) T nx
  | _ => none
noncomputable def xTrunc : Sem := fun ds T nx => match ds with
  | [.v (.float .f64 b)] => match FloatKind.f64.decode b with
    | .nan _ _ => none
    | d => fN (FloatKind.f64.encode (d.integral .zero)) fun c => ret1 (.float .f64 c) T nx
  | _ => none
/-- Where is a byte first? -/
noncomputable def idxB : List UInt8 → UInt8 → Nat → Int
  | [], _, _ => .negSucc 0
  | b :: l, c, i => Bool.rec (motive := fun _ => Int) (idxB l c (Nat.succ i)) (.ofNat i) (Nat.beq b.toNat c.toNat)
theorem idxB_eq : ∀ (l : List UInt8) (c : UInt8) (i : Nat), idxB l c i = if Lib.indexByte l c = -1 then -1 else Lib.indexByte l c + i
  | [], _, _ => rfl
  | b :: l, c, i => by
    have h : idxB (b :: l) c i = Bool.rec (motive := fun _ => Int) (idxB l c (Nat.succ i)) (.ofNat i) (Nat.beq b.toNat c.toNat) := rfl
    have h2 : Lib.indexByte (b :: l) c = if b == c then 0 else if Lib.indexByte l c == -1 then -1 else Lib.indexByte l c + 1 := rfl
    rw [h, idxB_eq l c, h2]
    have e : (b == c) = Nat.beq b.toNat c.toNat := by
      by_cases hab : b = c
      · subst hab; simp
      · have h1 : (b == c) = false := by simpa using hab
        have h2 : Nat.beq b.toNat c.toNat = false := by
          cases hh : Nat.beq b.toNat c.toNat with
          | false => rfl
          | true => exact absurd (UInt8.toNat_inj.1 (Nat.eq_of_beq_eq_true hh)) hab
        rw [h1, h2]
    rw [e]
    cases Nat.beq b.toNat c.toNat with
    | true => simp
    | false =>
      have hge := Lib.indexByte_ge l c
      by_cases hh : Lib.indexByte l c = -1
      · simp [hh]
      · have hh2 : (Lib.indexByte l c == -1) = false := by simpa using hh
        rw [if_neg hh, hh2]
        simp only [Bool.false_eq_true, if_false]
        rw [if_neg (by omega)]
        omega
noncomputable def xByte : Sem := fun ds T nx => match ds with
  | [.v (.string s), .v (.int .u8 c)] => fI (idxB s.data.toList c.toNat.toUInt8 0) fun i => ret1 (.int .i64 i) T nx
  | _ => none
section
variable {P : Program} {f : FuncId} {fn : Func}
theorem xFbits_ok (hf : P.funcs[f]? = some fn) (hn : (fn.name == "runtime.NumGoroutine") = false) (hb : fn.body.isNone = true) (hx : Extern.findNext fn = none) (he : Extern.find fn = some Extern.MathFloatBits.float64bits) : XOk P f xFbits :=
  XOk.of hf hn hb hx he fun ds T nx rt hr => by
    unfold xFbits at hr
    split at hr
    · cases hr; exact ⟨[_], _, rfl, rfl, fun w => rfl⟩
    · cases hr
theorem xFfrom_ok (hf : P.funcs[f]? = some fn) (hn : (fn.name == "runtime.NumGoroutine") = false) (hb : fn.body.isNone = true) (hx : Extern.findNext fn = none) (he : Extern.find fn = some Extern.MathFloatBits.float64frombits) : XOk P f xFfrom :=
  XOk.of hf hn hb hx he fun ds T nx rt hr => by
    unfold xFfrom at hr
    split at hr
    · cases hr; exact ⟨[_], _, rfl, rfl, fun w => rfl⟩
    · cases hr
theorem xTrunc_ok (hf : P.funcs[f]? = some fn) (hn : (fn.name == "runtime.NumGoroutine") = false) (hb : fn.body.isNone = true) (hx : Extern.findNext fn = none) (he : Extern.find fn = some (Extern.MathFloor.toIntegral "math.archTrunc" .zero)) : XOk P f xTrunc :=
  XOk.of hf hn hb hx he fun ds T nx rt hr => by
    unfold xTrunc at hr
    split at hr
    · rename_i b
      split at hr
      · cases hr
      · rename_i d hd
        rw [fN_eq] at hr
        cases hr
        refine ⟨[_], _, rfl, rfl, fun w => ?_⟩
        have key : ∀ d : Ieee.Datum, (∀ s t, d = .nan s t → False) → ((match d with
            | .nan s t => if FloatKind.f64.format.quiet t = t then pure (.float .f64 b) else do
                let kept ← choose (.extern "math.Floor,Ceil,Trunc,RoundToEven.signallingNaN kept" 2)
                pure (.float .f64 (if kept == 1 then b else FloatKind.f64.encode (.nan s (FloatKind.f64.format.quiet t))))
            | d => pure (.float .f64 (FloatKind.f64.encode (d.integral .zero))) : Go.Sem Value).run P w) = .ok (.float .f64 (FloatKind.f64.encode (d.integral .zero))) w := by
          intro d hd
          cases d with
          | nan s t => exact absurd rfl (hd s t)
          | number s m i => rfl
          | infinity s => rfl
        exact key _ hd
    · cases hr
theorem xByte_ok (hf : P.funcs[f]? = some fn) (hn : (fn.name == "runtime.NumGoroutine") = false) (hb : fn.body.isNone = true) (hx : Extern.findNext fn = none) (he : Extern.find fn = some Extern.BytealgIndexByte.indexByte) : XOk P f xByte :=
  XOk.of hf hn hb hx he fun ds T nx rt hr => by
    unfold xByte at hr
    split at hr
    · rename_i s c
      rw [fI_eq] at hr
      cases hr
      refine ⟨[_, _], _, rfl, rfl, fun w => ?_⟩
      have e : idxB s.data.toList c.toNat.toUInt8 0 = Lib.indexByte s.data.toList c.toNat.toUInt8 := by
        rw [idxB_eq]
        split
        · rename_i h; exact h.symm
        · simp
      rw [e]
      exact Lib.run_indexByteString s c w
    · cases hr
end

/-! ### Function values that are called -/
noncomputable def zclo {ρ : Type} (d : D) (k : FuncId → List D → Option ρ) : Option ρ :=
  D.rec (motive_1 := fun _ => Option ρ) (motive_2 := fun _ => Unit) (motive_3 := fun _ => Unit) (fun _ => none) none (fun _ _ => none) (fun _ _ => none) (fun _ _ _ => none) (fun _ _ _ => none) none (fun _ _ _ _ => none) (fun _ _ => none) (fun _ _ _ _ => none)
    (fun f caps _ => k f caps) () (fun _ _ _ _ => ()) () (fun _ _ _ _ => ()) d
@[reducible] noncomputable def zsome {α ρ : Type} (o : Option α) (k : α → Option ρ) : Option ρ := Option.rec (motive := fun _ => Option ρ) none k o
end Go.Abs
