/- The abstract logic, part 3: addresses, parts of values, lengths, slicing. -/
import Derived.Test.YtmmfmiamkgmikaaGreatA2
set_option linter.unusedVariables false
set_option linter.unusedSimpArgs false
namespace Go.Abs

class TyStr (P : Program) (t : TypeId) : Prop where
  str : P.underlying t = some .string

section
variable {P : Program} {o : Oper} {s : AS}

theorem run_fieldAt {S : TypeId} {f off T : Nat} [h : Fld P S f off T] (w : World) (a : Addr) : (Instr.fieldAt S (.pointer (some a)) f).run P w = .ok (.pointer (some (a.add off))) w := by
  have h1 := h.fld
  obtain ⟨d, hd, h2⟩ := Option.bind_eq_some_iff.1 h1
  cases d <;> simp at h2
  rename_i fs
  obtain ⟨fd, hfd, ho, hT⟩ := h2
  have hs := h.size
  simp only [Option.any_map] at hs
  cases hq : P.info? T with
  | none => simp [hq] at hs
  | some i =>
    simp [hq] at hs
    subst ho
    subst hT
    simp [Instr.fieldAt, run_underlying hd, hfd, Instr.sureAddr, fieldPlace, sizeOf, typeInfo, hq, hs]

theorem Rep.ptr_inv {M : Nat → Prop} {β : Nat → Option Nat} {w : World} {r es i off : Nat} {y : Value} (h : Rep M β w (.ptr r es i off) y) : ∃ b, β r = some b ∧ y = .pointer (some ⟨b, i * es + off, none⟩) := by
  cases h with
  | base h => cases h
  | ptr r es i off b hb => exact ⟨b, hb, rfl⟩
theorem Refs.ptr_inv {A : Nat → Prop} {r es i off : Nat} (h : Refs A (.ptr r es i off)) : A r := by cases h; assumption
theorem Rep.bp_inv {M : Nat → Prop} {β : Nat → Option Nat} {w : World} {cs : List D} {y : Value} (h : Rep M β w (.bp cs) y) :
    ∃ (ad : Addr) (val : Nat → Value), y = .pointer (some ad) ∧ (ad.block < w.heap.size ∧ ¬ M ad.block) ∧
      (∀ (j : Nat) (d : D), cs[j]? = some d → w.cell? (ad.add j) = some (val j) ∧ (val j).oneCell' = true) ∧ (∀ (j : Nat) (d : D), cs[j]? = some d → Rep0 M w d (val j)) := by
  cases h with
  | base h =>
    cases h with
    | bp cs ad val ha hv h => exact ⟨ad, val, rfl, ha, hv, h⟩

theorem bp_drop {M : Nat → Prop} {β : Nat → Option Nat} {w : World} {cs : List D} {ad : Addr} {val : Nat → Value} (ha : ad.block < w.heap.size ∧ ¬ M ad.block)
    (hv : ∀ (j : Nat) (d : D), cs[j]? = some d → w.cell? (ad.add j) = some (val j) ∧ (val j).oneCell' = true) (h : ∀ (j : Nat) (d : D), cs[j]? = some d → Rep0 M w d (val j)) (n : Nat) :
    Rep M β w (.bp (cs.drop n)) (.pointer (some (ad.add n))) :=
  .base (.bp _ _ (fun j => val (n + j)) (by rw [block_add]; exact ha) (fun j d hj => by rw [add_add]; exact hv (n + j) d (by simpa [List.getElem?_drop] using hj))
    (fun j d hj => h (n + j) d (by simpa [List.getElem?_drop] using hj)))

theorem core_fieldAddr_ptr {S f foff T : Nat} [Fld P S f foff T] {x : Operand} {r es i off : Nat} (ho : o.op = .fieldAddr S x f) (hx : evx s x = some (.ptr r es i off)) :
    Core P o s [] ⟨.ptr r es i (off + foff), [], []⟩ :=
  Core.value fun s2 h1 _ M0 A β w a hI => by
    have e1 := evx_rep hI ((h1 x (by simp [ho, Op.operands])).trans hx)
    obtain ⟨b, hb, hy⟩ := e1.1.ptr_inv
    refine ⟨_, by simp [execOp, ho, hy, run_fieldAt (P := P) w]; try rfl, ?_, .ptr _ _ _ _ e1.2.ptr_inv⟩
    rw [add_mk, Nat.add_assoc]
    exact .ptr _ _ _ _ _ hb

theorem core_fieldAddr_bp {S f foff T : Nat} [Fld P S f foff T] {x : Operand} {cs : List D} (ho : o.op = .fieldAddr S x f) (hx : evx s x = some (.bp cs)) :
    Core P o s [] ⟨.bp (cs.drop foff), [], []⟩ :=
  Core.value fun s2 h1 _ M0 A β w a hI => by
    have e1 := evx_rep hI ((h1 x (by simp [ho, Op.operands])).trans hx)
    obtain ⟨ad, val, hy, ha, hv, h⟩ := e1.1.bp_inv
    exact ⟨_, by simp [execOp, ho, hy, run_fieldAt (P := P) w]; try rfl, bp_drop ha hv h _, .bp _⟩

theorem run_field_agg {S f off T n : Nat} [h : Fld P S f off T] [TyAgg P T n] (w : World) (cs : Array Value) : (Instr.field S (.agg cs) f).run P w = .ok (.agg (cs.extract off (off + n))) w := by
  have h1 := h.fld
  obtain ⟨d, hd, h2⟩ := Option.bind_eq_some_iff.1 h1
  cases d <;> simp at h2
  rename_i fs
  obtain ⟨fd, hfd, ho, hT⟩ := h2
  subst ho
  subst hT
  simp [Instr.field, run_underlying hd, hfd, asAgg, run_part_agg]
theorem run_field_one {S f off T : Nat} [h : Fld P S f off T] [TyOne P T] (w : World) (cs : Array Value) (v : Value) (hv : cs[off]? = some v) : (Instr.field S (.agg cs) f).run P w = .ok v w := by
  have h1 := h.fld
  obtain ⟨d, hd, h2⟩ := Option.bind_eq_some_iff.1 h1
  cases d <;> simp at h2
  rename_i fs
  obtain ⟨fd, hfd, ho, hT⟩ := h2
  subst ho
  subst hT
  simp [Instr.field, run_underlying hd, hfd, asAgg, run_part_one w cs _ v hv]

theorem rep_agg_part {M : Nat → Prop} {β : Nat → Option Nat} {w : World} {cs : List D} {ys : Array Value} (hl : cs.length = ys.size) (h1 : ∀ (i : Nat) (y : Value), ys[i]? = some y → y.oneCell' = true)
    (h : ∀ (i : Nat) (d : D) (y : Value), cs[i]? = some d → ys[i]? = some y → Rep M β w d y) (off n : Nat) (hn : off + n ≤ cs.length) :
    Rep M β w (.agg ((cs.drop off).take n)) (.agg (ys.extract off (off + n))) := by
  refine .agg _ _ (by simp; omega) (fun i y hi => ?_) (fun i d y hd hy => ?_)
  · simp only [Array.getElem?_extract] at hi
    split at hi
    · exact h1 _ y hi
    · cases hi
  · simp only [List.getElem?_take, List.getElem?_drop] at hd
    simp only [Array.getElem?_extract] at hy
    split at hd
    · split at hy
      · exact h _ d y hd hy
      · cases hy
    · cases hd

theorem core_field_agg {S f off T n : Nat} [Fld P S f off T] [TyAgg P T n] {x : Operand} {cs : List D} (ho : o.op = .field S x f) (hx : evx s x = some (.agg cs)) (hn : off + n ≤ cs.length) :
    Core P o s [] ⟨.agg ((cs.drop off).take n), [], []⟩ :=
  Core.value fun s2 h1 _ M0 A β w a hI => by
    have e1 := evx_rep hI ((h1 x (by simp [ho, Op.operands])).trans hx)
    obtain ⟨ys, hy, hl, hone, h⟩ := e1.1.agg_inv
    exact ⟨_, by simp [execOp, ho, hy, run_field_agg (P := P) w]; try rfl, rep_agg_part hl hone h off n hn, .agg _ fun d hd => e1.2.agg_inv d (List.mem_of_mem_drop (List.mem_of_mem_take hd))⟩

theorem core_field_one {S f off T : Nat} [Fld P S f off T] [TyOne P T] {x : Operand} {cs : List D} {d : D} (ho : o.op = .field S x f) (hx : evx s x = some (.agg cs)) (hd : cs[off]? = some d) :
    Core P o s [] ⟨d, [], []⟩ :=
  Core.value fun s2 h1 _ M0 A β w a hI => by
    have e1 := evx_rep hI ((h1 x (by simp [ho, Op.operands])).trans hx)
    obtain ⟨ys, hy, hl, hone, h⟩ := e1.1.agg_inv
    have hlt : off < ys.size := by rw [← hl]; exact (List.getElem?_eq_some_iff.1 hd).1
    have hv : ys[off]? = some ys[off] := by simp [hlt]
    exact ⟨ys[off], by simp [execOp, ho, hy, run_field_one (P := P) w ys _ hv], h off d _ hd hv, e1.2.agg_inv d (List.mem_of_getElem? hd)⟩

/-! slices -/
theorem Rep.sl_inv {M : Nat → Prop} {β : Nat → Option Nat} {w : World} {es : Nat} {rows : List (List D)} {y : Value} (h : Rep M β w (.sl es rows) y) :
    ∃ (a : Option Addr) (c : Nat) (ad : Addr) (val : Nat → Nat → Value), y = .slice a rows.length c ∧ rows.length ≤ c ∧ c ≤ maxLen ∧ (∀ (i : Nat) (row : List D), rows[i]? = some row → row.length = es) ∧
      (0 < rows.length → a = some ad ∧ ad.block < w.heap.size ∧ ¬ M ad.block) ∧
      (∀ (i : Nat) (row : List D) (j : Nat) (d : D), rows[i]? = some row → row[j]? = some d → w.cell? (ad.add (i * es + j)) = some (val i j) ∧ (val i j).oneCell' = true) ∧
      (∀ (i : Nat) (row : List D) (j : Nat) (d : D), rows[i]? = some row → row[j]? = some d → Rep0 M w d (val i j)) ∧ (a = none → c = 0) := by
  cases h with
  | base h =>
    cases h with
    | sl es rows a c ad val hc hm hz hr ha hv h => exact ⟨a, c, ad, val, rfl, hc, hm, hr, ha, hv, h, hz⟩

theorem run_indexAt_slc {t e es : Nat} [h : Slc P t e es] (w : World) (a : Addr) (n c : Nat) (k : IntKind) (i : Int) (h0 : 0 ≤ i) (hi : i.toNat < n) :
    (Instr.indexAt t (.slice (some a) n c) (.int k i)).run P w = .ok (.pointer (some (a.add (i.toNat * es)))) w := by
  simp [Instr.indexAt, asIntOf, run_underlying h.slc, h0, show i < (n : Int) by omega, run_sizeOf' w h.size]

theorem core_indexAddr_sl {t e es : Nat} [Slc P t e es] {x ix : Operand} {rows : List (List D)} {k : IntKind} {i : Int} {row : List D} (ho : o.op = .indexAddr t x ix)
    (hx : evx s x = some (.sl es rows)) (hi : evx s ix = some (.v (.int k i))) (h0 : 0 ≤ i) (hrow : rows[i.toNat]? = some row) : Core P o s [] ⟨.bp row, [], []⟩ :=
  Core.value fun s2 h1 _ M0 A β w a hI => by
    have e1 := evx_rep hI ((h1 x (by simp [ho, Op.operands])).trans hx)
    have e2 := (evx_rep hI ((h1 ix (by simp [ho, Op.operands])).trans hi)).1.one
    obtain ⟨a', c, ad, val, hy, hc, hm, hr, ha, hv, h, hz⟩ := e1.1.sl_inv
    have hlt : i.toNat < rows.length := (List.getElem?_eq_some_iff.1 hrow).1
    obtain ⟨rfl, hb, hM⟩ := ha (by omega)
    refine ⟨_, by simp [execOp, ho, hy, e2, run_indexAt_slc (P := P) (t := t) w ad _ c k i h0 hlt]; try rfl, .base (.bp row _ (val i.toNat) (by rw [block_add]; exact ⟨hb, hM⟩) (fun j d hj => ?_) fun j d hj => h _ row j d hrow hj), .bp _⟩
    rw [add_add]
    exact hv _ row j d hrow hj

theorem Rep.vw_inv {M : Nat → Prop} {β : Nat → Option Nat} {w : World} {r es lo n : Nat} {y : Value} (h : Rep M β w (.vw r es lo n) y) :
    (∃ (b c : Nat) (cs : Array Value) (e : TypeId), β r = some b ∧ y = .slice (some ⟨b, lo * es, none⟩) n c ∧ n ≤ c ∧ c ≤ maxLen ∧ w.heap[b]? = some (.cells cs e (0, 0)) ∧ (lo + c) * es ≤ cs.size) ∨
    (β r = none ∧ lo = 0 ∧ n = 0 ∧ y = .slice none 0 0) := by
  cases h with
  | base h => cases h
  | vw r es lo n b c cs e hb hn hm hh hc => exact .inl ⟨b, c, cs, e, hb, rfl, hn, hm, hh, hc⟩
  | vw0 r es hb => exact .inr ⟨hb, rfl, rfl, rfl⟩
theorem Refs.vw_inv {A : Nat → Prop} {r es lo n : Nat} (h : Refs A (.vw r es lo n)) : A r := by cases h; assumption

theorem core_indexAddr_vw {t e es : Nat} [Slc P t e es] {x ix : Operand} {r lo n : Nat} {k : IntKind} {i : Int} (ho : o.op = .indexAddr t x ix)
    (hx : evx s x = some (.vw r es lo n)) (hi : evx s ix = some (.v (.int k i))) (h0 : 0 ≤ i) (hlt : i.toNat < n) : Core P o s [] ⟨.ptr r es (lo + i.toNat) 0, [], []⟩ :=
  Core.value fun s2 h1 _ M0 A β w a hI => by
    have e1 := evx_rep hI ((h1 x (by simp [ho, Op.operands])).trans hx)
    have e2 := (evx_rep hI ((h1 ix (by simp [ho, Op.operands])).trans hi)).1.one
    rcases e1.1.vw_inv with ⟨b, c, cs, e', hb, hy, hn, hm, hh, hc⟩ | ⟨_, _, rfl, _⟩
    · refine ⟨_, by simp [execOp, ho, hy, e2, run_indexAt_slc (P := P) (t := t) w ⟨b, lo * es, none⟩ n c k i h0 hlt]; try rfl, ?_, .ptr _ _ _ _ e1.2.vw_inv⟩
      rw [add_mk, ← Nat.add_mul]
      exact .ptr r es (lo + i.toNat) 0 b hb
    · omega

theorem run_indexAt_arr {t n e es : Nat} [h : Arr P t n e es] (w : World) (a : Addr) (k : IntKind) (i : Int) (h0 : 0 ≤ i) (hi : i.toNat < n) :
    (Instr.indexAt t (.pointer (some a)) (.int k i)).run P w = .ok (.pointer (some (a.add (i.toNat * es)))) w := by
  simp [Instr.indexAt, asIntOf, run_underlying h.arr, Instr.sureAddr, h0, show i < (n : Int) by omega, run_sizeOf' w h.size]

theorem core_indexAddr_arr_ptr {t n e es' : Nat} [Arr P t n e es'] {x ix : Operand} {r es j off : Nat} {k : IntKind} {i : Int} (ho : o.op = .indexAddr t x ix)
    (hx : evx s x = some (.ptr r es j off)) (hi : evx s ix = some (.v (.int k i))) (h0 : 0 ≤ i) (hlt : i.toNat < n) : Core P o s [] ⟨.ptr r es j (off + i.toNat * es'), [], []⟩ :=
  Core.value fun s2 h1 _ M0 A β w a hI => by
    have e1 := evx_rep hI ((h1 x (by simp [ho, Op.operands])).trans hx)
    have e2 := (evx_rep hI ((h1 ix (by simp [ho, Op.operands])).trans hi)).1.one
    obtain ⟨b, hb, hy⟩ := e1.1.ptr_inv
    refine ⟨_, by simp [execOp, ho, hy, e2, run_indexAt_arr (P := P) (t := t) w _ k i h0 hlt]; try rfl, ?_, .ptr _ _ _ _ e1.2.ptr_inv⟩
    rw [add_mk, Nat.add_assoc]
    exact .ptr _ _ _ _ _ hb

theorem core_indexAddr_arr_bp {t n e es' : Nat} [Arr P t n e es'] {x ix : Operand} {cs : List D} {k : IntKind} {i : Int} (ho : o.op = .indexAddr t x ix)
    (hx : evx s x = some (.bp cs)) (hi : evx s ix = some (.v (.int k i))) (h0 : 0 ≤ i) (hlt : i.toNat < n) : Core P o s [] ⟨.bp (cs.drop (i.toNat * es')), [], []⟩ :=
  Core.value fun s2 h1 _ M0 A β w a hI => by
    have e1 := evx_rep hI ((h1 x (by simp [ho, Op.operands])).trans hx)
    have e2 := (evx_rep hI ((h1 ix (by simp [ho, Op.operands])).trans hi)).1.one
    obtain ⟨ad, val, hy, ha, hv, h⟩ := e1.1.bp_inv
    exact ⟨_, by simp [execOp, ho, hy, e2, run_indexAt_arr (P := P) (t := t) w _ k i h0 hlt]; try rfl, bp_drop ha hv h _, .bp _⟩

/-- A cell of an array value. -/
theorem core_index_arr {t n e es : Nat} [h : Arr P t n e es] [TyOne P e] {x ix : Operand} {cs : List D} {d : D} {k : IntKind} {i : Int} (ho : o.op = .index t x ix)
    (hx : evx s x = some (.agg cs)) (hi : evx s ix = some (.v (.int k i))) (h0 : 0 ≤ i) (hlt : i.toNat < n) (hd : cs[i.toNat * es]? = some d) : Core P o s [] ⟨d, [], []⟩ :=
  Core.value fun s2 h1 _ M0 A β w a hI => by
    have e1 := evx_rep hI ((h1 x (by simp [ho, Op.operands])).trans hx)
    have e2 := (evx_rep hI ((h1 ix (by simp [ho, Op.operands])).trans hi)).1.one
    obtain ⟨ys, hy, hl, hone, hh⟩ := e1.1.agg_inv
    have hlt' : i.toNat * es < ys.size := by rw [← hl]; exact (List.getElem?_eq_some_iff.1 hd).1
    have hv : ys[i.toNat * es]? = some ys[i.toNat * es] := by simp [hlt']
    refine ⟨_, ?_, hh _ d _ hd hv, e1.2.agg_inv d (List.mem_of_getElem? hd)⟩
    simp [execOp, ho, hy, e2, Instr.index, asIntOf, run_underlying h.arr, h0, show i < (n : Int) by omega, run_sizeOf' w h.size, run_part_one w ys _ _ hv]

theorem core_index_str {t : Nat} [h : TyStr P t] {x ix : Operand} {b : ByteArray} {k : IntKind} {i : Int} (ho : o.op = .index t x ix)
    (hx : evx s x = some (.v (.string b))) (hi : evx s ix = some (.v (.int k i))) (h0 : 0 ≤ i) (hlt : i.toNat < b.size) : Core P o s [] ⟨.v (.int .u8 (b[i.toNat]'hlt).toNat), [], []⟩ :=
  Core.value fun s2 h1 _ M0 A β w a hI => by
    have e1 := (evx_rep hI ((h1 x (by simp [ho, Op.operands])).trans hx)).1.one
    have e2 := (evx_rep hI ((h1 ix (by simp [ho, Op.operands])).trans hi)).1.one
    refine ⟨_, ?_, .base (.v _), .v _⟩
    simp [execOp, ho, e1, e2, Instr.index, asIntOf, run_underlying h.str, h0, hlt]

/-! len -/
theorem run_len {x : Operand} {t : TypeId} (ho : o.op = .call { callee := .builtin .len, args := #[x], argTypes := #[t] }) (w : World) (a : Act) :
    (execOp a.eval o).run P w = ((Builtin.len_ #[t] o.type #[a.eval x]).run P w).andThen fun v w => .ok (.value v) w := by
  simp [execOp, ho, resolve, invoke, builtin]

theorem core_len_sl {t e es : Nat} [h : Slc P t e es] {x : Operand} {es' : Nat} {rows : List (List D)} (ho : o.op = .call { callee := .builtin .len, args := #[x], argTypes := #[t] })
    (hx : evx s x = some (.sl es' rows)) : Core P o s [] ⟨.i rows.length, [], []⟩ :=
  Core.value fun s2 h1 _ M0 A β w a hI => by
    have e1 := evx_rep hI ((h1 x (by simp [ho, Op.operands, Call.operands])).trans hx)
    obtain ⟨a', c, ad, val, hy, _⟩ := e1.1.sl_inv
    exact ⟨_, by rw [run_len ho]; simp [Builtin.len_, hy, run_underlying h.slc, goInt], .base (.v _), .v _⟩

theorem core_len_e0 {t e es : Nat} [h : Slc P t e es] {x : Operand} (ho : o.op = .call { callee := .builtin .len, args := #[x], argTypes := #[t] })
    (hx : evx s x = some .e0) : Core P o s [] ⟨.i 0, [], []⟩ :=
  Core.value fun s2 h1 _ M0 A β w a hI => by
    have e1 := evx_rep hI ((h1 x (by simp [ho, Op.operands, Call.operands])).trans hx)
    obtain ⟨a', hy⟩ : ∃ a', a.eval x = .slice a' 0 0 := by
      have := e1.1
      generalize a.eval x = y at this
      cases this with
      | base h => cases h; exact ⟨_, rfl⟩
    exact ⟨_, by rw [run_len ho]; simp [Builtin.len_, hy, run_underlying h.slc, goInt], .base (.v _), .v _⟩

theorem core_len_vw {t e es : Nat} [h : Slc P t e es] {x : Operand} {r es' lo n : Nat} (ho : o.op = .call { callee := .builtin .len, args := #[x], argTypes := #[t] })
    (hx : evx s x = some (.vw r es' lo n)) : Core P o s [] ⟨.i n, [], []⟩ :=
  Core.value fun s2 h1 _ M0 A β w a hI => by
    have e1 := evx_rep hI ((h1 x (by simp [ho, Op.operands, Call.operands])).trans hx)
    obtain ⟨a', c, hy⟩ : ∃ a' c, a.eval x = .slice a' n c := by
      rcases e1.1.vw_inv with ⟨b, c, _, _, _, hy, _⟩ | ⟨_, _, rfl, hy⟩
      · exact ⟨_, _, hy⟩
      · exact ⟨_, _, hy⟩
    exact ⟨_, by rw [run_len ho]; simp [Builtin.len_, hy, run_underlying h.slc, goInt], .base (.v _), .v _⟩

theorem core_len_str {t : Nat} [h : TyStr P t] {x : Operand} {b : ByteArray} (ho : o.op = .call { callee := .builtin .len, args := #[x], argTypes := #[t] })
    (hx : evx s x = some (.v (.string b))) : Core P o s [] ⟨.i b.size, [], []⟩ :=
  Core.value fun s2 h1 _ M0 A β w a hI => by
    have e1 := (evx_rep hI ((h1 x (by simp [ho, Op.operands, Call.operands])).trans hx)).1.one
    exact ⟨_, by rw [run_len ho]; simp [Builtin.len_, e1, run_underlying h.str, goInt], .base (.v _), .v _⟩

/-! slicing -/
/-- A bound that stands there, or not. -/
def Bnd (s : AS) (x : Option Operand) (dflt k : Nat) : Prop := match x with
  | none => k = dflt
  | some x => ∃ kk, evx s x = some (.v (.int kk (k : Int)))

theorem Bnd.val {M0 A : Nat → Prop} {β : Nat → Option Nat} {s s2 : AS} {w : World} {a : Act} (hI : Inv M0 A β s2 w a) {x : Option Operand} {d k : Nat} (h : Bnd s x d k) (hs : ∀ y, x = some y → evx s2 y = evx s y) :
    (x = none ∧ k = d) ∨ ∃ y kk, x = some y ∧ a.eval y = .int kk (k : Int) := by
  cases x with
  | none => exact .inl ⟨rfl, h⟩
  | some y =>
    obtain ⟨kk, hk⟩ := h
    exact .inr ⟨y, kk, rfl, (evx_rep hI ((hs y rfl).trans hk)).1.one⟩

theorem run_sliceBounds (w : World) (isS : Bool) (len cap : Nat) (lo hi : Option Value) (l h : Nat) (hlo : (lo = none ∧ l = 0) ∨ ∃ kk, lo = some (.int kk (l : Int))) (hhi : (hi = none ∧ h = len) ∨ ∃ kk, hi = some (.int kk (h : Int)))
    (hl : l ≤ h) (hh : h ≤ cap) : (Instr.sliceBounds isS len cap lo hi none).run P w = .ok (l, h, cap) w := by
  rcases hlo with ⟨rfl, rfl⟩ | ⟨kl, rfl⟩ <;> rcases hhi with ⟨rfl, rfl⟩ | ⟨kh, rfl⟩ <;>
    simp [Instr.sliceBounds, Instr.sliceBound, asIntOf, hl, hh] <;> (intros; omega)

theorem core_slice_sl {t e es : Nat} [hs : Slc P t e es] {x : Operand} {lo hi : Option Operand} {rows : List (List D)} {l h : Nat} (ho : o.op = .slice t x lo hi none)
    (hx : evx s x = some (.sl es rows)) (hlo : Bnd s lo 0 l) (hhi : Bnd s hi rows.length h) (hl : l ≤ h) (hh : h ≤ rows.length) : Core P o s [] ⟨.sl es ((rows.take h).drop l), [], []⟩ :=
  Core.value fun s2 h1 _ M0 A β w a hI => by
    have e1 := evx_rep hI ((h1 x (by simp [ho, Op.operands])).trans hx)
    have b1 := hlo.val hI (fun y hy => h1 y (by simp [ho, Op.operands, hy]))
    have b2 := hhi.val hI (fun y hy => h1 y (by simp [ho, Op.operands, hy]))
    obtain ⟨a', c, ad, val, hy, hc, hm, hr, ha, hv, hrep, hz0⟩ := e1.1.sl_inv
    have hb := run_sliceBounds (P := P) w true rows.length c (lo.map a.eval) (hi.map a.eval) l h
      (by rcases b1 with ⟨rfl, rfl⟩ | ⟨y, kk, rfl, hy⟩ <;> simp_all) (by rcases b2 with ⟨rfl, rfl⟩ | ⟨y, kk, rfl, hy⟩ <;> simp_all) hl (by omega)
    have hlen : ((rows.take h).drop l).length = h - l := by simp; omega
    refine ⟨.slice (if c = l then a' else a'.map (·.add (l * es))) (h - l) (c - l), ?_, ?_, .sl _ _⟩
    · simp [execOp, ho, hy, Instr.sliceAt, Instr.slice, run_underlying hs.slc, hb, run_sizeOf' w hs.size]
    · rw [← hlen]
      refine .base (.sl es _ _ _ (ad.add (l * es)) (fun i j => val (l + i) j) (by rw [hlen]; omega) (by omega) (fun hz => ?_) (fun i row hi => ?_) (fun hp => ?_) (fun i row j d hi hj => ?_) (fun i row j d hi hj => ?_))
      · by_cases e : c = l
        · omega
        · rw [if_neg e] at hz
          have := hz0 (by cases a' <;> simp_all)
          omega
      · simp only [List.getElem?_drop, List.getElem?_take] at hi
        split at hi
        · exact hr _ row hi
        · cases hi
      · rw [hlen] at hp
        obtain ⟨rfl, g1, g2⟩ := ha (by omega)
        exact ⟨by rw [if_neg (by omega)]; try rfl, by rw [block_add]; exact g1, by rw [block_add]; exact g2⟩
      · simp only [List.getElem?_drop, List.getElem?_take] at hi
        split at hi
        · have := hv (l + i) row j d hi hj
          rw [add_add]
          rw [Nat.add_mul, Nat.add_assoc] at this
          exact this
        · cases hi
      · simp only [List.getElem?_drop, List.getElem?_take] at hi
        split at hi
        · exact hrep (l + i) row j d hi hj
        · cases hi

theorem core_slice_vw {t e es : Nat} [hs : Slc P t e es] {x : Operand} {lo hi : Option Operand} {r st n l h : Nat} (ho : o.op = .slice t x lo hi none)
    (hx : evx s x = some (.vw r es st n)) (hlo : Bnd s lo 0 l) (hhi : Bnd s hi n h) (hl : l < h) (hh : h ≤ n) : Core P o s [] ⟨.vw r es (st + l) (h - l), [], []⟩ :=
  Core.value fun s2 h1 _ M0 A β w a hI => by
    have e1 := evx_rep hI ((h1 x (by simp [ho, Op.operands])).trans hx)
    have b1 := hlo.val hI (fun y hy => h1 y (by simp [ho, Op.operands, hy]))
    have b2 := hhi.val hI (fun y hy => h1 y (by simp [ho, Op.operands, hy]))
    rcases e1.1.vw_inv with ⟨b, c, cs, e', hb, hy, hn, hm, hh', hc⟩ | ⟨_, _, rfl, _⟩
    · have hbd := run_sliceBounds (P := P) w true n c (lo.map a.eval) (hi.map a.eval) l h
        (by rcases b1 with ⟨rfl, rfl⟩ | ⟨y, kk, rfl, hy⟩ <;> simp_all) (by rcases b2 with ⟨rfl, rfl⟩ | ⟨y, kk, rfl, hy⟩ <;> simp_all) (by omega) (by omega)
      refine ⟨.slice (some ⟨b, (st + l) * es, none⟩) (h - l) (c - l), ?_, .vw _ _ _ _ b (c - l) cs e' hb (by omega) (by omega) hh' (Nat.le_trans (Nat.mul_le_mul_right _ (by omega)) hc), .vw _ _ _ _ e1.2.vw_inv⟩
      simp only [execOp, ho, hy, Instr.sliceAt, Instr.slice, Sem.run_bind, run_underlying hs.slc, Result.andThen_ok, hbd, run_sizeOf' w hs.size, Option.map_none, Sem.run_pure]
      rw [if_neg (by omega), Option.map_some, add_mk, ← Nat.add_mul]
    · omega

theorem core_slice_str {t : Nat} [hs : TyStr P t] {x : Operand} {lo hi : Option Operand} {b : ByteArray} {l h : Nat} (ho : o.op = .slice t x lo hi none)
    (hx : evx s x = some (.v (.string b))) (hlo : Bnd s lo 0 l) (hhi : Bnd s hi b.size h) (hl : l ≤ h) (hh : h ≤ b.size) : Core P o s [] ⟨.v (.string (b.extract l h)), [], []⟩ :=
  Core.value fun s2 h1 _ M0 A β w a hI => by
    have e1 := (evx_rep hI ((h1 x (by simp [ho, Op.operands])).trans hx)).1.one
    have b1 := hlo.val hI (fun y hy => h1 y (by simp [ho, Op.operands, hy]))
    have b2 := hhi.val hI (fun y hy => h1 y (by simp [ho, Op.operands, hy]))
    have hb := run_sliceBounds (P := P) w false b.size b.size (lo.map a.eval) (hi.map a.eval) l h
      (by rcases b1 with ⟨rfl, rfl⟩ | ⟨y, kk, rfl, hy⟩ <;> simp_all) (by rcases b2 with ⟨rfl, rfl⟩ | ⟨y, kk, rfl, hy⟩ <;> simp_all) hl (by omega)
    refine ⟨_, ?_, .base (.v _), .v _⟩
    simp [execOp, ho, e1, Instr.sliceAt, Instr.slice, run_underlying hs.str, hb]

/-- An array behind a borrowed pointer, as a slice of one-cell elements. -/
theorem core_slice_arr_bp {t n e : Nat} [hs : Arr P t n e 1] {x : Operand} {cs : List D} (ho : o.op = .slice t x none none none)
    (hx : evx s x = some (.bp cs)) (hn : n ≤ cs.length) (hm : n ≤ maxLen) : Core P o s [] ⟨.sl 1 ((cs.take n).map fun d => [d]), [], []⟩ :=
  Core.value fun s2 h1 _ M0 A β w a hI => by
    have e1 := evx_rep hI ((h1 x (by simp [ho, Op.operands])).trans hx)
    obtain ⟨ad, val, hy, ha, hv, hrep⟩ := e1.1.bp_inv
    have hlen : ((cs.take n).map fun d => [d]).length = n := by simp; omega
    refine ⟨.slice (some ad) n n, ?_, ?_, .sl _ _⟩
    · have hb := run_sliceBounds (P := P) w false n n none none 0 n (.inl ⟨rfl, rfl⟩) (.inl ⟨rfl, rfl⟩) (by omega) (by omega)
      have had : ad.add 0 = ad := by simp [Addr.add]
      simp [execOp, ho, hy, Instr.sliceAt, run_underlying hs.arr, hb, run_sizeOf' w hs.size, Instr.sureAddr, had]
    · have hk : Rep (Mut M0 β s2.obj) β w (.sl 1 ((cs.take n).map fun d => [d])) (.slice (some ad) ((cs.take n).map fun d => [d]).length n) := by
        refine .base (.sl 1 _ _ _ ad (fun i _ => val i) (by rw [hlen]; omega) hm (fun h => by cases h) (fun i row hi => ?_) (fun _ => ⟨rfl, ha⟩) (fun i row j d hi hj => ?_) (fun i row j d hi hj => ?_))
        · simp only [List.getElem?_map, Option.map_eq_some_iff] at hi
          obtain ⟨_, _, rfl⟩ := hi
          rfl
        all_goals
          simp only [List.getElem?_map, Option.map_eq_some_iff] at hi
          obtain ⟨d', hd', rfl⟩ := hi
          have hj0 : j = 0 := by
            have := (List.getElem?_eq_some_iff.1 hj).1
            simpa using this
          subst hj0
          simp only [List.getElem?_cons_zero, Option.some.injEq] at hj
          subst hj
          rw [List.getElem?_take] at hd'
          split at hd'
        · rw [Nat.mul_one, Nat.add_zero]
          exact hv i d' hd'
        · cases hd'
        · exact hrep i d' hd'
        · cases hd'
      rw [hlen] at hk
      exact hk
end
end Go.Abs
