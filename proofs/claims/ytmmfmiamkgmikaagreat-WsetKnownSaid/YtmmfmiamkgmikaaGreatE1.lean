/- Running code over abstract data, part 1: more operations. -/
import Derived.Test.YtmmfmiamkgmikaaGreatA16
set_option linter.unusedVariables false
set_option linter.unusedSimpArgs false
namespace Go.Abs
section
variable {P : Program} {o : Oper} {s : AS}

theorem Inv.block1 {M0 A : Nat → Prop} {β : Nat → Option Nat} {s : AS} {w : World} {a : Act} (hI : Inv M0 A β s w a) {r b : Nat} {o : Obj} (ho : s.obj r = some o) (hb : β r = some b) :
    ∃ (cs : Array Value) (val : Nat → Nat → Value), w.heap[b]? = some (.cells cs o.elem (0, 0)) ∧ o.rows.length * o.es ≤ cs.size ∧
      (∀ (i : Nat) (row : List D) (j : Nat) (d : D), o.rows[i]? = some row → row[j]? = some d → cs[i * o.es + j]? = some (val i j) ∧ (val i j : Value).oneCell' = true ∧ Rep (Mut M0 β s.obj) β w d (val i j) ∧ Refs A d) := by
  obtain ⟨_, cs, val, h1, h2, h3, h4⟩ := hI.toIvS.block ho hb
  exact ⟨cs, val, h1, h2, fun i row j d g1 g2 => ⟨(h3 i row j d g1 g2).1, (h3 i row j d g1 g2).2, h4 i row j d g1 g2, hI.orefs r o row d ho (List.mem_of_getElem? g1) (List.mem_of_getElem? g2)⟩⟩

/-- A cell by its number in the whole block. -/
def flat (o : Obj) (k : Nat) : Option D := (o.rows[k / o.es]?).bind (·[k % o.es]?)

/-- A load of one cell, by its number in the block. -/
theorem core_load_flat {t : TypeId} [TyOne P t] {x : Operand} {r i off : Nat} {o1 : Obj} {e : D} (ho : o.op = .load t x) (hx : evx s x = some (.ptr r 1 i off)) (hr : s.obj r = some o1)
    (he : flat o1 (i + off) = some e) : Core P o s [r] ⟨e, [], []⟩ :=
  Core.value fun s2 h1 h2 M0 A β w a hI => by
    have e1 := evx_rep hI ((h1 x (by simp [ho, Op.operands])).trans hx)
    obtain ⟨b, hb, hy⟩ := e1.1.ptr_inv
    have hr2 : s2.obj r = some o1 := (h2 r (by simp)).trans hr
    obtain ⟨cs, val, hh, hsz, hv⟩ := hI.block1 hr2 hb
    obtain ⟨row, g1, g2⟩ := Option.bind_eq_some_iff.1 he
    obtain ⟨v1, v2, v3, v4⟩ := hv _ row _ e g1 g2
    have hk : (i + off) / o1.es * o1.es + (i + off) % o1.es = i + off := by rw [Nat.mul_comm]; exact Nat.div_add_mod _ _
    rw [hk] at v1
    have hc : w.cell? ⟨b, i * 1 + off, none⟩ = some (val ((i + off) / o1.es) ((i + off) % o1.es)) := by
      rw [cell_of_row w b _ cs o1.elem (0, 0) hh, ← v1, Nat.mul_one]
    have := run_loadVar_one (P := P) (t := t) w _ _ hc
    simp only [Nat.mul_one] at this hy
    exact ⟨_, by simp [execOp, ho, hy, Instr.loadAt, Instr.sureAddr, this], v3, v4⟩

/-- An array of an own object, as a slice of one-cell elements. -/
theorem core_slice_arr {t n e : Nat} [hs : Arr P t n e 1] {x : Operand} {r es i off : Nat} {o1 : Obj} {row : List D} (ho : o.op = .slice t x none none none)
    (hx : evx s x = some (.ptr r es i off)) (hr : s.obj r = some o1) (hes : o1.es = es) (hrow : o1.rows[i]? = some row) (hn : off + n ≤ row.length) (hm : n ≤ maxLen) : Core P o s [r] ⟨.vw r 1 (i * es + off) n, [], []⟩ :=
  Core.value fun s2 h1 h2 M0 A β w a hI => by
    subst hes
    have e1 := evx_rep hI ((h1 x (by simp [ho, Op.operands])).trans hx)
    obtain ⟨b, hb, hy⟩ := e1.1.ptr_inv
    have hr2 : s2.obj r = some o1 := (h2 r (by simp)).trans hr
    obtain ⟨cs, val, hh, hsz, hv⟩ := hI.block1 hr2 hb
    have hrl := (hI.objs r o1 hr2).1 i row hrow
    have hi : i < o1.rows.length := (List.getElem?_eq_some_iff.1 hrow).1
    have hfit : i * o1.es + off + n ≤ cs.size := by
      have : (i + 1) * o1.es ≤ o1.rows.length * o1.es := Nat.mul_le_mul_right _ hi
      rw [Nat.add_mul] at this
      omega
    refine ⟨.slice (some ⟨b, (i * o1.es + off) * 1, none⟩) n n, ?_, .vw r 1 _ n b n cs o1.elem hb (Nat.le_refl _) hm hh (by omega), .vw _ _ _ _ e1.2.ptr_inv⟩
    have hbd := run_sliceBounds (P := P) w false n n none none 0 n (.inl ⟨rfl, rfl⟩) (.inl ⟨rfl, rfl⟩) (by omega) (by omega)
    have had : ∀ ad : Addr, ad.add 0 = ad := fun ad => by simp [Addr.add]
    simp [execOp, ho, hy, Instr.sliceAt, run_underlying hs.arr, hbd, run_sizeOf' w hs.size, Instr.sureAddr, had]

/-- The cells of a slice of one-cell elements over a block of others. -/
def flatRows (o : Obj) (lo : Nat) : Nat → Option (List (List D))
  | 0 => some []
  | n + 1 => match flat o lo, flatRows o (lo + 1) n with
    | some d, some l => some ([d] :: l)
    | _, _ => none
theorem flatRows_get {o : Obj} : ∀ {n lo : Nat} {rows : List (List D)}, flatRows o lo n = some rows → rows.length = n ∧ ∀ (i : Nat) (row : List D), rows[i]? = some row → ∃ d, row = [d] ∧ flat o (lo + i) = some d
  | 0, lo, rows, h => by
    simp only [flatRows, Option.some.injEq] at h
    subst h
    exact ⟨rfl, fun i row h => by simp at h⟩
  | n + 1, lo, rows, h => by
    simp only [flatRows] at h
    cases h1 : flat o lo with
    | none => simp [h1] at h
    | some d =>
      cases h2 : flatRows o (lo + 1) n with
      | none => simp [h1, h2] at h
      | some l =>
        simp only [h1, h2, Option.some.injEq] at h
        subst h
        obtain ⟨g1, g2⟩ := flatRows_get h2
        refine ⟨by simp [g1], fun i row hi => ?_⟩
        cases i with
        | zero => simp at hi; exact ⟨d, hi.symm, by simpa using h1⟩
        | succ i =>
          obtain ⟨d', q1, q2⟩ := g2 i row (by simpa using hi)
          exact ⟨d', q1, by rw [← q2]; congr 1; omega⟩

theorem SrcOk.flat {r lo n : Nat} {o1 : Obj} {rows : List (List D)} (hr : s.obj r = some o1) (hn : flatRows o1 lo n = some rows) : SrcOk s 1 (.vw r 1 lo n) rows := by
  intro M0 A β w a hI y hy
  obtain ⟨hl, hg⟩ := flatRows_get hn
  rcases hy.vw_inv with ⟨b, c, cs, e, hb, rfl, hnc, hm, hh, hcs⟩ | ⟨hb, rfl, rfl, rfl⟩
  · obtain ⟨cs', val, hh', hsz, hv⟩ := hI.block1 hr hb
    have e2 : cs' = cs ∧ o1.elem = e := by rw [hh] at hh'; cases hh'; exact ⟨rfl, rfl⟩
    obtain ⟨rfl, rfl⟩ := e2
    refine ⟨some ⟨b, lo * 1, none⟩, c, ⟨b, lo * 1, none⟩, fun i _ => val ((lo + i) / o1.es) ((lo + i) % o1.es), by rw [hl], fun _ => rfl, fun i row hi => ?_, fun i row j d hi hj => ?_⟩
    · obtain ⟨d, rfl, _⟩ := hg i row hi; rfl
    · obtain ⟨d', rfl, hd'⟩ := hg i row hi
      obtain rfl : j = 0 := by have := (List.getElem?_eq_some_iff.1 hj).1; simpa using this
      simp at hj
      subst hj
      obtain ⟨row', g1, g2⟩ := Option.bind_eq_some_iff.1 hd'
      obtain ⟨v1, v2, v3, v4⟩ := hv _ row' _ _ g1 g2
      have hk : (lo + i) / o1.es * o1.es + (lo + i) % o1.es = lo + i := by rw [Nat.mul_comm]; exact Nat.div_add_mod _ _
      rw [hk] at v1
      refine ⟨?_, v2, v3, v4⟩
      rw [add_mk, cell_of_row w b _ cs' o1.elem (0, 0) hh, ← v1]
      congr 1
      omega
  · simp only [flatRows, Option.some.injEq] at hn
    subst hn
    exact ⟨none, 0, default, fun _ _ => undef, rfl, fun h => by simp at h, fun i row h => by simp at h, fun i row j d h => by simp at h⟩

/-- No place between: what is left stands for itself. -/
theorem core_slice_vw0 {t e es : Nat} [hs : Slc P t e es] {x : Operand} {lo hi : Option Operand} {r es' st n l : Nat} (ho : o.op = .slice t x lo hi none)
    (hx : evx s x = some (.vw r es' st n)) (hlo : Bnd s lo 0 l) (hhi : Bnd s hi n l) (hh : l ≤ n) : Core P o s [] ⟨.sl es [], [], []⟩ :=
  Core.value fun s2 h1 _ M0 A β w a hI => by
    have e1 := evx_rep hI ((h1 x (by simp [ho, Op.operands])).trans hx)
    have b1 := hlo.val hI (fun y hy => h1 y (by simp [ho, Op.operands, hy]))
    have b2 := hhi.val hI (fun y hy => h1 y (by simp [ho, Op.operands, hy]))
    have key : ∀ (ad : Option Addr) (c : Nat), c ≤ maxLen → (ad = none → c = 0) → Rep (Mut M0 β s2.obj) β w (.sl es []) (.slice ad 0 c) := fun ad c hc hz =>
      .base (.sl es [] ad c default (fun _ _ => undef) (by simp) hc hz (fun i row h => by simp at h) (fun h => by simp at h) (fun i row j d h => by simp at h) (fun i row j d h => by simp at h))
    rcases e1.1.vw_inv with ⟨b, c, cs, e', hb, hy, hn, hm, hh', hc⟩ | ⟨_, rfl, rfl, hy⟩
    · have hbd := run_sliceBounds (P := P) w true n c (lo.map a.eval) (hi.map a.eval) l l
        (by rcases b1 with ⟨rfl, rfl⟩ | ⟨y, kk, rfl, hy⟩ <;> simp_all) (by rcases b2 with ⟨rfl, rfl⟩ | ⟨y, kk, rfl, hy⟩ <;> simp_all) (by omega) (by omega)
      refine ⟨.slice (if c = l then some ⟨b, st * es', none⟩ else some (Addr.add ⟨b, st * es', none⟩ (l * es))) 0 (c - l), ?_, key _ _ (by omega) (fun h => by split at h <;> cases h), .sl _ _⟩
      simp only [execOp, ho, hy, Instr.sliceAt, Instr.slice, Sem.run_bind, run_underlying hs.slc, Result.andThen_ok, hbd, run_sizeOf' w hs.size, Option.map_none, Sem.run_pure]
      by_cases hcl : c = l <;> simp [hcl]
    · have hl0 : l = 0 := by omega
      subst hl0
      have hbd := run_sliceBounds (P := P) w true 0 0 (lo.map a.eval) (hi.map a.eval) 0 0
        (by rcases b1 with ⟨rfl, h⟩ | ⟨y, kk, rfl, hy⟩ <;> simp_all) (by rcases b2 with ⟨rfl, h⟩ | ⟨y, kk, rfl, hy⟩ <;> simp_all) (by omega) (by omega)
      refine ⟨.slice none 0 0, ?_, key _ _ (by simp) (fun _ => rfl), .sl _ _⟩
      simp only [execOp, ho, hy, Instr.sliceAt, Instr.slice, Sem.run_bind, run_underlying hs.slc, Result.andThen_ok, hbd, run_sizeOf' w hs.size, Option.map_none, Sem.run_pure]
      simp
/-- A nil slice's only part. -/
theorem core_slice_e0 {t e es : Nat} [hs : Slc P t e es] {x : Operand} {lo hi : Option Operand} (ho : o.op = .slice t x lo hi none)
    (hx : evx s x = some .e0) (hlo : Bnd s lo 0 0) (hhi : Bnd s hi 0 0) : Core P o s [] ⟨.sl es [], [], []⟩ :=
  Core.value fun s2 h1 _ M0 A β w a hI => by
    have e1 := evx_rep hI ((h1 x (by simp [ho, Op.operands])).trans hx)
    have b1 := hlo.val hI (fun y hy => h1 y (by simp [ho, Op.operands, hy]))
    have b2 := hhi.val hI (fun y hy => h1 y (by simp [ho, Op.operands, hy]))
    have hy : a.eval x = .slice none 0 0 := by
      have := e1.1
      generalize a.eval x = z at this
      cases this with
      | base h => cases h; rfl
    have hbd := run_sliceBounds (P := P) w true 0 0 (lo.map a.eval) (hi.map a.eval) 0 0
      (by rcases b1 with ⟨rfl, h⟩ | ⟨y, kk, rfl, hy⟩ <;> simp_all) (by rcases b2 with ⟨rfl, h⟩ | ⟨y, kk, rfl, hy⟩ <;> simp_all) (by omega) (by omega)
    refine ⟨.slice none 0 0, ?_, .base (.sl es [] none 0 default (fun _ _ => undef) (by simp) (by simp) (fun _ => rfl) (fun i row h => by simp at h) (fun h => by simp at h) (fun i row j d h => by simp at h) (fun i row j d h => by simp at h)), .sl _ _⟩
    simp only [execOp, ho, hy, Instr.sliceAt, Instr.slice, Sem.run_bind, run_underlying hs.slc, Result.andThen_ok, hbd, run_sizeOf' w hs.size, Option.map_none, Sem.run_pure]
    simp

theorem core_nilCheck {x : Operand} {r es i off : Nat} (ho : o.op = .nilCheck x) (hx : evx s x = some (.ptr r es i off)) : Core P o s [] ⟨.ptr r es i off, [], []⟩ :=
  Core.value fun s2 h1 _ M0 A β w a hI => by
    have e1 := evx_rep hI ((h1 x (by simp [ho, Op.operands])).trans hx)
    obtain ⟨b, hb, hy⟩ := e1.1.ptr_inv
    refine ⟨a.eval x, by simp [execOp, ho, hy], e1.1, e1.2⟩
end
end Go.Abs
