/- The abstract logic, part 2: what one operation does, told of abstract data; the operations that only compute or read. -/
import Derived.Test.YtmmfmiamkgmikaaGreatA1
import Derived.Laws.StructEq
set_option linter.unusedVariables false
set_option linter.unusedSimpArgs false
namespace Go.Abs

/-- What an operation does: its value; the objects that it lays or takes away; the names among them that are new. -/
structure Eff where
  val : D
  sets : List (Nat × Option Obj)
  news : List Nat

def bump (n : Nat) : List Nat → Nat
  | [] => n
  | r :: l => bump (max n (r + 1)) l
def putS : Option Tmp → D → List (Nat × D) → List (Nat × D)
  | some t, d, l => (t, d) :: l
  | none, _, l => l
def Eff.app (e : Eff) (dst : Option Tmp) (s : AS) : AS :=
  { sl := putS dst e.val s.sl, st := e.sets ++ s.st, nx := bump s.nx e.news, N := s.N }

/-- An operand's datum. -/
def evx (s : AS) : Operand → Option D
  | .tmp t => s.slot t
  | .const (.slice none 0 0) => some .e0
  | .const v => some (.v v)
  | .func f => some (.clo f [])
  | .global _ => none

theorem evx_rep {M0 A : Nat → Prop} {β : Nat → Option Nat} {s : AS} {w : World} {a : Act} (h : Inv M0 A β s w a) {x : Operand} {d : D} (hx : evx s x = some d) :
    Rep (Mut M0 β s.obj) β w d (a.eval x) ∧ Refs A d := by
  cases x with
  | tmp t => exact ⟨h.slots t d hx, h.refs t d hx⟩
  | const v =>
    unfold evx at hx
    split at hx <;> simp only [reduceCtorEq, Option.some.injEq, Operand.const.injEq] at *
    all_goals subst_vars
    · exact ⟨.base .e0, .e0⟩
    · exact ⟨.base (.v _), .v _⟩
  | global g => simp [evx] at hx
  | func f =>
    simp only [evx, Option.some.injEq] at hx
    subst hx
    exact ⟨.base (.clo f [] #[] rfl (by simp)), .clo f [] (by simp)⟩

/-- Behind an operation: the state with its effect stands for what is there. -/
def Post (M0 A : Nat → Prop) (β : Nat → Option Nat) (s : AS) (w : World) (dst : Option Tmp) (e : Eff) (a' : Act) (w' : World) : Prop :=
  ∃ β', Inv M0 (fun r => A r ∨ r ∈ e.news) β' (e.app dst s) w' a' ∧ Fr A (Own β s.obj) (Own β' (e.app dst s).obj) β β' w w'

/-- **An operation's contract**: in every state that has the same operands and the same objects in foot. -/
def Core (P : Program) (o : Oper) (s : AS) (foot : List Nat) (e : Eff) : Prop :=
  ∀ s2 : AS, (∀ x ∈ o.op.operands, evx s2 x = evx s x) → (∀ r ∈ foot, s2.obj r = s.obj r) → (∀ t, o.dst = some t → t < s2.N) →
    ∀ (M0 A : Nat → Prop) (β : Nat → Option Nat) (w : World) (a : Act), (∀ r ∈ e.news, ¬ A r) → Inv M0 A β s2 w a →
      ∀ (K : Act → World → Prop) (Q : Exit → Act → World → Prop), (∀ a' w', Post M0 A β s2 w o.dst e a' w' → K a' w') → o.wp P a w K Q

theorem find_cons {α : Type} (k j : Nat) (x : α) (l : List (Nat × α)) : find k ((j, x) :: l) = if j = k then some x else find k l := by
  simp only [find]
  by_cases h : j = k
  · simp [h]
  · simp [h, beq_false_of_ne h]

theorem find_append {α : Type} (k : Nat) (l m : List (Nat × α)) : find k (l ++ m) = (find k l).or (find k m) := by
  induction l with
  | nil => simp [find]
  | cons p l ih =>
    obtain ⟨j, x⟩ := p
    rw [List.cons_append, find_cons, find_cons]
    split <;> simp [ih]

theorem Rep.one {M : Nat → Prop} {β : Nat → Option Nat} {w : World} {x y : Value} (h : Rep M β w (.v x) y) : y = x := by
  cases h with
  | base h => cases h; rfl

/-- The slot that is written. -/
theorem Inv.put {M0 A : Nat → Prop} {β : Nat → Option Nat} {s : AS} {w : World} {a : Act} (h : Inv M0 A β s w a) {dst : Option Tmp} (hN : ∀ t, dst = some t → t < s.N) {d : D} {y : Value}
    (hr : Rep (Mut M0 β s.obj) β w d y) (hf : Refs A d) : Inv M0 A β { s with sl := putS dst d s.sl } w (a.put dst y) := by
  cases dst with
  | none => exact h
  | some t0 =>
    have ht0 := hN t0 rfl
    refine ⟨h.toIvS, by simp [Act.put, h.size], by simp [Act.put, h.defers], fun t d' hd => ?_, fun t d' hd => ?_⟩
    · simp only [AS.slot, putS, find_cons] at hd
      split at hd
      · rename_i e
        subst e
        simp only [Option.some.injEq] at hd
        subst hd
        have e : (a.put (some t0) y).tmps.getD t0 undef = y := by simp [Act.put, h.size, ht0]
        rw [e]
        exact hr
      · rename_i e
        have e' : (a.put (some t0) y).tmps.getD t undef = a.tmps.getD t undef := by simp [Act.put, Array.getElem?_setIfInBounds, e]
        rw [e']
        exact h.slots t d' hd
    · simp only [AS.slot, putS, find_cons] at hd
      split at hd
      · simp only [Option.some.injEq] at hd
        subst hd
        exact hf
      · exact h.refs t d' hd

theorem IvS.names_mono {M0 A B : Nat → Prop} (hAB : ∀ r, A r → B r) {β : Nat → Option Nat} {ob : Nat → Option Obj} {w : World} (h : IvS M0 A β ob w) : IvS M0 B β ob w :=
  ⟨h.objs, h.inj, h.own, h.out, fun r o ho => hAB r (h.names r o ho), fun r o row d h1 h2 h3 => (h.orefs r o row d h1 h2 h3).mono hAB⟩
theorem Inv.names_mono {M0 A B : Nat → Prop} (hAB : ∀ r, A r → B r) {β : Nat → Option Nat} {s : AS} {w : World} {a : Act} (h : Inv M0 A β s w a) : Inv M0 B β s w a :=
  ⟨h.toIvS.names_mono hAB, h.size, h.defers, h.slots, fun t d ht => (h.refs t d ht).mono hAB⟩

theorem app_pure (d : D) (dst : Option Tmp) (s : AS) : Eff.app ⟨d, [], []⟩ dst s = { s with sl := putS dst d s.sl } := by
  simp [Eff.app, bump]

theorem Inv.post {M0 A : Nat → Prop} {β : Nat → Option Nat} {s : AS} {w : World} {a : Act} (h : Inv M0 A β s w a) {dst : Option Tmp} (hN : ∀ t, dst = some t → t < s.N) {d : D} {y : Value}
    (hr : Rep (Mut M0 β s.obj) β w d y) (hf : Refs A d) : Post M0 A β s w dst ⟨d, [], []⟩ (a.put dst y) w := by
  refine ⟨β, ?_, ?_⟩
  · rw [app_pure]
    exact Inv.names_mono (fun r hr => Or.inl hr) (h.put hN hr hf)
  · rw [app_pure]
    exact Fr.refl _ _ _ _

/-- An operation that leaves the world alone. -/
theorem Core.value {P : Program} {o : Oper} {s : AS} {foot : List Nat} {d : D}
    (h : ∀ s2 : AS, (∀ x ∈ o.op.operands, evx s2 x = evx s x) → (∀ r ∈ foot, s2.obj r = s.obj r) →
      ∀ (M0 A : Nat → Prop) (β : Nat → Option Nat) (w : World) (a : Act), Inv M0 A β s2 w a →
        ∃ y, (execOp a.eval o).run P w = .ok (.value y) w ∧ Rep (Mut M0 β s2.obj) β w d y ∧ Refs A d) : Core P o s foot ⟨d, [], []⟩ := by
  intro s2 h1 h2 hN M0 A β w a _ hI K Q hK
  obtain ⟨y, hr, hy, hf⟩ := h s2 h1 h2 M0 A β w a hI
  unfold Oper.wp
  rw [hr, Oper.upon_value]
  exact hK _ _ (hI.post hN hy hf)

section
variable {P : Program} {o : Oper} {s : AS}

theorem core_move {x : Operand} {d : D} (ho : o.op = .move x) (hx : evx s x = some d) : Core P o s [] ⟨d, [], []⟩ :=
  Core.value fun s2 h1 _ M0 A β w a hI => by
    have := evx_rep hI ((h1 x (by simp [ho, Op.operands])).trans hx)
    exact ⟨_, by simp [execOp, ho], this.1, this.2⟩

theorem core_assign {x : Operand} {d : D} (ho : o.op = .assign x) (hx : evx s x = some d) : Core P o s [] ⟨d, [], []⟩ :=
  Core.value fun s2 h1 _ M0 A β w a hI => by
    have := evx_rep hI ((h1 x (by simp [ho, Op.operands])).trans hx)
    exact ⟨_, by simp [execOp, ho], this.1, this.2⟩

theorem core_pick {c x y : Operand} {g : Bool} {dx dy d : D} (ho : o.op = .pick c x y) (hc : evx s c = some (.b g)) (hx : evx s x = some dx) (hy : evx s y = some dy)
    (hd : d = if g then dx else dy) : Core P o s [] ⟨d, [], []⟩ :=
  Core.value fun s2 h1 _ M0 A β w a hI => by
    have e1 := evx_rep hI ((h1 c (by simp [ho, Op.operands])).trans hc)
    have e2 := evx_rep hI ((h1 x (by simp [ho, Op.operands])).trans hx)
    have e3 := evx_rep hI ((h1 y (by simp [ho, Op.operands])).trans hy)
    have hcv := e1.1.one
    subst hd
    refine ⟨if g then a.eval x else a.eval y, by simp [execOp, ho, hcv, asBool], ?_, ?_⟩ <;> cases g <;> simp [e2, e3]

/-- Two scalars. -/
theorem core_bin {op : BinOp} {t t' : TypeId} {x y : Operand} {X Y Z : Value} (ho : o.op = .binOp op t x y t') (hx : evx s x = some (.v X)) (hy : evx s y = some (.v Y))
    (hr : ∀ w, (do eqGuard op t x y X Y; binOp op t X Y : Sem Value).run P w = .ok Z w) : Core P o s [] ⟨.v Z, [], []⟩ :=
  Core.value fun s2 h1 _ M0 A β w a hI => by
    have e1 := (evx_rep hI ((h1 x (by simp [ho, Op.operands])).trans hx)).1.one
    have e2 := (evx_rep hI ((h1 y (by simp [ho, Op.operands])).trans hy)).1.one
    refine ⟨Z, ?_, .base (.v _), .v _⟩
    have := hr w
    simp only [execOp, ho, e1, e2]
    rw [Sem.run_bind, this]
    rfl

theorem core_un {op : UnOp} {t : TypeId} {x : Operand} {X Z : Value} (ho : o.op = .unOp op t x) (hx : evx s x = some (.v X))
    (hr : ∀ w, (Op.unary op X : Sem Value).run P w = .ok Z w) : Core P o s [] ⟨.v Z, [], []⟩ :=
  Core.value fun s2 h1 _ M0 A β w a hI => by
    have e1 := (evx_rep hI ((h1 x (by simp [ho, Op.operands])).trans hx)).1.one
    refine ⟨Z, ?_, .base (.v _), .v _⟩
    simp [execOp, ho, e1, hr w]

theorem core_conv {src dst : TypeId} {x : Operand} {X Z : Value} (ho : o.op = .convert src dst x) (hx : evx s x = some (.v X))
    (hr : ∀ w, (convert src dst X : Sem Value).run P w = .ok Z w) : Core P o s [] ⟨.v Z, [], []⟩ :=
  Core.value fun s2 h1 _ M0 A β w a hI => by
    have e1 := (evx_rep hI ((h1 x (by simp [ho, Op.operands])).trans hx)).1.one
    refine ⟨Z, ?_, .base (.v _), .v _⟩
    simp [execOp, ho, e1, hr w]

theorem Rep.tup_inv {M : Nat → Prop} {β : Nat → Option Nat} {w : World} {cs : List D} {y : Value} (h : Rep M β w (.tup cs) y) :
    ∃ ys : Array Value, y = .tuple ys ∧ cs.length = ys.size ∧ ∀ (i : Nat) (d : D) (y : Value), cs[i]? = some d → ys[i]? = some y → Rep M β w d y := by
  cases h with
  | base h =>
    cases h with
    | tup cs ys hl h => exact ⟨ys, rfl, hl, fun i d y hd hy => .base (h i d y hd hy)⟩
  | tup cs ys hl h => exact ⟨ys, rfl, hl, h⟩

theorem Rep.agg_inv {M : Nat → Prop} {β : Nat → Option Nat} {w : World} {cs : List D} {y : Value} (h : Rep M β w (.agg cs) y) :
    ∃ ys : Array Value, y = .agg ys ∧ cs.length = ys.size ∧ (∀ (i : Nat) (y : Value), ys[i]? = some y → y.oneCell' = true) ∧ ∀ (i : Nat) (d : D) (y : Value), cs[i]? = some d → ys[i]? = some y → Rep M β w d y := by
  cases h with
  | base h =>
    cases h with
    | agg cs ys hl h1 h => exact ⟨ys, rfl, hl, h1, fun i d y hd hy => .base (h i d y hd hy)⟩
  | agg cs ys hl h1 h => exact ⟨ys, rfl, hl, h1, h⟩

theorem Refs.tup_inv {A : Nat → Prop} {cs : List D} (h : Refs A (.tup cs)) : ∀ d ∈ cs, Refs A d := by cases h; assumption
theorem Refs.agg_inv {A : Nat → Prop} {cs : List D} (h : Refs A (.agg cs)) : ∀ d ∈ cs, Refs A d := by cases h; assumption

theorem core_extract {x : Operand} {i : Nat} {ds : List D} {d : D} (ho : o.op = .extract x i) (hx : evx s x = some (.tup ds)) (hd : ds[i]? = some d) : Core P o s [] ⟨d, [], []⟩ :=
  Core.value fun s2 h1 _ M0 A β w a hI => by
    have e1 := evx_rep hI ((h1 x (by simp [ho, Op.operands])).trans hx)
    obtain ⟨ys, hy, hl, h⟩ := e1.1.tup_inv
    have hi : i < ys.size := by rw [← hl]; exact (List.getElem?_eq_some_iff.1 hd).1
    refine ⟨ys[i], by simp [execOp, ho, hy, Instr.extract, hi], h i d _ hd (by simp [hi]), e1.2.tup_inv d (List.mem_of_getElem? hd)⟩
end

/-! ### Types -/
def isAggB : TypeDesc → Bool
  | .struct _ | .array _ _ => true
  | _ => false
class TyAgg (P : Program) (t : TypeId) (n : outParam Nat) : Prop where
  agg : (P.underlying t).map isAggB = some true
  size : (P.info? t).map (·.size) = some n
class TyOne (P : Program) (t : TypeId) : Prop where
  agg : (P.underlying t).map isAggB = some false
  size : (P.info? t).map (·.size) = some 1
class Fld (P : Program) (S : TypeId) (f : Nat) (off : outParam Nat) (T : outParam TypeId) : Prop where
  fld : ((P.underlying S).bind fun | .struct fs => (fs[f]?).map (fun f => (f.offset, f.type)) | _ => none) = some (off, T)
  size : ((P.info? T).map (·.size)).any (· != 0) = true
class Slc (P : Program) (t : TypeId) (e : outParam TypeId) (es : outParam Nat) : Prop where
  slc : P.underlying t = some (.slice e)
  size : (P.info? e).map (·.size) = some es
class Arr (P : Program) (t : TypeId) (n : outParam Nat) (e : outParam TypeId) (es : outParam Nat) : Prop where
  arr : P.underlying t = some (.array n e)
  size : (P.info? e).map (·.size) = some es

section
variable {P : Program} (w : World)
theorem run_isAgg {t : TypeId} {b : Bool} (h : (P.underlying t).map isAggB = some b) : (isAgg t).run P w = .ok b w := by
  obtain ⟨d, hd, hb⟩ := Option.map_eq_some_iff.1 h
  unfold isAgg
  rw [Sem.run_bind, run_underlying hd w]
  cases d <;> simp_all [isAggB]
theorem run_sizeOf' {t : TypeId} {n : Nat} (h : (P.info? t).map (·.size) = some n) : (sizeOf t).run P w = .ok n w := by
  obtain ⟨i, hi, hn⟩ := Option.map_eq_some_iff.1 h
  simp [sizeOf, typeInfo, hi, hn]
theorem run_loadVar_agg {t : TypeId} {n : Nat} [h : TyAgg P t n] (a : Addr) (cs : List Value) (hl : cs.length = n) (hc : ∀ (j : Nat) (v : Value), cs[j]? = some v → w.cell? (a.add j) = some v) :
    (loadVar t a).run P w = .ok (.agg cs.toArray) w := by
  subst hl
  simp [loadVar, run_isAgg w h.agg, run_sizeOf' w h.size, run_loadCells_list w a cs hc]
theorem run_loadVar_one {t : TypeId} [h : TyOne P t] (a : Addr) (v : Value) (hc : w.cell? a = some v) : (loadVar t a).run P w = .ok v w := by
  simp [loadVar, run_isAgg w h.agg, hc]
theorem run_part_agg {t : TypeId} {n : Nat} [h : TyAgg P t n] (cs : Array Value) (off : Nat) : (part t cs off).run P w = .ok (.agg (cs.extract off (off + n))) w := by
  simp [part, run_isAgg w h.agg, run_sizeOf' w h.size]
theorem run_part_one {t : TypeId} [h : TyOne P t] (cs : Array Value) (off : Nat) (v : Value) (hv : cs[off]? = some v) : (part t cs off).run P w = .ok v w := by
  simp [part, run_isAgg w h.agg, hv]
end

/-! ### Pointers -/
/-- The cells from where a pointer points on. -/
def pts (s : AS) : D → Option (List D)
  | .ptr r es i off => match s.obj r with
    | some o => bif o.es == es then (o.rows[i]?).map (·.drop off) else none
    | none => none
  | .bp cs => some cs
  | _ => none
def ptr? : D → List Nat
  | .ptr r _ _ _ => [r]
  | _ => []

theorem pts_rep {M0 A : Nat → Prop} {β : Nat → Option Nat} {s : AS} {w : World} {a : Act} (hI : Inv M0 A β s w a) {d : D} {y : Value} {cs : List D}
    (hp : pts s d = some cs) (hr : Rep (Mut M0 β s.obj) β w d y) :
    ∃ (ad : Addr) (vals : List Value), y = .pointer (some ad) ∧ vals.length = cs.length ∧ (∀ (j : Nat) (v : Value), vals[j]? = some v → w.cell? (ad.add j) = some v ∧ v.oneCell' = true) ∧
      (∀ (j : Nat) (d : D) (v : Value), cs[j]? = some d → vals[j]? = some v → Rep (Mut M0 β s.obj) β w d v ∧ Refs A d) := by
  cases hr with
  | base hr =>
    cases hr with
    | bp cs' ad val ha hv h =>
      simp only [pts, Option.some.injEq] at hp
      subst hp
      refine ⟨ad, (List.range cs'.length).map val, rfl, by simp, fun j v hj => ?_, fun j d v hd hj => ?_⟩
      · simp only [List.getElem?_map, Option.map_eq_some_iff] at hj
        obtain ⟨k, hk, rfl⟩ := hj
        obtain ⟨hlt, rfl⟩ := List.getElem?_eq_some_iff.1 hk
        simp only [List.length_range] at hlt
        simp only [List.getElem_range]
        exact hv j cs'[j] (List.getElem?_eq_getElem hlt)
      · simp only [List.getElem?_map, Option.map_eq_some_iff] at hj
        obtain ⟨k, hk, rfl⟩ := hj
        obtain ⟨hlt, rfl⟩ := List.getElem?_eq_some_iff.1 hk
        simp only [List.getElem_range]
        exact ⟨.base (h j d hd), (h j d hd).refs A⟩
    | _ => simp [pts] at hp
  | ptr r es i off b hb =>
    simp only [pts] at hp
    cases ho : s.obj r with
    | none => simp [ho] at hp
    | some o =>
      simp only [ho] at hp
      by_cases hes : o.es = es
      · subst hes
        simp only [BEq.rfl, cond_true, Option.map_eq_some_iff] at hp
        obtain ⟨row, hrow, rfl⟩ := hp
        obtain ⟨hlen, h0 | ⟨b', cells, val, hb', hh, hsz, hv, hrep⟩⟩ := hI.objs r o ho
        · rw [h0.1] at hrow
          simp at hrow
        · obtain rfl : b = b' := by rw [hb] at hb'; exact Option.some.inj hb'
          refine ⟨_, (List.range (row.drop off).length).map fun j => val i (off + j), rfl, by simp, fun j v hj => ?_, fun j d v hd hj => ?_⟩
          · simp only [List.getElem?_map, Option.map_eq_some_iff] at hj
            obtain ⟨k, hk, rfl⟩ := hj
            obtain ⟨hlt, rfl⟩ := List.getElem?_eq_some_iff.1 hk
            simp only [List.length_range, List.length_drop] at hlt
            simp only [List.getElem_range]
            have := hv i row (off + j) row[off + j] hrow (List.getElem?_eq_getElem (by omega))
            rw [add_mk, cell_of_row w b _ cells o.elem (0, 0) hh, Nat.add_assoc]
            exact this
          · simp only [List.getElem?_map, Option.map_eq_some_iff] at hj
            obtain ⟨k, hk, rfl⟩ := hj
            obtain ⟨hlt, rfl⟩ := List.getElem?_eq_some_iff.1 hk
            simp only [List.getElem_range]
            rw [List.getElem?_drop] at hd
            exact ⟨hrep i row (off + j) d hrow hd, hI.orefs r o row d ho (List.mem_of_getElem? hrow) (List.mem_of_getElem? hd)⟩
      · have hne : (o.es == es) = false := by simpa using hes
        simp [hne] at hp
  | _ => simp [pts] at hp

section
variable {P : Program} {o : Oper} {s : AS}
theorem pts_agree {s2 : AS} {d : D} (h : ∀ r ∈ ptr? d, s2.obj r = s.obj r) : pts s2 d = pts s d := by
  cases d <;> simp [pts, ptr?] at *
  rw [h]

theorem core_load_agg {t : TypeId} {n : Nat} [TyAgg P t n] {x : Operand} {d : D} {cs : List D} (ho : o.op = .load t x) (hx : evx s x = some d) (hp : pts s d = some cs) (hn : n ≤ cs.length) :
    Core P o s (ptr? d) ⟨.agg (cs.take n), [], []⟩ :=
  Core.value fun s2 h1 h2 M0 A β w a hI => by
    have e1 := evx_rep hI ((h1 x (by simp [ho, Op.operands])).trans hx)
    obtain ⟨ad, vals, hy, hl, hc, hd⟩ := pts_rep hI ((pts_agree h2).trans hp) e1.1
    have hl' : (vals.take n).length = n := by simp; omega
    refine ⟨.agg (vals.take n).toArray, ?_, .agg _ _ (by simp; omega) (fun i y hi => ?_) (fun i d y hd' hy' => ?_), .agg _ fun d hd' => ?_⟩
    · have := run_loadVar_agg (P := P) (t := t) w ad (vals.take n) hl' (fun j v hj => by
        rw [List.getElem?_take] at hj
        split at hj
        · exact (hc j v hj).1
        · cases hj)
      simp [execOp, ho, hy, Instr.loadAt, Instr.sureAddr, this]
    · simp only [List.getElem?_toArray, List.getElem?_take] at hi
      split at hi
      · exact (hc i y hi).2
      · cases hi
    · simp only [List.getElem?_toArray, List.getElem?_take] at hd' hy'
      split at hd'
      · rename_i hlt
        rw [if_pos hlt] at hy'
        exact (hd i d y hd' hy').1
      · cases hd'
    · have hd'' := List.mem_of_mem_take hd'
      obtain ⟨i, hi, rfl⟩ := List.mem_iff_getElem.1 hd''
      exact (hd i _ (vals[i]'(by omega)) (List.getElem?_eq_getElem hi) (List.getElem?_eq_getElem (by omega))).2

theorem core_load_one {t : TypeId} [TyOne P t] {x : Operand} {d e : D} {cs : List D} (ho : o.op = .load t x) (hx : evx s x = some d) (hp : pts s d = some cs) (hn : cs[0]? = some e) :
    Core P o s (ptr? d) ⟨e, [], []⟩ :=
  Core.value fun s2 h1 h2 M0 A β w a hI => by
    have e1 := evx_rep hI ((h1 x (by simp [ho, Op.operands])).trans hx)
    obtain ⟨ad, vals, hy, hl, hc, hd⟩ := pts_rep hI ((pts_agree h2).trans hp) e1.1
    have hlen : 0 < vals.length := by rw [hl]; exact (List.getElem?_eq_some_iff.1 hn).1
    have h0 : vals[0]? = some vals[0] := List.getElem?_eq_getElem hlen
    have h3 := (hc 0 _ h0).1
    have had : ad.add 0 = ad := by simp [Addr.add]
    rw [had] at h3
    have := run_loadVar_one (P := P) (t := t) w ad _ h3
    refine ⟨vals[0], by simp [execOp, ho, hy, Instr.loadAt, Instr.sureAddr, this], (hd 0 e _ hn h0).1, (hd 0 e _ hn h0).2⟩
end
end Go.Abs
