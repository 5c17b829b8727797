/- The abstract logic, part 1: abstract data, what they stand for in a world, and how that is kept. Plain definitions and lemmas over any program. -/
import Derived.Below
import Derived.Tactics
import Derived.Orders
import Derived.Laws.Rows
import Derived.Laws.Tables
import Derived.Laws.CopyRow
import Derived.Laws.AppendOwn
import Derived.KernelRfl
set_option linter.unusedVariables false
set_option linter.unusedSimpArgs false
namespace Go.Abs

/-- Abstract data: what stands in a slot. -/
inductive D where
  | v (x : Value)
  | un
  | agg (cs : List D)
  | tup (ds : List D)
  | sl (es : Nat) (rows : List (List D))
  | sln (es : Nat) (rows : List (List D))
  | e0
  | vw (r es lo n : Nat)
  | bp (cs : List D)
  | ptr (r es i off : Nat)
  | clo (f : FuncId) (caps : List D)
  deriving Inhabited

/-- A whole number of Go's int. -/
@[reducible] def D.i (n : Int) : D := .v (.int .i64 n)
@[reducible] def D.b (x : Bool) : D := .v (.bool x)

/-- A store's object: rows of cells of one element type. -/
structure Obj where
  elem : TypeId
  es : Nat
  rows : List (List D)
  deriving Inhabited

/-- What a datum stands for, without a name of an own object in it. M: the blocks that may change. -/
inductive Rep0 (M : Nat → Prop) (w : World) : D → Value → Prop
  | v (x : Value) : Rep0 M w (.v x) x
  | un (y : Value) : Rep0 M w .un y
  | agg (cs : List D) (ys : Array Value) (hl : cs.length = ys.size) (h1 : ∀ (i : Nat) (y : Value), ys[i]? = some y → y.oneCell' = true)
      (h : ∀ (i : Nat) (d : D) (y : Value), cs[i]? = some d → ys[i]? = some y → Rep0 M w d y) : Rep0 M w (.agg cs) (.agg ys)
  | tup (cs : List D) (ys : Array Value) (hl : cs.length = ys.size)
      (h : ∀ (i : Nat) (d : D) (y : Value), cs[i]? = some d → ys[i]? = some y → Rep0 M w d y) : Rep0 M w (.tup cs) (.tuple ys)
  | sl (es : Nat) (rows : List (List D)) (a : Option Addr) (c : Nat) (ad : Addr) (val : Nat → Nat → Value)
      (hc : rows.length ≤ c) (hm : c ≤ maxLen) (hz : a = none → c = 0) (hr : ∀ (i : Nat) (row : List D), rows[i]? = some row → row.length = es)
      (ha : 0 < rows.length → a = some ad ∧ ad.block < w.heap.size ∧ ¬ M ad.block)
      (hv : ∀ (i : Nat) (row : List D) (j : Nat) (d : D), rows[i]? = some row → row[j]? = some d → w.cell? (ad.add (i * es + j)) = some (val i j) ∧ (val i j).oneCell' = true)
      (h : ∀ (i : Nat) (row : List D) (j : Nat) (d : D), rows[i]? = some row → row[j]? = some d → Rep0 M w d (val i j)) : Rep0 M w (.sl es rows) (.slice a rows.length c)
  | e0 : Rep0 M w .e0 (.slice none 0 0)
  | sln (es : Nat) (rows : List (List D)) (ad : Addr) (n c : Nat) (h : Rep0 M w (.sl es rows) (.slice (some ad) n c)) : Rep0 M w (.sln es rows) (.slice (some ad) n c)
  | bp (cs : List D) (ad : Addr) (val : Nat → Value) (ha : ad.block < w.heap.size ∧ ¬ M ad.block)
      (hv : ∀ (j : Nat) (d : D), cs[j]? = some d → w.cell? (ad.add j) = some (val j) ∧ (val j).oneCell' = true)
      (h : ∀ (j : Nat) (d : D), cs[j]? = some d → Rep0 M w d (val j)) : Rep0 M w (.bp cs) (.pointer (some ad))
  | clo (f : FuncId) (caps : List D) (ys : Array Value) (hl : caps.length = ys.size)
      (h : ∀ (i : Nat) (d : D) (y : Value), caps[i]? = some d → ys[i]? = some y → Rep0 M w d y) : Rep0 M w (.clo f caps) (.func (.func f) #[] ys)

/-- The world w' is as w was in all blocks of w that may not change; what may change there may have changed before. -/
structure Keep (M M' : Nat → Prop) (w w' : World) : Prop where
  size : w.heap.size ≤ w'.heap.size
  heap : ∀ b, b < w.heap.size → ¬ M b → w'.heap[b]? = w.heap[b]?
  may : ∀ b, b < w.heap.size → ¬ M b → ¬ M' b

theorem Keep.refl (M : Nat → Prop) (w : World) : Keep M M w w := ⟨Nat.le_refl _, fun _ _ _ => rfl, fun _ _ h => h⟩
theorem Keep.trans {M M' M'' : Nat → Prop} {w w' w'' : World} (h : Keep M M' w w') (k : Keep M' M'' w' w'') : Keep M M'' w w'' :=
  ⟨Nat.le_trans h.size k.size, fun b hb hM => (k.heap b (Nat.lt_of_lt_of_le hb h.size) (h.may b hb hM)).trans (h.heap b hb hM),
   fun b hb hM => k.may b (Nat.lt_of_lt_of_le hb h.size) (h.may b hb hM)⟩

theorem block_add (a : Addr) (n : Nat) : (a.add n).block = a.block := by unfold Addr.add; split <;> rfl
theorem add_add (a : Addr) (i j : Nat) : (a.add i).add j = a.add (i + j) := by
  unfold Addr.add
  by_cases hi : i = 0 <;> by_cases hj : j = 0 <;> simp [hi, hj, Nat.add_assoc]
theorem add_mk (b o n : Nat) : (⟨b, o, none⟩ : Addr).add n = ⟨b, o + n, none⟩ := by unfold Addr.add; split <;> simp_all
theorem cell_same {w w' : World} {a : Addr} (h : w'.heap[a.block]? = w.heap[a.block]?) : w'.cell? a = w.cell? a := by
  simp only [World.cell?, h]
theorem cell_keep {M M' : Nat → Prop} {w w' : World} (h : Keep M M' w w') {a : Addr} (hb : a.block < w.heap.size) (hM : ¬ M a.block) : w'.cell? a = w.cell? a :=
  cell_same (h.heap _ hb hM)

theorem Rep0.keep {M M' : Nat → Prop} {w w' : World} (k : Keep M M' w w') {d : D} {y : Value} (h : Rep0 M w d y) : Rep0 M' w' d y := by
  induction h with
  | v x => exact .v x
  | un y => exact .un y
  | agg cs ys hl h1 _ ih => exact .agg cs ys hl h1 fun i d y hd hy => ih i d y hd hy
  | tup cs ys hl _ ih => exact .tup cs ys hl fun i d y hd hy => ih i d y hd hy
  | sl es rows a c ad val hc hm hz hr ha hv _ ih =>
    refine .sl es rows a c ad val hc hm hz hr (fun hp => ?_) (fun i row j d hi hj => ?_) (fun i row j d hi hj => ih i row j d hi hj)
    · obtain ⟨h1, h2, h3⟩ := ha hp
      exact ⟨h1, Nat.lt_of_lt_of_le h2 k.size, k.may _ h2 h3⟩
    · have hp : 0 < rows.length := by
        have := (List.getElem?_eq_some_iff.1 hi).1
        omega
      obtain ⟨h1, h2, h3⟩ := ha hp
      obtain ⟨g1, g2⟩ := hv i row j d hi hj
      exact ⟨(cell_keep k (by rw [block_add]; exact h2) (by rw [block_add]; exact h3)).trans g1, g2⟩
  | e0 => exact .e0
  | sln es rows ad n c _ ih => exact .sln es rows ad n c ih
  | bp cs ad val ha hv _ ih =>
    refine .bp cs ad val ⟨Nat.lt_of_lt_of_le ha.1 k.size, k.may _ ha.1 ha.2⟩ (fun j d hj => ?_) (fun j d hj => ih j d hj)
    obtain ⟨g1, g2⟩ := hv j d hj
    exact ⟨(cell_keep k (by rw [block_add]; exact ha.1) (by rw [block_add]; exact ha.2)).trans g1, g2⟩
  | clo f caps ys hl _ ih => exact .clo f caps ys hl fun i d y hd hy => ih i d y hd hy

/-- Fewer blocks may change. -/
theorem Rep0.less {M M' : Nat → Prop} {w : World} (hM : ∀ b, M' b → M b) {d : D} {y : Value} (h : Rep0 M w d y) : Rep0 M' w d y :=
  h.keep ⟨Nat.le_refl _, fun _ _ _ => rfl, fun b _ hb hb' => hb (hM b hb')⟩

/-- What a datum stands for, own objects by β. -/
inductive Rep (M : Nat → Prop) (β : Nat → Option Nat) (w : World) : D → Value → Prop
  | base {d : D} {y : Value} (h : Rep0 M w d y) : Rep M β w d y
  | agg (cs : List D) (ys : Array Value) (hl : cs.length = ys.size) (h1 : ∀ (i : Nat) (y : Value), ys[i]? = some y → y.oneCell' = true)
      (h : ∀ (i : Nat) (d : D) (y : Value), cs[i]? = some d → ys[i]? = some y → Rep M β w d y) : Rep M β w (.agg cs) (.agg ys)
  | tup (cs : List D) (ys : Array Value) (hl : cs.length = ys.size)
      (h : ∀ (i : Nat) (d : D) (y : Value), cs[i]? = some d → ys[i]? = some y → Rep M β w d y) : Rep M β w (.tup cs) (.tuple ys)
  | vw (r es lo n b c : Nat) (cs : Array Value) (e : TypeId) (hb : β r = some b) (hn : n ≤ c) (hm : c ≤ maxLen) (hh : w.heap[b]? = some (.cells cs e (0, 0)))
      (hc : (lo + c) * es ≤ cs.size) : Rep M β w (.vw r es lo n) (.slice (some ⟨b, lo * es, none⟩) n c)
  | vw0 (r es : Nat) (hb : β r = none) : Rep M β w (.vw r es 0 0) (.slice none 0 0)
  | ptr (r es i off b : Nat) (hb : β r = some b) : Rep M β w (.ptr r es i off) (.pointer (some ⟨b, i * es + off, none⟩))
  | clo (f : FuncId) (caps : List D) (ys : Array Value) (hl : caps.length = ys.size)
      (h : ∀ (i : Nat) (d : D) (y : Value), caps[i]? = some d → ys[i]? = some y → Rep M β w d y) : Rep M β w (.clo f caps) (.func (.func f) #[] ys)

/-- Do all names of own objects in it satisfy A? -/
inductive Refs (A : Nat → Prop) : D → Prop
  | v (x : Value) : Refs A (.v x)
  | un : Refs A .un
  | agg (cs : List D) (h : ∀ d ∈ cs, Refs A d) : Refs A (.agg cs)
  | tup (cs : List D) (h : ∀ d ∈ cs, Refs A d) : Refs A (.tup cs)
  | sl (es : Nat) (rows : List (List D)) : Refs A (.sl es rows)
  | sln (es : Nat) (rows : List (List D)) : Refs A (.sln es rows)
  | e0 : Refs A .e0
  | vw (r es lo k : Nat) (h : A r) : Refs A (.vw r es lo k)
  | bp (cs : List D) : Refs A (.bp cs)
  | ptr (r es i off : Nat) (h : A r) : Refs A (.ptr r es i off)
  | clo (f : FuncId) (caps : List D) (h : ∀ d ∈ caps, Refs A d) : Refs A (.clo f caps)

theorem Refs.mono {A B : Nat → Prop} (hAB : ∀ r, A r → B r) {d : D} (h : Refs A d) : Refs B d := by
  induction h with
  | v x => exact .v x
  | un => exact .un
  | agg cs _ ih => exact .agg cs ih
  | tup cs _ ih => exact .tup cs ih
  | sl es rows => exact .sl es rows
  | sln es rows => exact .sln es rows
  | e0 => exact .e0
  | vw r es lo k h => exact .vw r es lo k (hAB _ h)
  | bp cs => exact .bp cs
  | ptr r es i off h => exact .ptr r es i off (hAB _ h)
  | clo f caps _ ih => exact .clo f caps ih

theorem all_of_get {cs : List D} {ys : Array Value} (hl : cs.length = ys.size) {Q : D → Prop} (ih : ∀ (i : Nat) (d : D) (y : Value), cs[i]? = some d → ys[i]? = some y → Q d) : ∀ d ∈ cs, Q d := by
  intro d hd
  obtain ⟨i, hi, rfl⟩ := List.mem_iff_getElem.1 hd
  exact ih i _ (ys[i]'(by omega)) (List.getElem?_eq_getElem hi) (by simp)

theorem Rep0.refs {M : Nat → Prop} {w : World} {d : D} {y : Value} (A : Nat → Prop) (h : Rep0 M w d y) : Refs A d := by
  induction h with
  | v => exact .v _
  | un => exact .un
  | agg cs ys hl h1 _ ih => exact .agg cs (all_of_get hl ih)
  | tup cs ys hl _ ih => exact .tup cs (all_of_get hl ih)
  | sl => exact .sl _ _
  | sln => exact .sln _ _
  | e0 => exact .e0
  | bp => exact .bp _
  | clo f cs ys hl _ ih => exact .clo f cs (all_of_get hl ih)

/-- The names of A stay; the number of each block's cells stays. -/
structure KeepB (A : Nat → Prop) (M M' : Nat → Prop) (β β' : Nat → Option Nat) (w w' : World) : Prop extends Keep M M' w w' where
  names : ∀ r, A r → β' r = β r
  sizes : ∀ (b : Nat) (cs : Array Value) (e : TypeId), w.heap[b]? = some (.cells cs e (0, 0)) → ∃ cs', w'.heap[b]? = some (.cells cs' e (0, 0)) ∧ cs'.size = cs.size

theorem Rep.keep {A M M' : Nat → Prop} {β β' : Nat → Option Nat} {w w' : World} (k : KeepB A M M' β β' w w') {d : D} {y : Value} (h : Rep M β w d y) (hr : Refs A d) : Rep M' β' w' d y := by
  induction h with
  | base h => exact .base (h.keep k.toKeep)
  | agg cs ys hl h1 _ ih =>
    cases hr with
    | agg _ hr => exact .agg cs ys hl h1 fun i d y hd hy => ih i d y hd hy (hr d (List.mem_of_getElem? hd))
  | tup cs ys hl _ ih =>
    cases hr with
    | tup _ hr => exact .tup cs ys hl fun i d y hd hy => ih i d y hd hy (hr d (List.mem_of_getElem? hd))
  | vw r es lo n b c cs e hb hn hm hh hc =>
    cases hr with
    | vw _ _ _ _ hr =>
      obtain ⟨cs', h1, h2⟩ := k.sizes b cs e hh
      exact .vw r es lo n b c cs' e ((k.names r hr).trans hb) hn hm h1 (by rw [h2]; exact hc)
  | vw0 r es hb =>
    cases hr with
    | vw _ _ _ _ hr => exact .vw0 r es ((k.names r hr).trans hb)
  | ptr r es i off b hb =>
    cases hr with
    | ptr _ _ _ _ hr => exact .ptr r es i off b ((k.names r hr).trans hb)
  | clo f caps ys hl _ ih =>
    cases hr with
    | clo _ _ hr => exact .clo f caps ys hl fun i d y hd hy => ih i d y hd hy (hr d (List.mem_of_getElem? hd))

/-- An object in the world. -/
def ObjRep (M : Nat → Prop) (β : Nat → Option Nat) (w : World) (r : Nat) (o : Obj) : Prop :=
  (∀ (i : Nat) (row : List D), o.rows[i]? = some row → row.length = o.es) ∧
  ((o.rows = [] ∧ β r = none) ∨
   ∃ (b : Nat) (cs : Array Value) (val : Nat → Nat → Value), β r = some b ∧ w.heap[b]? = some (.cells cs o.elem (0, 0)) ∧ o.rows.length * o.es ≤ cs.size ∧
     (∀ (i : Nat) (row : List D) (j : Nat) (d : D), o.rows[i]? = some row → row[j]? = some d → cs[i * o.es + j]? = some (val i j) ∧ (val i j : Value).oneCell' = true) ∧
     (∀ (i : Nat) (row : List D) (j : Nat) (d : D), o.rows[i]? = some row → row[j]? = some d → Rep M β w d (val i j)))

/-- The abstract state: slots, objects (the newest first; none: no more), the next name, how many slots there are. -/
structure AS where
  sl : List (Nat × D)
  st : List (Nat × Option Obj)
  nx : Nat
  N : Nat
  deriving Inhabited

def find {α : Type} (k : Nat) : List (Nat × α) → Option α
  | [] => none
  | (j, x) :: l => bif j == k then some x else find k l
@[reducible] def AS.slot (s : AS) (t : Nat) : Option D := find t s.sl
@[reducible] def AS.obj (s : AS) (r : Nat) : Option Obj := (find r s.st).join

/-- The blocks that may change: those from outside, and the own objects'. -/
def Mut (M0 : Nat → Prop) (β : Nat → Option Nat) (ob : Nat → Option Obj) (b : Nat) : Prop := M0 b ∨ ∃ r o, ob r = some o ∧ β r = some b
/-- The own objects' blocks. -/
def Own (β : Nat → Option Nat) (ob : Nat → Option Obj) (b : Nat) : Prop := ∃ r o, ob r = some o ∧ β r = some b
theorem KeepB.up {A M0 : Nat → Prop} {β β' : Nat → Option Nat} {ob ob' : Nat → Option Obj} {w w' : World} (h : KeepB A (Own β ob) (Own β' ob') β β' w w') : KeepB A (Mut M0 β ob) (Mut M0 β' ob') β β' w w' :=
  ⟨⟨h.size, fun b hb hm => h.heap b hb fun hm' => hm (.inr hm'), fun b hb hm hm' => by
      rcases hm' with hm' | hm'
      · exact hm (.inl hm')
      · exact h.may b hb (fun hq => hm (.inr hq)) hm'⟩, h.names, h.sizes⟩

/-- The objects stand for blocks of a world. M0: what else may change; A: the names in use. -/
structure IvS (M0 : Nat → Prop) (A : Nat → Prop) (β : Nat → Option Nat) (ob : Nat → Option Obj) (w : World) : Prop where
  objs : ∀ r o, ob r = some o → ObjRep (Mut M0 β ob) β w r o
  inj : ∀ r r' o o' b, ob r = some o → ob r' = some o' → β r = some b → β r' = some b → r = r'
  own : ∀ r o b, ob r = some o → β r = some b → ¬ M0 b
  out : ∀ b, M0 b → b < w.heap.size
  names : ∀ r o, ob r = some o → A r
  orefs : ∀ r o row d, ob r = some o → row ∈ o.rows → d ∈ row → Refs A d

/-- The state stands for a world and a frame's slots. -/
structure Inv (M0 : Nat → Prop) (A : Nat → Prop) (β : Nat → Option Nat) (s : AS) (w : World) (a : Act) : Prop extends IvS M0 A β s.obj w where
  size : a.tmps.size = s.N
  defers : a.defers = []
  slots : ∀ t d, s.slot t = some d → Rep (Mut M0 β s.obj) β w d (a.tmps.getD t undef)
  refs : ∀ t d, s.slot t = some d → Refs A d

/-- What a stretch of code does to the rest of the world. A: the names that stay. -/
structure Fr (A : Nat → Prop) (M M' : Nat → Prop) (β β' : Nat → Option Nat) (w w' : World) : Prop extends KeepB A M M' β β' w w' where
  os : w'.os = w.os
  tape : w'.tape = w.tape
  output : w'.output = w.output

theorem Fr.refl (A : Nat → Prop) (M : Nat → Prop) (β : Nat → Option Nat) (w : World) : Fr A M M β β w w :=
  ⟨⟨Keep.refl M w, fun _ _ => rfl, fun b cs e h => ⟨cs, h, rfl⟩⟩, rfl, rfl, rfl⟩
theorem Fr.trans {A B : Nat → Prop} (hAB : ∀ r, A r → B r) {M M' M'' : Nat → Prop} {β β' β'' : Nat → Option Nat} {w w' w'' : World} (h : Fr A M M' β β' w w') (k : Fr B M' M'' β' β'' w' w'') : Fr A M M'' β β'' w w'' :=
  ⟨⟨h.toKeep.trans k.toKeep, fun r hr => (k.names r (hAB r hr)).trans (h.names r hr), fun b cs e hb => by
      obtain ⟨cs', h1, h2⟩ := h.sizes b cs e hb
      obtain ⟨cs'', h3, h4⟩ := k.sizes b cs' e h1
      exact ⟨cs'', h3, h4.trans h2⟩⟩, k.os.trans h.os, k.tape.trans h.tape, k.output.trans h.output⟩
theorem Fr.less {A B : Nat → Prop} (hAB : ∀ r, A r → B r) {M M' : Nat → Prop} {β β' : Nat → Option Nat} {w w' : World} (h : Fr B M M' β β' w w') : Fr A M M' β β' w w' :=
  ⟨⟨h.toKeep, fun r hr => h.names r (hAB r hr), h.sizes⟩, h.os, h.tape, h.output⟩
end Go.Abs
