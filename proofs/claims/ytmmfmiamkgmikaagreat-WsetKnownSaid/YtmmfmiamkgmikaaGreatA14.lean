/- The abstract logic, part 14: literals of structs, functions as values, equality. -/
import Derived.Test.YtmmfmiamkgmikaaGreatA13
set_option linter.unusedVariables false
set_option linter.unusedSimpArgs false
namespace Go.Abs

class Bld (P : Program) (t : TypeId) (ps : outParam (List (Nat × Nat))) : Prop where
  bld : ((P.underlying t).bind fun | .struct fs => fs.toList.mapM (fun f => (P.info? f.type).map fun i => (f.offset, i.size)) | _ => none) = some ps

def fillD (ps : List (Nat × Nat)) (cells : List D) : List (Nat × D) → Option (List D)
  | [] => some cells
  | (i, d) :: rest => match ps[i]? with
    | none => none
    | some (off, size) => bif (dcells d).length == size && Nat.ble (off + (dcells d).length) cells.length then fillD ps (splice cells off (dcells d)) rest else none

section
variable {P : Program} {o : Oper} {s : AS}

/-- Values that data stand for, cell by cell. -/
def CellsRep (A M : Nat → Prop) (β : Nat → Option Nat) (w : World) (ds : List D) (vs : Array Value) : Prop :=
  ds.length = vs.size ∧ (∀ (i : Nat) (v : Value), vs[i]? = some v → v.oneCell' = true) ∧ ∀ (i : Nat) (d : D) (v : Value), ds[i]? = some d → vs[i]? = some v → Rep M β w d v ∧ Refs A d

theorem fill_rep {A M : Nat → Prop} {β : Nat → Option Nat} {w : World} {ps : List (Nat × Nat)} : ∀ {parts : List (Nat × D)} {vals : List (Nat × Value)} {cells cells' : List D} {vs : Array Value},
    parts.length = vals.length → (∀ (k i : Nat) (d : D) (j : Nat) (v : Value), parts[k]? = some (i, d) → vals[k]? = some (j, v) → i = j ∧ CellsRep A M β w (dcells d) v.cells) →
    CellsRep A M β w cells vs → fillD ps cells parts = some cells' → ∃ vs', Instr.fill (ps.toArray[·]?) vs vals = some vs' ∧ CellsRep A M β w cells' vs'
  | [], [], cells, cells', vs, _, _, hc, hf => by
    simp only [fillD, Option.some.injEq] at hf
    subst hf
    exact ⟨vs, rfl, hc⟩
  | [], _ :: _, _, _, _, hl, _, _, _ => by simp at hl
  | _ :: _, [], _, _, _, hl, _, _, _ => by simp at hl
  | (i, d) :: parts, (j, v) :: vals, cells, cells', vs, hl, hp, hc, hf => by
    obtain ⟨rfl, hd⟩ := hp 0 i d j v rfl rfl
    simp only [fillD] at hf
    cases hps : ps[i]? with
    | none => simp [hps] at hf
    | some os =>
      obtain ⟨off, size⟩ := os
      simp only [hps] at hf
      by_cases hb : ((dcells d).length == size && Nat.ble (off + (dcells d).length) cells.length) = true
      · rw [hb] at hf
        simp only [cond_true] at hf
        simp only [Bool.and_eq_true, beq_iff_eq, Nat.ble_eq] at hb
        obtain ⟨hsz, hle⟩ := hb
        have hvs : v.cells.size = size := by rw [← hd.1]; exact hsz
        obtain ⟨f1, f2⟩ := Great.foldl_set off v.cells.toList 0 vs
        obtain ⟨s1, s2⟩ := splice_get cells off (dcells d) hle
        have hnew : CellsRep A M β w (splice cells off (dcells d)) ((v.cells.toList.zipIdx 0).foldl (fun cs (x : Value × Nat) => cs.setIfInBounds (off + x.2) x.1) vs) := by
          have hlen := hc.1
          have hdl := hd.1
          refine ⟨by rw [s1, f1, hlen], fun k u hu => ?_, fun k e u he hu => ?_⟩
          · rw [f2] at hu
            split at hu
            · rename_i hin
              simp only [Nat.add_zero, Array.getElem?_toList] at hu
              exact hd.2.1 _ u hu
            · exact hc.2.1 k u hu
          · rw [f2] at hu
            rw [s2] at he
            by_cases hin : off ≤ k ∧ k < off + (dcells d).length
            · rw [if_pos hin] at he
              rw [if_pos (by simp only [Array.length_toList]; omega)] at hu
              simp only [Nat.add_zero, Array.getElem?_toList] at hu
              exact hd.2.2 _ e u he hu
            · rw [if_neg hin] at he
              rw [if_neg (by simp only [Array.length_toList]; omega)] at hu
              exact hc.2.2 k e u he hu
        obtain ⟨vs', h1, h2⟩ := fill_rep (parts := parts) (vals := vals) (by simpa using hl) (fun k i' d' j' v' h1 h2 => hp (k + 1) i' d' j' v' (by simpa using h1) (by simpa using h2)) hnew hf
        refine ⟨vs', ?_, h2⟩
        unfold Instr.fill
        simp only [List.getElem?_toArray, hps] at h1 ⊢
        rw [if_neg (by have := hc.1; have := hd.1; simp; omega)]
        have e : (v.cells.zipIdx.foldl (fun cs (x : Value × Nat) => cs.setIfInBounds (off + x.2) x.1) vs) = ((v.cells.toList.zipIdx 0).foldl (fun cs (x : Value × Nat) => cs.setIfInBounds (off + x.2) x.1) vs) := by
          rw [← Array.foldl_toList]
          simp
        rw [← e] at h1
        exact h1
      · rw [Bool.not_eq_true] at hb
        rw [hb] at hf
        simp at hf

theorem core_build {t : TypeId} {z : List Value} [hz : ZeroV P t z] {ps : List (Nat × Nat)} [hb : Bld P t ps] {parts : Array (Nat × Operand)} {xs : List Operand} {is : List Nat} {ds cs : List D} (ho : o.op = .build t parts)
    (hp : parts.toList = is.zip xs) (hl : is.length = xs.length) (hx : evs s xs = some ds) (hd : ∀ d ∈ ds, Solid d) (hf : fillD ps (z.map zD) (is.zip ds) = some cs) : Core P o s [] ⟨.agg cs, [], []⟩ :=
  Core.value fun s2 h1 _ M0 A β w a hI => by
    have hmem : ∀ x ∈ xs, x ∈ o.op.operands := by
      intro x hx
      simp only [ho, Op.operands]
      obtain ⟨i, hi, rfl⟩ := List.mem_iff_getElem.1 hx
      have : (is[i]'(by omega), xs[i]) ∈ parts.toList := by
        rw [hp]
        exact List.mem_iff_getElem.2 ⟨i, by simp; omega, by simp⟩
      simp only [List.mem_toArray, List.mem_map]
      exact ⟨_, this, rfl⟩
    have hx2 : evs s2 xs = some ds := (evs_agree fun x hx => h1 x (hmem x hx)).trans hx
    obtain ⟨hxl, hxe⟩ := evs_get hx2
    obtain ⟨u, hu, hq⟩ := Option.bind_eq_some_iff.1 hb.bld
    cases u with
    | struct fs =>
      simp only at hq
      obtain ⟨v0, hv0, hvz⟩ := Option.map_eq_some_iff.1 hz.zero
      obtain ⟨i0, hi0, hiz⟩ := Option.bind_eq_some_iff.1 hv0
      have hplaces : (fs.mapM (fun f => do pure (f.offset, ← sizeOf f.type) : Field → Sem (Nat × Nat))).run P w = .ok ps.toArray w := by
        rw [Array.mapM_eq_mapM_toList, Sem.run_map]
        have : ∀ (l : List Field) (ps : List (Nat × Nat)), l.mapM (fun f => (P.info? f.type).map fun i => (f.offset, i.size)) = some ps → (l.mapM (fun f => do pure (f.offset, ← sizeOf f.type) : Field → Sem (Nat × Nat))).run P w = .ok ps w := by
          intro l
          induction l with
          | nil => intro ps h; simp at h; subst h; simp
          | cons f l ih =>
            intro ps h
            rw [List.mapM_cons] at h
            cases hf : P.info? f.type with
            | none => simp [hf] at h
            | some i =>
              cases hr : l.mapM (fun f => (P.info? f.type).map fun i => (f.offset, i.size)) with
              | none => simp [hf, hr] at h
              | some qs =>
                simp [hf, hr] at h
                subst h
                have hs : (sizeOf f.type).run P w = .ok i.size w := by simp [sizeOf, typeInfo, hf]
                rw [List.mapM_cons, Sem.run_bind, Sem.run_bind, hs, Result.andThen_ok, Sem.run_pure, Result.andThen_ok, Sem.run_bind, ih qs hr]
                rfl
        rw [this _ _ hq]
        rfl
      let vals : List (Nat × Value) := is.zip (xs.map a.eval)
      have hvals : (parts.map fun (x : Nat × Operand) => (x.1, a.eval x.2)).toList = vals := by
        rw [Array.toList_map, hp]
        simp only [vals, List.zip_map_right]
        rfl
      obtain ⟨vs', hfill, hrep⟩ := fill_rep (A := A) (M := Mut M0 β s2.obj) (β := β) (w := w) (ps := ps) (parts := is.zip ds) (vals := vals) (cells := z.map zD) (vs := v0.cells) (by simp [vals]; omega)
        (fun k i d j v h1 h2 => by
          simp only [vals, List.getElem?_zip_eq_some, List.getElem?_map, Option.map_eq_some_iff] at h1 h2
          obtain ⟨h1, h3⟩ := h1
          obtain ⟨h2, x, hx', rfl⟩ := h2
          rw [h1] at h2
          refine ⟨Option.some.inj h2, ?_⟩
          have e1 := evx_rep hI (hxe k x d hx' h3)
          exact rep_cells' e1.1 e1.2 (hd d (List.mem_of_getElem? h3)))
        ⟨by rw [← hvz]; simp, fun i v hv => List.all_eq_true.1 hz.one v (by rw [← hvz]; simp; exact Array.mem_of_getElem? hv), fun i d v hd' hv => by
          rw [← hvz] at hd'
          simp only [List.getElem?_map, Option.map_eq_some_iff, Array.getElem?_toList] at hd'
          obtain ⟨v', hv', rfl⟩ := hd'
          rw [hv] at hv'
          cases hv'
          exact ⟨.base (zD_rep _), zD_refs _⟩⟩ hf
      refine ⟨.agg vs', ?_, .agg cs vs' hrep.1 hrep.2.1 fun i d v hd hv => (hrep.2.2 i d v hd hv).1, .agg cs fun d hd => ?_⟩
      · have hzr : (zeroValue t).run P w = .ok v0 w := by simp [zeroValue, typeInfo, hi0, hiz]
        have : (Instr.build t (parts.map fun (x : Nat × Operand) => (x.1, a.eval x.2))).run P w = .ok (.agg vs') w := by
          unfold Instr.build
          rw [Sem.run_bind, hzr]
          simp only [Result.andThen_ok]
          rw [Sem.run_bind, run_underlying hu]
          simp only [Result.andThen_ok]
          rw [Sem.run_bind, hplaces]
          simp only [Result.andThen_ok, hvals, hfill]
          rfl
        simp [execOp, ho, this]
      · obtain ⟨i, hi, rfl⟩ := List.mem_iff_getElem.1 hd
        exact (hrep.2.2 i _ (vs'[i]'(by rw [← hrep.1]; exact hi)) (List.getElem?_eq_getElem hi) (by simp [← hrep.1, hi])).2
    | _ => simp at hq

theorem core_makeFunc {f : FuncId} {xs : Array Operand} {ds : List D} (ho : o.op = .makeFunc (.func f) #[] xs) (hx : evs s xs.toList = some ds) : Core P o s [] ⟨.clo f ds, [], []⟩ :=
  Core.value fun s2 h1 _ M0 A β w a hI => by
    have hx2 : evs s2 xs.toList = some ds := (evs_agree fun x hx => h1 x (by simp [ho, Op.operands]; simpa using hx)).trans hx
    obtain ⟨hxl, hxe⟩ := evs_get hx2
    refine ⟨.func (.func f) #[] (xs.map a.eval), by simp [execOp, ho, Instr.makeFunc], .clo f ds _ (by simp; simpa using hxl.symm) fun i d y hd hy => ?_, .clo f ds fun d hd => ?_⟩
    · simp only [Array.getElem?_map, Option.map_eq_some_iff] at hy
      obtain ⟨x, hx', rfl⟩ := hy
      exact (evx_rep hI (hxe i x d (by simpa using hx') hd)).1
    · obtain ⟨i, hi, rfl⟩ := List.mem_iff_getElem.1 hd
      have hlt : i < xs.toList.length := by omega
      exact (evx_rep hI (hxe i xs.toList[i] _ (List.getElem?_eq_getElem hlt) (List.getElem?_eq_getElem hi))).2

/-- Two aggregates of scalars. -/
theorem core_eqs {op : BinOp} {t t' : TypeId} {x y : Operand} {cs ds : List D} {xs ys : List Value} {b r : Bool} (ho : o.op = .binOp op t x y t') (hx : evx s x = some (.agg cs)) (hy : evx s y = some (.agg ds))
    (hc : cs = xs.map .v) (hd : ds = ys.map .v) (hm : P.eqGuardType P.depth t = false) (he : ∀ w, (Op.equalIn 10000 t (.agg xs.toArray) (.agg ys.toArray)).run P w = .ok b w)
    (hr : (match op with | .eql => some b | .neq => some (!b) | _ => none) = some r) : Core P o s [] ⟨.b r, [], []⟩ :=
  Core.value fun s2 h1 _ M0 A β w a hI => by
    have e1 := evx_rep hI ((h1 x (by simp [ho, Op.operands])).trans hx)
    have e2 := evx_rep hI ((h1 y (by simp [ho, Op.operands])).trans hy)
    have key : ∀ {v : Value} {cs : List D} {xs : List Value}, Rep (Mut M0 β s2.obj) β w (.agg cs) v → cs = xs.map .v → v = .agg xs.toArray := by
      intro v cs xs hv hc
      obtain ⟨vs, rfl, hl, _, h⟩ := hv.agg_inv
      subst hc
      congr 1
      apply Array.ext
      · simp at hl; simp [hl]
      · intro i hi1 hi2
        have hi : i < xs.length := by simpa using hi2
        have := (h i (.v xs[i]) vs[i] (by simp [hi]) (by simp [hi1])).one
        simp [this]
    have k1 := key e1.1 hc
    have k2 := key e2.1 hd
    refine ⟨.bool r, ?_, .base (.v _), .v _⟩
    have h2 : (do eqGuard op t x y (.agg xs.toArray) (.agg ys.toArray); binOp op t (.agg xs.toArray) (.agg ys.toArray) : Sem Value).run P w = .ok (.bool r) w := by
      rw [Sem.run_bind, run_eqGuard_agg w op t x y _ _ hm, Result.andThen_ok]
      cases op <;> simp only [Option.some.injEq, reduceCtorEq] at hr
      · subst hr; rw [run_eql_struct, he w]; rfl
      · subst hr; rw [run_neq_struct, he w]; rfl
    simp only [execOp, ho, k1, k2]
    rw [Sem.run_bind, h2]
    rfl
end
end Go.Abs
