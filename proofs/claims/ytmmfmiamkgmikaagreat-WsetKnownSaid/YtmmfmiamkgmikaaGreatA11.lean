/- The abstract logic, part 11: whole functions. -/
import Derived.Test.YtmmfmiamkgmikaaGreatA10
set_option linter.unusedVariables false
set_option linter.unusedSimpArgs false
namespace Go.Abs

def resVal (tmps : Array Value) : ResultVar → Sem Value
  | .tmp t => pure (tmps.getD t undef)
  | .cell ad t => do loadVar t (← asAddr (tmps.getD ad undef))
theorem results_eq (fn : Func) (tmps : Array Value) : results fn tmps = (do let vs ← fn.results.mapM (resVal tmps); pure (if h : vs.size = 1 then vs[0] else .tuple vs)) := by
  unfold results
  congr 1

/-- One of a function's results. -/
inductive ResAt (P : Program) (s : AS) : ResultVar → D → Prop
  | tmp {t : Tmp} {d : D} (h : s.slot t = some d) : ResAt P s (.tmp t) d
  | agg {a T n : Nat} {da : D} {cs cs' : List D} [TyAgg P T n] (h : s.slot a = some da) (hp : pts s da = some cs) (hn : n ≤ cs.length) (hc : cs.take n = cs') : ResAt P s (.cell a T) (.agg cs')
  | one {a T : Nat} {da d : D} {cs : List D} [TyOne P T] (h : s.slot a = some da) (hp : pts s da = some cs) (hc : cs[0]? = some d) : ResAt P s (.cell a T) d

theorem ResAt.run {P : Program} {M0 A : Nat → Prop} {β : Nat → Option Nat} {s : AS} {w : World} {a : Act} (hI : Inv M0 A β s w a) {r : ResultVar} {d : D} (h : ResAt P s r d) :
    ∃ y, (resVal a.tmps r).run P w = .ok y w ∧ Rep (Mut M0 β s.obj) β w d y ∧ Refs A d := by
  cases h with
  | tmp h => exact ⟨_, rfl, hI.slots _ _ h, hI.refs _ _ h⟩
  | @agg ad T n da cs cs' _ h hp hn hcs =>
    subst hcs
    obtain ⟨p, vals, hy, hl, hc, hd⟩ := pts_rep hI hp (hI.slots _ _ h)
    have hl' : (vals.take n).length = n := by simp; omega
    refine ⟨.agg (vals.take n).toArray, ?_, .agg _ _ (by simp; omega) (fun i y hi => ?_) (fun i d y hd' hy' => ?_), .agg _ fun d hd' => ?_⟩
    · have := run_loadVar_agg (P := P) (t := T) w p (vals.take n) hl' (fun j v hj => by
        rw [List.getElem?_take] at hj
        split at hj
        · exact (hc j v hj).1
        · cases hj)
      simp [resVal, hy, asAddr, this]
    · simp only [List.getElem?_toArray, List.getElem?_take] at hi
      split at hi
      · exact (hc i y hi).2
      · cases hi
    · simp only [List.getElem?_toArray, List.getElem?_take] at hd' hy'
      split at hd'
      · rename_i hlt
        rw [if_pos hlt] at hy'
        exact (hd i d y hd' hy').1
      · cases hd'
    · have hd'' := List.mem_of_mem_take hd'
      obtain ⟨i, hi, rfl⟩ := List.mem_iff_getElem.1 hd''
      exact (hd i _ (vals[i]'(by omega)) (List.getElem?_eq_getElem hi) (List.getElem?_eq_getElem (by omega))).2
  | @one ad T da d cs _ h hp hn =>
    obtain ⟨p, vals, hy, hl, hc, hd⟩ := pts_rep hI hp (hI.slots _ _ h)
    have hlen : 0 < vals.length := by rw [hl]; exact (List.getElem?_eq_some_iff.1 hn).1
    have h0 : vals[0]? = some vals[0] := List.getElem?_eq_getElem hlen
    have h3 := (hc 0 _ h0).1
    have had : p.add 0 = p := by simp [Addr.add]
    rw [had] at h3
    have := run_loadVar_one (P := P) (t := T) w p _ h3
    exact ⟨vals[0], by simp [resVal, hy, asAddr, this], (hd 0 _ _ hn h0).1, (hd 0 _ _ hn h0).2⟩

inductive ResL (P : Program) (s : AS) : List ResultVar → List D → Prop
  | nil : ResL P s [] []
  | cons {r : ResultVar} {d : D} {rs : List ResultVar} {ds : List D} (h : ResAt P s r d) (t : ResL P s rs ds) : ResL P s (r :: rs) (d :: ds)

def retD : List D → D
  | [d] => d
  | ds => .tup ds

theorem ResL.run {P : Program} {M0 A : Nat → Prop} {β : Nat → Option Nat} {s : AS} {w : World} {a : Act} (hI : Inv M0 A β s w a) {rs : List ResultVar} {ds : List D} (h : ResL P s rs ds) :
    ∃ ys : List Value, (rs.mapM (resVal a.tmps)).run P w = .ok ys w ∧ ys.length = ds.length ∧
      (∀ (i : Nat) (d : D) (y : Value), ds[i]? = some d → ys[i]? = some y → Rep (Mut M0 β s.obj) β w d y ∧ Refs A d) := by
  induction h with
  | nil => exact ⟨[], by simp, rfl, by simp⟩
  | cons h _ ih =>
    obtain ⟨ys, h1, h2, h3⟩ := ih
    obtain ⟨y, g1, g2, g3⟩ := h.run hI
    refine ⟨y :: ys, ?_, by simp [h2], fun i d y' hd hy => ?_⟩
    · rw [List.mapM_cons, Sem.run_bind, g1, Result.andThen_ok, Sem.run_bind, h1]
      rfl
    · cases i with
      | zero => simp at hd hy; subst hd; subst hy; exact ⟨g2, g3⟩
      | succ i => exact h3 i d y' (by simpa using hd) (by simpa using hy)

theorem results_rep {P : Program} {fn : Func} {M0 A : Nat → Prop} {β : Nat → Option Nat} {s : AS} {w : World} {a : Act} (hI : Inv M0 A β s w a) {ds : List D} (h : ResL P s fn.results.toList ds) :
    ∃ y, (results fn a.tmps).run P w = .ok y w ∧ Rep (Mut M0 β s.obj) β w (retD ds) y ∧ Refs A (retD ds) := by
  obtain ⟨ys, h1, h2, h3⟩ := h.run hI
  have hm : ((fn.results.mapM (resVal a.tmps)).run P w) = .ok ys.toArray w := by
    rw [Array.mapM_eq_mapM_toList, Sem.run_map, h1]
    rfl
  have hr : (results fn a.tmps).run P w = .ok (if h : ys.toArray.size = 1 then ys.toArray[0] else .tuple ys.toArray) w := by
    rw [results_eq, Sem.run_bind, hm]
    rfl
  refine ⟨_, hr, ?_⟩
  have tupCase : ys.length ≠ 1 → Rep (Mut M0 β s.obj) β w (.tup ds) (.tuple ys.toArray) ∧ Refs A (.tup ds) := by
    intro hne
    refine ⟨.tup ds _ (by simp [h2]) fun i d y hd hy => (h3 i d y hd (by simpa using hy)).1, .tup ds fun d hd => ?_⟩
    obtain ⟨i, hi, rfl⟩ := List.mem_iff_getElem.1 hd
    exact (h3 i _ (ys[i]'(by omega)) (List.getElem?_eq_getElem hi) (List.getElem?_eq_getElem (by omega))).2
  match ds, ys, h2, h3, tupCase with
  | [], [], _, _, t => exact t (by simp)
  | [d], [y], _, h3, _ => exact h3 0 d y rfl rfl
  | _ :: _ :: _, [], h2, _, _ => simp at h2
  | _ :: _ :: _, [_], h2, _, _ => simp at h2
  | d :: d' :: ds, y :: y' :: ys, h2, h3, t => exact t (by simp)
  | [], _ :: _, h2, _, _ => simp at h2
  | [_], [], h2, _, _ => simp at h2
  | [_], _ :: _ :: _, h2, _, _ => simp at h2
end Go.Abs
