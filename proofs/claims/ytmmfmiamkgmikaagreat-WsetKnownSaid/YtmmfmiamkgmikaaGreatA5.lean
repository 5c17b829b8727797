/- The abstract logic, part 5: literals, make, stores, append. -/
import Derived.Test.YtmmfmiamkgmikaaGreatA4
set_option linter.unusedVariables false
set_option linter.unusedSimpArgs false
namespace Go.Abs

section
variable {P : Program} {o : Oper} {s : AS}

/-- Whatever an operation does to the objects. -/
theorem Core.gen {foot : List Nat} {e : Eff}
    (h : ∀ s2 : AS, (∀ x ∈ o.op.operands, evx s2 x = evx s x) → (∀ r ∈ foot, s2.obj r = s.obj r) →
      ∀ (M0 A : Nat → Prop) (β : Nat → Option Nat) (w : World) (a : Act), (∀ r ∈ e.news, ¬ A r) → Inv M0 A β s2 w a →
        ∃ (y : Value) (w' : World) (β' : Nat → Option Nat), ((execOp a.eval o).run P w = .ok (.value y) w' ∨ ((execOp a.eval o).run P w = .ok .skip w' ∧ y = undef)) ∧
          w'.os = w.os ∧ w'.tape = w.tape ∧ w'.output = w.output ∧ IvS M0 (fun r => A r ∨ r ∈ e.news) β' (fun r => (find r (e.sets ++ s2.st)).join) w' ∧
          KeepB A (Own β s2.obj) (Own β' fun r => (find r (e.sets ++ s2.st)).join) β β' w w' ∧ Rep (Mut M0 β' fun r => (find r (e.sets ++ s2.st)).join) β' w' e.val y ∧ Refs (fun r => A r ∨ r ∈ e.news) e.val) : Core P o s foot e := by
  intro s2 h1 h2 hN M0 A β w a hA hI K Q hK
  obtain ⟨y, w', β', hrun, hos, htp, hout, g1, g2, hd, hf⟩ := h s2 h1 h2 M0 A β w a hA hI
  unfold Oper.wp
  have hpost : Post M0 A β s2 w o.dst e (a.put o.dst y) w' := ⟨β', hI.step (fun r hr => Or.inl hr) g1 g2 hN hd hf (fun r => rfl), ⟨g2, hos, htp, hout⟩⟩
  rcases hrun with hrun | ⟨hrun, rfl⟩
  · rw [hrun, Oper.upon_value]
    exact hK _ _ hpost
  · rw [hrun, Oper.upon_skip]
    exact hK _ _ hpost

def evs (s : AS) : List Operand → Option (List D)
  | [] => some []
  | x :: xs => match evx s x, evs s xs with
    | some d, some ds => some (d :: ds)
    | _, _ => none

theorem evs_get {s : AS} : ∀ {xs : List Operand} {ds : List D}, evs s xs = some ds → xs.length = ds.length ∧ ∀ (k : Nat) (x : Operand) (d : D), xs[k]? = some x → ds[k]? = some d → evx s x = some d
  | [], ds, h => by simp [evs] at h; subst h; simp
  | x :: xs, ds, h => by
    simp only [evs] at h
    split at h
    · rename_i d ds' hx hxs
      simp only [Option.some.injEq] at h
      subst h
      obtain ⟨g1, g2⟩ := evs_get hxs
      refine ⟨by simp [g1], fun k y e hy he => ?_⟩
      cases k with
      | zero => simp at hy he; subst hy; subst he; exact hx
      | succ k => simp at hy he; exact g2 k y e hy he
    · cases h

theorem evs_agree {s s2 : AS} : ∀ {xs : List Operand}, (∀ x ∈ xs, evx s2 x = evx s x) → evs s2 xs = evs s xs
  | [], _ => rfl
  | x :: xs, h => by
    have h1 := h x (by simp)
    have h2 := evs_agree (s := s) (s2 := s2) (xs := xs) fun y hy => h y (by simp [hy])
    simp only [evs, h1, h2]

theorem getD_of {l : List Value} {i : Nat} {v d : Value} (h : l[i]? = some v) : l.getD i d = v := by simp [List.getD_eq_getElem?_getD, h]

theorem core_buildSlice {t e es : Nat} [hs : Slc P t e es] {z : List Value} [hz : ZeroV P e z] {parts : Array (Nat × Operand)} {xs : List Operand} {ds : List D} (id : Nat) (ho : o.op = .buildSlice t xs.length parts)
    (hparts : parts.toList = (xs.zipIdx 0).map fun x => (x.2, x.1)) (hes : 0 < es) (hzl : z.length = es) (hx : evs s xs = some ds) (hd : ∀ d ∈ ds, Solid d ∧ (dcells d).length = es) (hsm : xs.length * es ≤ 16777216) :
    Core P o s [] ⟨.vw id es 0 ds.length, [(id, some ⟨e, es, ds.map dcells⟩)], [id]⟩ :=
  Core.lays fun s2 h1 _ M0 A β w a hid hI => by
    have hag : evs s2 xs = some ds := (evs_agree fun x hx' => h1 x (by
      simp only [ho, Op.operands, hparts, List.map_map, List.mem_toArray, List.mem_map]
      obtain ⟨k, hk, rfl⟩ := List.mem_iff_getElem.1 hx'
      exact ⟨(xs[k], k), by simpa [List.mem_iff_getElem?, List.getElem?_zipIdx] using ⟨k, by simp [hk]⟩, rfl⟩)).trans hx
    obtain ⟨hl, hg⟩ := evs_get hag
    have hrepd : ∀ (k : Nat) (x : Operand) (d : D), xs[k]? = some x → ds[k]? = some d → Rep (Mut M0 β s2.obj) β w d (a.eval x) ∧ Refs A d := fun k x d hx hd => evx_rep hI (hg k x d hx hd)
    have hvs : ∀ v ∈ xs.map a.eval, v.cells.size = es := by
      intro v hv
      obtain ⟨x, hx', rfl⟩ := List.mem_map.1 hv
      obtain ⟨k, hk, rfl⟩ := List.mem_iff_getElem.1 hx'
      have hd' := hd ds[k] (List.getElem_mem (by omega))
      have hr := hrepd k xs[k] ds[k] (List.getElem?_eq_getElem hk) (List.getElem?_eq_getElem (by omega))
      rw [← (rep_cells' hr.1 hr.2 hd'.1).1]
      exact hd'.2
    obtain ⟨v0, hv0, hvz⟩ := Option.map_eq_some_iff.1 hz.zero
    obtain ⟨i0, hi0, hiz⟩ := Option.bind_eq_some_iff.1 hv0
    have hzs : v0.cells.size = es := by rw [← hzl, ← hvz]; simp
    let cells0 : Array Value := (Array.range (xs.length * es)).map (v0.cells[· % v0.cells.size]!)
    obtain ⟨r, hr, hrs, hrk⟩ := Great.fill_dense hes (xs.map a.eval) 0 cells0 hvs (by simp [cells0])
    have hpe : (parts.map fun x => (x.1, a.eval x.2)).toList = ((xs.map a.eval).zipIdx 0).map fun x => (x.2, x.1) := by
      rw [Array.toList_map, hparts, List.zipIdx_map, List.map_map, List.map_map]
      rfl
    refine ⟨.slice (some ⟨w.heap.size, 0, none⟩) xs.length xs.length, w.alloc (.cells r e), w.heap.size, r, fun i j => ((xs.map a.eval).getD i undef).cells.getD j undef, ?_, Nat.le_refl _, fun k hk => heap_alloc_old w _ k hk, by simp, rfl, rfl, rfl, heap_alloc_new w _,
      fun i row hi => ?_, by simp [hrs, cells0, hl], fun i row j d hi hj => ?_, fun i row j d hi hj => ?_, fun M β' hb => ?_, .vw _ _ _ _ rfl⟩
    · have hfill : Instr.fill (fun i => some (i * es, es)) ((Array.range (xs.length * es)).map ((if xs.length * es = 0 then #[] else v0.cells)[· % (if xs.length * es = 0 then #[] else v0.cells : Array Value).size]!)) (parts.map fun x => (x.1, a.eval x.2)).toList = some r := by
        rw [hpe]
        by_cases h0 : xs.length * es = 0
        · have h00 : xs.length = 0 := by
            rcases Nat.mul_eq_zero.1 h0 with h | h
            · exact h
            · omega
          have e1 : (Array.range (xs.length * es)).map ((if xs.length * es = 0 then #[] else v0.cells)[· % (if xs.length * es = 0 then #[] else v0.cells : Array Value).size]!) = cells0 := by
            simp [h0, cells0]
          rw [e1]; exact hr
        · simp only [h0, if_false]
          exact hr
      have hns : ¬ (xs.length * es > 16777216) := by omega
      simp only [execOp, ho, Instr.buildSlice, Sem.run_bind, run_underlying hs.slc, Result.andThen_ok, run_sizeOf' w hs.size]
      rw [if_neg (by simpa using hns)]
      by_cases h0 : xs.length * es = 0
      · rw [if_pos h0]
        simp only [h0, if_true] at hfill
        simp only [h0, Sem.run_bind, Sem.run_pure, Result.andThen_ok, hfill, newRow, run_newObj]
        rfl
      · rw [if_neg h0]
        simp only [h0, if_false] at hfill
        simp only [zeroValue, typeInfo, hi0, hiz, Sem.run_bind, run_program, Sem.run_pure, Result.andThen_ok, hfill, newRow, run_newObj]
        rfl
    · simp only [List.getElem?_map, Option.map_eq_some_iff] at hi
      obtain ⟨d, hd', rfl⟩ := hi
      exact (hd d (List.mem_of_getElem? hd')).2
    all_goals try
      simp only [List.getElem?_map, Option.map_eq_some_iff] at hi
      obtain ⟨d', hd', rfl⟩ := hi
      have hlt : i < xs.length := by rw [hl]; exact (List.getElem?_eq_some_iff.1 hd').1
      have hxi : xs[i]? = some xs[i] := List.getElem?_eq_getElem hlt
      have hgd : (xs.map a.eval).getD i undef = a.eval xs[i] := by simp [List.getD_eq_getElem?_getD, hlt]
      have hsd := hd d' (List.mem_of_getElem? hd')
      obtain ⟨hr1, hr2⟩ := hrepd i xs[i] d' hxi hd'
      obtain ⟨c1, c2, c3⟩ := rep_cells' hr1 hr2 hsd.1
      have hjlt : j < (dcells d').length := (List.getElem?_eq_some_iff.1 hj).1
      have hcj : (a.eval xs[i]).cells[j]? = some ((a.eval xs[i]).cells[j]'(by omega)) := by simp [show j < (a.eval xs[i]).cells.size by omega]
      have hgj : (a.eval xs[i]).cells.getD j undef = (a.eval xs[i]).cells[j]'(by omega) := by simp [show j < (a.eval xs[i]).cells.size by omega]
      simp only [hgd, hgj]
      first
      | (refine ⟨?_, c2 j _ hcj⟩
         rw [hrk]
         have hje : j < es := by omega
         have q1 : (i * es + j) / es = i := by rw [Nat.mul_comm, Nat.mul_add_div hes]; simp [Nat.div_eq_of_lt hje]
         have q2 : (i * es + j) % es = j := by rw [Nat.mul_comm, Nat.mul_add_mod]; exact Nat.mod_eq_of_lt hje
         have q3 : i * es + j < (0 + (xs.map a.eval).length) * es := by
           have : (i + 1) * es ≤ xs.length * es := Nat.mul_le_mul_right _ hlt
           rw [Nat.add_mul] at this
           simp
           omega
         rw [if_pos ⟨by omega, q3⟩, q1, q2]
         simp [hlt, hcj])
      | exact c3 j _ _ hj hcj
    · rw [← hl]
      have := Rep.vw (M := M) (β := β') (w := w.alloc (.cells r e)) id es 0 xs.length w.heap.size xs.length r e hb (Nat.le_refl _) (by
        have := hsm
        have h2 : xs.length * 1 ≤ xs.length * es := Nat.mul_le_mul_left _ hes
        simp only [maxLen]; omega) (heap_alloc_new w _) (by simp [hrs, cells0])
      simpa using this

/-- The row of zeros that 'make' lays. -/
theorem core_makeSliceC {t e es : Nat} [hs : Slc P t e es] {z : List Value} [hz : ZeroV P e z] {x y : Operand} {kx ky : IntKind} {n c : Nat} (id : Nat) (ho : o.op = .makeSlice t x y)
    (hx : evx s x = some (.v (.int kx (n : Int)))) (hy : evx s y = some (.v (.int ky (c : Int)))) (hnc : n ≤ c) (hzl : z.length = es) (hes : 0 < es) {bytes : Nat} (hby : (P.info? e).map (·.bytes) = some bytes) (hb : bytes * c ≤ 281474976710656) (hn : c ≤ 9223372036854775807) :
    Core P o s [] ⟨.vw id es 0 n, [(id, some ⟨e, es, List.replicate n (z.map zD)⟩)], [id]⟩ :=
  Core.lays fun s2 h1 _ M0 A β w a hid hI => by
    have e1 := (evx_rep hI ((h1 x (by simp [ho, Op.operands])).trans hx)).1.one
    have e2 := (evx_rep hI ((h1 y (by simp [ho, Op.operands])).trans hy)).1.one
    obtain ⟨v0, hv0, hvz⟩ := Option.map_eq_some_iff.1 hz.zero
    obtain ⟨i0, hi0, hiz⟩ := Option.bind_eq_some_iff.1 hv0
    have hzs : v0.cells.size = es := by rw [← hzl, ← hvz]; simp
    have hsz : i0.size = es := by have := hs.size; simp [hi0] at this; exact this
    have hbb : i0.bytes = bytes := by simp [hi0] at hby; exact hby
    have hrun := run_make (P := P) w t e i0 v0 hs.slc hi0 hiz kx ky n c (by omega) (by omega) (by
      have h48 : ((bytes * c : Nat) : Int) ≤ 281474976710656 := by omega
      rw [hbb]
      rwa [Int.natCast_mul] at h48) (by omega)
    simp only [Int.toNat_natCast, hsz] at hrun
    have hcell : ∀ i j, i < n → j < es → (madeCells v0.cells (c * es))[i * es + j]? = some (z.getD j undef) := by
      intro i j hi hj
      have hi : i < c := by omega
      have q3 : i * es + j < c * es := by
        have : (i + 1) * es ≤ c * es := Nat.mul_le_mul_right _ hi
        rw [Nat.add_mul] at this
        omega
      have q2 : (i * es + j) % es = j := by rw [Nat.mul_comm, Nat.mul_add_mod]; exact Nat.mod_eq_of_lt hj
      have hzj : z[j]? = some z[j] := List.getElem?_eq_getElem (by omega)
      rw [getD_of hzj]
      simp only [madeCells, Array.getElem?_map, Array.getElem?_range, q3, if_true, Option.map_some, Option.some.injEq]
      rw [hzs, q2, getElem!_pos v0.cells j (by omega)]
      simp [← hvz]
    refine ⟨.slice (some ⟨w.heap.size, 0, none⟩) n c, w.alloc (.cells (madeCells v0.cells (c * es)) e), w.heap.size, madeCells v0.cells (c * es), fun _ j => z.getD j undef, by simp [execOp, ho, e1, e2, hrun], Nat.le_refl _, fun k hk => heap_alloc_old w _ k hk, by simp, rfl, rfl, rfl, heap_alloc_new w _,
      fun i row hi => ?_, by simp [size_madeCells]; exact Nat.mul_le_mul_right _ hnc, fun i row j d hi hj => ?_, fun i row j d hi hj => ?_, fun M β' hb => ?_, .vw _ _ _ _ rfl⟩
    · rw [List.getElem?_replicate] at hi
      split at hi
      · simp at hi; subst hi; simpa using hzl
      · cases hi
    · rw [List.getElem?_replicate] at hi
      split at hi
      · rename_i hin
        simp at hi; subst hi
        simp only [List.getElem?_map, Option.map_eq_some_iff] at hj
        obtain ⟨u, hu, rfl⟩ := hj
        refine ⟨hcell i j hin (by rw [← hzl]; exact (List.getElem?_eq_some_iff.1 hu).1), ?_⟩
        simp only [getD_of hu]
        exact List.all_eq_true.1 hz.one u (List.mem_of_getElem? hu)
      · cases hi
    · rw [List.getElem?_replicate] at hi
      split at hi
      · simp at hi; subst hi
        simp only [List.getElem?_map, Option.map_eq_some_iff] at hj
        obtain ⟨u, hu, rfl⟩ := hj
        simp only [getD_of hu]
        exact ⟨.base (zD_rep u), zD_refs u⟩
      · cases hi
    · have := Rep.vw (M := M) (β := β') (w := w.alloc (.cells (madeCells v0.cells (c * es)) e)) id es 0 n w.heap.size c (madeCells v0.cells (c * es)) e hb hnc (by simp only [maxLen]; omega) (heap_alloc_new w _) (by simp [size_madeCells])
      simpa using this

theorem core_makeSlice {t e es : Nat} [hs : Slc P t e es] {z : List Value} [hz : ZeroV P e z] {x y : Operand} {kx ky : IntKind} {n : Nat} (id : Nat) (ho : o.op = .makeSlice t x y)
    (hx : evx s x = some (.v (.int kx (n : Int)))) (hy : evx s y = some (.v (.int ky (n : Int)))) (hzl : z.length = es) (hes : 0 < es) {bytes : Nat} (hby : (P.info? e).map (·.bytes) = some bytes) (hb : bytes * n ≤ 281474976710656) (hn : n ≤ 9223372036854775807) :
    Core P o s [] ⟨.vw id es 0 n, [(id, some ⟨e, es, List.replicate n (z.map zD)⟩)], [id]⟩ :=
  core_makeSliceC id ho hx hy (Nat.le_refl _) hzl hes hby hb hn

/-- Cells laid over a row's. -/
def splice : List D → Nat → List D → List D
  | row, 0, cs => cs ++ row.drop cs.length
  | [], _ + 1, _ => []
  | d :: row, n + 1, cs => d :: splice row n cs

theorem splice_get : ∀ (row : List D) (off : Nat) (cs : List D), off + cs.length ≤ row.length → (splice row off cs).length = row.length ∧
    ∀ (j : Nat), (splice row off cs)[j]? = if off ≤ j ∧ j < off + cs.length then cs[j - off]? else row[j]?
  | row, 0, cs, h => by
    refine ⟨by simp [splice]; omega, fun j => ?_⟩
    simp only [splice, List.getElem?_append]
    by_cases hj : j < cs.length
    · simp [hj]
    · rw [if_neg hj, if_neg (by omega), List.getElem?_drop]
      congr 1
      omega
  | [], n + 1, cs, h => by simp at h
  | d :: row, n + 1, cs, h => by
    obtain ⟨g1, g2⟩ := splice_get row n cs (by simp at h; omega)
    refine ⟨by simp [splice, g1], fun j => ?_⟩
    cases j with
    | zero => simp [splice]
    | succ j =>
      simp only [splice, List.getElem?_cons_succ, g2]
      by_cases hj : n ≤ j ∧ j < n + cs.length
      · rw [if_pos hj, if_pos (by omega)]; congr 1; omega
      · rw [if_neg hj, if_neg (by omega)]

class Sz (P : Program) (t : TypeId) (n : outParam Nat) : Prop where
  size : (P.info? t).map (·.size) = some n

theorem pos_in {i i' es j off n : Nat} (hj : j < es) (hn : off + n ≤ es) : (i * es + off ≤ i' * es + j ∧ i' * es + j < i * es + off + n) ↔ (i' = i ∧ off ≤ j ∧ j < off + n) := by
  constructor
  · rintro ⟨h1, h2⟩
    rcases Nat.lt_trichotomy i' i with h | h | h
    · have : (i' + 1) * es ≤ i * es := Nat.mul_le_mul_right _ h
      rw [Nat.add_mul] at this
      omega
    · subst h; omega
    · have : (i + 1) * es ≤ i' * es := Nat.mul_le_mul_right _ h
      rw [Nat.add_mul] at this
      omega
  · rintro ⟨rfl, h1, h2⟩
    omega

theorem core_store {t n : Nat} [ht : Sz P t n] {x y : Operand} {r es i off : Nat} {o1 : Obj} {row : List D} {d : D} (ho : o.op = .store t x y) (hx : evx s x = some (.ptr r es i off)) (hy : evx s y = some d)
    (hr : s.obj r = some o1) (hes : o1.es = es) (hrow : o1.rows[i]? = some row) (hd : Solid d) (hn : (dcells d).length = n) (hfit : off + n ≤ row.length) :
    Core P o s [r] ⟨.un, [(r, some ⟨o1.elem, es, o1.rows.set i (splice row off (dcells d))⟩)], []⟩ :=
  Core.gen fun s2 h1 h2 M0 A β w a _ hI => by
    subst hes
    have e1 := evx_rep hI ((h1 x (by simp [ho, Op.operands])).trans hx)
    have e2 := evx_rep hI ((h1 y (by simp [ho, Op.operands])).trans hy)
    have hr2 : s2.obj r = some o1 := (h2 r (by simp)).trans hr
    obtain ⟨b, hb, hxv⟩ := e1.1.ptr_inv
    obtain ⟨c1, c2, c3⟩ := rep_cells' e2.1 e2.2 hd
    obtain ⟨hlt, cs, val, hh, hsz, hv, hrep⟩ := hI.toIvS.block hr2 hb
    have hrl := (hI.objs r o1 hr2).1
    have hrowl : row.length = o1.es := hrl i row hrow
    have hil : i < o1.rows.length := (List.getElem?_eq_some_iff.1 hrow).1
    have hfit' : i * o1.es + off + n ≤ cs.size := by
      have : (i + 1) * o1.es ≤ o1.rows.length * o1.es := Nat.mul_le_mul_right _ hil
      rw [Nat.add_mul] at this
      omega
    have hcn : (a.eval y).cells.toList.length = n := by simp; omega
    have hst := run_storeCells_at P b (i * o1.es + off) o1.elem (a.eval y).cells.toList 0 cs w hh (by rw [hcn]; omega) (fun v hv => by
      obtain ⟨k, hk, rfl⟩ := List.mem_iff_getElem.1 hv
      exact c2 k _ (by simp at hk ⊢))
    simp only [Nat.add_zero] at hst
    let cs' : Array Value := (cs.toList.take (i * o1.es + off) ++ (a.eval y).cells.toList ++ cs.toList.drop (i * o1.es + off + (a.eval y).cells.toList.length)).toArray
    have hcs' : cs'.size = cs.size := by simp [cs']; simp at hcn; omega
    have hget : ∀ k, cs'[k]? = if i * o1.es + off ≤ k ∧ k < i * o1.es + off + n then (a.eval y).cells[k - (i * o1.es + off)]? else cs[k]? := by
      intro k
      simp only [cs', List.getElem?_toArray, List.append_assoc, List.getElem?_append, List.length_take, Array.length_toList]
      simp only [Array.length_toList] at hcn
      have hm : min (i * o1.es + off) cs.size = i * o1.es + off := by omega
      rw [hm]
      by_cases hk1 : k < i * o1.es + off
      · rw [if_pos hk1, if_neg (by omega), List.getElem?_take, if_pos hk1]; simp
      · rw [if_neg hk1]
        by_cases hk2 : k < i * o1.es + off + n
        · rw [if_pos (by omega), if_pos (by omega)]; simp
        · rw [if_neg (by omega), if_neg (by omega), List.getElem?_drop]
          simp only [Array.getElem?_toList]
          congr 1
          omega
    obtain ⟨sp1, sp2⟩ := splice_get row off (dcells d) (by omega)
    have hob : ∀ k, (find k ([(r, some (⟨o1.elem, o1.es, o1.rows.set i (splice row off (dcells d))⟩ : Obj))] ++ s2.st)).join = if r = k then some (⟨o1.elem, o1.es, o1.rows.set i (splice row off (dcells d))⟩ : Obj) else s2.obj k := by
      intro k
      simp only [List.cons_append, List.nil_append, find_cons]
      split <;> rfl
    have hset : ∀ (i' : Nat) (row' : List D), (o1.rows.set i (splice row off (dcells d)))[i']? = some row' → (i' = i ∧ row' = splice row off (dcells d)) ∨ (i' ≠ i ∧ o1.rows[i']? = some row') := by
      intro i' row' hi'
      rw [List.getElem?_set] at hi'
      by_cases e : i = i'
      · subst e
        rw [if_pos rfl, if_pos hil] at hi'
        exact .inl ⟨rfl, (Option.some.inj hi').symm⟩
      · rw [if_neg e] at hi'
        exact .inr ⟨Ne.symm e, hi'⟩
    obtain ⟨g1, g2⟩ := hI.toIvS.set (o' := ⟨o1.elem, o1.es, o1.rows.set i (splice row off (dcells d))⟩) hr2 hb hh hcs' rfl hob (fun i' row' hi' => by
        rcases hset i' row' hi' with ⟨_, rfl⟩ | ⟨_, h⟩
        · rw [sp1]; exact hrowl
        · exact hrl i' row' h) (by simpa using hsz)
      (val := fun i' j => if i' = i ∧ off ≤ j ∧ j < off + n then (a.eval y).cells.getD (j - off) undef else val i' j)
      (fun i' row' j d' hi' hj => by
        have hjes : j < o1.es := by
          have hjl := (List.getElem?_eq_some_iff.1 hj).1
          rcases hset i' row' hi' with ⟨_, rfl⟩ | ⟨_, h⟩
          · omega
          · have := hrl i' row' h
            omega
        simp only [hget, pos_in hjes (show off + n ≤ o1.es by omega)]
        rcases hset i' row' hi' with ⟨rfl, rfl⟩ | ⟨hne, h⟩
        · by_cases hin : off ≤ j ∧ j < off + n
          · simp only [true_and, hin, and_self, if_true]
            have hjl : j - off < (a.eval y).cells.size := by omega
            have ek : i' * o1.es + j - (i' * o1.es + off) = j - off := by omega
            have hcj : (a.eval y).cells[j - off]? = some (a.eval y).cells[j - off] := by simp [hjl]
            have hgj : (a.eval y).cells.getD (j - off) undef = (a.eval y).cells[j - off] := by simp [hjl]
            rw [ek, hcj, hgj]
            exact ⟨rfl, c2 _ _ hcj⟩
          · simp only [true_and, hin, if_false]
            rw [sp2, if_neg (by omega)] at hj
            exact hv _ row j d' hrow hj
        · simp only [hne, false_and, if_false]
          exact hv i' row' j d' h hj)
      (fun i' row' j d' hi' hj => by
        rcases hset i' row' hi' with ⟨rfl, rfl⟩ | ⟨hne, h⟩
        · by_cases hin : off ≤ j ∧ j < off + n
          · simp only [true_and, hin, and_self, if_true]
            rw [sp2, if_pos (by omega)] at hj
            have hjl : j - off < (a.eval y).cells.size := by omega
            have hcj : (a.eval y).cells[j - off]? = some (a.eval y).cells[j - off] := by simp [hjl]
            have hgj : (a.eval y).cells.getD (j - off) undef = (a.eval y).cells[j - off] := by simp [hjl]
            rw [hgj]
            exact c3 _ d' _ hj hcj
          · simp only [true_and, hin, if_false]
            rw [sp2, if_neg (by omega)] at hj
            exact ⟨hrep _ row j d' hrow hj, hI.orefs r o1 row d' hr2 (List.mem_of_getElem? hrow) (List.mem_of_getElem? hj)⟩
        · simp only [hne, false_and, if_false]
          exact ⟨hrep i' row' j d' h hj, hI.orefs r o1 row' d' hr2 (List.mem_of_getElem? h) (List.mem_of_getElem? hj)⟩)
    have hob' : (fun k => (find k ([(r, some (⟨o1.elem, o1.es, o1.rows.set i (splice row off (dcells d))⟩ : Obj))] ++ s2.st)).join) = fun k => if r = k then some (⟨o1.elem, o1.es, o1.rows.set i (splice row off (dcells d))⟩ : Obj) else s2.obj k := funext hob
    refine ⟨undef, w.setRow b cs', β, .inr ⟨?_, rfl⟩, rfl, rfl, rfl, g1.names_mono (fun r hr => Or.inl hr), g2, .base (.un _), .un⟩
    have hsv : (storeVar t ⟨b, i * o1.es + off, none⟩ (a.eval y)).run P w = .ok () (w.setRow b cs') := by
      have hc : (a.eval y).cells.size = n := by simpa using hcn
      simp only [storeVar, Sem.run_bind, run_sizeOf' w ht.size, Result.andThen_ok, hc]
      have hst' : (storeCells ⟨b, i * o1.es + off, none⟩ (a.eval y).cells.toList 0).run P w = .ok () (w.setRow b cs') := hst
      simp [hst']
    simp [execOp, ho, hxv, Instr.storeAt, Instr.sureAddr, hsv]
end
end Go.Abs
