/- Running code over abstract data, part 6: cells by their number in the block; copy, clear. -/
import Derived.Test.YtmmfmiamkgmikaaGreatE5
import Derived.Laws.IdiomCopy
set_option linter.unusedVariables false
set_option linter.unusedSimpArgs false
namespace Go.Abs

def ShapeOk (o : Obj) : Prop := ∀ (i : Nat) (row : List D), o.rows[i]? = some row → row.length = o.es
/-- One cell is put. -/
def put1 (o : Obj) (k : Nat) (d : D) : Obj := ⟨o.elem, o.es, o.rows.set (k / o.es) ((o.rows.getD (k / o.es) []).set (k % o.es) d)⟩
def putF (o : Obj) : Nat → List D → Obj
  | _, [] => o
  | k, d :: ds => putF (put1 o k d) (k + 1) ds

theorem flat_at {o : Obj} (hs : ShapeOk o) {i j : Nat} {row : List D} {d : D} (hi : o.rows[i]? = some row) (hj : row[j]? = some d) : flat o (i * o.es + j) = some d := by
  have hjl : j < o.es := by
    have := (List.getElem?_eq_some_iff.1 hj).1
    rw [hs i row hi] at this
    exact this
  have q1 : (i * o.es + j) / o.es = i := by rw [Nat.mul_comm, Nat.mul_add_div (by omega)]; simp [Nat.div_eq_of_lt hjl]
  have q2 : (i * o.es + j) % o.es = j := by rw [Nat.mul_comm, Nat.mul_add_mod]; exact Nat.mod_eq_of_lt hjl
  simp [flat, q1, q2, hi, hj]
theorem flat_rows {o : Obj} {k : Nat} {d : D} (h : flat o k = some d) : ∃ row, o.rows[k / o.es]? = some row ∧ row[k % o.es]? = some d := by
  obtain ⟨row, h1, h2⟩ := Option.bind_eq_some_iff.1 h
  exact ⟨row, h1, h2⟩

theorem put1_shape {o : Obj} (hs : ShapeOk o) {k : Nat} {d e : D} (hk : flat o k = some e) : ShapeOk (put1 o k d) := by
  obtain ⟨row, h1, h2⟩ := flat_rows hk
  intro i r hi
  simp only [put1, List.getElem?_set] at hi
  split at hi
  · split at hi
    · simp only [Option.some.injEq] at hi
      subst hi
      rw [List.length_set, List.getD_eq_getElem?_getD, h1]
      exact hs _ _ h1
    · cases hi
  · exact hs i r hi
theorem put1_flat {o : Obj} (hs : ShapeOk o) {k : Nat} {d e : D} (hk : flat o k = some e) (k' : Nat) : flat (put1 o k d) k' = if k' = k then some d else flat o k' := by
  obtain ⟨row, h1, h2⟩ := flat_rows hk
  have hlt := (List.getElem?_eq_some_iff.1 h1).1
  have hjl := (List.getElem?_eq_some_iff.1 h2).1
  have hes : 0 < o.es := by rw [← hs _ _ h1]; omega
  show ((o.rows.set (k / o.es) ((o.rows.getD (k / o.es) []).set (k % o.es) d))[k' / o.es]?).bind (·[k' % o.es]?) = _
  rw [List.getD_eq_getElem?_getD, h1]
  simp only [Option.getD_some, List.getElem?_set]
  by_cases hq : k / o.es = k' / o.es
  · rw [if_pos hq, if_pos hlt]
    simp only [Option.bind_some, List.getElem?_set]
    by_cases hm : k % o.es = k' % o.es
    · have : k' = k := by rw [← Nat.div_add_mod k o.es, ← Nat.div_add_mod k' o.es, hq, hm]
      rw [if_pos hm, if_pos hjl, if_pos this]
    · have : k' ≠ k := fun h => hm (by rw [h])
      rw [if_neg hm, if_neg this]
      simp [flat, ← hq, h1]
  · have : k' ≠ k := fun h => hq (by rw [h])
    rw [if_neg hq, if_neg this]
    rfl
theorem putF_es (o : Obj) : ∀ (ds : List D) (k : Nat), (putF o k ds).es = o.es ∧ (putF o k ds).elem = o.elem ∧ (putF o k ds).rows.length = o.rows.length
  | [], k => ⟨rfl, rfl, rfl⟩
  | d :: ds, k => by
    obtain ⟨h1, h2, h3⟩ := putF_es (put1 o k d) ds (k + 1)
    exact ⟨h1, h2, by rw [putF, h3]; simp [put1]⟩
theorem putF_ok : ∀ (ds : List D) {o : Obj} {k : Nat}, ShapeOk o → (∀ i, i < ds.length → (flat o (k + i)).isSome = true) →
    ShapeOk (putF o k ds) ∧ ∀ k', flat (putF o k ds) k' = if k ≤ k' ∧ k' < k + ds.length then ds[k' - k]? else flat o k'
  | [], o, k, hs, _ => ⟨hs, fun k' => by
    have : ¬ (k ≤ k' ∧ k' < k + ([] : List D).length) := fun h => by have : ([] : List D).length = 0 := rfl; omega
    rw [if_neg this]
    rfl⟩
  | d :: ds, o, k, hs, h => by
    have h0 := h 0 (by simp)
    rw [Nat.add_zero] at h0
    obtain ⟨e, he⟩ := Option.isSome_iff_exists.1 h0
    have hs1 := put1_shape (d := d) hs he
    have hf1 := put1_flat (d := d) hs he
    obtain ⟨g1, g2⟩ := putF_ok ds (o := put1 o k d) (k := k + 1) hs1 fun i hi => by
      rw [hf1]
      split
      · rfl
      · have := h (i + 1) (by simp; omega)
        rwa [show k + (i + 1) = k + 1 + i by omega] at this
    refine ⟨g1, fun k' => ?_⟩
    rw [putF, g2, hf1]
    simp only [List.length_cons]
    by_cases h1 : k' = k
    · subst h1
      rw [if_neg (by omega), if_pos rfl, if_pos (by omega)]
      simp
    · by_cases h2 : k + 1 ≤ k' ∧ k' < k + 1 + ds.length
      · rw [if_pos h2, if_pos (by omega)]
        have : k' - k = (k' - (k + 1)) + 1 := by omega
        rw [this, List.getElem?_cons_succ]
      · rw [if_neg h2, if_neg h1, if_neg (by omega)]

section
variable {P : Program} {o : Oper} {s : AS}
/-- Cells of one block are written, by their number. -/
theorem IvS.setFlat {M0 A : Nat → Prop} {β : Nat → Option Nat} {ob ob' : Nat → Option Obj} {w : World} (h : IvS M0 A β ob w) {r b : Nat} {o1 : Obj} (hr : ob r = some o1) (hb : β r = some b) {cs : Array Value} (hh : w.heap[b]? = some (.cells cs o1.elem (0, 0)))
    {val : Nat → Nat → Value} (hsz : o1.rows.length * o1.es ≤ cs.size)
    (hv : ∀ (i : Nat) (row : List D) (j : Nat) (d : D), o1.rows[i]? = some row → row[j]? = some d → cs[i * o1.es + j]? = some (val i j) ∧ (val i j : Value).oneCell' = true ∧ Rep (Mut M0 β ob) β w d (val i j) ∧ Refs A d)
    {lo : Nat} {ds : List D} {vs : List Value} (hl : vs.length = ds.length) (hin : ∀ i, i < ds.length → (flat o1 (lo + i)).isSome = true)
    (h1 : ∀ (i : Nat) (d : D) (v : Value), ds[i]? = some d → vs[i]? = some v → v.oneCell' = true ∧ Rep (Mut M0 β ob) β w d v ∧ Refs A d) (hob : ∀ k, ob' k = if r = k then some (putF o1 lo ds) else ob k) (hfit : lo + vs.length ≤ cs.size) :
    IvS M0 A β ob' (w.setRow b (cs.toList.take lo ++ vs ++ cs.toList.drop (lo + vs.length)).toArray) ∧ KeepB A (Own β ob) (Own β ob') β β w (w.setRow b (cs.toList.take lo ++ vs ++ cs.toList.drop (lo + vs.length)).toArray) := by
  have hshape : ShapeOk o1 := (h.objs r o1 hr).1
  obtain ⟨e1, e2, e3⟩ := putF_es o1 ds lo
  obtain ⟨g1, g2⟩ := putF_ok ds hshape hin
  let cs' : Array Value := (cs.toList.take lo ++ vs ++ cs.toList.drop (lo + vs.length)).toArray
  have hget : ∀ k, cs'[k]? = if lo ≤ k ∧ k < lo + vs.length then vs[k - lo]? else cs[k]? := by
    intro k
    simp only [cs', List.getElem?_toArray, List.append_assoc, List.getElem?_append, List.length_take, Array.length_toList]
    have hm : min lo cs.size = lo := by omega
    rw [hm]
    by_cases hk1 : k < lo
    · rw [if_pos hk1, if_neg (by omega), List.getElem?_take, if_pos hk1]; simp
    · rw [if_neg hk1]
      by_cases hk2 : k < lo + vs.length
      · rw [if_pos (by omega), if_pos (by omega)]
      · rw [if_neg (by omega), if_neg (by omega), List.getElem?_drop]
        simp only [Array.getElem?_toList]
        congr 1
        omega
  have hcs' : cs'.size = cs.size := by simp [cs']; omega
  have key : ∀ (i : Nat) (row : List D) (j : Nat) (d : D), (putF o1 lo ds).rows[i]? = some row → row[j]? = some d →
      ∃ v, cs'[i * o1.es + j]? = some v ∧ v.oneCell' = true ∧ Rep (Mut M0 β ob) β w d v ∧ Refs A d := by
    intro i row j d hi hj
    have hfl := flat_at g1 hi hj
    rw [e1] at hfl
    rw [g2] at hfl
    rw [hget]
    by_cases hk : lo ≤ i * o1.es + j ∧ i * o1.es + j < lo + ds.length
    · rw [if_pos hk] at hfl
      rw [if_pos (by omega)]
      have hlt : i * o1.es + j - lo < vs.length := by omega
      obtain ⟨q1, q2, q3⟩ := h1 _ d _ hfl (List.getElem?_eq_getElem hlt)
      exact ⟨_, List.getElem?_eq_getElem hlt, q1, q2, q3⟩
    · rw [if_neg hk] at hfl
      rw [if_neg (by omega)]
      obtain ⟨row', p1, p2⟩ := flat_rows hfl
      obtain ⟨v1, v2, v3, v4⟩ := hv _ row' _ d p1 p2
      have hk2 : (i * o1.es + j) / o1.es * o1.es + (i * o1.es + j) % o1.es = i * o1.es + j := by rw [Nat.mul_comm]; exact Nat.div_add_mod _ _
      rw [hk2] at v1
      exact ⟨_, v1, v2, v3, v4⟩
  refine h.set (o' := putF o1 lo ds) hr hb hh hcs' e2 hob (fun i row hi => by rw [g1 i row hi]) (by rw [e1, e3]; exact hsz) (val := fun i j => cs'.getD (i * o1.es + j) undef) (fun i row j d hi hj => ?_) (fun i row j d hi hj => ?_)
  · obtain ⟨v, p1, p2, _⟩ := key i row j d hi hj
    rw [e1]
    have : cs'.getD (i * o1.es + j) undef = v := by rw [Array.getD_eq_getD_getElem?, p1]; rfl
    rw [this]
    exact ⟨p1, p2⟩
  · obtain ⟨v, p1, p2, p3, p4⟩ := key i row j d hi hj
    have : cs'.getD (i * o1.es + j) undef = v := by rw [Array.getD_eq_getD_getElem?, p1]; rfl
    rw [this]
    exact ⟨p3, p4⟩

theorem core_copy {t t' e : TypeId} [hs : Slc P t e 1] {x y : Operand} {r lo n : Nat} {dy : D} {o1 : Obj} {rows : List (List D)} {ds : List D} (ho : o.op = .call { callee := .builtin .copy, args := #[x, y], argTypes := #[t, t'] }) (hx : evx s x = some (.vw r 1 lo n)) (hy : evx s y = some dy)
    (hr : s.obj r = some o1) (hsrc : ∀ s2 : AS, (∀ q ∈ names dy, s2.obj q = s.obj q) → SrcOk s2 1 dy rows) (hds : rows.take n = ds.map fun d => [d]) (hin : ShapeOk o1 → ∀ i, i < ds.length → (flat o1 (lo + i)).isSome = true) :
    Core P o s (r :: names dy) ⟨.i ds.length, [(r, some (putF o1 lo ds))], []⟩ :=
  Core.gen fun s2 h1 h2 M0 A β w a _ hI => by
    have e1 := evx_rep hI ((h1 x (by simp [ho, Op.operands, Call.operands])).trans hx)
    have e2 := evx_rep hI ((h1 y (by simp [ho, Op.operands, Call.operands])).trans hy)
    have hr2 : s2.obj r = some o1 := (h2 r (by simp)).trans hr
    have hin := hin (hI.objs r o1 hr2).1
    obtain ⟨ay, cy, ady, valy, hyv, hya, hyl, hyc⟩ := hsrc s2 (fun q hq => h2 q (by simp [hq])) M0 A β w a hI _ e2.1
    have hdl : ds.length = Nat.min rows.length n := by
      have := congrArg List.length hds
      rw [List.length_take, List.length_map] at this
      show ds.length = min rows.length n
      omega
    have hrunE : (execOp a.eval o).run P w = ((Builtin.copy_ #[t, t'] o.type #[a.eval x, a.eval y]).run P w).andThen fun v w => .ok (.value v) w := by
      simp [execOp, ho, resolve, invoke, builtin]
    have hgo : (goInt ds.length : Value) = .int .i64 ds.length := rfl
    have hobf : ∀ ds', (fun k => (find k ([(r, some (putF o1 lo ds'))] ++ s2.st)).join) = fun k => if r = k then some (putF o1 lo ds') else s2.obj k := by
      intro ds'
      funext k
      simp only [List.cons_append, List.nil_append, find_cons]
      split <;> rfl
    rcases Nat.eq_zero_or_pos ds.length with hz | hp
    · have hd0 : ds = [] := List.eq_nil_of_length_eq_zero hz
      obtain ⟨dp, dc, hxv⟩ : ∃ dp dc, a.eval x = .slice dp n dc := by
        rcases e1.1.vw_inv with ⟨b, c, cs, e', hb, hy, hn, hm, hh', hc⟩ | ⟨_, rfl, rfl, hy⟩
        · exact ⟨_, _, hy⟩
        · exact ⟨_, _, hy⟩
      have hrun := run_copy_none (P := P) w t t' o.type e dp ay n dc rows.length cy hs.slc hs.size (by omega)
      subst hd0
      refine ⟨.int .i64 0, w, β, .inl (by rw [hrunE, hxv, hyv, hrun]; rfl), rfl, rfl, rfl, ?_, ?_, .base (.v _), .v _⟩
      · show IvS _ _ _ (fun k => (find k ([(r, some (putF o1 lo []))] ++ s2.st)).join) _
        rw [hobf]
        have : (fun k => if r = k then some (putF o1 lo []) else s2.obj k) = s2.obj := by
          funext k; split
          · rename_i h; subst h; exact hr2.symm
          · rfl
        rw [this]
        exact hI.toIvS.names_mono fun r hr => Or.inl hr
      · show KeepB _ _ (Own β fun k => (find k ([(r, some (putF o1 lo []))] ++ s2.st)).join) _ _ _ _
        rw [hobf]
        have : (fun k => if r = k then some (putF o1 lo []) else s2.obj k) = s2.obj := by
          funext k; split
          · rename_i h; subst h; exact hr2.symm
          · rfl
        rw [this]
        exact ⟨Keep.refl _ _, fun _ _ => rfl, fun b cs e h => ⟨cs, h, rfl⟩⟩
    · have hnp : 0 < n ∧ 0 < rows.length := by
        have : ds.length = min rows.length n := hdl
        omega
      rcases e1.1.vw_inv with ⟨b, c, cs0, e', hb, hxv, hnc, hm, hh0, hc⟩ | ⟨_, _, h0, _⟩
      · obtain ⟨cs, val, hh, hsz, hv⟩ := hI.block1 hr2 hb
        obtain rfl := hya hnp.2
        let vs : List Value := (List.range ds.length).map fun k => valy k 0
        have hvl : vs.length = ds.length := by simp [vs]
        have hrowk : ∀ k, k < ds.length → ∃ d, ds[k]? = some d ∧ rows[k]? = some [d] := by
          intro k hk
          refine ⟨ds[k], List.getElem?_eq_getElem hk, ?_⟩
          have := congrArg (fun l => l[k]?) hds
          simp only [List.getElem?_take, List.getElem?_map, List.getElem?_eq_getElem hk, Option.map_some] at this
          split at this
          · exact this
          · cases this
        have hvk : ∀ (k : Nat) (v : Value), vs[k]? = some v → k < ds.length ∧ v = valy k 0 := by
          intro k v hk
          simp only [vs, List.getElem?_map, Option.map_eq_some_iff] at hk
          obtain ⟨q, hq, rfl⟩ := hk
          obtain ⟨q1, q2⟩ := List.getElem?_eq_some_iff.1 hq
          simp at q1 q2
          subst q2
          exact ⟨q1, rfl⟩
        have hcell : ∀ (k : Nat) (v : Value), vs[k]? = some v → w.cell? (ady.add k) = some v ∧ v.oneCell' = true ∧ ∃ d, ds[k]? = some d ∧ Rep (Mut M0 β s2.obj) β w d v ∧ Refs A d := by
          intro k v hk
          obtain ⟨hkl, rfl⟩ := hvk k v hk
          obtain ⟨d, hd, hrow⟩ := hrowk k hkl
          obtain ⟨c1, c2, c3, c4⟩ := hyc k [d] 0 d hrow rfl
          rw [Nat.mul_one, Nat.add_zero] at c1
          exact ⟨c1, c2, d, hd, c3, c4⟩
        have hlast : lo + ds.length ≤ cs.size := by
          have hsome := hin (ds.length - 1) (by omega)
          obtain ⟨d, hd⟩ := Option.isSome_iff_exists.1 hsome
          obtain ⟨row', p1, p2⟩ := flat_rows hd
          obtain ⟨v1, _⟩ := hv _ row' _ d p1 p2
          have hk2 : (lo + (ds.length - 1)) / o1.es * o1.es + (lo + (ds.length - 1)) % o1.es = lo + (ds.length - 1) := by rw [Nat.mul_comm]; exact Nat.div_add_mod _ _
          rw [hk2] at v1
          have := (Array.getElem?_eq_some_iff.1 v1).1
          omega
        have hrun := run_copy_row (P := P) w t t' o.type e b (lo * 1) n c ady rows.length cy cs o1.elem vs hs.slc hs.size hh (by rw [hvl, hdl]) (fun j v hj => (hcell j v hj).1) (by rw [hvl, Nat.mul_one]; exact hlast) (fun v hv' => by
          obtain ⟨k, hk, rfl⟩ := List.mem_iff_getElem.1 hv'
          exact (hcell k _ (List.getElem?_eq_getElem hk)).2.1)
        rw [Nat.mul_one] at hrun hxv
        obtain ⟨g1, g2⟩ := hI.toIvS.setFlat (ob' := fun k => if r = k then some (putF o1 lo ds) else s2.obj k) hr2 hb hh hsz hv hvl hin (fun i d v hd hv' => by
          obtain ⟨_, c2, d', hd', c3, c4⟩ := hcell i v hv'
          rw [hd] at hd'
          cases hd'
          exact ⟨c2, c3, c4⟩) (fun k => rfl) (by rw [hvl]; exact hlast)
        refine ⟨goInt vs.length, w.setRow b (cs.toList.take lo ++ vs ++ cs.toList.drop (lo + vs.length)).toArray, β, .inl (by rw [hrunE, hxv, hyv, hrun]; rfl), rfl, rfl, rfl, ?_, ?_, ?_, .v _⟩
        · show IvS _ _ _ (fun k => (find k ([(r, some (putF o1 lo ds))] ++ s2.st)).join) _
          rw [hobf]
          exact g1.names_mono fun r hr => Or.inl hr
        · show KeepB _ _ (Own β fun k => (find k ([(r, some (putF o1 lo ds))] ++ s2.st)).join) _ _ _ _
          rw [hobf]
          exact g2
        · rw [hvl]
          exact .base (.v _)
      · omega
end

/-- Some cells are put, one behind the other. -/
noncomputable def putX (x : XO) (ds : List D) : Nat → Option XO :=
  List.rec (motive := fun _ => XO → Nat → Option XO) (fun x _ => some x) (fun d _ ih x k => bnd (x.t.get (Nat.div k x.es)) fun row => bnd (nthD row (Nat.mod k x.es)) fun _ => ih ⟨x.elem, x.es, x.n, x.t.set (row.set (Nat.mod k x.es) d) (Nat.div k x.es)⟩ (Nat.succ k)) ds x
theorem putX_ok : ∀ (ds : List D) {x x' : XO} {o : Obj} {k : Nat}, XoIs x o → putX x ds k = some x' → XoIs x' (putF o k ds) ∧ (ShapeOk o → ∀ i, i < ds.length → (flat o (k + i)).isSome = true)
  | [], x, x', o, k, hx, h => by
    cases h
    exact ⟨hx, fun _ i hi => by simp at hi⟩
  | d :: ds, x, x', o, k, hx, h => by
    obtain ⟨row, h1, h⟩ := bnd_inv h
    obtain ⟨e, h2, h⟩ := bnd_inv h
    obtain ⟨q1, q2, q3, q4⟩ := hx
    rw [q4] at h1
    have h1 : o.rows[k / o.es]? = some row := by rw [q2]; exact h1
    rw [nthD_eq] at h2
    have h2 : row[k % o.es]? = some e := by rw [q2]; exact h2
    have hfl : flat o k = some e := by simp [flat, h1, h2]
    have hlt := (List.getElem?_eq_some_iff.1 h1).1
    have hx1 : XoIs ⟨x.elem, x.es, x.n, x.t.set (row.set (Nat.mod k x.es) d) (Nat.div k x.es)⟩ (put1 o k d) := by
      refine ⟨q1, q2, by simpa [put1] using q3, ?_⟩
      have e1 : (put1 o k d).rows = o.rows.set (Nat.div k x.es) (row.set (Nat.mod k x.es) d) := by
        show o.rows.set (k / o.es) ((o.rows.getD (k / o.es) []).set (k % o.es) d) = _
        rw [List.getD_eq_getElem?_getD, h1, q2]
        rfl
      rw [e1]
      exact q4.set (by rw [q2] at hlt; exact hlt) _
    obtain ⟨g1, g2⟩ := putX_ok ds hx1 h
    refine ⟨g1, fun hs i hi => ?_⟩
    cases i with
    | zero => simp [hfl]
    | succ i =>
      have := g2 (put1_shape hs hfl) i (by simp at hi; omega)
      rw [put1_flat hs hfl] at this
      split at this
      · omega
      · rwa [show k + (i + 1) = k + 1 + i by omega]
end Go.Abs
