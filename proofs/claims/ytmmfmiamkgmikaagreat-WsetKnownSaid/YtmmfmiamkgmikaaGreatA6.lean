/- The abstract logic, part 6: append. -/
import Derived.Test.YtmmfmiamkgmikaaGreatA5
set_option linter.unusedVariables false
set_option linter.unusedSimpArgs false
namespace Go.Abs

theorem KeepB.trans {A B M M' M'' : Nat → Prop} {β β' β'' : Nat → Option Nat} {w w' w'' : World} (hAB : ∀ r, A r → B r) (h : KeepB A M M' β β' w w') (k : KeepB B M' M'' β' β'' w' w'') : KeepB A M M'' β β'' w w'' :=
  ⟨h.toKeep.trans k.toKeep, fun r hr => (k.names r (hAB r hr)).trans (h.names r hr), fun b cs e hb => by
      obtain ⟨cs', h1, h2⟩ := h.sizes b cs e hb
      obtain ⟨cs'', h3, h4⟩ := k.sizes b cs' e h1
      exact ⟨cs'', h3, h4.trans h2⟩⟩

/-- The rows of a slice that is only read. -/
def srcRows (s : AS) (es : Nat) : D → Option (List (List D))
  | .sl es' rows => bif es' == es then some rows else none
  | .sln es' rows => bif es' == es then some rows else none
  | .e0 => some []
  | .vw r es' lo n => match s.obj r with
    | some o => bif o.es == es && es' == es && decide (lo + n ≤ o.rows.length) then some ((o.rows.drop lo).take n) else none
    | none => none
  | _ => none
def names : D → List Nat
  | .vw r _ _ _ => [r]
  | .ptr r _ _ _ => [r]
  | _ => []

theorem src_rep {M0 A : Nat → Prop} {β : Nat → Option Nat} {s : AS} {w : World} {a : Act} (hI : Inv M0 A β s w a) {es : Nat} {d : D} {y : Value} {rows : List (List D)}
    (hs : srcRows s es d = some rows) (hr : Rep (Mut M0 β s.obj) β w d y) :
    ∃ (a : Option Addr) (c : Nat) (ad : Addr) (val : Nat → Nat → Value), y = .slice a rows.length c ∧ (0 < rows.length → a = some ad) ∧ (∀ (i : Nat) (row : List D), rows[i]? = some row → row.length = es) ∧
      (∀ (i : Nat) (row : List D) (j : Nat) (d : D), rows[i]? = some row → row[j]? = some d → w.cell? (ad.add (i * es + j)) = some (val i j) ∧ (val i j).oneCell' = true ∧ Rep (Mut M0 β s.obj) β w d (val i j) ∧ Refs A d) := by
  have base : ∀ {rows : List (List D)} {y : Value}, Rep (Mut M0 β s.obj) β w (.sl es rows) y → ∃ (a : Option Addr) (c : Nat) (ad : Addr) (val : Nat → Nat → Value), y = .slice a rows.length c ∧ (0 < rows.length → a = some ad) ∧ (∀ (i : Nat) (row : List D), rows[i]? = some row → row.length = es) ∧
      (∀ (i : Nat) (row : List D) (j : Nat) (d : D), rows[i]? = some row → row[j]? = some d → w.cell? (ad.add (i * es + j)) = some (val i j) ∧ (val i j).oneCell' = true ∧ Rep (Mut M0 β s.obj) β w d (val i j) ∧ Refs A d) := by
    intro rows y hr
    obtain ⟨a', c, ad, val, hy, hc, hm, hrl, ha, hv, h, hz⟩ := hr.sl_inv
    exact ⟨a', c, ad, val, hy, fun hp => (ha hp).1, hrl, fun i row j d h1 h2 => ⟨(hv i row j d h1 h2).1, (hv i row j d h1 h2).2, .base (h i row j d h1 h2), (h i row j d h1 h2).refs A⟩⟩
  cases d with
  | sl es' rows' =>
    simp only [srcRows] at hs
    by_cases he : es' = es
    · subst he
      simp at hs
      subst hs
      exact base hr
    · simp [beq_false_of_ne he] at hs
  | sln es' rows' =>
    simp only [srcRows] at hs
    by_cases he : es' = es
    · subst he
      simp at hs
      subst hs
      cases hr with
      | base hr =>
        cases hr with
        | sln _ _ ad n c h => exact base (.base h)
    · simp [beq_false_of_ne he] at hs
  | e0 =>
    simp only [srcRows, Option.some.injEq] at hs
    subst hs
    cases hr with
    | base hr =>
      cases hr
      exact ⟨none, 0, default, fun _ _ => undef, rfl, fun h => by simp at h, fun i row h => by simp at h, fun i row j d h => by simp at h⟩
  | vw r es' lo n =>
    simp only [srcRows] at hs
    cases ho : s.obj r with
    | none => simp [ho] at hs
    | some o =>
      simp only [ho] at hs
      by_cases hc : (o.es == es && es' == es && decide (lo + n ≤ o.rows.length)) = true
      · simp only [hc, cond_true, Option.some.injEq] at hs
        simp only [Bool.and_eq_true, beq_iff_eq, decide_eq_true_eq] at hc
        obtain ⟨⟨rfl, rfl⟩, hn⟩ := hc
        subst hs
        have hlen : ((o.rows.drop lo).take n).length = n := by simp; omega
        have hrl := (hI.objs r o ho).1
        rcases hr.vw_inv with ⟨b, c, cs, e, hb, hy, hnc, hm, hh, hcs⟩ | ⟨hb, rfl, rfl, hy⟩
        · obtain ⟨_, cs', val, hh', hsz, hv, hrep⟩ := hI.toIvS.block ho hb
          refine ⟨some ⟨b, lo * o.es, none⟩, c, ⟨b, lo * o.es, none⟩, fun i j => val (lo + i) j, by rw [hlen]; exact hy, fun _ => rfl, fun i row hi => ?_, fun i row j d hi hj => ?_⟩
          · rw [List.getElem?_take] at hi
            split at hi
            · rw [List.getElem?_drop] at hi; exact hrl _ row hi
            · cases hi
          · rw [List.getElem?_take] at hi
            split at hi
            · rw [List.getElem?_drop] at hi
              obtain ⟨v1, v2⟩ := hv _ row j d hi hj
              refine ⟨?_, v2, hrep _ row j d hi hj, hI.orefs r o row d ho (List.mem_of_getElem? hi) (List.mem_of_getElem? hj)⟩
              rw [add_mk, cell_of_row w b _ cs' o.elem (0, 0) hh', ← v1]
              congr 1
              rw [Nat.add_mul]
              omega
            · cases hi
        · exact ⟨none, 0, default, fun _ _ => undef, by simpa using hy, fun h => by simp at h, fun i row h => by simp at h, fun i row j d h => by simp at h⟩
      · simp [hc] at hs
  | _ => simp [srcRows] at hs

theorem srcRows_agree {s s2 : AS} {es : Nat} {d : D} (h : ∀ r ∈ names d, s2.obj r = s.obj r) : srcRows s2 es d = srcRows s es d := by
  cases d <;> simp [srcRows, names] at *
  rw [h]

/-- What stands in a slice that is only read. -/
def SrcOk (s : AS) (es : Nat) (d : D) (rows : List (List D)) : Prop :=
  ∀ (M0 A : Nat → Prop) (β : Nat → Option Nat) (w : World) (a : Act), Inv M0 A β s w a → ∀ (y : Value), Rep (Mut M0 β s.obj) β w d y →
    ∃ (a : Option Addr) (c : Nat) (ad : Addr) (val : Nat → Nat → Value), y = .slice a rows.length c ∧ (0 < rows.length → a = some ad) ∧ (∀ (i : Nat) (row : List D), rows[i]? = some row → row.length = es) ∧
      (∀ (i : Nat) (row : List D) (j : Nat) (d : D), rows[i]? = some row → row[j]? = some d → w.cell? (ad.add (i * es + j)) = some (val i j) ∧ (val i j).oneCell' = true ∧ Rep (Mut M0 β s.obj) β w d (val i j) ∧ Refs A d)

/-- The rows of a slice that is appended to. -/
def dstRows (s : AS) (e es : Nat) : D → Option (List (List D))
  | .e0 => some []
  | .vw r es' lo n => match s.obj r with
    | some o => bif o.es == es && o.elem == e && es' == es && lo == 0 && n == o.rows.length then some o.rows else none
    | none => none
  | _ => none
theorem dstRows_agree {s s2 : AS} {e es : Nat} {d : D} (h : ∀ r ∈ names d, s2.obj r = s.obj r) : dstRows s2 e es d = dstRows s e es d := by
  cases d <;> simp [dstRows, names] at *
  rw [h]

theorem dst_rep {M0 A : Nat → Prop} {β : Nat → Option Nat} {s : AS} {w : World} {a : Act} (hI : Inv M0 A β s w a) {e es : Nat} {d : D} {y : Value} {rows : List (List D)}
    (hs : dstRows s e es d = some rows) (hr : Rep (Mut M0 β s.obj) β w d y) (hf : Refs A d) :
    (y = .slice none 0 0 ∧ rows = [] ∧ (d = .e0 ∨ ∃ r o, d = .vw r es 0 0 ∧ s.obj r = some o)) ∨
    ∃ (r b c : Nat) (cs : Array Value) (val : Nat → Nat → Value), d = .vw r es 0 rows.length ∧ s.obj r = some ⟨e, es, rows⟩ ∧ β r = some b ∧ y = .slice (some ⟨b, 0, none⟩) rows.length c ∧ rows.length ≤ c ∧ c ≤ maxLen ∧ w.heap[b]? = some (.cells cs e (0, 0)) ∧ c * es ≤ cs.size ∧
      (∀ (i : Nat) (row : List D), rows[i]? = some row → row.length = es) ∧
      (∀ (i : Nat) (row : List D) (j : Nat) (d : D), rows[i]? = some row → row[j]? = some d → cs[i * es + j]? = some (val i j) ∧ (val i j : Value).oneCell' = true ∧ Rep (Mut M0 β s.obj) β w d (val i j) ∧ Refs A d) := by
  cases d with
  | e0 =>
    simp only [dstRows, Option.some.injEq] at hs
    subst hs
    cases hr with
    | base hr =>
      cases hr
      exact .inl ⟨rfl, rfl, .inl rfl⟩
  | vw r es' lo n =>
    simp only [dstRows] at hs
    cases ho : s.obj r with
    | none => simp [ho] at hs
    | some o =>
      simp only [ho] at hs
      by_cases hc : (o.es == es && o.elem == e && es' == es && lo == 0 && n == o.rows.length) = true
      · simp only [hc, cond_true, Option.some.injEq] at hs
        simp only [Bool.and_eq_true, beq_iff_eq] at hc
        obtain ⟨⟨⟨⟨rfl, rfl⟩, rfl⟩, rfl⟩, rfl⟩ := hc
        subst hs
        rcases hr.vw_inv with ⟨b, c, cs, e, hb, hy, hnc, hm, hh, hcs⟩ | ⟨hb, _, h0, hy⟩
        · obtain ⟨_, cs', val, hh', hsz, hv, hrep⟩ := hI.toIvS.block ho hb
          rw [hh'] at hh
          injection hh with hh
          injection hh with q1 q2 q3
          subst q1
          refine .inr ⟨r, b, c, cs', val, rfl, ho, hb, by simpa using hy, hnc, hm, hh', by simpa using hcs, (hI.objs r o ho).1, fun i row j d h1 h2 => ⟨(hv i row j d h1 h2).1, (hv i row j d h1 h2).2, hrep i row j d h1 h2, hI.orefs r o row d ho (List.mem_of_getElem? h1) (List.mem_of_getElem? h2)⟩⟩
        · have : o.rows = [] := List.eq_nil_of_length_eq_zero h0
          rw [h0]
          exact .inl ⟨hy, this, .inr ⟨r, o, rfl, ho⟩⟩
      · simp [hc] at hs
  | _ => simp [dstRows] at hs

/-- What stands behind an append. -/
theorem app_rows {rows rows' : List (List D)} {i : Nat} {row : List D} (h : (rows ++ rows')[i]? = some row) : (i < rows.length ∧ rows[i]? = some row) ∨ (rows.length ≤ i ∧ rows'[i - rows.length]? = some row) := by
  rw [List.getElem?_append] at h
  split at h
  · rename_i hl; exact .inl ⟨hl, h⟩
  · rename_i hl; exact .inr ⟨by omega, h⟩

section
variable {P : Program} {o : Oper} {s : AS}

theorem core_appendX {t e es : Nat} [hs : Slc P t e es] {z : List Value} [hz : ZeroV P e z] {x y : Operand} {dx dy : D} {rows rows' : List (List D)} (id : Nat)
    (ho : o.op = .call { callee := .builtin .append, args := #[x, y], argTypes := #[t, t] }) (hx : evx s x = some dx) (hy : evx s y = some dy) (hd : dstRows s e es dx = some rows) (hsrc : ∀ s2 : AS, (∀ r ∈ names dy, s2.obj r = s.obj r) → SrcOk s2 es dy rows')
    (hes : 0 < es) (hzl : z.length = es) {bytes : Nat} (hby : (P.info? e).map (·.bytes) = some bytes) (hlen : rows.length + rows'.length ≤ 140737488355328) (hb : (rows.length + rows'.length) * bytes ≤ 140737488355328) :
    Core P o s (names dx ++ names dy) ⟨.vw id es 0 (rows.length + rows'.length), (id, some ⟨e, es, rows ++ rows'⟩) :: (names dx).map fun r => (r, none), [id]⟩ :=
  Core.gen fun s2 h1 h2 M0 A β w a hA hI => by
    have hid : ¬ A id := hA id (by simp)
    have e1 := evx_rep hI ((h1 x (by simp [ho, Op.operands, Call.operands])).trans hx)
    have e2 := evx_rep hI ((h1 y (by simp [ho, Op.operands, Call.operands])).trans hy)
    have hd2 : dstRows s2 e es dx = some rows := (dstRows_agree fun r hr => h2 r (by simp [hr])).trans hd
    obtain ⟨ay, cy, ady, valy, hyv, hya, hyl, hyc⟩ := hsrc s2 (fun r hr => h2 r (by simp [hr])) M0 A β w a hI _ e2.1
    obtain ⟨v0, hv0, hvz⟩ := Option.map_eq_some_iff.1 hz.zero
    obtain ⟨i0, hi0, hiz⟩ := Option.bind_eq_some_iff.1 hv0
    have hsz : i0.size = es := by have := hs.size; simp [hi0] at this; exact this
    have hbb : i0.bytes = bytes := by simp [hi0] at hby; exact hby
    have hrunE : (execOp a.eval o).run P w = ((Builtin.append_ #[t, t] o.type #[a.eval x, a.eval y]).run P w).andThen fun v w => .ok (.value v) w := by
      simp [execOp, ho, resolve, invoke, builtin]
    -- the new cells
    let m := rows'.length
    let news : List Value := (List.range (m * es)).map fun k => valy (k / es) (k % es)
    have hnl : news.length = m * i0.size := by simp [news, hsz]
    have hidx : ∀ k, k < m * es → k / es < m ∧ k % es < es ∧ k / es * es + k % es = k := fun k hk => ⟨Nat.div_lt_of_lt_mul (by rw [Nat.mul_comm]; exact hk), Nat.mod_lt _ hes, by rw [Nat.mul_comm]; exact Nat.div_add_mod k es⟩
    have hcell : ∀ k, k < m * es → ∃ row d, rows'[k / es]? = some row ∧ row[k % es]? = some d := by
      intro k hk
      obtain ⟨q1, q2, _⟩ := hidx k hk
      refine ⟨rows'[k / es], rows'[k / es][k % es]'(by rw [hyl _ _ (List.getElem?_eq_getElem q1)]; exact q2), List.getElem?_eq_getElem q1, List.getElem?_eq_getElem _⟩
    have hnews : ∀ (j : Nat) (u : Value), news[j]? = some u → w.cell? (ady.add j) = some u ∧ u.oneCell' = true := by
      intro j u hu
      simp only [news, List.getElem?_map, Option.map_eq_some_iff] at hu
      obtain ⟨k, hk, rfl⟩ := hu
      obtain ⟨hk1, hk2⟩ := List.getElem?_eq_some_iff.1 hk
      simp only [List.length_range] at hk1
      simp only [List.getElem_range] at hk2
      subst hk2
      obtain ⟨row, d, r1, r2⟩ := hcell j hk1
      obtain ⟨c1, c2, _⟩ := hyc _ row _ d r1 r2
      rw [(hidx j hk1).2.2] at c1
      exact ⟨c1, c2⟩
    have hnewsAt : ∀ i j, i < m → j < es → news[i * es + j]? = some (valy i j) := by
      intro i j hi hj
      have q3 : i * es + j < m * es := by
        have : (i + 1) * es ≤ m * es := Nat.mul_le_mul_right _ hi
        rw [Nat.add_mul] at this
        omega
      have q1 : (i * es + j) / es = i := by rw [Nat.mul_comm, Nat.mul_add_div hes]; simp [Nat.div_eq_of_lt hj]
      have q2 : (i * es + j) % es = j := by rw [Nat.mul_comm, Nat.mul_add_mod]; exact Nat.mod_eq_of_lt hj
      simp [news, q3, q1, q2]
    have hfa : ∀ r, (find r (((id, some (⟨e, es, rows ++ rows'⟩ : Obj)) :: (names dx).map fun r => (r, none)) ++ s2.st)).join =
        if id = r then some (⟨e, es, rows ++ rows'⟩ : Obj) else if r ∈ names dx then none else s2.obj r := by
      intro r
      simp only [List.cons_append, find_cons, find_append]
      split
      · rfl
      · have hn : find r ((names dx).map fun r => (r, (none : Option Obj))) = if r ∈ names dx then some none else none := by
          induction names dx with
          | nil => simp [find]
          | cons q l ih =>
            simp only [List.map_cons, find_cons, ih, List.mem_cons]
            by_cases hq : q = r
            · simp [hq]
            · simp [hq, Ne.symm hq]
        rw [hn]
        split <;> simp
    rcases dst_rep hI hd2 e1.1 e1.2 with ⟨hxv, rfl, hdx⟩ | ⟨r, b, c, cs, val, hdx, hob, hβ, hxv, hnc, hcm, hh, hcs, hrl, hv⟩
    · -- nil
      have hdrop : ∀ r, (find r (((id, some (⟨e, es, [] ++ rows'⟩ : Obj)) :: (names dx).map fun r => (r, none)) ++ s2.st)).join = none ∨ (find r (((id, some (⟨e, es, [] ++ rows'⟩ : Obj)) :: (names dx).map fun r => (r, none)) ++ s2.st)).join = if id = r then some (⟨e, es, [] ++ rows'⟩ : Obj) else s2.obj r := by
        intro r
        rw [hfa]
        split
        · exact .inr rfl
        · split
          · exact .inl rfl
          · exact .inr rfl
      have hdrop' : ∀ r o, (find r (((id, some (⟨e, es, [] ++ rows'⟩ : Obj)) :: (names dx).map fun r => (r, none)) ++ s2.st)).join = some o → (fun r => if id = r then some (⟨e, es, [] ++ rows'⟩ : Obj) else s2.obj r) r = some o := by
        intro r o hr
        rcases hdrop r with h | h
        · rw [h] at hr; cases hr
        · rw [h] at hr; exact hr
      rcases Nat.eq_zero_or_pos m with hm0 | hmp
      · have hr0 : rows' = [] := List.eq_nil_of_length_eq_zero hm0
        subst hr0
        obtain ⟨g1, g2⟩ := hI.toIvS.new0 hid (o := ⟨e, es, [] ++ []⟩) rfl (ob' := fun r => if id = r then some (⟨e, es, [] ++ []⟩ : Obj) else s2.obj r) (fun r => rfl)
        obtain ⟨g3, g4⟩ := g1.drop hdrop'
        have hrun : (Builtin.append_ #[t, t] o.type #[a.eval x, a.eval y]).run P w = .ok (.slice none 0 0) w := by
          rw [hxv, hyv]
          cases ay with
          | none => simp [Builtin.append_, run_underlying hs.slc, sizeOf, typeInfo, hi0, Builtin.lenOf, Builtin.firstCells]
          | some ad => simp [Builtin.append_, run_underlying hs.slc, sizeOf, typeInfo, hi0, Builtin.lenOf, Builtin.firstCells, loadCells, loadCellsFrom]
        exact ⟨_, w, _, .inl (by rw [hrunE, hrun]; rfl), rfl, rfl, rfl, g3, g2.trans (fun r hr => Or.inl hr) g4, .vw0 id es (by simp), .vw _ _ _ _ (Or.inr (by simp))⟩
      · obtain rfl := hya hmp
        have hrun := run_append_nil (P := P) w t o.type e i0 v0 hs.slc hi0 hiz ady m cy news hnl (fun j u hu => (hnews j u hu).1) hmp (by simp only [m]; omega) (by rw [hbb]; simp only [m]; simp at hb; omega)
        have hzz : v0.cells.size = z.length := by rw [← hvz]; simp
        have hgc : m ≤ grownCap w m 0 e := grownCap_ge w m 0 e
        have hgm : grownCap w m 0 e ≤ maxLen := grownCap_le_maxLen w m 0 e (by simp only [maxLen, m]; omega)
        obtain ⟨g1, g2⟩ := hI.toIvS.new (w' := w.drew.alloc (.cells (news.toArray ++ Builtin.zeroCells v0.cells (grownCap w m 0 e - m)) e)) (b := w.heap.size) hid (Nat.le_refl _) (fun k hk => heap_alloc_old w.drew _ k hk) (by simp)
          (o := ⟨e, es, [] ++ rows'⟩) (heap_alloc_new w.drew _) (ob' := fun r => if id = r then some (⟨e, es, [] ++ rows'⟩ : Obj) else s2.obj r) (fun r => rfl) (fun i row hi => hyl i row hi) (by simp [hnl, hsz, m]) (val := valy)
          (fun i row j d hi hj => by
            have hil : i < m := (List.getElem?_eq_some_iff.1 hi).1
            have hjl : j < es := by have := (List.getElem?_eq_some_iff.1 hj).1; rw [hyl i row hi] at this; exact this
            have hq := hnewsAt i j hil hjl
            have hlt := (List.getElem?_eq_some_iff.1 hq).1
            refine ⟨?_, (hyc i row j d hi hj).2.1⟩
            rw [Array.getElem?_append_left (by simpa using hlt)]
            simpa using hq)
          (fun i row j d hi hj => (hyc i row j d hi hj).2.2)
        obtain ⟨g3, g4⟩ := g1.drop hdrop'
        refine ⟨.slice (some ⟨w.heap.size, 0, none⟩) m (grownCap w m 0 e), w.drew.alloc (.cells (news.toArray ++ Builtin.zeroCells v0.cells (grownCap w m 0 e - m)) e), _, .inl (by rw [hrunE, hxv, hyv, hrun]; rfl), rfl, rfl, rfl, g3, g2.trans (fun r hr => Or.inl hr) g4, ?_, .vw _ _ _ _ (Or.inr (by simp))⟩
        have := Rep.vw (M := Mut M0 (fun r => if r = id then some w.heap.size else β r) fun r => (find r (((id, some (⟨e, es, [] ++ rows'⟩ : Obj)) :: (names dx).map fun r => (r, none)) ++ s2.st)).join) (β := fun r => if r = id then some w.heap.size else β r) (w := w.drew.alloc (.cells (news.toArray ++ Builtin.zeroCells v0.cells (grownCap w m 0 e - m)) e)) id es 0 m w.heap.size (grownCap w m 0 e) _ e (by simp) hgc hgm (heap_alloc_new w.drew _) (by
          rw [Array.size_append, size_zeroCells, hzz, hzl]
          simp only [List.size_toArray, hnl, hsz]
          rw [Nat.sub_mul, Nat.zero_add]
          have : m * es ≤ grownCap w m 0 e * es := Nat.mul_le_mul_right _ hgc
          omega)
        simpa [m] using this
    · subst hdx
      let n := rows.length
      have hnm : names (.vw r es 0 rows.length) = [r] := rfl
      have hAr : A r := e1.2.vw_inv
      have hneq : id ≠ r := fun h => hid (h ▸ hAr)
      have hfa' : ∀ k, (find k (((id, some (⟨e, es, rows ++ rows'⟩ : Obj)) :: (names (.vw r es 0 rows.length)).map fun r => (r, none)) ++ s2.st)).join =
          if id = k then some (⟨e, es, rows ++ rows'⟩ : Obj) else if r = k then none else s2.obj k := by
        intro k
        rw [hfa, hnm]
        by_cases h : r = k
        · subst h; simp
        · have : k ∉ [r] := by simp [Ne.symm h]
          simp [h, this]
      have hbsz : b < w.heap.size := (Array.getElem?_eq_some_iff.1 hh).1
      have hrlA : ∀ (i : Nat) (row : List D), (rows ++ rows')[i]? = some row → row.length = es := by
        intro i row hi
        rcases app_rows hi with ⟨_, h⟩ | ⟨_, h⟩
        · exact hrl i row h
        · exact hyl _ row h
      let val' : Nat → Nat → Value := fun i j => if i < n then val i j else valy (i - n) j
      have hrepA : ∀ (i : Nat) (row : List D) (j : Nat) (d : D), (rows ++ rows')[i]? = some row → row[j]? = some d → Rep (Mut M0 β s2.obj) β w d (val' i j) ∧ Refs A d ∧ (val' i j).oneCell' = true := by
        intro i row j d hi hj
        rcases app_rows hi with ⟨hlt, h⟩ | ⟨hge, h⟩
        · simp only [val', n, hlt, if_true]
          obtain ⟨_, q2, q3, q4⟩ := hv i row j d h hj
          exact ⟨q3, q4, q2⟩
        · simp only [val', n, show ¬ i < rows.length by omega, if_false]
          obtain ⟨_, q2, q3, q4⟩ := hyc _ row j d h hj
          exact ⟨q3, q4, q2⟩
      have hfitA : n * es ≤ cs.size := Nat.le_trans (Nat.mul_le_mul_right _ hnc) hcs
      rcases Nat.eq_zero_or_pos m with hm0 | hmp
      · have hr0 : rows' = [] := List.eq_nil_of_length_eq_zero hm0
        subst hr0
        simp only [List.append_nil, List.length_nil, Nat.add_zero] at *
        have hrun : (Builtin.append_ #[t, t] o.type #[a.eval x, a.eval y]).run P w = .ok (.slice (some ⟨b, 0, none⟩) rows.length c) w := by
          rw [hxv, hyv]
          cases ay with
          | none => simp [Builtin.append_, run_underlying hs.slc, sizeOf, typeInfo, hi0, Builtin.lenOf, Builtin.firstCells, hnc, storeCells]
          | some ad => simp [Builtin.append_, run_underlying hs.slc, sizeOf, typeInfo, hi0, Builtin.lenOf, Builtin.firstCells, hnc, storeCells, loadCells, loadCellsFrom]
        obtain ⟨g1, g2⟩ := hI.toIvS.rename hid hob hfa'
        refine ⟨_, w, _, .inl (by rw [hrunE, hrun]; rfl), rfl, rfl, rfl, g1, g2, ?_, .vw _ _ _ _ (Or.inr (by simp))⟩
        have := Rep.vw (M := Mut M0 (fun k => if k = id then β r else β k) fun k => (find k (((id, some (⟨e, es, rows⟩ : Obj)) :: (names (.vw r es 0 rows.length)).map fun r => (r, none)) ++ s2.st)).join) (β := fun k => if k = id then β r else β k) (w := w) id es 0 rows.length b c cs e (by simp [hβ]) hnc hcm hh (by simpa using hcs)
        simpa using this
      · obtain rfl := hya hmp
        by_cases hroom : n + m ≤ c
        · -- in place
          have hfit : n * i0.size + news.length ≤ cs.size := by
            rw [hnl, hsz, ← Nat.add_mul]
            exact Nat.le_trans (Nat.mul_le_mul_right _ hroom) hcs
          have hrun := run_append_room (P := P) w t o.type e i0 hs.slc hi0 b n c cs hh ady m cy news hnl (fun j u hu => (hnews j u hu).1) (fun u hu => by
            obtain ⟨k, hk, rfl⟩ := List.mem_iff_getElem.1 hu
            exact (hnews k _ (List.getElem?_eq_getElem hk)).2) hroom hfit
          let cs' : Array Value := (cs.toList.take (n * i0.size) ++ news ++ cs.toList.drop (n * i0.size + news.length)).toArray
          have hcs' : cs'.size = cs.size := by simp [cs']; omega
          have hget : ∀ k, cs'[k]? = if k < n * es then cs[k]? else if k < (n + m) * es then news[k - n * es]? else cs[k]? := by
            intro k
            have hm' : min (n * es) cs.size = n * es := by omega
            simp only [cs', hsz, List.getElem?_toArray, List.append_assoc, List.getElem?_append, List.length_take, Array.length_toList, hm', hnl, List.getElem?_take, List.getElem?_drop, Array.getElem?_toList]
            by_cases h1 : k < n * es
            · simp [h1]
            · simp only [h1, if_false]
              by_cases h2 : k < (n + m) * es
              · rw [Nat.add_mul] at h2
                rw [if_pos (by omega), if_pos (by rw [Nat.add_mul]; omega)]
              · rw [Nat.add_mul] at h2
                rw [if_neg (by omega), if_neg (by rw [Nat.add_mul]; omega)]
                congr 1
                omega
          have hvA : ∀ (i : Nat) (row : List D) (j : Nat) (d : D), (rows ++ rows')[i]? = some row → row[j]? = some d → cs'[i * es + j]? = some (val' i j) ∧ (val' i j).oneCell' = true := by
            intro i row j d hi hj
            refine ⟨?_, (hrepA i row j d hi hj).2.2⟩
            have hjl : j < es := by have := (List.getElem?_eq_some_iff.1 hj).1; rw [hrlA i row hi] at this; exact this
            rw [hget]
            rcases app_rows hi with ⟨hlt, h⟩ | ⟨hge, h⟩
            · have : (i + 1) * es ≤ n * es := Nat.mul_le_mul_right _ hlt
              rw [Nat.add_mul] at this
              rw [if_pos (by omega)]
              simp only [val', n, hlt, if_true]
              exact (hv i row j d h hj).1
            · have h3 : i - n < m := (List.getElem?_eq_some_iff.1 h).1
              have h4 : n * es ≤ i * es := Nat.mul_le_mul_right _ hge
              have h5 : (i + 1) * es ≤ (n + m) * es := Nat.mul_le_mul_right _ (by omega)
              rw [Nat.add_mul] at h5
              rw [if_neg (by omega), if_pos (by omega)]
              simp only [val', n, show ¬ i < rows.length by omega, if_false]
              have h6 : i * es + j - n * es = (i - n) * es + j := by rw [Nat.sub_mul]; omega
              rw [h6]
              exact hnewsAt _ j h3 hjl
          obtain ⟨g1, g2⟩ := hI.toIvS.set (o' := ⟨e, es, rows ++ rows'⟩) (ob' := fun k => if r = k then some (⟨e, es, rows ++ rows'⟩ : Obj) else s2.obj k) hob hβ hh hcs' rfl (fun k => rfl) hrlA (by
            show (rows ++ rows').length * es ≤ cs.size
            rw [List.length_append]; exact Nat.le_trans (Nat.mul_le_mul_right _ hroom) hcs) (val := val') hvA (fun i row j d hi hj => ⟨(hrepA i row j d hi hj).1, (hrepA i row j d hi hj).2.1⟩)
          obtain ⟨g3, g4⟩ := g1.rename (r := r) hid (o := ⟨e, es, rows ++ rows'⟩) (ob' := fun k => (find k (((id, some (⟨e, es, rows ++ rows'⟩ : Obj)) :: (names (.vw r es 0 rows.length)).map fun r => (r, none)) ++ s2.st)).join) (by simp) (fun k => by
            rw [hfa']
            by_cases h1 : id = k
            · simp [h1]
            · by_cases h2 : r = k <;> simp [h1, h2])
          refine ⟨.slice (some ⟨b, 0, none⟩) (n + m) c, w.setRow b cs', _, .inl (by rw [hrunE, hxv, hyv, hrun]; rfl), rfl, rfl, rfl, g3, g2.trans (fun r hr => hr) g4, ?_, .vw _ _ _ _ (Or.inr (by simp))⟩
          have := Rep.vw (M := Mut M0 (fun k => if k = id then β r else β k) fun k => (find k (((id, some (⟨e, es, rows ++ rows'⟩ : Obj)) :: (names (.vw r es 0 rows.length)).map fun r => (r, none)) ++ s2.st)).join) (β := fun k => if k = id then β r else β k) (w := w.setRow b cs') id es 0 (n + m) b c cs' e (by simp [hβ]) hroom hcm (setRow_heap w b cs cs' _ _ hh) (by rw [hcs']; simpa using hcs)
          simpa [n, m] using this
        · -- a new block
          let olds : List Value := cs.toList.take (n * es)
          have hol : olds.length = n * i0.size := by simp [olds, hsz]; omega
          have holds : ∀ (j : Nat) (v : Value), olds[j]? = some v → w.cell? ((⟨b, 0, none⟩ : Addr).add j) = some v := by
            intro j v hj
            simp only [olds, List.getElem?_take] at hj
            split at hj
            · rw [add_mk, cell_of_row w b _ cs e (0, 0) hh]; simpa using hj
            · cases hj
          have hfitg : Builtin.nextslicecap (n + m) c * i0.bytes ≤ 281474976710656 := growslice_fits (by omega) (by rw [hbb]; exact hb)
          have hrun := run_append_grow (P := P) w t o.type e i0 v0 hs.slc hi0 hiz ⟨b, 0, none⟩ n c olds hol holds ady m cy news hnl (fun j u hu => (hnews j u hu).1) (by omega) (by simp only [n, m]; omega) hfitg
          have hzz : v0.cells.size = z.length := by rw [← hvz]; simp
          let gc := grownCap w (n + m) c e
          have hgc : n + m ≤ gc := grownCap_ge w (n + m) c e
          have hgm : gc ≤ maxLen := grownCap_le_maxLen w (n + m) c e (by simp only [maxLen, n, m]; omega)
          let cs' : Array Value := olds.toArray ++ news.toArray ++ Builtin.zeroCells v0.cells (gc - (n + m))
          have hs' : cs'.size = gc * es := by
            simp only [cs', Array.size_append, size_zeroCells, hzz, hzl, List.size_toArray, hol, hnl, hsz]
            rw [Nat.sub_mul, Nat.add_mul]
            have : (n + m) * es ≤ gc * es := Nat.mul_le_mul_right _ hgc
            rw [Nat.add_mul] at this
            omega
          have hvA : ∀ (i : Nat) (row : List D) (j : Nat) (d : D), (rows ++ rows')[i]? = some row → row[j]? = some d → cs'[i * es + j]? = some (val' i j) ∧ (val' i j).oneCell' = true := by
            intro i row j d hi hj
            refine ⟨?_, (hrepA i row j d hi hj).2.2⟩
            have hjl : j < es := by have := (List.getElem?_eq_some_iff.1 hj).1; rw [hrlA i row hi] at this; exact this
            have hol' : olds.length = n * es := by rw [hol, hsz]
            rcases app_rows hi with ⟨hlt, h⟩ | ⟨hge, h⟩
            · have : (i + 1) * es ≤ n * es := Nat.mul_le_mul_right _ hlt
              rw [Nat.add_mul] at this
              have h7 : cs'[i * es + j]? = olds[i * es + j]? := by
                simp only [cs', Array.append_assoc]
                rw [Array.getElem?_append_left (by simp [hol']; omega)]
                simp
              rw [h7]
              simp only [olds, List.getElem?_take, show i * es + j < n * es by omega, if_true, val', n, hlt]
              simpa using (hv i row j d h hj).1
            · have h3 : i - n < m := (List.getElem?_eq_some_iff.1 h).1
              have h4 : n * es ≤ i * es := Nat.mul_le_mul_right _ hge
              have h6 : i * es + j - n * es = (i - n) * es + j := by rw [Nat.sub_mul]; omega
              have h8 := hnewsAt _ j h3 hjl
              have hlt := (List.getElem?_eq_some_iff.1 h8).1
              have h7 : cs'[i * es + j]? = news[i * es + j - n * es]? := by
                simp only [cs', Array.append_assoc]
                rw [Array.getElem?_append_right (by simp [hol']; omega)]
                simp only [List.size_toArray, hol']
                rw [Array.getElem?_append_left (by simp; omega)]
                simp
              rw [h7, h6, h8]
              simp only [val', n, show ¬ i < rows.length by omega, if_false]
          obtain ⟨g1, g2⟩ := hI.toIvS.new (w' := w.drew.alloc (.cells cs' e)) (b := w.heap.size) hid (Nat.le_refl _) (fun k hk => heap_alloc_old w.drew _ k hk) (by simp)
            (o := ⟨e, es, rows ++ rows'⟩) (heap_alloc_new w.drew _) (ob' := fun r => if id = r then some (⟨e, es, rows ++ rows'⟩ : Obj) else s2.obj r) (fun r => rfl) hrlA (by
              show (rows ++ rows').length * es ≤ cs'.size
              rw [hs', List.length_append]; exact Nat.mul_le_mul_right _ hgc) (val := val') hvA (fun i row j d hi hj => ⟨(hrepA i row j d hi hj).1, (hrepA i row j d hi hj).2.1⟩)
          obtain ⟨g3, g4⟩ := g1.drop (ob' := fun k => (find k (((id, some (⟨e, es, rows ++ rows'⟩ : Obj)) :: (names (.vw r es 0 rows.length)).map fun r => (r, none)) ++ s2.st)).join) (fun k o hk => by
            simp only [hfa'] at hk
            split at hk
            · rename_i h; simp [h, ← hk]
            · rename_i h
              split at hk
              · cases hk
              · simp [h, hk])
          refine ⟨.slice (some ⟨w.heap.size, 0, none⟩) (n + m) gc, w.drew.alloc (.cells cs' e), _, .inl (by rw [hrunE, hxv, hyv, hrun]; rfl), rfl, rfl, rfl, g3, g2.trans (fun r hr => Or.inl hr) g4, ?_, .vw _ _ _ _ (Or.inr (by simp))⟩
          have := Rep.vw (M := Mut M0 (fun r => if r = id then some w.heap.size else β r) fun k => (find k (((id, some (⟨e, es, rows ++ rows'⟩ : Obj)) :: (names (.vw r es 0 rows.length)).map fun r => (r, none)) ++ s2.st)).join) (β := fun r => if r = id then some w.heap.size else β r) (w := w.drew.alloc (.cells cs' e)) id es 0 (n + m) w.heap.size gc cs' e (by simp) hgc hgm (heap_alloc_new w.drew _) (by rw [hs']; simp)
          simpa [n, m] using this
theorem core_append {t e es : Nat} [hs : Slc P t e es] {z : List Value} [hz : ZeroV P e z] {x y : Operand} {dx dy : D} {rows rows' : List (List D)} (id : Nat)
    (ho : o.op = .call { callee := .builtin .append, args := #[x, y], argTypes := #[t, t] }) (hx : evx s x = some dx) (hy : evx s y = some dy) (hd : dstRows s e es dx = some rows) (hsrc : srcRows s es dy = some rows')
    (hes : 0 < es) (hzl : z.length = es) {bytes : Nat} (hby : (P.info? e).map (·.bytes) = some bytes) (hlen : rows.length + rows'.length ≤ 140737488355328) (hb : (rows.length + rows'.length) * bytes ≤ 140737488355328) :
    Core P o s (names dx ++ names dy) ⟨.vw id es 0 (rows.length + rows'.length), (id, some ⟨e, es, rows ++ rows'⟩) :: (names dx).map fun r => (r, none), [id]⟩ :=
  core_appendX id ho hx hy hd (fun s2 h M0 A β w a hI y hr => src_rep hI ((srcRows_agree h).trans hsrc) hr) hes hzl hby hlen hb
end
end Go.Abs
