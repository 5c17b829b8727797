/- Running code over abstract data, part 7: one operation. -/
import Derived.Test.YtmmfmiamkgmikaaGreatE6
set_option linter.unusedVariables false
set_option linter.unusedSimpArgs false
namespace Go.Abs

/-! ### Slices as sources -/
noncomputable def flatRowsX (x : XO) (n : Nat) : Nat → Option (List (List D)) :=
  Nat.rec (motive := fun _ => Nat → Option (List (List D))) (fun _ => some []) (fun _ ih lo => bnd (flatX x lo) fun d => bnd (ih (Nat.succ lo)) fun l => some ([d] :: l)) n
theorem flatRowsX_ok {x : XO} {o : Obj} (h : XoIs x o) : ∀ {n lo : Nat} {rows : List (List D)}, flatRowsX x n lo = some rows → flatRows o lo n = some rows
  | 0, lo, rows, hr => hr
  | n + 1, lo, rows, hr => by
    obtain ⟨d, h1, hr⟩ := bnd_inv (show bnd (flatX x lo) (fun d => bnd (flatRowsX x n (lo + 1)) fun l => some ([d] :: l)) = some rows from hr)
    obtain ⟨l, h2, hr⟩ := bnd_inv hr
    rw [flatX_eq h] at h1
    simp only [flatRows, h1, flatRowsX_ok h h2]
    exact hr
noncomputable def zsrc (T : ST) (es : Nat) (d : D) : Option (List (List D)) := match d with
  | .e0 => some []
  | .sl es' rows => bB (Nat.beq es' es) (some rows)
  | .vw r es' lo n => bnd (xobj T r) fun x => Bool.rec (motive := fun _ => Option (List (List D))) (bB (Nat.beq es 1) (bB (Nat.beq es' 1) (flatRowsX x n lo))) (bB (Nat.beq es' es) (bB (Nat.ble (lo + n) x.n) (x.t.rows n lo))) (Nat.beq x.es es)
  | _ => none

section
variable {P : Program} {ops : Array Oper} {o : Oper} {s : AS} {T : ST} {nx lo : Nat}
theorem zsrc_ok (hS : SR T nx s) {es : Nat} {d : D} {rows : List (List D)} (h : zsrc T es d = some rows) : ∀ s2 : AS, (∀ q ∈ names d, s2.obj q = s.obj q) → SrcOk s2 es d rows := by
  intro s2 h2
  have base : srcRows s es d = some rows → SrcOk s2 es d rows := fun h => fun M0 A β w a hI y hr => src_rep hI ((srcRows_agree h2).trans h) hr
  unfold zsrc at h
  split at h
  · exact base (by simpa [srcRows] using h)
  · obtain ⟨h1, h⟩ := bB_inv h
    have h1 := Nat.eq_of_beq_eq_true h1
    exact base (by simp [srcRows, h1]; simpa using h)
  · rename_i r es' st n
    obtain ⟨x, hx, h⟩ := bnd_inv h
    obtain ⟨ob, hob, hxo, hlt⟩ := hS.get hx
    cases he : Nat.beq x.es es with
    | false =>
      rw [he] at h
      obtain ⟨h1, h⟩ := bB_inv h
      obtain ⟨h3, h⟩ := bB_inv h
      have h1 : es = 1 := by simpa using h1
      have h3 : es' = 1 := by simpa using h3
      subst h1
      subst h3
      exact SrcOk.flat ((h2 r (by simp [names])).trans hob) (flatRowsX_ok hxo h)
    | true =>
      rw [he] at h
      obtain ⟨h1, h⟩ := bB_inv h
      obtain ⟨h3, h⟩ := bB_inv h
      obtain ⟨q1, q2, q3, q4⟩ := hxo
      have h1 : es' = es := by simpa using h1
      have he : x.es = es := by simpa using he
      have h3 : st + n ≤ ob.rows.length := by rw [q3]; exact Nat.le_of_ble_eq_true h3
      refine base ?_
      have := q4.rows_eq n st rows h
      have hc : (ob.es == es && es' == es && decide (st + n ≤ ob.rows.length)) = true := by simp [q2, he, h1, h3]
      simp only [srcRows, hob, hc, cond_true, Option.some.injEq]
      exact this.1.symm
  · cases h

noncomputable def zappend {ρ : Type} (e es bytes : Nat) (T : ST) (nx lo : Nat) (dx dy : D) (k : List Nat → List Nat → D → ST → Nat → Option ρ) : Option ρ := bnd (zsrc T es dy) fun rows => match dx with
  | .e0 => bB (Nat.ble rows.length 140737488355328) (bB (Nat.ble (rows.length * bytes) 140737488355328) (k (names dy) [nx] (.vw nx es 0 rows.length) (T.set (some (xRows e es rows)) nx) lo))
  | .vw r es' st n => bnd (xobj T r) fun x => bB (Nat.beq x.es es) (bB (Nat.beq x.elem e) (bB (Nat.beq es' es) (bB (Nat.beq st 0) (bB (Nat.beq n x.n) (fN (n + rows.length) fun m => bB (Nat.ble m 140737488355328) (bB (Nat.ble (m * bytes) 140737488355328)
      (k (r :: names dy) [nx, r] (.vw nx es 0 m) ((T.set none r).set (some ⟨e, es, m, Tr.pushL rows x.t n⟩) nx) (lowN lo r))))))))
  | _ => none
theorem zappend_ok {ρ : Type} (hS : SR T nx s) {t e es bytes : Nat} {z : List Value} {x y : Operand} {dx dy : D} {k : List Nat → List Nat → D → ST → Nat → Option ρ} {r : ρ} (ho : o.op = .call { callee := .builtin .append, args := #[x, y], argTypes := #[t, t] }) (ht : slI P t = some (e, es)) (hz : zeroT P e = some z) (hzl : Nat.beq z.length es = true)
    (hes : Nat.blt 0 es = true) (hby : (P.info? e).map (·.bytes) = some bytes) (hx : evx s x = some dx) (hy : evx s y = some dy) (h : zappend e es bytes T nx lo dx dy k = some r) :
    ∃ f sn d T' lo', Step P ops o s nx lo f sn d T' (nx + 1) lo' ∧ k f sn d T' lo' = some r := by
  obtain ⟨rows, hrows, h⟩ := bnd_inv h
  haveI := slI_ok ht
  haveI := zeroT_ok hz
  have hsrc := zsrc_ok hS hrows
  have hes' : 0 < es := by simp only [Nat.blt, Nat.ble_eq] at hes; omega
  have hzl' : z.length = es := by simpa using hzl
  split at h
  · obtain ⟨h1, h⟩ := bB_inv h
    obtain ⟨h2, h⟩ := bB_inv h
    have hc := core_appendX (P := P) nx ho hx hy (rows := []) rfl hsrc hes' hzl' hby (by simpa using h1) (by simpa using h2)
    simp only [List.length_nil, Nat.zero_add, List.nil_append, names, List.map_nil] at hc
    exact ⟨_, _, _, _, _, Step.new hS (xRows_is e es rows) hc, h⟩
  · rename_i q es' st n _
    obtain ⟨xo, hxo, h⟩ := bnd_inv h
    obtain ⟨c1, h⟩ := bB_inv h
    obtain ⟨c2, h⟩ := bB_inv h
    obtain ⟨c3, h⟩ := bB_inv h
    obtain ⟨c4, h⟩ := bB_inv h
    obtain ⟨c5, h⟩ := bB_inv h
    rw [fN_eq] at h
    obtain ⟨c6, h⟩ := bB_inv h
    obtain ⟨c7, hfin⟩ := bB_inv h
    obtain ⟨ob, hob, ⟨q1, q2, q3, q4⟩, hlt⟩ := hS.get hxo
    have c1 : xo.es = es := by simpa using c1
    have c2 : xo.elem = e := by simpa using c2
    have c3 : es' = es := by simpa using c3
    have c4 : st = 0 := by simpa using c4
    have c5 : n = xo.n := by simpa using c5
    subst c3
    subst c4
    have hn : n = ob.rows.length := c5.trans q3.symm
    have hd : dstRows s e es' (.vw q es' 0 n) = some ob.rows := by
      have : (ob.es == es' && ob.elem == e && es' == es' && (0 : Nat) == 0 && n == ob.rows.length) = true := by simp [q2, c1, q1, c2, hn]
      simp only [dstRows, hob, this, cond_true]
    have hc := core_appendX (P := P) nx ho hx hy hd hsrc hes' hzl' hby (by rw [← hn]; exact Nat.le_of_ble_eq_true c6) (by rw [← hn]; exact Nat.le_of_ble_eq_true c7)
    refine ⟨_, _, _, _, _, ⟨⟨_, 1, by rw [← hn] at hc; exact hc, rfl, rfl, ?_⟩, (lowN_le lo q).1, fun r' hr' hlt' => ?_⟩, hfin⟩
    · rw [app_eq _ _ 1 o.dst s nx hS.nxt]
      have s1 := hS.put (s' := ⟨s.sl, (q, none) :: s.st, nx, s.N⟩) (Nat.le_of_lt hlt) (.inl ⟨rfl, hlt⟩) (xo := none) (oo := none) trivial rfl fun r' => by
        simp only [AS.obj, find_cons]
        by_cases hr : q = r'
        · subst hr; simp
        · simp [hr, Ne.symm hr]
      refine s1.put (Nat.le_refl _) (.inr ⟨rfl, rfl⟩) (oo := some ⟨e, es', ob.rows ++ rows⟩) ⟨rfl, rfl, by simp [← hn], ?_⟩ rfl fun r' => ?_
      · rw [hn]
        exact TrIs.pushL rows q4
      · simp only [AS.obj, names, List.map_cons, List.map_nil, List.cons_append, List.nil_append, find_cons]
        by_cases hr : nx = r'
        · subst hr; simp
        · simp [hr, Ne.symm hr]
    · simp only [names, List.map_cons, List.map_nil] at hr'
      simp at hr'
      rcases hr' with rfl | rfl
      · omega
      · exact (lowN_le lo _).2
  · cases h

/-! ### Parts of slices -/
inductive SI where
  | sl (es : Nat) | str | arr (n : Nat)
def siI (P : Program) (t : TypeId) : Option SI := match P.underlying t with
  | some (.slice e) => match (P.info? e).map (·.size) with
    | some es => some (.sl es)
    | none => none
  | some .string => some .str
  | some (.array n e) => match (P.info? e).map (·.size) with
    | some 1 => some (.arr n)
    | _ => none
  | _ => none
/-- A bound: its datum, if it is there. -/
def bdD (d : D) : Option Nat := match d with
  | .v (.int _ (.ofNat k)) => some k
  | _ => none
def bdN (b : Option D) (dflt : Nat) : Option Nat := match b with
  | none => some dflt
  | some d => bdD d
def evo (sl : List (Nat × D)) (x : Option Operand) : Option (Option D) := match x with
  | none => some none
  | some x => match evl sl x with
    | some d => some (some d)
    | none => none
theorem bdN_ok {x : Option Operand} {b : Option D} {dflt k : Nat} (h : evo s.sl x = some b) (hk : bdN b dflt = some k) : Bnd s x dflt k := by
  cases x with
  | none => simp only [evo, Option.some.injEq] at h; subst h; simp only [bdN, Option.some.injEq] at hk; exact hk.symm
  | some x =>
    simp only [evo, evl_eq] at h
    cases he : evx s x with
    | none => rw [he] at h; cases h
    | some d =>
      rw [he] at h
      simp only [Option.some.injEq] at h
      subst h
      simp only [bdN] at hk
      unfold bdD at hk
      split at hk
      · rename_i kk k'; cases hk; exact ⟨kk, by rw [he]; rfl⟩
      · cases hk
noncomputable def zslice {ρ : Type} (si : SI) (T : ST) (d : D) (lo hi : Option D) (k : List Nat → D → Option ρ) : Option ρ := match si with
  | .sl es => match d with
    | .vw r es' st n => bB (Nat.beq es' es) (bnd (bdN lo 0) fun l => bnd (bdN hi n) fun h => bB (Nat.ble h n) (Bool.rec (motive := fun _ => Option ρ) (bB (Nat.beq l h) (k [] (.sl es []))) (fN (st + l) fun a => fN (h - l) fun b => k [] (.vw r es a b)) (Nat.blt l h)))
    | .e0 => bnd (bdN lo 0) fun l => bnd (bdN hi 0) fun h => bB (Nat.beq l 0) (bB (Nat.beq h 0) (k [] (.sl es [])))
    | .sl es' [] => bB (Nat.beq es' es) (bnd (bdN lo 0) fun l => bnd (bdN hi 0) fun h => bB (Nat.beq l 0) (bB (Nat.beq h 0) (k [] (.sl es []))))
    | _ => none
  | .str => match d with
    | .v (.string b) => bnd (bdN lo 0) fun l => bnd (bdN hi b.size) fun h => bB (Nat.ble l h) (bB (Nat.ble h b.size) (k [] (.v (.string (b.extract l h)))))
    | _ => none
  | .arr n => match d, lo, hi with
    | .ptr r es i off, none, none => bnd (xobj T r) fun x => bB (Nat.beq x.es es) (bnd (x.t.get i) fun row => bB (Nat.ble (off + n) row.length) (bB (Nat.ble n 9223372036854775807) (fN (i * es + off) fun a => k [r] (.vw r 1 a n))))
    | _, _, _ => none
theorem zslice_ok {ρ : Type} (hS : SR T nx s) {si : SI} {t : TypeId} {x : Operand} {xl xh : Option Operand} {d : D} {bl bh : Option D} {k : List Nat → D → Option ρ} {r : ρ} (ho : o.op = .slice t x xl xh none) (hi : siI P t = some si) (hx : evx s x = some d) (hl : evo s.sl xl = some bl) (hh : evo s.sl xh = some bh)
    (h : zslice si T d bl bh k = some r) : ∃ f d', Core P o s f ⟨d', [], []⟩ ∧ k f d' = some r := by
  unfold siI at hi
  unfold zslice at h
  split at hi
  · rename_i e hu
    split at hi
    · rename_i es hsz
      cases hi
      simp only at h
      haveI : Slc P t e es := ⟨hu, hsz⟩
      split at h
      · obtain ⟨c1, h⟩ := bB_inv h
        obtain ⟨l, c2, h⟩ := bnd_inv h
        obtain ⟨hb, c3, h⟩ := bnd_inv h
        obtain ⟨c4, h⟩ := bB_inv h
        have c1 := Nat.eq_of_beq_eq_true c1
        subst c1
        cases hlt : Nat.blt l hb with
        | true =>
          rw [hlt] at h
          simp only [fN_eq] at h
          exact ⟨_, _, core_slice_vw ho hx (bdN_ok hl c2) (bdN_ok hh c3) (by simp only [Nat.blt, Nat.ble_eq] at hlt; omega) (Nat.le_of_ble_eq_true c4), h⟩
        | false =>
          rw [hlt] at h
          obtain ⟨c5, hfin⟩ := bB_inv h
          have c5 : l = hb := by simpa using c5
          subst c5
          exact ⟨_, _, core_slice_vw0 ho hx (bdN_ok hl c2) (bdN_ok hh c3) (Nat.le_of_ble_eq_true c4), hfin⟩
      · obtain ⟨l, c2, h⟩ := bnd_inv h
        obtain ⟨hb, c3, h⟩ := bnd_inv h
        obtain ⟨c4, h⟩ := bB_inv h
        obtain ⟨c5, hfin⟩ := bB_inv h
        have c4 : l = 0 := by simpa using c4
        have c5 : hb = 0 := by simpa using c5
        subst c4
        subst c5
        exact ⟨_, _, core_slice_e0 ho hx (bdN_ok hl c2) (bdN_ok hh c3), hfin⟩
      · obtain ⟨c1, h⟩ := bB_inv h
        obtain ⟨l, c2, h⟩ := bnd_inv h
        obtain ⟨hb, c3, h⟩ := bnd_inv h
        obtain ⟨c4, h⟩ := bB_inv h
        obtain ⟨c5, hfin⟩ := bB_inv h
        have c1 := Nat.eq_of_beq_eq_true c1
        subst c1
        have c4 : l = 0 := by simpa using c4
        have c5 : hb = 0 := by simpa using c5
        subst c4
        subst c5
        exact ⟨_, _, core_slice_sl (rows := []) ho hx (bdN_ok hl c2) (bdN_ok hh c3) (Nat.le_refl _) (Nat.le_refl _), hfin⟩
      · cases h
    · cases hi
  · rename_i hu
    cases hi
    simp only at h
    haveI : TyStr P t := ⟨hu⟩
    split at h
    · obtain ⟨l, c2, h⟩ := bnd_inv h
      obtain ⟨hb, c3, h⟩ := bnd_inv h
      obtain ⟨c4, h⟩ := bB_inv h
      obtain ⟨c5, h⟩ := bB_inv h
      exact ⟨_, _, core_slice_str ho hx (bdN_ok hl c2) (bdN_ok hh c3) (Nat.le_of_ble_eq_true c4) (Nat.le_of_ble_eq_true c5), h⟩
    · cases h
  · rename_i n e hu
    split at hi
    · rename_i hsz
      cases hi
      simp only at h
      haveI : Arr P t n e 1 := ⟨hu, hsz⟩
      split at h
      · obtain ⟨xo, hxo, h⟩ := bnd_inv h
        obtain ⟨c1, h⟩ := bB_inv h
        obtain ⟨row, c2, h⟩ := bnd_inv h
        obtain ⟨c3, h⟩ := bB_inv h
        obtain ⟨c4, h⟩ := bB_inv h
        rw [fN_eq] at h
        obtain ⟨ob, hob, ⟨q1, q2, q3, q4⟩, hlt⟩ := hS.get hxo
        have hnone : ∀ {y : Option Operand} {b : Option D}, evo s.sl y = some b → b = none → y = none := by
          intro y b h1 h2
          subst h2
          cases y with
          | none => rfl
          | some y => simp only [evo] at h1; split at h1 <;> cases h1
        have e1 := hnone hl rfl
        have e2 := hnone hh rfl
        subst e1
        subst e2
        rw [q4] at c2
        exact ⟨_, _, core_slice_arr ho hx hob (q2.trans (by simpa using c1)) c2 (Nat.le_of_ble_eq_true c3) (by simpa [maxLen] using c4), h⟩
      · cases h
    · cases hi
  · cases hi
end
end Go.Abs
