/- Running code over abstract data, part 10: calls. -/
import Derived.Test.YtmmfmiamkgmikaaGreatE9
set_option linter.unusedVariables false
set_option linter.unusedSimpArgs false
namespace Go.Abs

/-- What a call comes to: its datum, the store, the next name, what is untouched. -/
structure Rt where
  d : D
  T : ST
  nx : Nat
  lo : Nat
@[reducible] def Sem := List D → ST → Nat → Option Rt

/-- What follows a call. -/
noncomputable def bndR {ρ : Type} (o : Option Rt) (k : D → ST → Nat → Nat → Option ρ) : Option ρ := Option.rec (motive := fun _ => Option ρ) none (fun rt => Rt.rec (motive := fun _ => Option ρ) (fun d T nx lo => k d T nx lo) rt) o
theorem bndR_inv {ρ : Type} {o : Option Rt} {k : D → ST → Nat → Nat → Option ρ} {r : ρ} (h : bndR o k = some r) : ∃ rt, o = some rt ∧ k rt.d rt.T rt.nx rt.lo = some r := by
  cases o with
  | none => cases h
  | some rt => exact ⟨rt, rfl, h⟩
/-- A function's contract. -/
def FnOk (P : Program) (f : FuncId) (F : Sem) : Prop :=
  ∀ (ds : List D) (T : ST) (nx : Nat) (rt : Rt), F ds T nx = some rt → ∀ (s : AS), SR T nx s → ∀ (M0 : Nat → Prop) (β : Nat → Option Nat) (w : World) (vals : Array Value), IvS M0 (· < nx) β s.obj w → vals.size = ds.length →
    (∀ (i : Nat) (d : D) (y : Value), ds[i]? = some d → vals[i]? = some y → Rep (Mut M0 β s.obj) β w d y ∧ Refs (· < nx) d) →
    Calls P f vals w fun e w' => ∃ (y : Value) (s' : AS) (β' : Nat → Option Nat), e = .returned y ∧ SR rt.T rt.nx s' ∧ IvS M0 (· < rt.nx) β' s'.obj w' ∧ Rep (Mut M0 β' s'.obj) β' w' rt.d y ∧ Refs (· < rt.nx) rt.d ∧ nx ≤ rt.nx ∧
      Fr (· < nx) (Own β s.obj) (Own β' s'.obj) β β' w w' ∧ rt.lo ≤ nx ∧ (∀ q, q < rt.lo → s'.obj q = s.obj q)

/-- The object of a tree. -/
noncomputable def objOf (x : XO) : Obj := ⟨x.elem, x.es, (List.range x.n).map fun i => (x.t.get i).getD []⟩
theorem objOf_eq {x : XO} {o : Obj} (h : XoIs x o) : objOf x = o := by
  obtain ⟨h1, h2, h3, h4⟩ := h
  obtain ⟨e, es, rows⟩ := o
  simp only at h1 h2 h3 h4
  subst h1
  subst h2
  simp only [objOf, Obj.mk.injEq, true_and]
  apply List.ext_getElem?
  intro i
  simp only [List.getElem?_map, List.getElem?_range, ← h3]
  by_cases hi : i < rows.length
  · have := h4 i
    simp only [hi, List.getElem?_eq_getElem] at this
    simp [hi, this]
  · simp [hi]
theorem OR_eq {x : Option XO} {o : Option Obj} (h : OR x o) : x.map objOf = o := by
  cases x <;> cases o <;> first | rfl | exact h.elim | exact congrArg some (objOf_eq h)

theorem evs_mem {s : AS} : ∀ {xs : List Operand} {ds : List D} {i : Nat} {d : D}, evs s xs = some ds → ds[i]? = some d → ∃ x, xs[i]? = some x ∧ evx s x = some d := by
  intro xs ds i d h hd
  obtain ⟨h1, h2⟩ := evs_get h
  have hi : i < xs.length := by rw [h1]; exact (List.getElem?_eq_some_iff.1 hd).1
  exact ⟨xs[i], List.getElem?_eq_getElem hi, h2 i _ _ (List.getElem?_eq_getElem hi) hd⟩

/-- There is a world for it. -/
def Sat (s : AS) : Prop := ∃ (M0 : Nat → Prop) (β : Nat → Option Nat) (w : World) (a : Act), Inv M0 (· < s.nx) β s w a

section
variable {P : Program} {ops : Array Oper} {o : Oper} {s : AS} {T : ST} {nx lo : Nat}

theorem clo_rep {M : Nat → Prop} {β : Nat → Option Nat} {w : World} {f : FuncId} {caps : List D} {y : Value} (h : Rep M β w (.clo f caps) y) :
    ∃ ys : Array Value, y = .func (.func f) #[] ys ∧ caps.length = ys.size ∧ ∀ (i : Nat) (d : D) (y : Value), caps[i]? = some d → ys[i]? = some y → Rep M β w d y := by
  cases h with
  | base h =>
    cases h with
    | clo f caps ys hl h => exact ⟨ys, rfl, hl, fun i d y hd hy => .base (h i d y hd hy)⟩
  | clo f caps ys hl h => exact ⟨ys, rfl, hl, h⟩

/-- The values of a call, and that it is one. -/
theorem call_vals {M0 A : Nat → Prop} {β : Nat → Option Nat} {s : AS} {w : World} {a : Act} (hI : Inv M0 A β s w a) {cx : Operand} {xs : Array Operand} {ats : Array TypeId} {f : FuncId} (hf : HasFn P f) {caps ds : List D}
    (ho : o.op = .call { callee := .value cx, args := xs, argTypes := ats }) (hc : evx s cx = some (.clo f caps)) (hx : evs s xs.toList = some ds) :
    ∃ vals : Array Value, (execOp a.eval o).run P w = .ok (.enter f vals) w ∧ vals.size = (ds ++ caps).length ∧ ∀ (i : Nat) (d : D) (y : Value), (ds ++ caps)[i]? = some d → vals[i]? = some y → Rep (Mut M0 β s.obj) β w d y ∧ Refs A d := by
  have e0 := evx_rep hI hc
  obtain ⟨hxl, hxe⟩ := evs_get hx
  obtain ⟨ys, hy, hyl, hyr⟩ := clo_rep e0.1
  refine ⟨xs.map a.eval ++ ys, ?_, ?_, fun i d y hd hyv => ?_⟩
  · have := run_callFunc (P := P) (f := f) (xs.map a.eval ++ ys) w
    simp [execOp, ho, resolve, Deferred.ofValue, hy, invoke, this]
  · have : xs.size = ds.length := by rw [← hxl]; simp
    simp [this, hyl]
  · have hxs : xs.size = ds.length := by rw [← hxl]; simp
    rw [List.getElem?_append] at hd
    simp only [Array.getElem?_append, Array.size_map] at hyv
    split at hd
    · rw [if_pos (by omega)] at hyv
      simp only [Array.getElem?_map, Option.map_eq_some_iff] at hyv
      obtain ⟨x, hx', rfl⟩ := hyv
      exact evx_rep hI (hxe i x _ (by simpa using hx') hd)
    · rw [if_neg (by omega)] at hyv
      rw [hxs] at hyv
      refine ⟨hyr _ _ y hd hyv, ?_⟩
      cases e0.2 with
      | clo _ _ h => exact h d (List.mem_of_getElem? hd)


theorem lowN_of_le {lo r : Nat} (h : lo ≤ r) : lowN lo r = lo := by
  unfold lowN
  have : Nat.blt r lo = false := by
    cases hh : Nat.blt r lo with
    | false => rfl
    | true => have := blt_lt hh; omega
  rw [this]
/-- A function without a body, of values alone: what it answers. -/
def XOk (P : Program) (f : FuncId) (F : Sem) : Prop :=
  ∀ (ds : List D) (T : ST) (nx : Nat) (rt : Rt), F ds T nx = some rt → ∃ (vs : List Value) (z : Value), ds = vs.map .v ∧ rt = ⟨.v z, T, nx, nx⟩ ∧ ∀ w : World, (callFunc f vs.toArray).run P w = .ok (.value z) w
/-- A call of such a function. -/
theorem core_ext {cx : Operand} {xs : Array Operand} {ats : Array TypeId} {f : FuncId} {caps ds : List D} {vs : List Value} {z : Value} (ho : o.op = .call { callee := .value cx, args := xs, argTypes := ats })
    (hc : evx s cx = some (.clo f caps)) (hx : evs s xs.toList = some ds) (hv : ds ++ caps = vs.map .v) (hr : ∀ w : World, (callFunc f vs.toArray).run P w = .ok (.value z) w) : Core P o s [] ⟨.v z, [], []⟩ :=
  Core.value fun s2 h1 _ M0 A β w a hI => by
    have hmem : ∀ x ∈ xs.toList, x ∈ o.op.operands := fun x hx => by simp [ho, Op.operands, Call.operands]; exact .inr (by simpa using hx)
    have hc2 : evx s2 cx = some (.clo f caps) := (h1 cx (by simp [ho, Op.operands, Call.operands])).trans hc
    have hx2 : evs s2 xs.toList = some ds := (evs_agree fun x hx => h1 x (hmem x hx)).trans hx
    have e0 := evx_rep hI hc2
    obtain ⟨hxl, hxe⟩ := evs_get hx2
    obtain ⟨ys, hy, hyl, hyr⟩ := clo_rep e0.1
    have hxs : xs.size = ds.length := by rw [← hxl]; simp
    have key : xs.map a.eval ++ ys = vs.toArray := by
      apply Array.ext_getElem?
      intro i
      have hl : ds.length + caps.length = vs.length := by
        have := congrArg List.length hv
        simpa using this
      have hget := congrArg (fun l => l[i]?) hv
      simp only [List.getElem?_map, List.getElem?_append] at hget
      simp only [Array.getElem?_append, Array.size_map, List.getElem?_toArray, Array.getElem?_map]
      by_cases hi : i < ds.length
      · rw [if_pos hi] at hget
        rw [if_pos (by omega)]
        have hi2 : i < vs.length := by omega
        rw [List.getElem?_eq_getElem hi2, Option.map_some] at hget
        have hxi : i < xs.toList.length := by rw [hxl]; exact hi
        have h2 := evx_rep hI (hxe i xs.toList[i] _ (List.getElem?_eq_getElem hxi) hget)
        have h3 : a.eval xs.toList[i] = vs[i] := h2.1.one
        have h4 : xs[i]? = some xs.toList[i] := by
          rw [← Array.getElem?_toList]
          exact List.getElem?_eq_getElem hxi
        rw [h4, Option.map_some, h3, List.getElem?_eq_getElem hi2]
      · rw [if_neg hi] at hget
        rw [if_neg (by omega), hxs]
        by_cases hi2 : i < vs.length
        · rw [List.getElem?_eq_getElem hi2, Option.map_some] at hget
          have hj : i - ds.length < ys.size := by omega
          have h2 := (hyr _ _ ys[i - ds.length] hget (Array.getElem?_eq_getElem hj)).one
          rw [Array.getElem?_eq_getElem hj, h2, List.getElem?_eq_getElem hi2]
        · rw [List.getElem?_eq_none (by omega), Array.getElem?_eq_none (by omega)]
    refine ⟨z, ?_, .base (.v _), .v _⟩
    have := hr w
    rw [← key] at this
    simp [execOp, ho, resolve, Deferred.ofValue, hy, invoke, this]

/-- One step of a region in the text's order. -/
def SStep (P : Program) (ops : Array Oper) (o : Oper) (s : AS) (Q : AS → Prop) : Prop :=
  ∀ (M0 : Nat → Prop) (β : Nat → Option Nat) (w : World) (a : Act), Inv M0 (· < s.nx) β s w a → ∀ (K : Act → World → Prop) (Qx : Exit → Act → World → Prop),
    (∀ s' β' w' a', Q s' → Inv M0 (· < s'.nx) β' s' w' a' → s.nx ≤ s'.nx → Fr (· < s.nx) (Own β s.obj) (Own β' s'.obj) β β' w w' → K a' w') →
    if Region.wanted o (yielded ops a.tmps) then o.wp P a w K Qx else K (a.put o.dst undef) w

theorem SStep.loc {f : List Nat} {e : Eff} {Q : AS → Prop} (hN : ∀ t, o.dst = some t → t < s.N) (hn : ∀ r ∈ e.news, s.nx ≤ r) (h : Loc P ops o s f e) (hq : Q (e.app o.dst s)) : SStep P ops o s Q := by
  intro M0 β w a hI K Qx hK
  refine h s (fun _ _ => rfl) (fun _ _ _ _ _ => rfl) (fun _ _ => rfl) hN M0 (· < s.nx) β w a (fun r hr => by have := hn r hr; omega) hI K Qx fun a' w' hp => ?_
  obtain ⟨β', h1, h2⟩ := hp.names
  exact hK _ β' w' a' hq h1 (app_nx e o.dst s) h2
theorem SStep.mono {Q Q' : AS → Prop} (h : SStep P ops o s Q) (hq : ∀ s', Q s' → Q' s') : SStep P ops o s Q' :=
  fun M0 β w a hI K Qx hK => h M0 β w a hI K Qx fun s' β' w' a' q => hK s' β' w' a' (hq s' q)

/-- What an operation leaves of the frame. -/
def Aft (dst : Option Tmp) (d : D) (sl : List (Nat × D)) (N : Nat) (T : ST) (nx lo : Nat) (s s' : AS) : Prop :=
  s'.sl = putS dst d sl ∧ s'.N = N ∧ SR T nx s' ∧ ∀ q, q < lo → s'.obj q = s.obj q

/-- A call. -/
theorem SStep.call (hS : SR T nx s) (hN : ∀ t, o.dst = some t → t < s.N) (hg : o.guard = none) {cx : Operand} {xs : Array Operand} {ats : Array TypeId} {f : FuncId} (hf : HasFn P f) {caps ds : List D} {F : Sem} (hF : FnOk P f F) {rt : Rt}
    (ho : o.op = .call { callee := .value cx, args := xs, argTypes := ats }) (hc : evx s cx = some (.clo f caps)) (hx : evs s xs.toList = some ds) (hr : F (ds ++ caps) T nx = some rt) :
    SStep P ops o s (Aft o.dst rt.d s.sl s.N rt.T rt.nx rt.lo s) := by
  intro M0 β w a hI K Qx hK
  rw [if_pos (by simp [Region.wanted, hg])]
  obtain ⟨vals, hrun, hvs, hrep⟩ := call_vals hI hf ho hc hx
  have hnx := hS.nxt
  have hI' := hI
  rw [hnx] at hI'
  have hcall := hF (ds ++ caps) T nx rt hr s hS M0 β w vals hI'.toIvS hvs fun i d y hd hy => by
    have := hrep i d y hd hy
    rwa [hnx] at this
  unfold Oper.wp
  rw [hrun, Oper.upon_enter]
  refine hcall.mono ?_
  rintro e w' ⟨y, s', β', rfl, gS, gI, gr, gf, gle, gF, glo, gtch⟩
  have hstep := hI'.step (A' := (· < rt.nx)) (ob' := s'.obj) (dst := o.dst) (st := s'.st) (nx := rt.nx) (fun r hr => by have : r < nx := hr; omega) gI gF.toKeepB hN gr gf (fun r => rfl)
  refine hK ⟨putS o.dst rt.d s.sl, s'.st, rt.nx, s.N⟩ β' w' _ ⟨rfl, rfl, ⟨rfl, gS.obj, gS.full, gS.out⟩, gtch⟩ hstep (by rw [hnx]; exact gle) ?_
  rw [hnx]
  exact gF
end

/-! ### Guards -/
noncomputable def zgd {ρ : Type} (dg : D) (want : Bool) (on : Option ρ) (off : Option ρ) : Option ρ := match dg with
  | .v (.bool b) => Bool.rec (motive := fun _ => Option ρ) (Bool.rec (motive := fun _ => Option ρ) on off want) (Bool.rec (motive := fun _ => Option ρ) off on want) b
  | .v (.tuple _) => off
  | _ => none
theorem zgd_inv {ρ : Type} {dg : D} {want : Bool} {on off : Option ρ} {r : ρ} (h : zgd dg want on off = some r) : ∃ v, dg = .v v ∧ ((gB dg want = true ∧ on = some r) ∨ (gB dg want = false ∧ off = some r)) := by
  unfold zgd at h
  split at h
  · rename_i b
    refine ⟨_, rfl, ?_⟩
    cases b <;> cases want
    · exact .inl ⟨rfl, h⟩
    · exact .inr ⟨rfl, h⟩
    · exact .inr ⟨rfl, h⟩
    · exact .inl ⟨rfl, h⟩
  · exact ⟨_, rfl, .inr ⟨rfl, h⟩⟩
  · cases h

noncomputable def findC (f : FuncId) (C : List (FuncId × Sem)) : Option Sem := List.rec (motive := fun _ => Option Sem) none (fun p _ ih => Bool.rec (motive := fun _ => Option Sem) ih (some p.2) (Nat.beq p.1 f)) C
def CallsOk (P : Program) (C : List (FuncId × Sem)) : Prop := ∀ p ∈ C, (HasFn P p.1 ∧ FnOk P p.1 p.2) ∨ XOk P p.1 p.2
theorem findC_ok {P : Program} {f : FuncId} {F : Sem} : ∀ {C : List (FuncId × Sem)}, CallsOk P C → findC f C = some F → (HasFn P f ∧ FnOk P f F) ∨ XOk P f F
  | [], _, h => by cases h
  | (g, G) :: l, hC, h => by
    have h' : (Bool.rec (motive := fun _ => Option Sem) (findC f l) (some G) (Nat.beq g f) : Option Sem) = some F := h
    cases he : Nat.beq g f with
    | true =>
      rw [he] at h'
      simp only [Option.some.injEq] at h'
      subst h'
      have := Nat.eq_of_beq_eq_true he
      subst this
      exact hC (g, G) (by simp)
    | false =>
      rw [he] at h'
      exact findC_ok (fun p hp => hC p (by simp [hp])) h'
noncomputable def callK {ρ : Type} (C : List (FuncId × Sem)) (cx : Operand) (xs : List Operand) (sl : List (Nat × D)) (T : ST) (nx lo : Nat) (k : KO ρ) : Option ρ :=
  Option.rec (motive := fun _ => Option ρ) none (fun dc => D.rec (motive_1 := fun _ => Option ρ) (motive_2 := fun _ => Unit) (motive_3 := fun _ => Unit) (fun _ => none) none (fun _ _ => none) (fun _ _ => none) (fun _ _ _ => none) (fun _ _ _ => none) none (fun _ _ _ _ => none) (fun _ _ => none) (fun _ _ _ _ => none)
    (fun f caps _ => Option.rec (motive := fun _ => Option ρ) none (fun ds => Option.rec (motive := fun _ => Option ρ) none (fun F => bndR (F (ds ++ caps) T nx) fun d T nx l => fN (lowN lo l) fun lo => k [] [] d T nx lo) (findC f C)) (evlL sl xs)) () (fun _ _ _ _ => ()) () (fun _ _ _ _ => ()) dc) (evl sl cx)
theorem callK_inv {ρ : Type} {C : List (FuncId × Sem)} {cx : Operand} {xs : List Operand} {s : AS} {T : ST} {nx lo : Nat} {k : KO ρ} {r : ρ} (h : callK C cx xs s.sl T nx lo k = some r) :
    ∃ f caps ds F rt, evx s cx = some (.clo f caps) ∧ evs s xs = some ds ∧ findC f C = some F ∧ F (ds ++ caps) T nx = some rt ∧ k [] [] rt.d rt.T rt.nx (lowN lo rt.lo) = some r := by
  unfold callK at h
  obtain ⟨dc, h1, h⟩ := orec h
  cases dc <;> first | (cases h; done) | skip
  rename_i f caps
  obtain ⟨ds, h2, h⟩ := orec h
  obtain ⟨F, h3, h⟩ := orec h
  obtain ⟨rt, h4, h⟩ := bndR_inv h
  rw [fN_eq] at h
  rw [evl_eq] at h1
  rw [evlL_eq] at h2
  exact ⟨f, caps, ds, F, rt, h1, h2, h3, h4, h⟩

/-- One operation in the text's order. -/
noncomputable def opS {ρ : Type} (P : Program) (C : List (FuncId × Sem)) (o : Oper) (sl : List (Nat × D)) (T : ST) (nx lo : Nat) (k : KO ρ) : Option ρ := match o.op with
  | .call c => match c.callee with
    | .value cx => callK C cx c.args.toList sl T nx lo k
    | _ => opK P o sl T nx lo k
  | _ => opK P o sl T nx lo k
noncomputable def opG {ρ : Type} (P : Program) (C : List (FuncId × Sem)) (ops : Array Oper) (o : Oper) (N : Nat) (sl : List (Nat × D)) (T : ST) (nx lo : Nat) (k : KO ρ) : Option ρ :=
  Bool.rec (motive := fun _ => Option ρ) none
  (match o.guard with
  | none => opS P C o sl T nx lo k
  | some (j, want) => Option.rec (motive := fun _ => Option ρ) none (fun t => Option.rec (motive := fun _ => Option ρ) none (fun dg => Bool.rec (motive := fun _ => Option ρ) none
      (gjn (fun k => zgd dg want (opS P C o sl T nx lo k) (k [] [] (.v undef) T nx lo)) k) (Nat.blt t N)) (find t sl)) ((ops[j]?).bind (·.dst)))
  (Option.rec (motive := fun _ => Bool) true (fun t => Nat.blt t N) o.dst)
where
  /-- Where both ways of a guard go on. -/
  gjn {ρ : Type} (b : KO ρ → Option ρ) (k : KO ρ) : Option ρ := b k

section
variable {P : Program} {ops : Array Oper} {o : Oper} {s : AS} {T : ST} {nx lo : Nat}
/-- What is told of one operation. -/
def SOk (P : Program) (ops : Array Oper) (o : Oper) (s : AS) (lo : Nat) {ρ : Type} (k : KO ρ) (r : ρ) : Prop :=
  SStep P ops o s fun s' => ∃ f sn d T' nx' lo', Aft o.dst d s.sl s.N T' nx' lo' s s' ∧ lo' ≤ lo ∧ k f sn d T' nx' lo' = some r

theorem Step.aft {f sn : List Nat} {d : D} {T' : ST} {nx' lo' : Nat} (hS : SR T nx s) (hlo : lo ≤ nx) (h : Step P ops o s nx lo f sn d T' nx' lo') : ∃ sets m, Core P o s f ⟨d, sets, upto nx m⟩ ∧ Aft o.dst d s.sl s.N T' nx' lo' s (Eff.app ⟨d, sets, upto nx m⟩ o.dst s) := by
  obtain ⟨sets, m, h1, h2, h3, h4⟩ := h.loc
  refine ⟨sets, m, h1, rfl, rfl, h4, fun q hq => ?_⟩
  rw [obj_app]
  have : find q sets = none := by
    cases hf : find q sets with
    | none => rfl
    | some x =>
      have hm : q ∈ sets.map (·.1) := find_isSome.1 (by rw [hf]; rfl)
      have h5 := h.lo1
      have := h.lo2 q (by rw [h2]; exact hm) (by omega)
      omega
  rw [this]

theorem opS_ok {ρ : Type} {C : List (FuncId × Sem)} (hC : CallsOk P C) (hS : SR T nx s) (hlo : lo ≤ nx) (hN : ∀ t, o.dst = some t → t < s.N) {k : KO ρ} {r : ρ} (h : opS P C o s.sl T nx lo k = some r) :
    (∃ f sn d T' nx' lo' sets m, Core P o s f ⟨d, sets, upto nx m⟩ ∧ Aft o.dst d s.sl s.N T' nx' lo' s (Eff.app ⟨d, sets, upto nx m⟩ o.dst s) ∧ lo' ≤ lo ∧ k f sn d T' nx' lo' = some r) ∨
    ∃ f caps ds F rt cx xs ats, o.op = .call { callee := .value cx, args := xs, argTypes := ats } ∧ evx s cx = some (.clo f caps) ∧ evs s xs.toList = some ds ∧ HasFn P f ∧ FnOk P f F ∧ F (ds ++ caps) T nx = some rt ∧ k [] [] rt.d rt.T rt.nx (lowN lo rt.lo) = some r := by
  have base : opK P o s.sl T nx lo k = some r → (∃ f sn d T' nx' lo' sets m, Core P o s f ⟨d, sets, upto nx m⟩ ∧ Aft o.dst d s.sl s.N T' nx' lo' s (Eff.app ⟨d, sets, upto nx m⟩ o.dst s) ∧ lo' ≤ lo ∧ k f sn d T' nx' lo' = some r) := by
    intro h
    obtain ⟨f, sn, d, T', nx', lo', h1, _, _, h2⟩ := opK_ok (ops := #[]) hS h
    obtain ⟨sets, m, g1, g2⟩ := h1.aft hS hlo
    exact ⟨f, sn, d, T', nx', lo', sets, m, g1, g2, h1.lo1, h2⟩
  unfold opS at h
  split at h
  · rename_i c ho
    split at h
    · rename_i cx hc
      obtain ⟨f, caps, ds, F, rt, h1, h2, h3, h4, h5⟩ := callK_inv h
      obtain ⟨cl, xs, ats⟩ := c
      simp only at hc
      subst hc
      rcases findC_ok hC h3 with ⟨g1, g2⟩ | g1
      case inr =>
        obtain ⟨vs, z, q1, rfl, q3⟩ := g1 _ _ _ _ h4
        have hcr := core_ext ho h1 h2 q1 q3
        have hlw : lowN lo nx = lo := lowN_of_le hlo
        simp only [hlw] at h5
        exact .inl ⟨[], [], _, _, _, lo, [], 0, hcr, ⟨rfl, rfl, hS.app0 _ _, fun q _ => by rw [obj_app]; rfl⟩, Nat.le_refl _, h5⟩
      exact .inr ⟨f, caps, ds, F, rt, cx, xs, ats, ho, h1, h2, g1, g2, h4, h5⟩
    · exact .inl (base h)
  · exact .inl (base h)

theorem SOk.core {ρ : Type} {k : KO ρ} {r : ρ} (hS : SR T nx s) (hN : ∀ t, o.dst = some t → t < s.N) {f sn : List Nat} {d : D} {T' : ST} {nx' lo' m : Nat} {sets : List (Nat × Option Obj)} (hl : Loc P ops o s f ⟨d, sets, upto nx m⟩)
    (ha : Aft o.dst d s.sl s.N T' nx' lo' s (Eff.app ⟨d, sets, upto nx m⟩ o.dst s)) (hlo : lo' ≤ lo) (hk : k f sn d T' nx' lo' = some r) : SOk P ops o s lo k r :=
  SStep.loc hN (fun q hq => by rw [hS.nxt]; exact (mem_upto.1 hq).1) hl ⟨f, sn, d, T', nx', lo', ha, hlo, hk⟩

theorem opG_ok {ρ : Type} {C : List (FuncId × Sem)} (hC : CallsOk P C) (hS : SR T nx s) (hlo : lo ≤ nx) {k : KO ρ} {r : ρ} (h : opG P C ops o s.N s.sl T nx lo k = some r) : SOk P ops o s lo k r := by
  unfold opG at h
  obtain ⟨hn, h⟩ := brec h
  have hN : ∀ t, o.dst = some t → t < s.N := by
    intro t ht
    rw [ht] at hn
    exact blt_lt hn
  split at h
  · rename_i hg
    rcases opS_ok hC hS hlo hN h with ⟨f, sn, d, T', nx', lo', sets, m, h1, h2, h3, h4⟩ | ⟨f, caps, ds, F, rt, cx, xs, ats, h1, h2, h3, h4, h5, h6, h7⟩
    · exact SOk.core hS hN (Loc.plain hg h1) h2 h3 h4
    · refine (SStep.call hS hN hg h4 h5 h1 h2 h3 h6).mono fun s' ha => ⟨[], [], rt.d, rt.T, rt.nx, lowN lo rt.lo, ⟨ha.1, ha.2.1, ha.2.2.1, fun q hq => ha.2.2.2 q (by have := (lowN_le lo rt.lo).2; omega)⟩, (lowN_le lo rt.lo).1, h7⟩
  · rename_i j want hg
    obtain ⟨t, ht, h⟩ := orec h
    obtain ⟨dg, hd, h⟩ := orec h
    obtain ⟨htN, h⟩ := brec h
    have htN := blt_lt htN
    have hd' : s.slot t = some dg := hd
    unfold opG.gjn at h
    obtain ⟨v, rfl, ⟨hb, hon⟩ | ⟨hb, hoff⟩⟩ := zgd_inv h
    · rcases opS_ok hC hS hlo hN hon with ⟨f, sn, d, T', nx', lo', sets, m, h1, h2, h3, h4⟩ | ⟨f, caps, ds, F, rt, cx, xs, ats, h1, h2, h3, h4, h5, h6, h7⟩
      · exact SOk.core hS hN (Loc.on hg ht hd' (.v v) hb h1) h2 h3 h4
      · -- a guarded call that is made
        intro M0 β w a hI K Qx hK
        rw [guard_spec hI hg ht hd' (.v v) htN, hb, if_pos rfl]
        have hcall := SStep.call (o := { o with guard := none }) (ops := ops) hS hN rfl h4 h5 h1 h2 h3 h6 M0 β w a hI K Qx fun s' β' w' a' ha => hK s' β' w' a' ⟨[], [], rt.d, rt.T, rt.nx, lowN lo rt.lo, ⟨ha.1, ha.2.1, ha.2.2.1, fun q hq => ha.2.2.2 q (by have := (lowN_le lo rt.lo).2; omega)⟩, (lowN_le lo rt.lo).1, h7⟩
        rw [if_pos (by simp [Region.wanted])] at hcall
        exact hcall
    · have hl : Loc P ops o s [] ⟨.v undef, [], upto nx 0⟩ := by
        have := Loc.guard (P := P) (o := o) (s := s) (ops := ops) (foot := []) (d := .v undef) hg ht hd' (.v v) htN hb (fun h => by cases h)
        exact this
      exact SOk.core (f := []) (sn := []) hS hN hl ⟨rfl, rfl, hS.app0 _ _, fun q _ => by rw [obj_app]; rfl⟩ (Nat.le_refl _) hoff
end
end Go.Abs
