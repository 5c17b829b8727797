/- Running code over abstract data, part 9: one operation, guarded or not. -/
import Derived.Test.YtmmfmiamkgmikaaGreatE8
set_option linter.unusedVariables false
set_option linter.unusedSimpArgs false
namespace Go.Abs

/-- What follows an operation: what it looks at, what it writes, its datum, the store, the next name, what is untouched. -/
@[reducible] def KO (ρ : Type) := List Nat → List Nat → D → ST → Nat → Nat → Option ρ

noncomputable def evlL (sl : List (Nat × D)) : List Operand → Option (List D)
  | [] => some []
  | x :: xs => match evl sl x, evlL sl xs with
    | some d, some ds => some (d :: ds)
    | _, _ => none
theorem evlL_eq (s : AS) : ∀ xs, evlL s.sl xs = evs s xs
  | [] => rfl
  | x :: xs => by
    simp only [evlL, evs, evl_eq, evlL_eq s xs]
    rfl

/-- The builtin functions. -/
noncomputable def biK {ρ : Type} (P : Program) (b : Builtin) (xs : List Operand) (ats : List TypeId) (sl : List (Nat × D)) (T : ST) (nx lo : Nat) (k : KO ρ) : Option ρ := match b, xs, ats with
  | .len, [x], [t] => Option.rec (motive := fun _ => Option ρ) none (fun d => Option.rec (motive := fun _ => Option ρ) none (fun b => bnd (zlen b d) fun e => k [] [] e T nx lo) (lnI P t)) (evl sl x)
  | .append, [x, y], [t, t'] => Option.rec (motive := fun _ => Option ρ) none (fun dx => Option.rec (motive := fun _ => Option ρ) none (fun dy => Option.rec (motive := fun _ => Option ρ) none (fun p => Option.rec (motive := fun _ => Option ρ) none (fun z => Option.rec (motive := fun _ => Option ρ) none (fun bytes =>
      Bool.rec (motive := fun _ => Option ρ) none (zappend p.1 p.2 bytes T nx lo dx dy fun f sn d T' lo' => fN (Nat.succ nx) fun nx' => fN lo' fun lo' => k f sn d T' nx' lo') (Nat.beq t t' && Nat.beq z.length p.2 && Nat.blt 0 p.2)) ((P.info? p.1).map (·.bytes))) (zeroT P p.1)) (slI P t)) (evl sl y)) (evl sl x)
  | .copy, [x, y], [t, t'] => Option.rec (motive := fun _ => Option ρ) none (fun dx => Option.rec (motive := fun _ => Option ρ) none (fun dy => Option.rec (motive := fun _ => Option ρ) none (fun p => Bool.rec (motive := fun _ => Option ρ) none
      (zcopy T lo dx dy fun r f d T' lo' => fN lo' fun lo' => k f [r] d T' nx lo') (Nat.beq p.2 1)) (slI P t)) (evl sl y)) (evl sl x)
  | .max, x :: y :: l, _ => Option.rec (motive := fun _ => Option ρ) none (fun dx => Option.rec (motive := fun _ => Option ρ) none (fun ds => bnd (zmaxI true dx ds) fun e => k [] [] e T nx lo) (evlL sl (y :: l))) (evl sl x)
  | .min, x :: y :: l, _ => Option.rec (motive := fun _ => Option ρ) none (fun dx => Option.rec (motive := fun _ => Option ρ) none (fun ds => bnd (zmaxI false dx ds) fun e => k [] [] e T nx lo) (evlL sl (y :: l))) (evl sl x)
  | .clear, [x], [t] => Option.rec (motive := fun _ => Option ρ) none (fun dx => Option.rec (motive := fun _ => Option ρ) none (fun p => Option.rec (motive := fun _ => Option ρ) none (fun z => Bool.rec (motive := fun _ => Option ρ) none
      (zclear z T lo dx fun r T' => fN (lowN lo r) fun lo' => k [r] [r] (.tup []) T' nx lo') (Nat.beq p.2 1 && Nat.beq z.length 1)) (zeroT P p.1)) (slI P t)) (evl sl x)
  | .real, [x], _ => Option.rec (motive := fun _ => Option ρ) none (fun d => bnd (zre d) fun e => k [] [] e T nx lo) (evl sl x)
  | .imag, [x], _ => Option.rec (motive := fun _ => Option ρ) none (fun d => bnd (zim d) fun e => k [] [] e T nx lo) (evl sl x)
  | .complex, [x, y], _ => Option.rec (motive := fun _ => Option ρ) none (fun dx => Option.rec (motive := fun _ => Option ρ) none (fun dy => bnd (zcx dx dy) fun e => k [] [] e T nx lo) (evl sl y)) (evl sl x)
  | _, _, _ => none
where
  zclear {ρ : Type} (z : List Value) (T : ST) (lo : Nat) (dx : D) (k : Nat → ST → Option ρ) : Option ρ := match dx with
    | .vw r es st (.succ n) => bB (Nat.beq es 1) (bnd (xobj T r) fun x => bnd (nthD (z.map zD) 0) fun d => bnd (putX x (List.replicate (.succ n) d) st) fun x' => k r (T.set (some x') r))
    | _ => none
  zre (d : D) : Option D := match d with
    | .v (.complex k a _) => some (.v (.float k a))
    | _ => none
  zim (d : D) : Option D := match d with
    | .v (.complex k _ b) => some (.v (.float k b))
    | _ => none
  zcx (a b : D) : Option D := match a, b with
    | .v (.float .f64 a), .v (.float .f64 b) => some (.v (.complex .f64 a b))
    | _, _ => none
  zcopy {ρ : Type} (T : ST) (lo : Nat) (dx dy : D) (k : Nat → List Nat → D → ST → Nat → Option ρ) : Option ρ := match dx with
    | .vw r es st n => bnd (zsrc T 1 dy) fun rows => bnd (xobj T r) fun x => bB (Nat.beq es 1) (bnd (heads (rows.take n)) fun ds => bnd (putX x ds st) fun x' => fN ds.length fun m => k r (r :: names dy) (.v (.int .i64 (.ofNat m))) (T.set (some x') r) (lowN lo r))
    | _ => none
  heads : List (List D) → Option (List D)
    | [] => some []
    | [d] :: l => match heads l with
      | some ds => some (d :: ds)
      | none => none
    | _ => none
  zmaxI (mx : Bool) (d : D) (ds : List D) : Option D := match d with
    | .v (.int k z) => zmax mx (.v (.int k z)) ds
    | _ => none

noncomputable def opK {ρ : Type} (P : Program) (o : Oper) (sl : List (Nat × D)) (T : ST) (nx lo : Nat) (k : KO ρ) : Option ρ := match o.op with
  | .move x => Option.rec (motive := fun _ => Option ρ) none (fun d => k [] [] d T nx lo) (evl sl x)
  | .assign x => Option.rec (motive := fun _ => Option ρ) none (fun d => k [] [] d T nx lo) (evl sl x)
  | .pick c x y => Option.rec (motive := fun _ => Option ρ) none (fun dc => Option.rec (motive := fun _ => Option ρ) none (fun dx => Option.rec (motive := fun _ => Option ρ) none (fun dy => bnd (zpick dc dx dy) fun e => k [] [] e T nx lo) (evl sl y)) (evl sl x)) (evl sl c)
  | .extract x i => Option.rec (motive := fun _ => Option ρ) none (fun d => bnd (zextract d i) fun e => k [] [] e T nx lo) (evl sl x)
  | .binOp op t x y _ => Option.rec (motive := fun _ => Option ρ) none (fun dx => Option.rec (motive := fun _ => Option ρ) none (fun dy => bnd (zbin (binI P op t) op dx dy) fun e => k [] [] e T nx lo) (evl sl y)) (evl sl x)
  | .unOp op _ x => Option.rec (motive := fun _ => Option ρ) none (fun d => bnd (zun op d) fun e => k [] [] e T nx lo) (evl sl x)
  | .convert src dst x => Option.rec (motive := fun _ => Option ρ) none (fun d => Option.rec (motive := fun _ => Option ρ) none (fun ik => bnd (zconv ik d) fun e => k [] [] e T nx lo) (cvI P src dst)) (evl sl x)
  | .nilCheck x => Option.rec (motive := fun _ => Option ρ) none (fun d => bnd (znil d) fun e => k [] [] e T nx lo) (evl sl x)
  | .fieldAddr S x f => Option.rec (motive := fun _ => Option ρ) none (fun d => Option.rec (motive := fun _ => Option ρ) none (fun p => bnd (zfieldAddr p.1 d) fun e => k [] [] e T nx lo) (fdI P S f)) (evl sl x)
  | .field S x f => Option.rec (motive := fun _ => Option ρ) none (fun d => Option.rec (motive := fun _ => Option ρ) none (fun p => Option.rec (motive := fun _ => Option ρ) none (fun ag => bnd (zfield p.1 ag d) fun e => k [] [] e T nx lo) (ldI P p.2)) (fdI P S f)) (evl sl x)
  | .indexAddr t x y => Option.rec (motive := fun _ => Option ρ) none (fun dx => Option.rec (motive := fun _ => Option ρ) none (fun dy => Option.rec (motive := fun _ => Option ρ) none (fun xi => bnd (zindexAddr xi dx dy) fun e => k [] [] e T nx lo) (ixI P t)) (evl sl y)) (evl sl x)
  | .index t x y => Option.rec (motive := fun _ => Option ρ) none (fun dx => Option.rec (motive := fun _ => Option ρ) none (fun dy => Option.rec (motive := fun _ => Option ρ) none (fun yi => bnd (zindex yi dx dy) fun e => k [] [] e T nx lo) (iyI P t)) (evl sl y)) (evl sl x)
  | .build t parts => Option.rec (motive := fun _ => Option ρ) none (fun ds => Option.rec (motive := fun _ => Option ρ) none (fun p => bnd (zbuild p.1 p.2 (parts.toList.map (·.1)) ds) fun e => k [] [] e T nx lo) (bdI P t)) (evlL sl (parts.toList.map (·.2)))
  | .makeFunc fn first xs => match fn with
    | .func f => Bool.rec (motive := fun _ => Option ρ) none (Option.rec (motive := fun _ => Option ρ) none (fun ds => k [] [] (.clo f ds) T nx lo) (evlL sl xs.toList)) (Nat.beq first.size 0)
    | _ => none
  | .load t x => Option.rec (motive := fun _ => Option ρ) none (fun d => Option.rec (motive := fun _ => Option ρ) none (fun ag => bnd (zload ag T d) fun e => k (ptr? d) [] e T nx lo) (ldI P t)) (evl sl x)
  | .store t x y => Option.rec (motive := fun _ => Option ρ) none (fun dx => Option.rec (motive := fun _ => Option ρ) none (fun dy => Option.rec (motive := fun _ => Option ρ) none (fun n => zstore n T dx dy fun r T' => fN (lowN lo r) fun lo' => k [r] [r] .un T' nx lo') (szI P t)) (evl sl y)) (evl sl x)
  | .alloc t => Option.rec (motive := fun _ => Option ρ) none (fun z => fN (Nat.succ nx) fun nx' => k [] [nx] (.ptr nx z.length 0 0) (T.set (some (xRow t (z.map zD))) nx) nx' lo) (zeroT P t)
  | .box t x => Option.rec (motive := fun _ => Option ρ) none (fun d => bB (solidB d) (fN (Nat.succ nx) fun nx' => fN (dcells d).length fun es => k [] [nx] (.ptr nx es 0 0) (T.set (some (xRow t (dcells d))) nx) nx' lo)) (evl sl x)
  | .buildSlice t len parts => Option.rec (motive := fun _ => Option ρ) none (fun xs => Option.rec (motive := fun _ => Option ρ) none (fun ds => Option.rec (motive := fun _ => Option ρ) none (fun p => Option.rec (motive := fun _ => Option ρ) none (fun z =>
      Bool.rec (motive := fun _ => Option ρ) none (bB (solidL p.2 ds) (fN (Nat.succ nx) fun nx' => k [] [nx] (.vw nx p.2 0 ds.length) (T.set (some (xRows p.1 p.2 (ds.map dcells))) nx) nx' lo)) (Nat.beq xs.length len && Nat.beq z.length p.2 && Nat.blt 0 p.2 && Nat.ble (xs.length * p.2) 16777216)) (zeroT P p.1)) (slI P t)) (evlL sl xs)) (inOrder 0 parts.toList)
  | .makeSlice t x y => Option.rec (motive := fun _ => Option ρ) none (fun dx => Option.rec (motive := fun _ => Option ρ) none (fun dy => Option.rec (motive := fun _ => Option ρ) none (fun p => Option.rec (motive := fun _ => Option ρ) none (fun z => Option.rec (motive := fun _ => Option ρ) none (fun bytes =>
      Bool.rec (motive := fun _ => Option ρ) none (zmakeSlice p.1 p.2 bytes z T nx dx dy fun d T' => fN (Nat.succ nx) fun nx' => k [] [nx] d T' nx' lo) (Nat.beq z.length p.2 && Nat.blt 0 p.2)) ((P.info? p.1).map (·.bytes))) (zeroT P p.1)) (slI P t)) (evl sl y)) (evl sl x)
  | .slice t x xl xh mx => match mx with
    | none => Option.rec (motive := fun _ => Option ρ) none (fun d => Option.rec (motive := fun _ => Option ρ) none (fun bl => Option.rec (motive := fun _ => Option ρ) none (fun bh => Option.rec (motive := fun _ => Option ρ) none (fun si => zslice si T d bl bh fun f e => k f [] e T nx lo) (siI P t)) (evo sl xh)) (evo sl xl)) (evl sl x)
    | some _ => none
  | .call c => match c.callee with
    | .builtin b => biK P b c.args.toList c.argTypes.toList sl T nx lo k
    | _ => none
  | _ => none

/-- May it look at, write, objects? -/
def mayF : Op → Bool
  | .load _ _ | .store _ _ _ => true
  | .slice _ _ _ _ _ => true
  | .call c => match c.callee with
    | .builtin .len | .builtin .max | .builtin .min => false
    | _ => true
  | _ => false
def mayS : Op → Bool
  | .store _ _ _ | .alloc _ | .box _ _ | .buildSlice _ _ _ | .makeSlice _ _ _ => true
  | .call c => match c.callee with
    | .builtin .len | .builtin .max | .builtin .min => false
    | _ => true
  | _ => false

theorem orec {α ρ : Type} {o : Option α} {k : α → Option ρ} {r : ρ} (h : (Option.rec (motive := fun _ => Option ρ) none k o : Option ρ) = some r) : ∃ x, o = some x ∧ k x = some r := by
  cases o with
  | none => cases h
  | some x => exact ⟨x, rfl, h⟩
theorem brec {ρ : Type} {b : Bool} {k : Option ρ} {r : ρ} (h : (Bool.rec (motive := fun _ => Option ρ) none k b : Option ρ) = some r) : b = true ∧ k = some r := by
  cases b with
  | false => cases h
  | true => exact ⟨rfl, h⟩

section
variable {P : Program} {ops : Array Oper} {o : Oper} {s : AS} {T : ST} {nx lo : Nat}
/-- What is told of an operation. -/
def OpOk (P : Program) (ops : Array Oper) (o : Oper) (s : AS) (nx lo : Nat) {ρ : Type} (k : KO ρ) (r : ρ) : Prop :=
  ∃ f sn d T' nx' lo', Step P ops o s nx lo f sn d T' nx' lo' ∧ (mayF o.op = false → f = []) ∧ (mayS o.op = false → sn = [] ∧ nx' = nx) ∧ k f sn d T' nx' lo' = some r
theorem OpOk.pure {ρ : Type} {k : KO ρ} {r : ρ} (hS : SR T nx s) {d : D} (hc : Core P o s [] ⟨d, [], []⟩) (h : k [] [] d T nx lo = some r) : OpOk P ops o s nx lo k r :=
  ⟨[], [], d, T, nx, lo, Step.pure hS hc, fun _ => rfl, fun _ => ⟨rfl, rfl⟩, h⟩

theorem heads_ok : ∀ {rows : List (List D)} {ds : List D}, biK.heads rows = some ds → rows = ds.map fun d => [d]
  | [], ds, h => by simp only [biK.heads, Option.some.injEq] at h; subst h; rfl
  | [d] :: l, ds, h => by
    simp only [biK.heads] at h
    cases h1 : biK.heads l with
    | none => rw [h1] at h; cases h
    | some m =>
      rw [h1] at h
      simp only [Option.some.injEq] at h
      subst h
      rw [heads_ok h1]
      rfl
  | [] :: l, ds, h => by cases h
  | (_ :: _ :: _) :: l, ds, h => by cases h

theorem run_clear_row (w : World) (t ty elem : TypeId) (g o n c : Nat) (cur : Array Value) (et : TypeId) (zv : Value) (z0 : Value) (hu : P.underlying t = some (.slice elem)) (hz : ∀ w, (zeroValue elem).run P w = .ok zv w) (hzc : zv.cells = #[z0])
    (hg : w.heap[g]? = some (.cells cur et (0, 0))) (hn : 0 < n) (hfit : o + n ≤ cur.size) (h1 : z0.oneCell' = true) :
    (Builtin.clear_ #[t] ty #[.slice (some ⟨g, o, none⟩) n c]).run P w = .ok (.tuple #[]) (w.setRow g (cur.toList.take o ++ List.replicate n z0 ++ cur.toList.drop (o + n)).toArray) := by
  have hst := run_storeCells_at P g o et (List.replicate n z0) 0 cur w hg (by simpa using hfit) (fun v hv => by rw [List.eq_of_mem_replicate hv]; exact h1)
  have hzz : (Builtin.zeroCells #[z0] n).toList = List.replicate n z0 := by
    apply List.ext_getElem
    · simp [Builtin.zeroCells]
    · intro i h2 h3
      simp [Builtin.zeroCells, Nat.mod_one]
  obtain ⟨m, rfl⟩ : ∃ m, n = m + 1 := ⟨n - 1, by omega⟩
  simp [Builtin.clear_, run_underlying hu, hz, hzc, hzz, hst]
theorem core_clear {t e : TypeId} [hs : Slc P t e 1] {z0 : Value} [hZ : ZeroV P e [z0]] {x : Operand} {r lo n : Nat} {o1 : Obj} (ho : o.op = .call { callee := .builtin .clear, args := #[x], argTypes := #[t] }) (hx : evx s x = some (.vw r 1 lo n))
    (hr : s.obj r = some o1) (hn : 0 < n) (hin : ShapeOk o1 → ∀ i, i < n → (flat o1 (lo + i)).isSome = true) :
    Core P o s [r] ⟨.tup [], [(r, some (putF o1 lo (List.replicate n (zD z0))))], []⟩ :=
  Core.gen fun s2 h1 h2 M0 A β w a _ hI => by
    have e1 := evx_rep hI ((h1 x (by simp [ho, Op.operands, Call.operands])).trans hx)
    have hr2 : s2.obj r = some o1 := (h2 r (by simp)).trans hr
    have hin := hin (hI.objs r o1 hr2).1
    have hrunE : (execOp a.eval o).run P w = ((Builtin.clear_ #[t] o.type #[a.eval x]).run P w).andThen fun v w => .ok (.value v) w := by
      simp [execOp, ho, resolve, invoke, builtin]
    let ds := List.replicate n (zD z0)
    have hobf : (fun k => (find k ([(r, some (putF o1 lo ds))] ++ s2.st)).join) = fun k => if r = k then some (putF o1 lo ds) else s2.obj k := by
      funext k
      simp only [List.cons_append, List.nil_append, find_cons]
      split <;> rfl
    obtain ⟨zv, hz, hzc⟩ : ∃ zv : Value, (∀ w, (zeroValue e).run P w = .ok zv w) ∧ zv.cells = #[z0] := by
      have := hZ.zero
      cases hi : P.info? e with
      | none => rw [hi] at this; cases this
      | some i =>
        rw [hi] at this
        cases hzz : i.zero with
        | none => simp [hzz] at this
        | some v =>
          simp [hzz] at this
          refine ⟨v, fun w => ?_, by apply Array.toList_inj.1; exact this⟩
          simp [zeroValue, typeInfo, hi, hzz]
    have hz1 : z0.oneCell' = true := by have := hZ.one; simpa using this
    rcases e1.1.vw_inv with ⟨b, c, cs0, e', hb, hxv, hnc, hm, hh0, hc⟩ | ⟨_, _, h0, _⟩
    · obtain ⟨cs, val, hh, hsz, hv⟩ := hI.block1 hr2 hb
      have hlast : lo + n ≤ cs.size := by
        have hsome := hin (n - 1) (by omega)
        obtain ⟨d, hd⟩ := Option.isSome_iff_exists.1 hsome
        obtain ⟨row', p1, p2⟩ := flat_rows hd
        obtain ⟨v1, _⟩ := hv _ row' _ d p1 p2
        have hk2 : (lo + (n - 1)) / o1.es * o1.es + (lo + (n - 1)) % o1.es = lo + (n - 1) := by rw [Nat.mul_comm]; exact Nat.div_add_mod _ _
        rw [hk2] at v1
        have := (Array.getElem?_eq_some_iff.1 v1).1
        omega
      rw [Nat.mul_one] at hxv
      have hrun := run_clear_row (P := P) w t o.type e b lo n c cs o1.elem zv z0 hs.slc hz hzc hh hn hlast hz1
      have hvl : (List.replicate n z0).length = ds.length := by simp [ds]
      obtain ⟨g1, g2⟩ := hI.toIvS.setFlat (ob' := fun k => if r = k then some (putF o1 lo ds) else s2.obj k) hr2 hb hh hsz hv hvl (fun i hi => hin i (by simpa [ds] using hi)) (fun i d v hd hv' => by
        have hd' := List.mem_of_getElem? hd
        have hv'' := List.mem_of_getElem? hv'
        rw [List.eq_of_mem_replicate hd', List.eq_of_mem_replicate hv'']
        exact ⟨hz1, .base (zD_rep _), zD_refs _⟩) (fun k => rfl) (by simpa using hlast)
      simp only [List.length_replicate] at g1 g2
      refine ⟨.tuple #[], w.setRow b (cs.toList.take lo ++ List.replicate n z0 ++ cs.toList.drop (lo + n)).toArray, β, .inl (by rw [hrunE, hxv, hrun]; rfl), rfl, rfl, rfl, ?_, ?_, .base (.tup [] #[] rfl (fun i d y h => by simp at h)), .tup [] (by simp)⟩
      · show IvS _ _ _ (fun k => (find k ([(r, some (putF o1 lo ds))] ++ s2.st)).join) _
        rw [hobf]
        exact g1.names_mono fun r hr => Or.inl hr
      · show KeepB _ _ (Own β fun k => (find k ([(r, some (putF o1 lo ds))] ++ s2.st)).join) _ _ _ _
        rw [hobf]
        exact g2
    · omega
theorem core_bi1 {b : Builtin} {x : Operand} {ats : Array TypeId} {X Z : Value} (ho : o.op = .call { callee := .builtin b, args := #[x], argTypes := ats }) (hx : evx s x = some (.v X))
    (hr : ∀ cs w, (builtin b ats o.type cs #[X] : Sem Next).run P w = .ok (.value Z) w) : Core P o s [] ⟨.v Z, [], []⟩ :=
  Core.value fun s2 h1 _ M0 A β w a hI => by
    have e1 := (evx_rep hI ((h1 x (by simp [ho, Op.operands, Call.operands])).trans hx)).1.one
    refine ⟨Z, ?_, .base (.v _), .v _⟩
    simp [execOp, ho, resolve, invoke, e1, hr]
theorem core_bi2 {b : Builtin} {x y : Operand} {ats : Array TypeId} {X Y Z : Value} (ho : o.op = .call { callee := .builtin b, args := #[x, y], argTypes := ats }) (hx : evx s x = some (.v X)) (hy : evx s y = some (.v Y))
    (hr : ∀ cs w, (builtin b ats o.type cs #[X, Y] : Sem Next).run P w = .ok (.value Z) w) : Core P o s [] ⟨.v Z, [], []⟩ :=
  Core.value fun s2 h1 _ M0 A β w a hI => by
    have e1 := (evx_rep hI ((h1 x (by simp [ho, Op.operands, Call.operands])).trans hx)).1.one
    have e2 := (evx_rep hI ((h1 y (by simp [ho, Op.operands, Call.operands])).trans hy)).1.one
    refine ⟨Z, ?_, .base (.v _), .v _⟩
    simp [execOp, ho, resolve, invoke, e1, e2, hr]
theorem biK_ok {ρ : Type} (hS : SR T nx s) {c : Call} {b : Builtin} {k : KO ρ} {r : ρ} (ho : o.op = .call c) (hc : c.callee = .builtin b) (h : biK P b c.args.toList c.argTypes.toList s.sl T nx lo k = some r) : OpOk P ops o s nx lo k r := by
  obtain ⟨cl, xs, ats⟩ := c
  simp only at hc h
  subst hc
  have arr : ∀ {α : Type} {a : Array α} {l : List α}, a.toList = l → a = l.toArray := fun h => by rw [← h]
  unfold biK at h
  split at h
  · rename_i x t hx ht
    rw [arr hx, arr ht] at ho
    obtain ⟨d, h1, h⟩ := orec h
    obtain ⟨b, h2, h⟩ := orec h
    obtain ⟨e, h3, h⟩ := bnd_inv h
    rw [evl_eq] at h1
    exact OpOk.pure hS (zlen_ok ho h2 h1 h3) h
  · rename_i x y t t' hx ht
    rw [arr hx, arr ht] at ho
    obtain ⟨dx, h1, h⟩ := orec h
    obtain ⟨dy, h2, h⟩ := orec h
    obtain ⟨p, h3, h⟩ := orec h
    obtain ⟨z, h4, h⟩ := orec h
    obtain ⟨bytes, h5, h⟩ := orec h
    obtain ⟨h6, hfin⟩ := brec h
    simp only [Bool.and_eq_true] at h6
    have h7 := Nat.eq_of_beq_eq_true h6.1.1
    subst h7
    rw [evl_eq] at h1 h2
    obtain ⟨f, sn, d, T', lo', g1, g2⟩ := zappend_ok (ops := ops) hS ho h3 h4 h6.1.2 h6.2 h5 h1 h2 hfin
    simp only [fN_eq] at g2
    exact ⟨f, sn, d, T', nx + 1, lo', g1, (fun hf => by rw [ho] at hf; cases hf), (fun hf => by rw [ho] at hf; cases hf), g2⟩
  · rename_i x y t t' hx ht
    rw [arr hx, arr ht] at ho
    obtain ⟨dx, h1, h⟩ := orec h
    obtain ⟨dy, h2, h⟩ := orec h
    obtain ⟨p, h3, h⟩ := orec h
    obtain ⟨h6, h⟩ := brec h
    rw [evl_eq] at h1 h2
    unfold biK.zcopy at h
    split at h
    · rename_i q es st n _ _ _
      obtain ⟨rows, c1, h⟩ := bnd_inv h
      obtain ⟨x0, c2, h⟩ := bnd_inv h
      obtain ⟨c3, h⟩ := bB_inv h
      obtain ⟨ds, c4, h⟩ := bnd_inv h
      obtain ⟨x', c5, hfin⟩ := bnd_inv h
      simp only [fN_eq] at hfin
      have c3 := Nat.eq_of_beq_eq_true c3
      subst c3
      obtain ⟨ob, hob, hxo, hlt⟩ := hS.get c2
      obtain ⟨e, es⟩ := p
      have h6 := Nat.eq_of_beq_eq_true h6
      simp only at h6
      subst h6
      haveI := slI_ok h3
      obtain ⟨g1, g2⟩ := putX_ok ds hxo c5
      have hc := core_copy (P := P) ho h1 h2 hob (zsrc_ok hS c1) (heads_ok c4) g2
      refine ⟨q :: names dy, [q], _, _, nx, lowN lo q, ⟨⟨_, 0, hc, rfl, rfl, ?_⟩, (lowN_le lo q).1, fun r' hr' _ => by simp at hr'; rw [hr']; exact (lowN_le lo q).2⟩, (fun hf => by rw [ho] at hf; cases hf), (fun hf => by rw [ho] at hf; cases hf), hfin⟩
      rw [app_eq _ _ 0 o.dst s nx hS.nxt]
      refine hS.put (Nat.le_of_lt hlt) (.inl ⟨rfl, hlt⟩) (oo := some (putF ob st ds)) g1 rfl fun r' => ?_
      simp only [AS.obj, List.cons_append, List.nil_append, find_cons]
      by_cases hr : q = r'
      · subst hr; simp
      · simp [hr, Ne.symm hr]
    · cases h
  · rename_i x y l hx ht
    obtain ⟨dx, h1, h⟩ := orec h
    obtain ⟨ds, h2, h⟩ := orec h
    obtain ⟨e, h3, hfin⟩ := bnd_inv h
    rw [evl_eq] at h1
    rw [evlL_eq] at h2
    unfold biK.zmaxI at h3
    split at h3
    · exact OpOk.pure hS (zmax_ok (mx := true) ho ht h1 h2 h3 ⟨_, _, rfl⟩) hfin
    · cases h3
  · rename_i x y l hx ht
    obtain ⟨dx, h1, h⟩ := orec h
    obtain ⟨ds, h2, h⟩ := orec h
    obtain ⟨e, h3, hfin⟩ := bnd_inv h
    rw [evl_eq] at h1
    rw [evlL_eq] at h2
    unfold biK.zmaxI at h3
    split at h3
    · exact OpOk.pure hS (zmax_ok (mx := false) ho ht h1 h2 h3 ⟨_, _, rfl⟩) hfin
    · cases h3
  · rename_i x t hx ht
    rw [arr hx, arr ht] at ho
    obtain ⟨dx, h1, h⟩ := orec h
    obtain ⟨p, h3, h⟩ := orec h
    obtain ⟨z, h4, h⟩ := orec h
    obtain ⟨h6, h⟩ := brec h
    rw [evl_eq] at h1
    unfold biK.zclear at h
    split at h
    · rename_i q es st n _ _ _
      obtain ⟨c3, h⟩ := bB_inv h
      obtain ⟨x0, c2, h⟩ := bnd_inv h
      obtain ⟨d, c4, h⟩ := bnd_inv h
      obtain ⟨x', c5, hfin⟩ := bnd_inv h
      simp only [fN_eq] at hfin
      have c3 := Nat.eq_of_beq_eq_true c3
      subst c3
      obtain ⟨ob, hob, hxo, hlt⟩ := hS.get c2
      obtain ⟨e, es⟩ := p
      simp only [Bool.and_eq_true] at h6
      have h7 : es = 1 := Nat.eq_of_beq_eq_true h6.1
      have h8 := Nat.eq_of_beq_eq_true h6.2
      subst h7
      haveI := slI_ok h3
      obtain ⟨z0, rfl⟩ := List.length_eq_one_iff.1 h8
      haveI := zeroT_ok h4
      have hd : d = zD z0 := by
        rw [nthD_eq] at c4
        simp at c4
        exact c4.symm
      subst hd
      obtain ⟨g1, g2⟩ := putX_ok _ hxo c5
      have hc := core_clear (P := P) ho h1 hob (Nat.succ_pos n) (fun hs i hi => g2 hs i (by simpa using hi))
      refine ⟨[q], [q], _, _, nx, lowN lo q, ⟨⟨_, 0, hc, rfl, rfl, ?_⟩, (lowN_le lo q).1, fun r' hr' _ => by simp at hr'; rw [hr']; exact (lowN_le lo q).2⟩, (fun hf => by rw [ho] at hf; cases hf), (fun hf => by rw [ho] at hf; cases hf), hfin⟩
      rw [app_eq _ _ 0 o.dst s nx hS.nxt]
      refine hS.put (Nat.le_of_lt hlt) (.inl ⟨rfl, hlt⟩) (oo := some (putF ob st (List.replicate (n + 1) (zD z0)))) g1 rfl fun r' => ?_
      simp only [AS.obj, List.cons_append, List.nil_append, find_cons]
      by_cases hr : q = r'
      · subst hr; simp
      · simp [hr, Ne.symm hr]
    · cases h
  · rename_i x hx
    rw [arr hx] at ho
    obtain ⟨d, h1, h⟩ := orec h
    obtain ⟨e, h3, hfin⟩ := bnd_inv h
    rw [evl_eq] at h1
    unfold biK.zre at h3
    split at h3
    · cases h3
      exact OpOk.pure hS (core_bi1 ho h1 fun cs w => rfl) hfin
    · cases h3
  · rename_i x hx
    rw [arr hx] at ho
    obtain ⟨d, h1, h⟩ := orec h
    obtain ⟨e, h3, hfin⟩ := bnd_inv h
    rw [evl_eq] at h1
    unfold biK.zim at h3
    split at h3
    · cases h3
      exact OpOk.pure hS (core_bi1 ho h1 fun cs w => rfl) hfin
    · cases h3
  · rename_i x y hx
    rw [arr hx] at ho
    obtain ⟨dx, h1, h⟩ := orec h
    obtain ⟨dy, h2, h⟩ := orec h
    obtain ⟨e, h3, hfin⟩ := bnd_inv h
    rw [evl_eq] at h1 h2
    unfold biK.zcx at h3
    split at h3
    · cases h3
      exact OpOk.pure hS (core_bi2 ho h1 h2 fun cs w => rfl) hfin
    · cases h3
  · cases h

theorem opK_ok {ρ : Type} (hS : SR T nx s) {k : KO ρ} {r : ρ} (h : opK P o s.sl T nx lo k = some r) : OpOk P ops o s nx lo k r := by
  unfold opK at h
  split at h
  · rename_i x ho
    obtain ⟨d, h1, h⟩ := orec h
    rw [evl_eq] at h1
    exact OpOk.pure hS (core_move ho h1) h
  · rename_i x ho
    obtain ⟨d, h1, h⟩ := orec h
    rw [evl_eq] at h1
    exact OpOk.pure hS (core_assign ho h1) h
  · rename_i c x y ho
    obtain ⟨dc, h1, h⟩ := orec h
    obtain ⟨dx, h2, h⟩ := orec h
    obtain ⟨dy, h3, h⟩ := orec h
    obtain ⟨e, h4, h⟩ := bnd_inv h
    rw [evl_eq] at h1 h2 h3
    exact OpOk.pure hS (zpick_ok ho h1 h2 h3 h4) h
  · rename_i x i ho
    obtain ⟨d, h1, h⟩ := orec h
    obtain ⟨e, h4, h⟩ := bnd_inv h
    rw [evl_eq] at h1
    exact OpOk.pure hS (zextract_ok ho h1 h4) h
  · rename_i op t x y t' ho
    obtain ⟨dx, h1, h⟩ := orec h
    obtain ⟨dy, h2, h⟩ := orec h
    obtain ⟨e, h4, h⟩ := bnd_inv h
    rw [evl_eq] at h1 h2
    exact OpOk.pure hS (zbin_ok ho h1 h2 h4) h
  · rename_i op t x ho
    obtain ⟨d, h1, h⟩ := orec h
    obtain ⟨e, h4, h⟩ := bnd_inv h
    rw [evl_eq] at h1
    exact OpOk.pure hS (zun_ok ho h1 h4) h
  · rename_i src dst x ho
    obtain ⟨d, h1, h⟩ := orec h
    obtain ⟨ik, h2, h⟩ := orec h
    obtain ⟨e, h4, h⟩ := bnd_inv h
    rw [evl_eq] at h1
    exact OpOk.pure hS (zconv_ok ho h2 h1 h4) h
  · rename_i x ho
    obtain ⟨d, h1, h⟩ := orec h
    obtain ⟨e, h4, h⟩ := bnd_inv h
    rw [evl_eq] at h1
    exact OpOk.pure hS (znil_ok ho h1 h4) h
  · rename_i S x f ho
    obtain ⟨d, h1, h⟩ := orec h
    obtain ⟨p, h2, h⟩ := orec h
    obtain ⟨e, h4, h⟩ := bnd_inv h
    rw [evl_eq] at h1
    exact OpOk.pure hS (zfieldAddr_ok ho h2 h1 h4) h
  · rename_i S x f ho
    obtain ⟨d, h1, h⟩ := orec h
    obtain ⟨p, h2, h⟩ := orec h
    obtain ⟨ag, h3, h⟩ := orec h
    obtain ⟨e, h4, h⟩ := bnd_inv h
    rw [evl_eq] at h1
    exact OpOk.pure hS (zfield_ok ho h2 h3 h1 h4) h
  · rename_i t x y ho
    obtain ⟨dx, h1, h⟩ := orec h
    obtain ⟨dy, h2, h⟩ := orec h
    obtain ⟨xi, h3, h⟩ := orec h
    obtain ⟨e, h4, h⟩ := bnd_inv h
    rw [evl_eq] at h1 h2
    exact OpOk.pure hS (zindexAddr_ok ho h3 h1 h2 h4) h
  · rename_i t x y ho
    obtain ⟨dx, h1, h⟩ := orec h
    obtain ⟨dy, h2, h⟩ := orec h
    obtain ⟨xi, h3, h⟩ := orec h
    obtain ⟨e, h4, h⟩ := bnd_inv h
    rw [evl_eq] at h1 h2
    exact OpOk.pure hS (zindex_ok ho h3 h1 h2 h4) h
  · rename_i t parts ho
    obtain ⟨ds, h1, h⟩ := orec h
    obtain ⟨p, h3, h⟩ := orec h
    obtain ⟨e, h4, h⟩ := bnd_inv h
    rw [evlL_eq] at h1
    exact OpOk.pure hS (zbuild_ok ho h3 h1 h4) h
  · rename_i fn first xs ho
    split at h
    · obtain ⟨h0, h⟩ := brec h
      obtain ⟨ds, h1, hfin⟩ := orec h
      rw [evlL_eq] at h1
      have h0 := Array.eq_empty_of_size_eq_zero (Nat.eq_of_beq_eq_true h0)
      subst h0
      exact OpOk.pure hS (core_makeFunc ho h1) hfin
    · cases h
  · rename_i t x ho
    obtain ⟨d, h1, h⟩ := orec h
    obtain ⟨ag, h2, h⟩ := orec h
    obtain ⟨e, h4, h⟩ := bnd_inv h
    rw [evl_eq] at h1
    exact ⟨ptr? d, [], e, T, nx, lo, Step.pure hS (zload_ok hS ho h1 h2 h4), (fun hf => by rw [ho] at hf; cases hf), fun _ => ⟨rfl, rfl⟩, h⟩
  · rename_i t x y ho
    obtain ⟨dx, h1, h⟩ := orec h
    obtain ⟨dy, h2, h⟩ := orec h
    obtain ⟨n, h3, h⟩ := orec h
    rw [evl_eq] at h1 h2
    obtain ⟨q, T', g1, g2⟩ := zstore_ok (ops := ops) (lo := lo) hS ho h1 h2 h3 h
    simp only [fN_eq] at g2
    exact ⟨[q], [q], .un, T', nx, lowN lo q, g1, (fun hf => by rw [ho] at hf; cases hf), (fun hf => by rw [ho] at hf; cases hf), g2⟩
  · rename_i t ho
    obtain ⟨z, h1, h⟩ := orec h
    rw [fN_eq] at h
    exact ⟨[], [nx], _, _, nx + 1, lo, zalloc_ok hS ho h1, fun _ => rfl, (fun hf => by rw [ho] at hf; cases hf), h⟩
  · rename_i t x ho
    obtain ⟨d, h1, h⟩ := orec h
    obtain ⟨h2, h⟩ := bB_inv h
    rw [evl_eq] at h1
    simp only [fN_eq] at h
    exact ⟨[], [nx], _, _, nx + 1, lo, zbox_ok hS ho h1 h2, fun _ => rfl, (fun hf => by rw [ho] at hf; cases hf), h⟩
  · rename_i t len parts ho
    obtain ⟨xs, h1, h⟩ := orec h
    obtain ⟨ds, h2, h⟩ := orec h
    obtain ⟨p, h3, h⟩ := orec h
    obtain ⟨z, h4, h⟩ := orec h
    obtain ⟨h5, h⟩ := brec h
    obtain ⟨h6, h⟩ := bB_inv h
    simp only [Bool.and_eq_true] at h5
    rw [evlL_eq] at h2
    rw [fN_eq] at h
    exact ⟨[], [nx], _, _, nx + 1, lo, zbuildSlice_ok hS ho h1 h5.1.1.1 h3 h4 h5.1.1.2 h5.1.2 h2 h6 h5.2, fun _ => rfl, (fun hf => by rw [ho] at hf; cases hf), h⟩
  · rename_i t x y ho
    obtain ⟨dx, h1, h⟩ := orec h
    obtain ⟨dy, h2, h⟩ := orec h
    obtain ⟨p, h3, h⟩ := orec h
    obtain ⟨z, h4, h⟩ := orec h
    obtain ⟨bytes, h5, h⟩ := orec h
    obtain ⟨h6, h⟩ := brec h
    simp only [Bool.and_eq_true] at h6
    rw [evl_eq] at h1 h2
    obtain ⟨d, T', g1, g2⟩ := zmakeSlice_ok (ops := ops) (lo := lo) hS ho h3 h4 h6.1 h6.2 h5 h1 h2 h
    simp only [fN_eq] at g2
    exact ⟨[], [nx], d, T', nx + 1, lo, g1, fun _ => rfl, (fun hf => by rw [ho] at hf; cases hf), g2⟩
  · rename_i t x xl xh mx ho
    split at h
    · obtain ⟨d, h1, h⟩ := orec h
      obtain ⟨bl, h2, h⟩ := orec h
      obtain ⟨bh, h3, h⟩ := orec h
      obtain ⟨si, h4, h⟩ := orec h
      rw [evl_eq] at h1
      obtain ⟨f, e, g1, g2⟩ := zslice_ok hS ho h4 h1 h2 h3 h
      exact ⟨f, [], e, T, nx, lo, Step.pure hS g1, (fun hf => by rw [ho] at hf; cases hf), fun _ => ⟨rfl, rfl⟩, g2⟩
    · cases h
  · rename_i c ho
    split at h
    · rename_i b hc
      exact biK_ok hS ho hc h
    · cases h
  · cases h
end
end Go.Abs
