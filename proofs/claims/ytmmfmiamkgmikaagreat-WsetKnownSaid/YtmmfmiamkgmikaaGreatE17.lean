/- Running code over abstract data, part 17: regions that draw their order do what the text's order does. -/
import Derived.Test.YtmmfmiamkgmikaaGreatE16
set_option linter.unusedVariables false
set_option linter.unusedSimpArgs false
namespace Go.Abs

section
variable {P : Program} {ops : Array Oper} {o : Oper} {s : AS} {T : ST} {nx lo : Nat}

/-- What is told of one operation in such a region. -/
def DOk (P : Program) (ops : Array Oper) (o : Oper) (s : AS) (nx lo : Nat) {ρ : Type} (k : KD ρ) (r : ρ) : Prop :=
  ∃ (ft : Ft) (f : List Nat) (d : D) (sets : List (Nat × Option Obj)) (m nb : Nat) (T' : ST) (lo' : Nat), LocD P ops o s f ⟨d, sets, upto nx m⟩ nb ∧ FtOk o (f, ⟨d, sets, upto nx m⟩) nb ft ∧ nb ≤ nx ∧
    Aft o.dst d s.sl s.N T' (nx + m) lo' s (Eff.app ⟨d, sets, upto nx m⟩ o.dst s) ∧ lo' ≤ lo ∧ k ft d T' (nx + m) lo' = some r

/-- What a call comes to, of a state that may be. -/
theorem call_world (hS : SR T nx s) (hsat : Sat s) {cx : Operand} {xs : Array Operand} {ats : Array TypeId} {f : FuncId} (hf : HasFn P f) {caps ds : List D} {F : Sem} (hF : FnOk P f F) {rt : Rt}
    (ho : o.op = .call { callee := .value cx, args := xs, argTypes := ats }) (hc : evx s cx = some (.clo f caps)) (hx : evs s xs.toList = some ds) (hr : F (ds ++ caps) T nx = some rt) :
    ∃ s', SR rt.T rt.nx s' ∧ nx ≤ rt.nx ∧ rt.lo ≤ nx ∧ ∀ q, q < rt.lo → s'.obj q = s.obj q := by
  obtain ⟨M0, β, w, a, hI⟩ := hsat
  have hnx := hS.nxt
  rw [hnx] at hI
  obtain ⟨vals, hrun, hvs, hrep⟩ := call_vals hI hf ho hc hx
  have hcall := hF (ds ++ caps) T nx rt hr s hS M0 β w vals hI.toIvS hvs fun i d y hd hy => hrep i d y hd hy
  obtain ⟨e, w', fr, ⟨y, s', β', _, gS, _, _, _, gle, _, glo, gtch⟩, _⟩ := hcall []
  exact ⟨s', gS, gle, glo, gtch⟩

theorem opSD_ok {ρ : Type} {C : List (FuncId × Sem)} (hC : CallsOk P C) (hS : SR T nx s) (hlo : lo ≤ nx) (hsat : Sat s) {k : KD ρ} {r : ρ} (h : opSD P C o s.sl T nx lo k = some r) :
    ∃ (ft : Ft) (f : List Nat) (d : D) (sets : List (Nat × Option Obj)) (m nb : Nat) (T' : ST) (lo' : Nat), CoreD P o s f ⟨d, sets, upto nx m⟩ nb ∧ FtOk o (f, ⟨d, sets, upto nx m⟩) nb ft ∧ nb ≤ nx ∧
      Aft o.dst d s.sl s.N T' (nx + m) lo' s (Eff.app ⟨d, sets, upto nx m⟩ o.dst s) ∧ lo' ≤ lo ∧ k ft d T' (nx + m) lo' = some r := by
  have base : opK P o s.sl T nx lo (fun f sn d T nx lo => k (.op f sn) d T nx lo) = some r → ∃ (ft : Ft) (f : List Nat) (d : D) (sets : List (Nat × Option Obj)) (m nb : Nat) (T' : ST) (lo' : Nat), CoreD P o s f ⟨d, sets, upto nx m⟩ nb ∧ FtOk o (f, ⟨d, sets, upto nx m⟩) nb ft ∧ nb ≤ nx ∧
      Aft o.dst d s.sl s.N T' (nx + m) lo' s (Eff.app ⟨d, sets, upto nx m⟩ o.dst s) ∧ lo' ≤ lo ∧ k ft d T' (nx + m) lo' = some r := by
    intro h
    obtain ⟨f, sn, d, T', nx', lo', h1, h2, h3, h4⟩ := opK_ok (ops := #[]) hS h
    obtain ⟨sets, m, g1, g2, g3, g4⟩ := h1.loc
    have g5 := h1.aft hS hlo
    subst g3
    refine ⟨.op f sn, f, d, sets, m, 0, T', lo', CoreD.of g1, ⟨rfl, g2.symm, rfl, h2, fun hm => ⟨(h3 hm).1, ?_⟩⟩, Nat.zero_le _, ⟨rfl, rfl, g4, fun q hq => ?_⟩, h1.lo1, h4⟩
    · have : m = 0 := by have := (h3 hm).2; omega
      subst this
      rfl
    · rw [obj_app]
      have : find q sets = none := by
        cases hf : find q sets with
        | none => rfl
        | some x =>
          have hm : q ∈ sets.map (·.1) := find_isSome.1 (by rw [hf]; rfl)
          have h5 := h1.lo1
          have := h1.lo2 q (by rw [g2]; exact hm) (by omega)
          omega
      rw [this]
  unfold opSD at h
  split at h
  · rename_i c ho
    split at h
    · rename_i cx hc
      unfold callD at h
      obtain ⟨f, caps, ds, F, rt, h1, h2, h3, h4, h5⟩ := callK_inv h
      obtain ⟨h6, h7⟩ := bB_inv h5
      obtain ⟨cl, xs, ats⟩ := c
      simp only at hc
      subst hc
      rcases findC_ok hC h3 with ⟨g1, g2⟩ | g1
      case inr =>
        obtain ⟨vs, z, q1, rfl, q3⟩ := g1 _ _ _ _ h4
        have hcr : CoreD P o s (upto 0 nx) ⟨.v z, [], upto nx 0⟩ nx := fun s2 p1 p2 p3 M0 A β w a p4 _ p6 K Q p7 => core_ext ho h1 h2 q1 q3 s2 p1 (fun r hr => by cases hr) p3 M0 A β w a p4 p6 K Q p7
        refine ⟨.call nx nx, upto 0 nx, _, [], 0, nx, T, lo, hcr, ⟨rfl, by simp [upto], rfl, by simp [isCall, ho], Nat.le_refl _⟩, Nat.le_refl _, ⟨rfl, rfl, hS.app0 _ _, fun q _ => by rw [obj_app]; rfl⟩, Nat.le_refl _, h7⟩
      have hlow := Nat.eq_of_beq_eq_true h6
      have hrl : nx ≤ rt.lo := by have := (lowN_le nx rt.lo).2; omega
      obtain ⟨s', gS, gle, glo, gt⟩ := call_world hS hsat g1 g2 ho h1 h2 h4
      obtain ⟨m, hm⟩ : ∃ m, rt.nx = nx + m := ⟨rt.nx - nx, by omega⟩
      have hcore := core_callR hS hsat g1 g2 ho h1 h2 h4 hrl hm
      rw [hm] at gS h7
      refine ⟨.call nx (nx + m), upto 0 nx, rt.d, _, m, nx, rt.T, lo, hcore, ⟨rfl, ?_, rfl, ?_, by omega⟩, Nat.le_refl _, ⟨rfl, rfl, ?_, fun q hq => ?_⟩, Nat.le_refl _, h7⟩
      · have e : nx + m - nx = m := by omega
        rw [e]
        simp [Function.comp_def]
      · simp [isCall, ho]
      · rw [app_eq _ _ m o.dst s nx hS.nxt]
        have key : ∀ r, (AS.obj ⟨putS o.dst rt.d s.sl, (upto nx m).map (fun r => (r, (xobj rt.T r).map objOf)) ++ s.st, nx + m, s.N⟩ r) = if nx ≤ r ∧ r < nx + m then s'.obj r else s.obj r := by
          intro r
          have hx : (xobj rt.T r).map objOf = s'.obj r := OR_eq (gS.obj r)
          have gen : ∀ l : List Nat, find r (l.map fun r => (r, (xobj rt.T r).map objOf)) = if r ∈ l then some ((xobj rt.T r).map objOf) else none := by
            intro l
            induction l with
            | nil => simp [find]
            | cons q l ih =>
              simp only [List.map_cons, find_cons, ih, List.mem_cons]
              by_cases hq : q = r
              · subst hq; simp
              · simp [hq, Ne.symm hq]
          simp only [AS.obj, find_append, gen, hx]
          by_cases hr : nx ≤ r ∧ r < nx + m
          · rw [if_pos (mem_upto.2 hr), if_pos hr]; simp
          · rw [if_neg (fun hh => hr (mem_upto.1 hh)), if_neg hr]; simp
        refine ⟨rfl, fun r => ?_, gS.full, gS.out⟩
        rw [key]
        split
        · exact gS.obj r
        · rename_i hr
          rcases Nat.lt_or_ge r nx with hlt | hge
          · have := gt r (by omega)
            rw [← this]
            exact gS.obj r
          · have hout := gS.out r (by omega)
            rw [hout]
            have h2 := hS.obj r
            rw [hS.out r hge] at h2
            exact h2
      · rw [obj_app]
        have : find q ((upto nx m).map fun r => (r, (xobj rt.T r).map objOf)) = none := by
          cases hf : find q ((upto nx m).map fun r => (r, (xobj rt.T r).map objOf)) with
          | none => rfl
          | some x =>
            have hm' := find_isSome.1 (show (find q ((upto nx m).map fun r => (r, (xobj rt.T r).map objOf))).isSome = true by rw [hf]; rfl)
            simp only [List.map_map, List.mem_map, Function.comp] at hm'
            obtain ⟨q', hq', rfl⟩ := hm'
            have := mem_upto.1 hq'
            omega
        rw [this]
    · exact base h
  · exact base h

theorem opD_ok {ρ : Type} {C : List (FuncId × Sem)} (hC : CallsOk P C) (hS : SR T nx s) (hlo : lo ≤ nx) (hsat : Sat s) {k : KD ρ} {r : ρ} (h : opD P C ops o s.N s.sl T nx lo k = some r) : (∀ t, o.dst = some t → t < s.N) ∧ DOk P ops o s nx lo k r := by
  unfold opD at h
  obtain ⟨hn, h⟩ := brec h
  refine ⟨fun t ht => ?_, ?_⟩
  · rw [ht] at hn
    exact blt_lt hn
  · split at h
    · rename_i hg
      obtain ⟨ft, f, d, sets, m, nb, T', lo', h1, h2, h3, h4, h5, h6⟩ := opSD_ok hC hS hlo hsat h
      exact ⟨ft, f, d, sets, m, nb, T', lo', LocD.plain hg h1, h2, h3, h4, h5, h6⟩
    · rename_i j want hg
      obtain ⟨t, ht, h⟩ := orec h
      obtain ⟨dg, hd, h⟩ := orec h
      obtain ⟨htN, h⟩ := brec h
      have htN := blt_lt htN
      have hd' : s.slot t = some dg := hd
      unfold opD.gjd at h
      obtain ⟨v, rfl, ⟨hb, hon⟩ | ⟨hb, hoff⟩⟩ := zgd_inv h
      · obtain ⟨ft, f, d, sets, m, nb, T', lo', h1, h2, h3, h4, h5, h6⟩ := opSD_ok hC hS hlo hsat hon
        exact ⟨ft, f, d, sets, m, nb, T', lo', LocD.on hg ht hd' (.v v) hb h1, h2, h3, h4, h5, h6⟩
      · have hl : Loc P ops o s [] ⟨.v undef, [], upto nx 0⟩ := by
          have := Loc.guard (P := P) (o := o) (s := s) (ops := ops) (foot := []) (d := .v undef) hg ht hd' (.v v) htN hb (fun h => by cases h)
          exact this
        exact ⟨.op [] [], [], .v undef, [], 0, 0, T, lo, LocD.of hl, ⟨rfl, rfl, rfl, fun _ => rfl, fun _ => ⟨rfl, rfl⟩⟩, Nat.zero_le _, ⟨rfl, rfl, hS.app0 _ _, fun q _ => by rw [obj_app]; rfl⟩, Nat.le_refl _, hoff⟩

theorem gall_inv {ρ : Type} {acc : List Ft} {k : Option ρ} {r : ρ} : ∀ {ps : List (Nat × Nat)}, gall acc k ps = some r → k = some r ∧ ∀ p ∈ ps, ∃ x y, acc[p.1]? = some x ∧ acc[p.2]? = some y ∧ apt x y = true
  | [], h => ⟨h, fun p hp => by cases hp⟩
  | q :: ps, h => by
    obtain ⟨x, h1, h⟩ := orec (show (Option.rec (motive := fun _ => Option ρ) none (fun x => Option.rec (motive := fun _ => Option ρ) none (fun y => bB (apt x y) (gall acc k ps)) (acc[q.2]?)) (acc[q.1]?) : Option ρ) = some r from h)
    obtain ⟨y, h2, h⟩ := orec h
    obtain ⟨h3, h⟩ := bB_inv h
    obtain ⟨g1, g2⟩ := gall_inv h
    refine ⟨g1, fun p hp => ?_⟩
    rcases List.mem_cons.1 hp with rfl | hp
    · exact ⟨x, y, h1, h2, h3⟩
    · exact g2 p hp

theorem regD_ok {ρ : Type} {C : List (FuncId × Sem)} (hC : CallsOk P C) {N n : Nat} {ps : List (Nat × Nat)} {k : KS ρ} {r : ρ} {s0 : AS} :
    ∀ (todo : List Oper) (acc : List Ft) (s : AS) (T : ST) (nx lo : Nat), SR T nx s → s.N = N → lo ≤ n → n ≤ nx → (∀ q, q < lo → s.obj q = s0.obj q) → Sat s → regD P C ops N ps todo acc s.sl T nx lo k = some r →
      ∃ es nbs fts s' T' nx' lo', RunD P ops todo s es nbs s' ∧ fts.length = todo.length ∧ nbs.length = todo.length ∧ es.length = todo.length ∧
        (∀ (i : Nat) (o : Oper) (fe : List Nat × Eff) (nb : Nat) (x : Ft), todo[i]? = some o → es[i]? = some fe → nbs[i]? = some nb → fts[i]? = some x → FtOk o fe nb x) ∧
        Got N n s0 s' T' nx' lo' ∧ gall (acc ++ fts) (k s'.sl T' nx' lo') ps = some r
  | [], acc, s, T, nx, lo, hS, hN, hlo, hn, hfr, hsat, h => ⟨[], [], [], s, T, nx, lo, .nil s, rfl, rfl, rfl, fun i o fe nb x h => by simp at h, ⟨hS, hN, hlo, hfr⟩, by rw [List.append_nil]; exact h⟩
  | o :: os, acc, s, T, nx, lo, hS, hN, hlo, hn, hfr, hsat, h => by
    have h' : opD P C ops o s.N s.sl T nx lo (fun ft d T nx lo => regD P C ops N ps os (acc ++ [ft]) (putS o.dst d s.sl) T nx lo k) = some r := by rw [hN]; exact h
    obtain ⟨hd, ft, f, d, sets, m, nb, T', lo', h1, h2, h3, ⟨a1, a2, a3, a4⟩, h5, h6⟩ := opD_ok (ops := ops) hC hS (by omega) hsat h'
    have hnx := hS.nxt
    have hnews : ∀ q ∈ (upto nx m), s.nx ≤ q := fun q hq => by rw [hnx]; exact (mem_upto.1 hq).1
    have hsat' := hsat.next hd hnews (by rw [hnx]; exact h3) h1
    have happ : (Eff.app ⟨d, sets, upto nx m⟩ o.dst s).nx = nx + m := a3.nxt
    have h6' : regD P C ops N ps os (acc ++ [ft]) (Eff.app ⟨d, sets, upto nx m⟩ o.dst s).sl T' (nx + m) lo' k = some r := by rw [a1]; exact h6
    obtain ⟨es, nbs, fts, s', T2, nx2, lo2, g1, g2, g3, g3', g4, g5, g6⟩ := regD_ok (n := n) hC os (acc ++ [ft]) _ T' (nx + m) lo' a3 (a2.trans hN) (by omega) (by omega) (fun q hq => (a4 q hq).trans (hfr q (by omega))) hsat' h6'
    refine ⟨(f, ⟨d, sets, upto nx m⟩) :: es, nb :: nbs, ft :: fts, s', T2, nx2, lo2, .cons hd hnews (fun q hq1 hq2 => ?_) (by rw [hnx]; exact h3) h1 g1, by simp [g2], by simp [g3], by simp [g3'], fun i o' fe nb' x i1 i2 i3 i4 => ?_, g5, ?_⟩
    · rw [happ] at hq2
      exact mem_upto.2 ⟨by omega, hq2⟩
    · cases i with
      | zero =>
        simp at i1 i2 i3 i4
        subst i1; subst i2; subst i3; subst i4
        exact h2
      | succ i => exact g4 i o' fe nb' x (by simpa using i1) (by simpa using i2) (by simpa using i3) (by simpa using i4)
    · rw [List.append_assoc] at g6
      exact g6

theorem drD_ok {C : List (FuncId × Sem)} (hm : P.follows .mixedOrders = true) (hC : CallsOk P C) {N : Nat} : ∀ n, DrOk P N n (drD P C N n) := by
  intro n id ops s0 s T nx lo k r hG h
  obtain ⟨ps, hst, h⟩ := orec h
  intro M0 β w a hI hn
  have hsat : Sat s := ⟨M0, β, w, a, hI⟩
  have hnx := hG.1.nxt
  obtain ⟨es, nbs, fts, s', T', nx', lo', g1, g2, g3, g3', g4, g5, g6⟩ := regD_ok (ops := ops) hC (n := n) ops.toList [] s T nx lo hG.1 hG.2.1 hG.2.2.1 (by omega) hG.2.2.2 hsat h
  obtain ⟨gk, gp⟩ := gall_inv g6
  rw [List.nil_append] at gp
  obtain ⟨st1, st2⟩ := stAll_ok hst
  have hops : ops = ops.toList.toArray := by simp
  -- the masks' check
  have hchk : chkAll ops (masks ops.toList []) 0 (feet ops.toList es) = true := by
    refine chkAll_of (fun i j o p fo fp hij ho hp => ?_) fun i o fo ho => ?_
    · obtain ⟨o1, f1, e1, o2, o3⟩ := feet_inv ho
      obtain ⟨p1, f2, e2, p2, p3⟩ := feet_inv hp
      rcases st1 i j o p hij o1 p1 with hb | ⟨_, hs, hor⟩
      · exact .inl hb
      · right
        have hil : i < ops.toList.length := (List.getElem?_eq_some_iff.1 o1).1
        have hjl : j < ops.toList.length := (List.getElem?_eq_some_iff.1 p1).1
        have x1 := g4 i o _ _ _ o1 o2 (List.getElem?_eq_getElem (show i < nbs.length by omega)) (List.getElem?_eq_getElem (show i < fts.length by omega))
        have x2 := g4 j p _ _ _ p1 p2 (List.getElem?_eq_getElem (show j < nbs.length by omega)) (List.getElem?_eq_getElem (show j < fts.length by omega))
        have hh : hits (e1.sets.map (·.1)) (f2 ++ e2.sets.map (·.1)) = false ∧ hits f1 (e2.sets.map (·.1)) = false := by
          rcases hor with hmt | hin
          · exact meets_ok x1 x2 hmt
          · have hin' : (i, j) ∈ ps := by simpa using hin
            obtain ⟨x, y, q1, q2, q3⟩ := gp (i, j) hin'
            simp only at q1 q2
            rw [List.getElem?_eq_getElem (show i < fts.length by omega)] at q1
            rw [List.getElem?_eq_getElem (show j < fts.length by omega)] at q2
            cases q1
            cases q2
            exact apt_ok x1 x2 q3
        simp only [slApart, Bool.and_eq_true] at hs
        simp only [apart1, Bool.and_eq_true, Bool.not_eq_true', o3, p3]
        exact ⟨⟨⟨hs.1, hs.2⟩, hh.1⟩, hh.2⟩
    · obtain ⟨o1, _⟩ := feet_inv ho
      exact st2 i o o1
  have hcw : CW P n (.region id ops true) s fun x s' => x = .normal ∧ ∃ T nx lo, Got N n s0 s' T nx lo ∧ k s'.sl T nx lo = some r := by
    rw [hops]
    refine CW.drawD (l := ops.toList) hm (nbs := nbs) (s' := s') (es := es) (by rw [← hops]; exact g1) (fun i j nb f e q1 q2 q3 q4 q5 => ?_) (by rw [← hops]; exact hchk) ⟨rfl, T', nx', lo', g5, gk⟩
    have hil : i < ops.toList.length := by rw [← g3]; exact (List.getElem?_eq_some_iff.1 q1).1
    have hjl : j < ops.toList.length := by omega
    have x1 := g4 i ops.toList[i] (es[i]'(by omega)) nb (fts[i]'(by omega)) (List.getElem?_eq_getElem hil) (List.getElem?_eq_getElem (by omega)) q1 (List.getElem?_eq_getElem (by omega))
    have x2 := g4 j ops.toList[j] (f, e) (nbs[j]'(by omega)) (fts[j]'(by omega)) (List.getElem?_eq_getElem hjl) q4 (List.getElem?_eq_getElem (by omega)) (List.getElem?_eq_getElem (by omega))
    have c1 := x1.nb q2
    have c2 := x2.news q5
    rcases st1 j i ops.toList[j] ops.toList[i] q3 (List.getElem?_eq_getElem hjl) (List.getElem?_eq_getElem hil) with hb | ⟨hc, _⟩
    · simpa using hb
    · rw [c1, c2] at hc; cases hc
  exact hcw M0 β w a hI hn
end
end Go.Abs
