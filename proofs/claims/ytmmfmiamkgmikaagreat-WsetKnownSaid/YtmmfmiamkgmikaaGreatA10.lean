/- The abstract logic, part 10: whatever order a region draws, it comes to what the text's order comes to. -/
import Derived.Test.YtmmfmiamkgmikaaGreatA9
set_option linter.unusedVariables false
set_option linter.unusedSimpArgs false
namespace Go.Abs

def unl (n : Nat) (fl : Nat → Bool) : Nat := (List.range n).countP fun i => !fl i
theorem unl_set {fl fl' : Nat → Bool} {i : Nat} (h1 : fl i = false) (h2 : fl' i = true) (h : ∀ j, j ≠ i → fl' j = fl j) : ∀ n, i < n → unl n fl = unl n fl' + 1
  | 0, hn => by omega
  | n + 1, hn => by
    unfold unl
    simp only [List.range_succ, List.countP_append, List.countP_cons, List.countP_nil]
    by_cases hi : i = n
    · subst hi
      have : (List.range i).countP (fun j => !fl j) = (List.range i).countP (fun j => !fl' j) := List.countP_congr fun j hj => by
        have : j ≠ i := by have := List.mem_range.1 hj; omega
        rw [h j this]
      simp [h1, h2, this]
    · have ih := unl_set h1 h2 h n (by omega)
      unfold unl at ih
      rw [ih, h n (Ne.symm hi)]
      omega
theorem unl_zero {fl : Nat → Bool} {n : Nat} (h : unl n fl = 0) : ∀ i, i < n → fl i = true := by
  intro i hi
  have := (List.countP_eq_zero.1 h) i (List.mem_range.2 hi)
  simpa using this

section
variable {P : Program} {l : List Oper} {s s' : AS} {es : List (List Nat × Eff)}

theorem looks_eval {ops : Array Oper} {o : Oper} {s1 s2 : AS} (h : ∀ t ∈ looks ops o, s2.slot t = s1.slot t) :
    (∀ x ∈ o.op.operands, evx s2 x = evx s1 x) ∧ (∀ j want t, o.guard = some (j, want) → (ops[j]?).bind (·.dst) = some t → s2.slot t = s1.slot t) := by
  refine ⟨fun x hx => ?_, fun j want t hg hj => h t ?_⟩
  · cases x with
    | tmp t =>
      refine h t ?_
      refine List.mem_append.2 (.inl (List.mem_filterMap.2 ⟨.tmp t, by simpa using hx, rfl⟩))
    | const c => unfold evx; split <;> simp_all
    | global g => unfold evx; rfl
    | func f => unfold evx; rfl
  · exact List.mem_append.2 (.inr (by simp [hg, hj]))

theorem hits_false {a b : List Nat} (h : hits a b = false) : ∀ x ∈ a, x ∉ b := by
  intro x hx hb
  have := List.any_eq_false.1 h x hx
  simp at this
  exact this hb

theorem find_isSome {α : Type} {r : Nat} {m : List (Nat × α)} : (find r m).isSome = true ↔ r ∈ m.map (·.1) := by
  induction m with
  | nil => simp [find]
  | cons p m ih =>
    obtain ⟨j, x⟩ := p
    rw [find_cons]
    by_cases h : j = r
    · simp [h]
    · simp [h, ih, Ne.symm h]

/-- **A region that draws its order.** -/
theorem CW.draw {id : Nat} {n : Nat} {Q : Exit → AS → Prop} (hm : P.follows .mixedOrders = true) (hr : Run P l.toArray l s es s') (hc : chkAll l.toArray (masks l []) 0 (feet l es) = true) (hq : Q .normal s') :
    CW P n (.region id l.toArray true) s Q := by
  intro M0 β0 w0 a0 hI0 hn
  obtain ⟨hlen, hs', hget⟩ := hr.get
  let L := List.zipWith (fun (o : Oper) (fe : List Nat × Eff) => (o.dst, fe.2)) l es
  let S : (Nat → Bool) → AS := fun fl => foldS fl 0 L s
  let An : (Nat → Bool) → Nat → Prop := fun fl r => r < s.nx ∨ ∃ (i : Nat) (f : List Nat) (e : Eff), es[i]? = some (f, e) ∧ fl i = true ∧ r ∈ e.news
  have hLget : ∀ (j : Nat) (d : Option Tmp) (e : Eff), L[j]? = some (d, e) → ∃ o f, l[j]? = some o ∧ es[j]? = some (f, e) ∧ o.dst = d := by
    intro j d e hj
    simp only [L, List.getElem?_zipWith] at hj
    cases h1 : l[j]? with
    | none => simp [h1] at hj
    | some o =>
      cases h2 : es[j]? with
      | none => simp [h1, h2] at hj
      | some fe =>
        obtain ⟨f, e'⟩ := fe
        simp [h1, h2] at hj
        obtain ⟨rfl, rfl⟩ := hj
        exact ⟨o, f, rfl, rfl, rfl⟩
  have hLof : ∀ {j : Nat} {o : Oper} {f : List Nat} {e : Eff}, l[j]? = some o → es[j]? = some (f, e) → L[j]? = some (o.dst, e) := by
    intro j o f e h1 h2
    simp [L, List.getElem?_zipWith, h1, h2]
  -- ordered or apart
  have ord : ∀ (i k : Nat) (oi ok : Oper) (fi fk : List Nat) (ei ek : Eff), i < k → l[i]? = some oi → l[k]? = some ok → es[i]? = some (fi, ei) → es[k]? = some (fk, ek) → ((masks l []).getD k 0).testBit i = true ∨ apart1 l.toArray oi (fi, ei.sets.map (·.1)) ok (fk, ek.sets.map (·.1)) = true := by
    intro i k oi ok fi fk ei ek hik h1 h2 h3 h4
    have := chkAll_get hc hik (feet_get h1 h3) (feet_get h2 h4)
    rwa [Nat.zero_add, Nat.zero_add] at this
  have hmk : MasksOk l (masks l []) := masks_ok l l [] [] rfl rfl (fun k m j hk => by simp at hk)
  -- what one waits for is listed
  have hanc : ∀ (fl : Nat → Bool), (∀ (k : Nat) (o : Oper), l[k]? = some o → fl k = true → ∀ e ∈ o.after, Region.binds .any e = true → fl e.on = true) →
      ∀ (k : Nat) (o : Oper), l[k]? = some o → (∀ e ∈ o.after, Region.binds .any e = true → fl e.on = true) → ∀ j, ((masks l []).getD k 0).testBit j = true → fl j = true := by
    intro fl hcl k
    induction k using Nat.strongRecOn with
    | _ k ih =>
      intro o ho hpre j hj
      cases hm : (masks l [])[k]? with
      | none => simp [List.getD_eq_getElem?_getD, hm] at hj
      | some m =>
        have hj' : m.testBit j = true := by simpa [List.getD_eq_getElem?_getD, hm] using hj
        obtain ⟨o', e, h1, h2, h3, h4⟩ := hmk k m j hm hj'
        obtain rfl : o' = o := by rw [ho] at h1; exact (Option.some.inj h1).symm
        have hon := hpre e h2 h3
        rcases h4 with h4 | h4
        · exact h4 ▸ hon
        · have hkl : k < l.length := (List.getElem?_eq_some_iff.1 ho).1
          have hlt := chkAll_on hc (feet_get ho (List.getElem?_eq_getElem (show k < es.length by omega))) e h2 h3
          have hel : e.on < l.length := by omega
          exact ih e.on (by omega) l[e.on] (List.getElem?_eq_getElem hel) (hcl e.on _ (List.getElem?_eq_getElem hel) hon) j h4
  have main : ∀ (fuel : Nat) (listed : Array Bool) (a : Act) (w : World) (β : Nat → Option Nat), listed.size = l.length →
      (∀ (k : Nat) (o : Oper), l[k]? = some o → listed.getD k false = true → ∀ e ∈ o.after, Region.binds .any e = true → listed.getD e.on false = true) →
      unl l.length (fun i => listed.getD i false) ≤ fuel → Inv M0 (An fun i => listed.getD i false) β (S fun i => listed.getD i false) w a →
      Fr (· < s.nx) (Own β0 s.obj) (Own β (S fun i => listed.getD i false).obj) β0 β w0 w →
      wpAny P .any l.toArray (fun x a' w' => ∃ s' β', Q x s' ∧ Inv M0 (· < s'.nx) β' s' w' a' ∧ n ≤ s'.nx ∧ Fr (· < n) (Own β0 s.obj) (Own β' s'.obj) β0 β' w0 w') fuel listed a w := by
    -- when all are listed
    have fin : ∀ (listed : Array Bool) (a : Act) (w : World) (β : Nat → Option Nat), (∀ i, i < l.length → listed.getD i false = true) → Inv M0 (An fun i => listed.getD i false) β (S fun i => listed.getD i false) w a →
        Fr (· < s.nx) (Own β0 s.obj) (Own β (S fun i => listed.getD i false).obj) β0 β w0 w →
        ∃ s' β', Q .normal s' ∧ Inv M0 (· < s'.nx) β' s' w a ∧ n ≤ s'.nx ∧ Fr (· < n) (Own β0 s.obj) (Own β' s'.obj) β0 β' w0 w := by
      intro listed a w β hall hI hF
      have e1 : ∀ t, s'.slot t = (S fun i => listed.getD i false).slot t := by
        intro t
        rw [hs']
        refine foldS_slot L 0 s s (fun j d e hj _ => ?_) rfl
        obtain ⟨o, f, h1, _⟩ := hLget j d e hj
        simp only [Nat.zero_add]
        exact (hall j (List.getElem?_eq_some_iff.1 h1).1).symm
      have e2 : ∀ r, s'.obj r = (S fun i => listed.getD i false).obj r := by
        intro r
        rw [hs']
        refine foldS_obj L 0 s s (fun j d e hj _ => ?_) rfl
        obtain ⟨o, f, h1, _⟩ := hLget j d e hj
        simp only [Nat.zero_add]
        exact (hall j (List.getElem?_eq_some_iff.1 h1).1).symm
      have hnx : s.nx ≤ s'.nx := hr.nx
      have hnews : ∀ (i : Nat) (f : List Nat) (e : Eff), es[i]? = some (f, e) → ∀ r ∈ e.news, r < s'.nx := by
        clear hs' hget ord hI hF e1 e2 hc hq hI0 hLget hLof hnx
        intro i f e hi r hrr
        have : ∀ {ops : Array Oper} {l : List Oper} {s s' : AS} {es : List (List Nat × Eff)}, Run P ops l s es s' → ∀ (i : Nat) (f : List Nat) (e : Eff), es[i]? = some (f, e) → ∀ r ∈ e.news, r < s'.nx := by
          intro ops l s s' es h
          induction h with
          | nil => intro i f e hi; simp at hi
          | @cons o os s s' f e l hd hn hl ht ih =>
            intro i f' e' hi r hrr
            cases i with
            | zero =>
              simp at hi
              obtain ⟨rfl, rfl⟩ := hi
              exact Nat.lt_of_lt_of_le ((bump_le e.news s.nx).2 r hrr) ht.nx
            | succ i => exact ih i f' e' (by simpa using hi) r hrr
        exact this hr i f e hi r hrr
      refine ⟨s', β, hq, (Inv.same hI e1 e2 (by rw [hs', foldS_N]; exact (foldS_N _ L 0 s).symm)).names_mono fun r h => ?_, Nat.le_trans hn hnx, ?_⟩
      · rcases h with h | ⟨i, f, e, h1, _, h2⟩
        · exact Nat.lt_of_lt_of_le h hnx
        · exact hnews i f e h1 r h2
      · have he : s'.obj = (S fun i => listed.getD i false).obj := funext e2
        rw [he]
        exact hF.less fun r h => Nat.lt_of_lt_of_le h hn
    have noready : ∀ (listed : Array Bool), listed.size = l.length → Region.ready .any l.toArray listed = [] → ∀ i, i < l.length → listed.getD i false = true := by
      intro listed hsz hre
      intro i
      induction i using Nat.strongRecOn with
      | _ i ih =>
        intro hi
        cases hb : listed.getD i false with
        | true => rfl
        | false =>
          have hmem : i ∈ Region.ready .any l.toArray listed := by
            rw [mem_ready]
            refine ⟨?_, l[i], by simp [hi], fun e he hbd => ?_⟩
            · have hlt : i < listed.size := by omega
              simp [hlt] at hb ⊢
              exact hb
            · have hel : i < es.length := by omega
              have := chkAll_on hc (feet_get (List.getElem?_eq_getElem hi) (List.getElem?_eq_getElem hel)) e he hbd
              exact ih e.on (by omega) (by omega)
          rw [hre] at hmem
          cases hmem
    intro fuel
    induction fuel with
    | zero =>
      intro listed a w β hsz hcl hun hI hF
      have hall := unl_zero (Nat.le_zero.1 hun)
      refine ⟨?_, fin listed a w β hall hI hF⟩
      cases hre : Region.ready .any l.toArray listed with
      | nil => rfl
      | cons i rest =>
        have hmem : i ∈ Region.ready .any l.toArray listed := by rw [hre]; simp
        obtain ⟨h1, o, ho, _⟩ := mem_ready.1 hmem
        have hlt : i < l.length := by simpa using (Array.getElem?_eq_some_iff.1 ho).1
        have := hall i hlt
        have hlt' : i < listed.size := by omega
        simp [hlt'] at h1 this
        rw [this] at h1
        cases h1
    | succ fuel ih =>
      intro listed a w β hsz hcl hun hI hF
      refine ⟨fun hre => fin listed a w β (noready listed hsz hre) hI hF, fun i hi => ?_⟩
      obtain ⟨hunl, o, ho, hpre⟩ := mem_ready.1 hi
      have hil : i < l.length := by simpa using (Array.getElem?_eq_some_iff.1 ho).1
      have hil' : i < listed.size := by omega
      have ho' : l[i]? = some o := by simpa using ho
      have hiu : listed.getD i false = false := by simp [hil'] at hunl ⊢; exact hunl
      have hie : i < es.length := by omega
      obtain ⟨f, e, hfe⟩ : ∃ f e, es[i]? = some (f, e) := ⟨es[i].1, es[i].2, by simp [hie]⟩
      obtain ⟨hloc, hdst, hnew, hdis⟩ := hget i o f e ho' hfe
      let fl : Nat → Bool := fun j => listed.getD j false
      -- who writes what the operation looks at has been done just if it stands ahead of it
      have before : ∀ (k : Nat) (ok : Oper) (fk : List Nat) (ek : Eff), l[k]? = some ok → es[k]? = some (fk, ek) → k ≠ i → (((masks l []).getD i 0).testBit k = true → k < i → fl k = true) ∧ (((masks l []).getD k 0).testBit i = true → i < k → fl k = false) := by
        intro k ok fk ek hk hek hki
        refine ⟨fun hw _ => hanc fl hcl i o ho' hpre k hw, fun hw _ => ?_⟩
        cases hfk : fl k with
        | false => rfl
        | true =>
          have := hanc fl hcl k ok hk (hcl k ok hk hfk) i hw
          rw [show fl i = false from hiu] at this
          cases this
      have key : ∀ (k : Nat) (ok : Oper) (fk : List Nat) (ek : Eff), l[k]? = some ok → es[k]? = some (fk, ek) → k ≠ i →
          ((∃ t, ok.dst = some t ∧ (t ∈ looks l.toArray o ∨ o.dst = some t)) ∨ (∃ r ∈ ek.sets.map (·.1), r ∈ f ∨ r ∈ e.sets.map (·.1))) → fl k = decide (k < i) := by
        intro k ok fk ek hk hek hki hmeet
        obtain ⟨b1, b2⟩ := before k ok fk ek hk hek hki
        rcases Nat.lt_or_gt_of_ne hki with hlt | hgt
        · rcases ord k i ok o fk f ek e hlt hk ho' hek hfe with hw | hap
          · simp only [b1 hw hlt, hlt, decide_true]
          · exfalso
            simp only [apart1, Bool.and_eq_true, Bool.not_eq_true'] at hap
            obtain ⟨⟨⟨q1, q2⟩, q3⟩, q4⟩ := hap
            rcases hmeet with ⟨t, ht, hor⟩ | ⟨r, hr1, hor⟩
            · simp only [ht, Bool.and_eq_true, Bool.not_eq_true', bne_iff_ne, ne_eq] at q1
              rcases hor with h | h
              · have := q1.1; simp at this; exact this h
              · exact q1.2 h
            · rcases hor with h | h
              · exact hits_false q3 r hr1 (List.mem_append.2 (.inl h))
              · exact hits_false q3 r hr1 (List.mem_append.2 (.inr h))
        · rcases ord i k o ok f fk e ek hgt ho' hk hfe hek with hw | hap
          · simp only [b2 hw hgt]
            simp; omega
          · exfalso
            simp only [apart1, Bool.and_eq_true, Bool.not_eq_true'] at hap
            obtain ⟨⟨⟨q1, q2⟩, q3⟩, q4⟩ := hap
            rcases hmeet with ⟨t, ht, hor⟩ | ⟨r, hr1, hor⟩
            · simp only [ht, Bool.not_eq_true'] at q2
              rcases hor with h | h
              · simp at q2; exact q2 h
              · rw [h] at q1
                simp only [Bool.and_eq_true, bne_iff_ne, ne_eq] at q1
                exact q1.2 ht
            · rcases hor with h | h
              · exact hits_false q4 r h hr1
              · exact hits_false q3 r h (List.mem_append.2 (.inr hr1))
      have agS : ∀ t ∈ looks l.toArray o, (S fl).slot t = (foldS (fun j => decide (j < i)) 0 L s).slot t := by
        intro t ht
        refine foldS_slot L 0 s s (fun j d ej hj hd => ?_) rfl
        obtain ⟨oj, fj, h1, h2, h3⟩ := hLget j d ej hj
        rw [Nat.zero_add]
        by_cases hji : j = i
        · subst hji; simp only [fl, hiu]; simp
        · exact key j oj fj ej h1 h2 hji (.inl ⟨t, h3.trans hd, .inl ht⟩)
      have agO : ∀ r ∈ f, (S fl).obj r = (foldS (fun j => decide (j < i)) 0 L s).obj r := by
        intro r hrf
        refine foldS_obj L 0 s s (fun j d ej hj hd => ?_) rfl
        obtain ⟨oj, fj, h1, h2, h3⟩ := hLget j d ej hj
        rw [Nat.zero_add]
        by_cases hji : j = i
        · subst hji; simp only [fl, hiu]; simp
        · exact key j oj fj ej h1 h2 hji (.inr ⟨r, find_isSome.1 hd, .inl hrf⟩)
      let listed' := listed.setIfInBounds i true
      let fl' : Nat → Bool := fun j => listed'.getD j false
      have hfl'i : fl' i = true := by simp [fl', listed', hil']
      have hfl'n : ∀ j, j ≠ i → fl' j = fl j := fun j hj => getD_set_ne false (Ne.symm hj)
      -- the state behind it
      have hLi : L[i]? = some (o.dst, e) := hLof ho' hfe
      have nS : ∀ t, (S fl').slot t = (e.app o.dst (S fl)).slot t := by
        intro t
        rw [slot_app]
        by_cases hd : o.dst = some t
        · rw [if_pos hd]
          refine foldS_slot_last L 0 i s e (by rw [hLi, hd]) (by rw [Nat.zero_add]; exact hfl'i) fun j d ej hij hj hdj => ?_
          obtain ⟨oj, fj, h1, h2, h3⟩ := hLget j d ej hj
          rw [Nat.zero_add, hfl'n j (by omega), key j oj fj ej h1 h2 (by omega) (.inl ⟨t, h3.trans hdj, .inr hd⟩)]
          simp; omega
        · rw [if_neg hd]
          refine foldS_slot L 0 s s (fun j d ej hj hdj => ?_) rfl
          rw [Nat.zero_add]
          by_cases hji : j = i
          · subst hji
            rw [hLi] at hj
            simp at hj
            exact absurd (hj.1.trans hdj) hd
          · exact hfl'n j hji
      have nO : ∀ r, (S fl').obj r = (e.app o.dst (S fl)).obj r := by
        intro r
        rw [obj_app]
        cases hx : find r e.sets with
        | some x =>
          refine foldS_obj_last L 0 i s o.dst e x hLi hx (by rw [Nat.zero_add]; exact hfl'i) fun j d ej hij hj hdj => ?_
          obtain ⟨oj, fj, h1, h2, h3⟩ := hLget j d ej hj
          rw [Nat.zero_add, hfl'n j (by omega), key j oj fj ej h1 h2 (by omega) (.inr ⟨r, find_isSome.1 hdj, .inr (find_isSome.1 (by rw [hx]; rfl))⟩)]
          simp; omega
        | none =>
          refine foldS_obj L 0 s s (fun j d ej hj hdj => ?_) rfl
          rw [Nat.zero_add]
          by_cases hji : j = i
          · subst hji
            rw [hLi] at hj
            simp at hj
            obtain ⟨_, rfl⟩ := hj
            rw [hx] at hdj
            cases hdj
          · exact hfl'n j hji
      obtain ⟨ag1, ag2⟩ := looks_eval agS
      have hop : l.toArray[i]? = some o := ho
      unfold wpOp
      simp only [hop]
      have := hloc (S fl) ag1 ag2 agO (fun t ht => by
          have : (S fl).N = s.N := foldS_N fl L 0 s
          rw [this]; exact hdst t ht) M0 (An fl) β w a (fun r hr1 hA => by
          rcases hA with h | ⟨j, fj, ej, h1, h2, h3⟩
          · have := hnew r hr1; omega
          · by_cases hji : i = j
            · subst hji; simp only [fl, hiu] at h2; cases h2
            · exact hdis j fj ej hji h1 r hr1 h3) hI
        (wpAny P .any l.toArray (fun x a' w' => ∃ s' β', Q x s' ∧ Inv M0 (· < s'.nx) β' s' w' a' ∧ n ≤ s'.nx ∧ Fr (· < n) (Own β0 s.obj) (Own β' s'.obj) β0 β' w0 w') fuel listed')
        (fun x a' w' => ∃ s' β', Q x s' ∧ Inv M0 (· < s'.nx) β' s' w' a' ∧ n ≤ s'.nx ∧ Fr (· < n) (Own β0 s.obj) (Own β' s'.obj) β0 β' w0 w') (fun a' w' hp => by
          obtain ⟨β', p1, p2⟩ := hp
          have hobjE : (e.app o.dst (S fl)).obj = (S fl').obj := funext fun r => (nO r).symm
          refine ih listed' a' w' β' (by simp [listed', hsz]) (fun k ok hk hkl e' he' hb => ?_) ?_ ?_ ?_
          · by_cases hki : k = i
            · subst hki
              rw [ho'] at hk
              simp at hk
              subst hk
              exact getD_set_true (hpre e' he' hb)
            · have : listed.getD k false = true := by rw [← hkl]; exact (hfl'n k hki).symm
              exact getD_set_true (hcl k ok hk this e' he' hb)
          · have := unl_set (fl := fl) (fl' := fl') hiu hfl'i hfl'n l.length hil
            have h2 : unl l.length fl ≤ fuel + 1 := hun
            show unl l.length fl' ≤ fuel
            omega
          · refine (Inv.same p1 nS nO ?_).names_mono fun r h => ?_
            · show (foldS fl' 0 L s).N = (foldS fl 0 L s).N
              rw [foldS_N, foldS_N]
            · rcases h with (h | ⟨j, fj, ej, h1, h2, h3⟩) | h
              · exact .inl h
              · refine .inr ⟨j, fj, ej, h1, ?_, h3⟩
                exact getD_set_true h2
              · exact .inr ⟨i, f, e, hfe, hfl'i, h⟩
          · rw [hobjE] at p2
            exact hF.trans (fun r h => Or.inl h) p2)
      split
      · rename_i hw
        rw [if_pos hw] at this
        exact .inl this
      · rename_i hw
        rw [if_neg hw] at this
        exact this
  refine wp_region_any hm (main l.toArray.size (Array.replicate l.toArray.size false) a0 { w0 with drawn := w0.drawn + 1 } β0 (by simp) (fun k o hk hkl => ?_) ?_ ?_ ?_)
  · have hlt : k < l.length := (List.getElem?_eq_some_iff.1 hk).1
    simp [hlt] at hkl
  · unfold unl
    exact Nat.le_trans List.countP_le_length (by simp)
  · have e0 : ∀ (L : List (Option Tmp × Eff)) (k : Nat) (s : AS), (∀ j, (Array.replicate l.toArray.size false).getD j false = false) → foldS (fun i => (Array.replicate l.toArray.size false).getD i false) k L s = s := by
      intro L
      induction L with
      | nil => intros; rfl
      | cons p L ih => intro k s h; obtain ⟨d, e⟩ := p; simp only [foldS, h k, cond_false]; exact ih _ _ h
    have hall : ∀ j, (Array.replicate l.toArray.size false).getD j false = false := by
      intro j
      by_cases h : j < l.length <;> simp [h]
    have hS : (S fun i => (Array.replicate l.toArray.size false).getD i false) = s := e0 L 0 s hall
    rw [hS]
    have h2 := hI0.names_mono (B := An fun i => (Array.replicate l.toArray.size false).getD i false) fun r h => Or.inl h
    have hk : KeepB (An fun i => (Array.replicate l.toArray.size false).getD i false) (Own β0 s.obj) (Own β0 s.obj) β0 β0 w0 { w0 with drawn := w0.drawn + 1 } := ⟨⟨Nat.le_refl _, fun _ _ _ => rfl, fun _ _ h => h⟩, fun _ _ => rfl, fun b cs e hb => ⟨cs, hb, rfl⟩⟩
    refine ⟨⟨fun r o ho => ?_, h2.inj, h2.own, h2.out, h2.names, h2.orefs⟩, h2.size, h2.defers, fun t d ht => (h2.slots t d ht).keep hk.up (h2.refs t d ht), h2.refs⟩
    obtain ⟨g1, g2⟩ := h2.objs r o ho
    refine ⟨g1, ?_⟩
    rcases g2 with g2 | ⟨b', cs1, val', g3, g4, g5, g6, g7⟩
    · exact .inl g2
    · exact .inr ⟨b', cs1, val', g3, g4, g5, g6, fun i row j d q1 q2 => (g7 i row j d q1 q2).keep hk.up (h2.orefs r o row d ho (List.mem_of_getElem? q1) (List.mem_of_getElem? q2))⟩
  · have e0 : ∀ (L : List (Option Tmp × Eff)) (k : Nat) (s : AS), (∀ j, (Array.replicate l.toArray.size false).getD j false = false) → foldS (fun i => (Array.replicate l.toArray.size false).getD i false) k L s = s := by
      intro L
      induction L with
      | nil => intros; rfl
      | cons p L ih => intro k s h; obtain ⟨d, e⟩ := p; simp only [foldS, h k, cond_false]; exact ih _ _ h
    have hall : ∀ j, (Array.replicate l.toArray.size false).getD j false = false := by
      intro j
      by_cases h : j < l.length <;> simp [h]
    have hS : (S fun i => (Array.replicate l.toArray.size false).getD i false) = s := e0 L 0 s hall
    rw [hS]
    exact ⟨⟨⟨Nat.le_refl _, fun _ _ _ => rfl, fun _ _ h => h⟩, fun _ _ => rfl, fun b cs e hb => ⟨cs, hb, rfl⟩⟩, rfl, rfl, rfl⟩
end
end Go.Abs
