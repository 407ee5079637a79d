/- Regions that draw their order and in which several operations that make memory may come up at once: a rule over the sets of those that have come up. -/
import Derived.Test.YtcjnnonfnlemmaaDoorHeld
set_option linter.unusedVariables false
set_option linter.unusedSimpArgs false
namespace Go.Proofs.YtcjnnonfnlemmaaDoor
open Go.RowKit

section
variable {P : Program} {ops : Array Oper} {Q : Exit → Act → World → Prop} {md : Region.Mode} {S : World → Prop} {oi : Oper} {fuel : Nat} {listed : Array Bool} {a : Act} {w : World}
/-- The one operation that may come up is not wanted. -/
theorem skipH (i : Nat) (hi : ops[i]? = some oi) (hw : Region.wanted oi (yielded ops a.tmps) = false) (hr : Region.ready md ops listed = [i]) (d : Option Tmp) (hd : oi.dst = d) (hS : S w)
    (h : wpAnyH P md ops Q S fuel (listed.setIfInBounds i true) (a.put d undef) w) : wpAnyH P md ops Q S (fuel + 1) listed a w := by
  subst hd
  refine wpAnyH_ready (rs := [i]) hr (by simp) (AllReadyH.cons hi (fun K hK => ?_) AllReadyH.nil)
  rw [if_neg (by rw [hw]; simp)]
  exact hK.out _ _ hS (fun _ => h)
/-- The one operation that may come up stores an array; others follow. -/
theorem storeH1 (i : Nat) (hi : ops[i]? = some oi) (hw : Region.wanted oi (yielded ops a.tmps) = true) (hr : Region.ready md ops listed = [i])
    (ty : TypeId) (x y : Operand) (ho : oi.op = .store ty x y) (hd : oi.dst = none)
    (g off : Nat) (cs : Array Value) (hx : a.eval x = .pointer (some ⟨g, off, none⟩)) (hy : a.eval y = .agg cs) (hz : (P.info? ty).map (·.size) = some cs.size)
    (hc : ∀ j, j < cs.size → (w.cell? ⟨g, off + j, none⟩).isSome = true) (hf : ∀ j, j < cs.size → w.frozen? ⟨g, off + j, none⟩ = false) (h1 : ∀ v ∈ cs.toList, v.oneCell' = true)
    (h : ∀ w', w' = w.setCells g off cs.toList → S w' ∧ wpAnyH P md ops Q S fuel (listed.setIfInBounds i true) a w') : wpAnyH P md ops Q S (fuel + 1) listed a w := by
  refine wpAnyH_ready (rs := [i]) hr (by simp) (AllReadyH.cons hi (fun K hK => ?_) AllReadyH.nil)
  rw [if_pos hw]
  refine wp_store_piece ty x y ho hd g off cs hx hy hz hc hf h1 (fun w' hw' => ?_)
  obtain ⟨k1, k2⟩ := h w' hw'
  exact hK.out _ _ k1 (fun _ => k2)
end

section
variable {P : Program} {ops : Array Oper} {Q : Exit → Act → World → Prop} {md : Region.Mode} {S : World → Prop} {m m' : Nat} {v v' : Nat → Value}

/-- The frame in which the operations of the mask have answered. -/
def fillF (D : List (Nat × Tmp)) (m : Nat) (v : Nat → Value) (a : Act) : Act := D.foldl (fun a d => if m.testBit d.1 then a.put (some d.2) (v d.1) else a) a
def listF (D : List (Nat × Tmp)) (m : Nat) (l : Array Bool) : Array Bool := D.foldl (fun l d => if m.testBit d.1 then l.setIfInBounds d.1 true else l) l
def leftF (D : List (Nat × Tmp)) (m : Nat) : Nat := D.countP fun d => !m.testBit d.1
def updN (v : Nat → Value) (i : Nat) (x : Value) : Nat → Value := fun j => if j = i then x else v j

theorem put_fill (t : Tmp) (x : Value) : ∀ (D : List (Nat × Tmp)) (a : Act), (∀ d ∈ D, d.2 ≠ t) → (fillF D m v a).put (some t) x = fillF D m v (a.put (some t) x)
  | [], a, _ => rfl
  | d :: D, a, h => by
    show (fillF D m v (if m.testBit d.1 then a.put (some d.2) (v d.1) else a)).put (some t) x = fillF D m v (if m.testBit d.1 then (a.put (some t) x).put (some d.2) (v d.1) else a.put (some t) x)
    rw [put_fill t x D _ (fun e he => h e (by simp [he]))]
    split
    · rw [put_comm a d.2 t _ _ (h d (by simp))]
    · rfl
theorem fill_congr : ∀ (D : List (Nat × Tmp)) (a : Act), (∀ e ∈ D, m.testBit e.1 = m'.testBit e.1 ∧ v e.1 = v' e.1) → fillF D m v a = fillF D m' v' a
  | [], a, _ => rfl
  | d :: D, a, h => by
    show fillF D m v (if m.testBit d.1 then a.put (some d.2) (v d.1) else a) = fillF D m' v' (if m'.testBit d.1 then a.put (some d.2) (v' d.1) else a)
    obtain ⟨h1, h2⟩ := h d (by simp)
    rw [h1, h2]
    exact fill_congr D _ (fun e he => h e (by simp [he]))
theorem bit_or (m i j : Nat) : (m ||| 2 ^ i).testBit j = (m.testBit j || decide (i = j)) := by rw [Nat.testBit_or, Nat.testBit_two_pow]
theorem fill_put (x : Value) : ∀ (D : List (Nat × Tmp)) (a : Act), (D.map (·.1)).Nodup → (D.map (·.2)).Nodup → ∀ d ∈ D, m.testBit d.1 = false → (fillF D m v a).put (some d.2) x = fillF D (m ||| 2 ^ d.1) (updN v d.1 x) a
  | [], _, _, _, d, hd, _ => by cases hd
  | e :: D, a, h1, h2, d, hd, hm => by
    simp only [List.map_cons, List.nodup_cons] at h1 h2
    have same : ∀ d' ∈ D, d'.1 ≠ e.1 := fun d' hd' h => h1.1 (h ▸ List.mem_map_of_mem hd')
    have same2 : ∀ d' ∈ D, d'.2 ≠ e.2 := fun d' hd' h => h2.1 (h ▸ List.mem_map_of_mem hd')
    show (fillF D m v (if m.testBit e.1 then a.put (some e.2) (v e.1) else a)).put (some d.2) x = fillF D (m ||| 2 ^ d.1) (updN v d.1 x) (if (m ||| 2 ^ d.1).testBit e.1 then a.put (some e.2) (updN v d.1 x e.1) else a)
    rcases List.mem_cons.1 hd with rfl | hd'
    · rw [hm, bit_or, decide_eq_true rfl, Bool.or_true, if_pos rfl]
      simp only [Bool.false_eq_true, if_false, updN, if_true]
      rw [put_fill _ _ _ _ same2]
      refine fill_congr D _ (fun d' hd' => ⟨?_, ?_⟩)
      · rw [bit_or, decide_eq_false (fun h => same d' hd' h.symm), Bool.or_false]
      · exact (if_neg (same d' hd')).symm
    · have hne : d.1 ≠ e.1 := same d hd'
      rw [bit_or, decide_eq_false hne, Bool.or_false]
      have hv : updN v d.1 x e.1 = v e.1 := if_neg (fun h => hne h.symm)
      rw [hv]
      exact fill_put x D _ h1.2 h2.2 d hd' hm

theorem put_getD_ne (a : Act) (t u : Tmp) (x : Value) (h : t ≠ u) : (a.put (some t) x).tmps.getD u undef = a.tmps.getD u undef := by
  show (a.tmps.setIfInBounds t x).getD u undef = _
  simp [Array.getD_eq_getD_getElem?, Array.getElem?_setIfInBounds, h]
theorem put_getD_eq (a : Act) (t : Tmp) (x : Value) (h : t < a.tmps.size) : (a.put (some t) x).tmps.getD t undef = x := by
  show (a.tmps.setIfInBounds t x).getD t undef = _
  simp [Array.getD_eq_getD_getElem?, Array.getElem?_setIfInBounds, h]
theorem fill_other (u : Tmp) : ∀ (D : List (Nat × Tmp)) (a : Act), (∀ d ∈ D, d.2 ≠ u) → (fillF D m v a).tmps.getD u undef = a.tmps.getD u undef
  | [], _, _ => rfl
  | d :: D, a, h => by
    show (fillF D m v (if m.testBit d.1 then a.put (some d.2) (v d.1) else a)).tmps.getD u undef = _
    rw [fill_other u D _ (fun e he => h e (by simp [he]))]
    split
    · exact put_getD_ne a _ _ _ (h d (by simp))
    · rfl
theorem put_size (a : Act) (t : Tmp) (x : Value) : (a.put (some t) x).tmps.size = a.tmps.size := by
  show (a.tmps.setIfInBounds t x).size = _
  simp
theorem fill_get : ∀ (D : List (Nat × Tmp)) (a : Act), (D.map (·.2)).Nodup → ∀ d ∈ D, m.testBit d.1 = true → d.2 < a.tmps.size → (fillF D m v a).tmps.getD d.2 undef = v d.1
  | [], _, _, d, hd, _, _ => by cases hd
  | e :: D, a, h2, d, hd, hm, hs => by
    simp only [List.map_cons, List.nodup_cons] at h2
    have same2 : ∀ d' ∈ D, d'.2 ≠ e.2 := fun d' hd' h => h2.1 (h ▸ List.mem_map_of_mem hd')
    show (fillF D m v (if m.testBit e.1 then a.put (some e.2) (v e.1) else a)).tmps.getD d.2 undef = _
    rcases List.mem_cons.1 hd with rfl | hd'
    · rw [fill_other _ D _ same2, if_pos hm]
      exact put_getD_eq a _ _ hs
    · refine fill_get D _ h2.2 d hd' hm ?_
      split
      · rw [put_size]; exact hs
      · exact hs

/-- What may come up, whatever has: one of D that has not, its needs met. -/
def mixCheck (md : Region.Mode) (ops : Array Oper) (D : List (Nat × Tmp)) (l : Array Bool) (full : Nat) (need : Nat → Nat) (masks : List Nat) : Bool :=
  (leftF D full == 0) && (D.all fun d => full.testBit d.1) && masks.all fun m =>
    (m == full) || ((!(Region.ready md ops (listF D m l)).isEmpty) && (Region.ready md ops (listF D m l)).all fun i =>
      (D.any fun d => d.1 == i) && !m.testBit i && ((need i &&& m) == need i) && masks.contains (m ||| 2 ^ i) && ((listF D m l).setIfInBounds i true == listF D (m ||| 2 ^ i) l) && (leftF D (m ||| 2 ^ i) + 1 == leftF D m))

/-- The block that a pointer shows. -/
def ptrBlk : Value → Option Nat
  | .pointer (some a) => some a.block
  | _ => none
/-- What has been made lies, each in a block of its own. -/
def Apart (D : List (Nat × Tmp)) (m : Nat) (v : Nat → Value) (w : World) : Prop :=
  (∀ d ∈ D, m.testBit d.1 = true → ∀ g, ptrBlk (v d.1) = some g → g < w.heap.size) ∧
  ∀ d ∈ D, ∀ e ∈ D, m.testBit d.1 = true → m.testBit e.1 = true → d.1 ≠ e.1 → ∀ g, ptrBlk (v d.1) = some g → ptrBlk (v e.1) ≠ some g

theorem mix (D : List (Nat × Tmp)) (l : Array Bool) (full : Nat) (need : Nat → Nat) (masks : List Nat) (hchk : mixCheck md ops D l full need masks = true) (hD1 : (D.map (·.1)).Nodup) (hD2 : (D.map (·.2)).Nodup)
    (a : Act) (rest : Nat) (F : Nat → Value → World → Prop) (hF : ∀ i x w w', F i x w → Below w.heap.size w w' → F i x w') (hSB : ∀ w w', S w → Below w.heap.size w w' → S w')
    (step : ∀ d ∈ D, ∀ (m : Nat) (v : Nat → Value) (w : World), (need d.1 &&& m) = need d.1 → m.testBit d.1 = false → (∀ e ∈ D, m.testBit e.1 = true → F e.1 (v e.1) w) → S w → ∀ K : Act → World → Prop,
      (∀ x w', Below w.heap.size w w' → F d.1 x w' → (∀ g, ptrBlk x = some g → w.heap.size ≤ g ∧ g < w'.heap.size) → K ((fillF D m v a).put (some d.2) x) w') → wpOp P ops Q d.1 K (fillF D m v a) w)
    (hend : ∀ (v : Nat → Value) (w : World), S w → (∀ d ∈ D, F d.1 (v d.1) w) → Apart D full v w → wpAnyH P md ops Q S rest (listF D full l) (fillF D full v a) w) :
    ∀ (n m : Nat) (v : Nat → Value) (w : World), m ∈ masks → leftF D m = n → S w → (∀ d ∈ D, m.testBit d.1 = true → F d.1 (v d.1) w) → Apart D m v w → wpAnyH P md ops Q S (rest + n) (listF D m l) (fillF D m v a) w := by
  unfold mixCheck at hchk
  simp only [Bool.and_eq_true, beq_iff_eq, List.all_eq_true] at hchk
  obtain ⟨⟨hfull0, hfullD⟩, hall⟩ := hchk
  intro n
  induction n with
  | zero =>
    intro m v w hm hn hS hv hap
    have hc := hall m hm
    simp only [Bool.or_eq_true, beq_iff_eq, Bool.and_eq_true, Bool.not_eq_true', List.all_eq_true] at hc
    rcases hc with rfl | ⟨hne, hc⟩
    · exact hend v w hS (fun d hd => hv d hd (hfullD d hd)) hap
    · exfalso
      cases hr : Region.ready md ops (listF D m l) with
      | nil => rw [hr] at hne; simp at hne
      | cons i rs =>
        have := (hc i (by rw [hr]; simp)).2
        omega
  | succ n ih =>
    intro m v w hm hn hS hv hap
    have hc := hall m hm
    simp only [Bool.or_eq_true, beq_iff_eq, Bool.and_eq_true, Bool.not_eq_true', List.all_eq_true] at hc
    rcases hc with rfl | ⟨hne, hc⟩
    · omega
    · refine wpAnyH_all (fuel := rest + n) rfl (fun h => by rw [h] at hne; simp at hne) (fun i hi => ?_)
      obtain ⟨⟨⟨⟨⟨hany, hnot⟩, hneed⟩, hmem⟩, hlist⟩, hleft⟩ := hc i hi
      obtain ⟨d, hd, hdi⟩ := List.any_eq_true.1 hany
      have hdi : d.1 = i := by simpa using hdi
      subst hdi
      refine step d hd m v w hneed hnot hv hS _ (fun x w' hb hx hfr => ⟨hSB w w' hS hb, ?_⟩)
      rw [hlist, fill_put x D a hD1 hD2 d hd hnot]
      refine ih (m ||| 2 ^ d.1) (updN v d.1 x) w' (by simpa using hmem) (by omega) (hSB w w' hS hb) (fun e he hbit => ?_) ?_
      rotate_left
      · have hold : ∀ e : Nat × Tmp, e.1 ≠ d.1 → (m ||| 2 ^ d.1).testBit e.1 = true → m.testBit e.1 = true := fun e h hbit => by
          rw [bit_or, decide_eq_false (fun h' => h h'.symm), Bool.or_false] at hbit; exact hbit
        have hvo : ∀ e : Nat × Tmp, e.1 ≠ d.1 → updN v d.1 x e.1 = v e.1 := fun e h => if_neg h
        have hvn : updN v d.1 x d.1 = x := if_pos rfl
        refine ⟨fun e he hbit g hg => ?_, fun e he f hf hbe hbf hne g hg hg' => ?_⟩
        · by_cases h : e.1 = d.1
          · rw [h, hvn] at hg; exact (hfr g hg).2
          · rw [hvo e h] at hg
            exact Nat.lt_of_lt_of_le (hap.1 e he (hold e h hbit) g hg) hb.size
        · by_cases h1 : e.1 = d.1
          · have h2 : f.1 ≠ d.1 := fun h => hne (h1.trans h.symm)
            rw [h1, hvn] at hg
            rw [hvo f h2] at hg'
            have := hap.1 f hf (hold f h2 hbf) g hg'
            have := (hfr g hg).1
            omega
          · rw [hvo e h1] at hg
            by_cases h2 : f.1 = d.1
            · rw [h2, hvn] at hg'
              have := hap.1 e he (hold e h1 hbe) g hg
              have := (hfr g hg').1
              omega
            · rw [hvo f h2] at hg'
              exact hap.2 e he f hf (hold e h1 hbe) (hold f h2 hbf) hne g hg hg'
      by_cases h : e.1 = d.1
      · rw [h]
        simp only [updN, if_true]
        exact hx
      · rw [bit_or, decide_eq_false (fun h' => h h'.symm), Bool.or_false] at hbit
        simp only [updN, if_neg h]
        exact hF _ _ _ _ (hv e he hbit) hb

theorem fill_zero : ∀ (D : List (Nat × Tmp)) (a : Act), fillF D 0 v a = a
  | [], _ => rfl
  | d :: D, a => by
    show fillF D 0 v (if (0 : Nat).testBit d.1 then _ else a) = a
    rw [Nat.zero_testBit]
    exact fill_zero D a
theorem list_zero : ∀ (D : List (Nat × Tmp)) (l : Array Bool), listF D 0 l = l
  | [], _ => rfl
  | d :: D, l => by
    show listF D 0 (if (0 : Nat).testBit d.1 then _ else l) = l
    rw [Nat.zero_testBit]
    exact list_zero D l

theorem mix6 (D : List (Nat × Tmp)) (l : Array Bool) (full : Nat) (need : Nat → Nat) (masks : List Nat) (hchk : mixCheck md ops D l full need masks = true) (hD1 : (D.map (·.1)).Nodup) (hD2 : (D.map (·.2)).Nodup)
    (h0 : masks.contains 0 = true) (hn : leftF D 0 = 6)
    (a : Act) (rest : Nat) (F : Nat → Value → World → Prop) (hF : ∀ i x w w', F i x w → Below w.heap.size w w' → F i x w') (hSB : ∀ w w', S w → Below w.heap.size w w' → S w')
    (step : ∀ d ∈ D, ∀ (m : Nat) (v : Nat → Value) (w : World), (need d.1 &&& m) = need d.1 → m.testBit d.1 = false → (∀ e ∈ D, m.testBit e.1 = true → F e.1 (v e.1) w) → S w → ∀ K : Act → World → Prop,
      (∀ x w', Below w.heap.size w w' → F d.1 x w' → (∀ g, ptrBlk x = some g → w.heap.size ≤ g ∧ g < w'.heap.size) → K ((fillF D m v a).put (some d.2) x) w') → wpOp P ops Q d.1 K (fillF D m v a) w)
    (hend : ∀ (v : Nat → Value) (w : World), S w → (∀ d ∈ D, F d.1 (v d.1) w) → Apart D full v w → wpAnyH P md ops Q S rest (listF D full l) (fillF D full v a) w)
    (w : World) (hS : S w) : wpAnyH P md ops Q S (rest + 1 + 1 + 1 + 1 + 1 + 1) l a w := by
  have h := mix D l full need masks hchk hD1 hD2 a rest F hF hSB step hend 6 0 (fun _ => undef) w (by simpa using h0) hn hS (fun d _ h => by rw [Nat.zero_testBit] at h; cases h)
    ⟨(fun d _ h => by rw [Nat.zero_testBit] at h; cases h), (fun d _ e _ h => by rw [Nat.zero_testBit] at h; cases h)⟩
  rw [list_zero, fill_zero] at h
  exact h
theorem bit_need {i m : Nat} (h : (2 ^ i &&& m) = 2 ^ i) : m.testBit i = true := by
  have e : (2 ^ i &&& m).testBit i = true := by rw [h, Nat.testBit_two_pow]; simp
  rw [Nat.testBit_and] at e
  exact (Bool.and_eq_true _ _ ▸ e).2
/-- The frame by a letter. -/
theorem wpAnyH_frame {fuel : Nat} {l : Array Bool} {a : Act} {w : World} (h : ∀ a0, a0 = a → wpAnyH P md ops Q S fuel l a0 w) : wpAnyH P md ops Q S fuel l a w := h a rfl
theorem wanted_none {o : Oper} {y : _} (h : o.guard = none) : Region.wanted o y = true := by
  unfold Region.wanted
  rw [h]
end
end Go.Proofs.YtcjnnonfnlemmaaDoor
