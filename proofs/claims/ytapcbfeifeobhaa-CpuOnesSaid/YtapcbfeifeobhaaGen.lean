/- Regions that draw their order: what holds of the worlds may hang on what has come up; operations that change the world in whatever order, by an invariant over those that have come up. -/
import Derived.Test.YtapcbfeifeobhaaRun
import Derived.Test.YtapcbfeifeobhaaHeld
set_option linter.unusedVariables false
set_option linter.unusedSimpArgs false
namespace Go.Proofs.Ytapcbfeifeobhaa
open Go.RowKit

section
variable {P : Program} {ops : Array Oper} {Q : Exit → Act → World → Prop} {md : Region.Mode} {S S' : Array Bool → World → Prop} {T : World → Prop}

/-- Whatever order is picked, and S of what has come up holds behind every operation. -/
def wpAnyG (P : Program) (md : Region.Mode) (ops : Array Oper) (Q : Exit → Act → World → Prop) (S : Array Bool → World → Prop) : Nat → Array Bool → Act → World → Prop
  | 0, listed, a, w => Region.ready md ops listed = [] ∧ Q .normal a w
  | fuel + 1, listed, a, w =>
    (Region.ready md ops listed = [] → Q .normal a w) ∧
    ∀ i ∈ Region.ready md ops listed, wpOp P ops Q i (fun a' w' => S (listed.setIfInBounds i true) w' ∧ wpAnyG P md ops Q S fuel (listed.setIfInBounds i true) a' w') a w

theorem wpAny_of_gen : ∀ (fuel : Nat) (listed : Array Bool) (a : Act) (w : World), wpAnyG P md ops Q S fuel listed a w → wpAny P md ops Q fuel listed a w
  | 0, _, _, _, h => h
  | fuel + 1, _, _, _, h => ⟨h.1, fun i hi => wpOp_mono (fun a' w' h' => wpAny_of_gen fuel _ a' w' h'.2) (h.2 i hi)⟩

/-- Number j waits for number i. -/
def waitsOn (md : Region.Mode) (ops : Array Oper) (i j : Nat) : Bool :=
  match ops[j]? with
  | some o => o.after.any fun e => Region.binds md e && e.on == i
  | none => false

/-- An operation may be taken first that yields its value in every world that meets T; T follows from S while those of ws, which wait for it, have not come up. -/
theorem wpAnyG_first {i : Nat} {oi : Oper} {v : Value} (ws : List Nat) (hws : ws.all (waitsOn md ops i) = true) (hC : ∀ l w, S (l.setIfInBounds i true) w → S l w)
    (hT : ∀ l w, (∀ j ∈ ws, l.getD j true = false) → S l w → T w)
    (hi : ops[i]? = some oi) (hsel : ∀ (j : Nat) (o : Oper) cs b, ops[j]? = some o → o.op ≠ .select cs b)
    (hQ : ∀ c a w, Q (.panic c) (a.put oi.dst v) w → Q (.panic c) a w) :
    ∀ (fuel : Nat) (listed : Array Bool) (a : Act) (w : World),
      (∀ j oj, ops[j]? = some oj → j ≠ i → listed.getD j true = false → (∀ e ∈ oj.after, Region.binds md e = true → e.on ≠ i) → oi.apart ops oj = true) →
      i ∈ Region.ready md ops listed → (∀ j ∈ ws, listed.getD j true = false) → YieldsIf P ops T oi v a → S listed w → S (listed.setIfInBounds i true) w →
      wpAnyG P md ops Q S fuel (listed.setIfInBounds i true) (a.put oi.dst v) w → wpAnyG P md ops Q S (fuel + 1) listed a w := by
  intro fuel
  induction fuel with
  | zero =>
    intro listed a w _ hr hw0 hy hS hS1 H
    refine ⟨fun h => (by rw [h] at hr; cases hr), fun j hj => ?_⟩
    by_cases hji : j = i
    · subst hji; exact hy.wpOp hi (hT _ _ hw0 hS) ⟨hS1, H⟩
    · have := ready_mono hj hji
      rw [H.1] at this
      cases this
  | succ fuel ih =>
    intro listed a w hfree hr hw0 hy hS hS1 H
    refine ⟨fun h => (by rw [h] at hr; cases hr), fun j hj => ?_⟩
    by_cases hji : j = i
    · subst hji; exact hy.wpOp hi (hT _ _ hw0 hS) ⟨hS1, H⟩
    · have h1 := H.2 j (ready_mono hj hji)
      obtain ⟨hjun, oj, hoj, hall⟩ := mem_ready.1 hj
      have hnot : ∀ e ∈ oj.after, Region.binds md e = true → e.on ≠ i := fun e he hb heq => by
        have h1 := hall e he hb
        have h0 := (mem_ready.1 hr).1
        rw [heq] at h1
        rcases Nat.lt_or_ge i listed.size with h' | h'
        · simp [h'] at h0 h1; rw [h0] at h1; cases h1
        · simp [Array.getElem?_eq_none h'] at h1
      have h2 := wpOp_putIf hoj (hfree j oj hoj hji hjun hnot) (fun cs b => hsel i oi cs b hi) (fun cs b => hsel j oj cs b hoj) hQ hy h1
      have hfree' : ∀ k ok, ops[k]? = some ok → k ≠ i → (listed.setIfInBounds j true).getD k true = false →
          (∀ e ∈ ok.after, Region.binds md e = true → e.on ≠ i) → oi.apart ops ok = true := fun k ok hk hki hun hno => by
        refine hfree k ok hk hki ?_ hno
        by_cases hjk : j = k
        · subst hjk; exact hjun
        · rw [getD_set_ne true hjk] at hun; exact hun
      have hw1 : ∀ k ∈ ws, (listed.setIfInBounds j true).getD k true = false := fun k hk => by
        by_cases hjk : j = k
        · exfalso
          subst hjk
          have := List.all_eq_true.1 hws j hk
          unfold waitsOn at this
          rw [hoj] at this
          simp only [Array.any_eq_true', Bool.and_eq_true, beq_iff_eq] at this
          obtain ⟨e, he, hb, heq⟩ := this
          exact hnot e he hb heq
        · rw [getD_set_ne true hjk]; exact hw0 k hk
      refine wpOp_mono (fun a' w' h3 => ?_) h2
      have hSj : S ((listed.setIfInBounds j true).setIfInBounds i true) w' := by rw [Array.setIfInBounds_comm _ _ hji]; exact h3.2.1
      refine ⟨hC _ _ hSj, ih (listed.setIfInBounds j true) a' w' hfree' (ready_mono hr (Ne.symm hji)) hw1 h3.1 (hC _ _ hSj) hSj ?_⟩
      rw [Array.setIfInBounds_comm _ _ hji]
      exact h3.2.2

/-- The beginning. -/
theorem wp_region_gen {id : Nat} {a : Act} {w : World} (hm : P.follows .mixedOrders = true)
    (h : wpAnyG P .any ops Q S ops.size (Array.replicate ops.size false) a w.drew) : (Code.region id ops true).wp P Q a w :=
  wp_region_any hm (wpAny_of_gen _ _ _ _ h)

theorem wpAnyG_done {listed : Array Bool} {a : Act} {w : World} (hr : Region.ready md ops listed = []) (h : Q .normal a w) : ∀ fuel, wpAnyG P md ops Q S fuel listed a w
  | 0 => ⟨hr, h⟩
  | _ + 1 => ⟨fun _ => h, by rw [hr]; simp⟩

variable {oi : Oper} {fuel : Nat} {listed : Array Bool} {a : Act} {w w' : World}

theorem wpAnyG_one (i : Nat) (hr : Region.ready md ops listed = [i]) (h : wpOp P ops Q i (fun a' w' => S (listed.setIfInBounds i true) w' ∧ wpAnyG P md ops Q S fuel (listed.setIfInBounds i true) a' w') a w) : wpAnyG P md ops Q S (fuel + 1) listed a w :=
  ⟨fun h0 => (by rw [hr] at h0; cases h0), fun j hj => by rw [hr] at hj; simp only [List.mem_cons, List.not_mem_nil, or_false] at hj; subst hj; exact h⟩

/-- The facts of a region: those that hold throughout, and those that hold until a number has come up. -/
def Stage (F0 : World → Prop) (gs : List (Nat × (World → Prop))) (l : Array Bool) (w : World) : Prop := F0 w ∧ ∀ p ∈ gs, l.getD p.1 true = false → p.2 w
theorem Stage.set {F0 : World → Prop} {gs : List (Nat × (World → Prop))} {i : Nat} (h : gs.all (fun p => p.1 != i) = true) (l : Array Bool) (w : World) : Stage F0 gs (l.setIfInBounds i true) w ↔ Stage F0 gs l w := by
  have key : ∀ p ∈ gs, (l.setIfInBounds i true).getD p.1 true = l.getD p.1 true := fun p hp => by
    have := List.all_eq_true.1 h p hp
    exact getD_set_ne true (by simpa using this : p.1 ≠ i).symm
  constructor
  · rintro ⟨h0, h1⟩
    exact ⟨h0, fun p hp hl => h1 p hp (by rw [key p hp]; exact hl)⟩
  · rintro ⟨h0, h1⟩
    exact ⟨h0, fun p hp hl => h1 p hp (by rw [← key p hp]; exact hl)⟩
theorem Stage.nil {F0 : World → Prop} {l : Array Bool} {w : World} (h : F0 w) : Stage F0 [] l w := ⟨h, fun p hp => by cases hp⟩
theorem Stage.one {F0 F1 : World → Prop} {g : Nat} {l : Array Bool} {w : World} (h : F0 w) (h1 : l.getD g true = false → F1 w) : Stage F0 [(g, F1)] l w :=
  ⟨h, fun p hp hl => by simp only [List.mem_cons, List.not_mem_nil, or_false] at hp; subst hp; exact h1 hl⟩
theorem Stage.late {F0 F1 : World → Prop} {g : Nat} {l : Array Bool} {w : World} (h : F0 w) (hl : l.getD g true = true) : Stage F0 [(g, F1)] l w := Stage.one h (fun h' => by rw [hl] at h'; cases h')
theorem Stage.two {F0 F1 F2 : World → Prop} {g g2 : Nat} {l : Array Bool} {w : World} (h : F0 w) (h1 : l.getD g true = false → F1 w) (h2 : l.getD g2 true = false → F2 w) : Stage F0 [(g, F1), (g2, F2)] l w :=
  ⟨h, fun p hp hl => by
    simp only [List.mem_cons, List.not_mem_nil, or_false] at hp
    rcases hp with rfl | rfl
    · exact h1 hl
    · exact h2 hl⟩

/-- Take number i first: its value hangs on what holds throughout. -/
theorem takeG {F0 : World → Prop} {gs : List (Nat × (World → Prop))} (i : Nat) (v : Value) (d : Option Tmp) (hi : ops[i]? = some oi) (hd : oi.dst = d)
    (hs : Region.noSelect ops = true) (hf : Region.free md ops listed i = true) (hr : (Region.ready md ops listed).contains i = true) (hg : gs.all (fun p => p.1 != i) = true)
    (hQ : ∀ c a w, Q (.panic c) (a.put d v) w → Q (.panic c) a w) (hy : YieldsIf P ops F0 oi v a) (hS : Stage F0 gs listed w)
    (h : wpAnyG P md ops Q (Stage F0 gs) fuel (listed.setIfInBounds i true) (a.put d v) w) : wpAnyG P md ops Q (Stage F0 gs) (fuel + 1) listed a w := by
  subst hd
  exact wpAnyG_first [] rfl (fun l w hl => (Stage.set hg l w).1 hl) (fun l w _ hl => hl.1) hi (Region.noSelect_spec hs) hQ fuel listed a w (Region.free_spec hi hf) (by simpa using hr) (by simp) hy hS ((Stage.set hg _ _).2 hS) h

/-- Take number i first: its value hangs on a fact that holds until number g, which waits for it, comes up. -/
theorem takeUntil {F0 F1 : World → Prop} {gs : List (Nat × (World → Prop))} (i g : Nat) (hmem : (g, F1) ∈ gs) (hw : waitsOn md ops i g = true) (hl : listed.getD g true = false) (v : Value) (d : Option Tmp) (hi : ops[i]? = some oi) (hd : oi.dst = d)
    (hs : Region.noSelect ops = true) (hf : Region.free md ops listed i = true) (hr : (Region.ready md ops listed).contains i = true) (hg : gs.all (fun p => p.1 != i) = true)
    (hQ : ∀ c a w, Q (.panic c) (a.put d v) w → Q (.panic c) a w) (hy : YieldsIf P ops (fun w => F0 w ∧ F1 w) oi v a) (hS : Stage F0 gs listed w)
    (h : wpAnyG P md ops Q (Stage F0 gs) fuel (listed.setIfInBounds i true) (a.put d v) w) : wpAnyG P md ops Q (Stage F0 gs) (fuel + 1) listed a w := by
  subst hd
  exact wpAnyG_first [g] (by simp [hw]) (fun l w hl => (Stage.set hg l w).1 hl) (fun l w hlg hl => ⟨hl.1, hl.2 _ hmem (hlg g (by simp))⟩) hi (Region.noSelect_spec hs) hQ fuel listed a w (Region.free_spec hi hf) (by simpa using hr) (by simpa using hl) hy hS ((Stage.set hg _ _).2 hS) h

/-- The one operation that may come up: it is not wanted; its run is known; it calls. -/
theorem skipG (i : Nat) (hi : ops[i]? = some oi) (hw : Region.wanted oi (yielded ops a.tmps) = false) (hr : Region.ready md ops listed = [i]) (d : Option Tmp) (hd : oi.dst = d) (hS : S (listed.setIfInBounds i true) w)
    (h : wpAnyG P md ops Q S fuel (listed.setIfInBounds i true) (a.put d undef) w) : wpAnyG P md ops Q S (fuel + 1) listed a w := by
  subst hd
  refine wpAnyG_one i hr (wpOp_step hi (fun K hK => ?_))
  rw [if_neg (by rw [hw]; simp)]
  exact hK _ _ ⟨hS, h⟩
theorem runG (i : Nat) (v : Value) (d : Option Tmp) (hi : ops[i]? = some oi) (hw : Region.wanted oi (yielded ops a.tmps) = true) (hr : Region.ready md ops listed = [i]) (hd : oi.dst = d)
    (hrun : (execOp a.eval oi).run P w = .ok (.value v) w') (hS : S (listed.setIfInBounds i true) w')
    (h : wpAnyG P md ops Q S fuel (listed.setIfInBounds i true) (a.put d v) w') : wpAnyG P md ops Q S (fuel + 1) listed a w := by
  subst hd
  refine wpAnyG_one i hr (wpOp_step hi (fun K hK => ?_))
  rw [if_pos hw]
  unfold Oper.wp
  rw [hrun]
  exact hK _ _ ⟨hS, h⟩
theorem runSkipG (i : Nat) (hi : ops[i]? = some oi) (hw : Region.wanted oi (yielded ops a.tmps) = true) (hr : Region.ready md ops listed = [i]) (hd : oi.dst = none)
    (hrun : (execOp a.eval oi).run P w = .ok .skip w') (hS : S (listed.setIfInBounds i true) w')
    (h : wpAnyG P md ops Q S fuel (listed.setIfInBounds i true) a w') : wpAnyG P md ops Q S (fuel + 1) listed a w := by
  refine wpAnyG_one i hr (wpOp_step hi (fun K hK => ?_))
  rw [if_pos hw]
  unfold Oper.wp
  rw [hrun]
  show K (a.put oi.dst undef) _
  rw [hd]
  exact hK _ _ ⟨hS, h⟩
theorem callG (i : Nat) (hi : ops[i]? = some oi) (hw : Region.wanted oi (yielded ops a.tmps) = true) (hr : Region.ready md ops listed = [i]) (d : Option Tmp) (hd : oi.dst = d) (f : FuncId) (args : Array Value)
    (hrun : (execOp a.eval oi).run P w = .ok (.enter f args) w)
    (hc : Calls P f args w (fun e w' => ∃ v, e = .returned v ∧ S (listed.setIfInBounds i true) w' ∧ wpAnyG P md ops Q S fuel (listed.setIfInBounds i true) (a.put d v) w')) : wpAnyG P md ops Q S (fuel + 1) listed a w := by
  subst hd
  refine wpAnyG_one i hr (wpOp_step hi (fun K hK => ?_))
  rw [if_pos hw]
  unfold Oper.wp
  rw [hrun, Oper.upon_enter]
  refine hc.mono fun e w'' hh => ?_
  obtain ⟨v, rfl, hS, h⟩ := hh
  exact hK _ _ ⟨hS, h⟩
/-- What holds of the worlds is made stronger. -/
theorem wpAnyG_mono (h : ∀ l w, S' l w → S l w) : ∀ (fuel : Nat) (listed : Array Bool) (a : Act) (w : World), wpAnyG P md ops Q S' fuel listed a w → wpAnyG P md ops Q S fuel listed a w
  | 0, _, _, _, hh => hh
  | fuel + 1, listed, a, w, hh => ⟨hh.1, fun i hi => wpOp_mono (fun a' w' h3 => ⟨h _ _ h3.1, wpAnyG_mono h fuel _ a' w' h3.2⟩) (hh.2 i hi)⟩
theorem wpAnyG_frame (h : ∀ a0, a0 = a → wpAnyG P md ops Q S fuel listed a0 w) : wpAnyG P md ops Q S fuel listed a w := h a rfl
end

/-! ### A store that has no result -/
theorem exec_store_cell {P : Program} {ρ : Operand → Value} {o : Oper} {w : World} (ty : TypeId) (x y : Operand) (ho : o.op = .store ty x y) (g off : Nat) (v : Value) (hx : ρ x = .pointer (some ⟨g, off, none⟩)) (hy : ρ y = v)
    (hu : (match P.underlying ty with | some (.struct _) | some (.array _ _) => false | some _ => true | none => false) = true) (hi : (P.info? ty).map (·.size) = some 1) (h1 : v.oneCell' = true)
    (hc : (w.cell? ⟨g, off, none⟩).isSome = true) (hf : w.frozen? ⟨g, off, none⟩ = false) : (execOp ρ o).run P w = .ok .skip (w.setCell ⟨g, off, none⟩ v) := by
  have hst := run_storeCells_cells (P := P) g off [v] 0 w (fun j hj => by simp at hj; subst hj; simpa using hc) (fun j hj => by simp at hj; subst hj; simpa using hf) (by simpa using h1)
  cases hq : P.info? ty with
  | none => simp [hq] at hi
  | some i =>
    have hs : i.size = 1 := by simpa [hq] using hi
    have hcells : v.cells = #[v] := by
      cases v <;> simp_all [Value.cells, Value.oneCell']
    have hst' : (storeVar ty ⟨g, off, none⟩ v).run P w = .ok () (w.setCell ⟨g, off, none⟩ v) := by
      simp [storeVar, sizeOf, typeInfo, hq, hs, hcells]
      simpa [World.setCells] using hst
    unfold execOp
    simp only [ho, hx, hy, Instr.storeAt, Instr.sureAddr, Sem.run_bind, Sem.run_pure, Result.andThen_ok, hst']

/-! ### Operations in whatever order, by an invariant over the set of those that have come up -/
section
variable {P : Program} {ops : Array Oper} {Q : Exit → Act → World → Prop} {md : Region.Mode} {S : Array Bool → World → Prop} {m m' : Nat} {v v' : Nat → Value}

/-- The frame in which the operations of the mask have answered. -/
def fillF (D : List (Nat × Tmp)) (m : Nat) (v : Nat → Value) (a : Act) : Act := D.foldl (fun a d => if m.testBit d.1 then a.put (some d.2) (v d.1) else a) a
def listF (D : List (Nat × Tmp)) (m : Nat) (l : Array Bool) : Array Bool := D.foldl (fun l d => if m.testBit d.1 then l.setIfInBounds d.1 true else l) l
def leftF (D : List (Nat × Tmp)) (m : Nat) : Nat := D.countP fun d => !m.testBit d.1
def updN (v : Nat → Value) (i : Nat) (x : Value) : Nat → Value := fun j => if j = i then x else v j

theorem put_fill (t : Tmp) (x : Value) : ∀ (D : List (Nat × Tmp)) (a : Act), (∀ d ∈ D, d.2 ≠ t) → (fillF D m v a).put (some t) x = fillF D m v (a.put (some t) x)
  | [], a, _ => rfl
  | d :: D, a, h => by
    show (fillF D m v (if m.testBit d.1 then a.put (some d.2) (v d.1) else a)).put (some t) x = fillF D m v (if m.testBit d.1 then (a.put (some t) x).put (some d.2) (v d.1) else a.put (some t) x)
    rw [put_fill t x D _ (fun e he => h e (by simp [he]))]
    split
    · rw [put_comm a d.2 t _ _ (h d (by simp))]
    · rfl
theorem fill_congr : ∀ (D : List (Nat × Tmp)) (a : Act), (∀ e ∈ D, m.testBit e.1 = m'.testBit e.1 ∧ v e.1 = v' e.1) → fillF D m v a = fillF D m' v' a
  | [], a, _ => rfl
  | d :: D, a, h => by
    show fillF D m v (if m.testBit d.1 then a.put (some d.2) (v d.1) else a) = fillF D m' v' (if m'.testBit d.1 then a.put (some d.2) (v' d.1) else a)
    obtain ⟨h1, h2⟩ := h d (by simp)
    rw [h1, h2]
    exact fill_congr D _ (fun e he => h e (by simp [he]))
theorem bit_or (m i j : Nat) : (m ||| 2 ^ i).testBit j = (m.testBit j || decide (i = j)) := by rw [Nat.testBit_or, Nat.testBit_two_pow]
theorem fill_put (x : Value) : ∀ (D : List (Nat × Tmp)) (a : Act), (D.map (·.1)).Nodup → (D.map (·.2)).Nodup → ∀ d ∈ D, m.testBit d.1 = false → (fillF D m v a).put (some d.2) x = fillF D (m ||| 2 ^ d.1) (updN v d.1 x) a
  | [], _, _, _, d, hd, _ => by cases hd
  | e :: D, a, h1, h2, d, hd, hm => by
    simp only [List.map_cons, List.nodup_cons] at h1 h2
    have same : ∀ d' ∈ D, d'.1 ≠ e.1 := fun d' hd' h => h1.1 (h ▸ List.mem_map_of_mem hd')
    have same2 : ∀ d' ∈ D, d'.2 ≠ e.2 := fun d' hd' h => h2.1 (h ▸ List.mem_map_of_mem hd')
    show (fillF D m v (if m.testBit e.1 then a.put (some e.2) (v e.1) else a)).put (some d.2) x = fillF D (m ||| 2 ^ d.1) (updN v d.1 x) (if (m ||| 2 ^ d.1).testBit e.1 then a.put (some e.2) (updN v d.1 x e.1) else a)
    rcases List.mem_cons.1 hd with rfl | hd'
    · rw [hm, bit_or, decide_eq_true rfl, Bool.or_true, if_pos rfl]
      simp only [Bool.false_eq_true, if_false, updN, if_true]
      rw [put_fill _ _ _ _ same2]
      refine fill_congr D _ (fun d' hd' => ⟨?_, ?_⟩)
      · rw [bit_or, decide_eq_false (fun h => same d' hd' h.symm), Bool.or_false]
      · exact (if_neg (same d' hd')).symm
    · have hne : d.1 ≠ e.1 := same d hd'
      rw [bit_or, decide_eq_false hne, Bool.or_false]
      have hv : updN v d.1 x e.1 = v e.1 := if_neg (fun h => hne h.symm)
      rw [hv]
      exact fill_put x D _ h1.2 h2.2 d hd' hm

theorem put_getD_ne (a : Act) (t u : Tmp) (x : Value) (h : t ≠ u) : (a.put (some t) x).tmps.getD u undef = a.tmps.getD u undef := by
  show (a.tmps.setIfInBounds t x).getD u undef = _
  simp [Array.getD_eq_getD_getElem?, Array.getElem?_setIfInBounds, h]
theorem put_getD_eq (a : Act) (t : Tmp) (x : Value) (h : t < a.tmps.size) : (a.put (some t) x).tmps.getD t undef = x := by
  show (a.tmps.setIfInBounds t x).getD t undef = _
  simp [Array.getD_eq_getD_getElem?, Array.getElem?_setIfInBounds, h]
theorem fill_other (u : Tmp) : ∀ (D : List (Nat × Tmp)) (a : Act), (∀ d ∈ D, d.2 ≠ u) → (fillF D m v a).tmps.getD u undef = a.tmps.getD u undef
  | [], _, _ => rfl
  | d :: D, a, h => by
    show (fillF D m v (if m.testBit d.1 then a.put (some d.2) (v d.1) else a)).tmps.getD u undef = _
    rw [fill_other u D _ (fun e he => h e (by simp [he]))]
    split
    · exact put_getD_ne a _ _ _ (h d (by simp))
    · rfl
theorem put_size (a : Act) (t : Tmp) (x : Value) : (a.put (some t) x).tmps.size = a.tmps.size := by
  show (a.tmps.setIfInBounds t x).size = _
  simp
theorem fill_get : ∀ (D : List (Nat × Tmp)) (a : Act), (D.map (·.2)).Nodup → ∀ d ∈ D, m.testBit d.1 = true → d.2 < a.tmps.size → (fillF D m v a).tmps.getD d.2 undef = v d.1
  | [], _, _, d, hd, _, _ => by cases hd
  | e :: D, a, h2, d, hd, hm, hs => by
    simp only [List.map_cons, List.nodup_cons] at h2
    have same2 : ∀ d' ∈ D, d'.2 ≠ e.2 := fun d' hd' h => h2.1 (h ▸ List.mem_map_of_mem hd')
    show (fillF D m v (if m.testBit e.1 then a.put (some e.2) (v e.1) else a)).tmps.getD d.2 undef = _
    rcases List.mem_cons.1 hd with rfl | hd'
    · rw [fill_other _ D _ same2, if_pos hm]
      exact put_getD_eq a _ _ hs
    · refine fill_get D _ h2.2 d hd' hm ?_
      split
      · rw [put_size]; exact hs
      · exact hs

/-- What may come up, whatever has: one of D that has not, its needs met. -/
def mixCheck (md : Region.Mode) (ops : Array Oper) (D : List (Nat × Tmp)) (l : Array Bool) (full : Nat) (need : Nat → Nat) (masks : List Nat) : Bool :=
  (leftF D full == 0) && (D.all fun d => full.testBit d.1) && masks.all fun m =>
    (m == full) || ((!(Region.ready md ops (listF D m l)).isEmpty) && (Region.ready md ops (listF D m l)).all fun i =>
      (D.any fun d => d.1 == i) && !m.testBit i && ((need i &&& m) == need i) && masks.contains (m ||| 2 ^ i) && ((listF D m l).setIfInBounds i true == listF D (m ||| 2 ^ i) l) && (leftF D (m ||| 2 ^ i) + 1 == leftF D m))

theorem fill_zero : ∀ (D : List (Nat × Tmp)) (a : Act), fillF D 0 v a = a
  | [], _ => rfl
  | d :: D, a => by
    show fillF D 0 v (if (0 : Nat).testBit d.1 then _ else a) = a
    rw [Nat.zero_testBit]
    exact fill_zero D a
theorem list_zero : ∀ (D : List (Nat × Tmp)) (l : Array Bool), listF D 0 l = l
  | [], _ => rfl
  | d :: D, l => by
    show listF D 0 (if (0 : Nat).testBit d.1 then _ else l) = l
    rw [Nat.zero_testBit]
    exact list_zero D l

theorem bit_need {i m : Nat} (h : (2 ^ i &&& m) = 2 ^ i) : m.testBit i = true := by
  have e : (2 ^ i &&& m).testBit i = true := by rw [h, Nat.testBit_two_pow]; simp
  rw [Nat.testBit_and] at e
  exact (Bool.and_eq_true _ _ ▸ e).2
theorem mixG (D : List (Nat × Tmp)) (l : Array Bool) (full : Nat) (need : Nat → Nat) (masks : List Nat) (hchk : mixCheck md ops D l full need masks = true) (hD1 : (D.map (·.1)).Nodup) (hD2 : (D.map (·.2)).Nodup)
    (a : Act) (rest : Nat) (Inv : Nat → (Nat → Value) → World → Prop) (hS : ∀ m v w, Inv m v w → S (listF D m l) w)
    (step : ∀ d ∈ D, ∀ (m : Nat) (v : Nat → Value) (w : World), (need d.1 &&& m) = need d.1 → m.testBit d.1 = false → Inv m v w → ∀ K : Act → World → Prop,
      (∀ x w', Inv (m ||| 2 ^ d.1) (updN v d.1 x) w' → K ((fillF D m v a).put (some d.2) x) w') → wpOp P ops Q d.1 K (fillF D m v a) w)
    (hend : ∀ (v : Nat → Value) (w : World), Inv full v w → wpAnyG P md ops Q S rest (listF D full l) (fillF D full v a) w) :
    ∀ (n m : Nat) (v : Nat → Value) (w : World), m ∈ masks → leftF D m = n → Inv m v w → wpAnyG P md ops Q S (rest + n) (listF D m l) (fillF D m v a) w := by
  unfold mixCheck at hchk
  simp only [Bool.and_eq_true, beq_iff_eq, List.all_eq_true] at hchk
  obtain ⟨⟨hfull0, hfullD⟩, hall⟩ := hchk
  intro n
  induction n with
  | zero =>
    intro m v w hm hn hI
    have hc := hall m hm
    simp only [Bool.or_eq_true, beq_iff_eq, Bool.and_eq_true, Bool.not_eq_true', List.all_eq_true] at hc
    rcases hc with rfl | ⟨hne, hc⟩
    · exact hend v w hI
    · exfalso
      cases hr : Region.ready md ops (listF D m l) with
      | nil => rw [hr] at hne; simp at hne
      | cons i rs =>
        have := (hc i (by rw [hr]; simp)).2
        omega
  | succ n ih =>
    intro m v w hm hn hI
    have hc := hall m hm
    simp only [Bool.or_eq_true, beq_iff_eq, Bool.and_eq_true, Bool.not_eq_true', List.all_eq_true] at hc
    rcases hc with rfl | ⟨hne, hc⟩
    · omega
    · refine ⟨fun h => (by rw [h] at hne; simp at hne), fun i hi => ?_⟩
      obtain ⟨⟨⟨⟨⟨hany, hnot⟩, hneed⟩, hmem⟩, hlist⟩, hleft⟩ := hc i hi
      obtain ⟨d, hd, hdi⟩ := List.any_eq_true.1 hany
      have hdi : d.1 = i := by simpa using hdi
      subst hdi
      refine step d hd m v w hneed hnot hI _ (fun x w' hI' => ?_)
      rw [hlist, fill_put x D a hD1 hD2 d hd hnot]
      exact ⟨hS _ _ _ hI', ih (m ||| 2 ^ d.1) (updN v d.1 x) w' (by simpa using hmem) (by omega) hI'⟩

/-- From the start. -/
theorem mixG0 (n : Nat) (D : List (Nat × Tmp)) (l : Array Bool) (full : Nat) (need : Nat → Nat) (masks : List Nat) (hchk : mixCheck md ops D l full need masks = true) (hD1 : (D.map (·.1)).Nodup) (hD2 : (D.map (·.2)).Nodup)
    (h0 : masks.contains 0 = true) (hn : leftF D 0 = n) (a : Act) (rest : Nat) (Inv : Nat → (Nat → Value) → World → Prop) (hS : ∀ m v w, Inv m v w → S (listF D m l) w)
    (step : ∀ d ∈ D, ∀ (m : Nat) (v : Nat → Value) (w : World), (need d.1 &&& m) = need d.1 → m.testBit d.1 = false → Inv m v w → ∀ K : Act → World → Prop,
      (∀ x w', Inv (m ||| 2 ^ d.1) (updN v d.1 x) w' → K ((fillF D m v a).put (some d.2) x) w') → wpOp P ops Q d.1 K (fillF D m v a) w)
    (hend : ∀ (v : Nat → Value) (w : World), Inv full v w → wpAnyG P md ops Q S rest (listF D full l) (fillF D full v a) w)
    (w : World) (hI : Inv 0 (fun _ => undef) w) : wpAnyG P md ops Q S (rest + n) l a w := by
  have h := mixG D l full need masks hchk hD1 hD2 a rest Inv hS step hend n 0 (fun _ => undef) w (by simpa using h0) hn hI
  rw [list_zero, fill_zero] at h
  exact h
theorem updN_same (v : Nat → Value) (i : Nat) (x : Value) : updN v i x i = x := if_pos rfl
theorem updN_other (v : Nat → Value) {i j : Nat} (x : Value) (h : j ≠ i) : updN v i x j = v j := if_neg h
theorem bit_same (m i : Nat) : (m ||| 2 ^ i).testBit i = true := by rw [bit_or]; simp
theorem bit_other (m : Nat) {i j : Nat} (h : j ≠ i) : (m ||| 2 ^ i).testBit j = m.testBit j := by rw [bit_or, decide_eq_false (fun e => h e.symm), Bool.or_false]
end

/-! ### Arithmetic on known operands -/
theorem exec_add {P : Program} {ρ : Operand → Value} {o : Oper} {w : World} {t t' : TypeId} {x y : Operand} {k : IntKind} {a b c : Int} (ho : o.op = .binOp .add t x y t') (hx : ρ x = .int k a) (hy : ρ y = .int k b) (hc : k.wrap (a + b) = c) :
    (execOp ρ o).run P w = .ok (.value (.int k c)) w := by
  unfold execOp
  simp only [ho, hx, hy]
  go_simp
theorem exec_sub {P : Program} {ρ : Operand → Value} {o : Oper} {w : World} {t t' : TypeId} {x y : Operand} {k : IntKind} {a b c : Int} (ho : o.op = .binOp .sub t x y t') (hx : ρ x = .int k a) (hy : ρ y = .int k b) (hc : k.wrap (a - b) = c) :
    (execOp ρ o).run P w = .ok (.value (.int k c)) w := by
  unfold execOp
  simp only [ho, hx, hy]
  go_simp
theorem exec_mul {P : Program} {ρ : Operand → Value} {o : Oper} {w : World} {t t' : TypeId} {x y : Operand} {k : IntKind} {a b c : Int} (ho : o.op = .binOp .mul t x y t') (hx : ρ x = .int k a) (hy : ρ y = .int k b) (hc : k.wrap (a * b) = c) :
    (execOp ρ o).run P w = .ok (.value (.int k c)) w := by
  unfold execOp
  simp only [ho, hx, hy]
  go_simp
theorem exec_quo {P : Program} {ρ : Operand → Value} {o : Oper} {w : World} {t t' : TypeId} {x y : Operand} {k : IntKind} {a b c : Int} (ho : o.op = .binOp .quo t x y t') (hx : ρ x = .int k a) (hy : ρ y = .int k b) (h0 : b ≠ 0) (hc : k.wrap (a.tdiv b) = c) :
    (execOp ρ o).run P w = .ok (.value (.int k c)) w := by
  unfold execOp
  simp only [ho, hx, hy]
  go_simp
theorem exec_rem {P : Program} {ρ : Operand → Value} {o : Oper} {w : World} {t t' : TypeId} {x y : Operand} {k : IntKind} {a b c : Int} (ho : o.op = .binOp .rem t x y t') (hx : ρ x = .int k a) (hy : ρ y = .int k b) (h0 : b ≠ 0) (hc : a.tmod b = c) :
    (execOp ρ o).run P w = .ok (.value (.int k c)) w := by
  unfold execOp
  simp only [ho, hx, hy]
  go_simp
end Go.Proofs.Ytapcbfeifeobhaa
