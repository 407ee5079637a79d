/- The law LabelLaws: the walk (under way). -/
import Derived.Test.YtcjnnonfnlemmaaDoorLabM
import Derived.Test.YtcjnnonfnlemmaaDoorMix
set_option linter.unusedVariables false
set_option linter.unusedSimpArgs false
namespace Go.Proofs.YtcjnnonfnlemmaaDoor
open Go.RowKit

/-- Region 3: what may come up in whatever order. -/
def lawsD : List (Nat × Tmp) := [(2, 13), (3, 14), (6, 17), (7, 18), (8, 7), (9, 8)]
def lawsNeed (i : Nat) : Nat := if i = 3 then 2 ^ 2 else if i = 7 then 2 ^ 6 else 0
def lawsMasks : List Nat := [0, 4, 12, 64, 68, 76, 204, 256, 260, 268, 320, 324, 332, 460, 512, 516, 524, 576, 580, 588, 716, 768, 772, 780, 832, 836, 844, 972]
def lawsF (p q : Nat × Nat) (B : Nat) (i : Nat) (x : Value) (w : World) : Prop :=
  match i with
  | 2 | 6 => ∃ g, x = .slice (some ⟨g, 0, none⟩) 2 2 ∧ w.heap[g]? = some (.cells #[.int .u8 p.1, .int .u16 p.2, .int .u8 q.1, .int .u16 q.2] 25)
  | 3 => x = labV (joinAll [p, q])
  | 7 => x = labV (meetAll [p, q])
  | _ => ∃ g, x = .pointer (some ⟨g, 0, none⟩) ∧ B ≤ g ∧ w.heap[g]? = some (.cells #[.int .u8 0, .int .u16 0] 25)
theorem row_two {w : World} {g : Nat} {p : Nat × Nat} (h : w.heap[g]? = some (.cells #[.int .u8 p.1, .int .u16 p.2] 25)) : w.rowIs g 25 2 (labRow p) :=
  rowIs_of_arr h
theorem row_store {w : World} {g : Nat} {p : Nat × Nat} (h : w.rowIs g 25 2 (labRow p)) (q : Nat × Nat) : (w.setCells g 0 [.int .u8 q.1, .int .u16 q.2]).rowIs g 25 2 (labRow q) := by
  have hr2 := rowIs_piece (m := 2) (off := 0) (h := labRow q) h
  have harr : (rowArr 2 (labRow q)).toList = [.int .u8 (q.1 : Int), .int .u16 (q.2 : Int)] := by simp [rowArr, labRow, List.range_succ]
  rw [harr] at hr2
  exact hr2.congr (fun i hi => by rw [if_pos (by omega)]; rfl)
theorem lab_two (q : Nat × Nat) : ∀ v ∈ (#[.int .u8 q.1, .int .u16 q.2] : Array Value).toList, v.oneCell' = true := by
  intro v hv
  simp only [List.mem_cons, List.not_mem_nil, or_false] at hv
  rcases hv with rfl | rfl <;> rfl
theorem lawsF_keep (p q : Nat × Nat) (B : Nat) (i : Nat) (x : Value) (w w' : World) (h : lawsF p q B i x w) (hb : Below w.heap.size w w') : lawsF p q B i x w' := by
  unfold lawsF at h ⊢
  split
  · obtain ⟨g, h1, h2⟩ := h; exact ⟨g, h1, bkeep hb h2⟩
  · obtain ⟨g, h1, h2⟩ := h; exact ⟨g, h1, bkeep hb h2⟩
  · exact h
  · exact h
  · rename_i h2 h6 h3 h7
    simp only at h
    obtain ⟨g, h1, h2, h3⟩ := h
    exact ⟨g, h1, h2, bkeep hb h3⟩

/-- The five labels of the law, in their blocks. -/
structure LawsAt (W : World) (g8 g9 : Nat) (p q r jv mv : Nat × Nat) (w : World) : Prop where
  a : w.rowIs W.heap.size 25 2 (labRow p)
  b : w.rowIs (W.heap.size + 1) 25 2 (labRow q)
  c : w.rowIs (W.heap.size + 1 + 1) 25 2 (labRow r)
  j : w.rowIs g8 25 2 (labRow jv)
  m : w.rowIs g9 25 2 (labRow mv)
  below : Below W.heap.size W w
theorem LawsAt.keep {W : World} {g8 g9 : Nat} {p q r jv mv : Nat × Nat} {w w' : World} (h : LawsAt W g8 g9 p q r jv mv w) (hb : Below w.heap.size w w') : LawsAt W g8 g9 p q r jv mv w' :=
  ⟨h.a.of_block (hb.block _ h.a.lt), h.b.of_block (hb.block _ h.b.lt), h.c.of_block (hb.block _ h.c.lt), h.j.of_block (hb.block _ h.j.lt), h.m.of_block (hb.block _ h.m.lt), h.below.trans (hb.mono h.below.size)⟩

/-! The plain law. -/
theorem subC_refl (a : Nat) : subC a a = true := by rw [subC_iff]; exact fun _ _ h => h
theorem subC_or (a b c : Nat) : subC (a ||| b) c = (subC a c && subC b c) := by
  rw [Bool.eq_iff_iff, Bool.and_eq_true, subC_iff, subC_iff, subC_iff]
  constructor
  · intro h
    exact ⟨fun j hj ha => h j hj (by rw [Nat.testBit_or, ha, Bool.true_or]), fun j hj hb => h j hj (by rw [Nat.testBit_or, hb, Bool.or_true])⟩
  · rintro ⟨h1, h2⟩ j hj h
    rw [Nat.testBit_or, Bool.or_eq_true] at h
    rcases h with h | h
    · exact h1 j hj h
    · exact h2 j hj h
theorem subC_and (a b c : Nat) : subC c (a &&& b) = (subC c a && subC c b) := by
  rw [Bool.eq_iff_iff, Bool.and_eq_true, subC_iff, subC_iff, subC_iff]
  constructor
  · intro h
    exact ⟨fun j hj hc => by have := h j hj hc; rw [Nat.testBit_and, Bool.and_eq_true] at this; exact this.1, fun j hj hc => by have := h j hj hc; rw [Nat.testBit_and, Bool.and_eq_true] at this; exact this.2⟩
  · rintro ⟨h1, h2⟩ j hj h
    rw [Nat.testBit_and, h1 j hj h, h2 j hj h]; rfl
theorem leqL_iff (p q : Nat × Nat) : leqL p q = true ↔ p.1 ≤ q.1 ∧ subC p.2 q.2 = true := by simp only [leqL, Bool.and_eq_true, decide_eq_true_eq]
theorem leq_joined (p q r : Nat × Nat) : leqL (joinL p q) r = (leqL p r && leqL q r) := by
  rw [Bool.eq_iff_iff, Bool.and_eq_true, leqL_iff, leqL_iff, leqL_iff]
  show max p.1 q.1 ≤ r.1 ∧ subC (p.2 ||| q.2) r.2 = true ↔ _
  rw [subC_or, Bool.and_eq_true, Nat.max_le]
  exact ⟨fun h => ⟨⟨h.1.1, h.2.1⟩, h.1.2, h.2.2⟩, fun h => ⟨⟨h.1.1, h.2.1⟩, h.1.2, h.2.2⟩⟩
theorem leq_refl (p : Nat × Nat) : leqL p p = true := by simp [leqL, subC_refl]
theorem leq_join2 (p q : Nat × Nat) : leqL p (joinL p q) = true ∧ leqL q (joinL p q) = true := by
  have h := leq_joined p q (joinL p q)
  rw [leq_refl, eq_comm, Bool.and_eq_true] at h
  exact h
theorem subC_full {a : Nat} : subC a 65535 = true := by
  rw [subC_iff]
  intro j hj _
  have : ∀ j, j < 16 → Nat.testBit 65535 j = true := by decide
  exact this j hj
/-- What is at or below the meeting, for what is a label. -/
theorem leq_met (p q r : Nat × Nat) (hr : r.1 ≤ 15) : leqL r (meetAll [p, q]) = (leqL r p && leqL r q) := by
  rw [Bool.eq_iff_iff, Bool.and_eq_true, leqL_iff, leqL_iff, leqL_iff]
  show r.1 ≤ min (min 15 p.1) q.1 ∧ subC r.2 ((65535 &&& p.2) &&& q.2) = true ↔ _
  rw [subC_and, subC_and, subC_full, Bool.true_and, Bool.and_eq_true, Nat.le_min, Nat.le_min]
  exact ⟨fun h => ⟨⟨h.1.1.2, h.2.1⟩, h.1.2, h.2.2⟩, fun h => ⟨⟨⟨hr, h.1.1⟩, h.2.1⟩, h.1.2, h.2.2⟩⟩
theorem met_leq (p q : Nat × Nat) : leqL (meetAll [p, q]) p = true ∧ leqL (meetAll [p, q]) q = true := by
  have hl : (meetAll [p, q]).1 ≤ 15 := by show min (min 15 p.1) q.1 ≤ 15; omega
  have h := leq_met p q (meetAll [p, q]) hl
  rw [leq_refl, eq_comm, Bool.and_eq_true] at h
  exact h
theorem leq_trans' {p q r : Nat × Nat} (h1 : leqL p q = true) (h2 : leqL q r = true) : leqL p r = true := by
  simp only [leqL, Bool.and_eq_true, decide_eq_true_eq, subC_iff] at *
  exact ⟨Nat.le_trans h1.1 h2.1, fun j hj h => h2.2 j hj (h1.2 j hj h)⟩
theorem leq_anti {p q : Nat × Nat} (hp : okL p) (hq : okL q) (h1 : leqL p q = true) (h2 : leqL q p = true) : p = q := by
  simp only [leqL, Bool.and_eq_true, decide_eq_true_eq, subC_iff] at *
  refine Prod.ext (Nat.le_antisymm h1.1 h2.1) (bits_eq hp.2 hq.2 (fun j hj => ?_))
  rw [Bool.eq_iff_iff]
  exact ⟨h1.2 j hj, h2.2 j hj⟩
theorem rank_mono {p q : Nat × Nat} (h : leqL p q = true) : p.1 + (catsL p.2).length ≤ q.1 + (catsL q.2).length := by
  simp only [leqL, Bool.and_eq_true, decide_eq_true_eq, subC_iff] at h
  have h2 : (catsL p.2).length ≤ (catsL q.2).length := by
    unfold catsL
    rw [← List.countP_eq_length_filter, ← List.countP_eq_length_filter]
    exact List.countP_mono_left (fun j hj hb => h.2 j (by simpa using hj) hb)
  omega

end Go.Proofs.YtcjnnonfnlemmaaDoor
