/- Labels as texts: the document's list. -/
import Derived.Test.YtmieioaklgdbdaaDoorLabV
set_option linter.unusedVariables false
set_option linter.unusedSimpArgs false
namespace Go.Proofs.YtmieioaklgdbdaaDoor
open Go.RowKit

def resL (ok : Bool) (cs : List Nat) : Option (List Nat) := if ok then some cs else none
theorem digL_size {c : Nat} (h : c ≤ 99) : 1 ≤ (digL c).length ∧ (digL c).length ≤ 2 := by
  by_cases h9 : c ≤ 9
  · rw [digL_one h9]; simp
  · rw [digL_two (by omega) h]; simp
theorem take_is {l : List UInt8} {h : List UInt8} {n : Nat} (hn : n = h.length) (hl : n < l.length) (ht : l.take n = h) : l = h ++ l.getD n 0 :: l.drop (n + 1) := by
  have h1 : l.drop n = l.getD n 0 :: l.drop (n + 1) := by
    rw [List.drop_eq_getElem_cons hl, List.getD_eq_getElem?_getD, List.getElem?_eq_getElem hl]
    rfl
  rw [← h1, ← ht, List.take_append_drop]
/-- No number below so many is what the text begins with. -/
def noneTo (l : List UInt8) (a : Int) (sep : UInt8) (c : Nat) : Prop := ∀ d r, numL l = some (d, r) → a < (d : Int) → d < c → ∃ b u, r = b :: u ∧ b ≠ sep
theorem noneTo_low {l : List UInt8} {a : Int} {sep : UInt8} {c : Nat} (h : (c : Int) ≤ a + 1) : noneTo l a sep c := fun d r _ h1 h2 => by omega
theorem noneTo_next {l : List UInt8} {a : Int} {sep : UInt8} {c : Nat} (hc : c ≤ 99) (h : noneTo l a sep c) (h1 : l ≠ digL c) (h2 : ∀ u, l ≠ digL c ++ sep :: u) : noneTo l a sep (c + 1) := fun d r hn ha hd => by
  by_cases hdc : d < c
  · exact h d r hn ha hdc
  · obtain rfl : d = c := by omega
    have hb := (numL_back hn).1
    cases r with
    | nil => exact absurd (by rw [hb, List.append_nil]) h1
    | cons b u => exact ⟨b, u, rfl, fun e => h2 u (by rw [← e]; exact hb)⟩
theorem noneTo_end {l : List UInt8} {a : Int} {c} (hc : c = 100) (h : noneTo l a 44 c) : listL l a = none := by
  cases hn : numL l with
  | none => exact listL_none hn
  | some p =>
    obtain ⟨d, r⟩ := p
    have h9 := (numL_back hn).2.1
    by_cases ha : (d : Int) ≤ a
    · exact listL_low hn ha
    · obtain ⟨b, u, rfl, hb⟩ := h d r hn (by omega) (by omega)
      exact listL_bad hn hb
theorem str_eq (l m : List UInt8) : ((⟨l.toArray⟩ : ByteArray).toList == (⟨m.toArray⟩ : ByteArray).toList) = (l == m) := by
  rw [str_list, str_list]

def ListP (w : World) (l : List UInt8) (a : Int) (e : Ending) (w' : World) : Prop :=
  ∃ v cs ok, e = .returned (.tuple #[v, .bool ok]) ∧ SR w' v cs.length 1 (ints cs) ∧ cs.length ≤ l.length ∧ listL l a = resL ok cs ∧ (∀ c ∈ cs, c ≤ 99) ∧ Below w.heap.size w w'
set_option maxHeartbeats 4000000 in
theorem refList_any : ∀ (n : Nat) (l : List UInt8), l.length < n → l.length ≤ 1000 → ∀ (a : Int), -1 ≤ a → a ≤ 99 → ∀ (w : World), Calls Tryd.prog 14 #[strV l, .int .i64 a] w (ListP w l a) := by
  intro n
  induction n with
  | zero => intro l h; omega
  | succ n ih =>
    intro l hln hl a ha1 ha2 w
    unfold strV
    have hsz := str_size l
    have hget := str_get l
    have hfrom := str_from l
    have hto := str_to l
    have heq := str_eq l
    obtain ⟨s, hs⟩ : ∃ s : ByteArray, s = ⟨l.toArray⟩ := ⟨_, rfl⟩
    obtain ⟨L, hL⟩ : ∃ L, L = l.length := ⟨_, rfl⟩
    rw [← hs] at hsz hget hfrom hto ⊢
    simp only [← hs] at heq
    rw [← hL] at hsz hget hl hln
    have HF := Lib.hid hfrom
    have HT := Lib.hid hto
    have HG := Lib.hid hget
    have HE := Lib.hid heq
    have HLL := Lib.hid hL
    have HS := Lib.hid hs
    clear hs hL hget hfrom hto heq
    obtain ⟨m, hm⟩ : ∃ m : Nat, a + 1 = (m : Int) := ⟨(a + 1).toNat, by omega⟩
    have hm100 : m ≤ 100 := by omega
    go_enter Tryd.func14, Tryd.ntmps14
    go_wp2_with fail
    have HM := Lib.hid hm
    clear hm
    go_loopw [6] (fun r6 wx => ∃ c : Nat, m ≤ c ∧ c ≤ 100 ∧ r6 = .int .i64 c ∧ noneTo l a 44 c ∧ Below w.heap.size w wx) (fun r6 _ => 100 - (intOf r6).toNat)
    case atStart => exact ⟨m, Nat.le_refl _, hm100, rfl, noneTo_low (by have := HM.out; omega), Below.refl _ _⟩
    case round =>
      obtain ⟨c, hmc, hc, rfl, hno, hb⟩ := hrel
      have HN := Lib.hid hno
      have HB := Lib.hid hb
      clear hno hb
      by_cases h1 : c < 100
      · have g1 : (c : Int) < 100 := by omega
        have hc99 : c ≤ 99 := by omega
        have hac := Lib.hid (show a < (c : Int) from by have := HM.out; omega)
        go_wp2_with fail
        refine (refItoa_any c (by omega) _).mono ?_
        rintro e w1 ⟨he, hb1⟩; subst he
        unfold strV
        have HB1 := Lib.hid (bnext HB.out hb1)
        clear hb1
        have hds := digL_size hc99
        have hhz := str_size (digL c)
        have he1 := HE.out (digL c)
        have he2 := str_eq (l.take (digL c).length) (digL c)
        have ht := HT.out (digL c).length
        obtain ⟨k, hk⟩ : ∃ k, k = (digL c).length := ⟨_, rfl⟩
        rw [← hk] at hds hhz he2 ht
        obtain ⟨h, hh⟩ : ∃ h : ByteArray, h = ⟨(digL c).toArray⟩ := ⟨_, rfl⟩
        rw [← hh] at hhz he1 he2 ⊢
        obtain ⟨s1, hs1⟩ : ∃ s1 : ByteArray, s1 = ⟨(l.take k).toArray⟩ := ⟨_, rfl⟩
        rw [← hs1] at he2 ht
        have HK := Lib.hid hk
        have HE2 := Lib.hid he2
        clear hk hh hs1 he2
        obtain ⟨hk1, hk2⟩ := hds
        by_cases hA : l = digL c
        · have HA := Lib.hid (show listL l a = some [c] from listL_end (by rw [hA]; exact numL_one hc99) hac.out)
          rw [beq_iff_eq.mpr hA] at he1
          have hl1 := Lib.hid (show [c].length ≤ l.length from by rw [hA, ← HK.out]; simpa using hk1)
          clear hA ht
          go_wp2_with fail
          go_ret2
          exact ⟨_, [c], true, rfl, SR.of_own (World.ownsRow_lit w1 #[.int .i64 c] 1 (Nat.le_refl _) (by simp [maxLen]) rfl), hl1.out, HA.out, by simpa using hc99, bnext HB1.out (bnew _ _)⟩
        · rw [beq_eq_false_iff_ne.mpr hA] at he1
          have HA := Lib.hid hA
          clear hA
          by_cases h2 : k < L
          · have g2 : (k : Int) < L := by omega
            have g2' : k ≤ L := by omega
            have g2'' : (k : Int) ≤ L := by omega
            have he3 := HE2.out
            by_cases hB : l.take k = digL c
            · rw [beq_iff_eq.mpr hB] at he3
              have hT := Lib.hid (take_is HK.out (by rw [← HLL.out]; exact h2) hB)
              have hx := HG.out k h2
              obtain ⟨b, hb⟩ : ∃ b, b = l.getD k 0 := ⟨_, rfl⟩
              rw [← hb] at hT hx
              clear hb hB
              by_cases h44 : b = 44
              · subst h44
                have hx' : ∀ h, s[k]'h = 44 := hx
                have g3 : (k : Int) + 1 ≤ L := by omega
                have g3' : k + 1 ≤ L := by omega
                have hfr := HF.out (k + 1)
                rw [hsz] at hfr
                obtain ⟨u, hu⟩ : ∃ u, u = l.drop (k + 1) := ⟨_, rfl⟩
                rw [← hu] at hT hfr
                have hul : u.length = L - (k + 1) := by rw [hu, List.length_drop, ← HLL.out]
                have hcall := ih u (by omega) (by omega) c (by omega) (by omega)
                have HCALL := Lib.hid hcall
                clear hcall hu
                go_wp2_with fail
                refine (HCALL.out _).mono ?_
                rintro e w2 ⟨v, cs, ok, he, hsr, hcl, hll, hc9, hb2⟩; subst he
                have HB2 := Lib.hid (bnext HB1.out hb2)
                have HSR := Lib.hid hsr
                have HLL2 := Lib.hid hll
                have HC9 := Lib.hid hc9
                obtain ⟨A, cap, rfl, -, -⟩ := hsr.form
                clear hsr hb2 hll hc9
                go_wp2_with (with_reducible refine wpList_stop (some 56) rfl ?_)
                refine Lib.hid ?_
                refine wpList_append_sr rfl (.tmp 54) (.tmp 55) 37 rfl (some 56) rfl w2.heap.size 3 (.int .i64 0) 1 8 Tryd.underlying37 int_row rfl (by omega) (.slice (some ⟨w2.heap.size, 0, none⟩) 1 1) (.slice A cs.length cap) 1 cs.length
                  (ints [c]) (ints cs) rfl (World.ownsRow_lit w2 #[.int .i64 c] 1 (Nat.le_refl _) (by simp [maxLen]) rfl) rfl (HSR.out.keep (bnew _ _)) (fun u hu => by
                    unfold ints at hu
                    obtain ⟨z, hz, rfl⟩ := List.mem_map.mp hu
                    rfl) (by simp [maxLen]; omega) (by omega) (by simp) ?_
                intro v' w5 hown5 hg5 hat5
                have HO5 := Lib.hid hown5
                have HG5 := Lib.hid hg5
                clear hown5 hg5 hat5
                go_wp2_with fail
                go_ret2
                refine ⟨_, c :: cs, ok, rfl, ?_, ?_, ?_, ?_, ?_⟩
                · have := SR.of_own HO5.out
                  rw [show 1 + cs.length = (c :: cs).length by simp; omega] at this
                  exact this
                · rw [← HLL.out, List.length_cons]; omega
                · rw [hT.out, listL_more (numL_sep hc99 (by intro b u h; obtain ⟨rfl, _⟩ := List.cons.inj h; decide)) hac.out, HLL2.out]
                  cases ok <;> rfl
                · intro d hd
                  rcases List.mem_cons.mp hd with h | h
                  · omega
                  · exact HC9.out d h
                · exact (bnext HB2.out (bnew _ _)).grown HG5.out (by have := HB2.out.size; simp; omega) (fun j hj => by have := HB2.out.size; have h := Option.some.inj (show some w2.heap.size = some j from hj); omega)
              · have hx' : ∀ h, s[k]'h = b := hx
                have HX44 := Lib.hid h44
                have g44 : ((b.toNat : Int) == 44) = false := by
                  rw [beq_eq_false_iff_ne]
                  intro e
                  exact h44 (UInt8.toNat_inj.mp (by have h : (44 : UInt8).toNat = 44 := rfl; omega))
                have g44n : (b.toNat == 44) = false := by
                  rw [beq_eq_false_iff_ne]
                  intro e
                  exact h44 (UInt8.toNat_inj.mp (by have h : (44 : UInt8).toNat = 44 := rfl; omega))
                clear h44
                go_wp2_with fail
                go_roundw
                case rel => exact ⟨c + 1, by omega, by omega, by go_num, noneTo_next hc99 HN.out HA.out (fun u e => HX44.out (by have h := hT.out.symm.trans e; have h2 := List.append_cancel_left h; exact (List.cons.inj h2).1)), HB1.out⟩
                case measure => simp [intOf]; omega
            · have HB' := Lib.hid hB
              rw [beq_eq_false_iff_ne.mpr hB] at he3
              clear hB
              go_wp2_with fail
              go_roundw
              case rel => exact ⟨c + 1, by omega, by omega, by go_num, noneTo_next hc99 HN.out HA.out (fun u e => HB'.out (by rw [e, HK.out, List.take_left])), HB1.out⟩
              case measure => simp [intOf]; omega
          · have g2 : decide ((k : Int) < L) = false := by rw [decide_eq_false_iff_not]; omega
            have g2n : decide (k < L) = false := by rw [decide_eq_false_iff_not]; omega
            have HX := Lib.hid h2
            clear h2
            go_wp2_with fail
            go_roundw
            case rel => exact ⟨c + 1, by omega, by omega, by go_num, noneTo_next hc99 HN.out HA.out (fun u e => HX.out (by rw [HLL.out, e, List.length_append, HK.out, List.length_cons]; omega)), HB1.out⟩
            case measure => simp [intOf]; omega
      · have g1 : decide ((c : Int) < 100) = false := by rw [decide_eq_false_iff_not]; omega
        have g1n : decide (c < 100) = false := by rw [decide_eq_false_iff_not]; omega
        have HEN := Lib.hid (noneTo_end (by omega) HN.out)
        go_wp2_with fail
        go_ret2
        exact ⟨_, [], false, rfl, SR.of_own (World.ownsRow_nil wr 0 3 1), by simp, HEN.out, by simp, HB.out⟩
end Go.Proofs.YtmieioaklgdbdaaDoor
