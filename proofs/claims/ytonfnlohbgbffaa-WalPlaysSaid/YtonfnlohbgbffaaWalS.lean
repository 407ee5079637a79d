/- The document's Same: of any two lists of blocks. -/
import Derived.Test.YtonfnlohbgbffaaWpq
import Derived.Test.YtonfnlohbgbffaaWalM
import Derived.Test.YtonfnlohbgbffaaPgs
set_option linter.unusedVariables false
set_option linter.unusedSimpArgs false
namespace Go.Proofs.Ytonfnlohbgbffaa
open Go.RowKit

theorem dxImage {w : World} {gd gb n : Nat} {s : DSt} (h : DXs w gd gb n s) : Calls Try.prog 46 #[.pointer (some ⟨gd, 0, none⟩)] w fun e w' => (∃ v, e = .returned v ∧ w'.ownsRow w.heap.size 52 64 v n (pgsV n s.D)) ∧ Below w.heap.size w w' := by
  obtain ⟨x, y, hd⟩ := h.dk
  exact diskImage_ok hd h.n
theorem pg_ints (f : Nat → Nat) : rowArr 64 (pgC f) = (((List.range 64).map fun i => (f i : Int)).map (Value.int .u8)).toArray := by
  unfold rowArr
  rw [List.map_map]
  rfl
theorem pg_alike (f g : Nat → Nat) : ((List.range 64).map fun i => (f i : Int)) = ((List.range 64).map fun i => (g i : Int)) ↔ ∀ i, i < 64 → f i = g i := by
  rw [List.map_inj_left]
  constructor
  · intro h i hi
    have := h i (List.mem_range.2 hi)
    omega
  · intro h i hi
    rw [h i (List.mem_range.1 hi)]
/-- '==' on blocks. -/
theorem pg_equal {f g : Nat → Nat} (hf : ∀ i, f i ≤ 255) (hg : ∀ i, g i ≤ 255) : ∃ b : Bool, (b = true ↔ ∀ i, i < 64 → f i = g i) ∧ ∀ w, (Op.equalIn 10000 52 (.agg (rowArr 64 (pgC f))) (.agg (rowArr 64 (pgC g)))).run Try.prog w = .ok b w := by
  obtain ⟨xs, hxs⟩ : ∃ xs, xs = (List.range 64).map fun i => (f i : Int) := ⟨_, rfl⟩
  obtain ⟨ys, hys⟩ : ∃ ys, ys = (List.range 64).map fun i => (g i : Int) := ⟨_, rfl⟩
  refine ⟨decide (xs = ys), by rw [decide_eq_true_eq, hxs, hys]; exact pg_alike f g, fun w => ?_⟩
  have hlx : xs.length = 64 := by rw [hxs]; simp
  have hly : ys.length = 64 := by rw [hys]; simp
  have hwx : ∀ z ∈ xs, (Lit.int .u8 z).wf = true := fun z hz => by rw [hxs] at hz; obtain ⟨i, _, rfl⟩ := List.mem_map.1 hz; exact u8_wf ⟨by omega, by have := hf i; omega⟩
  have hwy : ∀ z ∈ ys, (Lit.int .u8 z).wf = true := fun z hz => by rw [hys] at hz; obtain ⟨i, _, rfl⟩ := List.mem_map.1 hz; exact u8_wf ⟨by omega, by have := hg i; omega⟩
  have h := equal_ints (P := Try.prog) (w := w) block_under (by kernel_rfl) (by kernel_rfl) (by kernel_rfl) hlx hly hwx hwy
  have e1 : rowArr 64 (pgC f) = (xs.map (Value.int .u8)).toArray := by rw [hxs]; exact pg_ints f
  have e2 : rowArr 64 (pgC g) = (ys.map (Value.int .u8)).toArray := by rw [hys]; exact pg_ints g
  rw [e1, e2]
  exact h
def AlikeP (n m : Nat) (U V : Nat → Nat → Nat) : Prop := n = m ∧ ∀ j, j < n → ∀ i, i < 64 → U j i = V j i
set_option maxRecDepth 10000 in
set_option maxHeartbeats 1000000 in
theorem same_pages {w : World} {u v : Value} {n m : Nat} {U V : Nat → Nat → Nat} (hu : SR w u n 64 (pgsV n U)) (hv : SR w v m 64 (pgsV m V)) (hU : ∀ k i, U k i ≤ 255) (hV : ∀ k i, V k i ≤ 255) (hn : n ≤ 65536) (hm : m ≤ 65536) :
    Calls Try.prog 50 #[u, v] w fun e w' => ∃ b : Bool, e = .returned (.bool b) ∧ (b = true ↔ AlikeP n m U V) ∧ Below w.heap.size w w' := by
  obtain ⟨ad, cu, rfl, _, _⟩ := hu.form
  obtain ⟨ad', cv, rfl, _, _⟩ := hv.form
  have HU := Lib.hid hu
  have HV := Lib.hid hv
  have HU8 := Lib.hid hU
  have HV8 := Lib.hid hV
  clear hu hv hU hV
  by_cases hnm : n = m
  case neg =>
    have k1 : ((n : Int) != (m : Int)) = true := by simp; omega
    go_enter Try.func50, Try.ntmps50
    go_wp2_with fail
    go_ret
    exact ⟨false, rfl, ⟨(fun h => by cases h), (fun h => absurd h.1 hnm)⟩, Below.refl _ _⟩
  subst hnm
  go_enter Try.func50, Try.ntmps50
  go_wp2_with fail
  go_loopw [5] (fun v5 wr => ∃ k : Nat, k ≤ n ∧ v5 = .int .i64 k ∧ Below w.heap.size w wr ∧ ∀ j, j < k → ∀ i, i < 64 → U j i = V j i)
    (fun v5 _ => (n - intOf v5).toNat)
  case atStart => exact ⟨0, by omega, rfl, Below.refl _ _, fun j hj => by omega⟩
  case round =>
    obtain ⟨k, hk, rfl, hB, hal⟩ := hrel
    have HAL := Lib.hid hal
    clear hal
    by_cases hlt : k < n
    · obtain ⟨g, off, c1, e1, _, _, hg, hA⟩ := SR.page (HU.out.keep hB) k hlt
      obtain ⟨g', off', c2, e2, _, _, hg', hA2⟩ := SR.page (HV.out.keep hB) k hlt
      injection e1 with e1 _ _
      injection e2 with e2 _ _
      subst e1
      subst e2
      have HA := Lib.hid (show ∀ j v, (rowArr 64 (pgC (U k))).toList[j]? = some v → wr.drew.cell? ⟨g, off + k * 64 + j, none⟩ = some v from hA)
      have HA2 := Lib.hid (show ∀ j v, (rowArr 64 (pgC (V k))).toList[j]? = some v → wr.drew.cell? ⟨g', off' + k * 64 + j, none⟩ = some v from hA2)
      obtain ⟨f, hf⟩ : ∃ f, f = U k := ⟨_, rfl⟩
      obtain ⟨f2, hf2⟩ : ∃ f, f = V k := ⟨_, rfl⟩
      rw [← hf] at HA
      rw [← hf2] at HA2
      have HF := Lib.hid hf
      have HF2 := Lib.hid hf2
      have HFU := Lib.hid (show ∀ i, f i ≤ 255 from fun i => by rw [hf]; exact HU8.out k i)
      have HFV := Lib.hid (show ∀ i, f2 i ≤ 255 from fun i => by rw [hf2]; exact HV8.out k i)
      have hbs : ∀ f, (Try.prog.info? 52).map (·.size) = some (rowArr 64 (pgC f)).size := fun f => by rw [rowArr_size]; exact block_size
      clear hA hA2 hf hf2 hg hg'
      obtain ⟨d, hd, hde⟩ := pg_equal HFU.out HFV.out
      have HD := Lib.hid hd
      have HDE := Lib.hid hde
      clear hd hde
      go_wp2_with fail
      refine wp_region_held (S := fun w => w = wr.drew) (by kernel_rfl) ?_
      change wpAnyH _ _ _ _ _ _ _ _ (World.drew _)
      refine takeH 0 (.slice (some ⟨g, off, none⟩) n cu) (some 17) rfl rfl (by kernel_rfl) (by kernel_rfl) (by kernel_rfl) (fun _ _ _ h => h) (.inl ⟨by rfl, fun w _ => by go_simp⟩) rfl ?_
      refine takeH 1 (.int .i64 k) (some 18) rfl rfl (by kernel_rfl) (by kernel_rfl) (by kernel_rfl) (fun _ _ _ h => h) (.inl ⟨by rfl, fun w _ => by go_simp⟩) rfl ?_
      refine takeH 2 (.pointer (some ⟨g, off + k * 64, none⟩)) (some 19) rfl rfl (by kernel_rfl) (by kernel_rfl) (by kernel_rfl) (fun _ _ _ h => h) (.inl ⟨by rfl, fun w _ => by go_simp⟩) rfl ?_
      refine takeH 3 (.agg (rowArr 64 (pgC f))) (some 20) rfl rfl (by kernel_rfl) (by kernel_rfl) (by kernel_rfl) (fun _ _ _ h => h) (yi_piece (by rfl) 52 (.tmp 19) rfl g (off + k * 64) (by go_simp) (rowArr 64 (pgC f)) _ (fun w hw => by subst hw; exact HA.out) block_under rfl (hbs _)) rfl ?_
      refine takeH 4 (.slice (some ⟨g', off', none⟩) n cv) (some 21) rfl rfl (by kernel_rfl) (by kernel_rfl) (by kernel_rfl) (fun _ _ _ h => h) (.inl ⟨by rfl, fun w _ => by go_simp⟩) rfl ?_
      refine takeH 5 (.int .i64 k) (some 22) rfl rfl (by kernel_rfl) (by kernel_rfl) (by kernel_rfl) (fun _ _ _ h => h) (.inl ⟨by rfl, fun w _ => by go_simp⟩) rfl ?_
      refine takeH 6 (.pointer (some ⟨g', off' + k * 64, none⟩)) (some 23) rfl rfl (by kernel_rfl) (by kernel_rfl) (by kernel_rfl) (fun _ _ _ h => h) (.inl ⟨by rfl, fun w _ => by go_simp⟩) rfl ?_
      refine takeH 7 (.agg (rowArr 64 (pgC f2))) (some 24) rfl rfl (by kernel_rfl) (by kernel_rfl) (by kernel_rfl) (fun _ _ _ h => h) (yi_piece (by rfl) 52 (.tmp 23) rfl g' (off' + k * 64) (by go_simp) (rowArr 64 (pgC f2)) _ (fun w hw => by subst hw; exact HA2.out) block_under rfl (hbs _)) rfl ?_
      refine takeH 8 (.bool (!d)) (some 25) rfl rfl (by kernel_rfl) (by kernel_rfl) (by kernel_rfl) (fun _ _ _ h => h) (.inl ⟨by rfl, fun w _ => exec_neq rfl (by go_simp) (by go_simp) (by kernel_rfl) (HDE.out w)⟩) rfl ?_
      refine wpAnyH_done (by kernel_rfl) ?_ _
      go_simp
      have BD : Below w.heap.size w wr.drew := bdrewN hB 1
      cases d with
      | true =>
        have hall := HD.out.1 rfl
        have HNX := Lib.hid (show ∀ j, j < k + 1 → ∀ i, i < 64 → U j i = V j i from fun j hj i hi => by
          rcases Nat.lt_or_ge j k with h | h
          · exact HAL.out j h i hi
          · obtain rfl : j = k := by omega
            rw [← HF.out, ← HF2.out]
            exact hall i hi)
        clear hall
        go_wp2_with fail
        go_roundw
        case rel => first | exact ⟨k + 1, by omega, by go_num, BD, HNX.out⟩ | exact ⟨k + 1, by omega, by go_num, HNX.out⟩
        case measure => simp [intOf]; omega
      | false =>
        have hno : ¬ ∀ i, i < 64 → f i = f2 i := fun h => by have := HD.out.2 h; cases this
        have HNO := Lib.hid hno
        clear hno
        go_wp2_with fail
        go_ret
        exact ⟨false, rfl, ⟨(fun h => by cases h), (fun h => absurd (by rw [HF.out, HF2.out]; exact h.2 k hlt) HNO.out)⟩, BD⟩
    · obtain rfl : k = n := by omega
      go_wp2_with fail
      go_ret
      exact ⟨true, rfl, ⟨(fun _ => ⟨rfl, HAL.out⟩), (fun _ => rfl)⟩, hB⟩
end Go.Proofs.Ytonfnlohbgbffaa
