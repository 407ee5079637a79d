/- The document's Same: of two lists of the same bytes. -/
import Derived.Test.YtonfnlohbgbffaaDiskE
set_option linter.unusedVariables false
set_option linter.unusedSimpArgs false
namespace Go.Proofs.Ytonfnlohbgbffaa
open Go.RowKit

theorem SR.at {w : World} {ad : Option Addr} {n cap size : Nat} {xs : List Value} (h : SR w (.slice ad n cap) n size xs) (hn : 0 < n) : ∃ g off, ad = some ⟨g, off, none⟩ ∧ g < w.heap.size ∧ ∀ i, i < n * size → w.cell? ⟨g, off + i, none⟩ = xs[i]? := by
  rcases h.cases with ⟨h0, _⟩ | ⟨_, g, off, c, hv, _, _, hg, hc⟩
  · omega
  · cases hv
    exact ⟨g, off, rfl, hg, hc⟩

/-- '==' on a block with itself. -/
theorem equal_u8s {X : Array Value} (hX : U8s X.toList) (hl : X.size = 64) (w : World) : (Op.equalIn 10000 52 (.agg X) (.agg X)).run Try.prog w = .ok true w := by
  have key : ∀ l : List Value, U8s l → ∃ zs : List Int, l = zs.map (Value.int .u8) ∧ ∀ z ∈ zs, 0 ≤ z ∧ z ≤ 255 := by
    intro l
    induction l with
    | nil => exact fun _ => ⟨[], rfl, fun z hz => by cases hz⟩
    | cons v l ih =>
      intro h
      obtain ⟨zs, h1, h2⟩ := ih (fun v hv => h v (by simp [hv]))
      obtain ⟨z, rfl, hz⟩ := h v (by simp)
      exact ⟨z :: zs, by simp [h1], fun y hy => by
        rcases List.mem_cons.1 hy with rfl | hy
        · exact hz
        · exact h2 y hy⟩
  obtain ⟨zs, h1, h2⟩ := key _ hX
  obtain rfl : X = (zs.map (Value.int .u8)).toArray := by rw [← h1]
  have hz : zs.length = 64 := by simpa using hl
  have hw : ∀ z ∈ zs, (Lit.int .u8 z).wf = true := fun z hz => u8_wf (h2 z hz)
  rw [equal_ints (P := Try.prog) (w := w) block_under (by kernel_rfl) (by kernel_rfl) (by kernel_rfl) hz hz hw hw]
  simp

theorem SR.piece {w : World} {g off n : Nat} {xs : List Value} (hl : xs.length = n * 64) (hc : ∀ i, i < n * 64 → w.cell? ⟨g, off + i, none⟩ = xs[i]?) (k : Nat) (hk : k < n) :
    ∀ j v, (rowArr 64 (fun j => xs.getD (k * 64 + j) undef)).toList[j]? = some v → w.cell? ⟨g, off + k * 64 + j, none⟩ = some v := fun j v hv => by
  obtain ⟨h1, rfl⟩ := rowArr_get _ _ _ _ hv
  have hi : k * 64 + j < xs.length := by omega
  rw [Nat.add_assoc, hc _ (by omega), List.getElem?_eq_getElem hi]
  simp [List.getD_eq_getElem?_getD, hi]

set_option maxRecDepth 10000 in
set_option maxHeartbeats 1000000 in
theorem same_true {w : World} {u v : Value} {n : Nat} {xs : List Value} (hu : SR w u n 64 xs) (hv : SR w v n 64 xs) (hx : U8s xs) (hn : n ≤ 65536) :
    Calls Try.prog 50 #[u, v] w fun e w' => e = .returned (.bool true) ∧ Below w.heap.size w w' := by
  obtain ⟨ad, cu, rfl, _, _⟩ := hu.form
  obtain ⟨ad', cv, rfl, _, _⟩ := hv.form
  have hl : xs.length = n * 64 := hu.1
  have HU := Lib.hid hu
  have HV := Lib.hid hv
  clear hu hv
  go_enter Try.func50, Try.ntmps50
  go_wp2_with fail
  go_loopw [5] (fun v5 wr => ∃ k : Nat, k ≤ n ∧ v5 = .int .i64 k ∧ Below w.heap.size w wr)
    (fun v5 _ => (n - intOf v5).toNat)
  case atStart => exact ⟨0, by omega, rfl, Below.refl _ _⟩
  case round =>
    obtain ⟨k, hk, rfl, hB⟩ := hrel
    by_cases hlt : k < n
    · obtain ⟨g, off, rfl, hg, hA⟩ := (HU.out.keep hB).at (by omega)
      obtain ⟨g', off', rfl, hg', hB'⟩ := (HV.out.keep hB).at (by omega)
      have hA := SR.piece (w := wr.drew) hl hA k hlt
      have hB' := SR.piece (w := wr.drew) hl hB' k hlt
      have hE : U8s (rowArr 64 (fun j => xs.getD (k * 64 + j) undef)).toList := U8s.row fun j hj => by
        have hi : k * 64 + j < xs.length := by omega
        have := hx xs[k * 64 + j] (List.getElem_mem hi)
        simpa [List.getD_eq_getElem?_getD, hi] using this
      replace hA := Lib.hid hA
      replace hB' := Lib.hid hB'
      go_wp2_with fail
      have hA := hA.out
      have hB2 := hB'.out
      refine wp_region_held (S := fun w => w = wr.drew) (by kernel_rfl) ?_
      change wpAnyH _ _ _ _ _ _ _ _ (World.drew _)
      refine takeH 0 (.slice (some ⟨g, off, none⟩) n cu) (some 17) rfl rfl (by kernel_rfl) (by kernel_rfl) (by kernel_rfl) (fun _ _ _ h => h) (.inl ⟨by rfl, fun w _ => by go_simp⟩) rfl ?_
      refine takeH 1 (.int .i64 k) (some 18) rfl rfl (by kernel_rfl) (by kernel_rfl) (by kernel_rfl) (fun _ _ _ h => h) (.inl ⟨by rfl, fun w _ => by go_simp⟩) rfl ?_
      refine takeH 2 (.pointer (some ⟨g, off + k * 64, none⟩)) (some 19) rfl rfl (by kernel_rfl) (by kernel_rfl) (by kernel_rfl) (fun _ _ _ h => h) (.inl ⟨by rfl, fun w _ => by go_simp⟩) rfl ?_
      refine takeH 3 (.agg (rowArr 64 (fun j => xs.getD (k * 64 + j) undef))) (some 20) rfl rfl (by kernel_rfl) (by kernel_rfl) (by kernel_rfl) (fun _ _ _ h => h) (yi_piece (by rfl) 52 (.tmp 19) rfl g (off + k * 64) (by go_simp) (rowArr 64 (fun j => xs.getD (k * 64 + j) undef)) _ (fun w hw => by subst hw; exact hA) block_under rfl (by rw [rowArr_size]; exact block_size)) rfl ?_
      refine takeH 4 (.slice (some ⟨g', off', none⟩) n cv) (some 21) rfl rfl (by kernel_rfl) (by kernel_rfl) (by kernel_rfl) (fun _ _ _ h => h) (.inl ⟨by rfl, fun w _ => by go_simp⟩) rfl ?_
      refine takeH 5 (.int .i64 k) (some 22) rfl rfl (by kernel_rfl) (by kernel_rfl) (by kernel_rfl) (fun _ _ _ h => h) (.inl ⟨by rfl, fun w _ => by go_simp⟩) rfl ?_
      refine takeH 6 (.pointer (some ⟨g', off' + k * 64, none⟩)) (some 23) rfl rfl (by kernel_rfl) (by kernel_rfl) (by kernel_rfl) (fun _ _ _ h => h) (.inl ⟨by rfl, fun w _ => by go_simp⟩) rfl ?_
      refine takeH 7 (.agg (rowArr 64 (fun j => xs.getD (k * 64 + j) undef))) (some 24) rfl rfl (by kernel_rfl) (by kernel_rfl) (by kernel_rfl) (fun _ _ _ h => h) (yi_piece (by rfl) 52 (.tmp 23) rfl g' (off' + k * 64) (by go_simp) (rowArr 64 (fun j => xs.getD (k * 64 + j) undef)) _ (fun w hw => by subst hw; exact hB2) block_under rfl (by rw [rowArr_size]; exact block_size)) rfl ?_
      refine takeH 8 (.bool false) (some 25) rfl rfl (by kernel_rfl) (by kernel_rfl) (by kernel_rfl) (fun _ _ _ h => h) (.inl ⟨by rfl, fun w _ => exec_neq rfl (by go_simp) (by go_simp) (by kernel_rfl) (equal_u8s hE (rowArr_size _ _) w)⟩) rfl ?_
      refine wpAnyH_done (by kernel_rfl) ?_ _
      go_simp
      clear hA hB2 hE
      have BD : Below w.heap.size w wr.drew := bdrewN hB 1
      go_wp2_with fail
      go_roundw
      case rel => exact ⟨k + 1, by omega, by go_num, BD⟩
      case measure => simp [intOf]; omega
    · go_wp2_with fail
      go_ret
      exact ⟨rfl, hB⟩
end Go.Proofs.Ytonfnlohbgbffaa
