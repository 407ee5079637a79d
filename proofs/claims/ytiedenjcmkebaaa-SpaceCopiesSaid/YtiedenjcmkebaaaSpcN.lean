/- Memory of a process: Copy. -/
import Derived.Test.YtiedenjcmkebaaaSpcM
set_option linter.unusedVariables false
set_option linter.unusedSimpArgs false
namespace Go.Proofs.Ytiedenjcmkebaaa
open Go.RowKit

section
variable {w w' w0 : World} {base gs g gm lab l : Nat} {ps : List (Nat × Nat)} {v : Value} {a : Option Addr} {us : Nat → Nat} {F : Nat × Nat → Option (Nat → Nat)} {rs : List RegL}
set_option maxRecDepth 100000 in
set_option maxHeartbeats 8000000 in
theorem spaceCopy_full (hp : ConfP w0 a rs) (hb : Below w0.heap.size w0 w) (ht : FP w g gm a us F) (hs : SpV w base gs g lab ps v) (ok : SpOk F ps) (hc : Cont us F) (g0 : w0.heap.size ≤ g) (g1 : w0.heap.size ≤ gm)
    (hl : l < rs.length) (h64 : rs.length ≤ 64) (hfr : rs[l].fr < 65536) (hroom : rs[l].fr < us l + ps.length) (husf : us l < 65536) :
    Calls Try.prog 35 #[.pointer (some ⟨gs, 0, none⟩), .int .i64 l] w fun e w' => e = .returned (.tuple #[.pointer none, .int .i64 10]) ∧ Below w.heap.size w w' := by
  obtain ⟨A, c, hv⟩ := own_form hs.ov
  have h16 : ∀ w', Chg (fun k => k = g ∨ k = gm) w w' → w'.cell? ⟨gs, 0, none⟩ = some (.pointer (some ⟨g, 0, none⟩)) ∧ w'.cell? ⟨gs, 2, none⟩ = some (.slice A ps.length c) := fun w' h => by
    have h2 := hs.chg2 ht h
    rw [hv] at h2
    exact ⟨h2.c0, h2.c2⟩
  have h32 := ok.len
  obtain ⟨n, hn⟩ : ∃ n, n = ps.length := ⟨_, rfl⟩
  rw [← hn] at h16 h32 hroom
  have HN := Lib.hid hn
  have H16 := Lib.hid h16
  have CN := Lib.hid (spaceNew_full hp (hb.trans ((drewb w).mono hb.size)) (ht.keep (drewb w)) hc g0 g1 hl h64 n (by omega) hfr hroom husf)
  have HB := Lib.hid (show w.heap.size ≤ (World.drew w).heap.size from (drewb w).size)
  clear hp hb ht hs ok hc g0 g1 h64 hfr hroom husf hn hv h16
  go_enter Try.func35, Try.ntmps35
  go_upto_region 3 with fail
  refine wp_region_held (S := Chg (fun k => k = g ∨ k = gm) w) (by kernel_rfl) ?_
  change wpAnyH _ _ _ _ _ _ _ _ (World.drew _)
  have hS : Chg (fun k => k = g ∨ k = gm) w (World.drew w) := Chg.of_below _ (drewb w)
  refine takeH 0 (.pointer (some ⟨gs, 0, none⟩)) (some 13) rfl rfl (by kernel_rfl) (by kernel_rfl) (by kernel_rfl) (fun _ _ _ h => h) (.inl ⟨by kernel_rfl, fun w _ => by go_simp⟩) hS ?_
  refine takeH 1 (.pointer (some ⟨gs, 0, none⟩)) (some 14) rfl rfl (by kernel_rfl) (by kernel_rfl) (by kernel_rfl) (fun _ _ _ h => h) (.inl ⟨by kernel_rfl, fun w _ => by go_simp⟩) hS ?_
  refine takeH 2 (.pointer (some ⟨gs, 0, none⟩)) (some 15) rfl rfl (by kernel_rfl) (by kernel_rfl) (by kernel_rfl) (fun _ _ _ h => h) (.inl ⟨by kernel_rfl, fun w _ => by go_simp⟩) hS ?_
  refine takeH 3 (.pointer (some ⟨g, 0, none⟩)) (some 16) rfl rfl (by kernel_rfl) (by kernel_rfl) (by kernel_rfl) (fun _ _ _ h => h) (.inl ⟨by kernel_rfl, fun w hw => by have hc := (fun w hw => (H16.out w hw).1) w hw; go_simp⟩) hS ?_
  refine takeH 4 (.int .i64 l) (some 17) rfl rfl (by kernel_rfl) (by kernel_rfl) (by kernel_rfl) (fun _ _ _ h => h) (.inl ⟨by kernel_rfl, fun w _ => by go_simp⟩) hS ?_
  refine takeH 5 (.pointer (some ⟨gs, 0, none⟩)) (some 18) rfl rfl (by kernel_rfl) (by kernel_rfl) (by kernel_rfl) (fun _ _ _ h => h) (.inl ⟨by kernel_rfl, fun w _ => by go_simp⟩) hS ?_
  refine takeH 6 (.pointer (some ⟨gs, 0, none⟩)) (some 19) rfl rfl (by kernel_rfl) (by kernel_rfl) (by kernel_rfl) (fun _ _ _ h => h) (.inl ⟨by kernel_rfl, fun w _ => by go_simp⟩) hS ?_
  refine takeH 7 (.pointer (some ⟨gs, 2, none⟩)) (some 20) rfl rfl (by kernel_rfl) (by kernel_rfl) (by kernel_rfl) (fun _ _ _ h => h) (.inl ⟨by kernel_rfl, fun w _ => by go_simp⟩) hS ?_
  refine takeH 8 (.slice A n c) (some 21) rfl rfl (by kernel_rfl) (by kernel_rfl) (by kernel_rfl) (fun _ _ _ h => h) (.inl ⟨by kernel_rfl, fun w hw => by have hc := (fun w hw => (H16.out w hw).2) w hw; go_simp⟩) hS ?_
  refine takeH 9 (.int .i64 n) (some 22) rfl rfl (by kernel_rfl) (by kernel_rfl) (by kernel_rfl) (fun _ _ _ h => h) (.inl ⟨by kernel_rfl, fun w _ => by go_simp⟩) hS ?_
  refine callH 10 rfl (by kernel_rfl) (by kernel_rfl) (some 23) rfl 21 #[.pointer (some ⟨g, 0, none⟩), .int .i64 l, .int .i64 n] ?hrun (CN.out.mono ?_)
  case hrun => go_simp
  rintro e w5 ⟨he, hb5⟩
  have hbw : Below w.heap.size w w5 := bnext (drewb w) hb5
  have hS5 : Chg (fun k => k = g ∨ k = gm) w w5 := Chg.of_below _ hbw
  refine ⟨_, he, hS5, ?_⟩
  clear he
  refine takeH 11 (.tuple #[.pointer none, .int .i64 10]) (some 12) rfl rfl (by kernel_rfl) (by kernel_rfl) (by kernel_rfl) (fun _ _ _ h => h) (.inl ⟨by kernel_rfl, fun w _ => by go_simp⟩) hS5 ?_
  refine takeH 12 (.pointer none) (some 24) rfl rfl (by kernel_rfl) (by kernel_rfl) (by kernel_rfl) (fun _ _ _ h => h) (.inl ⟨by kernel_rfl, fun w _ => by go_simp⟩) hS5 ?_
  refine takeH 13 (.int .i64 10) (some 25) rfl rfl (by kernel_rfl) (by kernel_rfl) (by kernel_rfl) (fun _ _ _ h => h) (.inl ⟨by kernel_rfl, fun w _ => by go_simp⟩) hS5 ?_
  refine takeH 14 (.pointer none) (some 6) rfl rfl (by kernel_rfl) (by kernel_rfl) (by kernel_rfl) (fun _ _ _ h => h) (.inl ⟨by kernel_rfl, fun w _ => by go_simp⟩) hS5 ?_
  refine takeH 15 (.int .i64 10) (some 7) rfl rfl (by kernel_rfl) (by kernel_rfl) (by kernel_rfl) (fun _ _ _ h => h) (.inl ⟨by kernel_rfl, fun w _ => by go_simp⟩) hS5 ?_
  refine wpAnyH_done (by kernel_rfl) ?_ _
  go_simp
  have HBW := Lib.hid hbw
  clear hS hS5 hb5 hbw
  go_wp2_with fail
  go_ret2
  exact ⟨rfl, HBW.out⟩

/-- What a copy's pages hold behind j of them. -/
structure CopyI (F Fr : Nat × Nat → Option (Nat → Nat)) (ps : List (Nat × Nat)) (l u n j : Nat) : Prop where
  new : ∀ i, i < n → Fr (l, u + i) = if i < j then F (ps.getD i (0, 0)) else some fun _ => 0
  old : ∀ p, p ∉ morePs l u n → Fr p = F p
theorem mem_morePs {l u n : Nat} {p : Nat × Nat} : p ∈ morePs l u n ↔ ∃ i, i < n ∧ p = (l, u + i) := by
  simp only [morePs, List.mem_map, List.mem_range]
  exact ⟨fun ⟨i, h1, h2⟩ => ⟨i, h1, h2.symm⟩, fun ⟨i, h1, h2⟩ => ⟨i, h1, h2.symm⟩⟩
theorem moreF_new (F : Nat × Nat → Option (Nat → Nat)) (l u : Nat) : ∀ (m i : Nat), i < m → moreF F l u m (l, u + i) = some fun _ => 0
  | 0, i, h => absurd h (Nat.not_lt_zero _)
  | m + 1, i, h => by
    unfold moreF putF
    split
    · rfl
    · rename_i hne
      exact moreF_new F l u m i (by
        rcases Nat.lt_or_ge i m with h2 | h2
        · exact h2
        · exact absurd (by rw [show i = m by omega]) hne)
theorem moreF_old (F : Nat × Nat → Option (Nat → Nat)) (l u : Nat) : ∀ (m : Nat) (p : Nat × Nat), p ∉ morePs l u m → moreF F l u m p = F p
  | 0, p, h => rfl
  | m + 1, p, h => by
    unfold moreF putF
    rw [if_neg (fun e => h (mem_morePs.2 ⟨m, by omega, e⟩))]
    exact moreF_old F l u m p (fun h2 => by
      obtain ⟨i, h3, h4⟩ := mem_morePs.1 h2
      exact h (mem_morePs.2 ⟨i, by omega, h4⟩))
theorem CopyI.start (F : Nat × Nat → Option (Nat → Nat)) (ps : List (Nat × Nat)) (l u n : Nat) : CopyI F (moreF F l u n) ps l u n 0 :=
  ⟨fun i hi => by rw [if_neg (Nat.not_lt_zero _)]; exact moreF_new F l u n i hi, fun p hp => moreF_old F l u n p hp⟩
theorem CopyI.step {Fr : Nat × Nat → Option (Nat → Nat)} {u n j : Nat} {f : Nat → Nat} (h : CopyI F Fr ps l u n j) (hj : j < n) (hf : F (ps.getD j (0, 0)) = some f) : CopyI F (putF Fr (l, u + j) f) ps l u n (j + 1) where
  new := fun i hi => by
    unfold putF
    by_cases e : i = j
    · subst e; rw [if_pos rfl, if_pos (by omega), hf]
    · rw [if_neg (fun h2 => e (by injection h2 with h3 h4; omega)), h.new i hi]
      by_cases h2 : i < j
      · rw [if_pos h2, if_pos (by omega)]
      · rw [if_neg h2, if_neg (by omega)]
  old := fun p hp => by
    unfold putF
    rw [if_neg (fun e => hp (mem_morePs.2 ⟨j, hj, e⟩))]
    exact h.old p hp
end
end Go.Proofs.Ytiedenjcmkebaaa
