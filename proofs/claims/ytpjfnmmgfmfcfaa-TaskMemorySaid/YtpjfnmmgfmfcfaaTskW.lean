/- Processes: garrisonlaw25's Awake, by itself (TskO's, with fewer imports). -/
import Derived.Test.YtpjfnmmgfmfcfaaTskM
import Derived.Test.YtpjfnmmgfmfcfaaTskG
set_option linter.unusedVariables false
set_option linter.unusedSimpArgs false
namespace Go.Proofs.Ytpjfnmmgfmfcfaa
open Go.RowKit
open Go.Maps (Keyed)

theorem get_of {L : List TE} {j : Nat} {t : TE} (h : L[j]? = some t) : ∃ hj : j < L.length, L[j] = t := List.getElem?_eq_some_iff.1 h

set_option maxRecDepth 100000 in
set_option maxHeartbeats 8000000 in
theorem taskAwake_in (W : World) : Calls Try.prog 5 #[] W fun e w' => e = .returned (.bool true) ∧ Below W.heap.size W w' := by
  have hX := fun w => hvX_ok w 0 3 0 0 (by omega) (by omega) (by omega) (by omega)
  unfold hvX at hX
  go_enter Try.func5, Try.ntmps5
  go_wp2_with fail
  refine (sizeConf_in _ _ (hvS 0 3 0 0) (hX _)).mono ?_; rintro e w1 ⟨hb1, cg, gT, gN, gL, v', m', u', rfl, hcf⟩
  have HP := Lib.hid (hcf.toP (sizeLe _) (sizeOk _))
  have HB1 := Lib.hid hb1
  clear hcf hb1 hX
  go_wp2_with fail
  refine (taskNew_in _ _).mono ?_; rintro e w3 ⟨g, gm, rfl, hg, hgm, ht, hb3⟩
  have HT3 := Lib.hid ht
  have HB3 := Lib.hid hb3
  have HG := Lib.hid (And.intro hg hgm)
  clear hb3 ht hg hgm
  go_wp2_with fail
  have hadd := taskAdd_ok HP.out HB3.out HT3.out HG.out.1 HG.out.2 (by have := HG.out.1; have := HT3.out.tp.row.lt; omega) 0 1 (by rw [hvS_len]; omega) (sizeLe64 _) 0 (by rw [sizePr]; decide) (by simp) (by omega) (by omega) rfl (fun m h1 h2 => by omega)
  refine hadd.mono ?_
  rintro e w4 ⟨x1, rfl, hx1, ht4, hd4⟩
  have HT4 := Lib.hid ht4
  have HB4 := Lib.hid (Duo.go HB3.out hd4 HG.out.1 HG.out.2 HB3.out.size)
  have hr4 := ht4.pr 0 ⟨x1, newP 0 1 0 (sizeRegs (hvS 0 3 0 0))[0].cl⟩ (by rw [setT_same]; exact mem_insE.2 (.inl rfl))
  have e1 : w4.cell? ⟨x1, 1, none⟩ = some (.int .u16 1) := hr4.cell (i := 1) (by omega)
  clear hadd ht4 hd4 hr4
  go_wp2_with fail
  have hadd := taskAdd_ok HP.out HB4.out HT4.out HG.out.1 HG.out.2 (by have := HG.out.1; have := HT4.out.tp.row.lt; omega) 0 2 (by rw [hvS_len]; omega) (sizeLe64 _) 1 (by rw [sizePr]; exact (by decide : 1 < 1 + 3 % 6)) (by rw [setT_same]; simp [insE]) (by omega) (by omega) rfl (fun m h1 h2 => by
    obtain rfl : m = 1 := by omega
    simp [tF, setT, insE, newP])
  refine hadd.mono ?_
  rintro e w5 ⟨x2, rfl, hx2, ht5, hd5⟩
  have HB5 := Lib.hid (Duo.go HB4.out hd5 HG.out.1 HG.out.2 HB4.out.size)
  obtain ⟨T, hT⟩ : ∃ T, T = (setT (setT (fun x => []) 0 (insE ((fun x => []) 0) { blk := x1, pr := newP 0 1 0 (sizeRegs (hvS 0 3 0 0))[0].cl })) 0 (insE (setT (fun x => []) 0 (insE ((fun x => []) 0) { blk := x1, pr := newP 0 1 0 (sizeRegs (hvS 0 3 0 0))[0].cl }) 0) { blk := x2, pr := newP 0 2 1 (sizeRegs (hvS 0 3 0 0))[0].cl })) := ⟨_, rfl⟩
  rw [← hT] at ht5
  have hT0 : T 0 = [⟨x1, newP 0 1 0 (sizeRegs (hvS 0 3 0 0))[0].cl⟩, ⟨x2, newP 0 2 1 (sizeRegs (hvS 0 3 0 0))[0].cl⟩] := by rw [hT]; rfl
  obtain ⟨c1, hc1⟩ : ∃ c, c = (sizeRegs (hvS 0 3 0 0))[0].cl := ⟨_, rfl⟩
  rw [← hc1] at hT0
  have HT5 := Lib.hid ht5
  have HT0 := Lib.hid hT0
  have hr5 := ht5.pr 0 ⟨x2, newP 0 2 1 c1⟩ (by rw [hT0]; simp)
  have c0 : w5.cell? ⟨x2, 0, none⟩ = some (.int .u8 0) := hr5.cell (i := 0) (by omega)
  have c1' : w5.cell? ⟨x2, 1, none⟩ = some (.int .u16 2) := hr5.cell (i := 1) (by omega)
  clear hadd ht5 hd5 hT hc1 hT0 hr5 e1
  go_wp2_with fail
  obtain ⟨hj, hjt⟩ := get_of (show (T 0)[1]? = some ⟨x2, newP 0 2 1 c1⟩ by rw [HT0.out]; rfl)
  have hend := taskEnd_in HT5.out (l := 0) (by omega) hj hjt 2 rfl 5 (by show (1 : Nat) ≠ 3; omega) (by rw [HT0.out]; rfl) (by show 1 ≤ 65535; omega) (fun s hs hn => by
    rw [HT0.out] at hs
    simp only [List.mem_cons, List.not_mem_nil, or_false] at hs
    rcases hs with rfl | rfl
    · show (1 : Nat) ≠ 2; omega
    · show (1 : Nat) ≠ 2; omega) (fun _ => False) (fun _ => True) (fun _ h => h.elim) (fun _ _ h => h) (fun _ _ _ _ => trivial) (fun w1 _ => (spaceFree_nil w1).mono (by rintro e w2 ⟨rfl, rfl⟩; exact ⟨rfl, Chg.of_below _ (Below.refl _ _), trivial⟩))
  refine hend.mono ?_
  rintro e w6 ⟨rfl, ht6, hc6, _⟩
  obtain ⟨T6, hT6⟩ : ∃ T6, T6 = setT T 0 (endL (T 0) 1 2 5 ⟨x2, newP 0 2 1 c1⟩) := ⟨_, rfl⟩
  rw [← hT6] at ht6
  have h60 : T6 0 = [⟨x1, newP 0 1 0 c1⟩, ⟨x2, endP 5 (newP 0 2 1 c1)⟩] := by
    rw [hT6, setT_same, HT0.out]; rfl
  have HT6 := Lib.hid ht6
  have H60 := Lib.hid h60
  have HB6 := Lib.hid (Chg.go HB5.out hc6 (fun k hk => by
    have h1 := HG.out.1
    have h2 := HG.out.2
    rcases hk with hk | rfl | rfl | ⟨l, t, ht, rfl⟩
    · exact hk.elim
    · exact h1
    · exact h2
    · exact HT5.out.ok.base _ _ ht) HB5.out.size)
  have hr6 := ht6.pr 0 ⟨x1, newP 0 1 0 c1⟩ (by rw [h60]; simp)
  have d0 : w6.cell? ⟨x1, 0, none⟩ = some (.int .u8 0) := hr6.cell (i := 0) (by omega)
  have d1 : w6.cell? ⟨x1, 1, none⟩ = some (.int .u16 1) := hr6.cell (i := 1) (by omega)
  clear hend ht6 hc6 hT6 h60 hr6 hj hjt c0 c1'
  go_wp2_with fail
  refine (taskHear_in HT6.out 0 1 (by omega) (by omega)).mono ?_
  have hh : hearL (T6 0) 1 = some ⟨x2, endP 5 (newP 0 2 1 c1)⟩ := by rw [H60.out]; rfl
  rintro e w7 ⟨hd7, ⟨t, h1, rfl, _⟩ | ⟨h1, _⟩⟩
  · rw [hh] at h1
    injection h1 with h1
    subst h1
    have HB7 := Lib.hid (Duo.go HB6.out hd7 HG.out.1 HG.out.2 HB6.out.size)
    clear hd7 hh
    simp only [endP, newP]
    go_wp2_with fail
    go_ret
    exact ⟨rfl, HB1.out.trans (HB7.out.mono HB1.out.size)⟩
  · rw [hh] at h1
    cases h1
end Go.Proofs.Ytpjfnmmgfmfcfaa
