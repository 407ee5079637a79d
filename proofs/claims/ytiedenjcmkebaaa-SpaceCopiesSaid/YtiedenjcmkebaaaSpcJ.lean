/- SpaceFaults: its walk (and the chapter's example). -/
import Derived.Test.YtiedenjcmkebaaaSpcI
set_option linter.unusedVariables false
set_option linter.unusedSimpArgs false
namespace Go.Proofs.Ytiedenjcmkebaaa
open Go.RowKit

theorem moreF_is (F : Nat × Nat → Option (Nat → Nat)) (l u : Nat) : ∀ (m j : Nat), j < m → (moreF F l u m (l, u + j)).isSome = true
  | 0, j, h => absurd h (Nat.not_lt_zero _)
  | m + 1, j, h => by
    unfold moreF putF
    split
    · rfl
    · rename_i hne
      exact moreF_is F l u m j (by
        rcases Nat.lt_or_ge j m with h2 | h2
        · exact h2
        · exact absurd (by rw [show j = m by omega]) hne)
theorem spOk_more (F : Nat × Nat → Option (Nat → Nat)) (l u m : Nat) (h1 : l ≤ 255) (h2 : u + m ≤ 65536) (h3 : m ≤ 32) : SpOk (moreF F l u m) (morePs l u m) where
  p1 := fun p hp => by
    simp only [morePs, List.mem_map, List.mem_range] at hp
    obtain ⟨j, hj, rfl⟩ := hp
    exact ⟨h1, by show u + j ≤ _; omega⟩
  is := fun p hp => by
    simp only [morePs, List.mem_map, List.mem_range] at hp
    obtain ⟨j, hj, rfl⟩ := hp
    exact moreF_is F l u m j hj
  nd := by
    unfold morePs
    rw [List.nodup_iff_pairwise_ne]
    rw [List.pairwise_map]
    refine List.Pairwise.imp ?_ List.nodup_range
    intro a b h e
    injection e with h3 h4
    omega
  len := by rw [morePs_len]; exact h3
/-- A new space over a new pool. -/
structure NewSp (w0 w : World) (g gm gs base lab m : Nat) (ad : Addr) (us : Nat → Nat) (F : Nat × Nat → Option (Nat → Nat)) (v : Value) : Prop where
  bl : Below w0.heap.size w0 w
  tp : FP w g gm (some ad) us F
  sp : SpV w base gs g lab (morePs lab 0 m) v
  ok : SpOk F (morePs lab 0 m)
  g0 : w0.heap.size ≤ g
  g1 : w0.heap.size ≤ gm
theorem NewSp.keep {w0 w w' : World} {g gm gs base lab m : Nat} {ad : Addr} {us : Nat → Nat} {F : Nat × Nat → Option (Nat → Nat)} {v : Value} (h : NewSp w0 w g gm gs base lab m ad us F v) (hb : Below w.heap.size w w') : NewSp w0 w' g gm gs base lab m ad us F v :=
  ⟨h.bl.trans (hb.mono h.bl.size), h.tp.keep hb, h.sp.keep hb, h.ok, h.g0, h.g1⟩
theorem NewSp.upd {w0 w w' : World} {g gm gs base lab m : Nat} {ad : Addr} {us : Nat → Nat} {F F' : Nat × Nat → Option (Nat → Nat)} {v : Value} {mm : Nat → Nat} (h : NewSp w0 w g gm gs base lab m ad us F v)
    (ht : FP w' g gm (some ad) us F') (hu : SpUpd F F' (morePs lab 0 m) mm) (hc : Chg (fun k => k = g ∨ k = gm) w w') : NewSp w0 w' g gm gs base lab m ad us F' v :=
  ⟨Chg.go h.bl hc (fun k hk => by
    rcases hk with rfl | rfl
    · exact h.g0
    · exact h.g1) h.bl.size, ht, h.sp.chg2 h.tp hc, hu.ok h.ok, h.g0, h.g1⟩
theorem NewSp.mk' {w w1 w2 w3 : World} {n m' g gm : Nat} {ad : Addr} {gs : Nat} {v : Value} {lab k : Nat} (hp : NewPool w w2 n m' g gm ad w1) (hk : k ≤ 32) (hl : lab ≤ 255)
    (ht : FP w3 g gm (some ad) (setN (fun _ => 0) lab (0 + k)) (moreF (fun _ => none) lab 0 k)) (hs : SpV w3 w2.heap.size gs g lab (morePs lab 0 k) v) (hc : Chg (fun k => k = g ∨ k = gm) w2 w3) :
    NewSp w1 w3 g gm gs w2.heap.size lab k ad (setN (fun _ => 0) lab (0 + k)) (moreF (fun _ => none) lab 0 k) v :=
  ⟨Chg.go hp.b2 hc (fun k hk => by
    rcases hk with rfl | rfl
    · exact hp.g0
    · exact hp.g1) hp.b2.size, ht, hs, spOk_more _ _ _ _ hl (by omega) hk, hp.g0, hp.g1⟩

set_option maxRecDepth 100000 in
set_option maxHeartbeats 8000000 in
theorem spaceAwake_in (W : World) : Calls Try.prog 20 #[] W fun e w' => e = .returned (.bool true) ∧ Below W.heap.size W w' := by
  go_enter Try.func20, Try.ntmps20
  go_wp2_with fail
  refine (big_in _ 0 0 (by omega) (by omega)).mono ?_; rintro e w2 ⟨g, gm, ad, w1, rfl, hnp⟩
  have HNP := Lib.hid hnp
  clear hnp
  go_wp2_with fail
  have hnew := spaceNew_up HNP.out.cp HNP.out.b2 HNP.out.fp Cont.nil HNP.out.g0 HNP.out.g1 (lab := 0) (by rw [bigS_len]; omega) (sizeLe64 _) 1 (by omega) (by rw [bigS_fr0]; omega) (by rw [bigS_fr0]; omega)
  refine hnew.mono ?_
  rintro e w3 ⟨gs, v3, rfl, hgs, hT3, hS3, hc3⟩
  have HNS := Lib.hid (NewSp.mk' HNP.out (by omega) (by omega) hT3 hS3 hc3)
  clear hnew hT3 hS3 hc3
  go_wp2_with fail
  refine (spaceStore_in HNS.out.tp HNS.out.sp HNS.out.ok 62 2 (by omega) (by rw [morePs_len]; omega) 258).mono ?_
  rintro e w4 ⟨rfl, F4, hT4, hU4, hC4⟩
  have HN4 := Lib.hid (HNS.out.upd hT4 hU4 hC4)
  have h62 : spMem F4 (morePs 0 0 1) 62 = 2 := by rw [hU4.mem 62 (by rw [morePs_len]; omega)]; simp
  have H62 := Lib.hid h62
  clear hT4 hU4 hC4 h62
  go_wp2_with fail
  refine (spaceLoad_one HN4.out.tp HN4.out.sp HN4.out.ok 62 (by omega) (by rw [morePs_len]; omega) (by rw [H62.out]; omega)).mono ?_
  rintro e w5 ⟨rfl, hb5⟩
  rw [H62.out]
  have HN5 := Lib.hid (HN4.out.keep hb5)
  clear hb5
  go_wp2_with fail
  refine (spaceLoad_no HN5.out.sp (by rw [morePs_len]; omega) 62 (by omega) 4 (by omega) (by omega) (by rw [morePs_len]; rfl)).mono ?_
  rintro e w6 ⟨rfl, rfl⟩
  go_wp2_with fail
  refine (spaceSize_in HN5.out.sp (by rw [morePs_len]; omega)).mono ?_
  rintro e w7 ⟨rfl, rfl⟩
  rw [morePs_len]
  go_wp2_with fail
  go_ret
  exact ⟨rfl, HNP.out.b1.trans (HN5.out.bl.mono HNP.out.b1.size)⟩

set_option maxRecDepth 100000 in
set_option maxHeartbeats 16000000 in
theorem spaceFaults_walk (W : World) (v0 v1 v2 v3 v4 : Value) (o0 : Arg Try.prog W 5 v0) (o1 : Arg Try.prog W 27 v1) (o2 : Arg Try.prog W 27 v2) (o3 : Arg Try.prog W 3 v3) (o4 : Arg Try.prog W 24 v4) :
    Calls Try.prog 4 #[v0, v1, v2, v3, v4] W fun e w' => e = .returned (.bool true) ∧ Below W.heap.size W w' := by
  obtain ⟨x0, rfl, h0⟩ := Arg.int Try.underlying5 o0
  obtain ⟨x1, rfl, h1⟩ := Arg.int Try.underlying27 o1
  obtain ⟨x2, rfl, h2⟩ := Arg.int Try.underlying27 o2
  obtain ⟨many, rfl, h3⟩ := Arg.int Try.underlying3 o3
  obtain ⟨zs, hz⟩ := SI.of_arg Try.underlying24 Try.underlying5 (by kernel_rfl) o4
  have b0 := wf_u8 h0
  have b1 := wf_u32 h1
  have b2 := wf_u32 h2
  have b3 := wf_i64 h3
  obtain ⟨pg, rfl⟩ : ∃ n : Nat, x0 = n := ⟨x0.toNat, by omega⟩
  obtain ⟨at_, rfl⟩ : ∃ n : Nat, x1 = n := ⟨x1.toNat, by omega⟩
  obtain ⟨n, rfl⟩ : ∃ n : Nat, x2 = n := ⟨x2.toNat, by omega⟩
  obtain ⟨A, cap, rfl, hc1, hc2⟩ := hz.sr.form
  have HZ := Lib.hid hz
  obtain ⟨len, hlen⟩ : ∃ l, l = zs.length := ⟨_, rfl⟩
  rw [← hlen] at hc1 ⊢
  have HL := Lib.hid hlen
  clear hz o0 o1 o2 o3 o4 h0 h1 h2 h3 hlen
  have ha : at_ ≤ 4294967295 := by omega
  have hm1 : many ≤ 9223372036854775807 := by omega
  have hm2 : -9223372036854775808 ≤ many := by omega
  have hlm : len ≤ 9223372036854775807 := by unfold maxLen at hc2; omega
  obtain ⟨p, hp⟩ : ∃ p, p = pg % 5 := ⟨_, rfl⟩
  have hp5 : p ≤ 4 := by omega
  have fp : (pg : Int) % 5 = p := by omega
  clear hp
  go_enter Try.func4, Try.ntmps4
  go_wp2_with fail
  refine (spaceAwake_in _).mono ?_; rintro e wa ⟨rfl, hba⟩
  have HBA := Lib.hid hba
  have HZ1 := Lib.hid (HZ.out.keep hba)
  clear hba
  by_cases hbig : 300 < len
  · have fb : (300 : Int) < len := by omega
    go_wp2_with fail
    go_ret
    exact ⟨rfl, HBA.out⟩
  have fb : ¬ ((300 : Int) < len) := by omega
  go_wp2_with fail
  refine (big_in _ 9 0 (by omega) (by omega)).mono ?_; rintro e w2 ⟨g, gm, ad, w1, rfl, hnp⟩
  have HNP := Lib.hid hnp
  clear hnp
  go_wp2_with fail
  have hnew := spaceNew_up HNP.out.cp HNP.out.b2 HNP.out.fp Cont.nil HNP.out.g0 HNP.out.g1 (lab := 0) (by rw [bigS_len]; omega) (sizeLe64 _) p (by omega) (by rw [bigS_fr0]; omega) (by rw [bigS_fr0]; omega)
  refine hnew.mono ?_
  rintro e w3 ⟨gs, v3, rfl, hgs, hT3, hS3, hc3⟩
  have HNS := Lib.hid (NewSp.mk' HNP.out (by omega) (by omega) hT3 hS3 hc3)
  have HBW := Lib.hid (HBA.out.trans (HNP.out.b1.mono HBA.out.size))
  clear hnew hT3 hS3 hc3 fp
  go_wp2_with fail
  refine (spaceSize_in HNS.out.sp (by rw [morePs_len]; omega)).mono ?_
  rintro e w4 ⟨rfl, rfl⟩
  rw [morePs_len]
  have fs : IntKind.u64.wrap ((64 * p : Nat) : Int) = ((64 * p : Nat) : Int) := by simp [IntKind.wrap, IntKind.bits, IntKind.signed]; omega
  go_wp2_with fail
  clear fs
  rcases (show (0 ≤ many ∧ at_ + many.toNat ≤ 64 * p) ∨ (0 ≤ many ∧ 64 * p < at_ + many.toNat) ∨ many < 0 by omega) with hw | hw | hw
  · obtain ⟨k, rfl⟩ : ∃ k : Nat, many = k := ⟨many.toNat, by omega⟩
    have hin : at_ + k ≤ 64 * p := by omega
    have f1 : IntKind.u64.wrap (at_ : Int) = at_ := by simp [IntKind.wrap, IntKind.bits, IntKind.signed]; omega
    have f2 : IntKind.u64.wrap (k : Int) = k := by simp [IntKind.wrap, IntKind.bits, IntKind.signed]; omega
    have f3 : IntKind.u64.wrap ((at_ : Int) + k) = (at_ : Int) + k := by simp [IntKind.wrap, IntKind.bits, IntKind.signed]; omega
    have f4 : (at_ : Int) + k ≤ 64 * p := by omega
    clear hw
    refine (spaceLoad_some HNS.out.tp HNS.out.sp HNS.out.ok at_ k ha (by rw [morePs_len]; exact hin)).mono ?_
    rintro e w5 ⟨⟨x5, rfl⟩, hb5⟩
    have HN5 := Lib.hid (HNS.out.keep hb5)
    clear hb5
    go_wp2_with fail
    refine (spaceStore_in HN5.out.tp HN5.out.sp HN5.out.ok at_ k ha (by rw [morePs_len]; exact hin) n).mono ?_
    rintro e w6 ⟨rfl, F6, hT6, hU6, hC6⟩
    have HN6 := Lib.hid (HN5.out.upd hT6 hU6 hC6)
    clear hT6 hU6 hC6
    go_wp2_with fail
    refine (spaceRead_in HN6.out.tp HN6.out.sp HN6.out.ok at_ k ha (by rw [morePs_len]; exact hin)).mono ?_
    rintro e w7 ⟨gO, rfl, _, _, hb7⟩
    have HN7 := Lib.hid (HN6.out.keep hb7)
    clear hb7
    go_wp2_with fail
    have g2 : IntKind.u64.wrap (len : Int) = len := by simp [IntKind.wrap, IntKind.bits, IntKind.signed]; omega
    have g3 : IntKind.u64.wrap ((at_ : Int) + len) = (at_ : Int) + len := by simp [IntKind.wrap, IntKind.bits, IntKind.signed]; omega
    have hud : undef = Value.tuple #[] := rfl
    by_cases hfit : at_ + len ≤ 64 * p
    · have g4 : (at_ : Int) + len ≤ 64 * p := by omega
      have hwr := spaceWrite_in HN7.out.bl HN7.out.tp HN7.out.sp HN7.out.ok HN7.out.g0 HN7.out.g1 (.slice A len cap) zs (by have := HZ1.out.keep HNP.out.b1; rw [← HL.out] at this; exact this) at_ ha (by rw [morePs_len, ← HL.out]; exact hfit)
      refine hwr.mono ?_
      rintro e w8 ⟨rfl, F8, hT8, hU8, hC8⟩
      have HN8 := Lib.hid (HN7.out.upd hT8 hU8 hC8)
      clear hwr hT8 hU8 hC8
      go_wp2_with fail
      go_ret
      exact ⟨by first | rfl | exact ret_bool (by simp [f4, g4]) | exact ret_bool (by simp; omega), HBW.out.trans (HN8.out.bl.mono HBW.out.size)⟩
    · have g4 : ¬ ((at_ : Int) + len ≤ 64 * p) := by omega
      refine (spaceWrite_no HN7.out.sp (by rw [morePs_len]; omega) at_ ha A len cap (by omega) (by rw [morePs_len, insideB_nat, decide_eq_false hfit])).mono ?_
      rintro e w8 ⟨rfl, rfl⟩
      go_wp2_with fail
      go_ret
      exact ⟨by first | rfl | exact ret_bool (by simp [f4, g4]) | exact ret_bool (by simp; omega), HBW.out.trans (HN7.out.bl.mono HBW.out.size)⟩
  · obtain ⟨k, rfl⟩ : ∃ k : Nat, many = k := ⟨many.toNat, by omega⟩
    have hin : insideB (morePs 0 0 p).length at_ (k : Int) = false := by rw [morePs_len, insideB_nat, decide_eq_false (by omega)]
    have f1 : IntKind.u64.wrap (at_ : Int) = at_ := by simp [IntKind.wrap, IntKind.bits, IntKind.signed]; omega
    have f2 : IntKind.u64.wrap (k : Int) = k := by simp [IntKind.wrap, IntKind.bits, IntKind.signed]; omega
    have f3 : IntKind.u64.wrap ((at_ : Int) + k) = (at_ : Int) + k := by simp [IntKind.wrap, IntKind.bits, IntKind.signed]; omega
    have f4 : ¬ ((at_ : Int) + k ≤ 64 * p) := by omega
    clear hw
    refine (spaceLoad_no HNS.out.sp (by rw [morePs_len]; omega) at_ ha k (by omega) (by omega) hin).mono ?_
    rintro e w5 ⟨rfl, rfl⟩
    go_wp2_with fail
    refine (spaceStore_no HNS.out.sp (by rw [morePs_len]; omega) at_ ha k (by omega) (by omega) n hin).mono ?_
    rintro e w6 ⟨rfl, rfl⟩
    go_wp2_with fail
    refine (spaceRead_no HNS.out.sp (by rw [morePs_len]; omega) at_ ha k (by omega) (by omega) hin).mono ?_
    rintro e w7 ⟨rfl, rfl⟩
    have HN7 := Lib.hid HNS.out
    go_wp2_with fail
    have g2 : IntKind.u64.wrap (len : Int) = len := by simp [IntKind.wrap, IntKind.bits, IntKind.signed]; omega
    have g3 : IntKind.u64.wrap ((at_ : Int) + len) = (at_ : Int) + len := by simp [IntKind.wrap, IntKind.bits, IntKind.signed]; omega
    have hud : undef = Value.tuple #[] := rfl
    by_cases hfit : at_ + len ≤ 64 * p
    · have g4 : (at_ : Int) + len ≤ 64 * p := by omega
      have hwr := spaceWrite_in HN7.out.bl HN7.out.tp HN7.out.sp HN7.out.ok HN7.out.g0 HN7.out.g1 (.slice A len cap) zs (by have := HZ1.out.keep HNP.out.b1; rw [← HL.out] at this; exact this) at_ ha (by rw [morePs_len, ← HL.out]; exact hfit)
      refine hwr.mono ?_
      rintro e w8 ⟨rfl, F8, hT8, hU8, hC8⟩
      have HN8 := Lib.hid (HN7.out.upd hT8 hU8 hC8)
      clear hwr hT8 hU8 hC8
      go_wp2_with fail
      go_ret
      exact ⟨by first | rfl | exact ret_bool (by simp [f4, g4]) | exact ret_bool (by simp; omega), HBW.out.trans (HN8.out.bl.mono HBW.out.size)⟩
    · have g4 : ¬ ((at_ : Int) + len ≤ 64 * p) := by omega
      refine (spaceWrite_no HN7.out.sp (by rw [morePs_len]; omega) at_ ha A len cap (by omega) (by rw [morePs_len, insideB_nat, decide_eq_false hfit])).mono ?_
      rintro e w8 ⟨rfl, rfl⟩
      go_wp2_with fail
      go_ret
      exact ⟨by first | rfl | exact ret_bool (by simp [f4, g4]) | exact ret_bool (by simp; omega), HBW.out.trans (HN7.out.bl.mono HBW.out.size)⟩
  · have hin : insideB (morePs 0 0 p).length at_ many = false := by simp [insideB]; omega
    have f4 : ¬ (0 ≤ many) := by omega
    clear hw
    refine (spaceLoad_no HNS.out.sp (by rw [morePs_len]; omega) at_ ha many (by omega) (by omega) hin).mono ?_
    rintro e w5 ⟨rfl, rfl⟩
    go_wp2_with fail
    refine (spaceStore_no HNS.out.sp (by rw [morePs_len]; omega) at_ ha many (by omega) (by omega) n hin).mono ?_
    rintro e w6 ⟨rfl, rfl⟩
    go_wp2_with fail
    refine (spaceRead_no HNS.out.sp (by rw [morePs_len]; omega) at_ ha many (by omega) (by omega) hin).mono ?_
    rintro e w7 ⟨rfl, rfl⟩
    have HN7 := Lib.hid HNS.out
    go_wp2_with fail
    have f1 : IntKind.u64.wrap (at_ : Int) = at_ := by simp [IntKind.wrap, IntKind.bits, IntKind.signed]; omega
    have g2 : IntKind.u64.wrap (len : Int) = len := by simp [IntKind.wrap, IntKind.bits, IntKind.signed]; omega
    have g3 : IntKind.u64.wrap ((at_ : Int) + len) = (at_ : Int) + len := by simp [IntKind.wrap, IntKind.bits, IntKind.signed]; omega
    have hud : undef = Value.tuple #[] := rfl
    by_cases hfit : at_ + len ≤ 64 * p
    · have g4 : (at_ : Int) + len ≤ 64 * p := by omega
      have hwr := spaceWrite_in HN7.out.bl HN7.out.tp HN7.out.sp HN7.out.ok HN7.out.g0 HN7.out.g1 (.slice A len cap) zs (by have := HZ1.out.keep HNP.out.b1; rw [← HL.out] at this; exact this) at_ ha (by rw [morePs_len, ← HL.out]; exact hfit)
      refine hwr.mono ?_
      rintro e w8 ⟨rfl, F8, hT8, hU8, hC8⟩
      have HN8 := Lib.hid (HN7.out.upd hT8 hU8 hC8)
      clear hwr hT8 hU8 hC8
      go_wp2_with fail
      go_ret
      exact ⟨by first | rfl | exact ret_bool (by simp [f4, g4]) | exact ret_bool (by simp; omega), HBW.out.trans (HN8.out.bl.mono HBW.out.size)⟩
    · have g4 : ¬ ((at_ : Int) + len ≤ 64 * p) := by omega
      refine (spaceWrite_no HN7.out.sp (by rw [morePs_len]; omega) at_ ha A len cap (by omega) (by rw [morePs_len, insideB_nat, decide_eq_false hfit])).mono ?_
      rintro e w8 ⟨rfl, rfl⟩
      go_wp2_with fail
      go_ret
      exact ⟨by first | rfl | exact ret_bool (by simp [f4, g4]) | exact ret_bool (by simp; omega), HBW.out.trans (HN7.out.bl.mono HBW.out.size)⟩
end Go.Proofs.Ytiedenjcmkebaaa
