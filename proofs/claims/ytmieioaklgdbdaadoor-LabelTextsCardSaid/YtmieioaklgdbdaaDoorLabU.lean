/- Labels as texts: the document's Itoa, Text. -/
import Derived.Test.YtmieioaklgdbdaaDoorLabT
set_option linter.unusedVariables false
set_option linter.unusedSimpArgs false
namespace Go.Proofs.YtmieioaklgdbdaaDoor
open Go.RowKit

set_option maxHeartbeats 1000000 in
theorem refItoa_any : ∀ (n : Nat), n ≤ 1000 → ∀ (w : World), Calls Tryd.prog 12 #[.int .i64 n] w fun e w' => e = .returned (strV (digL n)) ∧ Below w.heap.size w w' := by
  intro n
  induction n using Nat.strongRecOn with
  | _ n ih =>
    intro hn w
    unfold strV
    have e2 : (n : Int).tmod 10 = ((n % 10 : Nat) : Int) := by rw [Int.tmod_eq_emod_of_nonneg (by omega)]; omega
    have e3 : (n : Int) % 10 = ((n % 10 : Nat) : Int) := by omega
    have hr10 : n % 10 < 10 := by omega
    obtain ⟨r, hr⟩ : ∃ r, r = n % 10 := ⟨_, rfl⟩
    rw [← hr] at e2 e3 hr10
    have hsi : SI (w.alloc (.cells #[.int .u8 (48 + (r : Int))] 5)) .u8 (.slice (some ⟨w.heap.size, 0, none⟩) 1 1) [48 + (r : Int)] := ⟨SR.of_own (World.ownsRow_lit w #[.int .u8 (48 + (r : Int))] 1 (Nat.le_refl _) (by simp [maxLen]) rfl), fun z hz => by
      simp only [List.mem_singleton] at hz; subst hz; exact u8_wf (by omega)⟩
    have hcv := hsi.toString (P := Tryd.prog) Tryd.underlying44 Tryd.underlying5 Tryd.underlying9
    have hd : strOfNums [48 + (r : Int)] = ⟨(digL r).toArray⟩ := by
      rw [digL, dif_neg (by omega)]
      unfold strOfNums
      rw [List.map_cons, List.map_nil, show (48 + (r : Int)).toNat = 48 + r by omega]
    rw [hd] at hcv
    have n0 : ¬ (n : Int) < 0 := by omega
    have n0' : decide ((n : Int) < 0) = false := by rw [decide_eq_false_iff_not]; omega
    have w8 : IntKind.u8.wrap (48 + (r : Int)) = 48 + r := by simp [IntKind.wrap, IntKind.bits, IntKind.signed]; omega
    clear hsi hd
    by_cases h : n > 9
    · have h' : (9 : Int) < n := by omega
      have e1 : (n : Int).tdiv 10 = ((n / 10 : Nat) : Int) := by rw [Int.tdiv_eq_ediv_of_nonneg (by omega)]; omega
      have e4 : (n : Int) / 10 = ((n / 10 : Nat) : Int) := by omega
      have c1 := ih (n / 10) (by omega) (by omega)
      have l1 := digL_len (n / 10)
      have l2 := digL_len r
      have HD := Lib.hid (show digL n = digL (n / 10) ++ digL r from by rw [digL, dif_pos h, hr])
      have hq1000 : n / 10 ≤ 1000 := by omega
      obtain ⟨q, hq⟩ : ∃ q, q = n / 10 := ⟨_, rfl⟩
      rw [← hq] at e1 e4 c1 l1 HD hq1000
      clear hq hr ih
      go_enter Tryd.func12, Tryd.ntmps12
      go_wp2_with fail
      refine (c1 _).mono ?_
      rintro e w1 ⟨he, hb1⟩; subst he
      unfold strV
      have hs : ¬ 9223372036854775807 < (digL q).length + (digL r).length := by omega
      clear l1 l2 c1
      go_wp2_with fail
      go_ret
      exact ⟨congrArg (fun s => Ending.returned (.string s)) (by rw [HD.out]; exact bcat _ _), bnext (bnew _ _) hb1⟩
    · have h' : decide ((9 : Int) < n) = false := by rw [decide_eq_false_iff_not]; omega
      have h'' : decide (9 < n) = false := by rw [decide_eq_false_iff_not]; omega
      have HR := Lib.hid (show r = n from by omega)
      clear ih hr
      go_enter Tryd.func12, Tryd.ntmps12
      go_wp2_with fail
      go_ret
      exact ⟨by rw [HR.out]; rfl, bnew _ _⟩
set_option maxHeartbeats 4000000 in
theorem refText_any (p : Nat × Nat) (hp : okL p) (w : World) :
    Calls Tryd.prog 8 #[labV p] w fun e w' => e = .returned (strV (textL p)) ∧ Below w.heap.size w w' := by
  have h1 := hp.1
  unfold labV
  go_enter Tryd.func8, Tryd.ntmps8
  go_upto_region 1 with fail
  obtain ⟨w0, hw0⟩ : ∃ w0, w0 = w.alloc (.cells #[.int .u8 p.1, .int .u16 p.2] 24) := ⟨_, rfl⟩
  have g0 : w0.rowIs w.heap.size 24 2 (labRow p) := by rw [hw0]; exact labRow_new w 24 p
  have hb0 : Below w.heap.size w w0 := by rw [hw0]; exact bnew _ _
  rw [← hw0]
  clear hw0
  obtain ⟨gl, hgl⟩ : ∃ gl, gl = w.heap.size := ⟨_, rfl⟩
  rw [← hgl] at g0 ⊢
  have HB0 := Lib.hid hb0
  have HG := Lib.hid g0
  have x0 := labRow0 g0
  have HSZ := Lib.hid hgl
  clear hb0 g0 hgl
  go_wp2_with fail
  refine (refItoa_any p.1 (by omega) _).mono ?_
  rintro e w1 ⟨he, hb1⟩; subst he
  unfold strV
  have HG1 := Lib.hid (HG.out.of_block (hb1.block _ HG.out.lt))
  have HB1 := Lib.hid (bnext HB0.out hb1)
  have y0 := labRow0 HG1.out
  have y1 := labRow1 HG1.out
  clear hb1 x0
  go_wp2_with fail
  refine (refCats_any p hp _).mono ?_
  rintro e w2 ⟨vc, he, hown, hb2⟩; subst he
  have HB2 := Lib.hid (bnext HB1.out hb2)
  obtain ⟨A, cap, rfl⟩ := own_form hown
  have HSR := Lib.hid (SR.of_own hown)
  have hcl : (catsL p.2).length ≤ 16 := Nat.le_trans (List.length_filter_le _ _) (by simp)
  obtain ⟨C, hC⟩ : ∃ C, C = (catsL p.2).length := ⟨_, rfl⟩
  rw [← hC] at HSR hcl ⊢
  have HC := Lib.hid hC
  clear hb2 hown hC y0 y1
  obtain ⟨X0, hX0⟩ : ∃ X0, X0 = digL p.1 := ⟨_, rfl⟩
  rw [← hX0]
  have HX0 := Lib.hid hX0
  have hxl : X0.length ≤ 256 := by rw [hX0]; have := digL_len p.1; omega
  clear hX0
  go_wp2_with fail
  go_loopw [3, 5] (fun r3 r5 wx => ∃ i : Nat, i ≤ C ∧ r5 = .int .i64 i ∧ r3 = strV (X0 ++ catsText true ((catsL p.2).take i)) ∧ Below w.heap.size w wx ∧ Below w2.heap.size w2 wx) (fun _ r5 _ => C - (intOf r5).toNat)
  case atStart => exact ⟨0, by omega, rfl, by rw [List.take_zero, catsText, List.append_nil]; rfl, HB2.out, Below.refl _ _⟩
  case round =>
    obtain ⟨i, hi, rfl, rfl, hb, hb'⟩ := hrel
    have HB := Lib.hid hb
    have HBw := Lib.hid hb'
    clear hb hb'
    obtain ⟨X, hX⟩ : ∃ X, X = X0 ++ catsText true ((catsL p.2).take i) := ⟨_, rfl⟩
    rw [← hX]
    have hXl : X.length ≤ 600 := by
      have := catsText_len true ((catsL p.2).take i) (fun c hc => catsL_lt _ c (List.mem_of_mem_take hc))
      rw [hX, List.length_append]
      rw [List.length_take, ← HC.out] at this
      omega
    have HX := Lib.hid hX
    clear hX
    unfold strV
    by_cases hlt : i < C
    · have g1 : (i : Int) < C := by omega
      obtain ⟨c, hc⟩ : ∃ c, (catsL p.2)[i]? = some c := ⟨(catsL p.2)[i]'(by rw [← HC.out]; exact hlt), List.getElem?_eq_getElem _⟩
      have hc16 : c < 16 := catsL_lt p.2 c (List.mem_of_getElem? hc)
      have HNX := Lib.hid (show X0 ++ catsText true ((catsL p.2).take (i + 1)) = (X ++ signL (decide (i = 0))) ++ digL c from by
        rw [List.take_add_one, hc, Option.toList_some, catsText_snoc, HX.out, List.append_assoc, List.append_assoc]
        congr 3
        have h1 : ((catsL p.2).take i).isEmpty = decide (i = 0) := by
          cases i with
          | zero => rfl
          | succ k =>
            cases h : catsL p.2 with
            | nil => rw [h] at hc; cases hc
            | cons a b => simp
        rw [h1, Bool.true_and])
      obtain ⟨g, off, hA, hcell⟩ : ∃ g off, A = some ⟨g, off, none⟩ ∧ wr.cell? ⟨g, off + i, none⟩ = some (.int .i64 c) := by
        rcases HSR.out.cases with ⟨h, _⟩ | ⟨_, g, off, c1, hs, _, _, hg, hcc⟩
        · omega
        injection hs with e1 _ _
        refine ⟨g, off, e1, ?_⟩
        rw [World.cell?_of_block (HBw.out.block g hg), hcc i (by omega)]
        unfold ints
        rw [List.getElem?_map, hc]
        rfl
      subst hA
      clear hc
      go_upto_if 19 with fail
      go_cut [3] (fun s3 wx => wx = wr ∧ s3 = strV (X ++ signL (decide (i = 0))))
      case first =>
        by_cases h0 : i = 0
        · subst h0
          have hs : ¬ 9223372036854775807 < X.length + 1 := by omega
          go_wp2_with fail
          go_meet
          exact ⟨rfl, congrArg Value.string (bcat _ _)⟩
        · have q0 : ((i : Int) == 0) = false := by rw [beq_eq_false_iff_ne]; omega
          have q1 : (i == 0) = false := by rw [beq_eq_false_iff_ne]; omega
          have hs : ¬ 9223372036854775807 < X.length + 1 := by omega
          have HS := Lib.hid (show signL (decide (i = 0)) = [44] from by rw [decide_eq_false h0]; rfl)
          go_wp2_with fail
          go_meet
          exact ⟨rfl, by rw [HS.out]; exact congrArg Value.string (bcat _ _)⟩
      case rest =>
        obtain ⟨rfl, rfl⟩ := hcut
        have hYl : (X ++ signL (decide (i = 0))).length ≤ 601 := by rw [List.length_append, signL_len]; omega
        obtain ⟨Y, hY⟩ : ∃ Y, Y = X ++ signL (decide (i = 0)) := ⟨_, rfl⟩
        rw [← hY] at hYl HNX ⊢
        clear hY
        unfold strV
        go_at_K
        go_step
        go_wp2_with fail
        refine (refItoa_any c (by omega) _).mono ?_
        rintro e w3 ⟨he, hb3⟩; subst he
        unfold strV
        have hdl := digL_len c
        have hs : ¬ 9223372036854775807 < Y.length + (digL c).length := by omega
        have HB3 := Lib.hid (bnext HB.out hb3)
        have HB3' := Lib.hid (bnext HBw.out hb3)
        clear hb3 hdl hYl hXl
        go_wp2_with fail
        go_roundw
        case rel => exact ⟨i + 1, by omega, by go_num, by rw [HNX.out]; exact congrArg Value.string (bcat _ _), HB3.out, HB3'.out⟩
        case measure => simp [intOf]; omega
    · obtain rfl : i = C := by omega
      have HE := Lib.hid (show X = textL p from by
        rw [HX.out, HC.out, List.take_of_length_le (Nat.le_refl _), HX0.out]
        rfl)
      go_wp2_with fail
      go_ret
      exact ⟨by rw [← HE.out]; rfl, HB.out⟩
end Go.Proofs.YtmieioaklgdbdaaDoor
