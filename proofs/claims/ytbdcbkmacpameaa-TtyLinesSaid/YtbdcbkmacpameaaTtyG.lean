/- The law TtyLines: its walk. -/
import Derived.Test.YtbdcbkmacpameaaTtyF
import Derived.Deep.DeepCutAuto
set_option linter.unusedVariables false
set_option linter.unusedSimpArgs false
namespace Go.Proofs.Ytbdcbkmacpameaa
open Go.RowKit

theorem string_row : (Try.prog.info? 9).map (fun i => (i.zero, i.size, i.bytes)) = some (some (.string ⟨#[]⟩), 1, 16) := by kernel_rfl

/-- What stands behind k lines: the console's bytes, the strings, and that they share no block. -/
def LinesAt (zs : List Int) (H g : Nat) (k : Nat) (v4 : Value) (w : World) : Prop :=
  (∃ vs ins, TT w H g vs ins (fun _ => 0) (fun _ => 0) ∧ ins 3 = ttyCat zs 0 k ∧ ∀ q, v4.ownBlock = some q → q ≠ g ∧ ∀ i, i < 64 → (vs i).ownBlock ≠ some q) ∧
  w.ownsRow H 9 1 v4 k ((List.range k).map fun j => .string (strOfNums (ttyLine zs j))) ∧ Below H w w

theorem ttyCat_ge (zs : List Int) : ∀ k, k ≤ (ttyCat zs 0 k).length
  | 0 => Nat.zero_le _
  | k + 1 => by
    have := ttyCat_ge zs k
    rw [ttyCat_snoc, List.length_append, ttyLine_length]
    omega

theorem LinesAt.keep {zs : List Int} {H g k : Nat} {v4 : Value} {w w' : World} (h : LinesAt zs H g k v4 w) (hb : Below w.heap.size w w') : LinesAt zs H g k v4 w' := by
  obtain ⟨⟨vs, ins, ht, h3, hq⟩, hown, _⟩ := h
  exact ⟨⟨vs, ins, ht.kept hb, h3, hq⟩, own_keep hown (fun q hq => hb.block q (hown.lt q hq).2), Below.refl _ _⟩

/-- One line more. -/
theorem LinesAt.more {zs : List Int} {H g k : Nat} {v4 v4' u : Value} {w w' w2 : World} {vs : Nat → Value} {ins : Nat → List Int} {lost : Nat → Int}
    (ht' : TT w' H g (upd vs 3 u) (upd ins 3 (ins 3 ++ ttyLine zs k)) lost (fun _ => 0)) (h3 : ins 3 = ttyCat zs 0 k) (hlost : lost = fun _ => 0)
    (hq : ∀ q, v4.ownBlock = some q → q ≠ g ∧ ∀ i, i < 64 → (vs i).ownBlock ≠ some q) (hsz : ∀ q, v4.ownBlock = some q → q < w.heap.size) (hu : ∀ q, u.ownBlock = some q → (vs 3).ownBlock = some q ∨ w.heap.size ≤ q)
    (hown : w2.ownsRow H 9 1 v4' (k + 1) ((List.range k).map (fun j => .string (strOfNums (ttyLine zs j))) ++ [.string (strOfNums (ttyLine zs k))])) (hg : w'.grownBy w2 v4.ownBlock)
    (hat : ∀ q, v4'.ownBlock = some q → v4.ownBlock = some q ∨ w'.heap.size ≤ q) : LinesAt zs H g (k + 1) v4' w2 := by
  subst hlost
  have hu4 : ∀ q i, i < 64 → v4.ownBlock = some q → (upd vs 3 u i).ownBlock ≠ some q := fun q i hi h' => by
    by_cases h3 : i = 3
    · subst h3
      simp only [upd, if_true]
      intro h
      rcases hu q h with h1 | h1
      · exact (hq q h').2 3 hi h1
      · have := hsz q h'; omega
    · simp only [upd, if_neg h3]; exact (hq q h').2 i hi
  have hT : TT w2 H g (upd vs 3 u) (upd ins 3 (ins 3 ++ ttyLine zs k)) (fun _ => 0) (fun _ => 0) := by
    refine ⟨ht'.row.of_block (hg.block g ht'.row.lt (fun h => (hq g h.symm).1 rfl)), ht'.le, fun i hi => own_keep (ht'.own i hi) (fun q h => ?_), ht'.wf, ht'.small, ht'.apart, ht'.far⟩
    exact hg.block q ((ht'.own i hi).lt q h).2 (fun h' => hu4 q i hi h'.symm h)
  refine ⟨⟨_, _, hT, ?_, fun q h => ?_⟩, ?_, Below.refl _ _⟩
  · simp only [upd, if_true, h3, ttyCat_snoc]
  · rcases hat q h with h1 | h1
    · exact ⟨(hq q h1).1, fun i hi => hu4 q i hi h1⟩
    · have hlt := ht'.row.lt
      refine ⟨by omega, fun i hi h2 => ?_⟩
      have := ((ht'.own i hi).lt q h2).2
      omega
  · rw [List.range_succ, List.map_append]
    exact hown

/-- Behind j reads of k lines. -/
def ReadAt (zs : List Int) (H g j k : Nat) (v4 : Value) (w : World) : Prop :=
  (∃ vs ins, TT w H g vs ins (fun _ => 0) (fun _ => 0) ∧ ins 3 = ttyCat zs j k ∧ ∀ q, v4.ownBlock = some q → q ≠ g ∧ ∀ i, i < 64 → (vs i).ownBlock ≠ some q) ∧
  w.ownsRow H 9 1 v4 k ((List.range k).map fun j => .string (strOfNums (ttyLine zs j)))

theorem ReadAt.next {zs : List Int} {H g j k : Nat} {v4 u : Value} {w w' : World} {vs : Nat → Value} {ins : Nat → List Int}
    (ht' : TT w' H g (upd vs 3 u) (upd ins 3 (ttyCat zs (j + 1) k)) (fun _ => 0) (fun _ => 0)) (hq : ∀ q, v4.ownBlock = some q → q ≠ g ∧ ∀ i, i < 64 → (vs i).ownBlock ≠ some q)
    (hown : w.ownsRow H 9 1 v4 k ((List.range k).map fun j => .string (strOfNums (ttyLine zs j)))) (hf : Foot w w' g none) (hu : ∀ q, u.ownBlock = some q → (vs 3).ownBlock = some q ∨ w.heap.size ≤ q) : ReadAt zs H g (j + 1) k v4 w' := by
  refine ⟨⟨_, _, ht', by simp [upd], fun q h => ⟨(hq q h).1, fun i hi => ?_⟩⟩, own_keep hown (fun q h => hf.block q (hown.lt q h).2 (hq q h).1 (by simp))⟩
  by_cases h3 : i = 3
  · subst h3
    simp only [upd, if_true]
    intro h'
    rcases hu q h' with h1 | h1
    · exact (hq q h).2 3 hi h1
    · have := (hown.lt q h).2; omega
  · simp only [upd, if_neg h3]; exact (hq q h).2 i hi

theorem own_strings {w : World} {base n : Nat} {v : Value} {f : Nat → Value} (h : w.ownsRow base 9 1 v n ((List.range n).map f)) {j : Nat} (hj : j < n) : ∃ q c, v = .slice (some ⟨q, 0, none⟩) n c ∧ w.cell? ⟨q, j, none⟩ = some (f j) := by
  rcases h.2 with ⟨h1, h2⟩ | ⟨g0, c0, cur, rfl, h1, h2, h3, h4, h5, h6⟩
  · omega
  · refine ⟨g0, c0, rfl, ?_⟩
    have := h.cells (g := g0) rfl j (f j) (by simp [hj])
    have e4 : (⟨g0, 0, none⟩ : Addr).add j = ⟨g0, j, none⟩ := by unfold Addr.add; split <;> simp_all
    rwa [e4] at this

set_option maxRecDepth 100000 in
set_option maxHeartbeats 4000000 in
theorem ttyLines_walk (W : World) (v0 : Value) (o0 : Arg Try.prog W 43 v0) :
    Calls Try.prog 10 #[v0] W fun e w' => e = .returned (.bool true) ∧ Below W.heap.size W w' := by
  obtain ⟨zs, hz⟩ := SI.arg o0
  clear o0
  obtain ⟨A, cap, rfl, hlc, hcm⟩ := hz.sr.form
  have hzb : ∀ i, i < zs.length → 0 ≤ zs.getD i 0 ∧ zs.getD i 0 ≤ 255 := fun i hi => by
    rw [List.getD_eq_getElem?_getD, List.getElem?_eq_getElem hi]
    exact hz.byte _ (List.getElem_mem hi)
  have hzc : ∀ i, i < zs.length → ∃ b off, A = some ⟨b, off, none⟩ ∧ b < W.heap.size ∧ W.cell? ⟨b, off + i, none⟩ = some (.int .u8 (zs.getD i 0)) := fun i hi => by
    rcases hz.cases with ⟨h, _⟩ | ⟨hn, b, off, cap', h1, h2, h3, h4, h5⟩
    · rw [h] at hi; simp at hi
    · cases h1
      exact ⟨b, off, rfl, h4, h5 i hi⟩
  have hmk := fun (n : Nat) (h1 : 1 * n ≤ 281474976710656) (h2 : n ≤ 9223372036854775807) => run_make_row' (P := Try.prog) 43 5 (.int .u8 0) 1 Try.underlying43 u8_row rfl .i64 .i64 n h1 h2
  go_enter Try.func10, Try.ntmps10
  go_wp2_with fail
  go_at_call 39; refine (ttyAwake_any _).mono ?_; rintro e w1 ⟨rfl, hB1⟩
  go_wp2_with fail
  go_at_call 40; refine (ttyNew_any _).mono ?_; rintro e w2 ⟨rfl, ht2, hb2⟩
  have hB2 := bnext hB1 hb2
  go_wp2_with fail
  have hS2 : w1.heap.size < w2.heap.size := ht2.row.lt
  have hW1 : W.heap.size ≤ w1.heap.size := hB1.size
  have hstart : LinesAt zs w1.heap.size w1.heap.size 0 (.slice none 0 0) w2 :=
    ⟨⟨_, _, ht2, rfl, fun q hq => (by cases hq)⟩, World.ownsRow_nil _ _ _ _, Below.refl _ _⟩
  clear ht2 hb2
  go_loopw [4, 5, 24] (fun v4 v5 v24 wr => ∃ k : Nat, k ≤ zs.length ∧ v24 = .int .i64 k ∧ v5 = .int .i64 (ttyCat zs 0 k).length ∧ (ttyCat zs 0 k).length ≤ 128 ∧ LinesAt zs w1.heap.size w1.heap.size k v4 wr ∧ Below W.heap.size W wr)
      (fun _ _ v24 _ => ((zs.length : Int) - intOf v24).toNat)
  case atStart => exact ⟨0, by omega, rfl, rfl, by simp [ttyCat], hstart, hB2⟩
  case round =>
    obtain ⟨k, hk, rfl, rfl, h8, hL, hBr⟩ := hrel
    obtain ⟨ad4, c4, rfl⟩ := own_form hL.2.1
    by_cases hlt : k < zs.length
    · obtain ⟨b, off, rfl, hbW, hc⟩ := hzc k hlt
      have hzk := hzb k hlt
      have hc1 := (hBr.cell (by exact hbW)).trans hc
      have hlen : (zs.getD k 0) % 30 = (ttyLen zs k : Int) := by unfold ttyLen; omega
      have hb30 : ttyLen zs k < 30 := by unfold ttyLen; omega
      generalize zs.getD k 0 = z at hc1 hzk hlen hc
      clear hzb hzc hc
      obtain ⟨c26, hc26, hc26lt⟩ : ∃ c : Nat, (k : Int) % 26 = (c : Int) ∧ c < 26 := ⟨k % 26, by omega, by omega⟩
      have hmk1 : ∀ w, (Instr.makeSlice 43 (.int .i64 ((ttyLen zs k : Int) + 1)) (.int .i64 ((ttyLen zs k : Int) + 1))).run Try.prog w = .ok (.slice (some ⟨w.heap.size, 0, none⟩) (ttyLen zs k + 1) (ttyLen zs k + 1)) (w.alloc (.cells (madeCells #[.int .u8 0] (ttyLen zs k + 1)) 5)) := fun w => by
        have := hmk (ttyLen zs k + 1) (by omega) (by omega) w
        rwa [show ((ttyLen zs k + 1 : Nat) : Int) = (ttyLen zs k : Int) + 1 by omega] at this
      have hmade := World.rowIs_made wr (.int .u8 0) (ttyLen zs k + 1) 5
      have hbel := bnew wr (.cells (madeCells #[.int .u8 0] (ttyLen zs k + 1)) 5)
      clear hmk
      have hkc := ttyCat_ge zs k
      have hll := ttyLine_length zs k
      obtain ⟨wo, hwo⟩ : ∃ wo, wo = wr := ⟨_, rfl⟩
      subst hwo
      obtain ⟨M, hM⟩ : ∃ M, M = ttyLen zs k := ⟨_, rfl⟩
      rw [← hM] at hmk1 hmade hbel hlen hb30 hll
      have HM := Lib.hid hM
      clear hM
      go_wp2_with fail
      clear hmk1
      generalize wo.alloc (.cells (madeCells #[.int .u8 0] (M + 1)) 5) = wS at hmade hbel ⊢
      go_loopw [36] (fun v36 w' => ∃ j : Nat, j ≤ M + 1 ∧ v36 = .int .i64 j ∧ w'.rowIs wo.heap.size 5 (M + 1) (fun i => if i < j then .int .u8 (97 + (c26 : Int)) else .int .u8 0) ∧ Below wo.heap.size wo w')
        (fun v36 _ => ((M : Int) + 1 - intOf v36).toNat)
      case atStart => exact ⟨0, by omega, rfl, hmade.congr (fun i _ => by rw [if_neg (by omega)]), hbel⟩
      case round =>
        obtain ⟨j, hj, rfl, hrow, hbj⟩ := hrel
        by_cases hjl : j < M + 1
        · have hcj : wr.cell? ⟨wo.heap.size, j, none⟩ = some (.int .u8 0) := (hrow.cell hjl).trans (by rw [if_neg (by omega)])
          have hfj := hrow.frozen
          have hrow' := Lib.hid (hrow.set j (.int .u8 (97 + (c26 : Int))))
          clear hrow
          go_wp2_with fail
          go_roundw
          case rel =>
            refine ⟨j + 1, by omega, by go_num, hrow'.out.congr (fun i hi => ?_), hbj.setCell (Nat.le_refl _) _⟩
            by_cases h1 : i = j
            · rw [if_pos h1, if_pos (by omega)]
            · rw [if_neg h1]
              by_cases h2 : i < j
              · rw [if_pos h2, if_pos (by omega)]
              · rw [if_neg h2, if_neg (by omega)]
          case measure => simp [intOf]; omega
        · have hcM : wr.cell? ⟨wo.heap.size, M, none⟩ = some (.int .u8 (97 + (c26 : Int))) := (hrow.cell (by omega)).trans (by rw [if_pos (by omega)])
          have hfM := hrow.frozen
          have hrow' := Lib.hid (hrow.set M (.int .u8 10))
          have hbM := Lib.hid (show Below wo.heap.size wo (wr.setCell ⟨wo.heap.size, M, none⟩ (.int .u8 10)) from hbj.setCell (Nat.le_refl _) _)
          clear hrow
          go_upto_region 16 with fail
          generalize wr.setCell ⟨wo.heap.size, M, none⟩ (.int .u8 10) = wt at hrow' hbM ⊢
          have hrow := hrow'.out
          have hbt := hbM.out
          clear hrow' hbM hcM hfM hbj
          have hLt := hL.keep hbt
          have hBt := bnext hBr hbt
          by_cases hsum : (128 : Int) < ((ttyCat zs 0 k).length : Int) + ((M : Int) + 1)
          · go_wp2_with fail
            clear hz
            have hk8 : k ≤ 128 := Nat.le_trans (ttyCat_ge zs k) h8
            clear hlen hc26
            have hR0 : ReadAt zs w1.heap.size w1.heap.size 0 k (.slice ad4 k c4) wt := ⟨hLt.1, hLt.2.1⟩
            go_loopw [75] (fun v75 w' => ∃ j : Nat, j ≤ k ∧ v75 = .int .i64 j ∧ ReadAt zs w1.heap.size w1.heap.size j k (.slice ad4 k c4) w' ∧ Below W.heap.size W w') (fun v75 _ => ((k : Int) - intOf v75).toNat)
            case atStart => exact ⟨0, by omega, rfl, hR0, hBt⟩
            case round =>
              obtain ⟨j, hj, rfl, ⟨⟨vs, ins, ht, h3, hq⟩, hown⟩, hBx⟩ := hrel
              by_cases hjk : j < k
              · obtain ⟨q4, c4', he, hcj⟩ := own_strings hown hjk
                cases he
                have h8 := ht.small 3 (by omega)
                rw [h3, ttyCat_cons zs hjk] at h8
                obtain ⟨e1, e2, e3⟩ := ttyOut_line zs j (ttyCat zs (j + 1) k) h8
                generalize hT : strOfNums (ttyLine zs j) = T at hcj
                have HT := Lib.hid hT
                clear hT
                go_wp2_with fail
                go_at_call 42
                refine (ttyRead_at 3 (by omega) 200 (by omega) w1.heap.size w1.heap.size vs ins _ _ _ ht (Nat.le_of_lt ht.row.lt) (ttyLine zs j ++ ttyCat zs (j + 1) k) (by rw [h3, ttyCat_cons zs hjk])).mono ?_
                rintro e wx ⟨u, v, rfl, hv, htx, hbx, hfx, hnx⟩
                rw [e1] at hv
                rw [e2] at htx
                rw [e3]
                have hts := (SI.of_own hv (ttyLine_byte zs j)).toString (P := Try.prog) Try.underlying43 Try.underlying5 Try.underlying9
                rw [HT.out] at hts
                have hRx := Lib.hid (ReadAt.next htx hq hown hfx hnx)
                have hBy := hBx.trans (bweak hbx hW1)
                obtain ⟨ad5, c5, rfl⟩ := own_form hv
                clear hv htx hbx hfx hnx hown ht hq e1 e2 e3 h8 hcj
                generalize (ttyLine zs j).length = L at hts ⊢
                go_wp2_with fail
                go_roundw
                case rel => first | exact ⟨j + 1, by omega, by go_num, hRx.out, hBy⟩ | ((repeat apply Exists.intro); exact ⟨⟨j + 1, by omega, by go_num, hRx.out, hBy⟩, rfl⟩)
                case measure => simp [intOf]; omega
              · obtain rfl : j = k := by omega
                rw [ttyCat_self] at h3
                have ec : ttyCode 200 [] = 33 := rfl
                go_wp2_with fail
                go_at_call 42
                refine (ttyRead_at 3 (by omega) 200 (by omega) w1.heap.size w1.heap.size vs ins _ _ _ ht (Nat.le_of_lt ht.row.lt) [] h3).mono ?_
                rintro e wx ⟨u, v, rfl, hv, htx, hbx, hfx, hnx⟩
                rw [ec]
                have hBy := hBx.trans (bweak hbx hW1)
                obtain ⟨ad5, c5, rfl⟩ := own_form hv
                go_wp2_with fail
                go_at_call 43
                refine (ttyCounts_in 3 (by omega) _ _ _ _ _ _ _ htx).mono ?_
                rintro e wy ⟨rfl, nn, rfl⟩
                go_wp2_with fail
                go_ret
                exact ⟨rfl, bdrewN hBy nn⟩
          · go_wp2_with fail
            go_at_call 41
            obtain ⟨⟨vs, ins, hto, h3, hq⟩, howno, _⟩ := hL
            have ht := hto.kept hbt
            have hown := own_keep howno (fun q h => hbt.block q (howno.lt q h).2)
            have hsi : SI wt .u8 (.slice (some ⟨wo.heap.size, 0, none⟩) (M + 1) (M + 1)) (ttyLine zs k) := SI.of_rowIs hrow hll (fun i hi => by
              rw [ttyLine_getD zs k i (by rw [← HM.out]; omega), ← HM.out, hc26]
              by_cases h1 : i = M
              · rw [if_pos h1, if_pos h1]
              · rw [if_neg h1, if_neg h1, if_pos (by omega)]) (Nat.le_refl _) (by simp [maxLen]; omega) (ttyLine_byte zs k)
            refine (ttyType_in 3 (by omega) w1.heap.size w1.heap.size vs ins _ _ _ (ttyLine zs k) wt ht hsi (by omega) (by simp) (Nat.le_of_lt ht.row.lt)).mono ?_
            rintro e wu ⟨rfl, ⟨u, htu, hnu⟩, hbu, hfu⟩
            rw [show min (ttyLine zs k).length (128 - (ins 3).length) = M + 1 by rw [h3]; omega] at htu ⊢
            rw [List.take_of_length_le (by rw [h3]; omega)] at htu
            have hrowu := hrow.of_block (hfu.block wo.heap.size hrow.lt (by have := hto.row.lt; omega) (fun h => by have := ((hto.own 3 (by omega)).lt _ h.symm).2; omega))
            have hts := (SI.of_rowIs hrowu hll (fun i hi => by
              rw [ttyLine_getD zs k i (by rw [← HM.out]; omega), ← HM.out, hc26]
              by_cases h1 : i = M
              · rw [if_pos h1, if_pos h1]
              · rw [if_neg h1, if_neg h1, if_pos (by omega)]) (Nat.le_refl _) (by simp [maxLen]; omega) (ttyLine_byte zs k)).toString (P := Try.prog) Try.underlying43 Try.underlying5 Try.underlying9
            have hownu := own_keep hown (fun q h => hfu.block q (hown.lt q h).2 (hq q h).1 (fun h' => (hq q h).2 3 (by omega) h'.symm))
            have hbase : w1.heap.size ≤ wu.heap.size := Nat.le_of_lt htu.row.lt
            clear hrow hsi hc1
            generalize hT : strOfNums (ttyLine zs k) = T at hts
            have HT := Lib.hid hT
            clear hT
            go_wp2_with (first
              | (refine wpList_append_sr rfl (.tmp 67) (.tmp 70) 73 rfl (some 71) rfl w1.heap.size 9 (.string ⟨#[]⟩) 1 16 Try.underlying73 string_row rfl (by omega) (.slice ad4 k c4) (.slice (some ⟨wu.heap.size, 0, none⟩) 1 1) k 1
                  _ [.string T] rfl (hownu.alloc _) rfl (SR.of_own (World.ownsRow_lit wu #[.string T] 1 hbase (by simp [maxLen]) rfl)) (fun u hu => by simp at hu; subst hu; rfl) (by simp [maxLen]; omega) (by omega) (by simp; omega) ?_
                 intro v4' w2 hown2 hg2 hat2))
            go_roundw
            case rel =>
              refine ⟨k + 1, by omega, by go_num, val_int (by rw [ttyCat_snoc, List.length_append, hll]; omega), by rw [ttyCat_snoc, List.length_append, hll]; omega, ?_, ?_⟩
              · refine LinesAt.more (w := wt) (htu.kept (bnew wu _)) h3 (by funext i; simp [upd]; omega) hq (fun q h => (hown.lt q h).2) hnu (by rw [HT.out]; exact hown2) hg2 (fun q h => ?_)
                rcases hat2 with h1 | h1
                · exact .inl (h1.symm.trans h)
                · rw [h1] at h; simp only [Option.some.injEq] at h; exact .inr (by omega)
              · exact ((hBt.trans (bweak hbu hW1)).alloc (by omega) _).grown hg2 (by simp; omega) (fun q h => by have := (hownu.lt q h).1; omega)
            case measure => simp [intOf]; omega
    · go_wp2_with fail
      clear hz
      have hk8 : k ≤ 128 := Nat.le_trans (ttyCat_ge zs k) h8
      have hR0 : ReadAt zs w1.heap.size w1.heap.size 0 k (.slice ad4 k c4) wr := ⟨hL.1, hL.2.1⟩
      go_loopw [75] (fun v75 w' => ∃ j : Nat, j ≤ k ∧ v75 = .int .i64 j ∧ ReadAt zs w1.heap.size w1.heap.size j k (.slice ad4 k c4) w' ∧ Below W.heap.size W w') (fun v75 _ => ((k : Int) - intOf v75).toNat)
      case atStart => exact ⟨0, by omega, rfl, hR0, hBr⟩
      case round =>
        obtain ⟨j, hj, rfl, ⟨⟨vs, ins, ht, h3, hq⟩, hown⟩, hBx⟩ := hrel
        by_cases hjk : j < k
        · obtain ⟨q4, c4', he, hcj⟩ := own_strings hown hjk
          cases he
          have h8 := ht.small 3 (by omega)
          rw [h3, ttyCat_cons zs hjk] at h8
          obtain ⟨e1, e2, e3⟩ := ttyOut_line zs j (ttyCat zs (j + 1) k) h8
          generalize hT : strOfNums (ttyLine zs j) = T at hcj
          have HT := Lib.hid hT
          clear hT
          go_wp2_with fail
          go_at_call 42
          refine (ttyRead_at 3 (by omega) 200 (by omega) w1.heap.size w1.heap.size vs ins _ _ _ ht (Nat.le_of_lt ht.row.lt) (ttyLine zs j ++ ttyCat zs (j + 1) k) (by rw [h3, ttyCat_cons zs hjk])).mono ?_
          rintro e wx ⟨u, v, rfl, hv, htx, hbx, hfx, hnx⟩
          rw [e1] at hv
          rw [e2] at htx
          rw [e3]
          have hts := (SI.of_own hv (ttyLine_byte zs j)).toString (P := Try.prog) Try.underlying43 Try.underlying5 Try.underlying9
          rw [HT.out] at hts
          have hRx := Lib.hid (ReadAt.next htx hq hown hfx hnx)
          have hBy := hBx.trans (bweak hbx hW1)
          obtain ⟨ad5, c5, rfl⟩ := own_form hv
          clear hv htx hbx hfx hnx hown ht hq e1 e2 e3 h8 hcj
          generalize (ttyLine zs j).length = L at hts ⊢
          go_wp2_with fail
          go_roundw
          case rel => first | exact ⟨j + 1, by omega, by go_num, hRx.out, hBy⟩ | ((repeat apply Exists.intro); exact ⟨⟨j + 1, by omega, by go_num, hRx.out, hBy⟩, rfl⟩)
          case measure => simp [intOf]; omega
        · obtain rfl : j = k := by omega
          rw [ttyCat_self] at h3
          have ec : ttyCode 200 [] = 33 := rfl
          go_wp2_with fail
          go_at_call 42
          refine (ttyRead_at 3 (by omega) 200 (by omega) w1.heap.size w1.heap.size vs ins _ _ _ ht (Nat.le_of_lt ht.row.lt) [] h3).mono ?_
          rintro e wx ⟨u, v, rfl, hv, htx, hbx, hfx, hnx⟩
          rw [ec]
          have hBy := hBx.trans (bweak hbx hW1)
          obtain ⟨ad5, c5, rfl⟩ := own_form hv
          go_wp2_with fail
          go_at_call 43
          refine (ttyCounts_in 3 (by omega) _ _ _ _ _ _ _ htx).mono ?_
          rintro e wy ⟨rfl, nn, rfl⟩
          go_wp2_with fail
          go_ret
          exact ⟨rfl, bdrewN hBy nn⟩
end Go.Proofs.Ytbdcbkmacpameaa
