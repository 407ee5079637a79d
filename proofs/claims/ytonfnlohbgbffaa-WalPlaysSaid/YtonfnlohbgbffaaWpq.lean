/- The log: get2. The log: places. The log: Recover. -/
import Derived.Test.YtonfnlohbgbffaaWalK
import Derived.Lib.EndianBits
set_option linter.unusedVariables false
set_option linter.unusedSimpArgs false
namespace Go.Proofs.Ytonfnlohbgbffaa
open Go.RowKit
open Go.Maps (Keyed)

set_option maxRecDepth 10000 in
set_option maxHeartbeats 1000000 in
theorem walGet2_in {f : Nat → Nat} (hf : ∀ i, f i ≤ 255) (a : Nat) (ha : a + 1 < 64) (w : World) :
    Calls Try.prog 93 #[pageV f, .int .i64 a] w fun e w' => e = .returned (.int .u16 (f a + 256 * f (a + 1) : Nat)) ∧ Below w.heap.size w w' := by
  obtain ⟨x, hx⟩ : ∃ x, x = f a := ⟨_, rfl⟩
  obtain ⟨y, hy⟩ : ∃ y, y = f (a + 1) := ⟨_, rfl⟩
  have hx8 : x ≤ 255 := hx ▸ hf a
  have hy8 : y ≤ 255 := hy ▸ hf (a + 1)
  have f1 : (a : Int) < 64 := by omega
  have f2 : (a : Int) + 1 < 64 := by omega
  rw [← hx, ← hy]
  go_enter Try.func93, Try.ntmps93
  go_wp2_with (first
    | (refine wpList_box_row rfl 52 (.tmp 0) rfl (some 2) rfl 64 (pgC f) (by go_simp; try rfl) ?_; intro w1 G hg1 hr1 hb1; have HB1 := Lib.hid hb1; have HR1 := Lib.hid hr1; clear hr1 hb1 hg1))
  have c1 : w1.cell? ⟨G, a, none⟩ = some (.int .u8 x) := by rw [HR1.out.cell (i := a) (by omega), hx]; rfl
  have c2 : w1.cell? ⟨G, a + 1, none⟩ = some (.int .u8 y) := by rw [HR1.out.cell (i := a + 1) (by omega), hy]; rfl
  go_region
  have e : bits .or .u16 ((f a : Nat) : Int) ((f (a + 1) : Nat) * 256 : Int) = ((x + 256 * y : Nat) : Int) := by
    have h := u16_or8 (y := (x : Int)) (x := (y : Int) * 256) (by omega) (by omega) (by omega) (by omega) (by omega)
    rw [← hx, ← hy, h]
    omega
  go_wp2_with fail
  go_ret
  exact ⟨by rw [← e]; rfl, bdrewN HB1.out 1⟩
end Go.Proofs.Ytonfnlohbgbffaa

set_option linter.unusedVariables false
set_option linter.unusedSimpArgs false
namespace Go.Proofs.Ytonfnlohbgbffaa
open Go.RowKit
open Go.Maps (Keyed)

/-- A number of two bytes. -/
def num2 (f : Nat → Nat) (i : Nat) : Nat := f i + 256 * f (i + 1)
def okTo (n first x : Nat) : Bool := decide (x < n) && !(decide (first ≤ x) && decide (x ≤ first + 30))
def toL (f : Nat → Nat) (m : Nat) : List Nat := (List.range m).map fun i => num2 f (4 + 2 * i)
/-- What a head says. -/
def places (f : Nat → Nat) (n first : Nat) : Option (List Nat) :=
  if num2 f 0 ≠ 26529 ∨ 30 < num2 f 2 then none else if (toL f (num2 f 2)).all (okTo n first) = true then some (toL f (num2 f 2)) else none
theorem toL_next (f : Nat → Nat) (m : Nat) : toL f (m + 1) = toL f m ++ [num2 f (4 + 2 * m)] := by
  unfold toL
  rw [List.range_succ, List.map_append]
  rfl
theorem toL_len (f : Nat → Nat) (m : Nat) : (toL f m).length = m := by simp [toL]
def PlP (w w' : World) (f : Nat → Nat) (n first : Nat) (v : Value) (b : Bool) : Prop := match places f n first with
  | none => b = false ∧ v = .slice none 0 0
  | some L => b = true ∧ OwnN w' w.heap.size v L
theorem own_ne_row {w : World} {base : Nat} {v : Value} {l : List Nat} {G n : Nat} {C : Nat → Value} (h : OwnN w base v l) (hr : w.rowIs G 52 n C) : ∀ x, v.ownBlock = some x → x ≠ G := by
  intro x hx e
  subst e
  obtain ⟨c, hc, _⟩ := hr
  rcases h.2 with ⟨rfl, _⟩ | ⟨g0, cap, cur, rfl, _, hg, _⟩
  · cases hx
  · injection hx with hx
    subst hx
    rw [hc] at hg
    injection hg with hg
    injection hg with _ h2 _
    exact absurd h2 (by decide)
set_option maxRecDepth 20000 in
set_option maxHeartbeats 4000000 in
theorem walPlaces {w : World} {gd gb gl n first : Nat} {s : DSt} (h : LXs w gd gb gl n first s) {f : Nat → Nat} (hf : ∀ i, f i ≤ 255) :
    Calls Try.prog 81 #[.pointer (some ⟨gl, 0, none⟩), pageV f] w fun e w' => ∃ v b, e = .returned (.tuple #[v, .bool b]) ∧ PlP w w' f n first v b ∧ Below w.heap.size w w' := by
  have hn := h.dx.n
  have hfit := h.fit
  have H := Lib.hid h
  have HF := Lib.hid hf
  have h0 : num2 f 0 ≤ 65535 := by have := hf 0; have := hf (0 + 1); unfold num2; omega
  have h2 : num2 f 2 ≤ 65535 := by have := hf 2; have := hf (2 + 1); unfold num2; omega
  obtain ⟨m, hm⟩ : ∃ m, m = num2 f 2 := ⟨_, rfl⟩
  obtain ⟨g, hg⟩ : ∃ g, g = num2 f 0 := ⟨_, rfl⟩
  have HM := Lib.hid hm
  have HG := Lib.hid hg
  have HGET2 := Lib.hid (show ∀ w, Calls Try.prog 93 #[pageV f, .int .i64 2] w fun e w' => e = .returned (.int .u16 m) ∧ Below w.heap.size w w' from fun w => by rw [hm]; exact walGet2_in hf 2 (by omega) w)
  have HGET0 := Lib.hid (show ∀ w, Calls Try.prog 93 #[pageV f, .int .i64 0] w fun e w' => e = .returned (.int .u16 g) ∧ Below w.heap.size w w' from fun w => by rw [hg]; exact walGet2_in hf 0 (by omega) w)
  rw [← hm] at h2
  rw [← hg] at h0
  clear h hf hm hg
  go_enter Try.func81, Try.ntmps81
  go_wp2_with (first
    | (refine wpList_box_row rfl 52 (.tmp 1) rfl (some 3) rfl 64 (pgC f) (by go_simp; try rfl) ?_; intro w1 G hg1 hr1 hb1; have HB1 := Lib.hid hb1; have HR1 := Lib.hid hr1; clear hr1 hb1 hg1)
    | (refine wpList_row_load (by kernel_rfl) 52 (.tmp 3) rfl (some 10) rfl G 64 (pgC f) (by go_simp) HR1.out _ block_under rfl block_size ?_))
  refine (HGET2.out _).mono ?_
  rintro e w2 ⟨rfl, hb2⟩
  have HB2 := Lib.hid (bnext HB1.out hb2)
  have HR2 := Lib.hid (rowIs_below HR1.out hb2)
  clear hb2
  go_wp2_with (first
    | (refine wpList_row_load (by kernel_rfl) 52 (.tmp 3) rfl (some 13) rfl G 64 (pgC f) (by go_simp) HR2.out _ block_under rfl block_size ?_))
  refine (HGET0.out _).mono ?_
  rintro e w3 ⟨rfl, hb3⟩
  have HB3 := Lib.hid (bnext HB2.out hb3)
  have HR3 := Lib.hid (rowIs_below HR2.out hb3)
  clear hb3
  by_cases hbad : g ≠ 26529 ∨ 30 < m
  · have HPL := Lib.hid (show places f n first = none from if_pos (by rw [← HM.out, ← HG.out]; exact hbad))
    have hways : ((g : Int) != 26529) = true ∨ (((g : Int) != 26529) = false ∧ (30 : Int) < m) := by
      by_cases hg : g = 26529
      · right
        exact ⟨by simp; omega, by omega⟩
      · left
        simp; omega
    rcases hways with k1 | ⟨k1, k2⟩
    · go_wp2_with fail
      go_ret2
      exact ⟨_, _, rfl, by unfold PlP; rw [HPL.out]; exact ⟨rfl, rfl⟩, HB3.out⟩
    · go_wp2_with fail
      go_ret2
      exact ⟨_, _, rfl, by unfold PlP; rw [HPL.out]; exact ⟨rfl, rfl⟩, HB3.out⟩
  · have k1 : ((g : Int) != 26529) = false := by simp; omega
    have k2 : decide ((30 : Int) < m) = false := by simp; omega
    have hm30 : m ≤ 30 := by omega
    go_wp2_with fail
    have HPN := Lib.hid (show (toL f m).all (okTo n first) = true → places f n first = some (toL f m) from fun ha => by unfold places; rw [← HM.out, ← HG.out, if_neg hbad, if_pos ha])
    have HPN2 := Lib.hid (show ∀ k, k < m → okTo n first (num2 f (4 + 2 * k)) = false → places f n first = none from fun k hk ho => by
      unfold places
      rw [← HM.out, ← HG.out, if_neg hbad, if_neg]
      intro ha
      have := List.all_eq_true.1 ha (num2 f (4 + 2 * k)) (List.mem_map.2 ⟨k, List.mem_range.2 hk, rfl⟩)
      rw [ho] at this
      cases this)
    go_loopw [7, 21] (fun v r wx => ∃ k : Nat, k ≤ m ∧ r = .int .i64 k ∧ OwnN wx w.heap.size v (toL f k) ∧ Below w.heap.size w wx ∧ (toL f k).all (okTo n first) = true ∧ wx.rowIs G 52 64 (pgC f) ∧ (∀ x, v.ownBlock = some x → x ≠ G)) (fun _ r _ => m - (intOf r).toNat)
    case atStart => exact ⟨0, by omega, rfl, OwnN.nil _ _, HB3.out, rfl, HR3.out, fun x hx => by cases hx⟩
    case round =>
      obtain ⟨k, hk, rfl, hown, hbl, hall, hrow, hne⟩ := hrel
      obtain ⟨A1, c1, hform⟩ := hown.form
      subst hform
      rw [toL_len] at hown hne ⊢
      have HOWN := Lib.hid hown
      have HBL := Lib.hid hbl
      have HALL := Lib.hid hall
      have HROW := Lib.hid hrow
      have HNE := Lib.hid hne
      clear hown hbl hall hrow hne
      by_cases hkm : k < m
      · have g1 : (k : Int) < m := by omega
        obtain ⟨b2, hb2'⟩ : ∃ x, x = 2 * k := ⟨_, rfl⟩
        obtain ⟨a, ha'⟩ : ∃ x, x = 4 + b2 := ⟨_, rfl⟩
        have e1 : (2 : Int) * (k : Int) = (b2 : Int) := by omega
        have e2 : (4 : Int) + (b2 : Int) = (a : Int) := by omega
        have e3 : b2 ≤ 60 ∧ a ≤ 62 := by omega
        obtain ⟨e4, e5⟩ := e3
        obtain ⟨t, ht⟩ : ∃ t, t = num2 f (4 + 2 * k) := ⟨_, rfl⟩
        have ht16 : t ≤ 65535 := by have := HF.out (4 + 2 * k); have := HF.out (4 + 2 * k + 1); rw [ht]; unfold num2; omega
        have HTT := Lib.hid ht
        have HGT := Lib.hid (show ∀ w, Calls Try.prog 93 #[pageV f, .int .i64 a] w fun e w' => e = .returned (.int .u16 t) ∧ Below w.heap.size w w' from fun w => by
          rw [ht, ← hb2', ← ha']
          exact walGet2_in HF.out a (by omega) w)
        clear hb2' ha' ht
        go_wp2_with (first
          | (refine wpList_row_load (by kernel_rfl) 52 (.tmp 3) rfl (some 24) rfl G 64 (pgC f) (by go_simp) HROW.out _ block_under rfl block_size ?_))
        refine (HGT.out _).mono ?_
        rintro e w5 ⟨rfl, hb5⟩
        have HB5 := Lib.hid (bnext HBL.out hb5)
        have HR5 := Lib.hid (rowIs_below HROW.out hb5)
        have HO5 := Lib.hid (HOWN.out.keep hb5)
        have HX5 := Lib.hid (H.out.keep HB5.out)
        have l0 := HX5.out.toLX.c0
        have l1 := HX5.out.toLX.c1
        clear hb5
        go_wp2_with fail
        refine (dxLen HX5.out.dx).mono ?_
        rintro e w6 ⟨rfl, rfl⟩
        have fb : first ≤ 65536 := by omega
        by_cases o1 : t < n
        · have q1 : decide ((n : Int) ≤ t) = false := by simp; omega
          have hways : (first ≤ t ∧ t ≤ first + 30) ∨ ¬ (first ≤ t) ∨ (first ≤ t ∧ first + 30 < t) := by omega
          rcases hways with ⟨q2, q3⟩ | q2 | ⟨q2, q3⟩
          · have q4 : (first : Int) ≤ t := by omega
            have q5 : (t : Int) ≤ first + 30 := by omega
            have HPL := Lib.hid (HPN2.out k hkm (by rw [← HTT.out]; unfold okTo; simp; omega))
            go_wp2_with fail
            go_ret2
            exact ⟨_, _, rfl, by unfold PlP; rw [HPL.out]; exact ⟨rfl, rfl⟩, HB5.out⟩
          · have q4 : decide ((first : Int) ≤ t) = false := by simp; omega
            go_wp2_with (with_reducible refine wpList_stop (some 56) rfl ?_)
            refine Lib.hid ?_
            refine wpList_lit_int rfl (.tmp 55) rfl (some 56) rfl (t : Int) (by go_simp; try rfl) ?_
            intro w7 u hu hb7
            have HO7 := Lib.hid (HO5.out.keep hb7)
            have HR7 := Lib.hid (rowIs_below HR5.out hb7)
            have HB7 := Lib.hid (bnext HB5.out hb7)
            have hO7 := HO7.out
            refine wpList_add_int rfl (.tmp 54) (.tmp 56) rfl (some 57) rfl w.heap.size (.slice A1 k c1) u (toL f k) t (by go_simp) (by go_simp) HO7.out hu (by rw [toL_len]; omega) HB7.out.size ?_
            intro v8 w8 ho8 o8
            rw [HTT.out, ← toL_next] at ho8
            obtain ⟨A8, c8, hform⟩ := ho8.form
            subst hform
            rw [toL_len] at ho8 ⊢
            have HO8 := Lib.hid ho8
            have HR8 := Lib.hid (show w8.rowIs G 52 64 (pgC f) from HR7.out.of_block (o8.block G HR7.out.lt (fun e => own_ne_row HO7.out HR7.out G e rfl)))
            have HB8 := Lib.hid (HB7.out.trans (o8.toBelow (fun x hx => (HO7.out.lt x hx).1) HB7.out.size))
            have HA8 := Lib.hid (show (toL f (k + 1)).all (okTo n first) = true from by
              rw [toL_next, List.all_append, HALL.out, ← HTT.out]
              unfold okTo
              simp
              omega)
            clear hu hb7 ho8 o8 hO7
            go_wp2_with fail
            go_roundw
            case rel => exact ⟨k + 1, by omega, by go_num, HO8.out, HB8.out, HA8.out, HR8.out, own_ne_row HO8.out HR8.out⟩
            case measure => simp [intOf]; omega
          · have q4 : (first : Int) ≤ t := by omega
            have q5 : decide ((t : Int) ≤ first + 30) = false := by simp; omega
            go_wp2_with (with_reducible refine wpList_stop (some 56) rfl ?_)
            refine Lib.hid ?_
            refine wpList_lit_int rfl (.tmp 55) rfl (some 56) rfl (t : Int) (by go_simp; try rfl) ?_
            intro w7 u hu hb7
            have HO7 := Lib.hid (HO5.out.keep hb7)
            have HR7 := Lib.hid (rowIs_below HR5.out hb7)
            have HB7 := Lib.hid (bnext HB5.out hb7)
            have hO7 := HO7.out
            refine wpList_add_int rfl (.tmp 54) (.tmp 56) rfl (some 57) rfl w.heap.size (.slice A1 k c1) u (toL f k) t (by go_simp) (by go_simp) HO7.out hu (by rw [toL_len]; omega) HB7.out.size ?_
            intro v8 w8 ho8 o8
            rw [HTT.out, ← toL_next] at ho8
            obtain ⟨A8, c8, hform⟩ := ho8.form
            subst hform
            rw [toL_len] at ho8 ⊢
            have HO8 := Lib.hid ho8
            have HR8 := Lib.hid (show w8.rowIs G 52 64 (pgC f) from HR7.out.of_block (o8.block G HR7.out.lt (fun e => own_ne_row HO7.out HR7.out G e rfl)))
            have HB8 := Lib.hid (HB7.out.trans (o8.toBelow (fun x hx => (HO7.out.lt x hx).1) HB7.out.size))
            have HA8 := Lib.hid (show (toL f (k + 1)).all (okTo n first) = true from by
              rw [toL_next, List.all_append, HALL.out, ← HTT.out]
              unfold okTo
              simp
              omega)
            clear hu hb7 ho8 o8 hO7
            go_wp2_with fail
            go_roundw
            case rel => exact ⟨k + 1, by omega, by go_num, HO8.out, HB8.out, HA8.out, HR8.out, own_ne_row HO8.out HR8.out⟩
            case measure => simp [intOf]; omega
        · have q1 : (n : Int) ≤ t := by omega
          have HPL := Lib.hid (HPN2.out k hkm (by rw [← HTT.out]; unfold okTo; simp; omega))
          go_wp2_with fail
          go_ret2
          exact ⟨_, _, rfl, by unfold PlP; rw [HPL.out]; exact ⟨rfl, rfl⟩, HB5.out⟩
      · obtain rfl : k = m := by omega
        have HP := Lib.hid (HPN.out HALL.out)
        go_wp2_with fail
        go_ret2
        exact ⟨_, _, rfl, by unfold PlP; rw [HP.out]; exact ⟨rfl, by have h := HOWN.out; exact h⟩, HBL.out⟩
end Go.Proofs.Ytonfnlohbgbffaa

set_option linter.unusedVariables false
set_option linter.unusedSimpArgs false
namespace Go.Proofs.Ytonfnlohbgbffaa
open Go.RowKit
open Go.Maps (Keyed)

/-- What Recover does: the disk, how many, the answer. -/
def recov (first n : Nat) (s : DSt) : DSt × Nat × Int := match places (s.D first) n first with
  | none => (s, 0, 26)
  | some L => ((install first L s).1, L.length, (install first L s).2)
theorem places_ok {f : Nat → Nat} {n first : Nat} {L : List Nat} (h : places f n first = some L) : L.length ≤ 30 ∧ ∀ k ∈ L, k < n ∧ ¬ (first ≤ k ∧ k ≤ first + 30) := by
  unfold places at h
  split at h
  · cases h
  · rename_i hb
    split at h
    · rename_i ha
      cases h
      refine ⟨by rw [toL_len]; omega, fun k hk => ?_⟩
      have := List.all_eq_true.1 ha k hk
      unfold okTo at this
      simp at this
      omega
    · cases h
set_option maxRecDepth 20000 in
set_option maxHeartbeats 4000000 in
theorem walRecover {w : World} {gd gb gl n first : Nat} {t : DSt} (h : LXs w gd gb gl n first t) :
    Calls Try.prog 53 #[.pointer (some ⟨gl, 0, none⟩)] w fun e w' => e = .returned (.tuple #[.int .i64 (recov first n t).2.1, .int .i64 (recov first n t).2.2]) ∧ LXs w' gd gb gl n first (recov first n t).1 ∧ Chg (dset gd gb) w w' := by
  have hn := h.dx.n
  have hfit := h.fit
  have HX := Lib.hid h
  obtain ⟨p, hp⟩ : ∃ p, p = first := ⟨_, rfl⟩
  have hpn : p < n := by omega
  have HP := Lib.hid hp
  obtain ⟨f, hf⟩ : ∃ f, f = t.D p := ⟨_, rfl⟩
  have HF := Lib.hid hf
  have HU8 := Lib.hid (show ∀ i, f i ≤ 255 from fun i => by rw [hf]; exact HX.out.dx.u8 p i)
  have HRV := Lib.hid (show recov first n t = match places f n first with
    | none => (t, 0, 26)
    | some L => ((install first L t).1, L.length, (install first L t).2) from by rw [hf, hp]; rfl)
  clear hf h hp
  go_enter Try.func53, Try.ntmps53
  go_upto_region 3 with fail
  go_cut [4, 5] (fun sp se wx => ∃ M, sp = .pointer (some ⟨M, 0, none⟩) ∧ se = .int .i64 0 ∧ w.heap.size ≤ M ∧ wx.rowIs M 52 64 (pgC f) ∧ LXs wx gd gb gl n first t ∧ Chg (dset gd gb) w wx)
  case first =>
    have HC := Lib.hid (show ∀ w', Chg (dset gd gb) w w' → w'.cell? ⟨gl, 0, none⟩ = some (.pointer (some ⟨gd, 0, none⟩)) ∧ w'.cell? ⟨gl, 1, none⟩ = some (.int .i64 first) from fun w' hc => logCells (hc.row HX.out.lg HX.out.notD))
    have HGET := Lib.hid (show ∀ w', Below w.heap.size w w' → Calls Try.prog 69 #[.pointer (some ⟨gd, 0, none⟩), .int .i64 p] w' fun e w2 => e = .returned (.tuple #[pageV f, .int .i64 0]) ∧ DXs w2 gd gb n t ∧ Chg (dset gd gb) w' w2 from fun w' hb => by rw [HF.out]; exact dxGet (HX.out.keep hb).dxs p hpn)
    have hS : Chg (dset gd gb) w (World.drew w) := Chg.of_below _ (drewb w)
    refine wp_region_held (S := Chg (dset gd gb) w) (by kernel_rfl) ?_
    change wpAnyH _ _ _ _ _ _ _ _ (World.drew _)
    refine takeH 0 (.pointer (some ⟨gl, 0, none⟩)) (some 11) rfl rfl (by kernel_rfl) (by kernel_rfl) (by kernel_rfl) (fun _ _ _ h => h) (.inl ⟨by kernel_rfl, fun w _ => by go_simp⟩) hS ?_
    refine takeH 1 (.pointer (some ⟨gl, 0, none⟩)) (some 12) rfl rfl (by kernel_rfl) (by kernel_rfl) (by kernel_rfl) (fun _ _ _ h => h) (.inl ⟨by kernel_rfl, fun w _ => by go_simp⟩) hS ?_
    refine takeH 2 (.pointer (some ⟨gl, 0, none⟩)) (some 13) rfl rfl (by kernel_rfl) (by kernel_rfl) (by kernel_rfl) (fun _ _ _ h => h) (.inl ⟨by kernel_rfl, fun w _ => by go_simp⟩) hS ?_
    refine takeH 3 (.pointer (some ⟨gd, 0, none⟩)) (some 14) rfl rfl (by kernel_rfl) (by kernel_rfl) (by kernel_rfl) (fun _ _ _ h => h) (.inl ⟨by kernel_rfl, fun w hw => by have hc := (HC.out w hw).1; go_simp⟩) hS ?_
    refine takeH 4 (.pointer (some ⟨gl, 0, none⟩)) (some 15) rfl rfl (by kernel_rfl) (by kernel_rfl) (by kernel_rfl) (fun _ _ _ h => h) (.inl ⟨by kernel_rfl, fun w _ => by go_simp⟩) hS ?_
    refine takeH 5 (.pointer (some ⟨gl, 0, none⟩)) (some 16) rfl rfl (by kernel_rfl) (by kernel_rfl) (by kernel_rfl) (fun _ _ _ h => h) (.inl ⟨by kernel_rfl, fun w _ => by go_simp⟩) hS ?_
    refine takeH 6 (.pointer (some ⟨gl, 1, none⟩)) (some 17) rfl rfl (by kernel_rfl) (by kernel_rfl) (by kernel_rfl) (fun _ _ _ h => h) (.inl ⟨by kernel_rfl, fun w _ => by go_simp⟩) hS ?_
    refine takeH 7 (.int .i64 p) (some 18) rfl rfl (by kernel_rfl) (by kernel_rfl) (by kernel_rfl) (fun _ _ _ h => h) (.inl ⟨by kernel_rfl, fun w hw => by have hc := (HC.out w hw).2; rw [← HP.out] at hc; go_simp⟩) hS ?_
    go_simp
    have hSB : Chg (dset gd gb) w ((World.drew w).alloc (.cells (Value.agg (rowArr 64 (pgC fun _ => 0))).cells 52)) := hS.next (bnew _ _)
    refine callAlloc 8 12 rfl rfl rfl rfl (by kernel_rfl) (by kernel_rfl) 19 4 rfl rfl 69 #[.pointer (some ⟨gd, 0, none⟩), .int .i64 p] 52 rfl (.agg (rowArr 64 (pgC fun _ => 0))) page_zero (by go_simp; try rfl) (fun _ w' => by go_simp; try rfl) ((HGET.out _ (drewb w)).mono ?_) hSB (fun M hM0 => (HGET.out _ (bnewAfter (drewb w) _)).mono ?_) (by decide) (by decide)
    · rintro e wT ⟨he, hT, hD⟩
      have hS1 : Chg (dset gd gb) w wT := hS.trans hD (fun k _ h => h)
      refine ⟨_, he, hS1, ?_⟩
      clear he
      refine takeH 9 (.tuple #[pageV f, .int .i64 0]) (some 10) rfl rfl (by kernel_rfl) (by kernel_rfl) (by kernel_rfl) (fun _ _ _ h => h) (.inl ⟨by kernel_rfl, fun w _ => by go_simp⟩) hS1 ?_
      refine takeH 10 (pageV f) (some 20) rfl rfl (by kernel_rfl) (by kernel_rfl) (by kernel_rfl) (fun _ _ _ h => h) (.inl ⟨by kernel_rfl, fun w _ => by go_simp⟩) hS1 ?_
      refine takeH 11 (.int .i64 0) (some 21) rfl rfl (by kernel_rfl) (by kernel_rfl) (by kernel_rfl) (fun _ _ _ h => h) (.inl ⟨by kernel_rfl, fun w _ => by go_simp⟩) hS1 ?_
      refine runH 12 _ (some 4) rfl (by kernel_rfl) (by kernel_rfl) rfl (exec_alloc 52 rfl (.agg (rowArr 64 (pgC fun _ => 0))) page_zero) (hS1.next (bnew _ _)) ?_
      have hm := rowIs_of_arr (heap_alloc_last wT (.cells (rowArr 64 (pgC fun _ => 0)) 52))
      have hS2 := hS1.next (bnew wT (.cells (rowArr 64 (pgC fun _ => 0)) 52))
      have hM : w.heap.size ≤ wT.heap.size := hS1.size
      have hT2 := ((HX.out.keep (drewb w)).setD hD hT).keep (bnew wT (.cells (rowArr 64 (pgC fun _ => 0)) 52))
      refine storeRowY 13 rfl (by kernel_rfl) (by kernel_rfl) rfl 52 _ _ rfl wT.heap.size 64 _ (pgC f) (by go_simp; try rfl) (by go_simp; try rfl) hm (fun _ _ => rfl) block_size (fun w3 h3 o3 => ?_)
      have hS3 : Chg (dset gd gb) w w3 := hS2.one o3 (.inr hM)
      refine ⟨hS3, ?_⟩
      refine takeH 14 (.int .i64 0) (some 5) rfl rfl (by kernel_rfl) (by kernel_rfl) (by kernel_rfl) (fun _ _ _ h => h) (.inl ⟨by kernel_rfl, fun w _ => by go_simp⟩) hS3 ?_
      refine wpAnyH_done (by kernel_rfl) ?_ _
      go_simp
      go_wp2_with fail
      go_meet
      exact ⟨_, rfl, rfl, hM, h3, hT2.one o3 (by have := HX.out.lt; omega), hS3⟩
    · rintro e wT ⟨he, hT, hD⟩
      have hS1 : Chg (dset gd gb) w wT := hSB.trans hD (fun k _ h => h)
      refine ⟨_, he, hS1, fun fl hfl => ?_⟩
      obtain rfl : fl = 5 := by simpa using hfl
      clear hfl he
      refine takeH 9 (.tuple #[pageV f, .int .i64 0]) (some 10) rfl rfl (by kernel_rfl) (by kernel_rfl) (by kernel_rfl) (fun _ _ _ h => h) (.inl ⟨by kernel_rfl, fun w _ => by go_simp⟩) hS1 ?_
      refine takeH 10 (pageV f) (some 20) rfl rfl (by kernel_rfl) (by kernel_rfl) (by kernel_rfl) (fun _ _ _ h => h) (.inl ⟨by kernel_rfl, fun w _ => by go_simp⟩) hS1 ?_
      refine takeH 11 (.int .i64 0) (some 21) rfl rfl (by kernel_rfl) (by kernel_rfl) (by kernel_rfl) (fun _ _ _ h => h) (.inl ⟨by kernel_rfl, fun w _ => by go_simp⟩) hS1 ?_
      have HM1 := Lib.hid (show M = w.heap.size from hM0)
      clear hM0
      have hm := hD.row (rowIs_of_arr (heap_alloc_last (World.drew w) (.cells (rowArr 64 (pgC fun _ => 0)) 52))) (fun e => by have h1 := HX.out.lt; have h3 : (World.drew w).heap.size = w.heap.size := rfl; rcases e with e | e <;> omega)
      rw [show (World.drew w).heap.size = M from HM1.out.symm] at hm
      have hS2 := hS1
      have hM : w.heap.size ≤ M := Nat.le_of_eq HM1.out.symm
      have hT2 := (HX.out.keep (bnewAfter (drewb w) (.cells (rowArr 64 (pgC fun _ => 0)) 52))).setD hD hT
      refine storeRowY 13 rfl (by kernel_rfl) (by kernel_rfl) rfl 52 _ _ rfl M 64 _ (pgC f) (by go_simp; try rfl) (by go_simp; try rfl) hm (fun _ _ => rfl) block_size (fun w3 h3 o3 => ?_)
      have hS3 : Chg (dset gd gb) w w3 := hS2.one o3 (.inr hM)
      refine ⟨hS3, ?_⟩
      refine takeH 14 (.int .i64 0) (some 5) rfl rfl (by kernel_rfl) (by kernel_rfl) (by kernel_rfl) (fun _ _ _ h => h) (.inl ⟨by kernel_rfl, fun w _ => by go_simp⟩) hS3 ?_
      refine wpAnyH_done (by kernel_rfl) ?_ _
      go_simp
      go_wp2_with fail
      go_meet
      exact ⟨_, rfl, rfl, hM, h3, hT2.one o3 (by have := HX.out.lt; omega), hS3⟩
  case rest =>
    obtain ⟨M, rfl, rfl, hM, hrow, hx2, hcg2⟩ := hcut
    have HROW := Lib.hid hrow
    have HX2 := Lib.hid hx2
    have HCG2 := Lib.hid hcg2
    clear hM hrow hx2 hcg2
    go_at_K
    go_step
    go_wp2_with (first
      | (refine wpList_row_load (by kernel_rfl) 52 (.tmp 4) rfl (some 27) rfl M 64 (pgC f) (by go_simp) HROW.out _ block_under rfl block_size ?_))
    refine (walPlaces HX2.out HU8.out).mono ?_
    rintro e w3 ⟨v, b, rfl, hpl, hb3⟩
    have HX3 := Lib.hid (HX2.out.keep hb3)
    have HC3 := Lib.hid (HCG2.out.next hb3)
    unfold PlP at hpl
    cases hpp : places f n first with
    | none =>
      rw [hpp] at hpl
      obtain ⟨rfl, rfl⟩ := hpl
      have HR := Lib.hid (show recov first n t = (t, 0, 26) from by rw [HRV.out, hpp])
      clear hpp hb3
      go_wp2_with fail
      go_ret2
      rw [HR.out]
      exact ⟨rfl, HX3.out, HC3.out⟩
    | some L =>
      rw [hpp] at hpl
      obtain ⟨rfl, hown⟩ := hpl
      obtain ⟨h30, hLn⟩ := places_ok hpp
      obtain ⟨A1, c1, hform⟩ := hown.form
      subst hform
      have HR := Lib.hid (show recov first n t = ((install first L t).1, L.length, (install first L t).2) from by rw [HRV.out, hpp])
      have HSI := Lib.hid (show SI w3 .i64 (.slice A1 L.length c1) (natInts L) from hown.si (fun c hc => by have := (hLn c hc).1; omega))
      have HVO := Lib.hid (show ∀ x, (Value.slice A1 L.length c1).ownBlock = some x → ¬ dset gd gb x from fun x hx e => by
        have h1 := (hown.lt x hx).1
        have h2 := HX2.out.toLX.lt
        rcases e with e | e <;> omega)
      have HLN := Lib.hid (show ∀ k ∈ L, k < n from fun k hk => (hLn k hk).1)
      clear hpp hb3 hown hLn
      go_wp2_with fail
      refine (walInstall HX3.out HSI.out h30 HLN.out HVO.out).mono ?_
      rintro e w4 ⟨rfl, hx4, hc4⟩
      have HX4 := Lib.hid hx4
      have HC4 := Lib.hid (HC3.out.trans hc4 (fun _ _ h => h))
      clear hx4 hc4
      go_wp2_with fail
      go_ret2
      rw [HR.out]
      exact ⟨rfl, HX4.out, HC4.out⟩
end Go.Proofs.Ytonfnlohbgbffaa
