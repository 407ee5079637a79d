/- wal.Txn.Blocks: its keys, rising. -/
import Derived.Test.YtonfnlohbgbffaaSrtB
import Derived.Test.YtonfnlohbgbffaaWalF
import Derived.Test.YtonfnlohbgbffaaMapL
set_option linter.unusedVariables false
set_option linter.unusedSimpArgs false
namespace Go.Proofs.Ytonfnlohbgbffaa
open Go.RowKit
open Go.Maps (Keyed)

/-- The keys that a map of blocks holds, rising. -/
structure KeysOf {α : Type} (F : Int → Option α) (L : List Nat) : Prop where
  up : L.Pairwise (· < ·)
  yes : ∀ k ∈ L, F (k : Nat) ≠ none
  all : ∀ x : Int, F x ≠ none → ∃ k ∈ L, x = (k : Nat)
theorem KeysOf.nodup {α : Type} {F : Int → Option α} {L : List Nat} (h : KeysOf F L) : L.Nodup := h.up.imp (fun h => Nat.ne_of_lt h)
theorem up_of {L : List Nat} (h : L.Pairwise (· ≤ ·)) (hn : L.Nodup) : L.Pairwise (· < ·) := by
  induction L with
  | nil => exact List.Pairwise.nil
  | cons a L ih =>
    rw [List.pairwise_cons] at h ⊢
    rw [List.nodup_cons] at hn
    exact ⟨fun b hb => Nat.lt_of_le_of_ne (h.1 b hb) (fun e => hn.1 (e ▸ hb)), ih h.2 hn.2⟩
/-- What a round over the keys has gathered. -/
structure Gath {α : Type} (F : Int → Option α) (done : Int → Bool) (l : List Nat) : Prop where
  nd : l.Nodup
  yes : ∀ k ∈ l, F (k : Nat) ≠ none ∧ done (k : Nat) = true
  all : ∀ x : Int, done x = true → F x ≠ none → ∃ k ∈ l, x = (k : Nat)
theorem Gath.next {α : Type} {F : Int → Option α} {done : Int → Bool} {l : List Nat} (h : Gath F done l) {k : Nat} (hF : F (k : Nat) ≠ none) (hd : done (k : Nat) = false) : Gath F (fun z => decide (z = (k : Int)) || done z) (l ++ [k]) := by
  refine ⟨?_, ?_, ?_⟩
  · refine List.nodup_append.2 ⟨h.nd, by simp, fun a ha b hb e => ?_⟩
    simp only [List.mem_singleton] at hb
    subst hb
    subst e
    rw [(h.yes _ ha).2] at hd
    cases hd
  · intro j hj
    rcases List.mem_append.1 hj with hj | hj
    · exact ⟨(h.yes j hj).1, by simp [(h.yes j hj).2]⟩
    · simp only [List.mem_singleton] at hj
      subst hj
      exact ⟨hF, by simp⟩
  · intro x hx hFx
    simp only [Bool.or_eq_true, decide_eq_true_eq] at hx
    rcases hx with rfl | hx
    · exact ⟨k, by simp, rfl⟩
    · obtain ⟨j, hj, rfl⟩ := h.all x hx hFx
      exact ⟨j, by simp [hj], rfl⟩
theorem own_ne_it {κ α : Type} [DecidableEq κ] {P : Program} {t : TypeId} {w : World} {base : Nat} {v : Value} {l : List Nat} {g r : Nat} {kv : κ → Value} {vv : α → Value} {F : κ → Option α} {done : κ → Bool} (h : OwnN w base v l) (hi : IT w P t g r kv vv F done) :
    ∀ x, v.ownBlock = some x → x ≠ r := by
  intro x hx e
  subst e
  obtain ⟨E, c, s, e1, e2, _⟩ := hi.it
  rcases h.2 with ⟨rfl, _⟩ | ⟨g0, cap, cur, rfl, _, hg, _⟩
  · cases hx
  · injection hx with hx
    subst hx
    rw [e2] at hg
    cases hg
theorem rngLeft_same {w w' : World} {g r : Nat} (h1 : w'.heap[g]? = w.heap[g]?) (h2 : w'.heap[r]? = w.heap[r]?) : rngLeft w' g r = rngLeft w g r := by
  unfold rngLeft
  rw [h1, h2]
section
variable {w w' : World} {gd gb gl gt gm n first : Nat} {F : Int → Option (Nat → Nat)} {bad : Int} {D : Nat → Nat → Nat} {left : Int} {dead : Bool}
theorem TX.nat (h : TX w gd gb gl gt gm n first F bad D left dead) {x : Int} {f : Nat → Nat} (hx : F x = some f) : ∃ k : Nat, x = (k : Nat) ∧ k < n := by
  have := h.ok x f hx
  exact ⟨x.toNat, by omega, by omega⟩
theorem TX.few (h : TX w gd gb gl gt gm n first F bad D left dead) {l : List Nat} (hn : l.Nodup) (hF : ∀ k ∈ l, F (k : Nat) ≠ none) : l.length ≤ mapN w gm := by
  have := h.mp.mp.len_ge kvI_inj (l.map fun (k : Nat) => (k : Int)) (by
    rw [List.nodup_iff_pairwise_ne, List.pairwise_map]
    exact (List.nodup_iff_pairwise_ne.1 hn).imp (fun h e => h (by omega))) (fun a ha => by
      obtain ⟨k, hk, rfl⟩ := List.mem_map.1 ha
      exact hF k hk)
  simpa using this
theorem TX.keysN (h : TX w gd gb gl gt gm n first F bad D left dead) : mapN w gm ≤ n := by
  have := h.mp.mp.len_le ((List.range n).map fun (k : Nat) => (k : Int)) (fun a ha => by
    cases hf : F a with
    | none => exact absurd hf ha
    | some f =>
      obtain ⟨k, rfl, hk⟩ := h.nat hf
      exact List.mem_map.2 ⟨k, List.mem_range.2 hk, rfl⟩)
  simpa using this
set_option maxRecDepth 10000 in
set_option maxHeartbeats 2000000 in
/-- Blocks: the keys, rising. -/
theorem txnBlocks_ok (h : TX w gd gb gl gt gm n first F bad D left dead) :
    Calls Try.prog 56 #[.pointer (some ⟨gt, 0, none⟩)] w fun e w' => ∃ v L, e = .returned v ∧ SI w' .i64 v (natInts L) ∧ KeysOf F L ∧ L.length = mapN w gm ∧ Below w.heap.size w w' ∧ ∀ x, v.ownBlock = some x → w.heap.size ≤ x := by
  have hn := h.lx.dx.n
  have c1 := h.c1
  have H := Lib.hid h
  clear h
  go_enter Try.func56, Try.ntmps56
  go_wp2_with (with_reducible refine wpList_stop (some 11) rfl ?_)
  refine Lib.hid ?_
  refine wpList_range_mb (by kernel_rfl) (some 11) rfl H.out.mp Try.underlying141 _ rfl (by go_simp) ?_
  intro w1 hit1 hb1
  have HIT1 := Lib.hid hit1
  have HB1 := Lib.hid hb1
  obtain ⟨r0, hr0⟩ : ∃ r0, r0 = w.heap.size := ⟨_, rfl⟩
  rw [← hr0] at HIT1 ⊢
  have HR0 := Lib.hid hr0
  clear hit1 hb1 hr0
  go_simp
  go_wp2_with fail
  go_loopw [3] (fun v wx => ∃ (l : List Nat) (done : Int → Bool), OwnN wx w.heap.size v l ∧ IT wx Try.prog 3 gm r0 kvI pageV F done ∧ Gath F done l ∧ Below w.heap.size w wx) (fun _ wx => rngLeft wx gm r0)
  case atStart => exact ⟨[], _, OwnN.nil _ _, HIT1.out, ⟨List.nodup_nil, fun k hk => (by cases hk), fun x hx => (by cases hx)⟩, HB1.out⟩
  case round =>
    obtain ⟨l, done, hown, hit, hga, hbl⟩ := hrel
    obtain ⟨A1, c1', hform⟩ := hown.form
    subst hform
    have HOWN := Lib.hid hown
    have HIT := Lib.hid hit
    have HG := Lib.hid hga
    have HBL := Lib.hid hbl
    have HNE := Lib.hid (own_ne_it hown hit)
    have hlen : l.length ≤ 65536 := by
      have h1 := (H.out.keep hbl).few hga.nd (fun k hk => (hga.yes k hk).1)
      have h2 := (H.out.keep hbl).keysN
      omega
    clear hown hit hga hbl
    go_wp2_with (with_reducible refine wpList_stop (some 12) rfl ?_)
    refine Lib.hid ?_
    refine wpList_next_it (by kernel_rfl) (some 12) rfl HIT.out kvI_inj _ rfl (by go_simp) ?_ ?_
    · intro hd
      have HD := Lib.hid hd
      clear hd
      go_simp
      go_wp2_with fail
      have hk : ∀ c ∈ l, c ≤ 65536 := fun c hc => by
        cases hf : F (c : Nat) with
        | none => exact absurd hf (HG.out.yes c hc).1
        | some f =>
          obtain ⟨k, hk1, hk2⟩ := H.out.nat hf
          omega
      refine (sort_own HOWN.out hk (by omega)).mono ?_
      rintro e w5 ⟨L, rfl, hsi, hup, hperm, ho⟩
      have hnd : L.Nodup := hperm.nodup_iff.2 HG.out.nd
      have hkeys : KeysOf F L := ⟨up_of hup hnd, fun k hk => (HG.out.yes k (hperm.mem_iff.1 hk)).1, fun x hx => by
        obtain ⟨k, hk, rfl⟩ := HG.out.all x (HD.out x hx) hx
        exact ⟨k, hperm.mem_iff.2 hk, rfl⟩⟩
      have hlen2 : L.length = mapN w gm := by
        have h1 := H.out.few hnd hkeys.yes
        have h2 := H.out.mp.mp.len_le (L.map fun (k : Nat) => (k : Int)) (fun a ha => by
          obtain ⟨k, hk, rfl⟩ := hkeys.all a ha
          exact List.mem_map.2 ⟨k, hk, rfl⟩)
        rw [List.length_map] at h2
        omega
      have hbl := HBL.out.trans (ho.toBelow (fun x hx => (HOWN.out.lt x hx).1) HBL.out.size)
      clear hk hup hperm ho hnd
      go_wp2_with fail
      go_ret
      exact ⟨_, L, rfl, hsi, hkeys, hlen2, hbl, fun x hx => (HOWN.out.lt x hx).1⟩
    · intro x y w2 hF hdn hit2 hch hlt hen
      obtain ⟨k, rfl, hkn⟩ := H.out.nat hF
      have HOWN2 := Lib.hid (show OwnN w2 w.heap.size (.slice A1 l.length c1') l from own_keep HOWN.out (fun k hk => hch.block k (HOWN.out.lt k hk).2 (HNE.out k hk)))
      have HIT2 := Lib.hid hit2
      have HEN := Lib.hid hen
      have HLT := Lib.hid hlt
      have HBL2 := Lib.hid (Chg.go HBL.out hch (fun k hk => by subst hk; exact Nat.le_of_eq HR0.out.symm) HBL.out.size)
      have HG2 := Lib.hid (HG.out.next (by rw [hF]; simp) hdn)
      clear hit2 hch hlt hen hF hdn
      go_simp
      go_wp2_with (first
        | (refine wpList_entry_it (by kernel_rfl) (some 14) rfl HEN.out _ rfl (by go_simp) ?_)
        | (with_reducible refine wpList_stop (some 18) rfl ?_))
      refine Lib.hid ?_
      refine wpList_lit_int rfl (.tmp 17) rfl (some 18) rfl (k : Int) (by go_simp; try rfl) ?_
      intro w3 u hu hb3
      have HOWN3 := Lib.hid (HOWN2.out.keep hb3)
      have HBL3 := Lib.hid (bnext HBL2.out hb3)
      refine wpList_add_int rfl (.tmp 16) (.tmp 18) rfl (some 19) rfl w.heap.size (.slice A1 l.length c1') u l k (by go_simp) (by go_simp) HOWN3.out hu (by omega) HBL3.out.size ?_
      intro v4 w4 ho4 o4
      have hgl : gm < w.heap.size := H.out.lt.2.2.2.2
      have e1 : w4.heap[gm]? = w2.heap[gm]? := by
        rw [o4.block gm (Nat.lt_of_lt_of_le hgl HBL3.out.size) (fun e => by have := (HOWN3.out.lt _ e).1; omega)]
        exact hb3.block gm (Nat.lt_of_lt_of_le hgl HBL2.out.size)
      have e2 : w4.heap[r0]? = w2.heap[r0]? := by
        have hr := HIT2.out.left_lt
        rw [o4.block r0 (Nat.lt_of_lt_of_le hr hb3.size) (fun e => HNE.out _ e rfl)]
        exact hb3.block r0 hr
      have HIT4 := Lib.hid (HIT2.out.keepAt e1 e2)
      have HRL := Lib.hid (rngLeft_same e1 e2)
      have HBL4 := Lib.hid (HBL3.out.trans (o4.toBelow (fun x hx => (HOWN3.out.lt x hx).1) HBL3.out.size))
      obtain ⟨A4, c4, hform⟩ := ho4.form
      subst hform
      rw [show (l ++ [k]).length = l.length + 1 by simp] at ho4
      have HO4 := Lib.hid ho4
      clear hu hb3 ho4 o4 e1 e2 hgl
      go_wp2_with fail
      go_roundw
      case rel => exact ⟨l ++ [k], _, HO4.out, HIT4.out, HG2.out, HBL4.out⟩
      case measure => rw [HRL.out]; exact HLT.out
end
end Go.Proofs.Ytonfnlohbgbffaa
