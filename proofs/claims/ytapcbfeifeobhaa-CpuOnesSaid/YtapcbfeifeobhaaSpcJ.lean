/- SpaceFaults: its walk (and the chapter's example). -/
import Derived.Test.YtapcbfeifeobhaaSpcI
set_option linter.unusedVariables false
set_option linter.unusedSimpArgs false
namespace Go.Proofs.Ytapcbfeifeobhaa
open Go.RowKit

theorem moreF_is (F : Nat × Nat → Option (Nat → Nat)) (l u : Nat) : ∀ (m j : Nat), j < m → (moreF F l u m (l, u + j)).isSome = true
  | 0, j, h => absurd h (Nat.not_lt_zero _)
  | m + 1, j, h => by
    unfold moreF putF
    split
    · rfl
    · rename_i hne
      exact moreF_is F l u m j (by
        rcases Nat.lt_or_ge j m with h2 | h2
        · exact h2
        · exact absurd (by rw [show j = m by omega]) hne)
theorem spOk_more (F : Nat × Nat → Option (Nat → Nat)) (l u m : Nat) (h1 : l ≤ 255) (h2 : u + m ≤ 65536) (h3 : m ≤ 32) : SpOk (moreF F l u m) (morePs l u m) where
  p1 := fun p hp => by
    simp only [morePs, List.mem_map, List.mem_range] at hp
    obtain ⟨j, hj, rfl⟩ := hp
    exact ⟨h1, by show u + j ≤ _; omega⟩
  is := fun p hp => by
    simp only [morePs, List.mem_map, List.mem_range] at hp
    obtain ⟨j, hj, rfl⟩ := hp
    exact moreF_is F l u m j hj
  nd := by
    unfold morePs
    rw [List.nodup_iff_pairwise_ne]
    rw [List.pairwise_map]
    refine List.Pairwise.imp ?_ List.nodup_range
    intro a b h e
    injection e with h3 h4
    omega
  len := by rw [morePs_len]; exact h3
/-- A new space over a new pool. -/
structure NewSp (w0 w : World) (g gm gs base lab m : Nat) (ad : Addr) (us : Nat → Nat) (F : Nat × Nat → Option (Nat → Nat)) (v : Value) : Prop where
  bl : Below w0.heap.size w0 w
  tp : FP w g gm (some ad) us F
  sp : SpV w base gs g lab (morePs lab 0 m) v
  ok : SpOk F (morePs lab 0 m)
  g0 : w0.heap.size ≤ g
  g1 : w0.heap.size ≤ gm
theorem NewSp.keep {w0 w w' : World} {g gm gs base lab m : Nat} {ad : Addr} {us : Nat → Nat} {F : Nat × Nat → Option (Nat → Nat)} {v : Value} (h : NewSp w0 w g gm gs base lab m ad us F v) (hb : Below w.heap.size w w') : NewSp w0 w' g gm gs base lab m ad us F v :=
  ⟨h.bl.trans (hb.mono h.bl.size), h.tp.keep hb, h.sp.keep hb, h.ok, h.g0, h.g1⟩
theorem NewSp.upd {w0 w w' : World} {g gm gs base lab m : Nat} {ad : Addr} {us : Nat → Nat} {F F' : Nat × Nat → Option (Nat → Nat)} {v : Value} {mm : Nat → Nat} (h : NewSp w0 w g gm gs base lab m ad us F v)
    (ht : FP w' g gm (some ad) us F') (hu : SpUpd F F' (morePs lab 0 m) mm) (hc : Chg (fun k => k = g ∨ k = gm) w w') : NewSp w0 w' g gm gs base lab m ad us F' v :=
  ⟨Chg.go h.bl hc (fun k hk => by
    rcases hk with rfl | rfl
    · exact h.g0
    · exact h.g1) h.bl.size, ht, h.sp.chg2 h.tp hc, hu.ok h.ok, h.g0, h.g1⟩
theorem NewSp.mk' {w w1 w2 w3 : World} {n m' g gm : Nat} {ad : Addr} {gs : Nat} {v : Value} {lab k : Nat} (hp : NewPool w w2 n m' g gm ad w1) (hk : k ≤ 32) (hl : lab ≤ 255)
    (ht : FP w3 g gm (some ad) (setN (fun _ => 0) lab (0 + k)) (moreF (fun _ => none) lab 0 k)) (hs : SpV w3 w2.heap.size gs g lab (morePs lab 0 k) v) (hc : Chg (fun k => k = g ∨ k = gm) w2 w3) :
    NewSp w1 w3 g gm gs w2.heap.size lab k ad (setN (fun _ => 0) lab (0 + k)) (moreF (fun _ => none) lab 0 k) v :=
  ⟨Chg.go hp.b2 hc (fun k hk => by
    rcases hk with rfl | rfl
    · exact hp.g0
    · exact hp.g1) hp.b2.size, ht, hs, spOk_more _ _ _ _ hl (by omega) hk, hp.g0, hp.g1⟩

end Go.Proofs.Ytapcbfeifeobhaa
