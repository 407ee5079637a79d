/- Nodes: NodeBytes: bytes as texts. -/
import Derived.Test.YtonfnlohbgbffaaNodV
set_option linter.unusedVariables false
set_option linter.unusedSimpArgs false
namespace Go.Proofs.Ytonfnlohbgbffaa
open Go.RowKit

def ofNats (L : List Nat) : List Int := L.map fun (b : Nat) => (b : Int)
theorem u8s_ofNats (L : List Nat) : (ofNats L).map (Value.int .u8) = u8s L := by simp [ofNats, u8s]
theorem wf_ofNats {L : List Nat} (hL : ∀ b ∈ L, b ≤ 255) : ∀ z ∈ ofNats L, (Lit.int .u8 z).wf = true := fun z hz => by
  obtain ⟨b, hb, rfl⟩ := List.mem_map.1 hz
  have := hL b hb
  simp [Lit.wf, IntKind.min, IntKind.max, IntKind.bits, IntKind.signed]
  omega
theorem bytL_le (n : NodL) : ∀ b ∈ bytL n, b ≤ 255 := fun b hb => by
  rw [← encN_row] at hb
  obtain ⟨i, _, rfl⟩ := List.mem_map.1 hb
  exact encN_le n i
theorem SI.bs {w : World} {base : Nat} {v : Value} {L : List Nat} (h : BS w base v L) (hL : ∀ b ∈ L, b ≤ 255) : SI w .u8 v (ofNats L) := by
  refine ⟨?_, wf_ofNats hL⟩
  rw [u8s_ofNats]
  have := SR.of_own h
  rw [show (ofNats L).length = L.length by simp [ofNats]]
  exact this
theorem rowArr_u8s (f : Nat → Nat) : (rowArr 32 (byteF f)).toList = u8s ((List.range 32).map f) := by
  simp [rowArr, u8s, byteF, Function.comp_def]
theorem SI.enc {w : World} {x : Nat} {n : NodL} (h : w.rowIs x 28 32 (byteF (encN n))) : SI w .u8 (.slice (some ⟨x, 0, none⟩) 32 32) (ofNats (bytL n)) := by
  refine ⟨?_, wf_ofNats (bytL_le n)⟩
  rw [u8s_ofNats, show (ofNats (bytL n)).length = 32 from rfl]
  refine ⟨by simp [u8s, bytL], .inr ⟨⟨x, 0, none⟩, 32, rfl, Nat.le_refl _, by simp [maxLen], fun _ => ⟨rfl, h.lt, fun j hj => ?_⟩⟩⟩
  rw [Nat.zero_add]
  have h1 : j < 32 := by omega
  rw [h.cell h1]
  have h2 := encN_at n j h1
  simp [u8s, h2, byteF]
theorem str_enc {w : World} {x : Nat} {n : NodL} (h : w.rowIs x 28 32 (byteF (encN n))) : (convert 34 9 (.slice (some ⟨x, 0, none⟩) 32 32)).run Try.prog w = .ok (.string (strOfNums (ofNats (bytL n)))) w :=
  (SI.enc h).toString Try.underlying34 Try.underlying5 Try.underlying9
theorem str_ref {w : World} {base : Nat} {v : Value} {n : NodL} (hn : n.ok) (h : BS w base v (encL n ++ List.replicate 8 0)) : (convert 34 9 v).run Try.prog w = .ok (.string (strOfNums (ofNats (bytL n)))) w := by
  rw [encL_row hn] at h
  exact (SI.bs h (bytL_le n)).toString Try.underlying34 Try.underlying5 Try.underlying9
end Go.Proofs.Ytonfnlohbgbffaa
