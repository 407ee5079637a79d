/- A pool of a size with so many pages (garrisonlaw19.big, Pool). -/
import Derived.Test.YtapcbfeifeobhaaSpcC
set_option linter.unusedVariables false
set_option linter.unusedSimpArgs false
namespace Go.Proofs.Ytapcbfeifeobhaa
open Go.RowKit

def bigX (n m : Nat) : Array Value := #[.int .u8 0, .int .u8 0, .int .u8 0, .int .u8 n, .int .u8 0, .int .u8 0, .int .u8 0, .int .u8 0, .int .u8 m, .int .u8 0, .int .u8 0, .int .u8 0, .int .u8 0, .int .u8 0, .int .u8 0, .int .u8 0, .int .u8 0, .int .u8 0, .int .u8 0, .int .u8 0, .int .u8 0, .int .u8 0, .int .u8 0, .int .u8 0, .int .u8 0, .int .u8 0, .slice none 0 0]
def bigS (n m : Nat) : SizeL := ⟨0, fun i => if i = 2 then n else if i = 7 then m else 0, []⟩
theorem bigX_ok (w : World) (n m : Nat) (hn : n ≤ 255) (hm : m ≤ 255) : SizeV w (.agg (bigX n m)) (bigS n m) := by
  refine ⟨bigX n m, .slice none 0 0, rfl, rfl, rfl, ?_, rfl, SI.nil w _, by simp [bigS], fun i => ?_⟩
  · intro i hi
    iterate 25 (rcases i with _ | i; · rfl)
    omega
  · simp only [bigS]; split
    · exact hn
    · split
      · exact hm
      · omega
theorem bigS_len (n m : Nat) : (sizeRegs (bigS n m)).length = 2 := by rw [sizeRegs_length]; rfl
theorem bigS_fr0 (n m : Nat) : ∀ h, ((sizeRegs (bigS n m))[0]'h).fr = 4 + n % 40 := fun h => by rw [sizeFr]; rfl
theorem bigS_fr1 (n m : Nat) : ∀ h, ((sizeRegs (bigS n m))[1]'h).fr = 4 + m % 40 := fun h => by rw [sizeFr]; rfl
/-- What a new pool is. -/
structure NewPool (w w' : World) (n m g gm : Nat) (ad : Addr) (w1 : World) : Prop where
  b1 : Below w.heap.size w w1
  cp : ConfP w1 (some ad) (sizeRegs (bigS n m))
  g0 : w1.heap.size ≤ g
  g1 : w1.heap.size ≤ gm
  fp : FP w' g gm (some ad) (fun _ => 0) (fun _ => none)
  b2 : Below w1.heap.size w1 w'
set_option maxRecDepth 100000 in
set_option maxHeartbeats 4000000 in
theorem big_in (w : World) (n m : Nat) (hn : n ≤ 255) (hm : m ≤ 255) :
    Calls Try.prog 34 #[.int .u8 n, .int .u8 m] w fun e w' => ∃ g gm ad w1, e = .returned (.pointer (some ⟨g, 0, none⟩)) ∧ NewPool w w' n m g gm ad w1 := by
  have hX := fun w => bigX_ok w n m hn hm
  unfold bigX at hX
  go_enter Try.func34, Try.ntmps34
  go_wp2_with fail
  refine (sizeConf_in _ _ (bigS n m) (hX _)).mono ?_; rintro e w1 ⟨hb1, cg, gT, gN, gL, v', m', u', rfl, hcf⟩
  have HP := Lib.hid (hcf.toP (sizeLe _) (sizeOk _))
  have HB1 := Lib.hid hb1
  clear hcf hb1 hX
  go_wp2_with fail
  refine (frameNew_in _ _).mono ?_; rintro e w2 ⟨g, gm, rfl, hg, hgm, hT, hb2⟩
  go_wp2_with fail
  go_ret
  exact ⟨g, gm, _, w1, rfl, HB1.out, HP.out, hg, hgm, hT, hb2⟩
set_option maxHeartbeats 4000000 in
theorem pool_in (w : World) : Calls Try.prog 19 #[] w fun e w' => ∃ g gm ad w1, e = .returned (.pointer (some ⟨g, 0, none⟩)) ∧ NewPool w w' 39 39 g gm ad w1 := by
  go_enter Try.func19, Try.ntmps19
  go_wp2_with fail
  refine (big_in _ 39 39 (by omega) (by omega)).mono ?_
  rintro e w' ⟨g, gm, ad, w1, rfl, h⟩
  go_wp2_with fail
  go_ret
  exact ⟨g, gm, ad, w1, rfl, h⟩
end Go.Proofs.Ytapcbfeifeobhaa
