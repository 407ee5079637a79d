/- Labels: contracts of digits, Text; Awake. -/
import Derived.Test.YtmieioaklgdbdaaDoorLabG
import Derived.Test.YtmieioaklgdbdaaDoorLabS
set_option linter.unusedVariables false
set_option linter.unusedSimpArgs false
namespace Go.Proofs.YtmieioaklgdbdaaDoor
open Go.RowKit

/-- A number as it is printed. -/
def digL (n : Nat) : List UInt8 := if h : n > 9 then digL (n / 10) ++ digL (n % 10) else [UInt8.ofNat (48 + n)]
termination_by n

theorem bcat (a b : List UInt8) : (⟨a.toArray⟩ : ByteArray) ++ ⟨b.toArray⟩ = ⟨(a ++ b).toArray⟩ := by
  apply ByteArray.ext
  rw [ByteArray.data_append]
  simp

theorem digL_len : ∀ n, (digL n).length ≤ n + 1 := by
  intro n
  induction n using Nat.strongRecOn with
  | _ n ih =>
    rw [digL]
    split
    · have a := ih (n / 10) (by omega)
      have b := ih (n % 10) (by omega)
      rw [List.length_append]
      omega
    · simp

set_option maxHeartbeats 1000000 in
theorem digits_any : ∀ (n : Nat), n ≤ 1000 → ∀ (w : World), Calls Tryd.prog 16 #[.int .i64 n] w fun e w' => e = .returned (.string ⟨(digL n).toArray⟩) ∧ Below w.heap.size w w' := by
  intro n
  induction n using Nat.strongRecOn with
  | _ n ih =>
    intro hn w
    by_cases h : n > 9
    · have h' : (9 : Int) < n := by omega
      have e1 : (n : Int).tdiv 10 = ((n / 10 : Nat) : Int) := by rw [Int.tdiv_eq_ediv_of_nonneg (by omega)]; omega
      have e2 : (n : Int).tmod 10 = ((n % 10 : Nat) : Int) := by rw [Int.tmod_eq_emod_of_nonneg (by omega)]; omega
      have c1 := ih (n / 10) (by omega) (by omega)
      have c2 := ih (n % 10) (by omega) (by omega)
      generalize hq : n / 10 = q at *
      generalize hr : n % 10 = r at *
      go_enter Tryd.func16, Tryd.ntmps16
      go_wp2_with fail
      refine (c1 w).mono ?_
      rintro e w1 ⟨he, hb1⟩; subst he
      go_wp2_with fail
      refine (c2 w1).mono ?_
      rintro e w2 ⟨he, hb2⟩; subst he
      have l1 := digL_len q
      have l2 := digL_len r
      have hs : ¬ 9223372036854775807 < (digL q).length + (digL r).length := by omega
      have hd : digL n = digL q ++ digL r := by rw [digL, dif_pos h, hq, hr]
      have HD := Lib.hid hd
      clear hd l1 l2 ih
      go_wp2_with fail
      go_ret
      exact ⟨congrArg (fun s => Ending.returned (.string s)) (by rw [HD.out]; exact bcat _ _), hb1.trans (hb2.mono hb1.size)⟩
    · have h' : ¬ (9 : Int) < n := by omega
      go_enter Tryd.func16, Tryd.ntmps16
      have hsi : SI (w.alloc (.cells #[.int .u8 (48 + (n : Int))] 5)) .u8 (.slice (some ⟨w.heap.size, 0, none⟩) 1 1) [48 + (n : Int)] := ⟨SR.of_own (World.ownsRow_lit w #[.int .u8 (48 + (n : Int))] 1 (Nat.le_refl _) (by simp [maxLen]) rfl), fun z hz => by
        simp only [List.mem_singleton] at hz; subst hz; exact u8_wf (by omega)⟩
      have hcv := hsi.toString (P := Tryd.prog) Tryd.underlying44 Tryd.underlying5 Tryd.underlying9
      have hd : strOfNums [48 + (n : Int)] = ⟨(digL n).toArray⟩ := by
        rw [digL, dif_neg h]
        unfold strOfNums
        rw [List.map_cons, List.map_nil, show (48 + (n : Int)).toNat = 48 + n by omega]
      rw [hd] at hcv
      clear hsi
      go_wp2_with fail
      go_ret
      exact ⟨rfl, bnew _ _⟩

def signL (first : Bool) : List UInt8 := if first then [58] else [44]
/-- The categories as they are printed, each behind a sign. -/
def catsText : Bool → List Nat → List UInt8
  | _, [] => []
  | first, c :: cs => (signL first ++ digL c) ++ catsText false cs
def textL (p : Nat × Nat) : List UInt8 := digL p.1 ++ catsText true (catsL p.2)
theorem catsText_snoc : ∀ (f : Bool) (l : List Nat) (c : Nat), catsText f (l ++ [c]) = catsText f l ++ (signL (f && l.isEmpty) ++ digL c)
  | f, [], c => by simp [catsText]
  | f, d :: l, c => by
    show (signL f ++ digL d) ++ catsText false (l ++ [c]) = ((signL f ++ digL d) ++ catsText false l) ++ _
    rw [catsText_snoc false l c, List.append_assoc]
    simp
theorem signL_len (f : Bool) : (signL f).length = 1 := by cases f <;> rfl
theorem catsText_len : ∀ (f : Bool) (l : List Nat), (∀ c ∈ l, c < 16) → (catsText f l).length ≤ l.length * 18
  | _, [], _ => by simp [catsText]
  | f, c :: l, h => by
    have h1 := catsText_len false l (fun d hd => h d (by simp [hd]))
    have h2 := digL_len c
    have h3 := h c (by simp)
    have h4 := signL_len f
    simp only [catsText, List.length_append, List.length_cons]
    omega
theorem catsL_lt (x : Nat) : ∀ c ∈ catsL x, c < 16 := fun c hc => by
  simp only [catsL, List.mem_filter, List.mem_range] at hc
  exact hc.1

set_option maxHeartbeats 4000000 in
theorem labText_any (p : Nat × Nat) (hp : okL p) (w : World) (hT : Tab w) :
    Calls Tryd.prog 7 #[labV p] w fun e w' => e = .returned (.string ⟨(textL p).toArray⟩) ∧ Below w.heap.size w w' := by
  have h1 := hp.1
  have c1 := digits_any p.1 (by omega)
  have hl1 := digL_len p.1
  unfold labV
  go_enter Tryd.func7, Tryd.ntmps7
  go_wp2_with fail
  have g0 : ((w.alloc (.cells #[.int .u8 p.1, .int .u16 p.2] 24)).alloc (.cells #[.pointer none, .slice none 0 0] 46)).rowIs w.heap.size 24 2 (labRow p) := (labRow_new w 24 p).alloc _
  have gb : Lib.IsBuilder 46 5 (w.heap.size + 1) (w.heap.size + 1) [] ((w.alloc (.cells #[.int .u8 p.1, .int .u16 p.2] 24)).alloc (.cells #[.pointer none, .slice none 0 0] 46)) := by
    simpa using Lib.fresh_isBuilder 46 5 (w.alloc (.cells #[.int .u8 p.1, .int .u16 p.2] 24))
  have hb : Below w.heap.size w ((w.alloc (.cells #[.int .u8 p.1, .int .u16 p.2] 24)).alloc (.cells #[.pointer none, .slice none 0 0] 46)) := bnewAfter (bnew _ _) _
  generalize (w.alloc (.cells #[.int .u8 p.1, .int .u16 p.2] 24)).alloc (.cells #[.pointer none, .slice none 0 0] 46) = w1 at *
  obtain ⟨gB, hgB⟩ : ∃ g, g = w.heap.size + 1 := ⟨_, rfl⟩
  rw [← hgB] at gb ⊢
  have hgB' : w.heap.size < gB := by omega
  have hgl : gB < w1.heap.size := by
    rcases gb with h | h <;> exact h.lt
  clear hgB
  refine (c1 _).mono ?_
  rintro e w2 ⟨he, hb2⟩; subst he
  have gb2 : Lib.IsBuilder 46 5 gB gB [] w2 := by
    rcases gb with h | h
    · exact .inl (builder_keep h hb2)
    · exact .inr (builder_keep h hb2)
  have g2 := g0.of_block (hb2.block _ g0.lt)
  have B2 := hb.trans (hb2.mono hb.size)
  clear g0 gb
  go_wp2_with fail
  go_at_call 15
  refine (writeString_any gB gB [] ⟨(digL p.1).toArray⟩ w2 gb2 (by show 0 + (digL p.1).toArray.size ≤ _; rw [List.size_toArray]; omega) (by have := hb2.size; omega)).mono ?_
  rintro e w3 ⟨he, hbu, hb3, _⟩; subst he
  rw [List.nil_append, show Lib.strCells ⟨(digL p.1).toArray⟩ = Lib.byteCells (digL p.1) from rfl] at hbu
  have g3 := g2.of_block (hb3.block _ (by omega))
  have B3 : Below w.heap.size w w3 := B2.trans (hb3.mono (by omega))
  have hTk := hT.keep B3
  have x0 := labRow0 g3
  have x1 := labRow1 g3
  have hBU := Lib.hid hbu
  clear g2 hbu
  go_wp2_with fail
  go_at_call 17
  refine (labCats_any p hp w3 hTk).mono ?_
  rintro e w4 ⟨vc, he, hown, hb4⟩; subst he
  have bu4 := builder_keep hBU.out hb4
  have B4 := B3.trans (hb4.mono B3.size)
  have hgB4 : gB < w3.heap.size := hBU.out.lt
  obtain ⟨ad, c0, rfl⟩ := own_form hown
  have hcl : (catsL p.2).length ≤ 16 := Nat.le_trans (List.length_filter_le _ _) (by simp)
  obtain ⟨cs, hcs⟩ : ∃ cs, cs = catsL p.2 := ⟨_, rfl⟩
  have hcs16 : ∀ c ∈ cs, c < 16 := by rw [hcs]; exact catsL_lt p.2
  have hfin : textL p = digL p.1 ++ catsText true cs := by rw [hcs]; rfl
  rw [← hcs] at hown hcl ⊢
  have HF := Lib.hid hfin
  clear hcs hfin hBU x0 x1 g3
  -- the row of the numbers, whatever turns later
  have hrow : ∀ k, (hk : k < cs.length) → ∃ g cur, ad = some ⟨g, 0, none⟩ ∧ g ≠ gB ∧ w4.heap[g]? = some (.cells cur 3) ∧ cur[k]? = some (.int .i64 (cs[k] : Nat)) := by
    intro k hk
    rcases hown.2 with ⟨_, h0⟩ | ⟨g, c1, cur, hv, hbse, hg, _, _, hsz, htk⟩
    · omega
    · cases hv
      refine ⟨g, cur, rfl, by omega, hg, ?_⟩
      have : (cur.toList.take (cs.length * 1))[k]? = (ints cs)[k]? := by rw [htk]
      rw [List.getElem?_take_of_lt (by omega)] at this
      rw [← Array.getElem?_toList, this]
      simp [ints, hk]
  have HR := Lib.hid hrow
  clear hrow hown
  go_wp2_with fail
  go_loopw [4, 15] (fun v4 v15 wr => ∃ k : Nat, k ≤ cs.length ∧ v4 = .string ⟨(signL (decide (k = 0))).toArray⟩ ∧ v15 = .int .i64 k ∧ Lib.BuilderAt 46 5 gB gB (.pointer (some ⟨gB, 0, none⟩)) (Lib.byteCells (digL p.1 ++ catsText true (cs.take k))) wr ∧
      (∀ g cur, g ≠ gB → w4.heap[g]? = some (.cells cur 3) → wr.heap[g]? = some (.cells cur 3)) ∧ Below w.heap.size w wr) (fun _ v15 _ => (cs.length - intOf v15).toNat)
  case atStart => exact ⟨0, by omega, rfl, rfl, by simpa [catsText] using bu4, fun _ _ _ h => h, B4⟩
  case round =>
    obtain ⟨k, hk, rfl, rfl, hbu, hkeep, hB⟩ := hrel
    have hgr := hbu.lt
    by_cases hlt : k < cs.length
    · obtain ⟨g, cur, rfl, hgne, hg4, hcur⟩ := HR.out k hlt
      have hc := rowcell (hkeep g cur hgne hg4) k
      rw [hcur] at hc
      have hgl4 := rowlt (hkeep g cur hgne hg4)
      have hmem := hcs16 cs[k] (List.getElem_mem hlt)
      have htk : cs.take (k + 1) = cs.take k ++ [cs[k]] := by rw [List.take_add_one, List.getElem?_eq_getElem hlt]; rfl
      have hsn := catsText_snoc true (cs.take k) cs[k]
      have hlen := catsText_len true (cs.take k) (fun c hc => hcs16 c (List.mem_of_mem_take hc))
      rw [List.length_take, Nat.min_eq_left (by omega)] at hlen
      have hemp : (true && (cs.take k).isEmpty) = decide (k = 0) := by
        cases k with
        | zero => simp
        | succ k => cases cs with
          | nil => simp at hlt
          | cons c cs => simp
      rw [hemp, ← htk] at hsn
      have cd := digits_any cs[k] (by omega)
      have hdl := digL_len cs[k]
      generalize cs[k] = c at *
      obtain ⟨sg, hsg⟩ : ∃ sg, sg = signL (decide (k = 0)) := ⟨_, rfl⟩
      have hsl : sg.length = 1 := by rw [hsg]; exact signL_len _
      rw [← hsg] at hsn ⊢
      have HS := Lib.hid hsn
      have HK := Lib.hid hkeep
      have hbu' := Lib.hid hbu
      clear hsn hkeep hbu hemp htk hsg hcur hg4
      go_wp2_with fail
      go_at_call 16
      refine (cd _).mono ?_
      rintro e w5 ⟨he, hb5⟩; subst he
      have bu5 := builder_keep hbu'.out hb5
      have hl5 : ¬ 9223372036854775807 < sg.length + (digL c).length := by omega
      go_wp2_with fail
      rw [bcat]
      go_at_call 15
      have hsz : (Lib.byteCells (digL p.1 ++ catsText true (cs.take k))).length + (⟨(sg ++ digL c).toArray⟩ : ByteArray).size ≤ 140737488355328 := by
        rw [Lib.byteCells_length, List.length_append]
        show _ + (sg ++ digL c).toArray.size ≤ _
        rw [List.size_toArray, List.length_append]
        omega
      refine (writeString_any gB gB _ ⟨(sg ++ digL c).toArray⟩ w5 (.inr bu5) hsz (by have := hb5.size; omega)).mono ?_
      rintro e w6 ⟨he, hbu6, hb6, hk6⟩; subst he
      have B6 := hB.trans ((hb5.mono hB.size).trans (hb6.mono (by omega)))
      go_wp2_with fail
      go_roundw
      case rel =>
        refine ⟨k + 1, by omega, by simp; rfl, by go_num, ?_, ?_, B6⟩
        · rw [HS.out, ← List.append_assoc, Lib.byteCells_append]
          exact hbu6
        · intro g' cur' hne h'
          have h5 := HK.out g' cur' hne h'
          exact hk6 g' cur' _ _ hne (by decide) (by rw [hb5.block g' (rowlt h5)]; exact h5)
      case measure => simp [intOf]; omega
    · have hall : cs.take k = cs := List.take_of_length_le (by omega)
      rw [hall, ← HF.out] at hbu
      have HB := Lib.hid hbu
      clear hbu hall hkeep
      go_wp2_with fail
      go_at_call 18
      refine (builder_String_any gB gB (textL p) wr (.inr HB.out) (by omega)).mono ?_
      rintro e w5 ⟨he, hb5⟩; subst he
      go_wp2_with fail
      go_ret
      exact ⟨rfl, hB.trans (hb5.mono (by omega))⟩
end Go.Proofs.YtmieioaklgdbdaaDoor
