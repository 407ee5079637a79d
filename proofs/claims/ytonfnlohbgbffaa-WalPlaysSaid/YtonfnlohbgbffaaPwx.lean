/- The plain law of a disk that stops in a commit, or while it begins anew. For WalWhole: Arm, Wake; pages of the call's own that are changed, and parts of them; the plain law put together. The document's transaction: its object; find; Drop. The document's transaction: Get. The document's transaction: Commit. For the document's Put: parts of slices; a literal, an append onto it, another literal, in whatever order. The plain law of the document's Put; what turns. The document's Put, where nothing is put. For the document's Put: a literal, an append onto it, another literal, in whatever order, where a store comes last. The document's Put: one too many; one that is put again. The document's Put: a new one. The calls of WalPlays, on both sides, with one answer. The law WalHeads. -/
import Derived.Test.YtonfnlohbgbffaaWpq
import Derived.Test.YtonfnlohbgbffaaWalM
import Derived.Test.YtonfnlohbgbffaaWalS
import Derived.Test.YtonfnlohbgbffaaWrf
import Derived.Deep.CutBlock
set_option linter.unusedVariables false
set_option linter.unusedSimpArgs false
namespace Go.Proofs.Ytonfnlohbgbffaa
open Go.RowKit

/-! ### A head that is read back -/
theorem num2_head (L : List Nat) (k : Nat) (hk : k < L.length) (h : L.getD k 0 ≤ 65535) : num2 (logB L) (4 + 2 * k) = L.getD k 0 := by
  have e1 : (4 + 2 * k - 4) / 2 = k := by omega
  have e2 : (4 + 2 * k + 1 - 4) / 2 = k := by omega
  have h1 : logB L (4 + 2 * k) = L.getD k 0 % 256 := by
    unfold logB headTo
    rw [if_neg (by omega), if_neg (by omega), if_neg (by omega), if_neg (by omega), e1, if_pos hk, if_pos (by omega)]
  have h2 : logB L (4 + 2 * k + 1) = L.getD k 0 / 256 % 256 := by
    unfold logB headTo
    rw [if_neg (by omega), if_neg (by omega), if_neg (by omega), if_neg (by omega), e2, if_pos hk, if_neg (by omega)]
  unfold num2
  rw [h1, h2]
  omega
theorem toL_head (L : List Nat) (h : ∀ k ∈ L, k ≤ 65535) : toL (logB L) L.length = L := by
  apply List.ext_getElem (toL_len _ _)
  intro i h1 h2
  have h3 := num2_head L i h2 (by rw [List.getD_eq_getElem?_getD, List.getElem?_eq_getElem h2]; exact h _ (List.getElem_mem h2))
  have h4 : (toL (logB L) L.length)[i]? = some (num2 (logB L) (4 + 2 * i)) := by
    unfold toL
    rw [List.getElem?_map, List.getElem?_range h2]
    rfl
  rw [List.getElem?_eq_getElem h1] at h4
  rw [Option.some.inj h4, h3, List.getD_eq_getElem?_getD, List.getElem?_eq_getElem h2]
  rfl
theorem places_head (L : List Nat) (n first : Nat) (hl : L.length ≤ 30) (h : ∀ k ∈ L, k < n ∧ (k < first ∨ first + 30 < k)) (hn : n ≤ 65536) : places (logB L) n first = some L := by
  have h0 : num2 (logB L) 0 = 26529 := show 161 + 256 * 103 = 26529 by decide
  have h2 : num2 (logB L) 2 = L.length := by
    show L.length % 256 + 256 * (L.length / 256 % 256) = _
    omega
  have ht := toL_head L (fun k hk => by have := (h k hk).1; omega)
  unfold places
  rw [h0, h2, if_neg (by omega), ht, if_pos]
  rw [List.all_eq_true]
  intro k hk
  have := h k hk
  unfold okTo
  simp
  omega
theorem put_D (s : DSt) (k : Nat) (f : Nat → Nat) : (s.put k f).D = if s.up = true then setBlk s.D k f else s.D := by
  unfold DSt.put
  split <;> rfl

/-! ### Where a disk may stop -/
/-- The log's head and the blocks outside the log. -/
def OldP (first : Nat) (D0 D : Nat → Nat → Nat) : Prop := D first = logB [] ∧ ∀ j, j < first ∨ first + 30 < j → D j = D0 j
def newD (G : Nat → Nat → Nat) (L : List Nat) (D0 : Nat → Nat → Nat) (j : Nat) : Nat → Nat := if j ∈ L then G j else D0 j
/-- The log is written, and says so. -/
def MidP (first : Nat) (G : Nat → Nat → Nat) (L : List Nat) (D0 D : Nat → Nat → Nat) : Prop :=
  D first = logB L ∧ (∀ i, i < L.length → D (first + 1 + i) = G (L.getD i 0)) ∧ ∀ j, j < first ∨ first + 30 < j → j ∉ L → D j = D0 j
/-- What a log may hold. -/
structure OkL (first n : Nat) (L : List Nat) : Prop where
  nodup : L.Nodup
  out : ∀ k ∈ L, k < n ∧ (k < first ∨ first + 30 < k)
  len : L.length ≤ 30
  n : n ≤ 65536
section
variable {first n : Nat} {G D0 : Nat → Nat → Nat} {L : List Nat}
theorem inst_stop (hL : OkL first n L) : ∀ (M : List Nat) (i : Nat) (s : DSt), L.drop i = M → i ≤ L.length → MidP first G L D0 s.D → (∀ a, a < i → s.D (L.getD a 0) = G (L.getD a 0)) →
    MidP first G L D0 (inst first M i s).1.D ∧ ((inst first M i s).2 = 0 → ∀ a, a < L.length → (inst first M i s).1.D (L.getD a 0) = G (L.getD a 0)) ∧ (Alive s → (inst first M i s).2 = 0 ∧ Alive (inst first M i s).1)
  | [], i, s, hd, hi, hm, ha => by
    have hi2 : i = L.length := by
      have := congrArg List.length hd
      simp at this
      omega
    subst hi2
    exact ⟨hm, fun _ => ha, fun h => ⟨rfl, h⟩⟩
  | q :: M, i, s, hd, hi, hm, ha => by
    have hil : i < L.length := by
      have := congrArg List.length hd
      simp at this
      omega
    have hq : L.getD i 0 = q := by
      have := congrArg (fun l => l.head?) hd
      simp at this
      rw [List.getD_eq_getElem?_getD, this]
      rfl
    have hqL : q ∈ L := by
      rw [← hq, List.getD_eq_getElem?_getD, List.getElem?_eq_getElem hil]
      exact List.getElem_mem hil
    have hqo := (hL.out q hqL).2
    have hlen := hL.len
    have hdr : L.drop (i + 1) = M := by
      have := congrArg List.tail hd
      simpa using this
    have hmid : MidP first G L D0 (s.put q (s.D (first + 1 + i))).D := by
      rw [put_D]
      split
      · refine ⟨?_, fun a hal => ?_, fun j hj hjL => ?_⟩
        · unfold setBlk; rw [if_neg (by omega)]; exact hm.1
        · unfold setBlk; rw [if_neg (by omega)]; exact hm.2.1 a hal
        · unfold setBlk; rw [if_neg (fun e : j = q => hjL (e.symm ▸ hqL))]; exact hm.2.2 j hj hjL
      · exact hm
    by_cases hu : s.up = true
    · have e : inst first (q :: M) i s = inst first M (i + 1) (s.put q (s.D (first + 1 + i))) := by
        show (if s.up = true then _ else _) = _
        rw [if_pos hu]
      rw [e]
      have ih := inst_stop hL M (i + 1) (s.put q (s.D (first + 1 + i))) hdr hil hmid (fun a hal => by
        rw [put_D, if_pos hu]
        unfold setBlk
        by_cases hai : L.getD a 0 = q
        · rw [if_pos hai, hm.2.1 i hil, hq, hai]
        · rw [if_neg hai]
          refine ha a ?_
          rcases Nat.lt_or_ge a i with h | h
          · exact h
          · obtain rfl : a = i := by omega
            exact absurd hq hai)
      exact ⟨ih.1, ih.2.1, fun h => ih.2.2 (h.put _ _)⟩
    · have e : inst first (q :: M) i s = (s.put q (s.D (first + 1 + i)), 24) := by
        show (if s.up = true then _ else _) = _
        rw [if_neg hu]
      rw [e]
      exact ⟨hmid, (fun h => by cases h), (fun h => absurd h.up hu)⟩
/-- What install does with a log that is written. -/
theorem install_stop (hL : OkL first n L) (h0 : L ≠ []) (s : DSt) (hm : MidP first G L D0 s.D) :
    (MidP first G L D0 (install first L s).1.D ∨ OldP first (newD G L D0) (install first L s).1.D) ∧ ((install first L s).2 = 0 → OldP first (newD G L D0) (install first L s).1.D) ∧ (Alive s → (install first L s).2 = 0 ∧ Alive (install first L s).1) := by
  obtain ⟨i1, i2, i3⟩ := inst_stop hL L 0 s rfl (Nat.zero_le _) hm (fun a ha => by omega)
  obtain ⟨r, hr⟩ : ∃ r, r = inst first L 0 s := ⟨_, rfl⟩
  have e : install first L s = if r.2 = 0 then (r.1.put first (logB []), r.1.code) else r := by
    unfold install
    rw [if_neg h0, hr]
  rw [← hr] at i1 i2 i3
  rw [e]
  by_cases hr0 : r.2 = 0
  · rw [if_pos hr0]
    have h2 := i2 hr0
    by_cases hu : r.1.up = true
    · have hN : OldP first (newD G L D0) (r.1.put first (logB [])).D := by
        rw [put_D, if_pos hu]
        refine ⟨by unfold setBlk; rw [if_pos rfl], fun j hj => ?_⟩
        unfold setBlk newD
        rw [if_neg (by omega)]
        by_cases hjL : j ∈ L
        · rw [if_pos hjL]
          obtain ⟨a, ha, rfl⟩ := List.getElem_of_mem hjL
          have := h2 a ha
          rw [List.getD_eq_getElem?_getD, List.getElem?_eq_getElem ha] at this
          exact this
        · rw [if_neg hjL]
          exact i1.2.2 j hj hjL
      exact ⟨.inr hN, fun _ => hN, fun h => ⟨if_pos hu, (i3 h).2.put _ _⟩⟩
    · have hD : (r.1.put first (logB [])).D = r.1.D := by rw [put_D, if_neg hu]
      have hc : r.1.code = 24 := if_neg hu
      refine ⟨.inl ?_, fun h => ?_, fun h => absurd (i3 h).2.up hu⟩
      · show MidP first G L D0 (r.1.put first (logB [])).D
        rw [hD]; exact i1
      · have h : r.1.code = 0 := h
        rw [hc] at h
        cases h
  · rw [if_neg hr0]
    exact ⟨.inl i1, fun h => absurd h hr0, fun h => absurd (i3 h).1 hr0⟩
/-- All ways a disk may be. -/
def PhP (first : Nat) (G : Nat → Nat → Nat) (L : List Nat) (D0 D : Nat → Nat → Nat) : Prop := OldP first D0 D ∨ MidP first G L D0 D ∨ OldP first (newD G L D0) D
theorem recov_old (s : DSt) {D1 : Nat → Nat → Nat} (hn : n ≤ 65536) (h : OldP first D1 s.D) : recov first n s = (s, 0, 0) := by
  unfold recov
  rw [h.1, places_head [] n first (by simp) (by simp) hn]
  rfl
theorem recov_stop (hL : OkL first n L) (h0 : L ≠ []) (s : DSt) (h : PhP first G L D0 s.D) :
    PhP first G L D0 (recov first n s).1.D ∧ (Alive s → (recov first n s).2.2 = 0 ∧ Alive (recov first n s).1 ∧ (OldP first D0 (recov first n s).1.D ∨ OldP first (newD G L D0) (recov first n s).1.D) ∧ (OldP first (newD G L D0) s.D → OldP first (newD G L D0) (recov first n s).1.D)) := by
  rcases h with h | h | h
  · rw [recov_old s hL.n h]
    exact ⟨.inl h, fun ha => ⟨rfl, ha, .inl h, fun h => h⟩⟩
  · have e : recov first n s = ((install first L s).1, L.length, (install first L s).2) := by
      unfold recov
      rw [h.1, places_head L n first hL.len hL.out hL.n]
    obtain ⟨i1, i2, i3⟩ := install_stop hL h0 s h
    rw [e]
    exact ⟨.inr i1, fun ha => ⟨(i3 ha).1, (i3 ha).2, .inr (i2 (i3 ha).1), fun _ => i2 (i3 ha).1⟩⟩
  · rw [recov_old s hL.n h]
    exact ⟨.inr (.inr h), fun ha => ⟨rfl, ha, .inr h, fun h => h⟩⟩
theorem logW_stop (hlen : L.length ≤ 30) : ∀ (M : List Nat) (i : Nat) (s : DSt), L.drop i = M → i ≤ L.length → OldP first D0 s.D → (∀ a, a < i → s.D (first + 1 + a) = G (L.getD a 0)) →
    OldP first D0 (logW first G M i s).1.D ∧ ((logW first G M i s).2 = 0 → ∀ a, a < L.length → (logW first G M i s).1.D (first + 1 + a) = G (L.getD a 0))
  | [], i, s, hd, hi, hm, ha => by
    have hi2 : i = L.length := by
      have := congrArg List.length hd
      simp at this
      omega
    subst hi2
    exact ⟨hm, fun _ => ha⟩
  | q :: M, i, s, hd, hi, hm, ha => by
    have hil : i < L.length := by
      have := congrArg List.length hd
      simp at this
      omega
    have hq : L.getD i 0 = q := by
      have := congrArg (fun l => l.head?) hd
      simp at this
      rw [List.getD_eq_getElem?_getD, this]
      rfl
    have hdr : L.drop (i + 1) = M := by
      have := congrArg List.tail hd
      simpa using this
    have hold : OldP first D0 (s.put (first + 1 + i) (G q)).D := by
      rw [put_D]
      split
      · refine ⟨?_, fun j hj => ?_⟩
        · unfold setBlk; rw [if_neg (by omega)]; exact hm.1
        · unfold setBlk; rw [if_neg (by omega)]; exact hm.2 j hj
      · exact hm
    by_cases hu : s.up = true
    · have e : logW first G (q :: M) i s = logW first G M (i + 1) (s.put (first + 1 + i) (G q)) := by
        show (if s.up = true then _ else _) = _
        rw [if_pos hu]
      rw [e]
      exact logW_stop hlen M (i + 1) (s.put (first + 1 + i) (G q)) hdr hil hold (fun a hal => by
        rw [put_D, if_pos hu]
        unfold setBlk
        by_cases hai : a = i
        · rw [if_pos (by omega), hai, hq]
        · rw [if_neg (by omega)]
          exact ha a (by omega))
    · have e : logW first G (q :: M) i s = (s.put (first + 1 + i) (G q), 24) := by
        show (if s.up = true then _ else _) = _
        rw [if_neg hu]
      rw [e]
      exact ⟨hold, fun h => by cases h⟩
/-- A commit, wherever the disk stops. -/
theorem commit_stop (hL : OkL first n L) (h0 : L ≠ []) (s : DSt) (h : OldP first D0 s.D) :
    PhP first G L D0 (commit first G L s).1.D ∧ ((commit first G L s).2.1 = 0 → OldP first (newD G L D0) (commit first G L s).1.D) := by
  obtain ⟨a1, a2⟩ := logW_stop (G := G) hL.len L 0 s rfl (Nat.zero_le _) h (fun a ha => by omega)
  obtain ⟨r, hr⟩ : ∃ r, r = logW first G L 0 s := ⟨_, rfl⟩
  have e : commit first G L s = if r.2 ≠ 0 then (r.1, r.2, false) else
      if r.1.up = true then ((install first L (r.1.put first (logB L))).1, (install first L (r.1.put first (logB L))).2, true) else (r.1.put first (logB L), 24, false) := by
    unfold commit
    rw [if_neg h0, hr]
  rw [← hr] at a1 a2
  rw [e]
  by_cases hr0 : r.2 ≠ 0
  · rw [if_pos hr0]
    exact ⟨.inl a1, fun h => absurd h hr0⟩
  · rw [if_neg hr0]
    have h2 := a2 (by omega)
    by_cases hu : r.1.up = true
    · rw [if_pos hu]
      have hm : MidP first G L D0 (r.1.put first (logB L)).D := by
        rw [put_D, if_pos hu]
        refine ⟨by unfold setBlk; rw [if_pos rfl], fun a ha => ?_, fun j hj _ => ?_⟩
        · unfold setBlk; rw [if_neg (by omega)]; exact h2 a ha
        · unfold setBlk; rw [if_neg (by omega)]; exact a1.2 j hj
      obtain ⟨i1, i2, i3⟩ := install_stop hL h0 _ hm
      exact ⟨.inr i1, i2⟩
    · rw [if_neg hu]
      refine ⟨.inl ?_, fun h => by cases h⟩
      show OldP first D0 (r.1.put first (logB L)).D
      rw [put_D, if_neg hu]
      exact a1
end
end Go.Proofs.Ytonfnlohbgbffaa

set_option linter.unusedVariables false
set_option linter.unusedSimpArgs false
namespace Go.Proofs.Ytonfnlohbgbffaa
open Go.RowKit

section
variable {w w' : World} {gd gb gl gt gm n first : Nat} {F : Int → Option (Nat → Nat)} {bad : Int} {s s' : DSt}
theorem dxArm (h : DXs w gd gb n s) (x : Nat) (hx : x ≤ 1000) :
    Calls Try.prog 57 #[.pointer (some ⟨gd, 0, none⟩), .int .i64 x] w fun e w' => e = .returned (.tuple #[]) ∧ DXs w' gd gb n ⟨s.D, x, s.dead, s.c⟩ ∧ Chg (dset gd gb) w w' := by
  obtain ⟨a, b, hd⟩ := h.dk
  have ha : (Value.int .i64 a) = .int .i64 s.c := Option.some.inj (hd.c3.symm.trans h.cn)
  injection ha with _ ha
  subst ha
  refine (diskArm_ok hd x).mono ?_
  rintro e w' ⟨rfl, h1, h2⟩
  rw [show max (x : Int) (-1) = (x : Int) by omega] at h1
  exact ⟨rfl, ⟨⟨⟨_, _, h1⟩, h.u8, h.n, by show (-1 : Int) ≤ (x : Int); omega, by show (x : Int) ≤ _; omega⟩, h1.c3⟩, h2.chg⟩
theorem dxWake (h : DXs w gd gb n s) :
    Calls Try.prog 58 #[.pointer (some ⟨gd, 0, none⟩)] w fun e w' => e = .returned (.tuple #[]) ∧ DXs w' gd gb n ⟨s.D, -1, false, s.c⟩ ∧ Chg (dset gd gb) w w' := by
  obtain ⟨a, b, hd⟩ := h.dk
  have ha : (Value.int .i64 a) = .int .i64 s.c := Option.some.inj (hd.c3.symm.trans h.cn)
  injection ha with _ ha
  subst ha
  refine (diskWake_ok hd).mono ?_
  rintro e w' ⟨rfl, h1, h2⟩
  exact ⟨rfl, ⟨⟨⟨_, _, h1⟩, h.u8, h.n, by show (-1 : Int) ≤ -1; omega, by show (-1 : Int) ≤ _; omega⟩, h1.c3⟩, h2.chg⟩
end
/-! ### Pages -/
/-- A row of n pages with room behind. -/
structure PgAt (w : World) (g n cap : Nat) (V : Nat → Nat → Nat) : Prop where
  row : ∃ C, w.rowIs g 52 (cap * 64) C ∧ ∀ j, j < n * 64 → C j = diskC V j
  le : n ≤ cap
  cap : cap ≤ maxLen
section
variable {w w' : World} {g n cap : Nat} {V : Nat → Nat → Nat}
theorem PgAt.lt (h : PgAt w g n cap V) : g < w.heap.size := by
  obtain ⟨C, h1, _⟩ := h.row
  exact h1.lt
theorem PgAt.keep (h : PgAt w g n cap V) (hb : Below w.heap.size w w') : PgAt w' g n cap V := by
  obtain ⟨C, h1, h2⟩ := h.row
  exact ⟨⟨C, rowIs_below h1 hb, h2⟩, h.le, h.cap⟩
theorem PgAt.chg {S : Nat → Prop} (h : PgAt w g n cap V) (c : Chg S w w') (hS : ¬ S g) : PgAt w' g n cap V := by
  obtain ⟨C, h1, h2⟩ := h.row
  exact ⟨⟨C, c.row h1 hS, h2⟩, h.le, h.cap⟩
theorem PgAt.one (h : PgAt w g n cap V) {x : Nat} (o : One w w' (some x)) (hx : g ≠ x) : PgAt w' g n cap V := by
  obtain ⟨C, h1, h2⟩ := h.row
  exact ⟨⟨C, rowIs_one h1 o hx, h2⟩, h.le, h.cap⟩
theorem PgAt.sr (h : PgAt w g n cap V) : SR w (.slice (some ⟨g, 0, none⟩) n cap) n 64 (pgsV n V) := by
  obtain ⟨C, h1, h2⟩ := h.row
  have hl := h.le
  refine ⟨pgsV_len _ _, .inr ⟨_, cap, rfl, h.le, h.cap, fun _ => ⟨rfl, h1.lt, fun i hi => ?_⟩⟩⟩
  show w.cell? ⟨g, 0 + i, none⟩ = _
  rw [Nat.zero_add, h1.cell (by omega), h2 i hi, pgsV_get _ _ _ hi]
theorem PgAt.ofOwn {base : Nat} {v : Value} (h : w.ownsRow base 52 64 v n (pgsV n V)) (h0 : 0 < n) : ∃ g cap, v = .slice (some ⟨g, 0, none⟩) n cap ∧ base ≤ g ∧ PgAt w g n cap V := by
  rcases h.2 with ⟨_, h⟩ | ⟨gb, cap, cur, hv, hb, hg, h1, h2, h3, h4⟩
  · omega
  refine ⟨gb, cap, hv, hb, ⟨⟨fun i => cur.toList.getD i undef, ⟨cur, hg, h3, fun i hi => by simp [List.getD_eq_getElem?_getD, h3, hi]⟩, fun j hj => ?_⟩, h1, h2⟩⟩
  have h5 := pgsV_get n V j hj
  rw [← h4, List.getElem?_take_of_lt hj] at h5
  show cur.toList.getD j undef = _
  rw [List.getD_eq_getElem?_getD, h5]
  rfl
/-- From one on. -/
theorem PgAt.from (h : PgAt w g n cap V) (k : Nat) (hk : k < n) : SR w (.slice (some ⟨g, k * 64, none⟩) (n - k) (cap - k)) (n - k) 64 (pgsV (n - k) fun j => V (k + j)) := by
  obtain ⟨C, h1, h2⟩ := h.row
  have hl := h.le
  have hc := h.cap
  refine ⟨pgsV_len _ _, .inr ⟨_, cap - k, rfl, by omega, by omega, fun _ => ⟨rfl, h1.lt, fun i hi => ?_⟩⟩⟩
  show w.cell? ⟨g, k * 64 + i, none⟩ = _
  rw [h1.cell (by omega), h2 _ (by omega), pgsV_get _ _ _ hi]
  unfold diskC
  rw [show (k * 64 + i) / 64 = k + i / 64 by omega, show (k * 64 + i) % 64 = i % 64 by omega]
/-- The first ones. -/
theorem PgAt.first (h : PgAt w g n cap V) (m : Nat) (hm : m ≤ n) : SR w (.slice (some ⟨g, 0, none⟩) m cap) m 64 (pgsV m V) := by
  obtain ⟨C, h1, h2⟩ := h.row
  have hl := h.le
  refine ⟨pgsV_len _ _, .inr ⟨_, cap, rfl, by omega, h.cap, fun _ => ⟨rfl, h1.lt, fun i hi => ?_⟩⟩⟩
  show w.cell? ⟨g, 0 + i, none⟩ = _
  rw [Nat.zero_add, h1.cell (by omega), h2 i (by omega), pgsV_get _ _ _ hi]
/-- One is stored. -/
theorem wpList_pg_store {ops : Array Oper} {Q : Exit → Act → World → Prop} {a : Act} {rest : List Oper} {o : Oper} (hg : o.guard = none) (x y : Operand) (ho : o.op = .store 52 x y) (hd : o.dst = none)
    (k : Nat) (f : Nat → Nat) (hx : a.eval x = .pointer (some ⟨g, k * 64, none⟩)) (hy : a.eval y = .agg (rowArr 64 (pgC f))) (h : PgAt w g n cap V) (hk : k < n)
    (hn : ∀ w', PgAt w' g n cap (setBlk V k f) → One w w' (some g) → wpList Try.prog ops Q rest a w') : wpList Try.prog ops Q (o :: rest) a w := by
  obtain ⟨C, h1, h2⟩ := h.row
  have hl := h.le
  refine wpList_store_pieceTo hg 52 x y ho hd g (k * 64) (rowArr 64 (pgC f)) hx hy (by rw [rowArr_size]; exact block_size) (fun j hj => by rw [rowArr_size] at hj; rw [h1.cell (by omega)]; rfl) (fun j _ => h1.frozen _) (pgC_one f) (fun w' hw' => ?_)
  refine hn w' ⟨⟨fun j => if k * 64 ≤ j ∧ j < k * 64 + 64 then pgC f (j - k * 64) else C j, by rw [hw']; exact rowIs_piece (m := 64) (off := k * 64) (h := pgC f) h1, fun j hj => ?_⟩, h.le, h.cap⟩ (by rw [hw']; exact one_setCells w g _ _)
  show (if k * 64 ≤ j ∧ j < k * 64 + 64 then pgC f (j - k * 64) else C j) = Value.int .u8 (((if j / 64 = k then f else V (j / 64)) (j % 64) : Nat) : Int)
  by_cases hj2 : k * 64 ≤ j ∧ j < k * 64 + 64
  · rw [if_pos hj2, if_pos (show j / 64 = k by omega), show j % 64 = j - k * 64 by omega]
    rfl
  · rw [if_neg hj2, if_neg (show ¬ j / 64 = k by omega), h2 j hj]
    rfl
end
/-- A byte of an argument. -/
theorem SI.u8At {w : World} {A : Option Addr} {m c : Nat} {zs : List Int} (h : SI w .u8 (.slice A m c) zs) (k : Nat) (hk : k < zs.length) :
    ∃ g off z, A = some ⟨g, off, none⟩ ∧ z ≤ 255 ∧ ∀ w', Below w.heap.size w w' → w'.cell? ⟨g, off + k, none⟩ = some (.int .u8 ((z : Nat) : Int)) := by
  rcases h.cases with ⟨h0, _⟩ | ⟨_, gz, off, cz, hs, _, _, hg, hc⟩
  · rw [h0] at hk; simp at hk
  injection hs with e1 _ _
  have hwf := wf_u8 (h.wf (zs.getD k 0) (by rw [List.getD_eq_getElem?_getD, List.getElem?_eq_getElem hk]; exact List.getElem_mem hk))
  refine ⟨gz, off, (zs.getD k 0).toNat, e1, by omega, fun w' hb => ?_⟩
  rw [World.cell?_of_block (hb.block gz hg), hc k hk, Int.toNat_of_nonneg hwf.1]
/-! ### The plain law -/
theorem newD_nil (G D0 : Nat → Nat → Nat) : newD G [] D0 = D0 := by
  funext j
  unfold newD
  rw [if_neg (by simp)]
theorem PhP.nil {first : Nat} {G D0 D : Nat → Nat → Nat} (h : PhP first G [] D0 D) : OldP first D0 D := by
  rcases h with h | h | h
  · exact h
  · exact ⟨h.1, fun j hj => h.2.2 j hj (by simp)⟩
  · rw [newD_nil] at h
    exact h
theorem recov_ph {first n : Nat} {G D0 : Nat → Nat → Nat} {L : List Nat} (hL : OkL first n L) (s : DSt) (h : PhP first G L D0 s.D) :
    PhP first G L D0 (recov first n s).1.D ∧ (OldP first (newD G L D0) s.D → OldP first (newD G L D0) (recov first n s).1.D) ∧ (Alive s → (recov first n s).2.2 = 0 ∧ Alive (recov first n s).1 ∧ (OldP first D0 (recov first n s).1.D ∨ OldP first (newD G L D0) (recov first n s).1.D)) := by
  have hk : OldP first (newD G L D0) s.D → OldP first (newD G L D0) (recov first n s).1.D := fun h => by
    rw [recov_old s hL.n h]
    exact h
  by_cases h0 : L = []
  · subst h0
    have h1 := h.nil
    rw [recov_old s hL.n h1]
    exact ⟨h, (fun h => h), (fun ha => ⟨rfl, ha, .inl h1⟩)⟩
  · obtain ⟨r1, r2⟩ := recov_stop hL h0 s h
    exact ⟨r1, hk, (fun ha => ⟨(r2 ha).1, (r2 ha).2.1, (r2 ha).2.2.1⟩)⟩
theorem commit_ph {first n : Nat} {G D0 : Nat → Nat → Nat} {L : List Nat} (hL : OkL first n L) (s : DSt) (h : OldP first D0 s.D) :
    PhP first G L D0 (commit first G L s).1.D ∧ ((commit first G L s).2.1 = 0 → OldP first (newD G L D0) (commit first G L s).1.D) := by
  by_cases h0 : L = []
  · subst h0
    have e : commit first G [] s = (s, 0, false) := if_pos rfl
    rw [e, newD_nil]
    exact ⟨.inl h, fun _ => h⟩
  · exact commit_stop hL h0 s h
theorem viewB_next (F : Int → Option (Nat → Nat)) (D : Nat → Nat → Nat) (k : Nat) (f : Nat → Nat) : setBlk (viewB F D) k f = viewB (putF F (k : Int) f) D := by
  funext j
  unfold setBlk viewB putF
  by_cases h : j = k
  · rw [if_pos h, if_pos (by omega)]
    rfl
  · rw [if_neg h, if_neg (by omega)]
theorem viewB_none (D : Nat → Nat → Nat) : viewB (fun _ => none) D = D := rfl
theorem newD_view {F : Int → Option (Nat → Nat)} {L : List Nat} (hk : KeysOf F L) (D : Nat → Nat → Nat) : newD (pageG F) L D = viewB F D := by
  funext j
  unfold newD viewB pageG
  by_cases h : j ∈ L
  · rw [if_pos h]
    have := hk.yes j h
    cases hf : F (j : Nat) with
    | none => exact absurd hf this
    | some f => rfl
  · rw [if_neg h]
    cases hf : F (j : Nat) with
    | none => rfl
    | some f =>
      obtain ⟨k, hk1, hk2⟩ := hk.all (j : Nat) (by rw [hf]; simp)
      obtain rfl : j = k := by omega
      exact absurd hk1 h
end Go.Proofs.Ytonfnlohbgbffaa

set_option linter.unusedVariables false
set_option linter.unusedSimpArgs false
namespace Go.Proofs.Ytonfnlohbgbffaa
open Go.RowKit

def txR (gn : Nat) (vA vB : Value) (c : Int) : Nat → Value
  | 0 => .pointer (some ⟨gn, 0, none⟩)
  | 1 => vA
  | 2 => vB
  | _ => .int .i64 c
/-- The document's transaction. -/
structure RT (w : World) (gr gq gn gx base n first : Nat) (F : Int → Option (Nat → Nat)) (L : List Nat) (bad : Int) (s : DSt) : Prop where
  rl : RL w gr gq gn n first s
  tx : ∃ vA vB, w.rowIs gx 121 4 (txR gn vA vB bad) ∧ OwnN w base vA L ∧ OwnP w base vB L.length (fun i => pageG F (L.getD i 0))
  lt : (gr < base ∧ gq < base ∧ gn < base ∧ gx < base) ∧ base ≤ w.heap.size
  keys : KeysOf F L
  len : L.length ≤ 30
  ok : ∀ k f, F k = some f → (∀ i, f i ≤ 255) ∧ 0 ≤ k ∧ k < n ∧ ¬ (first ≤ k ∧ k ≤ first + 30)
section
variable {w w' : World} {gr gq gn gx base n first : Nat} {F : Int → Option (Nat → Nat)} {L : List Nat} {bad : Int} {s s' : DSt}
theorem RT.ne (h : RT w gr gq gn gx base n first F L bad s) : gx ≠ gr ∧ gx ≠ gq ∧ gx ≠ gn := by
  obtain ⟨vA, vB, h1, _⟩ := h.tx
  have := h.rl.dx.ne h1 (by decide) (by decide)
  exact ⟨this.1, this.2, rowIs_ne h1 h.rl.lg (by decide)⟩
theorem RT.keep (h : RT w gr gq gn gx base n first F L bad s) (hb : Below w.heap.size w w') : RT w' gr gq gn gx base n first F L bad s := by
  obtain ⟨vA, vB, h1, h2, h3⟩ := h.tx
  exact ⟨h.rl.keep hb, ⟨vA, vB, rowIs_below h1 hb, h2.keep hb, h3.keep hb⟩, ⟨h.lt.1, Nat.le_trans h.lt.2 hb.size⟩, h.keys, h.len, h.ok⟩
theorem RT.chg (h : RT w gr gq gn gx base n first F L bad s) {S : Nat → Prop} (c : Chg S w w') (hS : ∀ k, S k → k < base ∧ k ≠ gr ∧ k ≠ gq ∧ k ≠ gn ∧ k ≠ gx) : RT w' gr gq gn gx base n first F L bad s := by
  obtain ⟨vA, vB, h1, h2, h3⟩ := h.tx
  refine ⟨h.rl.chg c (fun e => (hS _ e).2.1 rfl) (fun e => (hS _ e).2.2.1 rfl) (fun e => (hS _ e).2.2.2.1 rfl), ⟨vA, vB, c.row h1 (fun e => (hS _ e).2.2.2.2 rfl), h2.chg c (fun k hk e => by have := (hS k e).1; omega), h3.chg c (fun k hk e => by have := (hS k e).1; omega)⟩, ⟨h.lt.1, Nat.le_trans h.lt.2 c.size⟩, h.keys, h.len, h.ok⟩
/-- The disk alone turns. -/
theorem RT.setD (h : RT w gr gq gn gx base n first F L bad s) (c : Chg (dset gr gq) w w') (hd : RX w' gr gq n s') : RT w' gr gq gn gx base n first F L bad s' := by
  obtain ⟨vA, vB, h1, h2, h3⟩ := h.tx
  have hn := h.ne
  have hl := h.lt.1
  refine ⟨h.rl.setD c hd, ⟨vA, vB, c.row h1 (fun e => by rcases e with e | e; exact hn.1 e; exact hn.2.1 e), h2.chg c (fun k hk e => by rcases e with e | e <;> omega), h3.chg c (fun k hk e => by rcases e with e | e <;> omega)⟩, ⟨h.lt.1, Nat.le_trans h.lt.2 c.size⟩, h.keys, h.len, h.ok⟩
theorem RT.lts (h : RT w gr gq gn gx base n first F L bad s) : ∀ k ∈ L, k < n ∧ (k < first ∨ first + 30 < k) := fun k hk => by
  have h1 := h.keys.yes k hk
  cases hf : F (k : Nat) with
  | none => exact absurd hf h1
  | some f =>
    have := h.ok _ f hf
    omega
theorem RT.u8 (h : RT w gr gq gn gx base n first F L bad s) (k i : Nat) : pageG F k i ≤ 255 := by
  unfold pageG
  cases hf : F (k : Nat) with
  | none => simp
  | some f => exact (h.ok _ f hf).1 i
theorem OwnN.ints {v : Value} (h : OwnN w base v L) (hL : ∀ k ∈ L, k < 65536) : SI w .i64 v (natInts L) := h.si (fun c hc => by have := hL c hc; omega)
def FindP (L : List Nat) (z r : Int) : Prop := (∃ i, i < L.length ∧ r = (i : Int) ∧ ((L.getD i 0 : Nat) : Int) = z) ∨ (r = -1 ∧ ∀ i, i < L.length → ((L.getD i 0 : Nat) : Int) ≠ z)
theorem FindP.none {z r : Int} (h : FindP L z r) (hr : r = -1) : ∀ k ∈ L, ((k : Nat) : Int) ≠ z := by
  rcases h with ⟨i, _, h2, _⟩ | ⟨_, h⟩
  · omega
  · intro k hk
    obtain ⟨i, hi, rfl⟩ := List.getElem_of_mem hk
    have := h i hi
    rwa [List.getD_eq_getElem?_getD, List.getElem?_eq_getElem hi] at this
set_option maxRecDepth 20000 in
set_option maxHeartbeats 2000000 in
theorem refFind_in (h : RT w gr gq gn gx base n first F L bad s) (z : Int) :
    Calls Try.prog 86 #[.pointer (some ⟨gx, 0, none⟩), .int .i64 z] w fun e w' => ∃ r : Int, e = .returned (.int .i64 r) ∧ FindP L z r ∧ w' = w := by
  have hn := h.rl.dx.n
  obtain ⟨vA, vB, h1, h2, h3⟩ := h.tx
  obtain ⟨A, c, hform⟩ := h2.form
  subst hform
  have c1 : w.cell? ⟨gx, 1, none⟩ = some (.slice A L.length c) := h1.cell (i := 1) (by omega)
  have h30 := h.len
  have HSI := Lib.hid (h2.ints (fun k hk => by have := (h.lts k hk).1; omega))
  clear h h1 h2 h3
  go_enter Try.func86, Try.ntmps86
  go_wp2_with fail
  go_loopw [5] (fun r wx => ∃ i : Nat, i ≤ L.length ∧ r = .int .i64 i ∧ wx = w ∧ ∀ j, j < i → ((L.getD j 0 : Nat) : Int) ≠ z) (fun r _ => L.length - (intOf r).toNat)
  case atStart => exact ⟨0, by omega, rfl, rfl, fun j hj => by omega⟩
  case round =>
    obtain ⟨i, hi, rfl, rfl, hno⟩ := hrel
    have HNO := Lib.hid hno
    clear hno
    by_cases hil : i < L.length
    · have g1 : (i : Int) < L.length := by omega
      obtain ⟨x, hx⟩ : ∃ x, x = L.getD i 0 := ⟨_, rfl⟩
      obtain ⟨g0, off, hA, hcz⟩ : ∃ g0 off, A = some ⟨g0, off, none⟩ ∧ wr.cell? ⟨g0, off + i, none⟩ = some (.int .i64 x) := by
        rcases HSI.out.cases with ⟨h, _⟩ | ⟨_, g0, off, c1, hs, _, _, hg, hc⟩
        · have := natInts_len L
          rw [h] at this; simp at this; omega
        have hcz := hc i (by rw [natInts_len]; exact hil)
        injection hs with e1 e2 e3
        refine ⟨g0, off, e1, ?_⟩
        rw [hcz, hx]
        unfold natInts
        simp [List.getD_eq_getElem?_getD, List.getElem?_eq_getElem hil]
      subst hA
      have HXX := Lib.hid hx
      clear hx
      by_cases hxz : (x : Int) = z
      · have k1 : ((x : Int) == z) = true := by rw [beq_iff_eq]; exact hxz
        have HF := Lib.hid (show FindP L z i from .inl ⟨i, hil, rfl, by rw [← HXX.out]; exact hxz⟩)
        clear hxz
        go_wp2_with fail
        go_ret
        exact ⟨_, rfl, HF.out, rfl⟩
      · have k1 : ((x : Int) == z) = false := by rw [beq_eq_false_iff_ne]; exact hxz
        have HNX := Lib.hid (show ∀ j, j < i + 1 → ((L.getD j 0 : Nat) : Int) ≠ z from fun j hj => by
          rcases Nat.lt_or_ge j i with h | h
          · exact HNO.out j h
          · obtain rfl : j = i := by omega
            rw [← HXX.out]
            exact hxz)
        clear hxz
        go_wp2_with fail
        go_roundw
        case rel => exact ⟨i + 1, by omega, by go_num, by trivial, HNX.out⟩
        case measure => simp [intOf]; omega
    · obtain rfl : i = L.length := by omega
      have HF := Lib.hid (show FindP L z (-1) from .inr ⟨rfl, HNO.out⟩)
      go_wp2_with fail
      go_ret
      exact ⟨_, rfl, HF.out, rfl⟩
set_option maxRecDepth 20000 in
set_option maxHeartbeats 2000000 in
theorem refDrop_in (h : RT w gr gq gn gx base n first F L bad s) :
    Calls Try.prog 61 #[.pointer (some ⟨gx, 0, none⟩)] w fun e w' => e = .returned (.tuple #[]) ∧ RT w' gr gq gn gx base n first (fun _ => none) [] 0 s ∧ One w w' (some gx) := by
  obtain ⟨vA, vB, h1, h2, h3⟩ := h.tx
  have H := Lib.hid h
  have H1 := Lib.hid h1
  have c1 := h1.cell (i := 1) (by omega)
  have c2 := h1.cell (i := 2) (by omega)
  have c3 := h1.cell (i := 3) (by omega)
  have df := h1.frozen
  clear h h1 h2 h3
  go_enter Try.func61, Try.ntmps61
  go_wp2_with fail
  go_end0
  have o : One w (((w.setCell ⟨gx, 1, none⟩ (.slice none 0 0)).setCell ⟨gx, 2, none⟩ (.slice none 0 0)).setCell ⟨gx, 3, none⟩ (.int .i64 0)) (some gx) := ((one_setCell _ gx 1 _).trans (one_setCell _ gx 2 _)).trans (one_setCell _ gx 3 _)
  have hn := H.out.ne
  refine ⟨rfl, ⟨H.out.rl.one o hn, ⟨.slice none 0 0, .slice none 0 0, ?_, OwnN.nil _ _, OwnP.nil _ _ _⟩, ⟨H.out.lt.1, Nat.le_trans H.out.lt.2 o.size⟩, ⟨List.Pairwise.nil, (fun k hk => by cases hk), (fun x hx => absurd rfl hx)⟩, by simp, (fun k f hf => by cases hf)⟩, o⟩
  refine (((H1.out.set 1 _).set 2 _).set 3 _).congr (fun i hi => ?_)
  have h4 : i = 0 ∨ i = 1 ∨ i = 2 ∨ i = 3 := by omega
  rcases h4 with rfl | rfl | rfl | rfl <;> rfl
end
end Go.Proofs.Ytonfnlohbgbffaa

set_option linter.unusedVariables false
set_option linter.unusedSimpArgs false
namespace Go.Proofs.Ytonfnlohbgbffaa
open Go.RowKit

theorem PgAt.piece {w : World} {g n cap : Nat} {V : Nat → Nat → Nat} (h : PgAt w g n cap V) (k : Nat) (hk : k < n) : ∀ j v, (rowArr 64 (pgC (V k))).toList[j]? = some v → w.cell? ⟨g, k * 64 + j, none⟩ = some v := fun j v hv => by
  obtain ⟨hj, rfl⟩ := rowArr_get _ _ _ _ hv
  obtain ⟨C, h1, h2⟩ := h.row
  have hl := h.le
  rw [h1.cell (by omega), h2 _ (by omega)]
  unfold diskC pgC
  rw [show (k * 64 + j) / 64 = k by omega, show (k * 64 + j) % 64 = j by omega]
/-- What Get answers. -/
def getV (F : Int → Option (Nat → Nat)) (D : Nat → Nat → Nat) (n : Nat) (z : Int) : (Nat → Nat) × Int := match F z with
  | some f => (f, 0)
  | none => if 0 ≤ z ∧ z < n then (D z.toNat, 0) else (fun _ => 0, 27)
section
variable {w w' : World} {gr gq gn gx base n first : Nat} {F : Int → Option (Nat → Nat)} {L : List Nat} {bad : Int} {s s' : DSt}
set_option maxRecDepth 10000 in
set_option maxHeartbeats 1000000 in
theorem rxGet_no (h : RX w gr gq n s) (x : Int) (hx : x < 0 ∨ (n : Int) ≤ x) :
    Calls Try.prog 82 #[.pointer (some ⟨gr, 0, none⟩), .int .i64 x] w fun e w' => e = .returned (.tuple #[pageV (fun _ => 0), .int .i64 27]) ∧ Below w.heap.size w w' := by
  obtain ⟨ex, hex, hc0⟩ := h.c0
  have HC := Lib.hid hc0
  by_cases h0 : x < 0
  all_goals
    have hx2 : ¬ x < 0 → (n : Int) ≤ x := fun _ => by omega
    try have hx2 : (n : Int) ≤ x := hx2 h0
    clear hx h hc0
    go_enter Try.func82, Try.ntmps82
    go_wp2_with (first
      | (refine wpList_new_row rfl 52 rfl (some 4) rfl 64 _ page_zero ?_; intro w1 G hG hr1 hb1; have HR := Lib.hid hr1; have HB := Lib.hid hb1; have c0 := HC.out _ hb1; clear hr1 hb1)
      | (refine wpList_buildTo rfl 52 _ rfl (some 17) rfl (rowArr 64 (pgC fun _ => 0)) (by kernel_rfl) ?_)
      | (refine wpList_row_store rfl 52 (.tmp 4) (.tmp 17) rfl rfl G 64 _ (pgC fun _ => 0) (by go_simp) (by go_simp) HR.out (fun _ _ => rfl) block_size ?_; intro w2 hr2 o2; have HR2 := Lib.hid hr2; have HO := Lib.hid o2; clear hr2 o2))
    have hrun := run_load_row (P := Try.prog) HR2.out _ block_under rfl block_size
    exact bodyPost_ret (v := .tuple #[pageV fun _ => 0, .int .i64 27]) (by simp [results, Try.results82, Act.put, asAddr, hrun, pageV_eq]) rfl ⟨rfl, bone HB.out HO.out hG HB.out.size⟩
theorem rxGet_any (h : RX w gr gq n s) (z : Int) :
    Calls Try.prog 82 #[.pointer (some ⟨gr, 0, none⟩), .int .i64 z] w fun e w' => e = .returned (.tuple #[pageV (getV (fun _ => none) s.D n z).1, .int .i64 (getV (fun _ => none) s.D n z).2]) ∧ RX w' gr gq n s ∧ Chg (dset gr gq) w w' := by
  unfold getV
  by_cases hz : 0 ≤ z ∧ z < n
  · obtain ⟨k, rfl⟩ : ∃ k : Nat, z = (k : Int) := ⟨z.toNat, by omega⟩
    simp only [if_pos hz]
    rw [show ((k : Int)).toNat = k from rfl]
    exact rxGet h k (by omega)
  · simp only [if_neg hz]
    refine (rxGet_no h z (by omega)).mono ?_
    rintro e w' ⟨rfl, hb⟩
    exact ⟨rfl, h.keep hb, Chg.of_below _ hb⟩
set_option maxRecDepth 20000 in
set_option maxHeartbeats 2000000 in
theorem refGet_in (h : RT w gr gq gn gx base n first F L bad s) (z : Int) :
    Calls Try.prog 59 #[.pointer (some ⟨gx, 0, none⟩), .int .i64 z] w fun e w' => e = .returned (.tuple #[pageV (getV F s.D n z).1, .int .i64 (getV F s.D n z).2]) ∧ RT w' gr gq gn gx base n first F L bad s ∧ Chg (dset gr gq) w w' := by
  have h30 := h.len
  have H := Lib.hid h
  clear h
  go_enter Try.func59, Try.ntmps59
  go_wp2_with (first
    | (refine wpList_new_row rfl 52 rfl (some 4) rfl 64 _ page_zero ?_; intro w1 G hG hr1 hb1; have HG := Lib.hid hG; have HR1 := Lib.hid hr1; have HB1 := Lib.hid hb1; have H1 := Lib.hid (H.out.keep hb1); clear hr1 hb1 hG))
  refine (refFind_in H1.out z).mono ?_
  rintro e w2 ⟨r, rfl, hfp, rfl⟩
  obtain ⟨vA, vB, t1, t2, t3⟩ := H1.out.tx
  obtain ⟨B, cB, hform⟩ := t3.form
  subst hform
  rcases hfp with ⟨i, hi, rfl, hiz⟩ | ⟨rfl, hno⟩
  · obtain ⟨g, cap, hv, hbg, hp⟩ := PgAt.ofOwn t3 (by omega)
    injection hv with e1 _ e3
    subst e1
    subst e3
    obtain ⟨k, hk⟩ : ∃ k, k = L.getD i 0 := ⟨_, rfl⟩
    rw [← hk] at hiz
    have hkL : k ∈ L := by
      rw [hk, List.getD_eq_getElem?_getD, List.getElem?_eq_getElem hi]
      exact List.getElem_mem hi
    have hgv : getV F s.D n z = (pageG F k, 0) := by
      have h1 := H1.out.keys.yes k hkL
      unfold getV pageG
      rw [← hiz]
      cases hf : F (k : Nat) with
      | none => exact absurd hf h1
      | some f => rfl
    have HGV := Lib.hid hgv
    have HPC := Lib.hid (show ∀ j v, (rowArr 64 (pgC (pageG F k))).toList[j]? = some v → w2.cell? ⟨g, i * 64 + j, none⟩ = some v from by
      have := hp.piece i hi
      rw [← hk] at this
      exact this)
    have c2 : w2.cell? ⟨gx, 2, none⟩ = some (.slice (some ⟨g, 0, none⟩) L.length cB) := t1.cell (i := 2) (by omega)
    have g0 : decide ((i : Int) < 0) = false := by rw [decide_eq_false_iff_not]; omega
    have g1 : (i : Int) < L.length := by omega
    obtain ⟨f, hf⟩ : ∃ f, f = pageG F k := ⟨_, rfl⟩
    rw [← hf] at HGV HPC
    clear t1 t2 t3 hp hbg hiz hkL hgv hk hf
    go_wp2_with (first
      | (refine wpList_load_pieceTo rfl 52 (.tmp 17) rfl (some 18) rfl g (i * 64) (by go_simp) (rowArr 64 (pgC f)) _ HPC.out block_under rfl (by rw [rowArr_size]; exact block_size) ?_)
      | (refine wpList_row_store rfl 52 (.tmp 4) (.tmp 18) rfl rfl G 64 _ (pgC f) (by go_simp) (by go_simp) HR1.out (fun _ _ => rfl) block_size ?_; intro w3 hr3 o3; have HR3 := Lib.hid hr3; have HB3 := Lib.hid (bone HB1.out o3 HG.out HB1.out.size); clear hr3 o3))
    have hrun := run_load_row (P := Try.prog) HR3.out _ block_under rfl block_size
    rw [HGV.out]
    exact bodyPost_ret (v := .tuple #[pageV f, .int .i64 0]) (by simp [results, Try.results59, Act.put, asAddr, hrun, pageV_eq]) rfl ⟨rfl, H.out.keep HB3.out, Chg.of_below _ HB3.out⟩
  · have hF : F z = none := by
      cases hf : F z with
      | none => rfl
      | some f =>
        obtain ⟨k, hk1, hk2⟩ := H1.out.keys.all z (by rw [hf]; simp)
        obtain ⟨i, hi, rfl⟩ := List.getElem_of_mem hk1
        have := hno i hi
        rw [List.getD_eq_getElem?_getD, List.getElem?_eq_getElem hi] at this
        exact absurd hk2.symm this
    have hgv : getV F s.D n z = getV (fun _ => none) s.D n z := by
      unfold getV
      rw [hF]
    have HGV := Lib.hid hgv
    have l0 := t1.cell (i := 0) (by omega)
    have l1 := H1.out.rl.c0
    have c0 : w2.cell? ⟨gx, 0, none⟩ = some (.pointer (some ⟨gn, 0, none⟩)) := l0
    clear t1 t2 t3 hno hF hgv l0
    go_wp2_with fail
    obtain ⟨V, hV⟩ : ∃ V, V = getV (fun _ => none) s.D n z := ⟨_, rfl⟩
    have hrd := rxGet_any H1.out.rl.dx z
    rw [← hV] at HGV hrd
    obtain ⟨f, c⟩ := V
    clear hV
    refine hrd.mono ?_
    rintro e w3 ⟨rfl, hd3, hc3⟩
    clear hrd
    have H3 := Lib.hid (H1.out.setD hc3 hd3)
    have HR3 := Lib.hid (hc3.row HR1.out (fun e => by have h1 := H.out.rl.lt; have h2 := HG.out; rcases e with e | e <;> omega))
    have HC3 := Lib.hid (show Chg (dset gr gq) w w3 from (Chg.of_below _ HB1.out).trans hc3 (fun _ _ h => h))
    clear hd3 hc3
    go_wp2_with (first
      | (refine wpList_row_store rfl 52 (.tmp 4) (.tmp 28) rfl rfl G 64 _ (pgC f) (by go_simp) (by go_simp; try rfl) HR3.out (fun _ _ => rfl) block_size ?_; intro w4 hr4 o4; have HR4 := Lib.hid hr4; have HC4 := Lib.hid (HC3.out.one o4 (.inr HG.out)); have H4 := Lib.hid (H.out.setD HC4.out (H3.out.rl.dx.one o4 (by have h1 := H.out.rl.lt; have h2 := HG.out; omega) (by have h1 := H.out.rl.lt; have h2 := HG.out; omega))); clear hr4 o4))
    have hrun := run_load_row (P := Try.prog) HR4.out _ block_under rfl block_size
    rw [HGV.out]
    exact bodyPost_ret (v := .tuple #[pageV f, .int .i64 c]) (by simp [results, Try.results59, Act.put, asAddr, hrun, pageV_eq]) rfl ⟨rfl, H4.out, HC4.out⟩
end
end Go.Proofs.Ytonfnlohbgbffaa

set_option linter.unusedVariables false
set_option linter.unusedSimpArgs false
namespace Go.Proofs.Ytonfnlohbgbffaa
open Go.RowKit

def dropF (b : Bool) (F : Int → Option (Nat → Nat)) : Int → Option (Nat → Nat) := match b with | true => fun _ => none | false => F
def dropL (b : Bool) (L : List Nat) : List Nat := match b with | true => [] | false => L
def rset (gr gq gx k : Nat) : Prop := dset gr gq k ∨ k = gx
theorem Chg.mono' {S S' : Nat → Prop} {w w' : World} (c : Chg S w w') (h : ∀ k, S k → S' k) : Chg S' w w' := ⟨c.os, c.tape, c.output, c.size, fun k hk hS => c.block k hk (fun e => hS (h k e))⟩
section
variable {w w' : World} {gr gq gn gx base n first : Nat} {F : Int → Option (Nat → Nat)} {L : List Nat} {bad : Int} {s s' : DSt}
/-- Its cells while the disk turns. -/
structure RTc (w : World) (gr gq gn gx base : Nat) (L : List Nat) (first : Nat) (G : Nat → Nat → Nat) (bad : Int) (A : Option Addr) (cA : Nat) (B : Option Addr) (cB : Nat) : Prop where
  x0 : ∀ w', Chg (dset gr gq) w w' → w'.cell? ⟨gx, 0, none⟩ = some (.pointer (some ⟨gn, 0, none⟩))
  x1 : ∀ w', Chg (dset gr gq) w w' → w'.cell? ⟨gx, 1, none⟩ = some (.slice A L.length cA)
  x2 : ∀ w', Chg (dset gr gq) w w' → w'.cell? ⟨gx, 2, none⟩ = some (.slice B L.length cB)
  x3 : ∀ w', Chg (dset gr gq) w w' → w'.cell? ⟨gx, 3, none⟩ = some (.int .i64 bad)
  n0 : ∀ w', Chg (dset gr gq) w w' → w'.cell? ⟨gn, 0, none⟩ = some (.pointer (some ⟨gr, 0, none⟩))
  n1 : ∀ w', Chg (dset gr gq) w w' → w'.cell? ⟨gn, 1, none⟩ = some (.int .i64 first)
  a : SI w .i64 (.slice A L.length cA) (natInts L)
  ao : ∀ x, (Value.slice A L.length cA).ownBlock = some x → base ≤ x
  b : 0 < L.length → ∃ g, B = some ⟨g, 0, none⟩ ∧ ∀ i, i < L.length → ∀ w', Chg (dset gr gq) w w' → ∀ j v, (rowArr 64 (pgC (G (L.getD i 0)))).toList[j]? = some v → w'.cell? ⟨g, i * 64 + j, none⟩ = some v
theorem RT.cells (h : RT w gr gq gn gx base n first F L bad s) : ∃ A cA B cB, RTc w gr gq gn gx base L first (pageG F) bad A cA B cB := by
  obtain ⟨vA, vB, h1, h2, h3⟩ := h.tx
  obtain ⟨A, cA, e⟩ := h2.form
  subst e
  obtain ⟨B, cB, e⟩ := h3.form
  subst e
  have hne := h.ne
  have hx : ∀ w', Chg (dset gr gq) w w' → w'.rowIs gx 121 4 (txR gn (.slice A L.length cA) (.slice B L.length cB) bad) := fun w' c => c.row h1 (fun e => by rcases e with e | e; exact hne.1 e; exact hne.2.1 e)
  refine ⟨A, cA, B, cB, ⟨fun w' c => (hx w' c).cell (i := 0) (by omega), fun w' c => (hx w' c).cell (i := 1) (by omega), fun w' c => (hx w' c).cell (i := 2) (by omega), fun w' c => (hx w' c).cell (i := 3) (by omega), fun w' c => (h.rl.cells w' c).1, fun w' c => (h.rl.cells w' c).2, h2.ints (fun k hk => by have := (h.lts k hk).1; have := h.rl.dx.n; omega), fun x hx => (h2.lt x hx).1, fun h0 => ?_⟩⟩
  obtain ⟨g, cap, hv, hbg, hp⟩ := PgAt.ofOwn h3 h0
  injection hv with e1 _ e3
  refine ⟨g, e1, fun i hi w' c => ?_⟩
  exact (hp.chg c (fun e => by have := h.lt.1; rcases e with e | e <;> omega)).piece i hi
set_option maxRecDepth 20000 in
set_option maxHeartbeats 2000000 in
theorem refCommit_bad (h : RT w gr gq gn gx base n first F L bad s) (hb : bad ≠ 0) :
    Calls Try.prog 60 #[.pointer (some ⟨gx, 0, none⟩)] w fun e w' => e = .returned (.int .i64 bad) ∧ w' = w := by
  obtain ⟨A, cA, B, cB, hc⟩ := h.cells
  have x3 := hc.x3 w (Chg.of_below _ (Below.refl _ _))
  have hbb : (bad != 0) = true := by rw [bne_iff_ne]; exact hb
  clear h hc
  go_enter Try.func60, Try.ntmps60
  go_wp2_with fail
  go_ret
  exact ⟨rfl, rfl⟩
set_option maxRecDepth 20000 in
set_option maxHeartbeats 4000000 in
theorem refCommit_in (h : RT w gr gq gn gx base n first F L 0 s) :
    Calls Try.prog 60 #[.pointer (some ⟨gx, 0, none⟩)] w fun e w' => e = .returned (.int .i64 (commit first (pageG F) L s).2.1) ∧
      RT w' gr gq gn gx base n first (dropF (commit first (pageG F) L s).2.2 F) (dropL (commit first (pageG F) L s).2.2 L) 0 (commit first (pageG F) L s).1 ∧ Chg (rset gr gq gx) w w' := by
  obtain ⟨A, cA, B, cB, hc⟩ := h.cells
  have hn := h.rl.dx.n
  have hfit := h.rl.fit
  have h30 := h.len
  have HC := Lib.hid hc
  have H := Lib.hid h
  have hself : Chg (dset gr gq) w w := Chg.of_below _ (Below.refl _ _)
  have x0 := hc.x0 w hself
  have x1 := hc.x1 w hself
  have x3 := hc.x3 w hself
  by_cases h0 : L = []
  · have hcm : commit first (pageG F) L s = (s, 0, false) := if_pos h0
    have hl0 : (L.length : Int) = 0 := by rw [h0]; rfl
    rw [hcm]
    clear h hc hself h0 hcm
    go_enter Try.func60, Try.ntmps60
    go_wp2_with fail
    go_ret
    exact ⟨rfl, H.out, Chg.of_below _ (Below.refl _ _)⟩
  · have hpos : 0 < L.length := List.length_pos_iff.2 h0
    have hl0 : ((L.length : Int) == 0) = false := by rw [beq_eq_false_iff_ne]; omega
    obtain ⟨g, hB, hpg⟩ := hc.b hpos
    subst hB
    have HPG := Lib.hid hpg
    obtain ⟨res, hres⟩ : ∃ r, r = logW first (pageG F) L 0 s := ⟨_, rfl⟩
    have HRES := Lib.hid hres
    have HCM := Lib.hid (show commit first (pageG F) L s = if res.2 ≠ 0 then (res.1, res.2, false) else if res.1.up = true then ((install first L (res.1.put first (logB L))).1, (install first L (res.1.put first (logB L))).2, true) else (res.1.put first (logB L), 24, false) from by
      unfold commit
      rw [if_neg h0, hres])
    clear h hc h0 hpg hres
    go_enter Try.func60, Try.ntmps60
    go_wp2_with fail
    clear x0 x1 x3 hself
    go_loopw [3] (fun r wx => ∃ (i : Nat) (t : DSt), i ≤ L.length ∧ r = .int .i64 i ∧ RT wx gr gq gn gx base n first F L 0 t ∧ Chg (dset gr gq) w wx ∧ logW first (pageG F) (L.drop i) i t = res) (fun r _ => L.length - (intOf r).toNat)
    case atStart => exact ⟨0, s, by omega, rfl, H.out, Chg.of_below _ (Below.refl _ _), HRES.out.symm⟩
    case round =>
      obtain ⟨i, t, hi, rfl, hx, hcg, hin⟩ := hrel
      have HX := Lib.hid hx
      have HCG := Lib.hid hcg
      have HIN2 := Lib.hid hin
      have x1 := HC.out.x1 wr hcg
      clear hx hcg hin
      by_cases hil : i < L.length
      · have g1 : (i : Int) < L.length := by omega
        obtain ⟨q, hq⟩ : ∃ q, q = L.getD i 0 := ⟨_, rfl⟩
        have HDR := Lib.hid (show L.drop i = q :: L.drop (i + 1) from by
          rw [hq, List.getD_eq_getElem?_getD, List.getElem?_eq_getElem hil]
          exact List.drop_eq_getElem_cons hil)
        obtain ⟨f, hf⟩ : ∃ f, f = pageG F q := ⟨_, rfl⟩
        have HU8 := Lib.hid (show ∀ i, f i ≤ 255 from fun i => by rw [hf]; exact H.out.u8 q i)
        have HPC := Lib.hid (show ∀ w', Chg (dset gr gq) wr w' → ∀ j v, (rowArr 64 (pgC f)).toList[j]? = some v → w'.cell? ⟨g, i * 64 + j, none⟩ = some v from fun w' c => by
          have := HPG.out i hil w' (HCG.out.trans c (fun _ _ h => h))
          rw [← hq, ← hf] at this
          exact this)
        have HF := Lib.hid hf
        clear hq hf
        obtain ⟨p, hp⟩ : ∃ p, p = first + 1 + i := ⟨_, rfl⟩
        have hpn : p < n := by omega
        have k1 : (first : Int) + 1 = ((first + 1 : Nat) : Int) := by omega
        have k2 : ((first + 1 : Nat) : Int) + (i : Int) = (p : Int) := by omega
        obtain ⟨f1, hf1⟩ : ∃ f1, f1 = first + 1 := ⟨_, rfl⟩
        rw [← hf1] at k1 k2
        have kb : f1 ≤ 70000 ∧ p ≤ 70000 ∧ first ≤ 70000 := by omega
        obtain ⟨kb1, kb2, kb3⟩ := kb
        have wr1 : IntKind.i64.wrap (f1 : Int) = f1 := by simp [IntKind.wrap, IntKind.bits, IntKind.signed]; omega
        have wr2 : IntKind.i64.wrap (p : Int) = p := by simp [IntKind.wrap, IntKind.bits, IntKind.signed]; omega
        have HP := Lib.hid hp
        clear hp hf1
        go_upto_region 8 with fail
        clear x1
        go_cut [4] (fun s4 wx => s4 = .int .i64 t.code ∧ RT wx gr gq gn gx base n first F L 0 (t.put p f) ∧ Chg (dset gr gq) w wx)
        case first =>
          have HX0 := Lib.hid (show ∀ w', Chg (dset gr gq) wr w' → w'.cell? ⟨gx, 0, none⟩ = some (.pointer (some ⟨gn, 0, none⟩)) from fun w' c => HC.out.x0 w' (HCG.out.trans c (fun _ _ h => h)))
          have HX2 := Lib.hid (show ∀ w', Chg (dset gr gq) wr w' → w'.cell? ⟨gx, 2, none⟩ = some (.slice (some ⟨g, 0, none⟩) L.length cB) from fun w' c => HC.out.x2 w' (HCG.out.trans c (fun _ _ h => h)))
          have HN0 := Lib.hid (show ∀ w', Chg (dset gr gq) wr w' → w'.cell? ⟨gn, 0, none⟩ = some (.pointer (some ⟨gr, 0, none⟩)) from fun w' c => HC.out.n0 w' (HCG.out.trans c (fun _ _ h => h)))
          have HN1 := Lib.hid (show ∀ w', Chg (dset gr gq) wr w' → w'.cell? ⟨gn, 1, none⟩ = some (.int .i64 first) from fun w' c => HC.out.n1 w' (HCG.out.trans c (fun _ _ h => h)))
          have hbs : (Try.prog.info? 52).map (·.size) = some (rowArr 64 (pgC f)).size := by rw [rowArr_size]; exact block_size
          have hS : Chg (dset gr gq) wr (World.drew wr) := Chg.of_below _ (drewb wr)
          refine wp_region_held (S := Chg (dset gr gq) wr) (by kernel_rfl) ?_
          change wpAnyH _ _ _ _ _ _ _ _ (World.drew _)
          refine takeH 0 (.pointer (some ⟨gx, 0, none⟩)) (some 31) rfl rfl (by kernel_rfl) (by kernel_rfl) (by kernel_rfl) (fun _ _ _ h => h) (.inl ⟨by kernel_rfl, fun w _ => by go_simp⟩) hS ?_
          refine takeH 1 (.pointer (some ⟨gx, 0, none⟩)) (some 32) rfl rfl (by kernel_rfl) (by kernel_rfl) (by kernel_rfl) (fun _ _ _ h => h) (.inl ⟨by kernel_rfl, fun w _ => by go_simp⟩) hS ?_
          refine takeH 2 (.pointer (some ⟨gx, 0, none⟩)) (some 33) rfl rfl (by kernel_rfl) (by kernel_rfl) (by kernel_rfl) (fun _ _ _ h => h) (.inl ⟨by kernel_rfl, fun w _ => by go_simp⟩) hS ?_
          refine takeH 3 (.pointer (some ⟨gn, 0, none⟩)) (some 34) rfl rfl (by kernel_rfl) (by kernel_rfl) (by kernel_rfl) (fun _ _ _ h => h) (.inl ⟨by kernel_rfl, fun w hw => by have hc := HX0.out w hw; go_simp⟩) hS ?_
          refine takeH 4 (.pointer (some ⟨gn, 0, none⟩)) (some 35) rfl rfl (by kernel_rfl) (by kernel_rfl) (by kernel_rfl) (fun _ _ _ h => h) (.inl ⟨by kernel_rfl, fun w _ => by go_simp⟩) hS ?_
          refine takeH 5 (.pointer (some ⟨gn, 0, none⟩)) (some 36) rfl rfl (by kernel_rfl) (by kernel_rfl) (by kernel_rfl) (fun _ _ _ h => h) (.inl ⟨by kernel_rfl, fun w _ => by go_simp⟩) hS ?_
          refine takeH 6 (.pointer (some ⟨gr, 0, none⟩)) (some 37) rfl rfl (by kernel_rfl) (by kernel_rfl) (by kernel_rfl) (fun _ _ _ h => h) (.inl ⟨by kernel_rfl, fun w hw => by have hc := HN0.out w hw; go_simp⟩) hS ?_
          refine takeH 7 (.pointer (some ⟨gx, 0, none⟩)) (some 38) rfl rfl (by kernel_rfl) (by kernel_rfl) (by kernel_rfl) (fun _ _ _ h => h) (.inl ⟨by kernel_rfl, fun w _ => by go_simp⟩) hS ?_
          refine takeH 8 (.pointer (some ⟨gx, 0, none⟩)) (some 39) rfl rfl (by kernel_rfl) (by kernel_rfl) (by kernel_rfl) (fun _ _ _ h => h) (.inl ⟨by kernel_rfl, fun w _ => by go_simp⟩) hS ?_
          refine takeH 9 (.pointer (some ⟨gx, 0, none⟩)) (some 40) rfl rfl (by kernel_rfl) (by kernel_rfl) (by kernel_rfl) (fun _ _ _ h => h) (.inl ⟨by kernel_rfl, fun w _ => by go_simp⟩) hS ?_
          refine takeH 10 (.pointer (some ⟨gn, 0, none⟩)) (some 41) rfl rfl (by kernel_rfl) (by kernel_rfl) (by kernel_rfl) (fun _ _ _ h => h) (.inl ⟨by kernel_rfl, fun w hw => by have hc := HX0.out w hw; go_simp⟩) hS ?_
          refine takeH 11 (.pointer (some ⟨gn, 0, none⟩)) (some 42) rfl rfl (by kernel_rfl) (by kernel_rfl) (by kernel_rfl) (fun _ _ _ h => h) (.inl ⟨by kernel_rfl, fun w _ => by go_simp⟩) hS ?_
          refine takeH 12 (.pointer (some ⟨gn, 1, none⟩)) (some 43) rfl rfl (by kernel_rfl) (by kernel_rfl) (by kernel_rfl) (fun _ _ _ h => h) (.inl ⟨by kernel_rfl, fun w _ => by go_simp⟩) hS ?_
          refine takeH 13 (.int .i64 first) (some 44) rfl rfl (by kernel_rfl) (by kernel_rfl) (by kernel_rfl) (fun _ _ _ h => h) (.inl ⟨by kernel_rfl, fun w hw => by have hc := HN1.out w hw; go_simp⟩) hS ?_
          refine takeH 14 (.int .i64 f1) (some 45) rfl rfl (by kernel_rfl) (by kernel_rfl) (by kernel_rfl) (fun _ _ _ h => h) (.inl ⟨by kernel_rfl, fun w _ => by go_simp⟩) hS ?_
          refine takeH 15 (.int .i64 i) (some 46) rfl rfl (by kernel_rfl) (by kernel_rfl) (by kernel_rfl) (fun _ _ _ h => h) (.inl ⟨by kernel_rfl, fun w _ => by go_simp⟩) hS ?_
          refine takeH 16 (.int .i64 p) (some 47) rfl rfl (by kernel_rfl) (by kernel_rfl) (by kernel_rfl) (fun _ _ _ h => h) (.inl ⟨by kernel_rfl, fun w _ => by go_simp⟩) hS ?_
          go_simp
          refine takeH 17 (.pointer (some ⟨gx, 0, none⟩)) (some 48) rfl rfl (by kernel_rfl) (by kernel_rfl) (by kernel_rfl) (fun _ _ _ h => h) (.inl ⟨by kernel_rfl, fun w _ => by go_simp⟩) hS ?_
          refine takeH 18 (.pointer (some ⟨gx, 0, none⟩)) (some 49) rfl rfl (by kernel_rfl) (by kernel_rfl) (by kernel_rfl) (fun _ _ _ h => h) (.inl ⟨by kernel_rfl, fun w _ => by go_simp⟩) hS ?_
          refine takeH 19 (.pointer (some ⟨gx, 2, none⟩)) (some 50) rfl rfl (by kernel_rfl) (by kernel_rfl) (by kernel_rfl) (fun _ _ _ h => h) (.inl ⟨by kernel_rfl, fun w _ => by go_simp⟩) hS ?_
          refine takeH 20 (.slice (some ⟨g, 0, none⟩) L.length cB) (some 51) rfl rfl (by kernel_rfl) (by kernel_rfl) (by kernel_rfl) (fun _ _ _ h => h) (.inl ⟨by kernel_rfl, fun w hw => by have hc := HX2.out w hw; go_simp⟩) hS ?_
          refine takeH 21 (.int .i64 i) (some 52) rfl rfl (by kernel_rfl) (by kernel_rfl) (by kernel_rfl) (fun _ _ _ h => h) (.inl ⟨by kernel_rfl, fun w _ => by go_simp⟩) hS ?_
          refine takeH 22 (.pointer (some ⟨g, i * 64, none⟩)) (some 53) rfl rfl (by kernel_rfl) (by kernel_rfl) (by kernel_rfl) (fun _ _ _ h => h) (.inl ⟨by kernel_rfl, fun w _ => by go_simp⟩) hS ?_
          refine takeH 23 (pageV f) (some 54) rfl rfl (by kernel_rfl) (by kernel_rfl) (by kernel_rfl) (fun _ _ _ h => h) (yi_piece (by kernel_rfl) 52 (.tmp 53) rfl g (i * 64) (by go_simp; try rfl) (rowArr 64 (pgC f)) _ (fun w hw => HPC.out w hw) block_under rfl hbs) hS ?_
          go_simp
          refine callH 24 rfl (by kernel_rfl) (by kernel_rfl) (some 55) rfl 87 #[.pointer (some ⟨gr, 0, none⟩), .int .i64 p, pageV f] ?hrun ((rxPut (HX.out.keep (drewb wr)).rl.dx p hpn HU8.out).mono ?_)
          case hrun => go_simp; try rfl
          rintro e w3 ⟨rfl, hd3, hc3⟩
          have HX3 := Lib.hid ((HX.out.keep (drewb wr)).setD hc3 hd3)
          have hS3 : Chg (dset gr gq) wr w3 := hS.trans hc3 (fun _ _ h => h)
          have HC3 := Lib.hid (HCG.out.trans hS3 (fun _ _ h => h))
          refine ⟨_, rfl, hS3, ?_⟩
          go_simp
          clear hd3 hc3
          refine takeH 25 (.int .i64 t.code) (some 4) rfl rfl (by kernel_rfl) (by kernel_rfl) (by kernel_rfl) (fun _ _ _ h => h) (.inl ⟨by kernel_rfl, fun w _ => by go_simp⟩) hS3 ?_
          refine wpAnyH_done (by kernel_rfl) ?_ _
          go_simp
          go_wp2_with fail
          go_meet
          exact ⟨rfl, HX3.out, HC3.out⟩
        case rest =>
          obtain ⟨rfl, hx4, hcg4⟩ := hcut
          have HX4 := Lib.hid hx4
          have HCG4 := Lib.hid hcg4
          have HIN3 := Lib.hid (show (if t.up = true then logW first (pageG F) (L.drop (i + 1)) (i + 1) (t.put p f) else (t.put p f, 24)) = res from by
            rw [← HIN2.out, HDR.out, HF.out, HP.out]
            rfl)
          clear hx4 hcg4 k1 k2 wr1 wr2
          go_at_K
          go_step
          by_cases hup : t.up = true
          · have hcode : t.code = 0 := if_pos hup
            have HN := Lib.hid (show logW first (pageG F) (L.drop (i + 1)) (i + 1) (t.put p f) = res from by rw [← HIN3.out, if_pos hup])
            rw [hcode]
            clear hup hcode
            go_wp2_with fail
            go_roundw
            case rel =>
              first
                | exact ⟨i + 1, _, by omega, by go_num, HX4.out, HCG4.out, HN.out⟩
                | (repeat apply Exists.intro
                   exact ⟨⟨i + 1, _, by omega, by go_num, HX4.out, HCG4.out, HN.out⟩, rfl⟩)
            case measure => simp [intOf]; omega
          · have hcode : t.code = 24 := if_neg hup
            have HFIN := Lib.hid (show commit first (pageG F) L s = (t.put p f, 24, false) from by
              have h1 : res = (t.put p f, 24) := by rw [← HIN3.out, if_neg hup]
              rw [HCM.out, h1, if_pos (by simp)])
            rw [hcode]
            clear hup hcode
            go_wp2_with fail
            go_ret
            rw [HFIN.out]
            exact ⟨rfl, HX4.out, HCG4.out.mono' (fun k h => .inl h)⟩
      · obtain rfl : i = L.length := by omega
        have hres : res = (t, 0) := by
          have := HIN2.out
          rw [List.drop_length] at this
          rw [← this]
          rfl
        have HCM2 := Lib.hid (show commit first (pageG F) L s = if t.up = true then ((install first L (t.put first (logB L))).1, (install first L (t.put first (logB L))).2, true) else (t.put first (logB L), 24, false) from by
          rw [HCM.out, hres, if_neg (by simp)])
        clear hres
        go_upto_region 11 with fail
        clear x1
        go_cut [5] (fun s5 wx => s5 = .int .i64 t.code ∧ RT wx gr gq gn gx base n first F L 0 (t.put first (logB L)) ∧ Chg (dset gr gq) w wx)
        case first =>
          have HX0 := Lib.hid (show ∀ w', Chg (dset gr gq) wr w' → w'.cell? ⟨gx, 0, none⟩ = some (.pointer (some ⟨gn, 0, none⟩)) from fun w' c => HC.out.x0 w' (HCG.out.trans c (fun _ _ h => h)))
          have HX1 := Lib.hid (show ∀ w', Chg (dset gr gq) wr w' → w'.cell? ⟨gx, 1, none⟩ = some (.slice A L.length cA) from fun w' c => HC.out.x1 w' (HCG.out.trans c (fun _ _ h => h)))
          have HN0 := Lib.hid (show ∀ w', Chg (dset gr gq) wr w' → w'.cell? ⟨gn, 0, none⟩ = some (.pointer (some ⟨gr, 0, none⟩)) from fun w' c => HC.out.n0 w' (HCG.out.trans c (fun _ _ h => h)))
          have HN1 := Lib.hid (show ∀ w', Chg (dset gr gq) wr w' → w'.cell? ⟨gn, 1, none⟩ = some (.int .i64 first) from fun w' c => HC.out.n1 w' (HCG.out.trans c (fun _ _ h => h)))
          have HSI := Lib.hid (show SI (World.drew wr) .i64 (.slice A L.length cA) (natInts L) from SI.chg HC.out.a (HCG.out.trans (Chg.of_below _ (drewb wr)) (fun _ _ h => h)) (fun x hx e => by have h1 := HC.out.ao x hx; have h2 := H.out.lt.1; rcases e with e | e <;> omega))
          have hS : Chg (dset gr gq) wr (World.drew wr) := Chg.of_below _ (drewb wr)
          refine wp_region_held (S := Chg (dset gr gq) wr) (by kernel_rfl) ?_
          change wpAnyH _ _ _ _ _ _ _ _ (World.drew _)
          refine takeH 0 (.pointer (some ⟨gx, 0, none⟩)) (some 59) rfl rfl (by kernel_rfl) (by kernel_rfl) (by kernel_rfl) (fun _ _ _ h => h) (.inl ⟨by kernel_rfl, fun w _ => by go_simp⟩) hS ?_
          refine takeH 1 (.pointer (some ⟨gx, 0, none⟩)) (some 60) rfl rfl (by kernel_rfl) (by kernel_rfl) (by kernel_rfl) (fun _ _ _ h => h) (.inl ⟨by kernel_rfl, fun w _ => by go_simp⟩) hS ?_
          refine takeH 2 (.pointer (some ⟨gx, 0, none⟩)) (some 61) rfl rfl (by kernel_rfl) (by kernel_rfl) (by kernel_rfl) (fun _ _ _ h => h) (.inl ⟨by kernel_rfl, fun w _ => by go_simp⟩) hS ?_
          refine takeH 3 (.pointer (some ⟨gn, 0, none⟩)) (some 62) rfl rfl (by kernel_rfl) (by kernel_rfl) (by kernel_rfl) (fun _ _ _ h => h) (.inl ⟨by kernel_rfl, fun w hw => by have hc := HX0.out w hw; go_simp⟩) hS ?_
          refine takeH 4 (.pointer (some ⟨gn, 0, none⟩)) (some 63) rfl rfl (by kernel_rfl) (by kernel_rfl) (by kernel_rfl) (fun _ _ _ h => h) (.inl ⟨by kernel_rfl, fun w _ => by go_simp⟩) hS ?_
          refine takeH 5 (.pointer (some ⟨gn, 0, none⟩)) (some 64) rfl rfl (by kernel_rfl) (by kernel_rfl) (by kernel_rfl) (fun _ _ _ h => h) (.inl ⟨by kernel_rfl, fun w _ => by go_simp⟩) hS ?_
          refine takeH 6 (.pointer (some ⟨gr, 0, none⟩)) (some 65) rfl rfl (by kernel_rfl) (by kernel_rfl) (by kernel_rfl) (fun _ _ _ h => h) (.inl ⟨by kernel_rfl, fun w hw => by have hc := HN0.out w hw; go_simp⟩) hS ?_
          refine takeH 7 (.pointer (some ⟨gx, 0, none⟩)) (some 66) rfl rfl (by kernel_rfl) (by kernel_rfl) (by kernel_rfl) (fun _ _ _ h => h) (.inl ⟨by kernel_rfl, fun w _ => by go_simp⟩) hS ?_
          refine takeH 8 (.pointer (some ⟨gx, 0, none⟩)) (some 67) rfl rfl (by kernel_rfl) (by kernel_rfl) (by kernel_rfl) (fun _ _ _ h => h) (.inl ⟨by kernel_rfl, fun w _ => by go_simp⟩) hS ?_
          refine takeH 9 (.pointer (some ⟨gx, 0, none⟩)) (some 68) rfl rfl (by kernel_rfl) (by kernel_rfl) (by kernel_rfl) (fun _ _ _ h => h) (.inl ⟨by kernel_rfl, fun w _ => by go_simp⟩) hS ?_
          refine takeH 10 (.pointer (some ⟨gn, 0, none⟩)) (some 69) rfl rfl (by kernel_rfl) (by kernel_rfl) (by kernel_rfl) (fun _ _ _ h => h) (.inl ⟨by kernel_rfl, fun w hw => by have hc := HX0.out w hw; go_simp⟩) hS ?_
          refine takeH 11 (.pointer (some ⟨gn, 0, none⟩)) (some 70) rfl rfl (by kernel_rfl) (by kernel_rfl) (by kernel_rfl) (fun _ _ _ h => h) (.inl ⟨by kernel_rfl, fun w _ => by go_simp⟩) hS ?_
          refine takeH 12 (.pointer (some ⟨gn, 1, none⟩)) (some 71) rfl rfl (by kernel_rfl) (by kernel_rfl) (by kernel_rfl) (fun _ _ _ h => h) (.inl ⟨by kernel_rfl, fun w _ => by go_simp⟩) hS ?_
          refine takeH 13 (.int .i64 first) (some 72) rfl rfl (by kernel_rfl) (by kernel_rfl) (by kernel_rfl) (fun _ _ _ h => h) (.inl ⟨by kernel_rfl, fun w hw => by have hc := HN1.out w hw; go_simp⟩) hS ?_
          refine takeH 14 (.pointer (some ⟨gx, 0, none⟩)) (some 73) rfl rfl (by kernel_rfl) (by kernel_rfl) (by kernel_rfl) (fun _ _ _ h => h) (.inl ⟨by kernel_rfl, fun w _ => by go_simp⟩) hS ?_
          refine takeH 15 (.pointer (some ⟨gx, 0, none⟩)) (some 74) rfl rfl (by kernel_rfl) (by kernel_rfl) (by kernel_rfl) (fun _ _ _ h => h) (.inl ⟨by kernel_rfl, fun w _ => by go_simp⟩) hS ?_
          refine takeH 16 (.pointer (some ⟨gx, 1, none⟩)) (some 75) rfl rfl (by kernel_rfl) (by kernel_rfl) (by kernel_rfl) (fun _ _ _ h => h) (.inl ⟨by kernel_rfl, fun w _ => by go_simp⟩) hS ?_
          refine takeH 17 (.slice A L.length cA) (some 76) rfl rfl (by kernel_rfl) (by kernel_rfl) (by kernel_rfl) (fun _ _ _ h => h) (.inl ⟨by kernel_rfl, fun w hw => by have hc := HX1.out w hw; go_simp⟩) hS ?_
          go_simp
          refine callH 18 rfl (by kernel_rfl) (by kernel_rfl) (some 77) rfl 51 #[.slice A L.length cA] ?hrun ((refHead_in HSI.out h30 (fun c hc => by have := (H.out.lts c hc).1; omega)).mono ?_)
          case hrun => go_simp; try rfl
          rintro e w3 ⟨rfl, hb3⟩
          have HX3 := Lib.hid ((HX.out.keep (drewb wr)).keep hb3)
          have hS3 : Chg (dset gr gq) wr w3 := hS.next hb3
          refine ⟨_, rfl, hS3, ?_⟩
          go_simp
          clear hb3
          refine callH 19 rfl (by kernel_rfl) (by kernel_rfl) (some 78) rfl 87 #[.pointer (some ⟨gr, 0, none⟩), .int .i64 first, pageV (logB L)] ?hrun ((rxPut HX3.out.rl.dx first (by omega) (logB_u8 _)).mono ?_)
          case hrun => go_simp; try rfl
          rintro e w4 ⟨rfl, hd4, hc4⟩
          have HX4 := Lib.hid (HX3.out.setD hc4 hd4)
          have hS4 : Chg (dset gr gq) wr w4 := hS3.trans hc4 (fun _ _ h => h)
          have HC4 := Lib.hid (HCG.out.trans hS4 (fun _ _ h => h))
          refine ⟨_, rfl, hS4, ?_⟩
          go_simp
          clear hd4 hc4
          refine takeH 20 (.int .i64 t.code) (some 5) rfl rfl (by kernel_rfl) (by kernel_rfl) (by kernel_rfl) (fun _ _ _ h => h) (.inl ⟨by kernel_rfl, fun w _ => by go_simp⟩) hS4 ?_
          refine wpAnyH_done (by kernel_rfl) ?_ _
          go_simp
          go_wp2_with fail
          go_meet
          exact ⟨rfl, HX4.out, HC4.out⟩
        case rest =>
          obtain ⟨rfl, hx4, hcg4⟩ := hcut
          have HX4 := Lib.hid hx4
          have HCG4 := Lib.hid hcg4
          clear hx4 hcg4
          go_at_K
          go_step
          by_cases hup : t.up = true
          · have hcode : t.code = 0 := if_pos hup
            have HFIN := Lib.hid (show commit first (pageG F) L s = ((install first L (t.put first (logB L))).1, (install first L (t.put first (logB L))).2, true) from by rw [HCM2.out, if_pos hup])
            rw [hcode]
            clear hup hcode
            have x1 := HC.out.x1 wc HCG4.out
            go_wp2_with fail
            clear x1
            have HSI := Lib.hid (show SI wc .i64 (.slice A L.length cA) (natInts L) from SI.chg HC.out.a HCG4.out (fun x hx e => by have h1 := HC.out.ao x hx; have h2 := H.out.lt.1; rcases e with e | e <;> omega))
            refine (refDrop_in HX4.out).mono ?_
            rintro e w5 ⟨rfl, hx5, o5⟩
            have HX5 := Lib.hid hx5
            have HC5 := Lib.hid (show Chg (rset gr gq gx) w w5 from (HCG4.out.mono' (fun k h => .inl h)).one o5 (.inl (.inr rfl)))
            have HSI5 := Lib.hid (show SI w5 .i64 (.slice A L.length cA) (natInts L) from SI.chg HSI.out ((Chg.of_below (fun k => k = gx) (Below.refl wc.heap.size wc)).one o5 (.inl rfl)) (fun x hx e => by have h1 := HC.out.ao x hx; have h2 := H.out.lt.1; omega))
            obtain ⟨vA, vB, t1, _, _⟩ := HX5.out.tx
            have x0 : w5.cell? ⟨gx, 0, none⟩ = some (.pointer (some ⟨gn, 0, none⟩)) := t1.cell (i := 0) (by omega)
            clear hx5 o5 t1
            go_wp2_with fail
            refine (refInstall_in HX5.out.rl HSI5.out h30 (fun c hc => (H.out.lts c hc).1) (fun x hx e => by have h1 := HC.out.ao x hx; have h2 := H.out.lt.1; rcases e with e | e <;> omega)).mono ?_
            rintro e w6 ⟨rfl, hr6, hc6⟩
            have HX6 := Lib.hid (HX5.out.setD hc6 hr6.dx)
            have HC6 := Lib.hid (HC5.out.trans hc6 (fun k _ h => .inl h))
            clear hr6 hc6
            go_wp2_with fail
            go_ret
            rw [HFIN.out]
            exact ⟨rfl, HX6.out, HC6.out⟩
          · have hcode : t.code = 24 := if_neg hup
            have HFIN := Lib.hid (show commit first (pageG F) L s = (t.put first (logB L), 24, false) from by rw [HCM2.out, if_neg hup])
            rw [hcode]
            clear hup hcode
            go_wp2_with fail
            go_ret
            rw [HFIN.out]
            exact ⟨rfl, HX4.out, HCG4.out.mono' (fun k h => .inl h)⟩
end
end Go.Proofs.Ytonfnlohbgbffaa

set_option linter.unusedVariables false
set_option linter.unusedSimpArgs false
namespace Go.Proofs.Ytonfnlohbgbffaa
open Go.RowKit

/-- Where the part from one on begins. -/
def fromA (A : Option Addr) (cap k size : Nat) : Option Addr := match A with
  | none => none
  | some a => if cap = k then some a else some ⟨a.block, a.off + k * size, a.spot⟩
section
variable {ρ : Operand → Value} {o : Oper} {x y : Operand} {A : Option Addr} {n cap k : Nat}
theorem sliceTo_int (ho : o.op = .slice 65 x none (some y) none) (hx : ρ x = .slice A n cap) (hy : ρ y = .int .i64 k) (hk : k ≤ n) (hc : n ≤ cap) (hm : cap ≤ maxLen) (hA : A = none → cap = 0) (w : World) :
    (execOp ρ o).run Try.prog w = .ok (.value (.slice A k cap)) w := by
  have h1 : ¬ (k : Int) < 0 := by omega
  have h2 : ¬ (cap : Int) < k := by omega
  have h3 : (k : Int) ≤ cap := by omega
  unfold execOp
  rw [ho]
  simp only [hx, hy]
  cases A with
  | none =>
    have := hA rfl
    subst this
    obtain rfl : k = 0 := by omega
    go_simp
  | some a => go_simp
theorem sliceTo_page (ho : o.op = .slice 50 x none (some y) none) (hx : ρ x = .slice A n cap) (hy : ρ y = .int .i64 k) (hk : k ≤ n) (hc : n ≤ cap) (hm : cap ≤ maxLen) (hA : A = none → cap = 0) (w : World) :
    (execOp ρ o).run Try.prog w = .ok (.value (.slice A k cap)) w := by
  have h1 : ¬ (k : Int) < 0 := by omega
  have h2 : ¬ (cap : Int) < k := by omega
  have h3 : (k : Int) ≤ cap := by omega
  unfold execOp
  rw [ho]
  simp only [hx, hy]
  cases A with
  | none =>
    have := hA rfl
    subst this
    obtain rfl : k = 0 := by omega
    go_simp
  | some a => go_simp
theorem sliceFrom_int (ho : o.op = .slice 65 x (some y) none none) (hx : ρ x = .slice A n cap) (hy : ρ y = .int .i64 k) (hk : k ≤ n) (hc : n ≤ cap) (hm : cap ≤ maxLen) (hA : ∀ a, A = some a → a.spot = none) (hA0 : A = none → cap = 0) (w : World) :
    (execOp ρ o).run Try.prog w = .ok (.value (.slice (fromA A cap k 1) (n - k) (cap - k))) w := by
  have h1 : ¬ (k : Int) < 0 := by omega
  have h2 : ¬ (n : Int) < k := by omega
  have h3 : (k : Int) ≤ n := by omega
  have h4 : ¬ (cap : Int) < n := by omega
  unfold execOp
  rw [ho]
  simp only [hx, hy]
  cases A with
  | none =>
    have := hA0 rfl
    subst this
    obtain rfl : n = 0 := by omega
    obtain rfl : k = 0 := by omega
    go_simp
    try rfl
  | some a =>
    obtain ⟨g, off, sp⟩ := a
    have := hA _ rfl
    simp only at this
    subst this
    unfold fromA
    by_cases hck : cap = k
    · subst hck
      obtain rfl : n = cap := by omega
      go_simp
      try simp
    · go_simp
      try simp
theorem sliceFrom_page (ho : o.op = .slice 50 x (some y) none none) (hx : ρ x = .slice A n cap) (hy : ρ y = .int .i64 k) (hk : k ≤ n) (hc : n ≤ cap) (hm : cap ≤ maxLen) (hA : ∀ a, A = some a → a.spot = none) (hA0 : A = none → cap = 0) (w : World) :
    (execOp ρ o).run Try.prog w = .ok (.value (.slice (fromA A cap k 64) (n - k) (cap - k))) w := by
  have h1 : ¬ (k : Int) < 0 := by omega
  have h2 : ¬ (n : Int) < k := by omega
  have h3 : (k : Int) ≤ n := by omega
  have h4 : ¬ (cap : Int) < n := by omega
  unfold execOp
  rw [ho]
  simp only [hx, hy]
  cases A with
  | none =>
    have := hA0 rfl
    subst this
    obtain rfl : n = 0 := by omega
    obtain rfl : k = 0 := by omega
    go_simp
    try rfl
  | some a =>
    obtain ⟨g, off, sp⟩ := a
    have := hA _ rfl
    simp only at this
    subst this
    unfold fromA
    by_cases hck : cap = k
    · subst hck
      obtain rfl : n = cap := by omega
      go_simp
      try simp
    · go_simp
      try simp
end
section
variable {w : World} {base n size : Nat} {e : TypeId} {A : Option Addr} {cap : Nat} {xs : List Value}
/-- Parts of what the call owns. -/
theorem own_none (h : w.ownsRow base e size (.slice A n cap) n xs) : (A = none → cap = 0) ∧ (∀ a, A = some a → a.spot = none) ∧ n ≤ cap ∧ cap ≤ maxLen := by
  rcases h.2 with ⟨h1, h2⟩ | ⟨g, c, cur, h1, _, _, h3, h4, _⟩
  · cases h1
    exact ⟨fun _ => rfl, (fun a ha => by cases ha), by omega, by simp [maxLen]⟩
  · cases h1
    exact ⟨(fun h => by cases h), (fun a ha => by cases ha; rfl), h3, h4⟩
theorem own_to (h : w.ownsRow base e size (.slice A n cap) n xs) (k : Nat) (hk : k ≤ n) : SR w (.slice A k cap) k size (xs.take (k * size)) := by
  have hx := h.1
  have hks : k * size ≤ n * size := Nat.mul_le_mul_right _ hk
  have hsr := SR.of_own h
  refine ⟨by rw [List.length_take]; omega, ?_⟩
  rcases hsr.2 with ⟨h1, h2⟩ | ⟨a, c, h1, h2, h3, h4⟩
  · cases h1
    exact .inl ⟨by obtain rfl : k = 0 := by omega
                   rfl, by omega⟩
  · cases h1
    refine .inr ⟨a, _, rfl, by omega, h3, fun h0 => ?_⟩
    obtain ⟨e1, e2, e3⟩ := h4 (by omega)
    exact ⟨e1, e2, fun i hi => by rw [e3 i (by omega), List.getElem?_take_of_lt hi]⟩
theorem own_from (h : w.ownsRow base e size (.slice A n cap) n xs) (k : Nat) (hk : k ≤ n) : SR w (.slice (fromA A cap k size) (n - k) (cap - k)) (n - k) size (xs.drop (k * size)) := by
  have hx := h.1
  have hks : k * size ≤ n * size := Nat.mul_le_mul_right _ hk
  have hsr := SR.of_own h
  have hno := own_none h
  refine ⟨by rw [List.length_drop, hx, Nat.sub_mul], ?_⟩
  rcases hsr.2 with ⟨h1, h2⟩ | ⟨a, c, h1, h2, h3, h4⟩
  · cases h1
    obtain rfl : k = 0 := by omega
    exact .inl ⟨rfl, rfl⟩
  · cases h1
    by_cases hc : cap = k
    · refine .inr ⟨a, cap - k, ?_, by omega, by omega, fun h0 => by omega⟩
      unfold fromA
      simp [hc]
    · refine .inr ⟨⟨a.block, a.off + k * size, a.spot⟩, cap - k, ?_, by omega, by omega, fun h0 => ?_⟩
      · unfold fromA
        simp [hc]
      · obtain ⟨e1, e2, e3⟩ := h4 (by omega)
        refine ⟨e1, e2, fun i hi => ?_⟩
        rw [Nat.sub_mul] at hi
        show w.cell? ⟨a.block, a.off + k * size + i, none⟩ = _
        rw [Nat.add_assoc, e3 _ (by omega), List.getElem?_drop]
end
end Go.Proofs.Ytonfnlohbgbffaa

set_option linter.unusedVariables false
set_option linter.unusedSimpArgs false
namespace Go.Proofs.Ytonfnlohbgbffaa
open Go.RowKit

/-- What the document's Put may turn: its object, a list of pages of its own. -/
def pset (w : World) (gx base k : Nat) : Prop := k = gx ∨ (base ≤ k ∧ ∃ N C, w.rowIs k 52 N C)
section
variable {w w' : World} {gr gq gn gx base n first : Nat} {F : Int → Option (Nat → Nat)} {L : List Nat} {bad : Int} {s s' : DSt}
theorem RT.setBad (h : RT w gr gq gn gx base n first F L bad s) (x : Int) : RT (w.setCell ⟨gx, 3, none⟩ (.int .i64 x)) gr gq gn gx base n first F L x s := by
  obtain ⟨vA, vB, h1, h2, h3⟩ := h.tx
  have o := one_setCell w gx 3 (.int .i64 x)
  have hn := h.ne
  have hl := h.lt
  refine ⟨h.rl.one o hn, ⟨vA, vB, ?_, own_one h2 o (fun k hk e => by have := (h2.lt k hk).1; cases e; omega), own_one h3 o (fun k hk e => by have := (h3.lt k hk).1; cases e; omega)⟩, ⟨h.lt.1, Nat.le_trans h.lt.2 o.size⟩, h.keys, h.len, h.ok⟩
  refine (h1.set 3 _).congr (fun i hi => ?_)
  have h4 : i = 0 ∨ i = 1 ∨ i = 2 ∨ i = 3 := by omega
  rcases h4 with rfl | rfl | rfl | rfl <;> rfl
end
/-! ### Pages in a list -/
theorem pgsV_congr {n : Nat} {V V' : Nat → Nat → Nat} (h : ∀ i, i < n → V i = V' i) : pgsV n V = pgsV n V' := by
  unfold pgsV
  rw [rowArr_congr (f := diskC V) (g := diskC V') (fun i hi => by unfold diskC; rw [h (i / 64) (by omega)])]
def pgL (H : Nat → Nat → Nat) (L : List Nat) : List Value := (L.map fun q => (rowArr 64 (pgC (H q))).toList).flatten
theorem pgL_app (H : Nat → Nat → Nat) (L M : List Nat) : pgL H (L ++ M) = pgL H L ++ pgL H M := by simp [pgL]
theorem pgL_len (H : Nat → Nat → Nat) : ∀ L : List Nat, (pgL H L).length = L.length * 64
  | [] => rfl
  | q :: L => by
    have := pgL_len H L
    rw [show q :: L = [q] ++ L from rfl, pgL_app, List.length_append, this, List.length_append]
    have h1 : (pgL H [q]).length = 64 := by simp [pgL, rowArr]
    rw [h1]
    simp
    omega
theorem pgL_congr {H H' : Nat → Nat → Nat} {L : List Nat} (h : ∀ q ∈ L, H q = H' q) : pgL H L = pgL H' L := by
  unfold pgL
  rw [List.map_congr_left (fun q hq => by rw [h q hq])]
theorem pgsV_take (H : Nat → Nat → Nat) (L : List Nat) : ∀ n, n ≤ L.length → pgsV n (fun i => H (L.getD i 0)) = pgL H (L.take n)
  | 0, _ => rfl
  | n + 1, hn => by
    rw [pgsV_next, pgsV_take H L n (by omega), List.take_add_one, pgL_app, List.getElem?_eq_getElem (by omega)]
    congr 1
    rw [List.getD_eq_getElem?_getD, List.getElem?_eq_getElem (by omega)]
    simp [pgL]
theorem pgsV_list (H : Nat → Nat → Nat) (L : List Nat) : pgsV L.length (fun i => H (L.getD i 0)) = pgL H L := by
  rw [pgsV_take H L L.length (Nat.le_refl _), List.take_length]
theorem pgL_split (H : Nat → Nat → Nat) (L : List Nat) (k : Nat) (hk : k ≤ L.length) : (pgL H L).take (k * 64) = pgL H (L.take k) ∧ (pgL H L).drop (k * 64) = pgL H (L.drop k) := by
  have h1 : pgL H L = pgL H (L.take k) ++ pgL H (L.drop k) := by rw [← pgL_app, List.take_append_drop]
  have h2 : (pgL H (L.take k)).length = k * 64 := by rw [pgL_len, List.length_take]; congr 1; omega
  rw [h1]
  exact ⟨List.take_left' h2, List.drop_left' h2⟩
/-! ### Insertion -/
def insL (L : List Nat) (k z : Nat) : List Nat := L.take k ++ [z] ++ L.drop k
theorem insL_mem {L : List Nat} {k z : Nat} (hk : k ≤ L.length) (x : Nat) : x ∈ insL L k z ↔ x = z ∨ x ∈ L := by
  unfold insL
  rw [List.mem_append, List.mem_append, List.mem_singleton]
  constructor
  · rintro ((h | h) | h)
    · exact .inr (List.mem_of_mem_take h)
    · exact .inl h
    · exact .inr (List.mem_of_mem_drop h)
  · rintro (h | h)
    · exact .inl (.inr h)
    · rw [← List.take_append_drop k L, List.mem_append] at h
      rcases h with h | h
      · exact .inl (.inl h)
      · exact .inr h
theorem insL_len (L : List Nat) (k z : Nat) : (insL L k z).length = L.length + 1 := by
  unfold insL
  simp
  omega
theorem putF_same {F : Int → Option (Nat → Nat)} (z : Nat) (f : Nat → Nat) : pageG (putF F (z : Int) f) z = f := by
  unfold pageG putF
  rw [if_pos rfl]
  rfl
theorem putF_other {F : Int → Option (Nat → Nat)} {z x : Nat} (f : Nat → Nat) (h : x ≠ z) : pageG (putF F (z : Int) f) x = pageG F x := by
  unfold pageG putF
  rw [if_neg (by omega)]
theorem KeysOf.put {F : Int → Option (Nat → Nat)} {L : List Nat} (h : KeysOf F L) {k z : Nat} (hk : k ≤ L.length) (hz : z ∉ L) (hlo : ∀ j, j < k → L.getD j 0 < z) (hhi : k < L.length → z ≤ L.getD k 0) (f : Nat → Nat) : KeysOf (putF F (z : Int) f) (insL L k z) := by
  have hup := h.up
  rw [← List.take_append_drop k L, List.pairwise_append] at hup
  obtain ⟨u1, u2, u3⟩ := hup
  have hall : ∀ x ∈ L.take k, x < z := fun x hx => by
    obtain ⟨i, hi, rfl⟩ := List.getElem_of_mem hx
    rw [List.length_take] at hi
    have := hlo i (by omega)
    rw [List.getD_eq_getElem?_getD, List.getElem?_eq_getElem (by omega)] at this
    rw [List.getElem_take]
    exact this
  have hdr : ∀ x ∈ L.drop k, z < x := fun x hx => by
    obtain ⟨i, hi, rfl⟩ := List.getElem_of_mem hx
    rw [List.length_drop] at hi
    have h1 := hhi (by omega)
    rw [List.getD_eq_getElem?_getD, List.getElem?_eq_getElem (by omega)] at h1
    have h2 : z ≠ L[k] := fun e => hz (by rw [e]; exact List.getElem_mem _)
    have h3 : L[k] ≤ L[k + i] := by
      rcases Nat.eq_zero_or_pos i with rfl | h0
      · exact Nat.le_refl _
      · exact Nat.le_of_lt (List.pairwise_iff_getElem.1 h.up k (k + i) (by omega) (by omega) (by omega))
    rw [List.getElem_drop]
    have h1' : z ≤ L[k] := h1
    omega
  refine ⟨?_, fun x hx => ?_, fun x hx => ?_⟩
  · unfold insL
    rw [List.pairwise_append, List.pairwise_append]
    refine ⟨⟨u1, List.pairwise_singleton _ _, fun a ha b hb => ?_⟩, u2, fun a ha b hb => ?_⟩
    · obtain rfl : b = z := by simpa using hb
      exact hall a ha
    · rcases List.mem_append.1 ha with h | h
      · exact u3 a h b hb
      · obtain rfl : a = z := by simpa using h
        exact hdr b hb
  · rcases (insL_mem hk x).1 hx with rfl | hx
    · unfold putF
      rw [if_pos rfl]
      simp
    · unfold putF
      rw [if_neg (fun e => hz (by have : x = z := by omega
                                  rw [← this]; exact hx))]
      exact h.yes x hx
  · by_cases e : x = (z : Int)
    · exact ⟨z, (insL_mem hk z).2 (.inl rfl), e⟩
    · unfold putF at hx
      rw [if_neg e] at hx
      obtain ⟨y, hy, rfl⟩ := h.all x hx
      exact ⟨y, (insL_mem hk y).2 (.inr hy), rfl⟩
theorem KeysOf.again {F : Int → Option (Nat → Nat)} {L : List Nat} (h : KeysOf F L) {z : Nat} (hz : z ∈ L) (f : Nat → Nat) : KeysOf (putF F (z : Int) f) L := by
  refine ⟨h.up, fun x hx => ?_, fun x hx => ?_⟩
  · unfold putF
    split
    · simp
    · exact h.yes x hx
  · by_cases e : x = (z : Int)
    · exact ⟨z, hz, e⟩
    · unfold putF at hx
      rw [if_neg e] at hx
      exact h.all x hx
theorem KeysOf.uniq {F : Int → Option (Nat → Nat)} {L M : List Nat} (h : KeysOf F L) (h' : KeysOf F M) : L = M := by
  have hm : ∀ (L M : List Nat), L.Pairwise (· < ·) → M.Pairwise (· < ·) → (∀ x, x ∈ L ↔ x ∈ M) → L = M := by
    intro L
    induction L with
    | nil =>
      intro M _ _ h
      cases M with
      | nil => rfl
      | cons m M => have := (h m).2 (by simp); cases this
    | cons a L ih =>
      intro M h1 h2 h
      cases M with
      | nil => have := (h a).1 (by simp); cases this
      | cons m M =>
        rw [List.pairwise_cons] at h1 h2
        have e : a = m := by
          have p1 := (h a).1 (by simp)
          have p2 := (h m).2 (by simp)
          rcases List.mem_cons.1 p1 with e | e
          · exact e
          · rcases List.mem_cons.1 p2 with e2 | e2
            · exact e2.symm
            · have := h1.1 m e2
              have := h2.1 a e
              omega
        subst e
        congr 1
        refine ih M h1.2 h2.2 (fun x => ?_)
        constructor
        · intro hx
          have := (h x).1 (List.mem_cons_of_mem _ hx)
          rcases List.mem_cons.1 this with e | e
          · have := h1.1 x hx
            omega
          · exact e
        · intro hx
          have := (h x).2 (List.mem_cons_of_mem _ hx)
          rcases List.mem_cons.1 this with e | e
          · have := h2.1 x hx
            omega
          · exact e
  refine hm L M h.up h'.up (fun x => ?_)
  constructor
  · intro hx
    obtain ⟨y, hy, e⟩ := h'.all (x : Nat) (h.yes x hx)
    have : x = y := by omega
    rw [this]; exact hy
  · intro hx
    obtain ⟨y, hy, e⟩ := h.all (x : Nat) (h'.yes x hx)
    have : x = y := by omega
    rw [this]; exact hy
/-- The pages behind an insertion. -/
theorem pgL_ins {F : Int → Option (Nat → Nat)} {L : List Nat} {k z : Nat} (hk : k ≤ L.length) (hz : z ∉ L) (f : Nat → Nat) :
    pgL (pageG (putF F (z : Int) f)) (insL L k z) = (pgsV L.length (fun i => pageG F (L.getD i 0))).take (k * 64) ++ (rowArr 64 (pgC f)).toList ++ (pgsV L.length (fun i => pageG F (L.getD i 0))).drop (k * 64) := by
  rw [pgsV_list, (pgL_split _ L k hk).1, (pgL_split _ L k hk).2]
  unfold insL
  rw [pgL_app, pgL_app]
  rw [pgL_congr (H := pageG (putF F (z : Int) f)) (H' := pageG F) (L := L.take k) (fun q hq => putF_other f (fun e => hz (by rw [← e]; exact List.mem_of_mem_take hq))),
    pgL_congr (H := pageG (putF F (z : Int) f)) (H' := pageG F) (L := L.drop k) (fun q hq => putF_other f (fun e => hz (by rw [← e]; exact List.mem_of_mem_drop hq)))]
  have : pgL (pageG (putF F (z : Int) f)) [z] = (rowArr 64 (pgC f)).toList := by
    unfold pgL
    rw [List.map_singleton, putF_same]
    simp
  rw [this]
theorem natV_ins (L : List Nat) (k z : Nat) : natV (insL L k z) = (natV L).take k ++ [.int .i64 (z : Int)] ++ (natV L).drop k := by
  unfold natV insL
  simp
section
variable {w : World} {g n cap base : Nat} {V : Nat → Nat → Nat}
theorem PgAt.set (h : PgAt w g n cap V) (k : Nat) (hk : k < n) (f : Nat → Nat) : PgAt (w.setCells g (k * 64) (rowArr 64 (pgC f)).toList) g n cap (setBlk V k f) := by
  obtain ⟨C, h1, h2⟩ := h.row
  have hl := h.le
  refine ⟨⟨fun j => if k * 64 ≤ j ∧ j < k * 64 + 64 then pgC f (j - k * 64) else C j, rowIs_piece (m := 64) (off := k * 64) (h := pgC f) h1, fun j hj => ?_⟩, h.le, h.cap⟩
  show (if k * 64 ≤ j ∧ j < k * 64 + 64 then pgC f (j - k * 64) else C j) = Value.int .u8 (((if j / 64 = k then f else V (j / 64)) (j % 64) : Nat) : Int)
  by_cases hj2 : k * 64 ≤ j ∧ j < k * 64 + 64
  · rw [if_pos hj2, if_pos (show j / 64 = k by omega), show j % 64 = j - k * 64 by omega]
    rfl
  · rw [if_neg hj2, if_neg (show ¬ j / 64 = k by omega), h2 j hj]
    rfl
theorem PgAt.own (h : PgAt w g n cap V) (hb : base ≤ g) : OwnP w base (.slice (some ⟨g, 0, none⟩) n cap) n V := by
  obtain ⟨C, ⟨c, hc1, hc2, hc3⟩, h2⟩ := h.row
  have hl := h.le
  refine ⟨pgsV_len _ _, .inr ⟨g, cap, c, rfl, hb, hc1, h.le, h.cap, hc2, ?_⟩⟩
  apply List.ext_getElem?
  intro j
  by_cases hj : j < n * 64
  · rw [List.getElem?_take_of_lt hj, pgsV_get _ _ _ hj, ← h2 j hj]
    have := hc3 j (by omega)
    rw [← Array.getElem?_toList] at this
    exact this
  · rw [List.getElem?_eq_none (by rw [List.length_take]; omega), List.getElem?_eq_none (by rw [pgsV_len]; omega)]
end
end Go.Proofs.Ytonfnlohbgbffaa

set_option linter.unusedVariables false
set_option linter.unusedSimpArgs false
namespace Go.Proofs.Ytonfnlohbgbffaa
open Go.RowKit

section
variable {w w' : World} {gr gq gn gx base n first : Nat} {F : Int → Option (Nat → Nat)} {L : List Nat} {bad : Int} {s s' : DSt}
/-- What Put reads ahead. -/
structure PutC (w : World) (gr gq gn gx n first : Nat) (L : List Nat) (bad : Int) (ex : Nat) (A : Option Addr) (cA : Nat) (B : Option Addr) (cB : Nat) : Prop where
  x0 : w.cell? ⟨gx, 0, none⟩ = some (.pointer (some ⟨gn, 0, none⟩))
  x1 : w.cell? ⟨gx, 1, none⟩ = some (.slice A L.length cA)
  x2 : w.cell? ⟨gx, 2, none⟩ = some (.slice B L.length cB)
  x3 : w.cell? ⟨gx, 3, none⟩ = some (.int .i64 bad)
  n0 : w.cell? ⟨gn, 0, none⟩ = some (.pointer (some ⟨gr, 0, none⟩))
  n1 : w.cell? ⟨gn, 1, none⟩ = some (.int .i64 first)
  r0 : w.cell? ⟨gr, 0, none⟩ = some (.slice (some ⟨gq, 0, none⟩) n (n + ex))
  df : ∀ j, w.frozen? ⟨gx, j, none⟩ = false
theorem RT.putC (h : RT w gr gq gn gx base n first F L bad s) : ∃ ex A cA B cB, PutC w gr gq gn gx n first L bad ex A cA B cB ∧ OwnN w base (.slice A L.length cA) L ∧ OwnP w base (.slice B L.length cB) L.length (fun i => pageG F (L.getD i 0)) := by
  obtain ⟨vA, vB, h1, h2, h3⟩ := h.tx
  obtain ⟨A, cA, e⟩ := h2.form
  subst e
  obtain ⟨B, cB, e⟩ := h3.form
  subst e
  obtain ⟨ex, hex, hc0⟩ := h.rl.dx.c0
  exact ⟨ex, A, cA, B, cB, ⟨h1.cell (i := 0) (by omega), h1.cell (i := 1) (by omega), h1.cell (i := 2) (by omega), h1.cell (i := 3) (by omega), h.rl.c0, h.rl.c1, hc0 w (Below.refl _ _), fun j => h1.frozen _⟩, h2, h3⟩
set_option maxRecDepth 20000 in
set_option maxHeartbeats 4000000 in
theorem refPut_range (h : RT w gr gq gn gx base n first F L bad s) (z : Int) (hz : z < 0 ∨ (n : Int) ≤ z ∨ ((first : Int) ≤ z ∧ z ≤ first + 30)) (f : Nat → Nat) :
    Calls Try.prog 62 #[.pointer (some ⟨gx, 0, none⟩), .int .i64 z, pageV f] w fun e w' => e = .returned (.int .i64 27) ∧ RT w' gr gq gn gx base n first F L (badB bad 27) s ∧ Chg (pset w gx base) w w' := by
  have hn := h.rl.dx.n
  have hfit := h.rl.fit
  have fb : first ≤ 65536 := by omega
  have H := Lib.hid h
  clear h
  have key : ∀ w1, Below w.heap.size w w1 → RT w1 gr gq gn gx base n first F L (badB bad 27) s ∧ Chg (pset w gx base) w w1 ∨ bad = 0 := fun w1 hb => by
    by_cases hb0 : bad = 0
    · exact .inr hb0
    · left
      unfold badB
      rw [if_neg hb0]
      exact ⟨H.out.keep hb, Chg.of_below _ hb⟩
  have HKEY := Lib.hid key
  have key2 : ∀ w1, Below w.heap.size w w1 → bad = 0 → RT (w1.setCell ⟨gx, 3, none⟩ (.int .i64 27)) gr gq gn gx base n first F L (badB bad 27) s ∧ Chg (pset w gx base) w (w1.setCell ⟨gx, 3, none⟩ (.int .i64 27)) := fun w1 hb hb0 => by
    unfold badB
    rw [if_pos hb0]
    exact ⟨(H.out.keep hb).setBad 27, (Chg.of_below _ hb).one (one_setCell _ gx 3 _) (.inl (.inl rfl))⟩
  have HKEY2 := Lib.hid key2
  clear key key2
  have hways : z < 0 ∨ (¬ z < 0 ∧ (n : Int) ≤ z) ∨ (¬ z < 0 ∧ ¬ (n : Int) ≤ z ∧ (first : Int) ≤ z ∧ z ≤ first + 30) := by omega
  clear hz
  by_cases hb0 : bad = 0
  · have hbb : (bad == 0) = true := by rw [beq_iff_eq]; exact hb0
    have HB0 := Lib.hid hb0
    clear hb0
    rcases hways with h1 | ⟨h1, h2⟩ | ⟨h1, h2, h3, h4⟩
    all_goals
      go_enter Try.func62, Try.ntmps62
      go_wp2_with (with_reducible refine wpList_stop (some 5) rfl ?_)
      refine Lib.hid ?_
      refine wpList_box_row rfl 52 (.tmp 2) rfl (some 5) rfl 64 (pgC f) (by go_simp; try rfl) ?_
      intro w1 G hg1 hr1 hb1
      have HB1 := Lib.hid hb1
      obtain ⟨ex, A, cA, B, cB, hc, _, _⟩ := (H.out.keep hb1).putC
      have x0 := hc.x0
      have x3 := hc.x3
      have n0 := hc.n0
      have n1 := hc.n1
      have r0 := hc.r0
      have df := hc.df
      clear hr1 hb1 hc hg1
      go_wp2_with fail
      go_ret
      obtain ⟨k1, k2⟩ := HKEY2.out _ HB1.out HB0.out
      exact ⟨rfl, k1, k2⟩
  · have hbb : (bad == 0) = false := by rw [beq_eq_false_iff_ne]; exact hb0
    have HB0 := Lib.hid hb0
    clear hb0
    rcases hways with h1 | ⟨h1, h2⟩ | ⟨h1, h2, h3, h4⟩
    all_goals
      go_enter Try.func62, Try.ntmps62
      go_wp2_with (with_reducible refine wpList_stop (some 5) rfl ?_)
      refine Lib.hid ?_
      refine wpList_box_row rfl 52 (.tmp 2) rfl (some 5) rfl 64 (pgC f) (by go_simp; try rfl) ?_
      intro w1 G hg1 hr1 hb1
      have HB1 := Lib.hid hb1
      obtain ⟨ex, A, cA, B, cB, hc, _, _⟩ := (H.out.keep hb1).putC
      have x0 := hc.x0
      have x3 := hc.x3
      have n0 := hc.n0
      have n1 := hc.n1
      have r0 := hc.r0
      have df := hc.df
      clear hr1 hb1 hc hg1
      go_wp2_with fail
      go_ret
      rcases HKEY.out _ HB1.out with ⟨k1, k2⟩ | h
      · exact ⟨rfl, k1, k2⟩
      · exact absurd h HB0.out
end
end Go.Proofs.Ytonfnlohbgbffaa

set_option linter.unusedVariables false
set_option linter.unusedSimpArgs false
namespace Go.Proofs.Ytonfnlohbgbffaa
open Go.RowKit

section
variable {P : Program} {ops : Array Oper} {Q : Exit → Act → World → Prop} {md : Region.Mode} {oi : Oper} {fuel : Nat} {listed : Array Bool} {a : Act} {w : World} {S : Array Bool → World → Prop}
theorem wpAnyG_all {rs : List Nat} (hr : Region.ready md ops listed = rs) (hne : rs ≠ []) (h : ∀ i ∈ rs, wpOp P ops Q i (fun a' w' => S (listed.setIfInBounds i true) w' ∧ wpAnyG P md ops Q S fuel (listed.setIfInBounds i true) a' w') a w) : wpAnyG P md ops Q S (fuel + 1) listed a w :=
  ⟨fun h0 => absurd (hr.symm.trans h0) hne, fun i hi => h i (by rw [← hr]; exact hi)⟩
theorem loudBrG (i : Nat) (hi : ops[i]? = some oi) (hw : Region.wanted oi (yielded ops a.tmps) = true) (d : Option Tmp) (hd : oi.dst = d) (v : Value) (w' : World)
    (hrun : (execOp a.eval oi).run P w = .ok (.value v) w') (hS : S (listed.setIfInBounds i true) w') (h : wpAnyG P md ops Q S fuel (listed.setIfInBounds i true) (a.put d v) w') :
    wpOp P ops Q i (fun a' w' => S (listed.setIfInBounds i true) w' ∧ wpAnyG P md ops Q S fuel (listed.setIfInBounds i true) a' w') a w := by
  subst hd
  unfold wpOp
  rw [hi]
  simp only
  rw [if_pos hw]
  left
  unfold Oper.wp
  rw [hrun]
  exact ⟨hS, h⟩
theorem appendBrG (i : Nat) (hi : ops[i]? = some oi) (hw : Region.wanted oi (yielded ops a.tmps) = true) (d : Option Tmp) (hd : oi.dst = d) (s x : Operand) (t : TypeId)
    (ho : oi.op = .call { callee := .builtin .append, args := #[s, x], argTypes := #[t, t] })
    (base : Nat) (e : TypeId) (z : Value) (size bytes : Nat) (ht : P.underlying t = some (.slice e)) (hinfo : (P.info? e).map (fun i => (i.zero, i.size, i.bytes)) = some (some z, size, bytes)) (hzs : z.cells.size = size) (hsz : 0 < size)
    (v u : Value) (n m : Nat) (xs news : List Value) (hs : a.eval s = v) (hown : w.ownsRow base e size v n xs) (hx : a.eval x = u) (hsr : SR w u m size news) (h1 : ∀ u ∈ news, u.oneCell' = true)
    (h63 : n + m ≤ maxLen) (hbytes : (n + m) * bytes ≤ 140737488355328) (hbase : base ≤ w.heap.size)
    (h : ∀ v' w', w'.ownsRow base e size v' (n + m) (xs ++ news) → w.grownBy w' v.ownBlock → (v'.ownBlock = v.ownBlock ∨ v'.ownBlock = some w.heap.size) → S (listed.setIfInBounds i true) w' ∧ wpAnyG P md ops Q S fuel (listed.setIfInBounds i true) (a.put d v') w') :
    wpOp P ops Q i (fun a' w' => S (listed.setIfInBounds i true) w' ∧ wpAnyG P md ops Q S fuel (listed.setIfInBounds i true) a' w') a w := by
  obtain ⟨v', w', hrun, h2, h3, h4⟩ := run_append_sr (P := P) oi.type t base e z size bytes ht hinfo hzs hsz v u n m xs news hown hsr h1 h63 hbytes hbase
  obtain ⟨k1, k2⟩ := h v' w' h2 h3 h4
  refine loudBrG i hi hw d hd v' w' ?_ k1 k2
  unfold execOp
  simp only [ho, resolve, invoke, builtin, Sem.run_bind, Sem.run_pure, Result.andThen_ok, List.map_toArray, List.map_cons, List.map_nil, hs, hx, hrun]
end
section
variable {P : Program} {ops : Array Oper} {Q : Exit → Act → World → Prop} {md : Region.Mode} {fuel : Nat} {l : Array Bool} {a : Act} {wd : World} {oL oA oM : Oper} {S : Array Bool → World → Prop}
/-- A literal of none, an append onto it, a literal of one: whatever order. -/
theorem litAppLitG (iL iA iM : Nat) (dL dA dM : Tmp) (nLM : iL ≠ iM) (nAM : iA ≠ iM) (eLM : dL ≠ dM) (eAM : dA ≠ dM)
    (hL : ops[iL]? = some oL) (hA : ops[iA]? = some oA) (hM : ops[iM]? = some oM) (gL : oL.guard = none) (gA : oA.guard = none) (gM : oM.guard = none) (tL : oL.dst = some dL) (tA : oA.dst = some dA) (tM : oM.dst = some dM)
    (r0 : Region.ready md ops l = [iL, iM]) (r1 : Region.ready md ops (l.setIfInBounds iL true) = [iA, iM]) (r2 : Region.ready md ops ((l.setIfInBounds iL true).setIfInBounds iA true) = [iM]) (r3 : Region.ready md ops ((l.setIfInBounds iL true).setIfInBounds iM true) = [iA])
    (r4 : Region.ready md ops (l.setIfInBounds iM true) = [iL]) (r5 : Region.ready md ops ((l.setIfInBounds iM true).setIfInBounds iL true) = [iA])
    (e t : TypeId) (cm : Array Value) (yM : Operand) (vM : Value)
    (runL : ∀ (a : Act) w, (execOp a.eval oL).run P w = .ok (.value (.slice (some ⟨w.heap.size, 0, none⟩) 0 0)) (w.alloc (.cells #[] e)))
    (hoM : oM.op = .buildSlice t 1 #[(0, yM)]) (litM : ∀ w, (Instr.buildSlice t 1 #[(0, vM)]).run P w = .ok (.slice (some ⟨w.heap.size, 0, none⟩) 1 1) (w.alloc (.cells cm e)))
    (m0 : a.eval yM = vM) (m1 : ∀ u, (a.put (some dL) u).eval yM = vM) (m2 : ∀ u u', ((a.put (some dL) u).put (some dA) u').eval yM = vM)
    (x : Operand) (ho : oA.op = .call { callee := .builtin .append, args := #[.tmp dL, x], argTypes := #[t, t] }) (u : Value)
    (hd : ∀ v3, (a.put (some dL) v3).eval (.tmp dL) = v3) (hd' : ∀ v3 v8, ((a.put (some dL) v3).put (some dM) v8).eval (.tmp dL) = v3)
    (hx : ∀ v3, (a.put (some dL) v3).eval x = u) (hx' : ∀ v3 v8, ((a.put (some dL) v3).put (some dM) v8).eval x = u)
    (z : Value) (size bytes m : Nat) (news : List Value) (ht : P.underlying t = some (.slice e)) (hinfo : (P.info? e).map (fun i => (i.zero, i.size, i.bytes)) = some (some z, size, bytes)) (hzs : z.cells.size = size) (hsz : 0 < size)
    (hsr : SR wd u m size news) (h1 : ∀ u ∈ news, u.oneCell' = true) (h63 : m ≤ maxLen) (hbytes : m * bytes ≤ 140737488355328) (hcm : cm.size = size)
    (hSB : ∀ l w', Below wd.heap.size wd w' → S l w')
    (rest : ∀ L g ad c w', Below wd.heap.size wd w' → w'.ownsRow wd.heap.size e size (.slice ad m c) m news → SR w' (.slice (some ⟨g, 0, none⟩) 1 1) 1 size cm.toList →
      wpAnyG P md ops Q S fuel (((l.setIfInBounds iL true).setIfInBounds iA true).setIfInBounds iM true) (((a.put (some dL) (.slice (some ⟨L, 0, none⟩) 0 0)).put (some dA) (.slice ad m c)).put (some dM) (.slice (some ⟨g, 0, none⟩) 1 1)) w') :
    wpAnyG P md ops Q S (fuel + 3) l a wd := by
  have runM : ∀ (a : Act) w, a.eval yM = vM → (execOp a.eval oM).run P w = .ok (.value (.slice (some ⟨w.heap.size, 0, none⟩) 1 1)) (w.alloc (.cells cm e)) := fun a w hm => by
    unfold execOp
    simp only [hoM, List.map_toArray, List.map_cons, List.map_nil, hm, Sem.run_bind, litM w, Result.andThen_ok]
    rfl
  have wL : ∀ a, Region.wanted oL (yielded ops a) = true := fun a => by simp [Region.wanted, gL]
  have wA : ∀ a, Region.wanted oA (yielded ops a) = true := fun a => by simp [Region.wanted, gA]
  have wM : ∀ a, Region.wanted oM (yielded ops a) = true := fun a => by simp [Region.wanted, gM]
  have lit : ∀ w : World, Below wd.heap.size wd w → Below wd.heap.size wd (w.alloc (.cells #[] e)) ∧ (w.alloc (.cells #[] e)).ownsRow wd.heap.size e size (.slice (some ⟨w.heap.size, 0, none⟩) 0 0) 0 [] := fun w hb =>
    ⟨hb.alloc hb.size _, World.ownsRow_lit w #[] 0 hb.size (by simp [maxLen]) (by simp)⟩
  refine wpAnyG_all r0 (by simp) ?_
  intro i hi
  simp only [List.mem_cons, List.not_mem_nil, or_false] at hi
  rcases hi with rfl | rfl
  · obtain ⟨b1, own1⟩ := lit wd (Below.refl _ _)
    refine loudBrG _ hL (wL _) _ tL _ _ (runL a wd) (hSB _ _ b1) ?_
    refine wpAnyG_all r1 (by simp) ?_
    intro j hj
    simp only [List.mem_cons, List.not_mem_nil, or_false] at hj
    rcases hj with rfl | rfl
    · refine appendBrG _ hA (wA _) _ tA (.tmp dL) x t ho wd.heap.size e z size bytes ht hinfo hzs hsz _ u 0 m [] news (hd _) own1 (hx _) (hsr.keep b1) h1 (by simpa using h63) (by simpa using hbytes) b1.size ?_
      intro v' w' own' gr' at'
      rw [Nat.zero_add, List.nil_append] at own'
      obtain ⟨ad, c, rfl⟩ := own_form own'
      have b2 : Below wd.heap.size wd w' := b1.grown gr' b1.size (fun j hj => by simp [Value.ownBlock] at hj; omega)
      refine ⟨hSB _ _ b2, wpAnyG_all r2 (by simp) ?_⟩
      intro k hk
      obtain rfl : k = iM := by simpa using hk
      refine loudBrG _ hM (wM _) _ tM _ _ (runM _ w' (m2 _ _)) (hSB _ _ (b2.alloc b2.size _)) ?_
      exact rest _ _ _ _ _ (b2.alloc b2.size _) (own'.alloc _) (SR.lit (heap_alloc_last _ _) hcm)
    · refine loudBrG _ hM (wM _) _ tM _ _ (runM _ _ (m1 _)) (hSB _ _ (b1.alloc b1.size _)) ?_
      refine wpAnyG_all r3 (by simp) ?_
      intro k hk
      obtain rfl : k = iA := by simpa using hk
      refine appendBrG _ hA (wA _) _ tA (.tmp dL) x t ho wd.heap.size e z size bytes ht hinfo hzs hsz _ u 0 m [] news (hd' _ _) (own1.alloc _) (hx' _ _) (hsr.keep (b1.alloc b1.size _)) h1 (by simpa using h63) (by simpa using hbytes) (b1.alloc b1.size _).size ?_
      intro v' w' own' gr' at'
      rw [Nat.zero_add, List.nil_append] at own'
      obtain ⟨ad, c, rfl⟩ := own_form own'
      have b2 : Below wd.heap.size wd w' := (b1.alloc b1.size _).grown gr' (b1.alloc b1.size _).size (fun j hj => by simp [Value.ownBlock] at hj; omega)
      have hs1 : (wd.alloc (.cells #[] e)).heap.size = wd.heap.size + 1 := by simp
      have hs2 : ((wd.alloc (.cells #[] e)).alloc (.cells cm e)).heap.size = wd.heap.size + 2 := by simp
      have hrow := (gr'.block (wd.alloc (.cells #[] e)).heap.size (by omega) (by intro h; simp only [Value.ownBlock, Option.some.injEq] at h; omega)).trans (heap_alloc_last (wd.alloc (.cells #[] e)) (.cells cm e))
      refine ⟨hSB _ _ b2, ?_⟩
      have := rest wd.heap.size _ ad c w' b2 own' (SR.lit hrow hcm)
      rw [Array.setIfInBounds_comm _ _ nAM, put_comm _ _ _ _ _ eAM] at this
      exact this
  · have b0 : Below wd.heap.size wd (wd.alloc (.cells cm e)) := (Below.refl _ _).alloc (Nat.le_refl _) _
    have hs0 : (wd.alloc (.cells cm e)).heap.size = wd.heap.size + 1 := by simp
    refine loudBrG _ hM (wM _) _ tM _ _ (runM _ wd m0) (hSB _ _ b0) ?_
    refine wpAnyG_all r4 (by simp) ?_
    intro j hj
    obtain rfl : j = iL := by simpa using hj
    obtain ⟨b1, own1⟩ := lit _ b0
    have hs1 : ((wd.alloc (.cells cm e)).alloc (.cells #[] e)).heap.size = wd.heap.size + 2 := by simp
    refine loudBrG _ hL (wL _) _ tL _ _ (runL _ _) (hSB _ _ b1) ?_
    refine wpAnyG_all r5 (by simp) ?_
    intro k hk
    obtain rfl : k = iA := by simpa using hk
    rw [put_comm _ _ _ _ _ (Ne.symm eLM)]
    refine appendBrG _ hA (wA _) _ tA (.tmp dL) x t ho wd.heap.size e z size bytes ht hinfo hzs hsz _ u 0 m [] news (hd' _ _) own1 (hx' _ _) (hsr.keep b1) h1 (by simpa using h63) (by simpa using hbytes) b1.size ?_
    intro v' w' own' gr' at'
    rw [Nat.zero_add, List.nil_append] at own'
    obtain ⟨ad, c, rfl⟩ := own_form own'
    have b2 : Below wd.heap.size wd w' := b1.grown gr' b1.size (fun j hj => by simp [Value.ownBlock] at hj; omega)
    have hrow0 : ((wd.alloc (.cells cm e)).alloc (.cells #[] e)).heap[wd.heap.size]? = some (.cells cm e (0, 0)) := by
      rw [(bnew (wd.alloc (.cells cm e)) (.cells #[] e)).block wd.heap.size (by omega)]
      exact heap_alloc_last wd (.cells cm e)
    have hrow := (gr'.block wd.heap.size (by omega) (by intro h; simp only [Value.ownBlock, Option.some.injEq] at h; omega)).trans hrow0
    rw [Array.setIfInBounds_comm _ _ (Ne.symm nLM)]
    refine ⟨hSB _ _ b2, ?_⟩
    have := rest (wd.alloc (.cells cm e)).heap.size wd.heap.size ad c w' b2 own' (SR.lit hrow hcm)
    rw [Array.setIfInBounds_comm _ _ nAM, put_comm _ _ _ _ _ eAM] at this
    exact this
end
end Go.Proofs.Ytonfnlohbgbffaa

set_option linter.unusedVariables false
set_option linter.unusedSimpArgs false
namespace Go.Proofs.Ytonfnlohbgbffaa
open Go.RowKit

section
variable {w w' : World} {gr gq gn gx base n first : Nat} {F : Int → Option (Nat → Nat)} {L : List Nat} {bad : Int} {s s' : DSt}
theorem RT.parts (h : RT w gr gq gn gx base n first F L bad s) : ∃ ex A cA B cB, w.rowIs gx 121 4 (txR gn (.slice A L.length cA) (.slice B L.length cB) bad) ∧ OwnN w base (.slice A L.length cA) L ∧ OwnP w base (.slice B L.length cB) L.length (fun i => pageG F (L.getD i 0)) ∧
    ∀ w', Below w.heap.size w w' → PutC w' gr gq gn gx n first L bad ex A cA B cB := by
  obtain ⟨vA, vB, h1, h2, h3⟩ := h.tx
  obtain ⟨A, cA, e⟩ := h2.form
  subst e
  obtain ⟨B, cB, e⟩ := h3.form
  subst e
  obtain ⟨ex, hex, hc0⟩ := h.rl.dx.c0
  refine ⟨ex, A, cA, B, cB, h1, h2, h3, fun w' hb => ?_⟩
  have h1' := rowIs_below h1 hb
  exact ⟨h1'.cell (i := 0) (by omega), h1'.cell (i := 1) (by omega), h1'.cell (i := 2) (by omega), h1'.cell (i := 3) (by omega), (h.rl.keep hb).c0, (h.rl.keep hb).c1, hc0 w' hb, fun j => h1'.frozen _⟩
set_option maxRecDepth 20000 in
set_option maxHeartbeats 4000000 in
theorem refPut_many (h : RT w gr gq gn gx base n first F L bad s) (k : Nat) (hk : k < n) (hr : k < first ∨ first + 30 < k) (hF : F k = none) (hN : L.length = 30) (f : Nat → Nat) :
    Calls Try.prog 62 #[.pointer (some ⟨gx, 0, none⟩), .int .i64 k, pageV f] w fun e w' => e = .returned (.int .i64 23) ∧ RT w' gr gq gn gx base n first F L (badB bad 23) s ∧ Chg (pset w gx base) w w' := by
  have hn := h.rl.dx.n
  have hfit := h.rl.fit
  have h30 := h.len
  have fb : first ≤ 65536 := by omega
  have H := Lib.hid h
  have z0 : ¬ (k : Int) < 0 := by omega
  have z0' : decide ((k : Int) < 0) = false := by rw [decide_eq_false_iff_not]; omega
  have z1 : ¬ (n : Int) ≤ k := by omega
  have z1' : decide ((n : Int) ≤ k) = false := by rw [decide_eq_false_iff_not]; omega
  have z1n : decide (n ≤ k) = false := by rw [decide_eq_false_iff_not]; omega
  have HNO := Lib.hid (show k ∉ L from fun e => absurd hF (h.keys.yes k e))
  have HKEY := Lib.hid (show ∀ w1, Below w.heap.size w w1 → bad ≠ 0 → RT w1 gr gq gn gx base n first F L (badB bad 23) s ∧ Chg (pset w gx base) w w1 from fun w1 hb hb0 => by
    unfold badB
    rw [if_neg hb0]
    exact ⟨H.out.keep hb, Chg.of_below _ hb⟩)
  have HKEY2 := Lib.hid (show ∀ w1, Below w.heap.size w w1 → bad = 0 → RT (w1.setCell ⟨gx, 3, none⟩ (.int .i64 23)) gr gq gn gx base n first F L (badB bad 23) s ∧ Chg (pset w gx base) w (w1.setCell ⟨gx, 3, none⟩ (.int .i64 23)) from fun w1 hb hb0 => by
    unfold badB
    rw [if_pos hb0]
    exact ⟨(H.out.keep hb).setBad 23, (Chg.of_below _ hb).one (one_setCell _ gx 3 _) (.inl (.inl rfl))⟩)
  have hways : ((first : Int) ≤ k ∧ decide ((k : Int) ≤ first + 30) = false ∧ first ≤ k) ∨ (decide ((first : Int) ≤ k) = false ∧ decide (first ≤ k) = false ∧ ¬ first ≤ k) := by
    by_cases h : (first : Int) ≤ k
    · exact .inl ⟨h, by rw [decide_eq_false_iff_not]; omega, by omega⟩
    · exact .inr ⟨by rw [decide_eq_false_iff_not]; exact h, by rw [decide_eq_false_iff_not]; omega, by omega⟩
  have g30 : (30 : Int) ≤ L.length := by omega
  have gL : ¬ (L.length : Int) < 30 := by omega
  have hbw : bad = 0 ∨ bad ≠ 0 := by omega
  clear h hr hF hk hN
  rcases hways with ⟨z2, z3, z4⟩ | ⟨z2, z3, z4⟩
  all_goals
    rcases hbw with hb0 | hb0
  all_goals
    have hbb : bad = 0 → (bad == 0) = true := fun h => by rw [beq_iff_eq]; exact h
    have hbn : bad ≠ 0 → (bad == 0) = false := fun h => by rw [beq_eq_false_iff_ne]; exact h
    have HB0 := Lib.hid hb0
    first
      | (have hb2 := hbb hb0)
      | (have hb2 := hbn hb0)
    clear hbb hbn hb0
    go_enter Try.func62, Try.ntmps62
    go_wp2_with (with_reducible refine wpList_stop (some 5) rfl ?_)
    refine Lib.hid ?_
    refine wpList_box_row rfl 52 (.tmp 2) rfl (some 5) rfl 64 (pgC f) (by go_simp; try rfl) ?_
    intro w1 G hg1 hr1 hb1
    have HG := Lib.hid hg1
    have HR1 := Lib.hid hr1
    have HB1 := Lib.hid hb1
    have H1 := Lib.hid (H.out.keep hb1)
    obtain ⟨ex, A, cA, B, cB, hc, hoA, hoB⟩ := H1.out.putC
    have HCC := Lib.hid hc
    have HOA := Lib.hid hoA
    have HOB := Lib.hid hoB
    have x0 := hc.x0
    have n0 := hc.n0
    have n1 := hc.n1
    have r0 := hc.r0
    clear hr1 hb1 hg1 hc hoA hoB

    have x1 := HCC.out.x1
    have x3 := HCC.out.x3
    have df := HCC.out.df
    go_wp2_with fail
    refine (refFind_in H1.out _).mono ?_
    rintro e w2 ⟨r, rfl, hfp, rfl⟩
    obtain rfl : r = -1 := by
      rcases hfp with ⟨i, hi, rfl, hiz⟩ | ⟨h, _⟩
      · exfalso
        refine HNO.out ?_
        rw [List.getD_eq_getElem?_getD, List.getElem?_eq_getElem hi] at hiz
        have : k = L[i] := by
          have h1 : ((L[i] : Nat) : Int) = (k : Int) := hiz
          omega
        rw [this]
        exact List.getElem_mem hi
      · exact h
    clear hfp
    go_wp2_with fail
    go_ret
    first
      | (obtain ⟨k1, k2⟩ := HKEY2.out _ HB1.out HB0.out
         exact ⟨rfl, k1, k2⟩)
      | (obtain ⟨k1, k2⟩ := HKEY.out _ HB1.out HB0.out
         exact ⟨rfl, k1, k2⟩)
set_option maxRecDepth 20000 in
set_option maxHeartbeats 4000000 in
theorem refPut_old (h : RT w gr gq gn gx base n first F L bad s) (k : Nat) (hk : k < n) (hr : k < first ∨ first + 30 < k) (hF : F k ≠ none) {f : Nat → Nat} (hf : ∀ i, f i ≤ 255) :
    Calls Try.prog 62 #[.pointer (some ⟨gx, 0, none⟩), .int .i64 k, pageV f] w fun e w' => e = .returned (.int .i64 0) ∧ RT w' gr gq gn gx base n first (putF F (k : Int) f) L bad s ∧ Chg (pset w gx base) w w' := by
  have hn := h.rl.dx.n
  have hfit := h.rl.fit
  have h30 := h.len
  have fb : first ≤ 65536 := by omega
  have H := Lib.hid h
  have z0 : ¬ (k : Int) < 0 := by omega
  have z0' : decide ((k : Int) < 0) = false := by rw [decide_eq_false_iff_not]; omega
  have z1 : ¬ (n : Int) ≤ k := by omega
  have z1' : decide ((n : Int) ≤ k) = false := by rw [decide_eq_false_iff_not]; omega
  have z1n : decide (n ≤ k) = false := by rw [decide_eq_false_iff_not]; omega
  obtain ⟨ex, A, cA, B, cB, htx, hoA, hoB, hpc⟩ := h.parts
  have HTX := Lib.hid htx
  have HOA := Lib.hid hoA
  have HOB := Lib.hid hoB
  have HPC := Lib.hid hpc
  clear htx hoA hoB hpc
  have HYES := Lib.hid (show k ∈ L from by
    obtain ⟨y, hy, e⟩ := h.keys.all _ hF
    obtain rfl : k = y := by omega
    exact hy)
  have HOK := Lib.hid (show ∀ x f', putF F (k : Int) f x = some f' → (∀ i, f' i ≤ 255) ∧ 0 ≤ x ∧ x < n ∧ ¬ (first ≤ x ∧ x ≤ first + 30) from fun x f' hx => by
    unfold putF at hx
    by_cases e : x = (k : Int)
    · rw [if_pos e] at hx
      injection hx with hx
      subst hx
      exact ⟨hf, by omega, by omega, by omega⟩
    · rw [if_neg e] at hx
      exact h.ok x f' hx)
  have hways : ((first : Int) ≤ k ∧ decide ((k : Int) ≤ first + 30) = false ∧ first ≤ k) ∨ (decide ((first : Int) ≤ k) = false ∧ decide (first ≤ k) = false ∧ ¬ first ≤ k) := by
    by_cases h : (first : Int) ≤ k
    · exact .inl ⟨h, by rw [decide_eq_false_iff_not]; omega, by omega⟩
    · exact .inr ⟨by rw [decide_eq_false_iff_not]; exact h, by rw [decide_eq_false_iff_not]; omega, by omega⟩
  clear h hr hF hk hf
  rcases hways with ⟨z2, z3, z4⟩ | ⟨z2, z3, z4⟩
  all_goals
    go_enter Try.func62, Try.ntmps62
    go_wp2_with (with_reducible refine wpList_stop (some 5) rfl ?_)
    refine Lib.hid ?_
    refine wpList_box_row rfl 52 (.tmp 2) rfl (some 5) rfl 64 (pgC f) (by go_simp; try rfl) ?_
    intro w1 G hg1 hr1 hb1
    have HG := Lib.hid hg1
    have HR1 := Lib.hid hr1
    have HB1 := Lib.hid hb1
    have H1 := Lib.hid (H.out.keep hb1)
    have HTX1 := Lib.hid (rowIs_below HTX.out hb1)
    have HOA1 := Lib.hid (HOA.out.keep hb1)
    have HOB1 := Lib.hid (HOB.out.keep hb1)
    have x0 := (HPC.out w1 hb1).x0
    have n0 := (HPC.out w1 hb1).n0
    have n1 := (HPC.out w1 hb1).n1
    have r0 := (HPC.out w1 hb1).r0
    clear hr1 hb1 hg1

    go_wp2_with fail
    clear x0 n0 n1 r0 z0 z0' z1 z1' z1n z2 z3 z4
    refine (refFind_in H1.out _).mono ?_
    rintro e w2 ⟨r, rfl, hfp, rfl⟩
    obtain ⟨i, hi, rfl, hiz⟩ : ∃ i, i < L.length ∧ r = (i : Int) ∧ ((L.getD i 0 : Nat) : Int) = (k : Int) := by
      rcases hfp with h | ⟨_, h⟩
      · exact h
      · exfalso
        obtain ⟨i, hi, e⟩ := List.getElem_of_mem HYES.out
        refine h i hi ?_
        rw [List.getD_eq_getElem?_getD, List.getElem?_eq_getElem hi]
        show ((L[i] : Nat) : Int) = _
        rw [e]
    have hik : L.getD i 0 = k := by omega
    obtain ⟨g, cap, hv, hbg, hp⟩ := PgAt.ofOwn HOB1.out (by omega)
    have hrow0 : ∃ N C, w.rowIs g 52 N C := by
      obtain ⟨g', cap', hv', _, hp'⟩ := PgAt.ofOwn HOB.out (by omega)
      rw [hv] at hv'
      injection hv' with e1 _ _
      injection e1 with e1
      injection e1 with e1 _ _
      obtain ⟨C, h1, _⟩ := hp'.row
      exact ⟨_, C, by rw [e1]; exact h1⟩
    have hgw : g < w.heap.size := (HOB.out.lt g (by rw [hv]; rfl)).2
    injection hv with e1 _ e3
    subst e1
    subst e3
    have hne := H1.out.ne
    have hbl := H1.out.lt
    have HNG := Lib.hid (show g ≠ gx ∧ g ≠ gr ∧ g ≠ gq ∧ g ≠ gn ∧ g ≠ G from by have := HG.out; omega)
    obtain ⟨wS, hwS⟩ : ∃ wS, wS = (World.drew w2).setCells g (i * 64) (rowArr 64 (pgC f)).toList := ⟨_, rfl⟩
    have hpS : PgAt wS g L.length cB (setBlk (fun i => pageG F (L.getD i 0)) i f) := by
      rw [hwS]
      exact PgAt.set (show PgAt (World.drew w2) g L.length cB (fun i => pageG F (L.getD i 0)) from hp.keep (drewb w2)) i hi f
    have oS : One w2 wS (some g) := by
      rw [hwS]
      have o := one_setCells (World.drew w2) g (rowArr 64 (pgC f)).toList (i * 64)
      exact ⟨o.os, o.tape, o.output, o.size, o.block⟩
    obtain ⟨C, hC1, hC2⟩ := hp.row
    have hCD : (World.drew w2).rowIs g 52 (cB * 64) C := hC1
    have hle := hp.le
    have HCS := Lib.hid (show ∀ j, j < (rowArr 64 (pgC f)).size → ((World.drew w2).cell? ⟨g, i * 64 + j, none⟩).isSome = true from fun j hj => by rw [rowArr_size] at hj; rw [hCD.cell (by omega)]; rfl)
    have HFS := Lib.hid (show ∀ j, j < (rowArr 64 (pgC f)).size → (World.drew w2).frozen? ⟨g, i * 64 + j, none⟩ = false from fun j hj => hCD.frozen _)
    have HFIN := Lib.hid (show RT wS gr gq gn gx base n first (putF F (k : Int) f) L bad s from by
      refine ⟨H1.out.rl.one oS ⟨HNG.out.2.1, HNG.out.2.2.1, HNG.out.2.2.2.1⟩, ⟨_, _, rowIs_one HTX1.out oS HNG.out.1.symm, own_one HOA1.out oS (fun x hx e => own_ne_row HOA1.out hC1 x hx (by cases e; rfl)), ?_⟩, ⟨hbl.1, Nat.le_trans hbl.2 oS.size⟩, H1.out.keys.again HYES.out f, h30, HOK.out⟩
      have h1 := hpS.own hbg
      unfold OwnP at h1 ⊢
      rw [pgsV_congr (V' := fun j => pageG (putF F (k : Int) f) (L.getD j 0)) (fun j hj => ?_)] at h1
      · exact h1
      · unfold setBlk
        by_cases e : j = i
        · rw [if_pos e, e, hik, putF_same]
        · rw [if_neg e, putF_other f (fun e2 => ?_)]
          have hu := List.pairwise_iff_getElem.1 H1.out.keys.up
          rw [← hik] at e2
          rw [List.getD_eq_getElem?_getD, List.getD_eq_getElem?_getD, List.getElem?_eq_getElem hj, List.getElem?_eq_getElem hi] at e2
          have e3 : L[j] = L[i] := e2
          rcases Nat.lt_or_ge j i with h | h
          · have := hu j i hj hi h; omega
          · have := hu i j hi hj (by omega); omega)
    have HCH := Lib.hid (show Chg (pset w gx base) w wS from (Chg.of_below _ HB1.out).one oS (.inl (.inr ⟨hbg, hrow0⟩)))
    have hxx : wS.rowIs gx 121 4 (txR gn (.slice A L.length cA) (.slice (some ⟨g, 0, none⟩) L.length cB) bad) := rowIs_one HTX1.out oS HNG.out.1.symm
    have HX2 := Lib.hid (show ∀ w', (w' = World.drew w2 ∨ w' = wS) → w'.cell? ⟨gx, 2, none⟩ = some (.slice (some ⟨g, 0, none⟩) L.length cB) from fun w' hw => by
      rcases hw with rfl | rfl
      · exact (HPC.out w2 HB1.out).x2
      · exact hxx.cell (i := 2) (by omega))
    have HRG := Lib.hid (show ∀ w', (w' = World.drew w2 ∨ w' = wS) → w'.rowIs G 52 64 (pgC f) from fun w' hw => by
      rcases hw with rfl | rfl
      · exact HR1.out
      · exact rowIs_one HR1.out oS HNG.out.2.2.2.2.symm)
    have HWS := Lib.hid hwS
    have hbs : (Try.prog.info? 52).map (·.size) = some (rowArr 64 (pgC f)).size := by rw [rowArr_size]; exact block_size
    have g1 : (i : Int) < L.length := by omega
    have g0 : decide ((i : Int) < 0) = false := by rw [decide_eq_false_iff_not]; omega
    clear hfp hiz hik hbg hgw hp hne hbl hpS oS hC1 hC2 hCD hxx hwS
    go_upto_region 6 with fail
    refine wp_region_held (S := fun w' => w' = World.drew w2 ∨ w' = wS) (by kernel_rfl) ?_
    change wpAnyH _ _ _ _ _ _ _ _ (World.drew _)
    refine takeH 0 (.pointer (some ⟨gx, 0, none⟩)) (some 55) rfl rfl (by kernel_rfl) (by kernel_rfl) (by kernel_rfl) (fun _ _ _ h => h) (.inl ⟨by kernel_rfl, fun w _ => by go_simp⟩) (.inl rfl) ?_
    refine takeH 1 (.pointer (some ⟨gx, 0, none⟩)) (some 56) rfl rfl (by kernel_rfl) (by kernel_rfl) (by kernel_rfl) (fun _ _ _ h => h) (.inl ⟨by kernel_rfl, fun w _ => by go_simp⟩) (.inl rfl) ?_
    refine takeH 2 (.pointer (some ⟨gx, 2, none⟩)) (some 57) rfl rfl (by kernel_rfl) (by kernel_rfl) (by kernel_rfl) (fun _ _ _ h => h) (.inl ⟨by kernel_rfl, fun w _ => by go_simp⟩) (.inl rfl) ?_
    refine takeH 3 (.slice (some ⟨g, 0, none⟩) L.length cB) (some 58) rfl rfl (by kernel_rfl) (by kernel_rfl) (by kernel_rfl) (fun _ _ _ h => h) (.inl ⟨by kernel_rfl, fun w hw => by have hc := HX2.out w hw; go_simp⟩) (.inl rfl) ?_
    refine takeH 4 (.int .i64 i) (some 59) rfl rfl (by kernel_rfl) (by kernel_rfl) (by kernel_rfl) (fun _ _ _ h => h) (.inl ⟨by kernel_rfl, fun w _ => by go_simp⟩) (.inl rfl) ?_
    refine takeH 5 (pageV f) (some 60) rfl rfl (by kernel_rfl) (by kernel_rfl) (by kernel_rfl) (fun _ _ _ h => h) (yi_row (by kernel_rfl) 52 (.tmp 5) rfl G 64 (pgC f) (by go_simp) (fun w hw => HRG.out w hw) _ block_under rfl block_size) (.inl rfl) ?_
    refine takeH 6 (.pointer (some ⟨g, i * 64, none⟩)) (some 61) rfl rfl (by kernel_rfl) (by kernel_rfl) (by kernel_rfl) (fun _ _ _ h => h) (.inl ⟨by kernel_rfl, fun w _ => by go_simp⟩) (.inl rfl) ?_
    refine storeH 7 rfl ?hw (by kernel_rfl) (by kernel_rfl) 52 (.tmp 61) (.tmp 60) rfl rfl g (i * 64) (rowArr 64 (pgC f)) ?hx ?hy hbs HCS.out HFS.out (pgC_one f) ?hS ?h
    case hw => rfl
    case hx => go_simp
    case hy => go_simp; try rfl
    case hS => exact fun w' hw' => .inr (hw'.trans HWS.out.symm)
    intro w' hw'
    obtain rfl : w' = wS := hw'.trans HWS.out.symm
    clear hw'
    go_simp
    go_wp2_with fail
    go_ret
    exact ⟨rfl, HFIN.out, HCH.out⟩
end
end Go.Proofs.Ytonfnlohbgbffaa

set_option linter.unusedVariables false
set_option linter.unusedSimpArgs false
namespace Go.Proofs.Ytonfnlohbgbffaa
open Go.RowKit

section
variable {w w' : World} {gr gq gn gx base n first : Nat} {F : Int → Option (Nat → Nat)} {L : List Nat} {bad : Int} {s s' : DSt}
theorem litInt (z : Int) (w : World) : (Instr.buildSlice 65 1 #[(0, .int .i64 z)]).run Try.prog w = .ok (.slice (some ⟨w.heap.size, 0, none⟩) 1 1) (w.alloc (.cells #[.int .i64 z] 3)) := by go_simp
theorem natV_one (l : List Nat) : ∀ v ∈ natV l, v.oneCell' = true := fun v hv => by
  obtain ⟨z, _, rfl⟩ := List.mem_map.1 hv
  rfl
theorem pgsV_one (n : Nat) (V : Nat → Nat → Nat) : ∀ v ∈ pgsV n V, v.oneCell' = true := fun v hv => by
  obtain ⟨i, hi⟩ := List.mem_iff_getElem?.1 hv
  unfold pgsV at hi
  obtain ⟨h2, rfl⟩ := rowArr_get _ _ _ _ hi
  rfl
set_option maxRecDepth 20000 in
set_option maxHeartbeats 8000000 in
theorem refPut_new (h : RT w gr gq gn gx base n first F L bad s) (k : Nat) (hk : k < n) (hr : k < first ∨ first + 30 < k) (hF : F k = none) (hN : L.length < 30) {f : Nat → Nat} (hf : ∀ i, f i ≤ 255) :
    Calls Try.prog 62 #[.pointer (some ⟨gx, 0, none⟩), .int .i64 k, pageV f] w fun e w' => e = .returned (.int .i64 0) ∧ (∃ L', RT w' gr gq gn gx base n first (putF F (k : Int) f) L' bad s) ∧ Chg (pset w gx base) w w' := by
  have hn := h.rl.dx.n
  have hfit := h.rl.fit
  have h30 := h.len
  have fb : first ≤ 65536 := by omega
  have H := Lib.hid h
  have z0 : ¬ (k : Int) < 0 := by omega
  have z0' : decide ((k : Int) < 0) = false := by rw [decide_eq_false_iff_not]; omega
  have z1 : ¬ (n : Int) ≤ k := by omega
  have z1' : decide ((n : Int) ≤ k) = false := by rw [decide_eq_false_iff_not]; omega
  have z1n : decide (n ≤ k) = false := by rw [decide_eq_false_iff_not]; omega
  obtain ⟨ex, A, cA, B, cB, htx, hoA, hoB, hpc⟩ := h.parts
  have HTX := Lib.hid htx
  have HOA := Lib.hid hoA
  have HOB := Lib.hid hoB
  have HPC := Lib.hid hpc
  clear htx hoA hoB hpc
  have HNO := Lib.hid (show k ∉ L from fun e => absurd hF (h.keys.yes k e))
  have HOK := Lib.hid (show ∀ x f', putF F (k : Int) f x = some f' → (∀ i, f' i ≤ 255) ∧ 0 ≤ x ∧ x < n ∧ ¬ (first ≤ x ∧ x ≤ first + 30) from fun x f' hx => by
    unfold putF at hx
    by_cases e : x = (k : Int)
    · rw [if_pos e] at hx
      injection hx with hx
      subst hx
      exact ⟨hf, by omega, by omega, by omega⟩
    · rw [if_neg e] at hx
      exact h.ok x f' hx)
  have hways : ((first : Int) ≤ k ∧ decide ((k : Int) ≤ first + 30) = false ∧ first ≤ k) ∨ (decide ((first : Int) ≤ k) = false ∧ decide (first ≤ k) = false ∧ ¬ first ≤ k) := by
    by_cases h : (first : Int) ≤ k
    · exact .inl ⟨h, by rw [decide_eq_false_iff_not]; omega, by omega⟩
    · exact .inr ⟨by rw [decide_eq_false_iff_not]; exact h, by rw [decide_eq_false_iff_not]; omega, by omega⟩
  have g30 : decide ((30 : Int) ≤ L.length) = false := by rw [decide_eq_false_iff_not]; omega
  have g30n : decide (30 ≤ L.length) = false := by rw [decide_eq_false_iff_not]; omega
  have HSI := Lib.hid (HOA.out.ints (fun k hk => by have := (h.lts k hk).1; omega))
  clear h hr hF hk hf
  rcases hways with ⟨z2, z3, z4⟩ | ⟨z2, z3, z4⟩
  all_goals
    go_enter Try.func62, Try.ntmps62
    go_wp2_with (with_reducible refine wpList_stop (some 5) rfl ?_)
    refine Lib.hid ?_
    refine wpList_box_row rfl 52 (.tmp 2) rfl (some 5) rfl 64 (pgC f) (by go_simp; try rfl) ?_
    intro w1 G hg1 hr1 hb1
    have HG := Lib.hid hg1
    have HR1 := Lib.hid hr1
    have HB1 := Lib.hid hb1
    have H1 := Lib.hid (H.out.keep hb1)
    have HTX1 := Lib.hid (rowIs_below HTX.out hb1)
    have HOA1 := Lib.hid (HOA.out.keep hb1)
    have HOB1 := Lib.hid (HOB.out.keep hb1)
    have x0 := (HPC.out w1 hb1).x0
    have n0 := (HPC.out w1 hb1).n0
    have n1 := (HPC.out w1 hb1).n1
    have r0 := (HPC.out w1 hb1).r0
    clear hr1 hb1 hg1

    go_wp2_with fail
    clear x0 n0 n1 r0 z0 z0' z1 z1' z1n z2 z3 z4
    refine (refFind_in H1.out _).mono ?_
    rintro e w2 ⟨r, rfl, hfp, rfl⟩
    obtain rfl : r = -1 := by
      rcases hfp with ⟨i, hi, rfl, hiz⟩ | ⟨h, _⟩
      · exfalso
        refine HNO.out ?_
        rw [List.getD_eq_getElem?_getD, List.getElem?_eq_getElem hi] at hiz
        have : k = L[i] := by
          have h1 : ((L[i] : Nat) : Int) = (k : Int) := hiz
          omega
        rw [this]
        exact List.getElem_mem hi
      · exact h
    clear hfp
    have x1 := (HPC.out w2 HB1.out).x1
    have HSI1 := Lib.hid (HSI.out.keep HB1.out)
    go_upto_block 0 with fail
    go_cut [9] (fun s9 wx => ∃ j, j ≤ L.length ∧ s9 = .int .i64 ((j : Nat) : Int) ∧ wx = w2 ∧ (∀ i, i < j → L.getD i 0 < k) ∧ (j < L.length → k ≤ L.getD j 0))
    case first =>
      go_wp2_with fail
      go_loopw [9] (fun r wx => ∃ j : Nat, j ≤ L.length ∧ r = .int .i64 j ∧ wx = w2 ∧ ∀ i, i < j → L.getD i 0 < k) (fun r _ => L.length - (intOf r).toNat)
      case atStart => exact ⟨0, by omega, rfl, rfl, fun i hi => by omega⟩
      case round =>
        obtain ⟨j, hj, rfl, rfl, hlo⟩ := hrel
        have HLO := Lib.hid hlo
        clear hlo
        by_cases hjl : j < L.length
        · have g1 : (j : Int) < L.length := by omega
          obtain ⟨x, hx⟩ : ∃ x, x = L.getD j 0 := ⟨_, rfl⟩
          obtain ⟨g0, off, hA, hcz⟩ : ∃ g0 off, A = some ⟨g0, off, none⟩ ∧ wr.cell? ⟨g0, off + j, none⟩ = some (.int .i64 x) := by
            rcases HSI1.out.cases with ⟨h, _⟩ | ⟨_, g0, off, c1, hs, _, _, hg, hc⟩
            · have := natInts_len L
              rw [h] at this; simp at this; omega
            have hcz := hc j (by rw [natInts_len]; exact hjl)
            injection hs with e1 e2 e3
            refine ⟨g0, off, e1, ?_⟩
            rw [hcz, hx]
            unfold natInts
            simp [List.getD_eq_getElem?_getD, List.getElem?_eq_getElem hjl]
          subst hA
          have HXX := Lib.hid hx
          clear hx
          by_cases hxk : x < k
          · have g2 : (x : Int) < k := by omega
            have HLO2 := Lib.hid (show ∀ i, i < j + 1 → L.getD i 0 < k from fun i hi => by
              rcases Nat.lt_or_ge i j with h | h
              · exact HLO.out i h
              · obtain rfl : i = j := by omega
                rw [← HXX.out]
                exact hxk)
            go_wp2_with fail
            go_roundw
            case rel => exact ⟨j + 1, by omega, by go_num, by trivial, HLO2.out⟩
            case measure => simp [intOf]; omega
          · have g2 : decide ((x : Int) < k) = false := by rw [decide_eq_false_iff_not]; omega
            have g3 : decide (x < k) = false := by rw [decide_eq_false_iff_not]; exact hxk
            go_wp2_with fail
            go_meet
            exact ⟨j, hj, rfl, rfl, HLO.out, fun _ => by rw [← HXX.out]; omega⟩
        · obtain rfl : j = L.length := by omega
          go_wp2_with fail
          go_meet
          exact ⟨L.length, hj, rfl, rfl, HLO.out, fun h => by omega⟩
    case rest =>
      obtain ⟨j, hj, rfl, rfl, hlo, hhi⟩ := hcut
      have HKEYS := Lib.hid (H1.out.keys.put hj HNO.out hlo hhi f)
      clear hlo hhi x1
      go_at_K
      go_step
      go_upto_region 12 with fail
      have HNA := Lib.hid (own_none HOA1.out)
      have HNB := Lib.hid (own_none HOB1.out)
      have HXC1 := Lib.hid (show ∀ w', Below wc.heap.size wc w' → w'.cell? ⟨gx, 1, none⟩ = some (.slice A L.length cA) from fun w' hb => (HPC.out w' (bnext HB1.out hb)).x1)
      have HTA := Lib.hid (show wc.rowIs gx 121 4 (txR gn (.slice A L.length cA) (.slice B L.length cB) bad) from HTX1.out)
      have hS0 : ∀ l, Stage (fun _ => True) [(21, fun w' : World => Below wc.heap.size wc w')] l (World.drew wc) := fun l => Stage.one trivial (fun _ => drewb wc)
      refine wp_region_gen (S := Stage (fun _ => True) [(21, fun w' : World => Below wc.heap.size wc w')]) (by kernel_rfl) ?_
      change wpAnyG _ _ _ _ _ _ _ _ (World.drew _)
      refine takeG 0 (.pointer (some ⟨gx, 0, none⟩)) (some 88) rfl rfl (by kernel_rfl) (by kernel_rfl) (by kernel_rfl) (by kernel_rfl) (fun _ _ _ h => h) (.inl ⟨by kernel_rfl, fun w _ => by go_simp⟩) (hS0 _) ?_
      refine takeG 2 (.pointer (some ⟨gx, 0, none⟩)) (some 90) rfl rfl (by kernel_rfl) (by kernel_rfl) (by kernel_rfl) (by kernel_rfl) (fun _ _ _ h => h) (.inl ⟨by kernel_rfl, fun w _ => by go_simp⟩) (hS0 _) ?_
      refine takeG 3 (.pointer (some ⟨gx, 0, none⟩)) (some 91) rfl rfl (by kernel_rfl) (by kernel_rfl) (by kernel_rfl) (by kernel_rfl) (fun _ _ _ h => h) (.inl ⟨by kernel_rfl, fun w _ => by go_simp⟩) (hS0 _) ?_
      refine takeG 4 (.pointer (some ⟨gx, 1, none⟩)) (some 92) rfl rfl (by kernel_rfl) (by kernel_rfl) (by kernel_rfl) (by kernel_rfl) (fun _ _ _ h => h) (.inl ⟨by kernel_rfl, fun w _ => by go_simp⟩) (hS0 _) ?_
      refine takeUntil 5 21 List.mem_cons_self (by kernel_rfl) (by kernel_rfl) (.slice A L.length cA) (some 93) rfl rfl (by kernel_rfl) (by kernel_rfl) (by kernel_rfl) (by kernel_rfl) (fun _ _ _ h => h) (.inl ⟨by kernel_rfl, fun w hw => by have hc := HXC1.out w (And.right hw); go_simp⟩) (hS0 _) ?_
      refine takeG 6 (.int .i64 j) (some 94) rfl rfl (by kernel_rfl) (by kernel_rfl) (by kernel_rfl) (by kernel_rfl) (fun _ _ _ h => h) (.inl ⟨by kernel_rfl, fun w _ => by go_simp⟩) (hS0 _) ?_
      refine takeG 7 (.slice A j cA) (some 95) rfl rfl (by kernel_rfl) (by kernel_rfl) (by kernel_rfl) (by kernel_rfl) (fun _ _ _ h => h) (.inl ⟨by kernel_rfl, fun w _ => sliceTo_int rfl (by go_simp; try rfl) (by go_simp; try rfl) (by omega) HNA.out.2.2.1 HNA.out.2.2.2 HNA.out.1 w⟩) (hS0 _) ?_
      refine takeG 9 (.int .i64 k) (some 97) rfl rfl (by kernel_rfl) (by kernel_rfl) (by kernel_rfl) (by kernel_rfl) (fun _ _ _ h => h) (.inl ⟨by kernel_rfl, fun w _ => by go_simp⟩) (hS0 _) ?_
      refine takeG 12 (.pointer (some ⟨gx, 0, none⟩)) (some 100) rfl rfl (by kernel_rfl) (by kernel_rfl) (by kernel_rfl) (by kernel_rfl) (fun _ _ _ h => h) (.inl ⟨by kernel_rfl, fun w _ => by go_simp⟩) (hS0 _) ?_
      refine takeG 13 (.pointer (some ⟨gx, 0, none⟩)) (some 101) rfl rfl (by kernel_rfl) (by kernel_rfl) (by kernel_rfl) (by kernel_rfl) (fun _ _ _ h => h) (.inl ⟨by kernel_rfl, fun w _ => by go_simp⟩) (hS0 _) ?_
      refine takeG 14 (.pointer (some ⟨gx, 1, none⟩)) (some 102) rfl rfl (by kernel_rfl) (by kernel_rfl) (by kernel_rfl) (by kernel_rfl) (fun _ _ _ h => h) (.inl ⟨by kernel_rfl, fun w _ => by go_simp⟩) (hS0 _) ?_
      refine takeUntil 15 21 List.mem_cons_self (by kernel_rfl) (by kernel_rfl) (.slice A L.length cA) (some 103) rfl rfl (by kernel_rfl) (by kernel_rfl) (by kernel_rfl) (by kernel_rfl) (fun _ _ _ h => h) (.inl ⟨by kernel_rfl, fun w hw => by have hc := HXC1.out w (And.right hw); go_simp⟩) (hS0 _) ?_
      refine takeG 16 (.int .i64 j) (some 104) rfl rfl (by kernel_rfl) (by kernel_rfl) (by kernel_rfl) (by kernel_rfl) (fun _ _ _ h => h) (.inl ⟨by kernel_rfl, fun w _ => by go_simp⟩) (hS0 _) ?_
      refine takeG 17 (.slice (fromA A cA j 1) (L.length - j) (cA - j)) (some 105) rfl rfl (by kernel_rfl) (by kernel_rfl) (by kernel_rfl) (by kernel_rfl) (fun _ _ _ h => h) (.inl ⟨by kernel_rfl, fun w _ => sliceFrom_int rfl (by go_simp; try rfl) (by go_simp; try rfl) (by omega) HNA.out.2.2.1 HNA.out.2.2.2 HNA.out.2.1 HNA.out.1 w⟩) (hS0 _) ?_
      have hsr1 : SR (World.drew wc) (.slice A j cA) j 1 ((natV L).take (j * 1)) := (own_to HOA1.out j hj)
      refine litAppLitG 1 8 10 89 96 98 (by decide) (by decide) (by decide) (by decide) rfl rfl rfl rfl rfl rfl rfl rfl rfl (by kernel_rfl) (by kernel_rfl) (by kernel_rfl) (by kernel_rfl) (by kernel_rfl) (by kernel_rfl) 3 65 (#[.int .i64 (k : Int)]) (.tmp 97) (.int .i64 (k : Int)) (fun a w => ?rL) rfl (fun w => litInt (k : Int) w) ?m0 (fun u => ?m1) (fun u u' => ?m2) (.tmp 95) rfl (.slice A j cA) (fun v3 => ?hd) (fun v3 v8 => ?hd2) (fun v3 => ?hx) (fun v3 v8 => ?hx2) (.int .i64 0) 1 8 j ((natV L).take (j * 1)) Try.underlying65 natRow rfl (by omega) hsr1 (fun v hv => natV_one L v (List.mem_of_mem_take hv)) (by simp [maxLen]; omega) (by omega) rfl (fun l w' hb => Stage.one trivial (fun _ => (drewb wc).trans (hb.mono (Nat.le_refl _)))) ?_
      case rL => go_simp
      case m0 => go_simp; try rfl
      case m1 => go_simp; try rfl
      case m2 => go_simp; try rfl
      case hd => go_simp; try rfl
      case hd2 => go_simp; try rfl
      case hx => go_simp; try rfl
      case hx2 => go_simp; try rfl
      intro Lb gb ad c w4 hb4 hown4 hsr4
      have hb4' : Below wc.heap.size wc w4 := (drewb wc).trans (hb4.mono (Nat.le_refl _))
      go_simp
      refine appendG1 11 rfl (by kernel_rfl) (by kernel_rfl) (some 99) rfl (.tmp 96) (.tmp 98) 65 rfl wc.heap.size 3 (.int .i64 0) 1 8 Try.underlying65 natRow rfl (by omega) (.slice ad j c) (.slice (some ⟨gb, 0, none⟩) 1 1) j 1 ((natV L).take (j * 1)) (#[.int .i64 (k : Int)]).toList (by go_simp; try rfl) hown4 (by go_simp; try rfl) hsr4 (fun v hv => by simp at hv; subst hv; rfl) (by simp [maxLen]; omega) (by omega) hb4.size ?_
      intro v5 w5 hown5 hgr5 hat5
      have hb5 : Below wc.heap.size wc w5 := hb4'.grown hgr5 hb4'.size (fun x hx => (hown4.lt x hx).1)
      refine ⟨Stage.one trivial (fun _ => hb5), ?_⟩
      obtain ⟨A5, c5, hform⟩ := own_form hown5
      subst hform
      go_simp
      have hsr5 : SR w5 (.slice (fromA A cA j 1) (L.length - j) (cA - j)) (L.length - j) 1 ((natV L).drop (j * 1)) := SR.keep (own_from HOA1.out j hj) hb5
      refine appendG1 18 rfl (by kernel_rfl) (by kernel_rfl) (some 106) rfl (.tmp 99) (.tmp 105) 65 rfl wc.heap.size 3 (.int .i64 0) 1 8 Try.underlying65 natRow rfl (by omega) (.slice A5 (j + 1) c5) (.slice (fromA A cA j 1) (L.length - j) (cA - j)) (j + 1) (L.length - j) ((natV L).take (j * 1) ++ (#[.int .i64 (k : Int)]).toList) ((natV L).drop (j * 1)) (by go_simp; try rfl) hown5 (by go_simp; try rfl) hsr5 (fun v hv => natV_one L v (List.mem_of_mem_drop hv)) (by simp [maxLen]; omega) (by omega) hb5.size ?_
      intro v6 w6 hown6 hgr6 hat6
      have hb6 : Below wc.heap.size wc w6 := hb5.grown hgr6 hb5.size (fun x hx => (hown5.lt x hx).1)
      rw [show j + 1 + (L.length - j) = L.length + 1 by omega] at hown6
      obtain ⟨A6, c6, hform⟩ := own_form hown6
      subst hform
      refine ⟨Stage.one trivial (fun _ => hb6), ?_⟩
      go_simp
      refine takeG 19 (.pointer (some ⟨gx, 0, none⟩)) (some 107) rfl rfl (by kernel_rfl) (by kernel_rfl) (by kernel_rfl) (by kernel_rfl) (fun _ _ _ h => h) (.inl ⟨by kernel_rfl, fun w _ => by go_simp⟩) (Stage.one trivial (fun _ => hb6)) ?_
      refine takeG 20 (.pointer (some ⟨gx, 1, none⟩)) (some 108) rfl rfl (by kernel_rfl) (by kernel_rfl) (by kernel_rfl) (by kernel_rfl) (fun _ _ _ h => h) (.inl ⟨by kernel_rfl, fun w _ => by go_simp⟩) (Stage.one trivial (fun _ => hb6)) ?_
      have htx6 := rowIs_below HTA.out hb6
      obtain ⟨cur, hcb, hcs, hcf⟩ := htx6
      refine storeCellG (g := gx) 21 rfl (by kernel_rfl) (by kernel_rfl) rfl 65 (.tmp 108) (.tmp 106) rfl 1 (.slice A6 (L.length + 1) c6) cur 121 (by go_simp; try rfl) (by go_simp; try rfl) (by kernel_rfl) (by kernel_rfl) rfl hcb (by omega) (fun w7 hq7 o7 => ?_)
      refine ⟨Stage.late trivial (by kernel_rfl), ?_⟩
      refine wpAnyG_done (by kernel_rfl) ?_ _
      go_simp
      obtain ⟨A1, hA1⟩ : ∃ A1, A1 = A6 := ⟨_, rfl⟩
      obtain ⟨c1, hc1⟩ : ∃ c1, c1 = c6 := ⟨_, rfl⟩
      rw [← hA1, ← hc1] at hown6 hq7 ⊢
      clear hA1 hc1
      have HW7 := Lib.hid (show Chg (fun x => x = gx) wc w7 from (Chg.of_below _ hb6).one o7 (.inl rfl))
      have HTB := Lib.hid (show w7.rowIs gx 121 4 (txR gn (.slice A1 (L.length + 1) c1) (.slice B L.length cB) bad) from ⟨_, hq7, by simp [hcs], fun i hi => by
        have h4 : i = 0 ∨ i = 1 ∨ i = 2 ∨ i = 3 := by omega
        rcases h4 with rfl | rfl | rfl | rfl
        · rw [Array.getElem?_setIfInBounds_ne (by decide)]; exact hcf 0 (by omega)
        · rw [Array.getElem?_setIfInBounds_self_of_lt (by omega)]; rfl
        · rw [Array.getElem?_setIfInBounds_ne (by decide)]; exact hcf 2 (by omega)
        · rw [Array.getElem?_setIfInBounds_ne (by decide)]; exact hcf 3 (by omega)⟩)
      have hbl := H1.out.lt
      have hgxl : gx < wc.heap.size := by omega
      have HO7 := Lib.hid (show OwnN w7 wc.heap.size (.slice A1 (L.length + 1) c1) (insL L j k) from by
        have h1 := own_one hown6 o7 (fun x hx e => by have := (hown6.lt x hx).1; cases e; omega)
        unfold OwnN
        rw [natV_ins, insL_len]
        rw [Nat.mul_one] at h1
        exact h1)
      have HOB7 := Lib.hid (show OwnP w7 base (.slice B L.length cB) L.length (fun i => pageG F (L.getD i 0)) from own_keep HOB1.out (fun x hx => HW7.out.block x (HOB1.out.lt x hx).2 (fun e => by have := (HOB1.out.lt x hx).1; omega)))
      have HR7 := Lib.hid (show w7.rowIs G 52 64 (pgC f) from HW7.out.row HR1.out (fun e => by have := HG.out; have := H.out.lt; omega))
      have HNB7 := Lib.hid HNB.out
      have HB7 := Lib.hid HB1.out
      clear hq7 o7 hb6 hb5 hb4 hb4' hown4 hown5 hown6 hsr4 hsr5 hsr1 hgr5 hgr6 hat5 hat6 hcb hcs hcf hS0 HXC1 HTA
      obtain ⟨wd, hwd⟩ : ∃ wd, wd = w7 := ⟨_, rfl⟩
      rw [← hwd] at HW7 HTB HO7 HOB7 HR7 ⊢
      clear hwd
      have HXC2 := Lib.hid (show ∀ w', Below wd.heap.size wd w' → w'.cell? ⟨gx, 2, none⟩ = some (.slice B L.length cB) from fun w' hb => (rowIs_below HTB.out hb).cell (i := 2) (by omega))
      go_upto_region 13 with fail
      have hS0 : ∀ l, Stage (fun _ => True) [(21, fun w' : World => Below wd.heap.size wd w')] l (World.drew wd) := fun l => Stage.one trivial (fun _ => drewb wd)
      refine wp_region_gen (S := Stage (fun _ => True) [(21, fun w' : World => Below wd.heap.size wd w')]) (by kernel_rfl) ?_
      change wpAnyG _ _ _ _ _ _ _ _ (World.drew _)
      refine takeG 0 (.pointer (some ⟨gx, 0, none⟩)) (some 109) rfl rfl (by kernel_rfl) (by kernel_rfl) (by kernel_rfl) (by kernel_rfl) (fun _ _ _ h => h) (.inl ⟨by kernel_rfl, fun w _ => by go_simp⟩) (hS0 _) ?_
      refine takeG 2 (.pointer (some ⟨gx, 0, none⟩)) (some 111) rfl rfl (by kernel_rfl) (by kernel_rfl) (by kernel_rfl) (by kernel_rfl) (fun _ _ _ h => h) (.inl ⟨by kernel_rfl, fun w _ => by go_simp⟩) (hS0 _) ?_
      refine takeG 3 (.pointer (some ⟨gx, 0, none⟩)) (some 112) rfl rfl (by kernel_rfl) (by kernel_rfl) (by kernel_rfl) (by kernel_rfl) (fun _ _ _ h => h) (.inl ⟨by kernel_rfl, fun w _ => by go_simp⟩) (hS0 _) ?_
      refine takeG 4 (.pointer (some ⟨gx, 2, none⟩)) (some 113) rfl rfl (by kernel_rfl) (by kernel_rfl) (by kernel_rfl) (by kernel_rfl) (fun _ _ _ h => h) (.inl ⟨by kernel_rfl, fun w _ => by go_simp⟩) (hS0 _) ?_
      refine takeUntil 5 21 List.mem_cons_self (by kernel_rfl) (by kernel_rfl) (.slice B L.length cB) (some 114) rfl rfl (by kernel_rfl) (by kernel_rfl) (by kernel_rfl) (by kernel_rfl) (fun _ _ _ h => h) (.inl ⟨by kernel_rfl, fun w hw => by have hc := HXC2.out w (And.right hw); go_simp⟩) (hS0 _) ?_
      refine takeG 6 (.int .i64 j) (some 115) rfl rfl (by kernel_rfl) (by kernel_rfl) (by kernel_rfl) (by kernel_rfl) (fun _ _ _ h => h) (.inl ⟨by kernel_rfl, fun w _ => by go_simp⟩) (hS0 _) ?_
      refine takeG 7 (.slice B j cB) (some 116) rfl rfl (by kernel_rfl) (by kernel_rfl) (by kernel_rfl) (by kernel_rfl) (fun _ _ _ h => h) (.inl ⟨by kernel_rfl, fun w _ => sliceTo_page rfl (by go_simp; try rfl) (by go_simp; try rfl) (by omega) HNB7.out.2.2.1 HNB7.out.2.2.2 HNB7.out.1 w⟩) (hS0 _) ?_
      refine takeUntil 9 21 List.mem_cons_self (by kernel_rfl) (by kernel_rfl) (pageV f) (some 118) rfl rfl (by kernel_rfl) (by kernel_rfl) (by kernel_rfl) (by kernel_rfl) (fun _ _ _ h => h) (yi_row (by kernel_rfl) 52 (.tmp 5) rfl G 64 (pgC f) (by go_simp) (fun w hw => rowIs_below HR7.out (And.right hw)) _ block_under rfl block_size) (hS0 _) ?_
      refine takeG 12 (.pointer (some ⟨gx, 0, none⟩)) (some 121) rfl rfl (by kernel_rfl) (by kernel_rfl) (by kernel_rfl) (by kernel_rfl) (fun _ _ _ h => h) (.inl ⟨by kernel_rfl, fun w _ => by go_simp⟩) (hS0 _) ?_
      refine takeG 13 (.pointer (some ⟨gx, 0, none⟩)) (some 122) rfl rfl (by kernel_rfl) (by kernel_rfl) (by kernel_rfl) (by kernel_rfl) (fun _ _ _ h => h) (.inl ⟨by kernel_rfl, fun w _ => by go_simp⟩) (hS0 _) ?_
      refine takeG 14 (.pointer (some ⟨gx, 2, none⟩)) (some 123) rfl rfl (by kernel_rfl) (by kernel_rfl) (by kernel_rfl) (by kernel_rfl) (fun _ _ _ h => h) (.inl ⟨by kernel_rfl, fun w _ => by go_simp⟩) (hS0 _) ?_
      refine takeUntil 15 21 List.mem_cons_self (by kernel_rfl) (by kernel_rfl) (.slice B L.length cB) (some 124) rfl rfl (by kernel_rfl) (by kernel_rfl) (by kernel_rfl) (by kernel_rfl) (fun _ _ _ h => h) (.inl ⟨by kernel_rfl, fun w hw => by have hc := HXC2.out w (And.right hw); go_simp⟩) (hS0 _) ?_
      refine takeG 16 (.int .i64 j) (some 125) rfl rfl (by kernel_rfl) (by kernel_rfl) (by kernel_rfl) (by kernel_rfl) (fun _ _ _ h => h) (.inl ⟨by kernel_rfl, fun w _ => by go_simp⟩) (hS0 _) ?_
      refine takeG 17 (.slice (fromA B cB j 64) (L.length - j) (cB - j)) (some 126) rfl rfl (by kernel_rfl) (by kernel_rfl) (by kernel_rfl) (by kernel_rfl) (fun _ _ _ h => h) (.inl ⟨by kernel_rfl, fun w _ => sliceFrom_page rfl (by go_simp; try rfl) (by go_simp; try rfl) (by omega) HNB7.out.2.2.1 HNB7.out.2.2.2 HNB7.out.2.1 HNB7.out.1 w⟩) (hS0 _) ?_
      have hsr1 : SR (World.drew wd) (.slice B j cB) j 64 ((pgsV L.length (fun i => pageG F (L.getD i 0))).take (j * 64)) := (own_to HOB7.out j hj)
      refine litAppLitG 1 8 10 110 117 119 (by decide) (by decide) (by decide) (by decide) rfl rfl rfl rfl rfl rfl rfl rfl rfl (by kernel_rfl) (by kernel_rfl) (by kernel_rfl) (by kernel_rfl) (by kernel_rfl) (by kernel_rfl) 52 50 (rowArr 64 (pgC f)) (.tmp 118) (pageV f) (fun a w => ?rL) rfl (fun w => pgSlice _ (rowArr_size _ _) w) ?m0 (fun u => ?m1) (fun u u' => ?m2) (.tmp 116) rfl (.slice B j cB) (fun v3 => ?hd) (fun v3 v8 => ?hd2) (fun v3 => ?hx) (fun v3 v8 => ?hx2) (.agg noughts) 64 64 j ((pgsV L.length (fun i => pageG F (L.getD i 0))).take (j * 64)) Try.underlying50 block_row noughts_size (by omega) hsr1 (fun v hv => pgsV_one _ _ v (List.mem_of_mem_take hv)) (by simp [maxLen]; omega) (by omega) (rowArr_size _ _) (fun l w' hb => Stage.one trivial (fun _ => (drewb wd).trans (hb.mono (Nat.le_refl _)))) ?_
      case rL => go_simp
      case m0 => go_simp; try rfl
      case m1 => go_simp; try rfl
      case m2 => go_simp; try rfl
      case hd => go_simp; try rfl
      case hd2 => go_simp; try rfl
      case hx => go_simp; try rfl
      case hx2 => go_simp; try rfl
      intro Lb gb ad c w4 hb4 hown4 hsr4
      have hb4' : Below wd.heap.size wd w4 := (drewb wd).trans (hb4.mono (Nat.le_refl _))
      go_simp
      refine appendG1 11 rfl (by kernel_rfl) (by kernel_rfl) (some 120) rfl (.tmp 117) (.tmp 119) 50 rfl wd.heap.size 52 (.agg noughts) 64 64 Try.underlying50 block_row noughts_size (by omega) (.slice ad j c) (.slice (some ⟨gb, 0, none⟩) 1 1) j 1 ((pgsV L.length (fun i => pageG F (L.getD i 0))).take (j * 64)) (rowArr 64 (pgC f)).toList (by go_simp; try rfl) hown4 (by go_simp; try rfl) hsr4 (pgC_one f) (by simp [maxLen]; omega) (by omega) hb4.size ?_
      intro v5 w5 hown5 hgr5 hat5
      have hb5 : Below wd.heap.size wd w5 := hb4'.grown hgr5 hb4'.size (fun x hx => (hown4.lt x hx).1)
      refine ⟨Stage.one trivial (fun _ => hb5), ?_⟩
      obtain ⟨A5, c5, hform⟩ := own_form hown5
      subst hform
      go_simp
      have hsr5 : SR w5 (.slice (fromA B cB j 64) (L.length - j) (cB - j)) (L.length - j) 64 ((pgsV L.length (fun i => pageG F (L.getD i 0))).drop (j * 64)) := SR.keep (own_from HOB7.out j hj) hb5
      refine appendG1 18 rfl (by kernel_rfl) (by kernel_rfl) (some 127) rfl (.tmp 120) (.tmp 126) 50 rfl wd.heap.size 52 (.agg noughts) 64 64 Try.underlying50 block_row noughts_size (by omega) (.slice A5 (j + 1) c5) (.slice (fromA B cB j 64) (L.length - j) (cB - j)) (j + 1) (L.length - j) ((pgsV L.length (fun i => pageG F (L.getD i 0))).take (j * 64) ++ (rowArr 64 (pgC f)).toList) ((pgsV L.length (fun i => pageG F (L.getD i 0))).drop (j * 64)) (by go_simp; try rfl) hown5 (by go_simp; try rfl) hsr5 (fun v hv => pgsV_one _ _ v (List.mem_of_mem_drop hv)) (by simp [maxLen]; omega) (by omega) hb5.size ?_
      intro v6 w6 hown6 hgr6 hat6
      have hb6 : Below wd.heap.size wd w6 := hb5.grown hgr6 hb5.size (fun x hx => (hown5.lt x hx).1)
      rw [show j + 1 + (L.length - j) = L.length + 1 by omega] at hown6
      obtain ⟨A6, c6, hform⟩ := own_form hown6
      subst hform
      refine ⟨Stage.one trivial (fun _ => hb6), ?_⟩
      go_simp
      refine takeG 19 (.pointer (some ⟨gx, 0, none⟩)) (some 128) rfl rfl (by kernel_rfl) (by kernel_rfl) (by kernel_rfl) (by kernel_rfl) (fun _ _ _ h => h) (.inl ⟨by kernel_rfl, fun w _ => by go_simp⟩) (Stage.one trivial (fun _ => hb6)) ?_
      refine takeG 20 (.pointer (some ⟨gx, 2, none⟩)) (some 129) rfl rfl (by kernel_rfl) (by kernel_rfl) (by kernel_rfl) (by kernel_rfl) (fun _ _ _ h => h) (.inl ⟨by kernel_rfl, fun w _ => by go_simp⟩) (Stage.one trivial (fun _ => hb6)) ?_
      have htx6 := rowIs_below HTB.out hb6
      obtain ⟨cur, hcb, hcs, hcf⟩ := htx6
      refine storeCellG (g := gx) 21 rfl (by kernel_rfl) (by kernel_rfl) rfl 50 (.tmp 129) (.tmp 127) rfl 2 (.slice A6 (L.length + 1) c6) cur 121 (by go_simp; try rfl) (by go_simp; try rfl) (by kernel_rfl) (by kernel_rfl) rfl hcb (by omega) (fun w7 hq7 o7 => ?_)
      refine ⟨Stage.late trivial (by kernel_rfl), ?_⟩
      refine wpAnyG_done (by kernel_rfl) ?_ _
      go_simp
      have HW9 := Lib.hid (show Chg (fun x => x = gx) wd w7 from (Chg.of_below _ hb6).one o7 (.inl rfl))
      have hrow9 : w7.rowIs gx 121 4 (txR gn (.slice A1 (L.length + 1) c1) (.slice A6 (L.length + 1) c6) bad) := ⟨_, hq7, by simp [hcs], fun i hi => by
        have h4 : i = 0 ∨ i = 1 ∨ i = 2 ∨ i = 3 := by omega
        rcases h4 with rfl | rfl | rfl | rfl
        · rw [Array.getElem?_setIfInBounds_ne (by decide)]; exact hcf 0 (by omega)
        · rw [Array.getElem?_setIfInBounds_ne (by decide)]; exact hcf 1 (by omega)
        · rw [Array.getElem?_setIfInBounds_self_of_lt (by omega)]; rfl
        · rw [Array.getElem?_setIfInBounds_ne (by decide)]; exact hcf 3 (by omega)⟩
      have hgd : gx < wd.heap.size := Nat.lt_of_lt_of_le hgxl HW7.out.size
      have hoB9 : w7.ownsRow wd.heap.size 52 64 (.slice A6 (L.length + 1) c6) (L.length + 1) _ := own_one hown6 o7 (fun x hx e => by have := (hown6.lt x hx).1; cases e; omega)
      have hoA9 : OwnN w7 wc.heap.size (.slice A1 (L.length + 1) c1) (insL L j k) := own_keep HO7.out (fun x hx => HW9.out.block x (HO7.out.lt x hx).2 (fun e => by have := (HO7.out.lt x hx).1; omega))
      have HALL := Lib.hid (show Chg (fun x => x = gx) wc w7 from HW7.out.trans HW9.out (fun _ _ h => h))
      have hne := H1.out.ne
      have HFIN := Lib.hid (show RT w7 gr gq gn gx base n first (putF F (k : Int) f) (insL L j k) bad s from by
        refine ⟨H1.out.rl.chg HALL.out (fun e => hne.1 e.symm) (fun e => hne.2.1 e.symm) (fun e => hne.2.2 e.symm), ⟨_, _, hrow9, hoA9.lower hbl.2, ?_⟩, ⟨hbl.1, Nat.le_trans hbl.2 HALL.out.size⟩, HKEYS.out, by rw [insL_len]; omega, HOK.out⟩
        unfold OwnP
        rw [pgsV_list, pgL_ins hj HNO.out, insL_len]
        refine ⟨hoB9.1, ?_⟩
        rcases hoB9.2 with h1 | ⟨g0, c0, cur', hv, hb0, hrest⟩
        · exact .inl h1
        · exact .inr ⟨g0, c0, cur', hv, Nat.le_trans hbl.2 (Nat.le_trans HW7.out.size hb0), hrest⟩)
      have HCH := Lib.hid (show Chg (pset w gx base) w w7 from (Chg.of_below _ HB7.out).trans HALL.out (fun x _ h => .inl h))
      clear hq7 o7 hb6 hb5 hb4 hb4' hown4 hown5 hown6 hsr4 hsr5 hsr1 hgr5 hgr6 hat5 hat6 hcb hcs hcf hS0 HXC2 hrow9 hoB9 hoA9 hne
      go_wp2_with fail
      go_ret
      exact ⟨rfl, ⟨_, HFIN.out⟩, HCH.out⟩
end
end Go.Proofs.Ytonfnlohbgbffaa

set_option linter.unusedVariables false
set_option linter.unusedSimpArgs false
namespace Go.Proofs.Ytonfnlohbgbffaa
open Go.RowKit

section
variable {w w' : World} {gd gb gl gt gm gr gq gn gx base n first : Nat} {F F' : Int → Option (Nat → Nat)} {L : List Nat} {bad bad' : Int} {s s' : DSt}
theorem TXs.ofTX (h : TX w gd gb gl gt gm n first F bad s.D s.left s.dead) : ∃ c, TXs w gd gb gl gt gm n first F bad ⟨s.D, s.left, s.dead, c⟩ := by
  obtain ⟨x, y, hk⟩ := h.lx.dx.dk
  exact ⟨x, h, hk.c3⟩
theorem TXs.chg {S : Nat → Prop} (h : TXs w gd gb gl gt gm n first F bad s) (c : Chg S w w') (hS : ∀ k, S k → k ≠ gd ∧ k ≠ gb ∧ k ≠ gl ∧ k ≠ gt ∧ k ≠ gm) : TXs w' gd gb gl gt gm n first F bad s := by
  have hl := h.toTX.lt
  have b1 := c.block _ hl.1 (fun e => (hS _ e).1 rfl)
  have b2 := c.block _ hl.2.1 (fun e => (hS _ e).2.1 rfl)
  have b3 := c.block _ hl.2.2.1 (fun e => (hS _ e).2.2.1 rfl)
  have b4 := c.block _ hl.2.2.2.1 (fun e => (hS _ e).2.2.2.1 rfl)
  have b5 := c.block _ hl.2.2.2.2 (fun e => (hS _ e).2.2.2.2 rfl)
  exact ⟨⟨h.lx.keepAt b1 b2 b3, h.tx.of_block b4, h.mp.keepAt b5, h.ok⟩, cell_keep h.cn b1⟩
theorem RT.setC (h : RT w gr gq gn gx base n first F L bad s) (c : Int) : RT w gr gq gn gx base n first F L bad ⟨s.D, s.left, s.dead, c⟩ :=
  ⟨⟨⟨h.rl.dx.dk, h.rl.dx.u8, h.rl.dx.n, h.rl.dx.l0, h.rl.dx.l1⟩, h.rl.lg, h.rl.fit⟩, h.tx, h.lt, h.keys, h.len, h.ok⟩
theorem TXs.many (h : TXs w gd gb gl gt gm n first F bad s) (hk : KeysOf F L) : mapN w gm = L.length := by
  have h1 := h.toTX.few hk.nodup hk.yes
  have h2 := h.mp.mp.len_le (L.map fun (j : Nat) => (j : Int)) (fun a ha => by
    obtain ⟨k, hk1, rfl⟩ := hk.all a ha
    exact List.mem_map.2 ⟨k, hk1, rfl⟩)
  simp at h2
  omega
/-! ### Get -/
theorem txGet (h : TXs w gd gb gl gt gm n first F bad s) (z : Int) (hz : -9223372036854775808 ≤ z ∧ z ≤ 9223372036854775807) :
    Calls Try.prog 26 #[.pointer (some ⟨gt, 0, none⟩), .int .i64 z] w fun e w' => e = .returned (.tuple #[pageV (getV F s.D n z).1, .int .i64 (getV F s.D n z).2]) ∧ (∃ c, TXs w' gd gb gl gt gm n first F bad ⟨s.D, s.left, s.dead, c⟩) ∧ Chg (dset gd gb) w w' := by
  by_cases hr : 0 ≤ z ∧ z < n
  · obtain ⟨k, rfl⟩ : ∃ k : Nat, z = (k : Int) := ⟨z.toNat, by omega⟩
    have hg : getV F s.D n k = (viewB F s.D k, 0) := by
      unfold getV viewB
      cases F (k : Nat) with
      | none => exact if_pos hr
      | some f => rfl
    rw [hg]
    refine (txnGet_ok h.toTX k (by omega)).mono ?_
    rintro e w' ⟨rfl, h1, h2⟩
    exact ⟨rfl, TXs.ofTX h1, h2⟩
  · have hF : F z = none := by
      cases hf : F z with
      | none => rfl
      | some f => have := h.ok _ f hf; omega
    have hg : getV F s.D n z = (fun _ => 0, 27) := by
      unfold getV
      rw [hF]
      exact if_neg hr
    rw [hg]
    refine (txnGet_no h.toTX z (by omega) hz hF).mono ?_
    rintro e w' ⟨rfl, h1⟩
    exact ⟨rfl, ⟨s.c, h.keep h1⟩, Chg.of_below _ h1⟩
theorem getV_u8 (h : TXs w gd gb gl gt gm n first F bad s) (z : Int) (i : Nat) : (getV F s.D n z).1 i ≤ 255 := by
  unfold getV
  cases hf : F z with
  | none =>
    show (if 0 ≤ z ∧ z < n then (s.D z.toNat, (0 : Int)) else (fun _ => 0, 27)).1 i ≤ 255
    split
    · exact h.lx.dx.u8 _ _
    · exact Nat.zero_le _
  | some f => exact (h.ok _ f hf).1 i
/-! ### Put -/
def putRes (n first : Nat) (F : Int → Option (Nat → Nat)) (L : List Nat) (bad z : Int) (f : Nat → Nat) : Int × (Int → Option (Nat → Nat)) × Int :=
  if z < 0 ∨ (n : Int) ≤ z ∨ ((first : Int) ≤ z ∧ z ≤ first + 30) then (27, F, badB bad 27) else
  match F z with
  | some _ => (0, putF F z f, bad)
  | none => if L.length = 30 then (23, F, badB bad 23) else (0, putF F z f, bad)
theorem txPut (h : TXs w gd gb gl gt gm n first F bad s) (hk : KeysOf F L) (z : Int) {f : Nat → Nat} (hf : ∀ i, f i ≤ 255) :
    Calls Try.prog 34 #[.pointer (some ⟨gt, 0, none⟩), .int .i64 z, pageV f] w fun e w' => e = .returned (.int .i64 (putRes n first F L bad z f).1) ∧ TXs w' gd gb gl gt gm n first (putRes n first F L bad z f).2.1 (putRes n first F L bad z f).2.2 s ∧ Chg (fun k => k = gm ∨ k = gt) w w' := by
  have hne := h.toTX.ne
  unfold putRes
  by_cases hr : z < 0 ∨ (n : Int) ≤ z ∨ ((first : Int) ≤ z ∧ z ≤ first + 30)
  · rw [if_pos hr]
    refine (txnPut_range h.toTX z hr f).mono ?_
    rintro e w' ⟨rfl, h1, h2⟩
    exact ⟨rfl, h.same h1 h2 (fun e => hne.1.1 e.symm), h2.mono' (fun k e => .inr e)⟩
  · rw [if_neg hr]
    obtain ⟨k, rfl⟩ : ∃ k : Nat, z = (k : Int) := ⟨z.toNat, by omega⟩
    cases hF : F (k : Nat) with
    | some f0 =>
      refine (h.put_ k (by omega) (by omega) (.inl (by rw [hF]; simp)) hf).mono ?_
      rintro e w' ⟨rfl, h1, h2⟩
      exact ⟨rfl, h1, h2.mono' (fun k e => .inl e)⟩
    | none =>
      by_cases hN : L.length = 30
      · simp only [if_pos hN]
        refine (txnPut_many h.toTX k (by omega) (by omega) hF (by rw [h.many hk]; exact hN) f).mono ?_
        rintro e w' ⟨rfl, h1, h2⟩
        exact ⟨rfl, h.same h1 h2 (fun e => hne.1.1 e.symm), h2.mono' (fun k e => .inr e)⟩
      · simp only [if_neg hN]
        refine (h.put_ k (by omega) (by omega) (.inr (by rw [h.many hk]; exact hN)) hf).mono ?_
        rintro e w' ⟨rfl, h1, h2⟩
        exact ⟨rfl, h1, h2.mono' (fun k e => .inl e)⟩
theorem rtPut (h : RT w gr gq gn gx base n first F L bad s) (z : Int) {f : Nat → Nat} (hf : ∀ i, f i ≤ 255) :
    Calls Try.prog 62 #[.pointer (some ⟨gx, 0, none⟩), .int .i64 z, pageV f] w fun e w' => e = .returned (.int .i64 (putRes n first F L bad z f).1) ∧ (∃ L', RT w' gr gq gn gx base n first (putRes n first F L bad z f).2.1 L' (putRes n first F L bad z f).2.2 s) ∧ Chg (pset w gx base) w w' := by
  have h30 := h.len
  unfold putRes
  by_cases hr : z < 0 ∨ (n : Int) ≤ z ∨ ((first : Int) ≤ z ∧ z ≤ first + 30)
  · rw [if_pos hr]
    refine (refPut_range h z hr f).mono ?_
    rintro e w' ⟨rfl, h1, h2⟩
    exact ⟨rfl, ⟨L, h1⟩, h2⟩
  · rw [if_neg hr]
    obtain ⟨k, rfl⟩ : ∃ k : Nat, z = (k : Int) := ⟨z.toNat, by omega⟩
    cases hF : F (k : Nat) with
    | some f0 =>
      refine (refPut_old h k (by omega) (by omega) (by rw [hF]; simp) hf).mono ?_
      rintro e w' ⟨rfl, h1, h2⟩
      exact ⟨rfl, ⟨L, h1⟩, h2⟩
    | none =>
      by_cases hN : L.length = 30
      · simp only [if_pos hN]
        refine (refPut_many h k (by omega) (by omega) hF hN f).mono ?_
        rintro e w' ⟨rfl, h1, h2⟩
        exact ⟨rfl, ⟨L, h1⟩, h2⟩
      · simp only [if_neg hN]
        refine (refPut_new h k (by omega) (by omega) hF (by omega) hf).mono ?_
        rintro e w' ⟨rfl, h1, h2⟩
        exact ⟨rfl, h1, h2⟩
/-! ### Commit -/
set_option maxRecDepth 10000 in
set_option maxHeartbeats 1000000 in
theorem txnCommit_bad (h : TXs w gd gb gl gt gm n first F bad s) (hb : bad ≠ 0) :
    Calls Try.prog 49 #[.pointer (some ⟨gt, 0, none⟩)] w fun e w' => e = .returned (.int .i64 bad) ∧ w' = w := by
  have c2 := h.toTX.c2
  have hbb : (bad == 0) = false := by rw [beq_eq_false_iff_ne]; exact hb
  clear h
  go_enter Try.func49, Try.ntmps49
  go_wp2_with fail
  go_ret
  exact ⟨rfl, rfl⟩
def cmRes (first : Nat) (F : Int → Option (Nat → Nat)) (L : List Nat) (bad : Int) (s : DSt) : Int × DSt × (Int → Option (Nat → Nat)) × List Nat × Int :=
  if bad = 0 then ((commit first (pageG F) L s).2.1, (commit first (pageG F) L s).1, dropF (commit first (pageG F) L s).2.2 F, dropL (commit first (pageG F) L s).2.2 L, 0) else (bad, s, F, L, bad)
theorem txCommit (h : TXs w gd gb gl gt gm n first F bad s) (hk : KeysOf F L) (h30 : L.length ≤ 30) :
    Calls Try.prog 49 #[.pointer (some ⟨gt, 0, none⟩)] w fun e w' => e = .returned (.int .i64 (cmRes first F L bad s).1) ∧ TXs w' gd gb gl gt gm n first (cmRes first F L bad s).2.2.1 (cmRes first F L bad s).2.2.2.2 (cmRes first F L bad s).2.1 ∧ Chg (cset gd gb gt gm) w w' := by
  unfold cmRes
  by_cases hb : bad = 0
  · subst hb
    rw [if_pos rfl]
    refine (txnCommit_ok h (by rw [h.many hk]; exact h30)).mono ?_
    rintro e w' ⟨M, hkM, _, rfl, h1, h2⟩
    have hLM := hk.uniq hkM
    subst hLM
    refine ⟨rfl, ?_, h2⟩
    have e : (if (commit first (pageG F) L s).2.2 = true then (fun _ => none) else F) = dropF (commit first (pageG F) L s).2.2 F := by
      cases (commit first (pageG F) L s).2.2 <;> rfl
    rw [e] at h1
    exact h1
  · rw [if_neg hb]
    refine (txnCommit_bad h hb).mono ?_
    rintro e w' ⟨rfl, rfl⟩
    exact ⟨rfl, h, Chg.of_below _ (Below.refl _ _)⟩
theorem rtCommit (h : RT w gr gq gn gx base n first F L bad s) :
    Calls Try.prog 60 #[.pointer (some ⟨gx, 0, none⟩)] w fun e w' => e = .returned (.int .i64 (cmRes first F L bad s).1) ∧ RT w' gr gq gn gx base n first (cmRes first F L bad s).2.2.1 (cmRes first F L bad s).2.2.2.1 (cmRes first F L bad s).2.2.2.2 (cmRes first F L bad s).2.1 ∧ Chg (rset gr gq gx) w w' := by
  unfold cmRes
  by_cases hb : bad = 0
  · subst hb
    rw [if_pos rfl]
    exact refCommit_in h
  · rw [if_neg hb]
    refine (refCommit_bad h hb).mono ?_
    rintro e w' ⟨rfl, rfl⟩
    exact ⟨rfl, h, Chg.of_below _ (Below.refl _ _)⟩
theorem txDrop (h : TXs w gd gb gl gt gm n first F bad s) :
    Calls Try.prog 55 #[.pointer (some ⟨gt, 0, none⟩)] w fun e w' => e = .returned (.tuple #[]) ∧ TXs w' gd gb gl gt gm n first (fun _ => none) 0 s ∧ Chg (fun b => b = gm ∨ b = gt) w w' := by
  have hne := h.toTX.ne
  refine (txnDrop_ok h.toTX).mono ?_
  rintro e w' ⟨rfl, h1, h2⟩
  exact ⟨rfl, h.same h1 h2 (fun e => by rcases e with e | e; exact hne.2.1 e.symm; exact hne.1.1 e.symm), h2⟩
theorem RT.setLeft (h : RT w gr gq gn gx base n first F L bad s) (x : Int) (h0 : -1 ≤ x) (h1 : x ≤ 1000) : RT (w.setCell ⟨gr, 1, none⟩ (.int .i64 x)) gr gq gn gx base n first F L bad ⟨s.D, x, s.dead, s.c⟩ := by
  have o := one_setCell w gr 1 (.int .i64 x)
  have c : Chg (dset gr gq) w (w.setCell ⟨gr, 1, none⟩ (.int .i64 x)) := (Chg.of_below _ (Below.refl _ _)).one o (.inl (.inl rfl))
  obtain ⟨a, b, ex, C, hk, hm, hC⟩ := h.rl.dx.dk
  exact h.setD (s' := ⟨s.D, x, s.dead, s.c⟩) c ⟨⟨a, b, ex, C, hk.setLeft x, hm, hC⟩, h.rl.dx.u8, h.rl.dx.n, h0, by show x ≤ _; omega⟩
theorem RT.setDead (h : RT w gr gq gn gx base n first F L bad s) (x : Bool) : RT (w.setCell ⟨gr, 2, none⟩ (.bool x)) gr gq gn gx base n first F L bad ⟨s.D, s.left, x, s.c⟩ := by
  have o := one_setCell w gr 2 (.bool x)
  have c : Chg (dset gr gq) w (w.setCell ⟨gr, 2, none⟩ (.bool x)) := (Chg.of_below _ (Below.refl _ _)).one o (.inl (.inl rfl))
  obtain ⟨a, b, ex, C, hk, hm, hC⟩ := h.rl.dx.dk
  exact h.setD (s' := ⟨s.D, s.left, x, s.c⟩) c ⟨⟨a, b, ex, C, hk.setDead x, hm, hC⟩, h.rl.dx.u8, h.rl.dx.n, h.rl.dx.l0, h.rl.dx.l1⟩
theorem dxDead (h : DXs w gd gb n s) : Calls Try.prog 63 #[.pointer (some ⟨gd, 0, none⟩)] w fun e w' => e = .returned (.bool s.dead) ∧ w' = w := by
  obtain ⟨x, y, hd⟩ := h.dk
  exact diskDead_ok hd
end
end Go.Proofs.Ytonfnlohbgbffaa

set_option linter.unusedVariables false
set_option linter.unusedSimpArgs false
namespace Go.Proofs.Ytonfnlohbgbffaa
open Go.RowKit

theorem LXs.chg {w w' : World} {gd gb gl n first : Nat} {s : DSt} (h : LXs w gd gb gl n first s) {S : Nat → Prop} (c : Chg S w w') (h1 : ¬ S gd) (h2 : ¬ S gb) (h3 : ¬ S gl) : LXs w' gd gb gl n first s :=
  ⟨h.toLX.keepAt (c.block _ h.toLX.lt.1 h1) (c.block _ h.toLX.lt.2.1 h2) (c.block _ h.toLX.lt.2.2 h3), cell_keep h.cn (c.block _ h.toLX.lt.1 h1)⟩
/-- The document's disk and log, made of an image. -/
theorem refMade {w : World} {base : Nat} {v : Value} {n first : Nat} {s : DSt} (hown : w.ownsRow base 52 64 v n (pgsV n s.D)) (h0 : 0 < n) (hn : n ≤ 65536) (hu : ∀ k i, s.D k i ≤ 255) (hal : Alive s) (hf : first + 31 ≤ n) :
    ∃ gb, base ≤ gb ∧ gb < w.heap.size ∧ v.ownBlock = some gb ∧ RL ((w.alloc (.cells #[v, .int .i64 (-1), .bool false, .int .i64 0, .int .i64 0] 108)).alloc (.cells #[.pointer (some ⟨w.heap.size, 0, none⟩), .int .i64 first] 110)) w.heap.size gb (w.heap.size + 1) n first s := by
  have hd := World.rowIs_alloc w #[v, .int .i64 (-1), .bool false, .int .i64 0, .int .i64 0] 108
  rcases hown.2 with ⟨_, h⟩ | ⟨gb, cap, cur, hv, hb, hg, h1, h2, h3, h4⟩
  · omega
  subst hv
  have hlt : gb < w.heap.size := rowlt hg
  obtain ⟨ex, rfl⟩ : ∃ ex, cap = n + ex := ⟨cap - n, by omega⟩
  have hb1 := bnew w (.cells #[.slice (some ⟨gb, 0, none⟩) n (n + ex), .int .i64 (-1), .bool false, .int .i64 0, .int .i64 0] 108)
  obtain ⟨w1, hw1⟩ : ∃ w1, w1 = w.alloc (.cells #[.slice (some ⟨gb, 0, none⟩) n (n + ex), .int .i64 (-1), .bool false, .int .i64 0, .int .i64 0] 108) := ⟨_, rfl⟩
  have hr1 : w1.rowIs w.heap.size 108 5 (refCell gb n ex (-1) false 0 0) := by
    rw [hw1]
    exact hd _ (fun i hi => by
      have h5 : i = 0 ∨ i = 1 ∨ i = 2 ∨ i = 3 ∨ i = 4 := by simp at hi; omega
      rcases h5 with rfl | rfl | rfl | rfl | rfl <;> rfl)
  have hs1 : w1.heap.size = w.heap.size + 1 := by rw [hw1]; simp
  rw [← hw1] at hb1 ⊢
  have hblk : w.rowIs gb 52 ((n + ex) * 64) (fun i => cur.toList.getD i undef) := ⟨cur, hg, h3, fun i hi => by simp [List.getD_eq_getElem?_getD, h3, hi]⟩
  have hC : ∀ j, j < n * 64 → cur.toList.getD j undef = diskC s.D j := fun j hj => by
    have h5 := pgsV_get n s.D j hj
    rw [← h4, List.getElem?_take_of_lt hj] at h5
    rw [List.getD_eq_getElem?_getD, h5]
    rfl
  have hrx : RX w1 w.heap.size gb n s := ⟨⟨0, 0, ex, _, ⟨by rw [hal.1, hal.2]; exact hr1, rowIs_below hblk hb1, by omega, fun j hj => ⟨s.D (j / 64) (j % 64), hC j hj, by omega, by have := hu (j / 64) (j % 64); omega⟩⟩, h2, hC⟩, hu, hn, by rw [hal.2]; omega, by rw [hal.2]; omega⟩
  refine ⟨gb, hb, hlt, rfl, hrx.keep (bnew _ _), ?_, hf⟩
  have := World.rowIs_alloc w1 #[.pointer (some ⟨w.heap.size, 0, none⟩), .int .i64 first] 110 (logF w.heap.size first) (fun i hi => by rcases i with _ | _ | i; rfl; rfl; simp at hi; omega)
  rw [hs1] at this
  exact this
theorem run_copy_zero {P : Program} (w : World) (dT sT ty elem : TypeId) (G m cap : Nat) (u : Value) (xs : List Value)
    (hu : P.underlying dT = some (.slice elem)) (hs : (P.info? elem).map (·.size) = some 1) (hr : SR w u 0 1 xs) :
    (Builtin.copy_ #[dT, sT] ty #[.slice (some ⟨G, 0, none⟩) m cap, u]).run P w = .ok (goInt 0) w := by
  cases hq : P.info? elem with
  | none => simp [hq] at hs
  | some i =>
    have hi : i.size = 1 := by simpa [hq] using hs
    rcases hr.cases with ⟨_, _, h | ⟨a, c, h, _⟩⟩ | ⟨h, _⟩
    · subst h
      have hst := run_storeCells_cells (P := P) G 0 [] 0 w (fun j hj => by simp at hj) (fun j hj => by simp at hj) (fun v hv => by cases hv)
      simp only [Nat.add_zero] at hst
      simp [Builtin.copy_, run_underlying hu, Builtin.lenOf, Builtin.firstCells, sizeOf, typeInfo, hq, hi, hst, World.setCells]
    · subst h
      have hst := run_storeCells_cells (P := P) G 0 [] 0 w (fun j hj => by simp at hj) (fun j hj => by simp at hj) (fun v hv => by cases hv)
      have hld : (loadCells a 0).run P w = .ok #[] w := run_loadCells_list (P := P) w a [] (fun j v hv => by simp at hv)
      simp only [Nat.add_zero] at hst
      simp [Builtin.copy_, run_underlying hu, Builtin.lenOf, Builtin.firstCells, sizeOf, typeInfo, hq, hi, hst, hld, World.setCells]
    · omega
theorem run_copy_bytes {P : Program} (w : World) (dT sT ty elem : TypeId) (G m cap : Nat) (u : Value) (n : Nat) (xs : List Value) (t : TypeId) (N : Nat) (f : Nat → Value)
    (hu : P.underlying dT = some (.slice elem)) (hs : (P.info? elem).map (·.size) = some 1) (hrow : w.rowIs G t N f) (hr : SR w u n 1 xs) (h1 : ∀ v ∈ xs, v.oneCell' = true) (hnm : n ≤ m) (ho : n ≤ N) :
    (Builtin.copy_ #[dT, sT] ty #[.slice (some ⟨G, 0, none⟩) m cap, u]).run P w = .ok (goInt n) (w.setCells G 0 xs) := by
  rcases Nat.eq_zero_or_pos n with rfl | hn
  · have hx : xs = [] := List.eq_nil_of_length_eq_zero (by have := hr.1; omega)
    subst hx
    exact run_copy_zero w dT sT ty elem G m cap u [] hu hs hr
  · cases hq : P.info? elem with
    | none => simp [hq] at hs
    | some i =>
      have hi : i.size = 1 := by simpa [hq] using hs
      rcases hr.cases with ⟨h0, _⟩ | ⟨_, b, o2, c, rfl, _, _, hb, hc⟩
      · omega
      · have hl : xs.length = n := by have := hr.1; omega
        have hld : (loadCells ⟨b, o2, none⟩ xs.length).run P w = .ok xs.toArray w := run_loadCells_list (P := P) w ⟨b, o2, none⟩ xs (fun j v hv => by
          rw [addr_add _ rfl]
          show w.cell? ⟨b, o2 + j, none⟩ = _
          have hj : j < xs.length := by
            rcases Nat.lt_or_ge j xs.length with h | h
            · exact h
            · rw [List.getElem?_eq_none h] at hv; cases hv
          rw [hc j (by omega), hv])
        have hst := run_storeCells_cells (P := P) G 0 xs 0 w (fun j hj => by rw [hrow.cell (by omega)]; rfl) (fun j hj => hrow.frozen _) h1
        rw [hl] at hld
        have hmin : n.min m = n := Nat.min_eq_left hnm
        simp [Builtin.copy_, run_underlying hu, Builtin.lenOf, Builtin.firstCells, sizeOf, typeInfo, hq, hi, hmin, hld, hst]
/-- Bytes are copied to the beginning of a block. -/
theorem wpList_copy_page {w : World} {ops : Array Oper} {rest : List Oper} {o : Oper} {a : Act} {Q : Exit → Act → World → Prop} (hgd : o.guard = none) (d s : Operand)
    (ho : o.op = .call { callee := .builtin .copy, args := #[d, s], argTypes := #[34, 34] }) (dst : Option Tmp) (hdst : o.dst = dst) (G : Nat) (u : Value) (zs : List Int) (f : Nat → Nat)
    (hd : a.eval d = .slice (some ⟨G, 0, none⟩) 64 64) (hs : a.eval s = u) (hrow : w.rowIs G 52 64 (pgC f)) (hf : ∀ i, f i ≤ 255) (hz : SI w .u8 u zs) (hn : zs.length ≤ 64)
    (h : ∀ w' f', w'.rowIs G 52 64 (pgC f') → (∀ i, f' i ≤ 255) → One w w' (some G) → wpList Try.prog ops Q rest (a.put dst (goInt zs.length)) w') : wpList Try.prog ops Q (o :: rest) a w := by
  subst hdst
  refine wpList_plain hgd fun K hK => ?_
  have hw8 : ∀ i, 0 ≤ zs.getD i 0 ∧ zs.getD i 0 ≤ 255 := fun i => by
    rw [List.getD_eq_getElem?_getD]
    by_cases hi : i < zs.length
    · rw [List.getElem?_eq_getElem hi]
      exact wf_u8 (hz.wf _ (List.getElem_mem hi))
    · rw [List.getElem?_eq_none (by omega)]
      simp
  have hxs : zs.map (Value.int .u8) = (rowArr zs.length (fun i => .int .u8 (zs.getD i 0))).toList := by
    apply List.ext_getElem (by simp [rowArr])
    intro i h1 h2
    have h3 : i < zs.length := by simpa using h1
    simp [rowArr, List.getD_eq_getElem?_getD, h3]
  have hrun := run_copy_bytes (P := Try.prog) w 34 34 o.type 5 G 64 64 u zs.length (zs.map (Value.int .u8)) _ 64 _ Try.underlying34 (by kernel_rfl) hrow hz.sr (fun v hv => by obtain ⟨z, _, rfl⟩ := List.mem_map.1 hv; rfl) hn hn
  unfold Oper.wp
  simp only [execOp, ho, resolve, invoke, builtin, Sem.run_bind, Sem.run_pure, List.map_toArray, List.map_cons, List.map_nil, hd, hs, hrun, Result.andThen_ok]
  refine hK _ _ (h _ (fun i => if i < zs.length then (zs.getD i 0).toNat else f i) ?_ ?_ (one_setCells w G _ 0))
  · rw [hxs]
    refine (rowIs_piece (m := zs.length) (off := 0) (h := fun i => .int .u8 (zs.getD i 0)) hrow).congr (fun i hi => ?_)
    show _ = Value.int .u8 (((if i < zs.length then (zs.getD i 0).toNat else f i) : Nat) : Int)
    by_cases h3 : i < zs.length
    · rw [if_pos (by omega), if_pos h3]
      have := hw8 i
      have e : zs.getD (i - 0) 0 = ((zs.getD i 0).toNat : Int) := by
        rw [Nat.sub_zero]
        omega
      rw [e]
    · refine (if_neg (by omega)).trans ?_
      unfold pgC
      rw [if_neg h3]
  · intro i
    show (if i < zs.length then (zs.getD i 0).toNat else f i) ≤ 255
    split
    · have := hw8 i; omega
    · exact hf i
set_option maxRecDepth 100000 in
set_option maxHeartbeats 8000000 in
theorem walHeads_walk (W : World) (v0 v1 v2 v3 : Value) (o0 : Arg Try.prog W 34 v0) (o1 : Arg Try.prog W 34 v1) (o2 : Arg Try.prog W 5 v2) (o3 : Arg Try.prog W 4 v3) :
    Calls Try.prog 11 #[v0, v1, v2, v3] W fun e w' => e = .returned (.bool true) ∧ Below W.heap.size W w' := by
  obtain ⟨zs, hzs⟩ := SI.of_arg (k := .u8) Try.underlying34 Try.underlying5 (by kernel_rfl) o0
  obtain ⟨ts, hts⟩ := SI.of_arg (k := .u8) Try.underlying34 Try.underlying5 (by kernel_rfl) o1
  obtain ⟨ct, rfl, hct⟩ := Arg.int Try.underlying5 o2
  obtain ⟨rt, rfl⟩ := Arg.bool Try.underlying4 o3
  have hct2 := wf_u8 hct
  obtain ⟨ad0, c0, rfl, hc00, hc01⟩ := hzs.sr.form
  obtain ⟨ad1, c1, rfl, hc10, hc11⟩ := hts.sr.form
  have HZS := Lib.hid hzs
  have HTS := Lib.hid hts
  have HCT := Lib.hid hct2
  have hct0 := hct2.1
  have hct1 := hct2.2
  clear o0 o1 o2 o3 hzs hts hct hct2 hc00 hc10
  go_enter Try.func11, Try.ntmps11
  go_wp2_with fail
  refine (walAwake_in W).mono ?_
  rintro e w0 ⟨rfl, hb0⟩
  have HB0 := Lib.hid hb0
  clear hb0
  by_cases hz64 : 64 < zs.length
  · have g1 : (64 : Int) < zs.length := by omega
    go_wp2_with fail
    go_ret
    exact ⟨rfl, HB0.out⟩
  have g1 : decide ((64 : Int) < zs.length) = false := by rw [decide_eq_false_iff_not]; omega
  by_cases ht30 : 30 < ts.length
  · have g2 : (30 : Int) < ts.length := by omega
    go_wp2_with fail
    go_ret
    exact ⟨rfl, HB0.out⟩
  have g2 : decide ((30 : Int) < ts.length) = false := by rw [decide_eq_false_iff_not]; omega
  go_upto_if 36 with (first
    | (refine wpList_new_row rfl 52 rfl (some 9) rfl 64 _ page_zero ?_; intro w1 G hG hr1 hb1; have HG := Lib.hid (Nat.le_trans HB0.out.size hG); have HR1 := Lib.hid hr1; have HB1 := Lib.hid (bnext HB0.out hb1); have HSI1 := Lib.hid (HZS.out.keep HB1.out); clear hr1 hb1 hG)
    | (refine wpList_copy_page rfl (.tmp 33) (.tmp 34) rfl (some 35) rfl G _ zs (fun _ => 0) (by go_simp; try rfl) (by go_simp; try rfl) HR1.out (fun _ => by omega) HSI1.out (by omega) ?_; intro w2 f0 hr2 hf0 o2; have HR2 := Lib.hid hr2; have HF0 := Lib.hid hf0; have HB2 := Lib.hid (bone HB1.out o2 HG.out HB1.out.size); clear hr2 hf0 o2))
  go_cut [] (fun wx => ∃ f : Nat → Nat, wx.rowIs G 52 64 (pgC f) ∧ (∀ i, f i ≤ 255) ∧ Below W.heap.size W wx)
  case first =>
    cases rt with
    | false =>
      go_wp2_with fail
      go_meet
      exact ⟨f0, HR2.out, HF0.out, HB2.out⟩
    | true =>
      go_wp2_with fail
      go_loopw [10, 39] (fun v r wx => ∃ (k : Nat) (L : List Nat), k ≤ ts.length ∧ r = .int .i64 k ∧ L.length = k ∧ (∀ x ∈ L, x < 100) ∧ OwnN wx W.heap.size v L ∧ Below W.heap.size W wx ∧ wx.rowIs G 52 64 (pgC f0)) (fun _ r _ => ts.length - (intOf r).toNat)
      case atStart => exact ⟨0, [], by omega, rfl, rfl, fun x hx => (by cases hx), OwnN.nil _ _, HB2.out, HR2.out⟩
      case round =>
        obtain ⟨k, L, hk, rfl, hlen, hL, hown, hb, hrow⟩ := hrel
        obtain ⟨A1, cp1, hform⟩ := hown.form
        subst hform
        rw [hlen] at hown ⊢
        have HLEN := Lib.hid hlen
        have HL := Lib.hid hL
        have HOWN := Lib.hid hown
        have HB := Lib.hid hb
        have HROW := Lib.hid hrow
        clear hlen hL hown hb hrow
        by_cases hkt : k < ts.length
        · have g3 : (k : Int) < ts.length := by omega
          rcases (HTS.out.keep HB.out).cases with ⟨h, _⟩ | ⟨_, gz, off, cz, hs, _, _, hg, hc⟩
          · rw [h] at hkt; simp at hkt
          cases hs
          have hcz := hc k hkt
          have hwf := wf_u8 (HTS.out.wf (ts.getD k 0) (by rw [List.getD_eq_getElem?_getD, List.getElem?_eq_getElem hkt]; exact List.getElem_mem hkt))
          obtain ⟨z, hz⟩ : ∃ z : Int, z = ts.getD k 0 := ⟨_, rfl⟩
          rw [← hz] at hcz hwf
          obtain ⟨q, hq⟩ : ∃ q : Nat, (q : Int) = z % 100 := ⟨(z % 100).toNat, by omega⟩
          have m1 : z % 100 = (q : Int) := hq.symm
          have m2 : z.tmod 100 = (q : Int) := by rw [Int.tmod_eq_emod_of_nonneg (by omega)]; omega
          have hq100 : q < 100 := by omega
          have m3 : IntKind.i64.wrap (q : Int) = q := by simp [IntKind.wrap, IntKind.bits, IntKind.signed]; omega
          have m4 : IntKind.u8.wrap (q : Int) = q := by simp [IntKind.wrap, IntKind.bits, IntKind.signed]; omega
          clear hc hz hq hwf
          go_wp2_with (with_reducible refine wpList_stop (some 47) rfl ?_)
          refine Lib.hid ?_
          refine wpList_lit_int rfl (.tmp 46) rfl (some 47) rfl (q : Int) (by go_simp; try rfl) ?_
          intro w7 u hu hb7
          have HO7 := Lib.hid (HOWN.out.keep hb7)
          have HR7 := Lib.hid (rowIs_below HROW.out hb7)
          have HB7 := Lib.hid (bnext HB.out hb7)
          refine wpList_add_int rfl (.tmp 43) (.tmp 47) rfl (some 48) rfl W.heap.size (.slice A1 k cp1) u L q (by go_simp) (by go_simp) HO7.out hu (by rw [HLEN.out]; omega) HB7.out.size ?_
          intro v8 w8 ho8 o8
          obtain ⟨A8, c8, hform⟩ := ho8.form
          subst hform
          have HLEN8 := Lib.hid (show (L ++ [q]).length = k + 1 from by rw [List.length_append, HLEN.out]; rfl)
          rw [HLEN8.out] at ho8 ⊢
          have HO8 := Lib.hid ho8
          have HR8 := Lib.hid (show w8.rowIs G 52 64 (pgC f0) from HR7.out.of_block (o8.block G HR7.out.lt (fun e => own_ne_row HO7.out HR7.out G e rfl)))
          have HB8 := Lib.hid (HB7.out.trans (o8.toBelow (fun x hx => (HO7.out.lt x hx).1) HB7.out.size))
          have HL8 := Lib.hid (show ∀ x ∈ L ++ [q], x < 100 from fun x hx => by
            rcases List.mem_append.1 hx with h | h
            · exact HL.out x h
            · obtain rfl : x = q := by simpa using h
              exact hq100)
          clear hu hb7 ho8 o8
          go_wp2_with fail
          go_roundw
          case rel => exact ⟨k + 1, L ++ [q], by omega, by go_num, HLEN8.out, HL8.out, HO8.out, HB8.out, HR8.out⟩
          case measure => simp [intOf]; omega
        · obtain rfl : k = ts.length := by omega
          go_wp2_with fail
          refine (refHead_in (L := L) (HOWN.out.si (fun c hc => by have := HL.out c hc; omega)) (by rw [HLEN.out]; omega) (fun c hc => by have := HL.out c hc; omega)).mono ?_
          rintro e w5 ⟨rfl, hb5⟩
          have HB5 := Lib.hid (bnext HB.out hb5)
          have HR5 := Lib.hid (rowIs_below HROW.out hb5)
          clear hb5
          go_wp2_with (with_reducible refine wpList_stop none rfl ?_)
          refine Lib.hid ?_
          refine wpList_row_store rfl 52 (.tmp 9) (.tmp 51) rfl rfl G 64 _ (pgC (logB L)) (by go_simp) (by go_simp; try rfl) HR5.out (fun _ _ => rfl) block_size ?_
          intro w6 hr6 o6
          have HB6 := Lib.hid (bone HB5.out o6 HG.out HB5.out.size)
          have HR6 := Lib.hid hr6
          have d2 := hr6.cell (i := 2) (by omega)
          have df := hr6.frozen
          clear hr6 o6
          by_cases hc0 : 0 < ct
          · obtain ⟨q, hq⟩ : ∃ q : Nat, (q : Int) = ct % 34 := ⟨(ct % 34).toNat, by omega⟩
            have m1 : ct % 34 = (q : Int) := hq.symm
            have m2 : ct.tmod 34 = (q : Int) := by rw [Int.tmod_eq_emod_of_nonneg (by omega)]; omega
            have hq34 : q < 34 := by omega
            have HRN := Lib.hid (show (w6.setCell ⟨G, 2, none⟩ (.int .u8 q)).rowIs G 52 64 (pgC fun i => if i = 2 then q else logB L i) from (HR6.out.set 2 _).congr (fun i hi => by
              show _ = Value.int .u8 (((if i = 2 then q else logB L i) : Nat) : Int)
              by_cases h : i = 2
              · rw [if_pos h, if_pos h]
              · rw [if_neg h, if_neg h]
                rfl))
            have HBN := Lib.hid (bone HB6.out (one_setCell w6 G 2 (.int .u8 q)) HG.out HB6.out.size)
            clear hq
            go_wp2_with fail
            go_meet
            exact ⟨_, HRN.out, fun i => by show (if i = 2 then q else logB L i) ≤ 255; split; omega; exact logB_u8 _ _, HBN.out⟩
          · have g4 : decide ((0 : Int) < ct) = false := by rw [decide_eq_false_iff_not]; omega
            go_wp2_with fail
            go_meet
            exact ⟨_, HR6.out, fun i => logB_u8 _ _, HB6.out⟩
  case rest =>
    obtain ⟨f, hrow, hf, hb⟩ := hcut
    have HF := Lib.hid hf
    clear hf HR2 HF0 HB2 HR1 HB1 HSI1
    have HRC := Lib.hid hrow
    have HBC := Lib.hid hb
    clear hrow hb
    go_at_K
    go_step
    go_wp2_with fail
    refine (dzNew 90 (by omega) _).mono ?_
    rintro e w1 ⟨gd, gb, rfl, hd1, hl1, hl2, hb1⟩
    have HB1 := Lib.hid (bnext HBC.out hb1)
    have HLO := Lib.hid (show W.heap.size ≤ gd ∧ W.heap.size ≤ gb from ⟨Nat.le_trans HBC.out.size hl1, Nat.le_trans HBC.out.size hl2⟩)
    have HGD := Lib.hid (show ¬ dset gd gb G from fun e => by have := HRC.out.lt; rcases e with e | e <;> omega)
    have HR1 := Lib.hid (rowIs_below HRC.out hb1)
    have HD1 := Lib.hid hd1
    clear hb1 hl1 hl2 hd1
    go_wp2_with fail
    go_loopw [61] (fun r wx => ∃ (i : Nat) (s : DSt), i ≤ 40 ∧ r = .int .i64 i ∧ DXs wx gd gb 90 s ∧ Alive s ∧ Below W.heap.size W wx ∧ wx.rowIs G 52 64 (pgC f)) (fun r _ => 40 - (intOf r).toNat)
    case atStart => exact ⟨0, dz, by omega, rfl, HD1.out, dz_alive, HB1.out, HR1.out⟩
    case round =>
      obtain ⟨i, s, hi, rfl, hd, hal, hb, hrow⟩ := hrel
      have HD := Lib.hid hd
      have HAL := Lib.hid hal
      have HB := Lib.hid hb
      have HROW := Lib.hid hrow
      clear hd hal hb hrow
      by_cases hi40 : i < 40
      · have g3 : (i : Int) < 40 := by omega
        obtain ⟨q, hq⟩ : ∃ q : Nat, q = 3 + i := ⟨_, rfl⟩
        have k3 : (3 : Int) + (i : Int) = (q : Int) := by omega
        have k2 : IntKind.u8.wrap (i : Int) = i := by simp [IntKind.wrap, IntKind.bits, IntKind.signed]; omega
        have hq90 : q < 90 := by omega
        clear hq
        go_wp2_with fail
        refine (lawBlock_in i (by omega) _).mono ?_
        rintro e w2 ⟨rfl, hb2⟩
        have HD2 := Lib.hid (HD.out.keep hb2)
        have HB2 := Lib.hid (bnext HB.out hb2)
        have HR2 := Lib.hid (rowIs_below HROW.out hb2)
        clear hb2
        go_wp2_with fail
        refine (dxPut HD2.out q hq90 (fun a => xor_le i a (by omega))).mono ?_
        rintro e w3 ⟨rfl, hd3, hc3⟩
        have HD3 := Lib.hid hd3
        have HR3 := Lib.hid (hc3.row HR2.out HGD.out)
        have HB3 := Lib.hid (Chg.go HB2.out hc3 (fun k hk => by rcases hk with rfl | rfl; exact HLO.out.1; exact HLO.out.2) HB2.out.size)
        have HAL3 := Lib.hid (HAL.out.put q (fun a => i ^^^ (a % 64)))
        clear hd3 hc3
        go_wp2_with fail
        go_roundw
        case rel => exact ⟨i + 1, _, by omega, by go_num, HD3.out, HAL3.out, HB3.out, HR3.out⟩
        case measure => simp [intOf]; omega
      · obtain rfl : i = 40 := by omega
        go_wp2_with (first
          | (refine wpList_row_load (by kernel_rfl) 52 (.tmp 9) rfl (some 73) rfl G 64 (pgC f) (by go_simp) HROW.out _ block_under rfl block_size ?_))
        refine (dxPut HD.out 2 (by omega) HF.out).mono ?_
        rintro e w2 ⟨rfl, hd2, hc2⟩
        have HAL2 := Lib.hid (HAL.out.put 2 f)
        have HB2 := Lib.hid (Chg.go HB.out hc2 (fun k hk => by rcases hk with rfl | rfl; exact HLO.out.1; exact HLO.out.2) HB.out.size)
        obtain ⟨t, ht⟩ : ∃ t, t = s.put 2 f := ⟨_, rfl⟩
        rw [← ht] at hd2 HAL2
        clear hc2 ht
        go_wp2_with fail
        refine (hd2.open_ 2 (by omega)).mono ?_
        rintro e w3 ⟨gl, rfl, hx3, hl3, hb3⟩
        have HX3 := Lib.hid hx3
        have HB3 := Lib.hid (bnext HB2.out hb3)
        clear hd2 hx3 hl3 hb3
        go_wp2_with fail
        refine (dxImage HX3.out.dxs).mono ?_
        rintro e w4 ⟨⟨v, rfl, hown⟩, hb4⟩
        have HX4 := Lib.hid (HX3.out.keep hb4)
        have HB4 := Lib.hid (bnext HB3.out hb4)
        obtain ⟨gq, hq1, hq2, hq3, hrl⟩ := refMade (first := 2) hown (by omega) (by omega) HX3.out.dx.u8 HAL2.out (by omega)
        obtain ⟨A1, c1, hform⟩ := own_form hown
        subst hform
        obtain ⟨w5, hw5⟩ : ∃ w5, w5 = (w4.alloc (.cells #[.slice A1 90 c1, .int .i64 (-1), .bool false, .int .i64 0, .int .i64 0] 108)).alloc (.cells #[.pointer (some ⟨w4.heap.size, 0, none⟩), .int .i64 2] 110) := ⟨_, rfl⟩
        have HRL := Lib.hid (show RL w5 w4.heap.size gq (w4.heap.size + 1) 90 2 t from by rw [hw5]; exact hrl)
        have HQ := Lib.hid (show w3.heap.size ≤ gq ∧ gq < w4.heap.size from ⟨hq1, hq2⟩)
        have hbn : Below w4.heap.size w4 w5 := by rw [hw5]; exact bnewAfter (bnew w4 _) _
        have HX5 := Lib.hid (HX4.out.keep hbn)
        have HB5 := Lib.hid (bnext HB4.out hbn)
        have HLT := Lib.hid HX3.out.toLX.lt
        have HSZ := Lib.hid hb4.size
        clear hown hb4 hq1 hq2 hq3 hrl hbn
        go_upto_region 26 with fail
        rw [← hw5]
        clear hw5
        obtain ⟨gm, hgm⟩ : ∃ gm, gm = w4.heap.size + 1 := ⟨_, rfl⟩
        rw [← hgm] at HRL ⊢
        obtain ⟨gr, hgr⟩ : ∃ gr, gr = w4.heap.size := ⟨_, rfl⟩
        rw [← hgr] at HRL hgm ⊢
        have HNE := Lib.hid (show (¬ dset gd gb gr ∧ ¬ dset gd gb gq ∧ ¬ dset gd gb gm) ∧ ¬ dset gr gq gd ∧ ¬ dset gr gq gb ∧ ¬ dset gr gq gl from by
          have h1 := HLT.out
          have h2 := HQ.out
          have h3 := HSZ.out
          unfold dset
          omega)
        have HLO2 := Lib.hid (show W.heap.size ≤ gr ∧ W.heap.size ≤ gq from by
          have h1 := HB3.out.size
          have h2 := HQ.out
          have h3 := HSZ.out
          omega)
        have HPG := Lib.hid (show w4.heap.size = gr from hgr.symm)
        clear hgm hgr
        have hrv := walRecover HX5.out
        have hrv2 := fun w' (h : RL w' gr gq gm 90 2 t) => refRecover_in h
        obtain ⟨⟨t2, N, C⟩, hR⟩ : ∃ R : DSt × Nat × Int, R = recov 2 90 t := ⟨_, rfl⟩
        rw [← hR] at hrv
        simp only [← hR] at hrv2
        have HV2 := Lib.hid hrv2
        clear hrv2 hR
        go_wp2_with fail
        refine hrv.mono ?_
        rintro e w6 ⟨rfl, hx6, hc6⟩
        clear hrv
        have HX6 := Lib.hid hx6
        have HRL6 := Lib.hid (HRL.out.chg hc6 HNE.out.1.1 HNE.out.1.2.1 HNE.out.1.2.2)
        have HB6 := Lib.hid (Chg.go HB5.out hc6 (fun k hk => by rcases hk with rfl | rfl; exact HLO.out.1; exact HLO.out.2) HB5.out.size)
        clear hx6 hc6
        go_wp2_with fail
        refine (HV2.out _ HRL6.out).mono ?_
        rintro e w7 ⟨rfl, hr7, hc7⟩
        have HRL7 := Lib.hid hr7
        have HX7 := Lib.hid (HX6.out.chg hc7 HNE.out.2.1 HNE.out.2.2.1 HNE.out.2.2.2)
        have HB7 := Lib.hid (Chg.go HB6.out hc7 (fun k hk => by rcases hk with rfl | rfl; exact HLO2.out.1; exact HLO2.out.2) HB6.out.size)
        clear hr7 hc7
        go_upto_region 28 with fail
        obtain ⟨ex, hex, hsr⟩ := HRL7.out.dx.sr
        have HE := Lib.hid hex
        have HSR := Lib.hid hsr
        have HL0 := Lib.hid (show ∀ w', Below w7.heap.size w7 w' → w'.cell? ⟨gm, 0, none⟩ = some (.pointer (some ⟨gr, 0, none⟩)) from fun w' hb => (HRL7.out.keep hb).c0)
        clear hex hsr
        have hS : Below w7.heap.size w7 (World.drew w7) := drewb w7
        refine wp_region_held (S := fun w' => Below w7.heap.size w7 w') (by kernel_rfl) ?_
        change wpAnyH _ _ _ _ _ _ _ _ (World.drew _)
        refine takeH 0 (.int .i64 0) (some 96) rfl rfl (by kernel_rfl) (by kernel_rfl) (by kernel_rfl) (fun _ _ _ h => h) (.inl ⟨by kernel_rfl, fun w _ => by go_simp⟩) hS ?_
        refine takeH 1 (.bool true) (some 97) rfl rfl (by kernel_rfl) (by kernel_rfl) (by kernel_rfl) (fun _ _ _ h => h) (.inl ⟨by kernel_rfl, fun w _ => by go_simp⟩) hS ?_
        refine takeH 2 (.bool true) (some 98) rfl rfl (by kernel_rfl) (by kernel_rfl) (by kernel_rfl) (fun _ _ _ h => h) (.inl ⟨by kernel_rfl, fun w _ => by go_simp⟩) hS ?_
        refine takeH 3 (.int .i64 N) (some 99) rfl rfl (by kernel_rfl) (by kernel_rfl) (by kernel_rfl) (fun _ _ _ h => h) (.inl ⟨by kernel_rfl, fun w _ => by go_simp⟩) hS ?_
        refine takeH 4 (.int .i64 N) (some 100) rfl rfl (by kernel_rfl) (by kernel_rfl) (by kernel_rfl) (fun _ _ _ h => h) (.inl ⟨by kernel_rfl, fun w _ => by go_simp⟩) hS ?_
        refine takeH 5 (.bool true) (some 101) rfl rfl (by kernel_rfl) (by kernel_rfl) (by kernel_rfl) (fun _ _ _ h => h) (.inl ⟨by kernel_rfl, fun w _ => by go_simp⟩) hS ?_
        refine takeH 6 (.bool true) (some 102) rfl rfl (by kernel_rfl) (by kernel_rfl) (by kernel_rfl) (fun _ _ _ h => h) (.inl ⟨by kernel_rfl, fun w _ => by go_simp⟩) hS ?_
        refine takeH 7 (.bool true) (some 103) rfl rfl (by kernel_rfl) (by kernel_rfl) (by kernel_rfl) (fun _ _ _ h => h) (.inl ⟨by kernel_rfl, fun w _ => by go_simp⟩) hS ?_
        refine takeH 8 (.int .i64 C) (some 104) rfl rfl (by kernel_rfl) (by kernel_rfl) (by kernel_rfl) (fun _ _ _ h => h) (.inl ⟨by kernel_rfl, fun w _ => by go_simp⟩) hS ?_
        refine takeH 9 (.int .i64 C) (some 105) rfl rfl (by kernel_rfl) (by kernel_rfl) (by kernel_rfl) (fun _ _ _ h => h) (.inl ⟨by kernel_rfl, fun w _ => by go_simp⟩) hS ?_
        refine takeH 10 (.bool true) (some 106) rfl rfl (by kernel_rfl) (by kernel_rfl) (by kernel_rfl) (fun _ _ _ h => h) (.inl ⟨by kernel_rfl, fun w _ => by go_simp⟩) hS ?_
        refine takeH 11 (.bool true) (some 107) rfl rfl (by kernel_rfl) (by kernel_rfl) (by kernel_rfl) (fun _ _ _ h => h) (.inl ⟨by kernel_rfl, fun w _ => by go_simp⟩) hS ?_
        refine takeH 12 (.bool true) (some 108) rfl rfl (by kernel_rfl) (by kernel_rfl) (by kernel_rfl) (fun _ _ _ h => h) (.inl ⟨by kernel_rfl, fun w _ => by go_simp⟩) hS ?_
        refine takeH 13 (.pointer (some ⟨gd, 0, none⟩)) (some 109) rfl rfl (by kernel_rfl) (by kernel_rfl) (by kernel_rfl) (fun _ _ _ h => h) (.inl ⟨by kernel_rfl, fun w _ => by go_simp⟩) hS ?_
        refine takeH 15 (.pointer (some ⟨gm, 0, none⟩)) (some 111) rfl rfl (by kernel_rfl) (by kernel_rfl) (by kernel_rfl) (fun _ _ _ h => h) (.inl ⟨by kernel_rfl, fun w _ => by go_simp⟩) hS ?_
        refine takeH 16 (.pointer (some ⟨gm, 0, none⟩)) (some 112) rfl rfl (by kernel_rfl) (by kernel_rfl) (by kernel_rfl) (fun _ _ _ h => h) (.inl ⟨by kernel_rfl, fun w _ => by go_simp⟩) hS ?_
        refine takeH 17 (.pointer (some ⟨gm, 0, none⟩)) (some 113) rfl rfl (by kernel_rfl) (by kernel_rfl) (by kernel_rfl) (fun _ _ _ h => h) (.inl ⟨by kernel_rfl, fun w _ => by go_simp⟩) hS ?_
        refine takeH 18 (.pointer (some ⟨gr, 0, none⟩)) (some 114) rfl rfl (by kernel_rfl) (by kernel_rfl) (by kernel_rfl) (fun _ _ _ h => h) (.inl ⟨by kernel_rfl, fun w hw => by have hc := HL0.out w hw; go_simp⟩) hS ?_
        refine takeH 19 (.pointer (some ⟨gr, 0, none⟩)) (some 115) rfl rfl (by kernel_rfl) (by kernel_rfl) (by kernel_rfl) (fun _ _ _ h => h) (.inl ⟨by kernel_rfl, fun w _ => by go_simp⟩) hS ?_
        refine takeH 20 (.pointer (some ⟨gr, 0, none⟩)) (some 116) rfl rfl (by kernel_rfl) (by kernel_rfl) (by kernel_rfl) (fun _ _ _ h => h) (.inl ⟨by kernel_rfl, fun w _ => by go_simp⟩) hS ?_
        refine takeH 21 (.slice (some ⟨gq, 0, none⟩) 90 (90 + ex)) (some 117) rfl rfl (by kernel_rfl) (by kernel_rfl) (by kernel_rfl) (fun _ _ _ h => h) (.inl ⟨by kernel_rfl, fun w hw => by have hc := HE.out w hw; go_simp⟩) hS ?_
        go_simp
        refine callH 14 rfl (by kernel_rfl) (by kernel_rfl) (some 110) rfl 46 #[.pointer (some ⟨gd, 0, none⟩)] ?hrun ((dxImage (HX7.out.keep (drewb w7)).dxs).mono ?_)
        case hrun => go_simp; try rfl
        rintro e w8 ⟨⟨v8, rfl, hown8⟩, hb8⟩
        have hS8 : Below w7.heap.size w7 w8 := bnext hS hb8
        refine ⟨_, rfl, hS8, ?_⟩
        have HS8 := Lib.hid (SR.of_own hown8)
        have HSR8 := Lib.hid (HSR.out.keep hS8)
        clear hown8 hb8
        go_simp
        refine callH 22 rfl (by kernel_rfl) (by kernel_rfl) (some 118) rfl 50 #[v8, .slice (some ⟨gq, 0, none⟩) 90 (90 + ex)] ?hrun ((same_true HS8.out HSR8.out (pgsV_u8 _ _ HRL7.out.dx.u8) (by omega)).mono ?_)
        case hrun => go_simp; try rfl
        rintro e w9 ⟨rfl, hb9⟩
        have hS9 : Below w7.heap.size w7 w9 := bnext hS8 hb9
        refine ⟨_, rfl, hS9, ?_⟩
        go_simp
        clear hb9
        refine takeH 23 (.bool true) (some 119) rfl rfl (by kernel_rfl) (by kernel_rfl) (by kernel_rfl) (fun _ _ _ h => h) (.inl ⟨by kernel_rfl, fun w _ => by go_simp⟩) hS9 ?_
        refine takeH 24 (.bool true) (some 8) rfl rfl (by kernel_rfl) (by kernel_rfl) (by kernel_rfl) (fun _ _ _ h => h) (.inl ⟨by kernel_rfl, fun w _ => by go_simp⟩) hS9 ?_
        refine wpAnyH_done (by kernel_rfl) ?_ _
        go_simp
        go_wp2_with fail
        go_ret
        exact ⟨rfl, bnext HB7.out hS9⟩

end Go.Proofs.Ytonfnlohbgbffaa
