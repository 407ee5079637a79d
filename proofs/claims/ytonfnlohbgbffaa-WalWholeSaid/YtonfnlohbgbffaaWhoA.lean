/- For WalWhole: Arm, Wake; pages of the call's own that are changed, and parts of them; the plain law put together. -/
import Derived.Test.YtonfnlohbgbffaaWalS
import Derived.Test.YtonfnlohbgbffaaWalR
set_option linter.unusedVariables false
set_option linter.unusedSimpArgs false
namespace Go.Proofs.Ytonfnlohbgbffaa
open Go.RowKit

section
variable {w w' : World} {gd gb gl gt gm n first : Nat} {F : Int → Option (Nat → Nat)} {bad : Int} {s s' : DSt}
theorem dxArm (h : DXs w gd gb n s) (x : Nat) (hx : x ≤ 1000) :
    Calls Try.prog 57 #[.pointer (some ⟨gd, 0, none⟩), .int .i64 x] w fun e w' => e = .returned (.tuple #[]) ∧ DXs w' gd gb n ⟨s.D, x, s.dead, s.c⟩ ∧ Chg (dset gd gb) w w' := by
  obtain ⟨a, b, hd⟩ := h.dk
  have ha : (Value.int .i64 a) = .int .i64 s.c := Option.some.inj (hd.c3.symm.trans h.cn)
  injection ha with _ ha
  subst ha
  refine (diskArm_ok hd x).mono ?_
  rintro e w' ⟨rfl, h1, h2⟩
  rw [show max (x : Int) (-1) = (x : Int) by omega] at h1
  exact ⟨rfl, ⟨⟨⟨_, _, h1⟩, h.u8, h.n, by show (-1 : Int) ≤ (x : Int); omega, by show (x : Int) ≤ _; omega⟩, h1.c3⟩, h2.chg⟩
theorem dxWake (h : DXs w gd gb n s) :
    Calls Try.prog 58 #[.pointer (some ⟨gd, 0, none⟩)] w fun e w' => e = .returned (.tuple #[]) ∧ DXs w' gd gb n ⟨s.D, -1, false, s.c⟩ ∧ Chg (dset gd gb) w w' := by
  obtain ⟨a, b, hd⟩ := h.dk
  have ha : (Value.int .i64 a) = .int .i64 s.c := Option.some.inj (hd.c3.symm.trans h.cn)
  injection ha with _ ha
  subst ha
  refine (diskWake_ok hd).mono ?_
  rintro e w' ⟨rfl, h1, h2⟩
  exact ⟨rfl, ⟨⟨⟨_, _, h1⟩, h.u8, h.n, by show (-1 : Int) ≤ -1; omega, by show (-1 : Int) ≤ _; omega⟩, h1.c3⟩, h2.chg⟩
end
/-! ### Pages -/
/-- A row of n pages with room behind. -/
structure PgAt (w : World) (g n cap : Nat) (V : Nat → Nat → Nat) : Prop where
  row : ∃ C, w.rowIs g 52 (cap * 64) C ∧ ∀ j, j < n * 64 → C j = diskC V j
  le : n ≤ cap
  cap : cap ≤ maxLen
section
variable {w w' : World} {g n cap : Nat} {V : Nat → Nat → Nat}
theorem PgAt.lt (h : PgAt w g n cap V) : g < w.heap.size := by
  obtain ⟨C, h1, _⟩ := h.row
  exact h1.lt
theorem PgAt.keep (h : PgAt w g n cap V) (hb : Below w.heap.size w w') : PgAt w' g n cap V := by
  obtain ⟨C, h1, h2⟩ := h.row
  exact ⟨⟨C, rowIs_below h1 hb, h2⟩, h.le, h.cap⟩
theorem PgAt.chg {S : Nat → Prop} (h : PgAt w g n cap V) (c : Chg S w w') (hS : ¬ S g) : PgAt w' g n cap V := by
  obtain ⟨C, h1, h2⟩ := h.row
  exact ⟨⟨C, c.row h1 hS, h2⟩, h.le, h.cap⟩
theorem PgAt.one (h : PgAt w g n cap V) {x : Nat} (o : One w w' (some x)) (hx : g ≠ x) : PgAt w' g n cap V := by
  obtain ⟨C, h1, h2⟩ := h.row
  exact ⟨⟨C, rowIs_one h1 o hx, h2⟩, h.le, h.cap⟩
theorem PgAt.sr (h : PgAt w g n cap V) : SR w (.slice (some ⟨g, 0, none⟩) n cap) n 64 (pgsV n V) := by
  obtain ⟨C, h1, h2⟩ := h.row
  have hl := h.le
  refine ⟨pgsV_len _ _, .inr ⟨_, cap, rfl, h.le, h.cap, fun _ => ⟨rfl, h1.lt, fun i hi => ?_⟩⟩⟩
  show w.cell? ⟨g, 0 + i, none⟩ = _
  rw [Nat.zero_add, h1.cell (by omega), h2 i hi, pgsV_get _ _ _ hi]
theorem PgAt.ofOwn {base : Nat} {v : Value} (h : w.ownsRow base 52 64 v n (pgsV n V)) (h0 : 0 < n) : ∃ g cap, v = .slice (some ⟨g, 0, none⟩) n cap ∧ base ≤ g ∧ PgAt w g n cap V := by
  rcases h.2 with ⟨_, h⟩ | ⟨gb, cap, cur, hv, hb, hg, h1, h2, h3, h4⟩
  · omega
  refine ⟨gb, cap, hv, hb, ⟨⟨fun i => cur.toList.getD i undef, ⟨cur, hg, h3, fun i hi => by simp [List.getD_eq_getElem?_getD, h3, hi]⟩, fun j hj => ?_⟩, h1, h2⟩⟩
  have h5 := pgsV_get n V j hj
  rw [← h4, List.getElem?_take_of_lt hj] at h5
  show cur.toList.getD j undef = _
  rw [List.getD_eq_getElem?_getD, h5]
  rfl
/-- From one on. -/
theorem PgAt.from (h : PgAt w g n cap V) (k : Nat) (hk : k < n) : SR w (.slice (some ⟨g, k * 64, none⟩) (n - k) (cap - k)) (n - k) 64 (pgsV (n - k) fun j => V (k + j)) := by
  obtain ⟨C, h1, h2⟩ := h.row
  have hl := h.le
  have hc := h.cap
  refine ⟨pgsV_len _ _, .inr ⟨_, cap - k, rfl, by omega, by omega, fun _ => ⟨rfl, h1.lt, fun i hi => ?_⟩⟩⟩
  show w.cell? ⟨g, k * 64 + i, none⟩ = _
  rw [h1.cell (by omega), h2 _ (by omega), pgsV_get _ _ _ hi]
  unfold diskC
  rw [show (k * 64 + i) / 64 = k + i / 64 by omega, show (k * 64 + i) % 64 = i % 64 by omega]
/-- The first ones. -/
theorem PgAt.first (h : PgAt w g n cap V) (m : Nat) (hm : m ≤ n) : SR w (.slice (some ⟨g, 0, none⟩) m cap) m 64 (pgsV m V) := by
  obtain ⟨C, h1, h2⟩ := h.row
  have hl := h.le
  refine ⟨pgsV_len _ _, .inr ⟨_, cap, rfl, by omega, h.cap, fun _ => ⟨rfl, h1.lt, fun i hi => ?_⟩⟩⟩
  show w.cell? ⟨g, 0 + i, none⟩ = _
  rw [Nat.zero_add, h1.cell (by omega), h2 i (by omega), pgsV_get _ _ _ hi]
/-- One is stored. -/
theorem wpList_pg_store {ops : Array Oper} {Q : Exit → Act → World → Prop} {a : Act} {rest : List Oper} {o : Oper} (hg : o.guard = none) (x y : Operand) (ho : o.op = .store 52 x y) (hd : o.dst = none)
    (k : Nat) (f : Nat → Nat) (hx : a.eval x = .pointer (some ⟨g, k * 64, none⟩)) (hy : a.eval y = .agg (rowArr 64 (pgC f))) (h : PgAt w g n cap V) (hk : k < n)
    (hn : ∀ w', PgAt w' g n cap (setBlk V k f) → One w w' (some g) → wpList Try.prog ops Q rest a w') : wpList Try.prog ops Q (o :: rest) a w := by
  obtain ⟨C, h1, h2⟩ := h.row
  have hl := h.le
  refine wpList_store_pieceTo hg 52 x y ho hd g (k * 64) (rowArr 64 (pgC f)) hx hy (by rw [rowArr_size]; exact block_size) (fun j hj => by rw [rowArr_size] at hj; rw [h1.cell (by omega)]; rfl) (fun j _ => h1.frozen _) (pgC_one f) (fun w' hw' => ?_)
  refine hn w' ⟨⟨fun j => if k * 64 ≤ j ∧ j < k * 64 + 64 then pgC f (j - k * 64) else C j, by rw [hw']; exact rowIs_piece (m := 64) (off := k * 64) (h := pgC f) h1, fun j hj => ?_⟩, h.le, h.cap⟩ (by rw [hw']; exact one_setCells w g _ _)
  show (if k * 64 ≤ j ∧ j < k * 64 + 64 then pgC f (j - k * 64) else C j) = Value.int .u8 (((if j / 64 = k then f else V (j / 64)) (j % 64) : Nat) : Int)
  by_cases hj2 : k * 64 ≤ j ∧ j < k * 64 + 64
  · rw [if_pos hj2, if_pos (show j / 64 = k by omega), show j % 64 = j - k * 64 by omega]
    rfl
  · rw [if_neg hj2, if_neg (show ¬ j / 64 = k by omega), h2 j hj]
    rfl
end
/-- A byte of an argument. -/
theorem SI.u8At {w : World} {A : Option Addr} {m c : Nat} {zs : List Int} (h : SI w .u8 (.slice A m c) zs) (k : Nat) (hk : k < zs.length) :
    ∃ g off z, A = some ⟨g, off, none⟩ ∧ z ≤ 255 ∧ ∀ w', Below w.heap.size w w' → w'.cell? ⟨g, off + k, none⟩ = some (.int .u8 ((z : Nat) : Int)) := by
  rcases h.cases with ⟨h0, _⟩ | ⟨_, gz, off, cz, hs, _, _, hg, hc⟩
  · rw [h0] at hk; simp at hk
  injection hs with e1 _ _
  have hwf := wf_u8 (h.wf (zs.getD k 0) (by rw [List.getD_eq_getElem?_getD, List.getElem?_eq_getElem hk]; exact List.getElem_mem hk))
  refine ⟨gz, off, (zs.getD k 0).toNat, e1, by omega, fun w' hb => ?_⟩
  rw [World.cell?_of_block (hb.block gz hg), hc k hk, Int.toNat_of_nonneg hwf.1]
/-! ### The plain law -/
theorem newD_nil (G D0 : Nat → Nat → Nat) : newD G [] D0 = D0 := by
  funext j
  unfold newD
  rw [if_neg (by simp)]
theorem PhP.nil {first : Nat} {G D0 D : Nat → Nat → Nat} (h : PhP first G [] D0 D) : OldP first D0 D := by
  rcases h with h | h | h
  · exact h
  · exact ⟨h.1, fun j hj => h.2.2 j hj (by simp)⟩
  · rw [newD_nil] at h
    exact h
theorem recov_ph {first n : Nat} {G D0 : Nat → Nat → Nat} {L : List Nat} (hL : OkL first n L) (s : DSt) (h : PhP first G L D0 s.D) :
    PhP first G L D0 (recov first n s).1.D ∧ (OldP first (newD G L D0) s.D → OldP first (newD G L D0) (recov first n s).1.D) ∧ (Alive s → (recov first n s).2.2 = 0 ∧ Alive (recov first n s).1 ∧ (OldP first D0 (recov first n s).1.D ∨ OldP first (newD G L D0) (recov first n s).1.D)) := by
  have hk : OldP first (newD G L D0) s.D → OldP first (newD G L D0) (recov first n s).1.D := fun h => by
    rw [recov_old s hL.n h]
    exact h
  by_cases h0 : L = []
  · subst h0
    have h1 := h.nil
    rw [recov_old s hL.n h1]
    exact ⟨h, (fun h => h), (fun ha => ⟨rfl, ha, .inl h1⟩)⟩
  · obtain ⟨r1, r2⟩ := recov_stop hL h0 s h
    exact ⟨r1, hk, (fun ha => ⟨(r2 ha).1, (r2 ha).2.1, (r2 ha).2.2.1⟩)⟩
theorem commit_ph {first n : Nat} {G D0 : Nat → Nat → Nat} {L : List Nat} (hL : OkL first n L) (s : DSt) (h : OldP first D0 s.D) :
    PhP first G L D0 (commit first G L s).1.D ∧ ((commit first G L s).2.1 = 0 → OldP first (newD G L D0) (commit first G L s).1.D) := by
  by_cases h0 : L = []
  · subst h0
    have e : commit first G [] s = (s, 0, false) := if_pos rfl
    rw [e, newD_nil]
    exact ⟨.inl h, fun _ => h⟩
  · exact commit_stop hL h0 s h
theorem viewB_next (F : Int → Option (Nat → Nat)) (D : Nat → Nat → Nat) (k : Nat) (f : Nat → Nat) : setBlk (viewB F D) k f = viewB (putF F (k : Int) f) D := by
  funext j
  unfold setBlk viewB putF
  by_cases h : j = k
  · rw [if_pos h, if_pos (by omega)]
    rfl
  · rw [if_neg h, if_neg (by omega)]
theorem viewB_none (D : Nat → Nat → Nat) : viewB (fun _ => none) D = D := rfl
theorem newD_view {F : Int → Option (Nat → Nat)} {L : List Nat} (hk : KeysOf F L) (D : Nat → Nat → Nat) : newD (pageG F) L D = viewB F D := by
  funext j
  unfold newD viewB pageG
  by_cases h : j ∈ L
  · rw [if_pos h]
    have := hk.yes j h
    cases hf : F (j : Nat) with
    | none => exact absurd hf this
    | some f => rfl
  · rw [if_neg h]
    cases hf : F (j : Nat) with
    | none => rfl
    | some f =>
      obtain ⟨k, hk1, hk2⟩ := hk.all (j : Nat) (by rw [hf]; simp)
      obtain rfl : j = k := by omega
      exact absurd hk1 h
end Go.Proofs.Ytonfnlohbgbffaa
