/- A transaction: Drop, Commit. -/
import Derived.Test.YtonfnlohbgbffaaWalH
import Derived.BigRegion
set_option linter.unusedVariables false
set_option linter.unusedSimpArgs false
namespace Go.Proofs.Ytonfnlohbgbffaa
open Go.RowKit
open Go.Maps (Keyed)

section
variable {P : Program} {ops : Array Oper} {Q : Exit → Act → World → Prop} {a : Act} {rest : List Oper} {o : Oper} {w : World} {k e : TypeId} {g : Nat} {κ α : Type} [DecidableEq κ] {kv : κ → Value} {vv : α → Value} {F : κ → Option α} {t : TypeId}
omit [DecidableEq κ] in
theorem wpList_clear_mb (hw : Region.wanted o (yielded ops a.tmps) = true) (hd : o.dst = none) (h : MB w P k g kv vv F) (ht : P.underlying t = some (.map k e))
    (m : Operand) (ho : o.op = .call { callee := .builtin .clear, args := #[m], argTypes := #[t] }) (hm : a.eval m = .map (some g))
    (hk : ∀ w', MB w' P k g kv vv (fun _ : κ => (none : Option α)) → One w w' (some g) → wpList P ops Q rest (a.put none (.tuple #[])) w') : wpList P ops Q (o :: rest) a w := by
  obtain ⟨w', h1, h2, h3⟩ := h.exec_clear (ρ := a.eval) (o := o) ht m ho hm
  exact wpList_by hw none hd h1 (hk w' h2 h3)
end
theorem SI.chg {w w' : World} {v : Value} {zs : List Int} {S : Nat → Prop} (h : SI w .i64 v zs) (c : Chg S w w') (hS : ∀ x, v.ownBlock = some x → ¬ S x) : SI w' .i64 v zs := by
  refine ⟨⟨h.sr.1, ?_⟩, h.wf⟩
  rcases h.sr.2 with h1 | ⟨a, cap, rfl, h1, h2, h3⟩
  · exact .inl h1
  · refine .inr ⟨a, cap, rfl, h1, h2, fun hn => ?_⟩
    obtain ⟨h4, h5, h6⟩ := h3 hn
    refine ⟨h4, Nat.lt_of_lt_of_le h5 c.size, fun i hi => ?_⟩
    exact (World.cell?_of_block (a := ⟨a.block, a.off + i, none⟩) (c.block a.block h5 (hS _ rfl))).trans (h6 i hi)
section
variable {w w' : World} {gd gb gl gt gm n first : Nat} {F : Int → Option (Nat → Nat)} {bad : Int} {s : DSt}
set_option maxRecDepth 10000 in
set_option maxHeartbeats 1000000 in
theorem txnDrop_ok {D : Nat → Nat → Nat} {left : Int} {dead : Bool} (h : TX w gd gb gl gt gm n first F bad D left dead) :
    Calls Try.prog 55 #[.pointer (some ⟨gt, 0, none⟩)] w fun e w' => e = .returned (.tuple #[]) ∧ TX w' gd gb gl gt gm n first (fun _ => none) 0 D left dead ∧ Chg (fun b => b = gm ∨ b = gt) w w' := by
  have c1 := h.c1
  have H := Lib.hid h
  clear h
  go_enter Try.func55, Try.ntmps55
  go_wp2_with (first
    | (refine wpList_clear_mb (by kernel_rfl) rfl H.out.mp Try.underlying141 _ rfl (by go_simp) ?_; intro w2 hm2 o2; have H2 := Lib.hid (H.out.setM o2 hm2 (fun k f hk => by cases hk)); have O2 := Lib.hid o2; have df := H2.out.tx.frozen; have c2 := H2.out.c2; clear hm2 o2 c1))
  go_end0
  exact ⟨rfl, H2.out.setBad 0, ((Chg.of_below _ (Below.refl _ _)).one O2.out (.inl (.inl rfl))).one (one_setCell _ gt 2 _) (.inl (.inr rfl))⟩

/-! ### Commit -/
def pageG (F : Int → Option (Nat → Nat)) (k : Nat) : Nat → Nat := (F (k : Nat)).getD fun _ => 0
/-- The blocks are written behind the head. -/
def logW (first : Nat) (G : Nat → Nat → Nat) : List Nat → Nat → DSt → DSt × Int
  | [], _, s => (s, 0)
  | k :: L, i, s => if s.up = true then logW first G L (i + 1) (s.put (first + 1 + i) (G k)) else (s.put (first + 1 + i) (G k), 24)
/-- What Commit does: the disk, the answer, is it dropped? -/
def commit (first : Nat) (G : Nat → Nat → Nat) (L : List Nat) (s : DSt) : DSt × Int × Bool :=
  if L = [] then (s, 0, false) else
  if (logW first G L 0 s).2 ≠ 0 then ((logW first G L 0 s).1, (logW first G L 0 s).2, false) else
  if (logW first G L 0 s).1.up = true then ((install first L ((logW first G L 0 s).1.put first (logB L))).1, (install first L ((logW first G L 0 s).1.put first (logB L))).2, true) else
  ((logW first G L 0 s).1.put first (logB L), 24, false)
def cset (gd gb gt gm : Nat) (k : Nat) : Prop := dset gd gb k ∨ k = gm ∨ k = gt
theorem lk_page (F : Int → Option (Nat → Nat)) (k : Nat) : lkV pageV (.agg (rowArr 64 (pgC fun _ => 0))) false (F (k : Nat)) = pageV (pageG F k) := by
  unfold pageG
  cases F (k : Nat) <;> rfl
theorem pageG_u8 {D : Nat → Nat → Nat} {left : Int} {dead : Bool} (h : TX w gd gb gl gt gm n first F bad D left dead) (k i : Nat) : pageG F k i ≤ 255 := by
  unfold pageG
  cases hf : F (k : Nat) with
  | none => simp
  | some f => exact (h.ok _ f hf).1 i
set_option maxRecDepth 20000 in
set_option maxHeartbeats 4000000 in
theorem txnCommit_ok (h : TXs w gd gb gl gt gm n first F 0 s) (h30 : mapN w gm ≤ 30) :
    Calls Try.prog 49 #[.pointer (some ⟨gt, 0, none⟩)] w fun e w' => ∃ L, KeysOf F L ∧ L.length = mapN w gm ∧ e = .returned (.int .i64 (commit first (pageG F) L s).2.1) ∧
      TXs w' gd gb gl gt gm n first (if (commit first (pageG F) L s).2.2 = true then (fun _ => none) else F) 0 (commit first (pageG F) L s).1 ∧ Chg (cset gd gb gt gm) w w' := by
  have hn := h.lx.dx.n
  have hfit := h.lx.fit
  have c2 := h.c2
  have H := Lib.hid h
  clear h
  go_enter Try.func49, Try.ntmps49
  go_wp2_with fail
  refine (txnBlocks_ok H.out.toTX).mono ?_
  rintro e w1 ⟨v, L, rfl, hsi1, hkeys, hlen, hb1, hvo⟩
  obtain ⟨A1, cap1, hform, hlc, hcm⟩ := hsi1.sr.form
  subst hform
  rw [natInts_len] at hlc hsi1 hvo ⊢
  have HSI := Lib.hid hsi1
  have HK := Lib.hid hkeys
  have HVO := Lib.hid hvo
  have HB := Lib.hid hb1
  have H1 := Lib.hid (H.out.keep hb1)
  have hl30 : L.length ≤ 30 := by omega
  have HLEN := Lib.hid hlen
  clear hsi1 hkeys hlen hb1 hvo c2
  by_cases h0 : L.length = 0
  · have hL0 : L = [] := List.eq_nil_of_length_eq_zero h0
    have h0' : (L.length : Int) = 0 := by omega
    go_wp2_with fail
    go_ret
    have e0 : commit first (pageG F) L s = (s, 0, false) := if_pos hL0
    exact ⟨L, HK.out, HLEN.out, by rw [e0]; rfl, by rw [e0]; exact H1.out, Chg.of_below _ HB.out⟩
  have h0' : ((L.length : Int) == 0) = false := by rw [beq_eq_false_iff_ne]; omega
  have c0 := H1.out.c0
  have l0 := H1.out.lx.c0
  have l1 := H1.out.lx.c1
  go_upto_region 8 with fail
  go_cut [4, 5] (fun s4 s5 wx => s4 = .pointer (some ⟨gd, 0, none⟩) ∧ s5 = .int .i64 first ∧ Below w.heap.size w wx ∧ Below w1.heap.size w1 wx)
  case first =>
    go_region
    go_wp2_with fail
    go_meet
    exact ⟨rfl, rfl, bdrewN HB.out 1, drewb w1⟩
  case rest =>
    obtain ⟨rfl, rfl, hb2, hb3⟩ := hcut
    have HB2 := Lib.hid hb2
    have H2 := Lib.hid (H1.out.keep hb3)
    have HSI2 := Lib.hid (HSI.out.keep hb3)
    have HVD := Lib.hid (show ∀ x, (Value.slice A1 L.length cap1).ownBlock = some x → ¬ cset gd gb gt gm x from fun x hx e => by
      have h1 := HVO.out x hx
      have h2 := H.out.lt
      rcases e with (e | e) | e | e <;> omega)
    clear hb2 hb3 c0 l0 l1 HB H1 HSI HVO
    obtain ⟨res, hres⟩ : ∃ r, r = logW first (pageG F) L 0 s := ⟨_, rfl⟩
    have HRES := Lib.hid hres
    obtain ⟨cm, hcm0⟩ : ∃ c, c = commit first (pageG F) L s := ⟨_, rfl⟩
    have HCM := Lib.hid (show cm = if res.2 ≠ 0 then (res.1, res.2, false) else if res.1.up = true then ((install first L (res.1.put first (logB L))).1, (install first L (res.1.put first (logB L))).2, true) else (res.1.put first (logB L), 24, false) from by
      rw [hcm0, hres]
      exact if_neg (fun e => h0 (by rw [e]; rfl)))
    have HCM0 := Lib.hid hcm0
    clear hres hcm0
    have hLn : ∀ k ∈ L, k < n := fun k hk => by
      cases hf : F (k : Nat) with
      | none => exact absurd hf (HK.out.yes k hk)
      | some f =>
        obtain ⟨j, hj, hjn⟩ := H2.out.nat hf
        omega
    have HLN := Lib.hid hLn
    clear hLn
    go_at_K
    go_step
    go_wp2_with fail
    go_loopw [44] (fun r wx => ∃ (i : Nat) (t : DSt), i ≤ L.length ∧ r = .int .i64 i ∧ TXs wx gd gb gl gt gm n first F 0 t ∧ Chg (cset gd gb gt gm) w wx ∧ Chg (cset gd gb gt gm) wc wx ∧ logW first (pageG F) (L.drop i) i t = res) (fun r _ => L.length - (intOf r).toNat)
    case atStart => exact ⟨0, s, by omega, rfl, H2.out, Chg.of_below _ HB2.out, Chg.of_below _ (Below.refl _ _), HRES.out.symm⟩
    case round =>
      obtain ⟨i, t, hi, rfl, hx, hcg, hcg2, hin⟩ := hrel
      have HX := Lib.hid hx
      have HCG := Lib.hid hcg
      have HSI3 := Lib.hid (HSI2.out.chg hcg2 HVD.out)
      have HCG2 := Lib.hid hcg2
      have HIN2 := Lib.hid hin
      clear hx hcg hcg2 hin
      have c1 := HX.out.c1
      by_cases hil : i < L.length
      · have g1 : (i : Int) < L.length := by omega
        obtain ⟨q, hq⟩ : ∃ q, q = L.getD i 0 := ⟨_, rfl⟩
        have hqn : q < n := by
          rw [hq, List.getD_eq_getElem?_getD, List.getElem?_eq_getElem hil]
          exact HLN.out _ (List.getElem_mem hil)
        have hdrop : L.drop i = q :: L.drop (i + 1) := by
          rw [hq, List.getD_eq_getElem?_getD, List.getElem?_eq_getElem hil]
          exact List.drop_eq_getElem_cons hil
        have HDR := Lib.hid hdrop
        obtain ⟨g0, off, hA, hcz⟩ : ∃ g0 off, A1 = some ⟨g0, off, none⟩ ∧ wr.cell? ⟨g0, off + i, none⟩ = some (.int .i64 q) := by
          rcases HSI3.out.cases with ⟨h, _⟩ | ⟨_, g0, off, c1, hs, _, _, hg, hc⟩
          · have := natInts_len L
            rw [h] at this; simp at this; omega
          have hcz := hc i (by rw [natInts_len]; exact hil)
          injection hs with e1 e2 e3
          refine ⟨g0, off, e1, ?_⟩
          rw [hcz, hq]
          unfold natInts
          simp [List.getD_eq_getElem?_getD, List.getElem?_eq_getElem hil]
        subst hA
        clear hq hdrop
        obtain ⟨p, hp⟩ : ∃ p, p = first + 1 + i := ⟨_, rfl⟩
        have hpn : p < n := by omega
        have k1 : (first : Int) + 1 = ((first + 1 : Nat) : Int) := by omega
        have k2 : ((first + 1 : Nat) : Int) + (i : Int) = (p : Int) := by omega
        obtain ⟨f1, hf1⟩ : ∃ f1, f1 = first + 1 := ⟨_, rfl⟩
        rw [← hf1] at k1 k2
        have kb : f1 ≤ 70000 ∧ p ≤ 70000 ∧ first ≤ 70000 := by omega
        obtain ⟨kb1, kb2, kb3⟩ := kb
        have wr1 : IntKind.i64.wrap (f1 : Int) = f1 := by simp [IntKind.wrap, IntKind.bits, IntKind.signed]; omega
        have wr2 : IntKind.i64.wrap (p : Int) = p := by simp [IntKind.wrap, IntKind.bits, IntKind.signed]; omega
        have HP := Lib.hid hp
        clear hp hf1
        obtain ⟨f, hf⟩ : ∃ f, f = pageG F q := ⟨_, rfl⟩
        have HF := Lib.hid hf
        have HU8 := Lib.hid (show ∀ i, f i ≤ 255 from fun i => by rw [hf]; exact pageG_u8 HX.out.toTX q i)
        have HLK := Lib.hid (show lkV pageV (.agg (rowArr 64 (pgC fun _ => 0))) false (F (q : Nat)) = pageV f from by rw [hf]; exact lk_page F q)
        clear hf
        obtain ⟨ly, hly⟩ := key_int q (by omega)
        have HKY := Lib.hid hly
        clear hly
        go_wp2_with (first
          | (refine wpList_lookup_mk (by kernel_rfl) (some 59) rfl HX.out.mp.mp keyedInt kvI_inj Try.underlying141 page_zero _ _ false rfl (by go_simp) (q : Int) (by go_simp; rfl) HKY.out _ HLK.out ?_))
        refine (dxPut HX.out.lxs.dxs p hpn HU8.out).mono ?_
        rintro e w3 ⟨rfl, hd3, hc3⟩
        have HX3 := Lib.hid (HX.out.setD hc3 hd3)
        have HC3 := Lib.hid (HCG.out.trans hc3 (fun _ _ h => .inl h))
        have HC4 := Lib.hid (HCG2.out.trans hc3 (fun _ _ h => .inl h))
        have HIN3 := Lib.hid (show (if t.up = true then logW first (pageG F) (L.drop (i + 1)) (i + 1) (t.put p f) else (t.put p f, 24)) = res from by
          rw [← HIN2.out, HDR.out, HF.out, HP.out]
          rfl)
        clear hd3 hc3 c1 hcz k1 k2 wr1 wr2
        by_cases hup : t.up = true
        · have hcode : t.code = 0 := if_pos hup
          have HN := Lib.hid (show logW first (pageG F) (L.drop (i + 1)) (i + 1) (t.put p f) = res from by rw [← HIN3.out, if_pos hup])
          rw [hcode]
          clear hup hcode
          go_wp2_with fail
          go_roundw
          case rel => exact ⟨i + 1, _, by omega, by go_num, HX3.out, HC3.out, HC4.out, HN.out⟩
          case measure => simp [intOf]; omega
        · have hcode : t.code = 24 := if_neg hup
          have HFIN := Lib.hid (show commit first (pageG F) L s = (t.put p f, 24, false) from by
            rw [← HCM0.out, HCM.out, ← HIN3.out, if_neg hup, if_pos (by simp)])
          rw [hcode]
          clear hup hcode
          go_wp2_with fail
          go_ret
          exact ⟨L, HK.out, HLEN.out, by rw [HFIN.out]; rfl, by rw [HFIN.out]; exact HX3.out, HC3.out⟩
      · obtain rfl : i = L.length := by omega
        have hres : res = (t, 0) := by
          have := HIN2.out
          rw [List.drop_length] at this
          rw [← this]
          rfl
        have HRS := Lib.hid hres
        have hL16 : ∀ k ∈ L, k ≤ 65535 := fun k hk => by have := HLN.out k hk; omega
        have HL16 := Lib.hid hL16
        clear hres hL16 c1
        go_wp2_with fail
        refine (walHead_in HSI3.out hl30 HL16.out).mono ?_
        rintro e w3 ⟨rfl, hb3⟩
        have HX3 := Lib.hid (HX.out.keep hb3)
        have HC3 := Lib.hid (HCG.out.next hb3)
        have HC4 := Lib.hid (HCG2.out.next hb3)
        clear hb3
        go_wp2_with fail
        refine (dxPut HX3.out.lxs.dxs first (by omega) (logB_u8 L)).mono ?_
        rintro e w4 ⟨rfl, hd4, hc4⟩
        have HX4 := Lib.hid (HX3.out.setD hc4 hd4)
        have HC5 := Lib.hid (HC3.out.trans hc4 (fun _ _ h => .inl h))
        have HC6 := Lib.hid (HC4.out.trans hc4 (fun _ _ h => .inl h))
        clear hd4 hc4
        by_cases hup : t.up = true
        · have hcode : t.code = 0 := if_pos hup
          have HFIN := Lib.hid (show commit first (pageG F) L s = ((install first L (t.put first (logB L))).1, (install first L (t.put first (logB L))).2, true) from by
            rw [← HCM0.out, HCM.out, HRS.out, if_neg (by simp), if_pos hup])
          rw [hcode]
          clear hup hcode
          go_wp2_with fail
          refine (txnDrop_ok HX4.out.toTX).mono ?_
          rintro e w5 ⟨rfl, hx5', hc5⟩
          have hx5 := HX4.out.same hx5' hc5 (fun e => by have h1 := HX4.out.toTX.ne; rcases e with e | e; exact h1.2.1 e.symm; exact h1.1.1 e.symm)
          clear hx5'
          have HX5 := Lib.hid hx5
          have HC7 := Lib.hid (HC5.out.trans hc5 (fun _ _ h => .inr h))
          have HSI5 := Lib.hid (HSI2.out.chg (HC6.out.trans hc5 (fun _ _ h => .inr h)) HVD.out)
          have c0 := hx5.c0
          clear hx5 hc5
          go_wp2_with fail
          refine (walInstall HX5.out.lxs HSI5.out hl30 HLN.out (fun x hx e => HVD.out x hx (.inl e))).mono ?_
          rintro e w6 ⟨rfl, hx6, hc6⟩
          have HX6 := Lib.hid (HX5.out.setD hc6 hx6.dxs)
          have HC8 := Lib.hid (HC7.out.trans hc6 (fun _ _ h => .inl h))
          clear hx6 hc6 c0
          go_wp2_with fail
          go_ret
          exact ⟨L, HK.out, HLEN.out, by rw [HFIN.out]; rfl, by rw [HFIN.out]; exact HX6.out, HC8.out⟩
        · have hcode : t.code = 24 := if_neg hup
          have HFIN := Lib.hid (show commit first (pageG F) L s = (t.put first (logB L), 24, false) from by
            rw [← HCM0.out, HCM.out, HRS.out, if_neg (by simp), if_neg hup])
          rw [hcode]
          clear hup hcode
          go_wp2_with fail
          go_ret
          exact ⟨L, HK.out, HLEN.out, by rw [HFIN.out]; rfl, by rw [HFIN.out]; exact HX4.out, HC5.out⟩
end
end Go.Proofs.Ytonfnlohbgbffaa
