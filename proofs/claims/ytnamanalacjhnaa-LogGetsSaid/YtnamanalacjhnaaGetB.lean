/- The reader's batch (this claim's own lemmas). -/
import Derived.Test.YtnamanalacjhnaaGetW
namespace Go.Proofs.Ytnamanalacjhnaa.Gt
open Go.RowKit Go.Proofs.YtnamanalacjhnaaW.PrintWords Go.Proofs.Ytnamanalacjhnaa.Own Go.Proofs.Ytnamanalacjhnaa.Wk Go.Proofs.Ytnamanalacjhnaa.QGt
set_option linter.unusedVariables false
set_option maxHeartbeats 4000000 in
set_option maxRecDepth 100000 in
theorem batch_calls {w W : World} {g : Nat} {s : St} (h : Rdr w W g s) (hb : Bytes s.1) (hl : s.1.length ≤ 1073741824) :
    Calls Try.prog 41 #[.pointer (some ⟨g, 0, none⟩)] W (PostB w W g (batchS s).1 (batchS s).2) := by
  obtain ⟨n, s1, hd⟩ : ∃ n s1, numS s = (n, s1) := ⟨_, _, rfl⟩
  have q1 := numS_good s
  have q2 := numS_lt hb
  rw [hd] at q1 q2
  have hb1 := q1.1 hb
  have l1 := q1.2.1
  have BL := Aside0.mk (And.intro hb1 (show s1.1.length ≤ 1073741824 by simp only at l1; omega))
  have NL := Aside0.mk q2
  have HS := Aside0.mk hd
  have hD := number_calls h hb (by omega)
  rw [hd] at hD
  have HD := Aside0.mk hD
  have GW := Aside0.mk h.lt
  have SZ := Aside0.mk (h.bel.size)
  clear h hb hl hd q1 q2 hb1 l1 hD
  go_enter Try.func41, Try.ntmps41
  go_wp2_with fail
  refine HD.out.mono ?_
  rintro e W1 ⟨rfl, hR1, hK1⟩
  have R1 := Aside0.mk hR1
  have K1 := Aside0.mk hK1
  have hr0 := hR1.err
  have hr1 := hR1.frz 1
  clear hR1 hK1 HD
  by_cases e1 : s1.2 = 0
  · have d1 : ((s1.2 : Int) == 0) = true := by rw [beq_iff_eq]; omega
    by_cases e2 : n > 16
    · have d2 : decide ((16 : Int) < (n : Int)) = true := decide_eq_true (by omega)
      have d3 : decide (16 < n) = true := decide_eq_true e2
      obtain ⟨σ, hσ⟩ : ∃ σ : St, σ = (s1.1, 22) := ⟨_, rfl⟩
      have HC : Aside0 (countS s = (n, σ)) := ⟨by rw [hσ]; unfold countS; rw [HS.out]; simp only; exact if_pos ⟨e1, e2⟩⟩
      have HN : Aside0 (σ.2 = 0 → n ≤ 16) := ⟨by rw [hσ]; intro h; exact absurd h (Nat.succ_ne_zero _)⟩
      have BS : Aside0 (Bytes σ.1 ∧ σ.1.length ≤ 1073741824) := ⟨by rw [hσ]; exact BL.out⟩
      go_wp2_with fail
      have RS : Aside0 (Rdr w (W1.setCell ⟨g, 1, none⟩ (.int .i64 22)) g σ) := ⟨by rw [hσ]; exact R1.out.set1 22⟩
      have KS : Aside0 (Kp W (W1.setCell ⟨g, 1, none⟩ (.int .i64 22)) g) := ⟨K1.out.own 1 _⟩
      clear hσ hr0 hr1 R1 K1
      obtain ⟨L, σf, hL⟩ : ∃ L σf, writesS n σ = (L, σf) := ⟨_, _, rfl⟩
      have HB : Aside0 (batchS s = (L, σf)) := ⟨by unfold batchS; rw [HC.out]; exact hL⟩
      have HL := Aside0.mk hL
      clear hL
      go_loopw [4, 5] (fun v4 iv wr => ∃ (k : Nat) (pre : List Wr) (st : St), iv = .int .u64 (k : Int) ∧ k ≤ n ∧ Aside0 ((k = 0 ∨ n ≤ 16) ∧ pre.length = k ∧ (st.2 = 0 → n ≤ 16) ∧ pre ++ (writesS (n - k) st).1 = L ∧ (writesS (n - k) st).2 = σf ∧ Bytes st.1 ∧ st.1.length ≤ 1073741824) ∧ Aside0 (Rdr w wr g st) ∧ Aside0 (Kp W wr g) ∧ Aside0 (Kd.R k64 64 wr W.heap.size (fun k => k ≠ g) v4 pre)) (fun _ iv _ => n - (intOf iv).toNat)
      case atStart => exact ⟨0, [], σ, rfl, by omega, ⟨.inl rfl, rfl, HN.out, by rw [Nat.sub_zero, HL.out]; rfl, by rw [Nat.sub_zero, HL.out], BS.out.1, BS.out.2⟩, RS, KS, ⟨Kd.R_nil _ _ _ _ _⟩⟩
      case round =>
        clear RS KS
        obtain ⟨k, pre, st, rfl, hk, I, R, K, O⟩ := hrel
        have hr0 := R.out.err
        by_cases hlt : k < n
        · have d1 : decide ((k : Int) < (n : Int)) = true := decide_eq_true (by omega)
          by_cases he : st.2 = 0
          · have d2 : ((st.2 : Int) == 0) = true := by rw [beq_iff_eq]; omega
            obtain ⟨⟨ka, kb, kc⟩, st', hw⟩ : ∃ (x : Wr) (st' : St), writeS st = (x, st') := ⟨_, _, rfl⟩
            have q1 := writeS_good st
            rw [hw] at q1
            have hD := write_calls R.out I.out.2.2.2.2.2.1 (by have := I.out.2.2.2.2.2.2; omega)
            rw [hw] at hD
            have HD := Aside0.mk hD
            have H16 := I.out.2.2.1 he
            exact absurd H16 (by omega)
          · have d2 : ((st.2 : Int) == 0) = false := by rw [beq_eq_false_iff_ne]; omega
            have HF : Aside0 (pre = L ∧ st = σf) := ⟨by obtain ⟨i1, i2, i3, i4, i5, i6, i7⟩ := I.out; rw [writesS_bad _ he] at i4 i5; exact ⟨by simpa using i4, i5⟩⟩
            clear he
            go_wp2_with fail
            go_ret
            rw [HB.out]
            exact ⟨_, rfl, HF.out.2 ▸ R.out, K.out, HF.out.1 ▸ O.out⟩
        · have d1 : decide ((k : Int) < (n : Int)) = false := decide_eq_false (by omega)
          have HF : Aside0 (pre = L ∧ st = σf) := ⟨by obtain ⟨i1, i2, i3, i4, i5, i6, i7⟩ := I.out; rw [show n - k = 0 by omega] at i4 i5; exact ⟨by simpa [writesS] using i4, i5⟩⟩
          go_wp2_with fail
          go_ret
          rw [HB.out]
          exact ⟨_, rfl, HF.out.2 ▸ R.out, K.out, HF.out.1 ▸ O.out⟩
    · have d2 : decide ((16 : Int) < (n : Int)) = false := decide_eq_false (by omega)
      have d3 : decide (16 < n) = false := decide_eq_false e2
      obtain ⟨σ, hσ⟩ : ∃ σ : St, σ = s1 := ⟨_, rfl⟩
      have HC : Aside0 (countS s = (n, σ)) := ⟨by rw [hσ]; unfold countS; rw [HS.out]; simp only; exact if_neg (fun h => e2 h.2)⟩
      have HN : Aside0 (σ.2 = 0 → n ≤ 16) := ⟨by rw [hσ]; intro _; omega⟩
      have BS : Aside0 (Bytes σ.1 ∧ σ.1.length ≤ 1073741824) := ⟨by rw [hσ]; exact BL.out⟩
      go_wp2_with fail
      have RS : Aside0 (Rdr w W1 g σ) := ⟨by rw [hσ]; exact R1.out⟩
      have KS : Aside0 (Kp W W1 g) := ⟨K1.out⟩
      clear hσ hr0 hr1 R1 K1
      obtain ⟨L, σf, hL⟩ : ∃ L σf, writesS n σ = (L, σf) := ⟨_, _, rfl⟩
      have HB : Aside0 (batchS s = (L, σf)) := ⟨by unfold batchS; rw [HC.out]; exact hL⟩
      have HL := Aside0.mk hL
      clear hL
      go_loopw [4, 5] (fun v4 iv wr => ∃ (k : Nat) (pre : List Wr) (st : St), iv = .int .u64 (k : Int) ∧ k ≤ n ∧ Aside0 ((k = 0 ∨ n ≤ 16) ∧ pre.length = k ∧ (st.2 = 0 → n ≤ 16) ∧ pre ++ (writesS (n - k) st).1 = L ∧ (writesS (n - k) st).2 = σf ∧ Bytes st.1 ∧ st.1.length ≤ 1073741824) ∧ Aside0 (Rdr w wr g st) ∧ Aside0 (Kp W wr g) ∧ Aside0 (Kd.R k64 64 wr W.heap.size (fun k => k ≠ g) v4 pre)) (fun _ iv _ => n - (intOf iv).toNat)
      case atStart => exact ⟨0, [], σ, rfl, by omega, ⟨.inl rfl, rfl, HN.out, by rw [Nat.sub_zero, HL.out]; rfl, by rw [Nat.sub_zero, HL.out], BS.out.1, BS.out.2⟩, RS, KS, ⟨Kd.R_nil _ _ _ _ _⟩⟩
      case round =>
        clear RS KS
        obtain ⟨k, pre, st, rfl, hk, I, R, K, O⟩ := hrel
        have hr0 := R.out.err
        by_cases hlt : k < n
        · have d1 : decide ((k : Int) < (n : Int)) = true := decide_eq_true (by omega)
          by_cases he : st.2 = 0
          · have d2 : ((st.2 : Int) == 0) = true := by rw [beq_iff_eq]; omega
            obtain ⟨⟨ka, kb, kc⟩, st', hw⟩ : ∃ (x : Wr) (st' : St), writeS st = (x, st') := ⟨_, _, rfl⟩
            have q1 := writeS_good st
            rw [hw] at q1
            have hD := write_calls R.out I.out.2.2.2.2.2.1 (by have := I.out.2.2.2.2.2.2; omega)
            rw [hw] at hD
            have HD := Aside0.mk hD
            have H16 := I.out.2.2.1 he
            have J : Aside0 ((k + 1 = 0 ∨ n ≤ 16) ∧ (pre ++ [(⟨ka, kb, kc⟩ : Wr)]).length = k + 1 ∧ (st'.2 = 0 → n ≤ 16) ∧ (pre ++ [(⟨ka, kb, kc⟩ : Wr)]) ++ (writesS (n - (k + 1)) st').1 = L ∧ (writesS (n - (k + 1)) st').2 = σf ∧ Bytes st'.1 ∧ st'.1.length ≤ 1073741824) := ⟨by
              obtain ⟨i1, i2, i3, i4, i5, i6, i7⟩ := I.out
              obtain ⟨m, hm⟩ : ∃ m, n - k = m + 1 := ⟨n - k - 1, by omega⟩
              have hm2 : n - (k + 1) = m := by omega
              rw [hm] at i4 i5
              unfold writesS at i4 i5
              rw [if_neg (by omega), hw] at i4 i5
              rw [hm2]
              exact ⟨.inr H16, by simp [i2], fun _ => H16, by rw [List.append_assoc]; exact i4, i5, q1.1 i6, Nat.le_trans q1.2.1 i7⟩⟩
            clear hw q1 hD he
            go_wp2_with fail
            refine HD.out.mono ?_
            rintro e W2 ⟨rfl, hR2, hK2⟩
            have O2 := Aside0.mk (Kp.row O.out hK2)
            have PL := Aside0.mk (show (pre.length + 1) * 40 ≤ 140737488355328 by have := I.out.2.1; omega)
            have R2 := Aside0.mk hR2
            have K2 := Aside0.mk (K.out.trans hK2)
            clear hR2 hK2 HD hr0 R K O I
            unfold wv
            go_wp2_with (first | ((with_reducible refine gate_builtin (b := .append) (xs := #[.tmp 32, .tmp 35]) rfl ?_); at_builtin; refine Kd.R_append k64 (w0 := W2) W.heap.size rfl (.tmp 32) (.tmp 35) 62 64 (.agg #[(.string ⟨#[]⟩), (.bool false), (.string ⟨#[]⟩)]) 40 rfl Try.underlying62 info64 rfl (by decide) (by omega) _ pre (⟨ka, kb, kc⟩ : Wr) [.string ka, .bool kb, .string kc] (fun k_ => k_ ≠ g) (fun _ => False) rfl (by first | (go_simp; done) | (go_simp; rfl)) (k64_mkM _ _ _ (⟨ka, kb, kc⟩ : Wr)) (fun _ hk => hk.elim) (fun k_ hk => (by have := R2.out.lt; omega)) O2.out (Below.refl _ _) K2.out.1 PL.out ?_; intro v1 W3 ho hb hg hat; have O3 := Aside0.mk ho; have R3 := Aside0.mk (Rdr.grown R2.out hb SZ.out hg (Kd.R_away O2.out (fun _ hk => hk))); have K3 := Aside0.mk (Kp.grown K2.out hg (fun k_ hk => Kd.R_base O2.out k_ hk)); clear ho hb hg hat))
            exact ⟨⟨k + 1, _, _, by first | rfl | go_num | rw [show (IntKind.u64.wrap ((k : Int) + 1)) = ((k + 1 : Nat) : Int) from u64_nat (n := k + 1) (by omega)], by omega, J, R3, K3, O3⟩, by simp [intOf]; omega⟩
          · have d2 : ((st.2 : Int) == 0) = false := by rw [beq_eq_false_iff_ne]; omega
            have HF : Aside0 (pre = L ∧ st = σf) := ⟨by obtain ⟨i1, i2, i3, i4, i5, i6, i7⟩ := I.out; rw [writesS_bad _ he] at i4 i5; exact ⟨by simpa using i4, i5⟩⟩
            clear he
            go_wp2_with fail
            go_ret
            rw [HB.out]
            exact ⟨_, rfl, HF.out.2 ▸ R.out, K.out, HF.out.1 ▸ O.out⟩
        · have d1 : decide ((k : Int) < (n : Int)) = false := decide_eq_false (by omega)
          have HF : Aside0 (pre = L ∧ st = σf) := ⟨by obtain ⟨i1, i2, i3, i4, i5, i6, i7⟩ := I.out; rw [show n - k = 0 by omega] at i4 i5; exact ⟨by simpa [writesS] using i4, i5⟩⟩
          go_wp2_with fail
          go_ret
          rw [HB.out]
          exact ⟨_, rfl, HF.out.2 ▸ R.out, K.out, HF.out.1 ▸ O.out⟩
  · have d1 : ((s1.2 : Int) == 0) = false := by rw [beq_eq_false_iff_ne]; omega
    obtain ⟨σ, hσ⟩ : ∃ σ : St, σ = s1 := ⟨_, rfl⟩
    have HC : Aside0 (countS s = (n, σ)) := ⟨by rw [hσ]; unfold countS; rw [HS.out]; simp only; exact if_neg (fun h => e1 h.1)⟩
    have HN : Aside0 (σ.2 = 0 → n ≤ 16) := ⟨by rw [hσ]; intro h; exact absurd h e1⟩
    have BS : Aside0 (Bytes σ.1 ∧ σ.1.length ≤ 1073741824) := ⟨by rw [hσ]; exact BL.out⟩
    go_wp2_with fail
    have RS : Aside0 (Rdr w W1 g σ) := ⟨by rw [hσ]; exact R1.out⟩
    have KS : Aside0 (Kp W W1 g) := ⟨K1.out⟩
    clear hσ hr0 hr1 R1 K1
    obtain ⟨L, σf, hL⟩ : ∃ L σf, writesS n σ = (L, σf) := ⟨_, _, rfl⟩
    have HB : Aside0 (batchS s = (L, σf)) := ⟨by unfold batchS; rw [HC.out]; exact hL⟩
    have HL := Aside0.mk hL
    clear hL
    go_loopw [4, 5] (fun v4 iv wr => ∃ (k : Nat) (pre : List Wr) (st : St), iv = .int .u64 (k : Int) ∧ k ≤ n ∧ Aside0 ((k = 0 ∨ n ≤ 16) ∧ pre.length = k ∧ (st.2 = 0 → n ≤ 16) ∧ pre ++ (writesS (n - k) st).1 = L ∧ (writesS (n - k) st).2 = σf ∧ Bytes st.1 ∧ st.1.length ≤ 1073741824) ∧ Aside0 (Rdr w wr g st) ∧ Aside0 (Kp W wr g) ∧ Aside0 (Kd.R k64 64 wr W.heap.size (fun k => k ≠ g) v4 pre)) (fun _ iv _ => n - (intOf iv).toNat)
    case atStart => exact ⟨0, [], σ, rfl, by omega, ⟨.inl rfl, rfl, HN.out, by rw [Nat.sub_zero, HL.out]; rfl, by rw [Nat.sub_zero, HL.out], BS.out.1, BS.out.2⟩, RS, KS, ⟨Kd.R_nil _ _ _ _ _⟩⟩
    case round =>
      clear RS KS
      obtain ⟨k, pre, st, rfl, hk, I, R, K, O⟩ := hrel
      have hr0 := R.out.err
      by_cases hlt : k < n
      · have d1 : decide ((k : Int) < (n : Int)) = true := decide_eq_true (by omega)
        by_cases he : st.2 = 0
        · have d2 : ((st.2 : Int) == 0) = true := by rw [beq_iff_eq]; omega
          obtain ⟨⟨ka, kb, kc⟩, st', hw⟩ : ∃ (x : Wr) (st' : St), writeS st = (x, st') := ⟨_, _, rfl⟩
          have q1 := writeS_good st
          rw [hw] at q1
          have hD := write_calls R.out I.out.2.2.2.2.2.1 (by have := I.out.2.2.2.2.2.2; omega)
          rw [hw] at hD
          have HD := Aside0.mk hD
          have H16 := I.out.2.2.1 he
          have J : Aside0 ((k + 1 = 0 ∨ n ≤ 16) ∧ (pre ++ [(⟨ka, kb, kc⟩ : Wr)]).length = k + 1 ∧ (st'.2 = 0 → n ≤ 16) ∧ (pre ++ [(⟨ka, kb, kc⟩ : Wr)]) ++ (writesS (n - (k + 1)) st').1 = L ∧ (writesS (n - (k + 1)) st').2 = σf ∧ Bytes st'.1 ∧ st'.1.length ≤ 1073741824) := ⟨by
            obtain ⟨i1, i2, i3, i4, i5, i6, i7⟩ := I.out
            obtain ⟨m, hm⟩ : ∃ m, n - k = m + 1 := ⟨n - k - 1, by omega⟩
            have hm2 : n - (k + 1) = m := by omega
            rw [hm] at i4 i5
            unfold writesS at i4 i5
            rw [if_neg (by omega), hw] at i4 i5
            rw [hm2]
            exact ⟨.inr H16, by simp [i2], fun _ => H16, by rw [List.append_assoc]; exact i4, i5, q1.1 i6, Nat.le_trans q1.2.1 i7⟩⟩
          clear hw q1 hD he
          go_wp2_with fail
          refine HD.out.mono ?_
          rintro e W2 ⟨rfl, hR2, hK2⟩
          have O2 := Aside0.mk (Kp.row O.out hK2)
          have PL := Aside0.mk (show (pre.length + 1) * 40 ≤ 140737488355328 by have := I.out.2.1; omega)
          have R2 := Aside0.mk hR2
          have K2 := Aside0.mk (K.out.trans hK2)
          clear hR2 hK2 HD hr0 R K O I
          unfold wv
          go_wp2_with (first | ((with_reducible refine gate_builtin (b := .append) (xs := #[.tmp 32, .tmp 35]) rfl ?_); at_builtin; refine Kd.R_append k64 (w0 := W2) W.heap.size rfl (.tmp 32) (.tmp 35) 62 64 (.agg #[(.string ⟨#[]⟩), (.bool false), (.string ⟨#[]⟩)]) 40 rfl Try.underlying62 info64 rfl (by decide) (by omega) _ pre (⟨ka, kb, kc⟩ : Wr) [.string ka, .bool kb, .string kc] (fun k_ => k_ ≠ g) (fun _ => False) rfl (by first | (go_simp; done) | (go_simp; rfl)) (k64_mkM _ _ _ (⟨ka, kb, kc⟩ : Wr)) (fun _ hk => hk.elim) (fun k_ hk => (by have := R2.out.lt; omega)) O2.out (Below.refl _ _) K2.out.1 PL.out ?_; intro v1 W3 ho hb hg hat; have O3 := Aside0.mk ho; have R3 := Aside0.mk (Rdr.grown R2.out hb SZ.out hg (Kd.R_away O2.out (fun _ hk => hk))); have K3 := Aside0.mk (Kp.grown K2.out hg (fun k_ hk => Kd.R_base O2.out k_ hk)); clear ho hb hg hat))
          exact ⟨⟨k + 1, _, _, by first | rfl | go_num | rw [show (IntKind.u64.wrap ((k : Int) + 1)) = ((k + 1 : Nat) : Int) from u64_nat (n := k + 1) (by omega)], by omega, J, R3, K3, O3⟩, by simp [intOf]; omega⟩
        · have d2 : ((st.2 : Int) == 0) = false := by rw [beq_eq_false_iff_ne]; omega
          have HF : Aside0 (pre = L ∧ st = σf) := ⟨by obtain ⟨i1, i2, i3, i4, i5, i6, i7⟩ := I.out; rw [writesS_bad _ he] at i4 i5; exact ⟨by simpa using i4, i5⟩⟩
          clear he
          go_wp2_with fail
          go_ret
          rw [HB.out]
          exact ⟨_, rfl, HF.out.2 ▸ R.out, K.out, HF.out.1 ▸ O.out⟩
      · have d1 : decide ((k : Int) < (n : Int)) = false := decide_eq_false (by omega)
        have HF : Aside0 (pre = L ∧ st = σf) := ⟨by obtain ⟨i1, i2, i3, i4, i5, i6, i7⟩ := I.out; rw [show n - k = 0 by omega] at i4 i5; exact ⟨by simpa [writesS] using i4, i5⟩⟩
        go_wp2_with fail
        go_ret
        rw [HB.out]
        exact ⟨_, rfl, HF.out.2 ▸ R.out, K.out, HF.out.1 ▸ O.out⟩
end Go.Proofs.Ytnamanalacjhnaa.Gt
