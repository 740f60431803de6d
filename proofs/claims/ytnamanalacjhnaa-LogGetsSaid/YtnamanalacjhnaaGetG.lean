/- log.Get (this claim's own lemmas). -/
import Derived.Test.YtnamanalacjhnaaGetB
namespace Go.Proofs.Ytnamanalacjhnaa.Gt
open Go.RowKit Go.Proofs.YtnamanalacjhnaaW.PrintWords Go.Proofs.Ytnamanalacjhnaa.Own Go.Proofs.Ytnamanalacjhnaa.Wk Go.Proofs.Ytnamanalacjhnaa.QGt
set_option linter.unusedVariables false
theorem total_snoc (g : List (List Wr)) (l : List Wr) : total (g ++ [l]) = total g + l.length := by simp [total, List.map_append, List.sum_append]
theorem batchS_le (s : St) : (batchS s).1.length ≤ 16 := by
  by_cases h : (countS s).2.2 = 0
  · have h1 := countS_ok h
    have h2 := writesS_le (countS s).1 (countS s).2
    unfold batchS
    rw [h1.1] at h2 ⊢
    omega
  · unfold batchS
    rw [writesS_bad _ h]
    exact Nat.zero_le _
/-- What holds at a round's head. -/
structure GI (L n : Nat) (G : List (List Wr)) (σ : St) (i f : Nat) (gr : List (List Wr)) (st : St) : Prop where
  len : gr.length = i
  tot : total gr ≤ 16 * i
  byt : Bytes st.1
  le : st.1.length ≤ L
  ok : st.2 = 0 → i + st.1.length ≤ L ∧ st.1.length < f
  il : i ≤ L + 1
  g : gr ++ (batchesS f (n - i) st).1 = G
  s : (batchesS f (n - i) st).2 = σ
theorem GI.next {L n : Nat} {G : List (List Wr)} {σ : St} {i f : Nat} {gr : List (List Wr)} {st : St} (h : GI L n G σ i f gr st) (hi : i < n) (he : st.2 = 0) : GI L n G σ (i + 1) (f - 1) (gr ++ [(batchS st).1]) (batchS st).2 := by
  have q := batchS_good st
  have hk := h.ok he
  have hg := h.g
  have hs := h.s
  obtain ⟨f', rfl⟩ : ∃ f', f = f' + 1 := ⟨f - 1, by omega⟩
  unfold batchesS at hg hs
  rw [if_neg (by omega)] at hg hs
  have hle := batchS_le st
  have htt := h.tot
  refine ⟨by simp [h.len], by rw [total_snoc]; omega, q.1 h.byt, Nat.le_trans q.2.1 h.le, fun h0 => ?_, by omega, ?_, ?_⟩
  · have := batchS_less h0
    omega
  · rw [List.append_assoc, show n - (i + 1) = n - i - 1 by omega]
    exact hg
  · rw [show n - (i + 1) = n - i - 1 by omega]
    exact hs
theorem GI.done {L n : Nat} {G : List (List Wr)} {σ : St} {i f : Nat} {gr : List (List Wr)} {st : St} (h : GI L n G σ i f gr st) (hx : n ≤ i ∨ st.2 ≠ 0) : gr = G ∧ st = σ := by
  have hz : batchesS f (n - i) st = ([], st) := by
    cases f with
    | zero => rfl
    | succ f => unfold batchesS; rw [if_pos (hx.imp (fun h => by omega) id)]
  have hg := h.g
  have hs := h.s
  rw [hz] at hg hs
  exact ⟨by simpa using hg, hs⟩
set_option maxHeartbeats 8000000 in
set_option maxRecDepth 100000 in
theorem get_calls {w : World} {A : Option Addr} {n0 c : Nat} {l : List Int} (h : Rd (Kd.int .u8) w A n0 c l) (hb : Bytes l) (hl : l.length ≤ 1073741824) :
    Calls Try.prog 14 #[.slice A n0 c] w fun e w' => ∃ v, e = .returned (.tuple #[.int .u64 (getL l).1, v, .int .i64 (getL l).2.2]) ∧ Kd.S (Kd.slice 64 k64) 62 w' w.heap.size (fun _ => True) v (getL l).2.1 ∧ Below w.heap.size w w' := by
  have HR := Aside0.mk h
  obtain ⟨a, s1, hN1⟩ : ∃ a s1, numS (l, 0) = (a, s1) := ⟨_, _, rfl⟩
  obtain ⟨n, s2, hN2⟩ : ∃ n s2, numS s1 = (n, s2) := ⟨_, _, rfl⟩
  obtain ⟨G, σ, hG⟩ : ∃ G σ, batchesS (l.length + 1) n s2 = (G, σ) := ⟨_, _, rfl⟩
  have HF : Aside0 (getL l = finS a G σ) := ⟨by unfold getL; simp only [hN1, hN2, hG]⟩
  have q1 := numS_good (l, 0)
  have q2 := numS_good s1
  have ha := numS_lt (s := (l, 0)) hb
  rw [hN1] at q1 ha
  rw [hN2] at q2
  have hb1 := q1.1 hb
  have hb2 := q2.1 hb1
  have l1 := q1.2.1
  have l2 := q2.2.1
  have HA := Aside0.mk ha
  have GI0 : Aside0 (GI l.length n G σ 0 (l.length + 1) [] s2) := ⟨rfl, Nat.le_refl _, hb2, Nat.le_trans l2 l1, fun _ => by simp only at l1 l2; omega, by omega, by rw [Nat.sub_zero, hG]; rfl, by rw [Nat.sub_zero, hG]⟩
  have HC1 : Aside0 (∀ (W : World) (g : Nat), Rdr w W g (l, 0) → Calls Try.prog 40 #[.pointer (some ⟨g, 0, none⟩)] W (Post w W g (.int .u64 (a : Int)) s1)) := ⟨fun W g R => by have hx := number_calls R hb (by simp only; omega); rw [hN1] at hx; exact hx⟩
  have HC2 : Aside0 (∀ (W : World) (g : Nat), Rdr w W g s1 → Calls Try.prog 40 #[.pointer (some ⟨g, 0, none⟩)] W (Post w W g (.int .u64 (n : Int)) s2)) := ⟨fun W g R => by have hx := number_calls R hb1 (by simp only at l1; omega); rw [hN2] at hx; exact hx⟩
  have HL := Aside0.mk hl
  have hur := Try.underlying71
  obtain ⟨L, hLL⟩ : ∃ L, L = l.length := ⟨_, rfl⟩
  rw [← hLL] at GI0 HL
  clear h hb hl hN1 hN2 hG q1 q2 ha hb1 hb2 l1 l2 hLL
  go_enter Try.func14, Try.ntmps14
  go_wp2_with (first | ((with_reducible refine gate_dst (N := 14) rfl ?_); refine box_event ?hg (N := 14) ?hd (cs := #[.slice A n0 c, .int .i64 0]) (t := 71) ?hr ?_; (case hd => rfl); (case hg => rfl); (case hr => first | (go_simp; done) | (go_simp; rfl)); intro g hg W1 hk hb; have K1 := Aside0.mk hk; have B1 := Aside0.mk hb; have G1 := Aside0.mk hg; clear hg hk hb))
  have R1 : Aside0 (Rdr w W1 g (l, 0)) := ⟨⟨A, n0, c, K1.out, HR.out⟩, B1.out, by rw [G1.out]; exact Nat.le_refl _⟩
  clear K1 B1 G1
  refine (HC1.out _ _ R1.out).mono ?_
  rintro e W2 ⟨rfl, hR2, -⟩
  have R2 := Aside0.mk hR2
  clear hR2 R1 HC1
  go_wp2_with fail
  refine (HC2.out _ _ R2.out).mono ?_
  rintro e W3 ⟨rfl, hR3, -⟩
  have R3 := Aside0.mk hR3
  clear hR3 R2 HC2
  go_wp2_with fail
  go_loopw [8, 9, 10, 11] (fun v8 v9 v10 v11 wr => ∃ (i f T : Nat) (gr : List (List Wr)) (st : St), v9 = .int .u64 (T : Int) ∧ v10 = .int .u64 (i : Int) ∧ i ≤ n ∧ Aside0 (T = total gr) ∧ Aside0 (GI L n G σ i f gr st) ∧ Aside0 (Rdr w wr g st) ∧ Aside0 (Kd.S (Kd.slice 64 k64) 62 wr w.heap.size (fun k => k ≠ g) v8 gr)) (fun _ _ iv _ _ => n - (intOf iv).toNat)
  case atStart => exact ⟨0, L + 1, 0, [], s2, rfl, rfl, Nat.zero_le _, ⟨rfl⟩, GI0, R3, ⟨Kd.S_nil _ _ _ _ _⟩⟩
  case round =>
    clear R3 GI0
    obtain ⟨i, f, T, gr, st, rfl, rfl, hin, HT, I, R, O⟩ := hrel
    have hr0 := R.out.err
    by_cases hlt : i < n ∧ st.2 = 0
    · obtain ⟨hlt, he⟩ := hlt
      have d1 : decide ((i : Int) < (n : Int)) = true := decide_eq_true (by omega)
      have d2 : ((st.2 : Int) == 0) = true := by rw [beq_iff_eq]; omega
      have J := Aside0.mk (I.out.next hlt he)
      obtain ⟨b, st', hw⟩ : ∃ b st', batchS st = (b, st') := ⟨_, _, rfl⟩
      have hD := batch_calls R.out I.out.byt (Nat.le_trans I.out.le HL.out)
      have HTb := Aside0.mk (batchS_le st)
      rw [hw] at hD HTb
      have J' : Aside0 (GI L n G σ (i + 1) (f - 1) (gr ++ [b]) st') := ⟨by have := J.out; rw [hw] at this; exact this⟩
      have HD := Aside0.mk hD
      have hiL : Aside0 (i ≤ L ∧ T ≤ 16 * i) := ⟨by have h1 := (I.out.ok he).1; have h2 := I.out.tot; have h3 := HT.out; omega⟩
      have HE := Aside0.mk he
      clear hw hD he J
      go_wp2_with fail
      refine HD.out.mono ?_
      rintro e W4 ⟨v, rfl, hR4, hK4, hO4⟩
      obtain ⟨Ab, cb, rfl⟩ := Kd.R_slice hO4
      have OB := Aside0.mk (Kd.R_tight rfl (Kd.R_lower (base' := w.heap.size) hO4 R.out.bel.size))
      have OX : Aside0 (∀ k_, some k_ = (Value.slice Ab b.length cb).ownBlock → k_ ≠ g ∧ some k_ ≠ (u8 : Value).ownBlock) := ⟨fun k_ hk => ⟨hO4.1 k_ hk.symm, fun e => by have h1 := Kd.R_base hO4 k_ hk.symm; have h2 := Kd.S_lt O.out k_ e.symm; omega⟩⟩
      have O4 : Aside0 (Kd.S (Kd.slice 64 k64) 62 W4 w.heap.size (fun k_ => k_ ≠ g ∧ ¬ some k_ = (Value.slice Ab b.length cb).ownBlock) u8 gr) := ⟨Kd.S_mono (Kd.S_step (Kd.S_bound O.out) (fun k_ ho hlt => hK4.2 k_ hlt ho.1)) (fun k_ hk => ⟨hk.1, fun e => by have h1 := Kd.R_base hO4 k_ e.symm; have h2 := hk.2.2.1; omega⟩)⟩
      have OA : Aside0 (Kd.S (Kd.slice 64 k64) 62 W4 w.heap.size (fun k_ => k_ ≠ g) u8 gr) := ⟨Kd.S_step O.out (fun k_ ho hlt => hK4.2 k_ hlt ho)⟩
      have R4 := Aside0.mk hR4
      have PL := Aside0.mk (show (gr.length + 1) * 24 ≤ 140737488355328 by have h1 := I.out.len; have h2 := hiL.out.1; have h3 := HL.out; omega)
      clear hR4 hK4 hO4 HD hr0 R O
      have hiL' := hiL.out
      have HL' := HL.out
      have HTb' := HTb.out
      go_wp2_with (first | ((with_reducible refine gate_builtin (b := .append) (xs := #[.tmp 33, .tmp 35]) rfl ?_); at_builtin; refine Kd.S_append (Kd.slice 64 k64) (w0 := W4) w.heap.size rfl (.tmp 33) (.tmp 35) 24 62 (.slice none 0 0) 24 rfl Try.underlying24 info62 rfl (by decide) (by omega) _ gr b [.slice Ab b.length cb] (fun k_ => k_ ≠ g) (fun k_ => some k_ = (.slice Ab b.length cb : Value).ownBlock) rfl (by first | (go_simp; done) | (go_simp; rfl)) (Kd.M_row OB.out) OX.out (fun k_ hk => (by have := R4.out.lt; omega)) O4.out (Below.refl _ _) R4.out.bel.size PL.out ?_; intro v1 W5 ho hb hg hat; have O5 := Aside0.mk ho; have R5 := Aside0.mk (Rdr.grown R4.out hb (Nat.le_refl _) hg (Kd.R_away (Kd.S_R OA.out) (fun _ hk => hk))); clear ho hb hg hat))
      exact ⟨⟨i + 1, f - 1, T + b.length, gr ++ [b], st', by first | rfl | go_num | (congr 1; rw [u64_nat (n := b.length) (by omega)]; exact u64_nat (n := T + b.length) (by omega)), by first | rfl | go_num | rw [show (IntKind.u64.wrap ((i : Int) + 1)) = ((i + 1 : Nat) : Int) from u64_nat (n := i + 1) (by omega)], by omega, ⟨by rw [total_snoc, HT.out]⟩, J', R5, O5⟩, by simp [intOf]; omega⟩
    · have HX : Aside0 (gr = G ∧ st = σ) := ⟨I.out.done (by omega)⟩
      have HQ : Aside0 (st.2 = σ.2 ∧ st.1.length = σ.1.length ∧ T = total G) := ⟨by rw [HX.out.2, ← HX.out.1]; exact ⟨rfl, rfl, HT.out⟩⟩
      have hx : (decide ((i : Int) < (n : Int)) = false ∧ decide (i < n) = false) ∨ (decide ((i : Int) < (n : Int)) = true ∧ decide (i < n) = true) ∧ ((st.2 : Int) == 0) = false := by
        by_cases h1 : i < n
        · exact .inr ⟨⟨decide_eq_true (by omega), decide_eq_true h1⟩, by rw [beq_eq_false_iff_ne]; omega⟩
        · exact .inl ⟨decide_eq_false (by omega), decide_eq_false h1⟩
      have OF : Aside0 (Kd.S (Kd.slice 64 k64) 62 wr w.heap.size (fun _ => True) u8 G) := ⟨HX.out.1 ▸ Kd.S_mono O.out (fun _ _ => trivial)⟩
      have ON : Aside0 (Kd.S (Kd.slice 64 k64) 62 wr w.heap.size (fun _ => True) (.slice none 0 0) []) := ⟨Kd.S_nil _ _ _ _ _⟩
      obtain ⟨A', m, c', hc0, hrd⟩ := R.out.list
      have hml : m = st.1.length := hrd.1.symm
      subst hml
      have hf0 := R.out.frz 0
      have hf1 := R.out.frz 1
      have HBW := Aside0.mk R.out.bel
      have hTL : Aside0 (T < 18446744073709551616) := ⟨by have h1 := I.out.tot; have h2 := HT.out; have h3 := I.out.il; have h4 := HL.out; omega⟩
      clear hlt HT I R O hrd
      have HA' := HA.out
      by_cases e1 : σ.2 = 0
      · have d1 : ((st.2 : Int) != 0) = false := by rw [bne_eq_false_iff_eq]; have := HQ.out.1; omega
        have hx0 : decide ((i : Int) < (n : Int)) = false ∧ decide (i < n) = false := by
          rcases hx with hx | ⟨_, hx'⟩
          · exact hx
          · have h1 : (st.2 : Int) ≠ 0 := beq_eq_false_iff_ne.1 hx'
            have h2 := HQ.out.1
            omega
        clear hx
        obtain ⟨hx0, hx0'⟩ := hx0
        by_cases e2 : σ.1.length > 0
        · have d2 : decide (0 < (st.1.length : Int)) = true := decide_eq_true (by have := HQ.out.2.1; omega)
          have d2' : decide (0 < st.1.length) = true := decide_eq_true (by have := HQ.out.2.1; omega)
          have HE : Aside0 (finS a G σ = (0, [], 21)) := ⟨by unfold finS; rw [if_neg (by omega), if_pos e2]⟩
          clear e1 e2
          go_wp2_with fail
          go_ret3
          rw [HF.out, HE.out]
          exact ⟨_, rfl, ON.out, HBW.out⟩
        · have d2 : decide (0 < (st.1.length : Int)) = false := decide_eq_false (by have := HQ.out.2.1; omega)
          have d2' : decide (0 < st.1.length) = false := decide_eq_false (by have := HQ.out.2.1; omega)
          by_cases e3 : T > 0
          · have d3 : decide (0 < (T : Int)) = true := decide_eq_true (by omega)
            have d3' : decide (0 < T) = true := decide_eq_true e3
            by_cases e4 : a > 72057594037927935
            · have d4 : decide ((72057594037927935 : Int) < (a : Int)) = true := decide_eq_true (by omega)
              have d4' : decide (72057594037927935 < a) = true := decide_eq_true e4
              have HE : Aside0 (finS a G σ = (0, [], 22)) := ⟨by unfold finS; rw [if_neg (by omega), if_neg e2, if_pos ⟨by rw [← HQ.out.2.2]; exact e3, .inl e4⟩]⟩
              clear e1 e2 e3 e4
              go_wp2_with fail
              go_ret3
              rw [HF.out, HE.out]
              exact ⟨_, rfl, ON.out, HBW.out⟩
            · have d4 : decide ((72057594037927935 : Int) < (a : Int)) = false := decide_eq_false (by omega)
              have d4' : decide (72057594037927935 < a) = false := decide_eq_false e4
              obtain ⟨T1, hT1⟩ : ∃ T1 : Nat, T1 = T - 1 := ⟨_, rfl⟩
              obtain ⟨M1, hM1⟩ : ∃ M1 : Nat, M1 = 72057594037927935 - a := ⟨_, rfl⟩
              have hTL' := hTL.out
              have w1 : IntKind.u64.wrap ((T : Int) - 1) = (T1 : Int) := by rw [show ((T : Int) - 1) = (T1 : Int) by omega]; exact u64_nat (by omega)
              have w2 : IntKind.u64.wrap ((72057594037927935 : Int) - (a : Int)) = (M1 : Int) := by rw [show ((72057594037927935 : Int) - (a : Int)) = (M1 : Int) by omega]; exact u64_nat (by omega)
              have w1' : ((T : Int) - 1) = (T1 : Int) := by omega
              have w2' : ((72057594037927935 : Int) - (a : Int)) = (M1 : Int) := by omega
              by_cases e5 : T1 > M1
              · have d5 : decide ((M1 : Int) < (T1 : Int)) = true := decide_eq_true (by omega)
                have d5' : decide (M1 < T1) = true := decide_eq_true e5
                have HE : Aside0 (finS a G σ = (0, [], 22)) := ⟨by unfold finS; rw [if_neg (by omega), if_neg e2, if_pos ⟨by rw [← HQ.out.2.2]; exact e3, .inr (by rw [← HQ.out.2.2]; omega)⟩]⟩
                clear e1 e2 e3 e4 e5 hT1 hM1
                go_wp2_with fail
                go_ret3
                rw [HF.out, HE.out]
                exact ⟨_, rfl, ON.out, HBW.out⟩
              · have d5 : decide ((M1 : Int) < (T1 : Int)) = false := decide_eq_false (by omega)
                have d5' : decide (M1 < T1) = false := decide_eq_false e5
                have HE : Aside0 (finS a G σ = ((a : Int), G, 0)) := ⟨by unfold finS; rw [if_neg (by omega), if_neg e2, if_neg (by rw [← HQ.out.2.2]; omega)]⟩
                clear e1 e2 e3 e4 e5 hT1 hM1
                go_wp2_with fail
                go_ret3
                rw [HF.out, HE.out]
                exact ⟨_, rfl, OF.out, HBW.out⟩
          · have d3 : decide (0 < (T : Int)) = false := decide_eq_false (by omega)
            have d3' : decide (0 < T) = false := decide_eq_false e3
            have HE : Aside0 (finS a G σ = ((a : Int), G, 0)) := ⟨by unfold finS; rw [if_neg (by omega), if_neg e2, if_neg (by rw [← HQ.out.2.2]; omega)]⟩
            clear e1 e2 e3
            go_wp2_with fail
            go_ret3
            rw [HF.out, HE.out]
            exact ⟨_, rfl, OF.out, HBW.out⟩
      · have d1 : ((st.2 : Int) != 0) = true := by rw [bne_iff_ne]; have := HQ.out.1; omega
        have HE : Aside0 (finS a G σ = (0, [], (st.2 : Int))) := ⟨by unfold finS; rw [if_pos e1, HQ.out.1]⟩
        clear e1
        rcases hx with ⟨hx, hxn⟩ | ⟨⟨hx, hxn⟩, hx'⟩
        all_goals
          go_wp2_with fail
          go_quiet (fail)
          go_wp2_with fail
          go_ret3
          rw [HF.out, HE.out]
          exact ⟨_, rfl, Kd.S_drewN ON.out _, pw_below_drewN HBW.out _⟩
end Go.Proofs.Ytnamanalacjhnaa.Gt
