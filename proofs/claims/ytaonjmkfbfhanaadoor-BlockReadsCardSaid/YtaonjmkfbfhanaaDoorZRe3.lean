/- BlockReads: the walk, the row, tied by the card. -/
import Derived.Test.YtaonjmkfbfhanaaDoorZRe2
import Derived.Test.YtaonjmkfbfhanaaDoorCards
import Derived.Test.YtaonjmkfbfhanaaDoorTie
import Derived.ShutString
import Derived.ChangeOld
import Derived.Deep.DeepHandedRow
import Derived.Lib.LaidTab
import Derived.JoinedCond
import Derived.Deep.CondSized
namespace Go.Proofs.YtaonjmkfbfhanaaDoor.Ops
open Go.RowKit Go.Proofs.YtaonjmkfbfhanaaDoorW.PrintWords Go.Proofs.YtaonjmkfbfhanaaDoor.Own Go.Proofs.YtaonjmkfbfhanaaDoor.G Go.Proofs.YtaonjmkfbfhanaaDoor.Wk Go.Proofs.YtaonjmkfbfhanaaDoor.QBo Go.Proofs.YtaonjmkfbfhanaaDoor.Bk Go.Proofs.YtaonjmkfbfhanaaDoor.Rf Go.Proofs.YtaonjmkfbfhanaaDoor.Tn Go.Proofs.YtaonjmkfbfhanaaDoor.Room
set_option linter.unusedVariables false
structure Sit0 (w W : World) (g b n cap : Nat) (l : List Int) : Prop where
 below : Below w.heap.size w W
 room : ∃ F, RoomB W w.heap.size F g [⟨b, n, cap⟩] ∧ ¬ F b
 row : RowAt W b l
 len : l.length = n
 nb : n ≤ 140737488351232
 ge : w.heap.size ≤ b
theorem Sit0.step {w W W' : World} {g b n cap : Nat} {l : List Int} (h : Sit0 w W g b n cap l) (hb : Below W.heap.size W W') : Sit0 w W' g b n cap l :=
 ⟨below_then h.below h.below.size hb, by obtain ⟨F, h1, h2⟩ := h.room; exact ⟨F, h1.below hb, h2⟩, h.row.below hb, h.len, h.nb, h.ge⟩
theorem Sit0.rd {w W : World} {g b n cap : Nat} {l : List Int} (h : Sit0 w W g b n cap l) : Rd (Kd.int .u8) W (some ⟨b, 0, none⟩) n (n + 600) l := ⟨h.len, by omega, by
 have z := h.row.reads (by have := h.len; have := h.nb; omega)
 rwa [h.len] at z⟩
theorem Sit0.set {w W : World} {g b n cap : Nat} {l : List Int} (h : Sit0 w W g b n cap l) (k : Nat) (hk : k < l.length) (x : Int) : Sit0 w (W.setCell ⟨b, k, none⟩ (.int .u8 x)) g b n cap (l.set k x) := by
 obtain ⟨F, h1, h2⟩ := h.room
 exact ⟨below_set h.below h.ge, ⟨F, h1.set b k _ h2 (fun e he hb => by obtain rfl := List.mem_singleton.1 he; have := h.len; simpa using (by omega : k < n)), h2⟩, h.row.set k hk x, by rw [List.length_set]; exact h.len, h.nb, h.ge⟩
theorem lent_new {w : World} {A0 : Option Addr} {n c0 : Nat} {l : List Int} (hr : Rd (Kd.int .u8) w A0 n c0 l) (hlen : l.length ≤ 140737488351232) :
  Calls Tryd.prog 27 #[.pointer (some ⟨w.heap.size, 0, none⟩), .slice A0 n c0] (w.alloc (.cells (roomCells (.slice none 0 0) (.slice none 0 0)) 79)) fun e w2 =>
   ∃ b cap, e = .returned (.slice (some ⟨b, 0, none⟩) n (n + 600)) ∧ Sit0 w w2 w.heap.size b n cap l := by
 obtain ⟨rfl, hc, hr⟩ := hr
 have hB1 : Below w.heap.size w (w.alloc (.cells (roomCells (.slice none 0 0) (.slice none 0 0)) 79)) := below_alloc (Below.refl _ _) _
 refine (bytes_calls A0 c0 l _ w.heap.size (fun k => k = w.heap.size) w.heap.size [] (room_new w w.heap.size (Nat.le_refl _)) (by simp) (Kd.C_below hr hB1) hc hlen).mono ?_
 rintro e w2 ⟨b, cap, rfl, hb, hR2, hrow, hB2, hfr⟩
 simp only [World.size_alloc] at hb
 exact ⟨b, cap, rfl, hB1.trans hB2, ⟨_, hR2, by simp only [World.size_alloc]; omega⟩, hrow, rfl, hlen, by omega⟩
theorem setU8_tab {W : World} (h : GT W) {b : Nat} {l : List Int} (hr : RowAt W b l) (k : Nat) (v : Value) (hk : k < l.length) : GT (W.setCell ⟨b, k, none⟩ v) := fun i hi => by
 have h1 := h i hi
 by_cases hb : b = 0
 ·obtain ⟨cur, h2, h3⟩ := hr
  have h4 := h 0 (by omega)
  rw [hb] at h2
  rw [blk_cell h2, h3 0 (by omega)] at h4
  simp at h4
 ·have : (W.setCell ⟨b, k, none⟩ v).heap[0]? = W.heap[0]? := setCell_block (Ne.symm hb)
  rw [← h1]
  exact World.cell?_setCell_other _ _ _ _ (by intro e; exact hb (congrArg Addr.block e))
structure St (w W : World) (g b n cap : Nat) (l : List Int) (gk nk ck R : Nat) (Ak A7 : Option Addr) (q7 : Nat) (L : List En) : Prop where
 sit : Sit0 w W g b n cap l
 tab : GT W
 blk : W.heap[gk]? = some (.cells #[.slice Ak nk ck, .int .i64 (R : Int)] 98 (0, 0))
 ne : gk ≠ b
 rk : Kd.R kE 30 W 0 (fun k => k ≠ b) (.slice Ak nk ck) L
 rw_ : Kd.R kE 30 W 0 (fun k => k ≠ b) (.slice A7 L.length q7) L
theorem St.step {w W W' : World} {g b n cap : Nat} {l : List Int} {gk nk ck R : Nat} {Ak A7 : Option Addr} {q7 : Nat} {L : List En} (h : St w W g b n cap l gk nk ck R Ak A7 q7 L) (hb : Below W.heap.size W W') : St w W' g b n cap l gk nk ck R Ak A7 q7 L :=
 ⟨h.sit.step hb, GT.below h.tab hb, (hb.block _ (blk_lt h.blk)).trans h.blk, h.ne, Kd.R_below h.rk hb, Kd.R_below h.rw_ hb⟩
theorem St.set {w W : World} {g b n cap : Nat} {l : List Int} {gk nk ck R : Nat} {Ak A7 : Option Addr} {q7 : Nat} {L : List En} (h : St w W g b n cap l gk nk ck R Ak A7 q7 L) (k : Nat) (hk : k < l.length) (x : Int) : St w (W.setCell ⟨b, k, none⟩ (.int .u8 x)) g b n cap (l.set k x) gk nk ck R Ak A7 q7 L :=
 ⟨h.sit.set k hk x, setU8_tab h.tab h.sit.row k _ hk, (setCell_block h.ne).trans h.blk, h.ne, Kd.R_far h.rk (p := ⟨b, k, none⟩) (fun q hq => hq) _, Kd.R_far h.rw_ (p := ⟨b, k, none⟩) (fun q hq => hq) _⟩
theorem bytes_set {l : List Int} (h : Bytes l) (k : Nat) {x : Int} (hx : 0 ≤ x ∧ x ≤ 255) : Bytes (l.set k x) := fun y hy => by
 rcases List.mem_or_eq_of_mem_set hy with h1 | rfl
 ·exact h y h1
 ·exact hx
theorem row_lt {W : World} {b : Nat} {l : List Int} (h : RowAt W b l) : b < W.heap.size := by
 obtain ⟨cur, h1, -⟩ := h
 exact blk_lt h1
theorem some_is {q : Int} {L : List En} (h1 : 0 ≤ q) (h2 : q < (L.length : Int)) : givenL q L = L.take q.toNat := by
 unfold givenL
 by_cases h : q = 0
 ·rw [if_pos h, h]; rfl
 ·rw [if_neg h, if_pos (by omega)]
theorem some_all {q : Int} {L : List En} (h : ¬ (0 ≤ q ∧ q < (L.length : Int))) : givenL q L = L := by
 unfold givenL
 by_cases h0 : q = 0
 ·rw [if_pos h0]
  have : L.length = 0 := by omega
  exact (List.eq_nil_of_length_eq_zero this).symm
 ·rw [if_neg h0]
  by_cases h1 : 0 < q
  ·rw [if_pos h1, List.take_of_length_le (by omega)]
  ·rw [if_neg h1]
set_option maxHeartbeats 16000000 in
set_option maxRecDepth 100000 in
theorem opens_calls {w : World} {A0 A1 : Option Addr} {n0 c0 n1 c1 : Nat} {b : List Int} {ks : List ByteArray} (nq : Int) (hr0 : Rd (Kd.int .u8) w A0 n0 c0 b) (hb : Bytes b) (hl : b.length ≤ 1000000) (hr1 : Rd Kd.string w A1 n1 c1 ks) (hk : ∀ s ∈ ks, s.size ≤ 4611686018427387) (hn : n1 ≤ 1000000000) (hT : GT w) :
  Calls Tryd.prog 9 #[.slice A0 n0 c0, .slice A1 n1 c1, .int .i64 nq] w fun e w' => e = .returned (.bool true) ∧ Below w.heap.size w w' := by
 have hbn : b.length = n0 := hr0.1
 have hn1 : ks.length = n1 := hr1.1
 obtain ⟨i0, hi0, _, _, _⟩ := info_parts infoE
 have HI := Aside0.mk hi0
 have HR0 := Aside0.mk hr0
 have HR1 := Aside0.mk hr1
 have HBB := Aside0.mk hb
 have HKs := Aside0.mk hk
 have HT := Aside0.mk hT
 have HLen := Aside0.mk hbn
 clear hr0 hr1 hb hk hT hi0 hbn
 have hl0 : n0 ≤ 1000000 := by rw [← HLen.out]; exact hl
 go_enter Tryd.func9, Tryd.ntmps9
 go_wp2_with fail
 refine (lent_new HR0.out (by omega)).mono ?_
 rintro en w1 ⟨bb, cap, rfl, hS⟩
 have S := Aside0.mk hS
 clear hS
 obtain ⟨r, hr⟩ : ∃ r, openB b = r := ⟨_, rfl⟩
 have HOp := Aside0.mk (open_calls S.out.rd HBB.out (by omega) (GT.below HT.out S.out.below))
 rw [hr] at HOp
 have HQ := Aside0.mk hr
 clear hr
 cases r with
 | none =>
  go_wp2_with fail
  refine HOp.out.mono ?_
  rintro en W4 ⟨he, hb4⟩
  have he' : en = .returned (.tuple #[.pointer none, .int .i64 91]) := he
  subst he'
  have S4 := Aside0.mk (S.out.step hb4)
  clear hb4 he
  go_wp2_with fail
  have HOr := Aside0.mk (refOpen_calls (HR0.out.step S4.out.below) HBB.out (by omega))
  rw [HQ.out] at HOr
  refine HOr.out.mono ?_
  rintro en W5 ⟨⟨v5, rfl⟩, hb5⟩
  have S5 := Aside0.mk (S4.out.step hb5)
  clear hb5
  go_wp2_with fail
  refine (same_calls S5.out.rd (HR0.out.step S5.out.below) (by omega)).mono ?_
  rintro en W6 ⟨he6, hb6⟩
  rw [decide_eq_true rfl] at he6
  subst he6
  have S6 := Aside0.mk (S5.out.step hb6)
  clear hb6
  go_wp2_with fail
  obtain ⟨F, hRm, hFb⟩ := S6.out.room
  refine (hold_calls W6 _ F _ _ hRm (by simp)).mono ?_
  clear hRm hFb
  rintro en WH ⟨rfl, rfl⟩
  go_wp2_with fail
  refine (num_calls 91 _).mono ?_
  rintro en WZ ⟨rfl, rfl⟩
  go_wp2_with fail
  refine (num_calls 91 _).mono ?_
  rintro en WZ2 ⟨rfl, rfl⟩
  go_wp2_with fail
  go_ret
  exact ⟨rfl, S6.out.below⟩
 | some LR =>
  obtain ⟨L, R⟩ := LR
  obtain ⟨hLn, hLe⟩ := readB_all HBB.out (open_read HQ.out)
  obtain ⟨hR1, hRL, m, hm, hmb⟩ := open_form HQ.out
  have hTk : Taken L := ⟨adds_any L (m := newM (R : Int)) (m' := newM 1) rfl rfl hm, hLe⟩
  clear hLe hm hmb
  have hLs : L.length ≤ 1000000 := by omega
  have HR1' := Aside0.mk hR1
  have HRL := Aside0.mk hRL
  have HTk := Aside0.mk hTk
  clear hR1 hRL hTk hLn
  go_wp2_with fail
  refine HOp.out.mono ?_
  rintro en W4 ⟨⟨gk, rfl, hK⟩, hb4⟩
  have S4 := Aside0.mk (S.out.step hb4)
  have HK := Aside0.mk hK
  have HL4 : Aside0 (bb < w1.heap.size) := ⟨row_lt S.out.row⟩
  have HB4 := Aside0.mk hb4
  clear hb4 hK
  go_wp2_with fail
  have HOr := Aside0.mk (refOpen_calls (HR0.out.step S4.out.below) HBB.out (by omega))
  rw [HQ.out] at HOr
  refine HOr.out.mono ?_
  rintro en W5 ⟨⟨v5, rfl, hr5⟩, hb5⟩
  obtain ⟨A7, q7, e7⟩ := Kd.R_slice hr5
  subst e7
  obtain ⟨Ak, nk, ck, hSt⟩ : ∃ Ak nk ck, St w W5 w.heap.size bb n0 cap b gk nk ck R Ak A7 q7 L := by
   obtain ⟨Ak, nk, ck, k1, k2, k3⟩ := HK.out.step hb5
   have z := HL4.out
   have z2 := HB4.out.size
   exact ⟨Ak, nk, ck, S4.out.step hb5, GT.below HT.out (S4.out.step hb5).below, k1, by omega, Kd.R_lower (Kd.R_mono (Kd.R_bound k3) (fun k hk => by have := hk.2.1; omega)) (Nat.zero_le _), Kd.R_lower (Kd.R_mono (Kd.R_bound hr5) (fun k hk => by have := hk.2.1; omega)) (Nat.zero_le _)⟩
  have hnk : nk = L.length := (Kd.R_reads' hSt.rk).1
  subst hnk
  have S5 := Aside0.mk hSt
  clear hb5 hr5 hSt
  go_wp2_with fail
  refine (same_calls S5.out.sit.rd (HR0.out.step S5.out.sit.below) (by omega)).mono ?_
  rintro en W6 ⟨he6, hb6⟩
  rw [decide_eq_true rfl] at he6
  subst he6
  have S6 := Aside0.mk (S5.out.step hb6)
  clear hb6
  go_wp2_with fail
  obtain ⟨F, hRm, hFb⟩ := S6.out.sit.room
  refine (hold_calls W6 _ F _ _ hRm (by simp)).mono ?_
  clear hRm hFb
  rintro en WH ⟨rfl, rfl⟩
  go_wp2_with fail
  refine (num_calls 0 _).mono ?_
  rintro en WZ ⟨rfl, rfl⟩
  clear HOp HOr S4 S5 HK HB4 S
  go_wp2_with fail
  go_loopw [13] (fun i wr => ∃ (k : Nat) (l : List Int), k ≤ n0 ∧ i = .int .i64 k ∧ Aside0 (St w wr w.heap.size bb n0 cap l gk L.length ck R Ak A7 q7 L) ∧ Aside0 (Bytes l)) (fun i _ => n0 - (intOf i).toNat)
  case atStart => exact ⟨0, b, Nat.zero_le _, rfl, S6, HBB⟩
  case round =>
   clear S6
   obtain ⟨k, l, hk, rfl, S, HBY⟩ := hrel
   by_cases hlt : k < n0
   ·have hcell := S.out.sit.row.cell k (by rw [S.out.sit.len]; exact hlt)
    have hfz := S.out.sit.row.frozen k
    have hb1 := bytes_rd HBY.out k (by rw [S.out.sit.len]; exact hlt)
    go_wp2_with fail
    go_roundw
    case rel => exact ⟨k + 1, _, by omega, by go_num, ⟨S.out.set k (by rw [S.out.sit.len]; exact hlt) _⟩, ⟨bytes_set HBY.out k ⟨by omega, by omega⟩⟩⟩
    case measure => simp [intOf]; omega
   ·obtain ⟨wl, rfl⟩ : ∃ wl, wl = wr := ⟨_, rfl⟩
    go_wp2_with fail
    clear hlt
    refine (anew_calls S.out.sit.rd HBY.out (by rw [S.out.sit.len]; omega) S.out.tab).mono ?_
    rintro en W8 ⟨rfl, hb8⟩
    have S8 := Aside0.mk (S.out.step hb8)
    clear hb8
    go_wp2_with fail
    obtain ⟨j1, j2, j3⟩ := Kd.R_reads' S8.out.rk
    obtain ⟨j4, j5, j6⟩ := Kd.R_reads' S8.out.rw_
    have hkc8 : W8.cell? ⟨gk, 0, none⟩ = some (.slice Ak L.length ck) := by rw [blk_cell S8.out.blk]; rfl
    refine (again_calls gk L.length ck Ak L nq A7 q7 W8 rfl (by omega) hkc8 j3 j6 j5).mono ?_
    rintro en W9 ⟨rfl, hb9⟩
    have S9 := Aside0.mk (S8.out.step hb9)
    clear hb9 hkc8 S S8 HBY j1 j2 j3 j4 j5 j6
    obtain ⟨bt, hbt⟩ : ∃ bt, decide (0 ≤ nq ∧ nq < (L.length : Int)) = bt := ⟨_, rfl⟩
    have HBt := Aside0.mk hbt
    clear hbt
    go_upto_region 16 with fail
    go_cut [101] (fun s101 wx => s101 = .bool bt ∧ Aside0 (Below W9.heap.size W9 wx))
    case first =>
     by_cases c1 : 0 ≤ nq
     ·have d1 : decide (0 ≤ nq) = true := decide_eq_true c1
      by_cases c2 : nq < (L.length : Int)
      ·have d2 : decide (nq < (L.length : Int)) = true := decide_eq_true c2
       have d3 : decide (0 ≤ nq ∧ nq < (L.length : Int)) = true := decide_eq_true ⟨c1, c2⟩
       go_wp2_with fail
       go_meet
       case rel => exact ⟨by rw [← HBt.out, d3], ⟨by repeat (first | exact Below.refl _ _ | apply pw_below_drewN | apply below_drew1)⟩⟩
      ·have d2 : decide (nq < (L.length : Int)) = false := decide_eq_false c2
       have d3 : decide (0 ≤ nq ∧ nq < (L.length : Int)) = false := decide_eq_false (fun h => c2 h.2)
       go_wp2_with fail
       go_meet
       case rel => exact ⟨by rw [← HBt.out, d3], ⟨by repeat (first | exact Below.refl _ _ | apply pw_below_drewN | apply below_drew1)⟩⟩
     ·have d1 : decide (0 ≤ nq) = false := decide_eq_false c1
      have d3 : decide (0 ≤ nq ∧ nq < (L.length : Int)) = false := decide_eq_false (fun h => c1 h.1)
      go_wp2_with fail
      go_meet
      case rel => exact ⟨by rw [← HBt.out, d3], ⟨by repeat (first | exact Below.refl _ _ | apply pw_below_drewN | apply below_drew1)⟩⟩
    case rest =>
     obtain ⟨rfl, HBa⟩ := hcut
     obtain ⟨wa, rfl⟩ : ∃ wa, wa = wc := ⟨_, rfl⟩
     have SA := Aside0.mk (S9.out.step HBa.out)
     clear S9 HBa
     go_upto_if 101 with fail
     go_cut [14] (fun s14 wx => ∃ A8 m8 c8, s14 = .slice A8 m8 c8 ∧ Aside0 (Rd kE wx A8 m8 c8 (givenL nq L)) ∧ Aside0 (Below wa.heap.size wa wx))
     case first =>
      obtain ⟨j4, j5, j6⟩ := Kd.R_reads' SA.out.rw_
      have HJ6 := Aside0.mk j6
      clear j6 j4
      cases bt with
      | true =>
       have c : 0 ≤ nq ∧ nq < (L.length : Int) := of_decide_eq_true HBt.out
       have hsl := cut_to (P := Tryd.prog) 25 30 .i64 Tryd.underlying25 HI.out A7 L.length q7 nq c.1 (by omega) j5
       have HC := Aside0.mk c
       have HJ5 := Aside0.mk j5
       clear c j5
       go_wp2_with fail
       go_meet
       case rel => exact ⟨_, _, _, rfl, ⟨by rw [some_is HC.out.1 HC.out.2]; exact Rd.take (m := nq.toNat) ⟨rfl, HJ5.out, by first | exact HJ6.out | exact Kd.C_drewN HJ6.out _⟩ (by have := HC.out; omega)⟩, ⟨by repeat (first | exact Below.refl _ _ | apply pw_below_drewN | apply below_drew1)⟩⟩
      | false =>
       have c : ¬ (0 ≤ nq ∧ nq < (L.length : Int)) := of_decide_eq_false HBt.out
       have HC := Aside0.mk c
       have HJ5 := Aside0.mk j5
       clear c j5
       go_wp2_with fail
       go_meet
       case rel => exact ⟨_, _, _, rfl, ⟨by rw [some_all HC.out]; exact ⟨rfl, HJ5.out, by first | exact HJ6.out | exact Kd.C_drewN HJ6.out _⟩⟩, ⟨by repeat (first | exact Below.refl _ _ | apply pw_below_drewN | apply below_drew1)⟩⟩
     case rest =>
      obtain ⟨A8, m8, c8, rfl, H8, HBb⟩ := hcut
      obtain ⟨wo, rfl⟩ : ∃ wo, wo = wc := ⟨_, rfl⟩
      have SO := Aside0.mk (SA.out.step HBb.out)
      have HB : Aside0 (Below w.heap.size w wo) := ⟨SO.out.sit.below⟩
      have HE8 := Aside0.mk H8.out.2.1
      clear SA HBb
      go_wp2_with fail
      go_loopw [15] (fun s15 wq => ∃ t : Nat, s15 = .int .i64 (t : Int) ∧ t ≤ 3 ∧ Aside0 (Below wo.heap.size wo wq)) (fun s15 _ => 3 - (intOf s15).toNat)
      case atStart => exact ⟨0, rfl, by omega, ⟨by repeat (first | exact Below.refl _ _ | apply pw_below_drewN | apply below_drew1)⟩⟩
      case round =>
       obtain ⟨wq, rfl⟩ : ∃ wq, wq = wr := ⟨_, rfl⟩
       obtain ⟨t, rfl, ht, HBq⟩ := hrel
       by_cases htl : t < 3
       ·have HHt := Aside0.mk ht
        have HHl := Aside0.mk htl
        have HS0 := Aside0.mk (SO.out.step HBq.out)
        obtain ⟨j1, j2, j3⟩ := Kd.R_reads' HS0.out.rk
        obtain ⟨j4, j5, j6⟩ := Kd.R_reads' HS0.out.rw_
        have hkc : wq.cell? ⟨gk, 0, none⟩ = some (.slice Ak L.length ck) := by rw [blk_cell HS0.out.blk]; rfl
        have hkr : wq.cell? ⟨gk, 1, none⟩ = some (.int .i64 (R : Int)) := by rw [blk_cell HS0.out.blk]; rfl
        have HGv : Aside0 (∀ (z : Int) (W' : World), Below wq.heap.size wq W' → Calls Tryd.prog 21 #[.pointer (some ⟨gk, 0, none⟩), .int .i64 z] W' (GivenPost W' (givenL z L))) := ⟨fun z W' hW => given_calls gk L.length ck Ak L z W' (by omega) (pw_cell_below hW hkc) (Kd.C_below j3 hW)⟩
        have HSk : Aside0 (∀ (s : ByteArray) (W' : World), Below wq.heap.size wq W' → Calls Tryd.prog 22 #[.pointer (some ⟨gk, 0, none⟩), .string s] W' (SeekPost W' L (seekF L R s (L.length + 1) 0))) := ⟨fun s W' hW => seek_calls s HR1'.out (by have := HRL.out; omega) (by omega) (pw_cell_below hW hkc) (pw_cell_below hW hkr) (Kd.C_below j3 hW)⟩
        have HRk : Aside0 (∀ (s : ByteArray) (W' : World), s.size ≤ 4611686018427387 → Below wq.heap.size wq W' → Calls Tryd.prog 23 #[.slice A7 L.length q7, .string s] W' (SeekPost W' L (seekF L R s (L.length + 1) 0))) := ⟨fun s W' hs hW => refSeek_calls R HR1'.out s ⟨rfl, j5, Kd.C_below j6 hW⟩ (by omega) HTk.out hs⟩
        have HCx : Aside0 (∀ W' : World, Below wq.heap.size wq W' → Kd.C kE W' A7 L.length L) := ⟨fun W' hW => Kd.C_below j6 hW⟩
        have HC8 : Aside0 (∀ W' : World, Below wq.heap.size wq W' → Kd.C kE W' A8 m8 (givenL nq L)) := ⟨fun W' hW => Kd.C_below H8.out.2.2 (below_step HBq.out hW)⟩
        have HQ7 := Aside0.mk j5
        have HGl : Aside0 ((givenL nq L).length ≤ 1000000000) := ⟨by
         by_cases c : 0 ≤ nq ∧ nq < (L.length : Int)
         ·rw [some_is c.1 c.2, List.length_take]; omega
         ·rw [some_all c]; omega⟩
        clear ht htl HS0 j1 j2 j3 j4 j5 j6 hkc hkr
        have hlt3 : decide ((t : Int) < 3) = true := decide_eq_true (by have := HHl.out; omega)
        go_wp2_with fail
        clear hlt3
        have hcall := HGv.out (-1) _ (Below.refl _ _)
        rw [givenAll] at hcall
        refine hcall.mono ?_
        clear hcall
        rintro en V1 ⟨v1, rfl, hr1_, hb1_⟩
        obtain ⟨B1, p1, e1_⟩ := Kd.R_slice hr1_
        subst e1_
        have HV1 := Aside0.mk (Kd.R_reads' hr1_)
        have HB1 := Aside0.mk hb1_
        clear hr1_ hb1_
        go_wp2_with fail
        refine (sameEntries_calls (l := L) HV1.out.2.2 HV1.out.2.1 (HCx.out _ HB1.out) HQ7.out (by omega)).mono ?_
        rintro en V2 ⟨rfl, hb2_⟩
        have HB2 := Aside0.mk (below_step HB1.out hb2_)
        clear hb2_
        go_wp2_with fail
        refine (HGv.out nq _ HB2.out).mono ?_
        rintro en V3 ⟨v3, rfl, hr3_, hb3_⟩
        obtain ⟨B3, p3, e3_⟩ := Kd.R_slice hr3_
        subst e3_
        have HV3 := Aside0.mk (Kd.R_reads' hr3_)
        have HB3 := Aside0.mk (below_step HB2.out hb3_)
        clear hr3_ hb3_
        go_wp2_with fail
        refine (sameEntries_calls (l := givenL nq L) HV3.out.2.2 HV3.out.2.1 (HC8.out _ HB3.out) HE8.out HGl.out).mono ?_
        rintro en V4 ⟨rfl, hb4_⟩
        have HB4 := Aside0.mk (below_step HB3.out hb4_)
        clear hb4_
        go_wp2_with fail
        go_loopw [16] (fun s16 wq2 => ∃ q : Nat, s16 = .int .i64 (q : Int) ∧ q ≤ n1 ∧ Aside0 (Below wq.heap.size wq wq2)) (fun s16 _ => n1 - (intOf s16).toNat)
        case atStart => exact ⟨0, rfl, Nat.zero_le _, ⟨by repeat (first | exact HB4.out | apply pw_below_drewN | apply below_drew1)⟩⟩
        case round =>
         obtain ⟨wp, rfl⟩ : ∃ wp, wp = wr := ⟨_, rfl⟩
         obtain ⟨q, rfl, hq, HBp⟩ := hrel
         by_cases hqlt : q < n1
         ·obtain ⟨ad2, ea2, hkey⟩ := Kd.at_string (Kd.C_below HR1.out.2.2 (below_step HB.out (below_step HBq.out HBp.out))) (q : Int) (by omega) (by omega)
          obtain ⟨key, hkk⟩ : ∃ key, rdOf ByteArray.empty ks (q : Int) = key := ⟨_, rfl⟩
          have hks : key.size ≤ 4611686018427387 := by
           rw [← hkk]
           simp only [rdOf, Int.toNat_natCast, List.getD_eq_getElem?_getD]
           rw [List.getElem?_eq_getElem (by omega)]
           exact HKs.out _ (List.getElem_mem _)
          rw [hkk, Int.toNat_natCast] at hkey
          subst ea2
          have HKy := Aside0.mk hkey
          obtain ⟨⟨z0, z1, z2, z3, z4⟩, hzz⟩ : ∃ z, seekO L (seekF L R key (L.length + 1) 0) = z := ⟨_, rfl⟩
          have HS1 : Aside0 (∀ W' : World, Below wp.heap.size wp W' → Calls Tryd.prog 22 #[.pointer (some ⟨gk, 0, none⟩), .string key] W' (fun e w' => e = .returned (.tuple #[.agg #[.string z0, .int .u64 z1, .bool z2, .string z3], .bool z4]) ∧ Below W'.heap.size W' w')) := ⟨fun W' hW => (HSk.out key W' (below_step HBp.out hW)).mono fun e w' h => by
           have z := seek_post h
           rw [hzz] at z
           exact z⟩
          have HS2 : Aside0 (∀ W' : World, Below wp.heap.size wp W' → Calls Tryd.prog 23 #[.slice A7 L.length q7, .string key] W' (fun e w' => e = .returned (.tuple #[.agg #[.string z0, .int .u64 z1, .bool z2, .string z3], .bool z4]) ∧ Below W'.heap.size W' w')) := ⟨fun W' hW => (HRk.out key W' hks (below_step HBp.out hW)).mono fun e w' h => by
           have z := seek_post h
           rw [hzz] at z
           exact z⟩
          have HS3 : Aside0 (∀ W' : World, Below wp.heap.size wp W' → W'.cell? (ad2.add q) = some (.string key)) := ⟨fun W' hW => (hW.cell (p := ad2.add q) (World.block_lt_of_cell? _ _ HKy.out)).trans HKy.out⟩
          clear hkey hkk hks hzz
          go_upto_region 26 with fail
          go_cut [17, 18] (fun s_ t_ wx => ∃ h : Nat, s_ = .pointer (some ⟨h, 0, none⟩) ∧ t_ = .bool z4 ∧ Aside0 (wx.heap[h]? = some (.cells #[.string z0, .int .u64 z1, .bool z2, .string z3] 30 (0, 0))) ∧ Aside0 (Below wp.heap.size wp wx))
          case first =>
           have hkeyq := HS3.out _ (Below.refl _ _)
           go_wp2_with ((go_at_call 22; go_must (refine (HS1.out _ (by repeat (first | exact Below.refl _ _ | apply below_alloc | apply pw_below_drewN | apply below_drew1 | apply below_drew))).mono ?_); rintro e W2 ⟨rfl, hb2⟩; (have BX2 := Aside0.mk (below_step (show Below wp.heap.size wp _ from (by repeat (first | exact Below.refl _ _ | apply below_alloc | apply pw_below_drewN | apply below_drew1 | apply below_drew))) hb2)); (try ((have HA2 := Aside0.mk (show W2.heap[wp.heap.size]? = some (.cells #[.string (⟨#[]⟩ : ByteArray), .int .u64 0, .bool false, .string (⟨#[]⟩ : ByteArray)] 30 (0, 0)) from (hb2.block _ (by simp)).trans (by first | exact heap_alloc_new (wp.drewN _) _ | exact heap_alloc_new wp.drew _ | exact heap_alloc_new wp _))); (have hf0 := blk_frozen HA2.out 0); (have hy0 : W2.cell? ⟨wp.heap.size, 0, none⟩ = some (.string (⟨#[]⟩ : ByteArray)) := (blk_cell HA2.out 0).trans rfl); (have hf1 := blk_frozen HA2.out 1); (have hy1 : W2.cell? ⟨wp.heap.size, 1, none⟩ = some (.int .u64 0) := (blk_cell HA2.out 1).trans rfl); (have hf2 := blk_frozen HA2.out 2); (have hy2 : W2.cell? ⟨wp.heap.size, 2, none⟩ = some (.bool false) := (blk_cell HA2.out 2).trans rfl); (have hf3 := blk_frozen HA2.out 3); (have hy3 : W2.cell? ⟨wp.heap.size, 3, none⟩ = some (.string (⟨#[]⟩ : ByteArray)) := (blk_cell HA2.out 3).trans rfl))); clear hb2))
           all_goals (try (go_wp2_with fail))
           all_goals (go_meet; case rel => exact ⟨_, rfl, rfl, ⟨by first | exact heap_alloc_new W2 _ | exact heap_alloc_new (W2.drewN _) _ | exact heap_alloc_new W2.drew _ | (refine blk_put (cs := #[.string z0, .int .u64 z1, .bool z2, .string (⟨#[]⟩ : ByteArray)]) ?_ 3 _ rfl; refine blk_put (cs := #[.string z0, .int .u64 z1, .bool false, .string (⟨#[]⟩ : ByteArray)]) ?_ 2 _ rfl; refine blk_put (cs := #[.string z0, .int .u64 0, .bool false, .string (⟨#[]⟩ : ByteArray)]) ?_ 1 _ rfl; refine blk_put (cs := #[.string (⟨#[]⟩ : ByteArray), .int .u64 0, .bool false, .string (⟨#[]⟩ : ByteArray)]) ?_ 0 _ rfl; exact HA2.out)⟩, ⟨by repeat (first | exact BX2.out | apply pw_below_drewN | apply below_alloc | apply below_drew1 | apply below_drew | refine below_at ?_ (Nat.le_refl _) _ _)⟩⟩)
          case rest =>
           obtain ⟨h1, rfl, rfl, HH1, HBc1⟩ := hcut
           obtain ⟨wc1, rfl⟩ : ∃ wc1, wc1 = wc := ⟨_, rfl⟩
           have HS4 : Aside0 (∀ W' : World, Below wc1.heap.size wc1 W' → W'.cell? (ad2.add q) = some (.string key)) := ⟨fun W' hW => HS3.out W' (below_step HBc1.out hW)⟩
           have HS2' : Aside0 (∀ W' : World, Below wc1.heap.size wc1 W' → Calls Tryd.prog 23 #[.slice A7 L.length q7, .string key] W' (fun e w' => e = .returned (.tuple #[.agg #[.string z0, .int .u64 z1, .bool z2, .string z3], .bool z4]) ∧ Below W'.heap.size W' w')) := ⟨fun W' hW => HS2.out W' (below_step HBc1.out hW)⟩
           clear HS3 HS2 HS1
           go_upto_region 27 with fail
           go_cut [19, 20] (fun s_ t_ wx => ∃ h : Nat, s_ = .pointer (some ⟨h, 0, none⟩) ∧ t_ = .bool z4 ∧ Aside0 (wx.heap[h]? = some (.cells #[.string z0, .int .u64 z1, .bool z2, .string z3] 30 (0, 0))) ∧ Aside0 (Below wc1.heap.size wc1 wx))
           case first =>
            have hkeyq := HS4.out _ (Below.refl _ _)
            go_wp2_with ((go_at_call 23; go_must (refine (HS2'.out _ (by repeat (first | exact Below.refl _ _ | apply below_alloc | apply pw_below_drewN | apply below_drew1 | apply below_drew))).mono ?_); rintro e V2 ⟨rfl, hb2⟩; (have BY2 := Aside0.mk (below_step (show Below wc1.heap.size wc1 _ from (by repeat (first | exact Below.refl _ _ | apply below_alloc | apply pw_below_drewN | apply below_drew1 | apply below_drew))) hb2)); (try ((have HC2 := Aside0.mk (show V2.heap[wc1.heap.size]? = some (.cells #[.string (⟨#[]⟩ : ByteArray), .int .u64 0, .bool false, .string (⟨#[]⟩ : ByteArray)] 30 (0, 0)) from (hb2.block _ (by simp)).trans (by first | exact heap_alloc_new (wc1.drewN _) _ | exact heap_alloc_new wc1.drew _ | exact heap_alloc_new wc1 _))); (have gf0 := blk_frozen HC2.out 0); (have gy0 : V2.cell? ⟨wc1.heap.size, 0, none⟩ = some (.string (⟨#[]⟩ : ByteArray)) := (blk_cell HC2.out 0).trans rfl); (have gf1 := blk_frozen HC2.out 1); (have gy1 : V2.cell? ⟨wc1.heap.size, 1, none⟩ = some (.int .u64 0) := (blk_cell HC2.out 1).trans rfl); (have gf2 := blk_frozen HC2.out 2); (have gy2 : V2.cell? ⟨wc1.heap.size, 2, none⟩ = some (.bool false) := (blk_cell HC2.out 2).trans rfl); (have gf3 := blk_frozen HC2.out 3); (have gy3 : V2.cell? ⟨wc1.heap.size, 3, none⟩ = some (.string (⟨#[]⟩ : ByteArray)) := (blk_cell HC2.out 3).trans rfl))); clear hb2))
            all_goals (try (go_wp2_with fail))
            all_goals (go_meet; case rel => exact ⟨_, rfl, rfl, ⟨by first | exact heap_alloc_new V2 _ | exact heap_alloc_new (V2.drewN _) _ | exact heap_alloc_new V2.drew _ | (refine blk_put (cs := #[.string z0, .int .u64 z1, .bool z2, .string (⟨#[]⟩ : ByteArray)]) ?_ 3 _ rfl; refine blk_put (cs := #[.string z0, .int .u64 z1, .bool false, .string (⟨#[]⟩ : ByteArray)]) ?_ 2 _ rfl; refine blk_put (cs := #[.string z0, .int .u64 0, .bool false, .string (⟨#[]⟩ : ByteArray)]) ?_ 1 _ rfl; refine blk_put (cs := #[.string (⟨#[]⟩ : ByteArray), .int .u64 0, .bool false, .string (⟨#[]⟩ : ByteArray)]) ?_ 0 _ rfl; exact HC2.out)⟩, ⟨by repeat (first | exact BY2.out | apply pw_below_drewN | apply below_alloc | apply below_drew1 | apply below_drew | refine below_at ?_ (Nat.le_refl _) _ _)⟩⟩)
           case rest =>
            obtain ⟨h2, rfl, rfl, HH2, HBc2⟩ := hcut
            have HH1' := Aside0.mk ((HBc2.out.block _ (blk_lt HH1.out)).trans HH1.out)
            have p0 : wc.cell? ⟨h1, 0, none⟩ = some (.string z0) := by rw [blk_cell HH1'.out]; rfl
            have p1 : wc.cell? ⟨h1, 1, none⟩ = some (.int .u64 z1) := by rw [blk_cell HH1'.out]; rfl
            have p2 : wc.cell? ⟨h1, 2, none⟩ = some (.bool z2) := by rw [blk_cell HH1'.out]; rfl
            have p3 : wc.cell? ⟨h1, 3, none⟩ = some (.string z3) := by rw [blk_cell HH1'.out]; rfl
            have q0 : wc.cell? ⟨h2, 0, none⟩ = some (.string z0) := by rw [blk_cell HH2.out]; rfl
            have q1 : wc.cell? ⟨h2, 1, none⟩ = some (.int .u64 z1) := by rw [blk_cell HH2.out]; rfl
            have q2 : wc.cell? ⟨h2, 2, none⟩ = some (.bool z2) := by rw [blk_cell HH2.out]; rfl
            have q3 : wc.cell? ⟨h2, 3, none⟩ = some (.string z3) := by rw [blk_cell HH2.out]; rfl
            go_wp2_with fail
            go_roundw
            case rel => exact ⟨q + 1, by go_num, by omega, ⟨below_step HBp.out (below_step HBc1.out HBc2.out)⟩⟩
            case measure => simp [intOf]; omega
         ·have htl := HHl.out
          go_wp2_with fail
          go_roundw
          case rel => exact ⟨t + 1, by go_num, by have := HHl.out; omega, ⟨by first | exact below_step HBq.out HBp.out | (repeat (first | exact below_step HBq.out HBp.out | apply pw_below_drewN))⟩⟩
          case measure => simp [intOf]; have := HHl.out; omega
       ·have hlt3 : decide ((t : Int) < 3) = false := decide_eq_false (by omega)
        go_wp2_with fail
        have SZ := Aside0.mk (SO.out.sit.step HBq.out)
        obtain ⟨F, hRm, hFb⟩ := SZ.out.room
        refine (hold_calls wq _ F _ _ hRm (by simp)).mono ?_
        clear hRm hFb
        rintro en WH ⟨rfl, rfl⟩
        go_wp2_with fail
        go_ret
        exact ⟨rfl, SZ.out.below⟩
open Go.Proofs.YtaonjmkfbfhanaaDoor.SmE (smallB smallB_true small_calls FitE)
theorem reads_bytes {r : Int} {I : List En} (h : Taken I) (hl : I.length ≤ 200) : Bytes (bytesM (pushAll (newM r) I)) ∧ (bytesM (pushAll (newM r) I)).length ≤ 140808 := by
 have z := (made_ok (L := I) (adds_push I (h.any r)).2.2 h.2).bytes hl
 exact ⟨z.1, z.2.1⟩
set_option maxHeartbeats 16000000 in
set_option maxRecDepth 100000 in
theorem breads_walk {w : World} {A1 A2 : Option Addr} {n1 c1 n2 c2 : Nat} {L : List En} {ks : List ByteArray} (a0 : Int) (h0 : a0 ≤ 9223372036854775807) (hr0 : Rd kE w A1 n1 c1 L) (hl : L.length ≤ 140737488351232) (hf : FitE L) (hw : ∀ e ∈ L, EnW e) (q : Int) (hr1 : Rd Kd.string w A2 n2 c2 ks) (hk : ∀ s ∈ ks, s.size ≤ 4611686018427387) (hT : GT w) :
  Calls Tryd.prog 4 #[.int .i64 a0, .slice A1 n1 c1, .slice A2 n2 c2, .int .i64 q] w fun e w' => e = .returned (.bool true) ∧ Below w.heap.size w w' := by
 have hn : L.length = n1 := hr0.1
 have HR := Aside0.mk hr0
 have HW := Aside0.mk hw
 have HFt := Aside0.mk hf
 have HT := Aside0.mk hT
 have HR1 := Aside0.mk hr1
 have HKs := Aside0.mk hk
 have HS := Aside0.mk (small_calls hr0 hl hf)
 obtain ⟨s, hs⟩ : ∃ s, smallB L = s := ⟨_, rfl⟩
 rw [hs] at HS
 have HSm := Aside0.mk hs
 clear hr0 hf hw hT hs hr1 hk
 go_enter Tryd.func4, Tryd.ntmps4
 go_wp2_with fail
 refine HS.out.mono ?_
 rintro en W1 ⟨rfl, hb1⟩
 have HB1 := Aside0.mk hb1
 clear hb1
 cases s with
 | false =>
  go_wp2_with fail
  go_ret
  exact ⟨rfl, HB1.out⟩
 | true =>
  obtain ⟨h200, hpt⟩ := smallB_true HSm.out
  by_cases c40 : 40 < n2
  ·have d1 : decide ((40 : Int) < (n2 : Int)) = true := decide_eq_true (by omega)
   go_wp2_with fail
   go_ret
   exact ⟨rfl, by repeat (first | exact HB1.out | apply pw_below_drewN | apply below_drew1)⟩
  ·have d1 : decide ((40 : Int) < (n2 : Int)) = false := decide_eq_false (by omega)
   go_wp2_with fail
   clear d1
   go_loopw [9, 10] (fun s9 s10 wr => ∃ (k : Nat) (ins : List En), s10 = .int .i64 (k : Int) ∧ k ≤ n1 ∧ ins.length ≤ k ∧ Aside0 (Taken ins) ∧ Aside0 (kE.R 30 wr w.heap.size (fun _ => True) s9 ins) ∧ Aside0 (Below w.heap.size w wr)) (fun _ s10 _ => n1 - (intOf s10).toNat)
   case atStart => exact ⟨0, [], rfl, Nat.zero_le _, Nat.zero_le _, ⟨taken_nil⟩, ⟨Kd.R_nil _ _ _ _ _⟩, ⟨by repeat (first | exact HB1.out | apply pw_below_drewN | apply below_drew1)⟩⟩
   case round =>
    clear HB1
    obtain ⟨k, ins, rfl, hk, hik, HTk, HI, HB⟩ := hrel
    obtain ⟨Av, qv, ev⟩ := Kd.R_slice HI.out
    subst ev
    by_cases hlt : k < n1
    ·obtain ⟨ad, ea, x0, x1, x2, x3⟩ := at_T30 (Kd.C_below HR.out.2.2 HB.out) (k : Int) (by omega) (by omega)
     subst ea
     obtain ⟨e, he⟩ : ∃ e, rd_T30 L (k : Int) = e := ⟨_, rfl⟩
     rw [he, Int.toNat_natCast] at x0 x1 x2 x3
     have hek : L[k]'(by omega) = e := by rw [← he]; simp [rd_T30, List.getD_eq_getElem?_getD, hn, hlt]
     have HEe : Aside0 (EnW e) := ⟨by rw [← hek]; exact HW.out _ (List.getElem_mem _)⟩
     have HEf : Aside0 (e.f0.size ≤ 140737488351232) := ⟨by rw [← hek]; exact (HFt.out _ (List.getElem_mem _)).1⟩
     have HEk : Aside0 (rd_T30 L (k : Int) = e) := ⟨he⟩
     clear he hek
     obtain ⟨j1, j2, j3⟩ := Kd.R_reads' HI.out
     have HAd := Aside0.mk (refAdds_calls e ⟨rfl, j2, j3⟩ (by omega) HTk.out (by have := HEf.out; omega))
     obtain ⟨cd, hcd⟩ : ∃ cd, (addM (pushAll (newM 1) ins) e).1 = cd := ⟨_, rfl⟩
     rw [hcd] at HAd
     have HCd := Aside0.mk hcd
     clear hcd j1 j2 j3
     by_cases hc0 : cd = 0
     ·have d0 : (cd == 0) = true := beq_iff_eq.mpr hc0
      have HT2 : Aside0 (Taken (ins ++ [e])) := ⟨HTk.out.snoc (by rw [HCd.out, hc0]) HEe.out⟩
      clear hc0
      go_wp2_with fail
      refine HAd.out.mono ?_
      rintro en W3 ⟨rfl, hb3⟩
      have HI3 := Aside0.mk (Kd.R_below HI.out hb3)
      have HB3 := Aside0.mk (below_step HB.out hb3)
      clear hb3 x0 x1 x2 x3
      obtain ⟨ad', ea', x0, x1, x2, x3⟩ := at_T30 (Kd.C_below HR.out.2.2 HB3.out) (k : Int) (by omega) (by omega)
      injection ea' with ea'
      subst ea'
      rw [HEk.out, Int.toNat_natCast] at x0 x1 x2 x3
      have PL : Aside0 ((ins.length + 1) * 48 ≤ 140737488355328) := ⟨by omega⟩
      go_wp2_with ((with_reducible refine gate_builtin (b := .append) (xs := #[.tmp 32, .tmp 37]) rfl ?_); at_builtin; go_must (refine Kd.R_append kE (w0 := w) w.heap.size rfl (.tmp 32) (.tmp 37) 25 30 (.agg #[(.string ⟨#[]⟩), (.int .u64 0), (.bool false), (.string ⟨#[]⟩)]) 48 rfl Tryd.underlying25 info30 rfl (by decide) (by omega) _ ins e [.string e.f0, .int .u64 e.f1, .bool e.f2, .string e.f3] (fun _ => True) (fun _ => False) rfl rfl (k30_mkM _ _ _ e) (fun _ hk => hk.elim) (fun _ _ => trivial) HI3.out HB3.out HB3.out.size PL.out ?_); intro v5 W5 ho hb hg hat; (have HO5 := Aside0.mk ho); (have HB5 := Aside0.mk hb); clear ho hb hg hat)
      go_roundw
      case rel => exact ⟨k + 1, ins ++ [e], by go_num, by omega, by rw [List.length_append]; show ins.length + 1 ≤ _; omega, HT2, HO5, HB5⟩
      case measure => simp [intOf]; omega
     ·have d0 : (cd == 0) = false := beq_eq_false_iff_ne.mpr hc0
      clear hc0
      go_wp2_with fail
      refine HAd.out.mono ?_
      rintro en W3 ⟨rfl, hb3⟩
      have HI3 := Aside0.mk (Kd.R_below HI.out hb3)
      have HB3 := Aside0.mk (below_step HB.out hb3)
      clear hb3 x0 x1 x2 x3
      go_wp2_with fail
      go_roundw
      case rel => exact ⟨k + 1, ins, by go_num, by omega, by omega, HTk, HI3, HB3⟩
      case measure => simp [intOf]; omega
    ·obtain ⟨j1, j2, j3⟩ := Kd.R_reads' HI.out
     have HBc := Aside0.mk (refBytes_calls a0 h0 ⟨rfl, j2, j3⟩ (by omega) HTk.out)
     have HBy := Aside0.mk (reads_bytes (r := a0) HTk.out (by omega))
     have HKl : Aside0 (n2 ≤ 40) := ⟨by omega⟩
     clear j1 j2 j3
     go_wp2_with fail
     refine HBc.out.mono ?_
     rintro en W4 ⟨v4, rfl, hr4, hb4⟩
     obtain ⟨A4, q4, e4⟩ := Kd.R_slice hr4
     subst e4
     have HR4 := Aside0.mk (Kd.R_reads' hr4)
     have HB4 := Aside0.mk (below_step HB.out hb4)
     clear hr4 hb4
     go_wp2_with fail
     refine (opens_calls q ⟨rfl, HR4.out.2.1, HR4.out.2.2⟩ HBy.out.1 (by have := HBy.out.2; omega) (HR1.out.step HB4.out) HKs.out (by have := HKl.out; omega) (HT.out.below HB4.out)).mono ?_
     rintro en W5 ⟨rfl, hb5⟩
     have HB5 := Aside0.mk (below_step HB4.out hb5)
     clear hb5
     go_wp2_with fail
     go_ret
     exact ⟨rfl, HB5.out⟩
end Go.Proofs.YtaonjmkfbfhanaaDoor.Ops
namespace Go.Proofs.YtaonjmkfbfhanaaDoor.BlockReads
open Go.RowKit Go.Proofs.YtaonjmkfbfhanaaDoorW.PrintWords Go.Proofs.YtaonjmkfbfhanaaDoor.Own Go.Proofs.YtaonjmkfbfhanaaDoor.Wk Go.Proofs.YtaonjmkfbfhanaaDoor.QBo
set_option linter.unusedVariables false
theorem walk (a0 : Int) (w0 : (Lit.int .i64 a0).wf = true) (A1 : Option Addr) (c1 : Nat) (l1 : List Opn.En) {w' : World} (hr1 : Opn.kEn.C w' A1 l1.length l1) (hc1 : l1.length ≤ c1) (hg1 : Opn.GEs l1) (A2 : Option Addr) (c2 : Nat) (l2 : List ByteArray) (hr2 : Kd.string.C w' A2 l2.length l2) (hc2 : l2.length ≤ c2) (hg2 : Opn.GK l2) (a3 : Int) (w3 : (Lit.int .i64 a3).wf = true) (w : World) (hT : GT w) (e : w' = w := by rfl) :
  Calls Tryd.prog 4 #[.int .i64 a0, .slice A1 l1.length c1, .slice A2 l2.length c2, .int .i64 a3] w fun e w' => e = .returned (.bool true) ∧ Below w.heap.size w w' := by
 subst e
 have x0 : -9223372036854775808 ≤ a0 ∧ a0 ≤ 9223372036854775807 := by simpa [Lit.wf, IntKind.min, IntKind.max, IntKind.signed, IntKind.bits] using w0
 exact Ops.breads_walk a0 x0.2 ⟨rfl, hc1, hr1⟩ hg1.1 (Bk.enW_of hg1).2 (Bk.enW_of hg1).1 a3 ⟨rfl, hc2, hr2⟩ (fun s hs => by have := hg2.2 s hs; omega) hT
end Go.Proofs.YtaonjmkfbfhanaaDoor.BlockReads
namespace Go.Proofs.YtaonjmkfbfhanaaDoor.blockReads
open Go.ChangeShapes Go.WideShapes Go.ChangeAt Go.RowKit
set_option linter.unusedVariables false
theorem own : ownKnob Tryd.prog.godebug = none := by kernel_rfl
theorem laidOut : laidOutB Tryd.prog = true := by kernel_rfl
def IsRow (k : IntKind) (w : World) (a : Option Addr) (len cap : Nat) (zs : List Int) : Prop :=
  (a = none ∧ len = 0 ∧ cap = 0 ∧ zs = []) ∨
  ∃ x, a = some x ∧ len ≤ cap ∧ cap ≤ maxLen ∧ zs.length = cap ∧ (∀ i, i < zs.length → w.cell? (x.add i) = some (.int k (zs.getD i 0))) ∧ ∀ n ∈ zs, (Lit.int k n).wf = true
theorem gTab : Tryd.prog.globalNamed "scree/codec.nibbles" = some 0 := by kernel_rfl
theorem gTabType : (Tryd.prog.globals[0]?).map (·.type) = some 161 := by kernel_rfl
theorem cellsA : Tryd.prog.cellsOf 161 = 16 := by kernel_rfl
theorem cellsE : Tryd.prog.cellsOf 59 = 1 := by kernel_rfl
theorem table {W : World} (h : laidMetH Tryd.prog Rows.blockReadsRow.laid W) : Lib.TabIs Tryd.prog W "scree/codec.nibbles" .u32 Own.nibs :=
  Lib.tabIs_of_head (rest := []) gTab gTabType Tryd.underlying161 Tryd.underlying59 cellsE cellsA h
theorem gt {W : World} (h : laidMetH Tryd.prog Rows.blockReadsRow.laid W) : Own.GT W := fun i hi => by
  have hl : i < Own.nibs.length := by simpa [Own.nibs] using hi
  have := (table h).cell gTab i hl
  simpa [List.getD_eq_getElem?_getD, hl] using this
set_option maxRecDepth 100000 in
theorem contract (H : Type) (enc : TypeId × Value → H) (W : World) (base : Nat) (args : Array Value) (ds gs : List (DataW H)) (before : List MemPlace)
    (hval : ∀ (j : Nat) t v, Tryd.f4.params[j]? = some t → args[j]? = some v → Value.okWide Tryd.prog W .any base t v)
    (hW : DataW.Whole enc Tryd.prog Tryd.f4.params.toList Rows.blockReadsSpec.vars false W args.toList ds gs before)
    (hsz0 : (DataW.weightsEach Tryd.prog (Tryd.f4.params.toList ++ Rows.blockReadsSpec.plain.varTypes Tryd.prog) (ds ++ gs)).all (· ≤ reachBytes) = true) (hL : laidMetH Tryd.prog Rows.blockReadsRow.laid W) :
    Calls Tryd.prog 4 args W fun e W' => ∃ v, e = .returned v ∧ Rows.blockReadsSpec.post enc Tryd.prog Tryd.f4 false true false false W args v W' := by
  have hW' := hW
  have hsz := hsz0
  obtain ⟨p, q, hA0, hV, rfl, hfz, hnd⟩ := hW
  have hA : DataW.TrodAll enc Tryd.prog W 0 (fun _ => true) true Tryd.f4.params.toList args.toList ds p := hA0
  rw [Tryd.params4] at hA hval hsz
  obtain ⟨v0, vs0, d0, ds0, p0, q0, hargs, rfl, rfl, h0, r0⟩ := trodAll_cons hA
  obtain ⟨v1, vs1, d1, ds1, p1, q1, rfl, rfl, rfl, h1, r1⟩ := trodAll_cons r0
  obtain ⟨v2, vs2, d2, ds2, p2, q2, rfl, rfl, rfl, h2, r2⟩ := trodAll_cons r1
  obtain ⟨v3, vs3, d3, ds3, p3, q3, rfl, rfl, rfl, h3, r3⟩ := trodAll_cons r2
  obtain ⟨rfl, rfl, rfl⟩ := trodAll_nil r3
  obtain rfl : args = #[v0, v1, v2, v3] := by cases args; simp_all
  obtain ⟨rfl, rfl⟩ := trodVars_none hV
  obtain ⟨a0, rfl, rfl, rfl, w0⟩ := open_int Tryd.underlying3 (hval 0 3 v0 rfl rfl) h0
  obtain ⟨a1, len1, cap1, rfl⟩ := okWide_slice Tryd.underlying25 (hval 1 25 v1 rfl rfl)
  have k1 := h1
  have lt1 : ∀ x ∈ p1, x.block < W.heap.size := by obtain ⟨m, hm⟩ := k1; exact DataW.trod_lt m _ _ _ hm
  obtain ⟨l1, el1, hr1, hc1, hg1, dz1⟩ := Opn.entries_arg (j := 1) hsz rfl rfl h1
  subst el1
  obtain ⟨a2, len2, cap2, rfl⟩ := okWide_slice Tryd.underlying23 (hval 2 23 v2 rfl rfl)
  have k2 := h2
  have lt2 : ∀ x ∈ p2, x.block < W.heap.size := by obtain ⟨m, hm⟩ := k2; exact DataW.trod_lt m _ _ _ hm
  obtain ⟨l2, el2, hr2, hc2, hg2, dz2⟩ := Opn.keys_arg (j := 2) hsz rfl rfl h2
  subst el2
  obtain ⟨a3, rfl, rfl, rfl, w3⟩ := open_int Tryd.underlying3 (hval 3 3 v3 rfl rfl) h3
  refine (BlockReads.walk a0 w0 a1 cap1 l1 hr1 hc1 hg1 a2 cap2 l2 hr2 hc2 hg2 a3 w3 W (gt hL)).mono fun e W' ⟨he, bel⟩ => ?_
  subst he
  exact ⟨_, rfl, _, _, _, [], _, [], hW', trodAll_mk1 (shut_bool Tryd.underlying4 _), (trodAll_cons_mk (shut_int Tryd.underlying3 w0) (trodAll_cons_mk (Below.trod laidOut (by kernel_rfl) (of_decide_eq_true (by kernel_rfl)) k1 bel lt1) (trodAll_cons_mk (Below.trod laidOut (by kernel_rfl) (of_decide_eq_true (by kernel_rfl)) k2 bel lt2) (trodAll_cons_mk (shut_int Tryd.underlying3 w3) trodAll_mk0)))), rfl, bel.frame _, fun h => by cases h⟩
noncomputable def laidWorld (os : Os) : World :=
  { World.holding Tryd.prog os ⟨#[], #[], []⟩ with heap := (World.holding Tryd.prog os ⟨#[], #[], []⟩).heap.modify 0 fun
      | .cells _ t frozen => .cells #[.int .u32 0, .int .u32 274646895, .int .u32 549293790, .int .u32 820201905, .int .u32 1098587580, .int .u32 1361435347, .int .u32 1640403810, .int .u32 1905808397, .int .u32 2197175160, .int .u32 2460548119, .int .u32 2722870694, .int .u32 2987750089, .int .u32 3280807620, .int .u32 3553878443, .int .u32 3811616794, .int .u32 4084100981] t frozen
      | o => o }
theorem laid_met (os : Os) : laidMet Tryd.prog Rows.blockReadsRow.laid ((laidWorld os).forCall (fun _ _ => 0) ⟨#[], #[.int .i64 0, .slice none 0 0, .slice none 0 0, .int .i64 0], []⟩).memory :=
  laidMet_of_run' 8 (by kernel_rfl) (by kernel_rfl)
theorem reads (os : Os) {H : Type} (enc : TypeId × Value → H) : ∃ places, DataW.whole enc Tryd.prog ((laidWorld os).forCall (fun _ _ => 0) ⟨#[], #[.int .i64 0, .slice none 0 0, .slice none 0 0, .int .i64 0], []⟩).memory Tryd.f4.params.toList Rows.blockReadsSpec.vars false #[.int .i64 0, .slice none 0 0, .slice none 0 0, .int .i64 0].toList 8 = some ([.lit (.int .i64 0), .nil, .nil, .lit (.int .i64 0)], [], places) :=
  ⟨[], by kernel_rfl⟩
set_option maxRecDepth 100000 in
theorem lifted (os : Os) (started : os.Started) (H : Type) (enc : TypeId × Value → H) (F : Stop.Interp) :
    ReturnsInHanded {} Tryd.checked os 4 .any ((OpenSpec.ofChange Rows.blockReadsSpec).preRow enc Tryd.prog Tryd.f4 Rows.blockReadsRow.domain false Rows.blockReadsRow.laid) (((OpenSpec.ofChange Rows.blockReadsSpec).at F).post enc Tryd.prog Tryd.f4 false true false false) := by
  obtain ⟨places, hx⟩ := reads os enc
  refine returnsInHanded_of_row (C := Tryd.checked) (s := OpenSpec.ofChange Rows.blockReadsSpec) own started (by kernel_rfl) Tryd.func4
    (witness_row_at (enc := enc) (C := Tryd.checked) false (laidWorld os) #[.int .i64 0, .slice none 0 0, .slice none 0 0, .int .i64 0] rfl (by kernel_rfl) (by kernel_rfl) (by kernel_rfl)
      (OpenSpec.preRow_of_cond 8 hx (by kernel_rfl) (fun k hk => by cases hk) (by kernel_rfl) (laid_met os))) ?_
  intro W base args ds gs before hval hW _ _ hsz hL _ _
  exact contract H enc W base args ds gs before hval hW hsz hL
theorem said : Rows.BlockReadsSaid :=
  OpenClaim.holds_of_cond 4 Tryd.f4 rfl rfl rfl rfl rfl rfl rfl ⟨rfl, rfl, rfl, rfl, rfl⟩ rfl rfl rfl rfl rfl (by kernel_rfl) Tryd.func4 (by kernel_rfl)
    (of_decide_eq_true (by kernel_rfl)) (by unfold Func.isWrapper; first | (rw [if_pos (by decide +kernel)]; kernel_rfl) | (rw [if_neg (by decide +kernel)]; exact ⟨rfl, rfl⟩))
    (fun os started H enc _ F => by rw [OpenClaim.pre_eq_preRow]; exact lifted os started H enc F)
theorem plain (f : FuncId) (fn : Func) (hf : Tryd.pinned.checked.prog.funcNamed "scree/screelaw9.BlockReads" = some f) (hfn : Tryd.pinned.checked.prog.funcs[f]? = some fn) :
    false = Tryd.pinned.checked.prog.looks [] ∧ ∀ (j : Nat) t, fn.params[j]? = some t → Tryd.pinned.checked.prog.wantsStandIn t = false := by
  obtain rfl : f = 4 := Option.some.inj ((show Tryd.prog.funcNamed "scree/screelaw9.BlockReads" = some 4 by kernel_rfl).symm.trans hf) |>.symm
  obtain rfl : fn = Tryd.f4 := (Option.some.inj (Tryd.func4.symm.trans hfn)).symm
  refine ⟨by kernel_rfl, fun j t ht => ?_⟩
  rw [Tryd.params4] at ht
  have hm : t ∈ [3, 25, 23, 3] := by have := Array.mem_of_getElem? ht; simpa using this
  have hall : ([3, 25, 23, 3].all fun u => !Tryd.prog.wantsStandIn u) = true := by kernel_rfl
  exact (show Tryd.prog.wantsStandIn t = false by simpa using List.all_eq_true.1 hall t hm)
theorem proved : Rows.BlockReadsCardSaid :=
  Claim7.holds_tied_plain_at .later [] _ _ _ _ said (fun _ h => by cases h) (by kernel_rfl) (fun _ h => by cases h) blockReads_row_tie rfl ⟨rfl, rfl⟩ (by kernel_rfl) rfl plain (by kernel_rfl)
#print axioms proved
end Go.Proofs.YtaonjmkfbfhanaaDoor.blockReads
