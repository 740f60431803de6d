/- Lemmas of this claim's own, put together: RfA, DMkC, DMkG, DMkH, DMkF, DMkB, DBkI, DMkV, RfB, RfE, DMkR, SmE, Bulk, Opn, OpE, KbA, KbB, KbC. -/
import Derived.Test.YtaonjmkfbfhanaaGreatDoorZBm5
import Derived.Lib.AppendStr
import Derived.BigQuiet
import Derived.Deep.QuietTactic
import Derived.Deep.DeepCutAuto
import Derived.Deep.RegionWith
import Derived.Deep.RegionLaw
import Derived.WalkLawsBesides
import Derived.Test.YtaonjmkfbfhanaaGreatDoorZBm2
import Derived.Test.YtaonjmkfbfhanaaGreatDoorRows
import Derived.WalkKit
import Derived.ProofKit
import Derived.OpenShut
import Derived.Test.YtaonjmkfbfhanaaGreatDoorZBm1
import Derived.Deep.Slices
import Derived.Deep.Fields
import Derived.ChangeSame
import Derived.ChangeArms
import Derived.SizedLaws
namespace Go.Proofs.YtaonjmkfbfhanaaGreatDoor.Rf
open Go.RowKit Go.Proofs.YtaonjmkfbfhanaaGreatDoorW.PrintWords Go.Proofs.YtaonjmkfbfhanaaGreatDoor.Own Go.Proofs.YtaonjmkfbfhanaaGreatDoor.G Go.Proofs.YtaonjmkfbfhanaaGreatDoor.Wk Go.Proofs.YtaonjmkfbfhanaaGreatDoor.QBo Go.Proofs.YtaonjmkfbfhanaaGreatDoor.Bk
set_option linter.unusedVariables false
theorem ww (i : Nat) (h : i < 4611686018427387904) : wrap64 ((i : Int) + 1) = ((i + 1 : Nat) : Int) := by unfold wrap64; omega
theorem bl_cons (a b : UInt8) (x y : List UInt8) : Op.bytesLess (a :: x) (b :: y) = true ↔ a.toNat < b.toNat ∨ a = b ∧ Op.bytesLess x y = true := by
  simp [Op.bytesLess, UInt8.lt_iff_toNat_lt]
theorem bl_total : ∀ x y : List UInt8, Op.bytesLess x y = true ∨ x = y ∨ Op.bytesLess y x = true
  | [], [] => .inr (.inl rfl)
  | [], _ :: _ => .inl rfl
  | _ :: _, [] => .inr (.inr rfl)
  | a :: x, b :: y => by
    rw [bl_cons, bl_cons]
    rcases Nat.lt_trichotomy a.toNat b.toNat with h | h | h
    · exact .inl (.inl h)
    · have e : a = b := UInt8.toNat_inj.1 h
      subst e
      rcases bl_total x y with h2 | h2 | h2
      · exact .inl (.inr ⟨rfl, h2⟩)
      · exact .inr (.inl (by rw [h2]))
      · exact .inr (.inr (.inr ⟨rfl, h2⟩))
    · exact .inr (.inr (.inl h))
theorem bl_irrefl : ∀ x : List UInt8, Op.bytesLess x x = false
  | [] => rfl
  | a :: x => by
    rw [Bool.eq_false_iff]
    intro h
    rcases (bl_cons a a x x).1 h with h | h
    · omega
    · rw [bl_irrefl x] at h; exact absurd h.2 (by decide)
theorem bl_trans : ∀ x y z : List UInt8, Op.bytesLess x y = true → Op.bytesLess y z = true → Op.bytesLess x z = true
  | [], y, [], h1, h2 => by cases y <;> simp [Op.bytesLess] at h1 h2
  | [], _, _ :: _, _, _ => rfl
  | _ :: _, [], _, h1, _ => by simp [Op.bytesLess] at h1
  | _ :: _, _ :: _, [], _, h2 => by simp [Op.bytesLess] at h2
  | a :: x, b :: y, c :: z, h1, h2 => by
    rw [bl_cons] at *
    rcases h1 with h1 | ⟨rfl, h1⟩
    · rcases h2 with h2 | ⟨rfl, h2⟩
      · exact .inl (by omega)
      · exact .inl h1
    · rcases h2 with h2 | ⟨rfl, h2⟩
      · exact .inl h2
      · exact .inr ⟨rfl, bl_trans x y z h1 h2⟩
theorem bl_asymm {x y : List UInt8} (h : Op.bytesLess x y = true) : Op.bytesLess y x = false := by
  rw [Bool.eq_false_iff]
  intro h2
  have := bl_trans x y x h h2
  rw [bl_irrefl] at this
  cases this
theorem leK_not (a b : ByteArray) : leK a b = !(Op.bytesLess b.toList a.toList) := by
  unfold leK
  rcases bl_total a.toList b.toList with h | h | h
  · rw [h, bl_asymm h]; rfl
  · rw [h, bl_irrefl]; simp
  · rw [h, bl_asymm h]
    have : (a.toList == b.toList) = false := by
      rw [beq_eq_false_iff_ne]
      intro e
      rw [e, bl_irrefl] at h
      cases h
    rw [this]; rfl
theorem toList_len (s : ByteArray) : s.toList.length = s.size := by rw [ByteArray.toList_eq]; exact Array.length_toList
theorem bt_get (s : ByteArray) (i : Nat) (h : i < s.toList.length) : bt s (i : Int) = ((s.toList[i]'h).toNat : Int) := by
  have h2 : i < s.size := by rw [← toList_len]; exact h
  unfold bt
  rw [dif_pos (by rw [Int.toNat_natCast]; exact h2)]
  congr 2
  simp only [Int.toNat_natCast, ByteArray.toList_eq, Array.getElem_toList]
  rfl
theorem below_ev (a b : ByteArray) (ha : a.size < 4611686018427387904) (d : Nat) : ∀ i : Nat, i + d = a.size → i ≤ b.size → Ev (fun k => screeref1_below.l0 k a b (i : Int)) (Op.bytesLess (a.toList.drop i) (b.toList.drop i)) := by
  have la := toList_len a
  have lb := toList_len b
  induction d with
  | zero =>
    intro i hi hb
    refine Ev.step (f := fun k => screeref1_below.j1 k a b (i : Int) false) (fun k => ?_) (Ev.step (f := fun _ => some (decide ((a.size : Int) < (b.size : Int)))) (fun k => ?_) ?_)
    · rw [screeref1_below.l0, if_neg (by omega)]
    · rw [screeref1_below.j1, if_neg (by decide)]
    · have e : Op.bytesLess (a.toList.drop i) (b.toList.drop i) = decide ((a.size : Int) < (b.size : Int)) := by
        rw [List.drop_of_length_le (l := a.toList) (by omega)]
        by_cases h : i < b.toList.length
        · rw [List.drop_eq_getElem_cons h, decide_eq_true (by omega)]; rfl
        · rw [List.drop_of_length_le (by omega), decide_eq_false (by omega)]; rfl
      rw [e]
      exact Ev.now _
  | succ d ih =>
    intro i hi hb
    have h1 : i < a.toList.length := by omega
    rw [List.drop_eq_getElem_cons h1]
    by_cases h : i < b.toList.length
    · rw [List.drop_eq_getElem_cons h]
      have e1 := bt_get a i h1
      have e2 := bt_get b i h
      by_cases he : a.toList[i] = b.toList[i]
      · have e : Op.bytesLess (a.toList[i] :: a.toList.drop (i + 1)) (b.toList[i] :: b.toList.drop (i + 1)) = Op.bytesLess (a.toList.drop (i + 1)) (b.toList.drop (i + 1)) := by
          rw [he]; simp [Op.bytesLess]
        rw [e]
        refine Ev.step (f := fun k => screeref1_below.j1 k a b (i : Int) true) (fun k => ?_) (Ev.step (fun k => ?_) (ih (i + 1) (by omega) (by omega)))
        · rw [screeref1_below.l0, if_pos (by omega), decide_eq_true (by omega)]
        · rw [screeref1_below.j1, if_pos rfl, if_pos (by omega), if_pos (by omega), if_pos (by omega), e1, e2, if_pos (by rw [he]), ww i (by omega)]
      · have hn : a.toList[i].toNat ≠ b.toList[i].toNat := fun e => he (UInt8.toNat_inj.1 e)
        have e : Op.bytesLess (a.toList[i] :: a.toList.drop (i + 1)) (b.toList[i] :: b.toList.drop (i + 1)) = decide ((a.toList[i].toNat : Int) < (b.toList[i].toNat : Int)) := by
          rw [Bool.eq_iff_iff, bl_cons, decide_eq_true_eq]
          constructor
          · rintro (h | h)
            · omega
            · exact absurd h.1 he
          · intro h; exact .inl (by omega)
        rw [e]
        refine Ev.step (f := fun k => screeref1_below.j1 k a b (i : Int) true) (fun k => ?_) (Ev.step (f := fun _ => some (decide ((a.toList[i].toNat : Int) < (b.toList[i].toNat : Int)))) (fun k => ?_) (Ev.now _))
        · rw [screeref1_below.l0, if_pos (by omega), decide_eq_true (by omega)]
        · rw [screeref1_below.j1, if_pos rfl, if_pos (by omega), if_pos (by omega), if_pos (by omega), e1, e2, if_neg (by omega)]
    · rw [List.drop_of_length_le (l := b.toList) (by omega)]
      refine Ev.step (f := fun k => screeref1_below.j1 k a b (i : Int) false) (fun k => ?_) (Ev.step (f := fun _ => some (decide ((a.size : Int) < (b.size : Int)))) (fun k => ?_) ?_)
      · rw [screeref1_below.l0, if_pos (by omega), decide_eq_false (by omega)]
      · rw [screeref1_below.j1, if_neg (by decide)]
      · rw [decide_eq_false (by omega)]; exact Ev.now _
theorem below_f (a b : ByteArray) (ha : a.size < 4611686018427387904) : Ev (fun k => screeref1_below.f k a b) (Op.bytesLess a.toList b.toList) := below_ev a b ha a.size 0 (by omega) (by omega)
theorem above_f (a b : ByteArray) (ha : a.size < 4611686018427387904) (hb : b.size < 4611686018427387904) : Ev (fun k => screeref9_Above.f k a b) (Op.bytesLess b.toList a.toList) := by
  have h1 := below_f a b ha
  have h2 := below_f b a hb
  unfold screeref9_Above.f screeref1_Compare.f
  cases e1 : Op.bytesLess a.toList b.toList with
  | true =>
    rw [e1] at h1
    rw [bl_asymm e1]
    refine Ev.bind (a := (-1 : Int)) (f := fun _ t => some (decide (t > 0))) (Ev.bind h1 ?_) ?_
    · exact Ev.now _
    · exact Ev.now _
  | false =>
    rw [e1] at h1
    cases e2 : Op.bytesLess b.toList a.toList with
    | true =>
      rw [e2] at h2
      refine Ev.bind (a := (1 : Int)) (f := fun _ t => some (decide (t > 0))) (Ev.bind h1 (Ev.bind h2 ?_)) ?_
      · exact Ev.now _
      · exact Ev.now _
    | false =>
      rw [e2] at h2
      refine Ev.bind (a := (0 : Int)) (f := fun _ t => some (decide (t > 0))) (Ev.bind h1 (Ev.bind h2 ?_)) ?_
      · exact Ev.now _
      · exact Ev.now _
def batchE (x : S108) : Int := if x.f0.size = 0 then 10 else if 64 < x.f0.size then 11 else if x.f1 = false ∧ 512 < x.f2.size then 12 else 0
theorem batch_f (x : S108) : Ev (fun k => screeref1_CheckBatch.f k [x]) (batchE x) := by
  refine Ev.congr (f := fun k => screeref1_CheckBatch.l0 k [x] 0) (fun k => by unfold screeref1_CheckBatch.f; exact if_neg (by simp)) ?_
  have hx : rd_T108 [x] 0 = x := rfl
  have h2 : Ev (fun k => screeref1_CheckBatch.l0 k [x] 1) 0 := by
    refine Ev.step (f := fun _ => some 0) (fun k => ?_) (Ev.now _)
    rw [screeref1_CheckBatch.l0, if_neg (by simp)]
  have w1 : wrap64 ((0 : Int) + 1) = 1 := by unfold wrap64; omega
  unfold batchE
  by_cases c0 : x.f0.size = 0
  · rw [if_pos c0]
    refine Ev.step (f := fun _ => some 10) (fun k => ?_) (Ev.now _)
    rw [screeref1_CheckBatch.l0, if_pos (by simp), if_pos (by decide), hx]
    unfold screeref1_Check.f
    rw [if_pos (by omega)]
    rfl
  · rw [if_neg c0]
    by_cases c1 : 64 < x.f0.size
    · rw [if_pos c1]
      refine Ev.step (f := fun _ => some 11) (fun k => ?_) (Ev.now _)
      rw [screeref1_CheckBatch.l0, if_pos (by simp), if_pos (by decide), hx]
      unfold screeref1_Check.f
      rw [if_neg (by omega), if_pos (by omega)]
      rfl
    · rw [if_neg c1]
      cases hd : x.f1 with
      | true =>
        rw [if_neg (by simp)]
        refine Ev.step (fun k => ?_) h2
        rw [screeref1_CheckBatch.l0, if_pos (by simp), if_pos (by decide), hx]
        unfold screeref1_Check.f
        rw [if_neg (by omega), if_neg (by omega), Option.bind_some, if_pos rfl, if_pos hd, w1]
      | false =>
        by_cases c2 : 512 < x.f2.size
        · rw [if_pos ⟨rfl, c2⟩]
          refine Ev.step (f := fun _ => some 12) (fun k => ?_) (Ev.now _)
          rw [screeref1_CheckBatch.l0, if_pos (by simp), if_pos (by decide), hx]
          unfold screeref1_Check.f
          rw [if_neg (by omega), if_neg (by omega), Option.bind_some, if_pos rfl, if_neg (by rw [hd]; decide), if_pos (by omega)]
        · rw [if_neg (fun h => c2 h.2)]
          refine Ev.step (fun k => ?_) h2
          rw [screeref1_CheckBatch.l0, if_pos (by simp), if_pos (by decide), hx]
          unfold screeref1_Check.f
          rw [if_neg (by omega), if_neg (by omega), Option.bind_some, if_pos rfl, if_neg (by rw [hd]; decide), if_neg (by omega), w1]
theorem nil_size (s : ByteArray) : s.toList = ([] : List UInt8) ↔ s.size = 0 := by
  rw [← toList_len]
  exact List.length_eq_zero_iff.symm
theorem fault_f (e : En) : Ev (fun k => screeref9_Fault.f k e.f0 e.f1 e.f2 e.f3) (wrongE e) := by
  have hb := batch_f (⟨e.f0, e.f2, e.f3⟩ : S108)
  unfold screeref9_Fault.f
  refine Ev.bind hb ?_
  unfold batchE wrongE
  simp only
  by_cases c0 : e.f0.size = 0
  · rw [if_pos c0, if_pos c0]
    exact Ev.now _
  · rw [if_neg c0, if_neg c0]
    by_cases c1 : 64 < e.f0.size
    · rw [if_pos c1, if_pos c1]
      exact Ev.now _
    · rw [if_neg c1, if_neg c1]
      by_cases c2 : e.f2 = false ∧ 512 < e.f3.size
      · rw [if_pos c2, if_pos c2]
        exact Ev.now _
      · rw [if_neg c2, if_neg c2, if_pos rfl]
        by_cases c3 : 72057594037927935 < e.f1
        · rw [if_pos c3, if_pos (.inl c3)]
          exact Ev.now _
        · rw [if_neg c3]
          by_cases c4 : e.f2 = true
          · rw [if_pos c4]
            by_cases c5 : e.f3.size = 0
            · rw [if_pos ((nil_size _).2 c5), if_neg (fun h => by
                rcases h with h | h
                · exact c3 h
                · exact h.2 c5)]
              exact Ev.now _
            · rw [if_neg (fun h => c5 ((nil_size _).1 h)), if_pos (.inr ⟨c4, c5⟩)]
              exact Ev.now _
          · rw [if_neg c4, if_neg (fun h => by
              rcases h with h | h
              · exact c3 h
              · exact c4 h.1)]
            exact Ev.now _
theorem adds_f (l : List En) (e : En) (m : Mk) (hn : m.n = l.length) (hl : m.last = lastK l) (hll : l.length < 4611686018427387904) (he : e.f0.size < 4611686018427387904) (hm : m.last.size < 4611686018427387904) : Ev (fun k => screeref9_Adds.f k l e.f0 e.f1 e.f2 e.f3) (addM m e).1 := by
  unfold screeref9_Adds.f
  refine Ev.bind (fault_f e) ?_
  unfold addM
  by_cases c0 : wrongE e = 0
  · rw [if_neg (c := wrongE e ≠ 0) (fun h => h c0)]
    simp only [if_pos c0]
    by_cases c1 : l.length = 0
    · simp only [if_neg (show ¬ (l.length : Int) > 0 by omega)]
      rw [if_neg (by rw [hn]; omega), c0]
      exact Ev.now _
    · have hw : wrap64 ((l.length : Int) - 1) = ((l.length - 1 : Nat) : Int) := by unfold wrap64; omega
      simp only [hw, if_pos (show (l.length : Int) > 0 by omega), if_pos (show (0 : Int) ≤ ((l.length - 1 : Nat) : Int) by omega), if_pos (show ((l.length - 1 : Nat) : Int) < (l.length : Int) by omega)]
      have hk : (rd_T53 l ((l.length - 1 : Nat) : Int)).f0 = m.last := by rw [hl]; unfold lastK; rw [if_neg c1]
      simp only [hk]
      have ha := above_f e.f0 m.last he hm
      refine Ev.bind ha ?_
      cases hb : Op.bytesLess m.last.toList e.f0.toList with
      | true =>
        rw [if_pos rfl, if_neg (fun h => by have z := h.2; rw [leK_not, hb] at z; cases z), c0]
        exact Ev.now _
      | false =>
        rw [if_neg (by decide), if_pos ⟨by omega, by rw [leK_not, hb]; rfl⟩]
        exact Ev.now _
  · rw [if_pos (c := wrongE e ≠ 0) c0]
    simp only [if_neg c0]
    exact Ev.now _
theorem lcp_comm (a : List Int) : ∀ b, lcp a b = lcp b a := by
  induction a with
  | nil => intro b; cases b <;> rfl
  | cons x a ih =>
    intro b
    cases b with
    | nil => rfl
    | cons y b =>
      unfold lcp
      by_cases h : x = y
      · rw [if_pos h, if_pos h.symm, ih b]
      · rw [if_neg h, if_neg (fun e => h e.symm)]
theorem bytesOf_bt (s : ByteArray) (i : Nat) (h : i < s.size) : ∃ h2 : i < (bytesOf s).length, (bytesOf s)[i] = bt s (i : Int) := by
  have h2 : i < (bytesOf s).length := by rw [bytesOf_length]; exact h
  refine ⟨h2, ?_⟩
  have hg := bytesOf_get s i h
  rw [List.getElem?_eq_getElem h2] at hg
  exact Option.some.inj hg
theorem shared_ev (a b : ByteArray) (ha : a.size < 4611686018427387904) (d : Nat) : ∀ i : Nat, i + d = a.size → i ≤ b.size → Ev (fun k => screeref9_shared.l0 k a b (i : Int)) (((i + lcp ((bytesOf a).drop i) ((bytesOf b).drop i) : Nat)) : Int) := by
  have la := bytesOf_length a
  have lb := bytesOf_length b
  induction d with
  | zero =>
    intro i hi hb
    refine Ev.step (f := fun _ => some (i : Int)) (fun k => ?_) ?_
    · rw [screeref9_shared.l0, if_neg (by omega)]
    · rw [List.drop_of_length_le (l := bytesOf a) (by omega)]
      exact Ev.now _
  | succ d ih =>
    intro i hi hb
    obtain ⟨h1, e1⟩ := bytesOf_bt a i (by omega)
    rw [List.drop_eq_getElem_cons h1]
    by_cases h : i < b.size
    · obtain ⟨h2, e2⟩ := bytesOf_bt b i h
      rw [List.drop_eq_getElem_cons h2, e1, e2]
      unfold lcp
      by_cases he : bt a (i : Int) = bt b (i : Int)
      · rw [if_pos he]
        have := ih (i + 1) (by omega) (by omega)
        rw [show i + 1 + lcp ((bytesOf a).drop (i + 1)) ((bytesOf b).drop (i + 1)) = i + (lcp ((bytesOf a).drop (i + 1)) ((bytesOf b).drop (i + 1)) + 1) by omega] at this
        refine Ev.step (fun k => ?_) this
        rw [screeref9_shared.l0, if_pos (by omega), if_pos (by omega), if_pos (by omega), if_pos he, ww i (by omega)]
      · rw [if_neg he]
        refine Ev.step (f := fun _ => some (i : Int)) (fun k => ?_) (Ev.now _)
        rw [screeref9_shared.l0, if_pos (by omega), if_pos (by omega), if_pos (by omega), if_neg he]
    · rw [List.drop_of_length_le (l := bytesOf b) (by omega)]
      refine Ev.step (f := fun _ => some (i : Int)) (fun k => ?_) (Ev.now _)
      rw [screeref9_shared.l0, if_pos (by omega), if_neg (by omega)]
theorem shared_f (a b : ByteArray) (ha : a.size < 4611686018427387904) : Ev (fun k => screeref9_shared.f k a b) ((lcp (bytesOf a) (bytesOf b) : Nat) : Int) := by
  have := shared_ev a b ha a.size 0 (by omega) (by omega)
  rw [List.drop_zero, List.drop_zero, Nat.zero_add] at this
  exact this
end Go.Proofs.YtaonjmkfbfhanaaGreatDoor.Rf
namespace Go.Proofs.YtaonjmkfbfhanaaGreatDoor.Bk
open Go.RowKit Go.Proofs.YtaonjmkfbfhanaaGreatDoorW.PrintWords Go.Proofs.YtaonjmkfbfhanaaGreatDoor.Own Go.Proofs.YtaonjmkfbfhanaaGreatDoor.G Go.Proofs.YtaonjmkfbfhanaaGreatDoor.Wk Go.Lib
set_option linter.unusedVariables false
theorem append_str_at {P : Program} (w : World) (base : Nat) (t u ty e : TypeId) (i : TypeInfo) (ht : P.underlying t = some (.slice e)) (hu : P.underlying u = some .string) (hi : P.info? e = some i) (hz : i.zero = some (.int .u8 0))
    (hsize : i.size = 1) (hby : i.bytes = 1)
    (v : Value) (n : Nat) (xs : List Value) (hown : w.ownsRow base e 1 v n xs) (s : ByteArray)
    (h63 : n + s.size ≤ maxLen) (hbytes : n + s.size ≤ 140737488355328) (hbase : base ≤ w.heap.size) :
    ∃ v' w', (Builtin.append_ #[t, u] ty #[v, .string s]).run P w = .ok v' w' ∧ w'.ownsRow base e 1 v' (n + s.size) (xs ++ strCells s) ∧ w.grownBy w' v.ownBlock ∧
      (v'.ownBlock = v.ownBlock ∨ ∃ b, v'.ownBlock = some b ∧ w.heap.size ≤ b) := by
  obtain ⟨v', w', h1, h2, h3, h4⟩ := run_append_own_string (P := P) w base t u ty e i ht hu hi hz hsize hby v n xs hown s h63 hbytes hbase
  refine ⟨v', w', h1, h2, h3, ?_⟩
  have hsmall : n + s.size ≤ 9223372036854775807 := by simp only [maxLen] at h63; omega
  have hxl : xs.length = n := by simpa using hown.1
  rcases hown.2 with ⟨rfl, rfl⟩ | ⟨g, cap, cur, rfl, hbg, hg, hnc, hcm, hcs, htake⟩
  · by_cases hm : s.size = 0
    · rw [h4.2 ⟨rfl, hm⟩]
      exact .inl rfl
    · have hr := run_append_nil_string (P := P) w t u ty e i (.int .u8 0) ht hu hi hz s (by omega) (by omega) (by rw [hby]; omega)
      rw [hr] at h1
      injection h1 with e1 e2
      subst e1
      exact .inr ⟨_, rfl, Nat.le_refl _⟩
  · by_cases hroom : n + s.size ≤ cap
    · have hcs' : cur.size = cap := by simpa using hcs
      have hr := run_append_room_string (P := P) w t u ty e i ht hu hi hsize g n cap cur hg s hroom (by omega)
      rw [hr] at h1
      injection h1 with e1 e2
      subst e1
      exact .inl rfl
    · have holds : ∀ j u, xs[j]? = some u → w.cell? ((⟨g, 0, none⟩ : Addr).add j) = some u := hown.cells (g := g) rfl
      have hr := run_append_grow_string (P := P) w t u ty e i (.int .u8 0) ht hu hi hz ⟨g, 0, none⟩ n cap xs (by rw [hsize]; simpa using hxl) holds s (by omega) (by omega) (by rw [hby]; exact growslice_fits (by omega) (by omega))
      rw [hr] at h1
      injection h1 with e1 e2
      subst e1
      exact .inr ⟨_, rfl, Nat.le_refl _⟩
section
variable {P : Program} {ops : Array Oper} {o : Oper} {a : Act} {Q : Exit → Act → World → Prop} {K : Act → World → Prop}
/-- append(v, s...), s a text, as one step of a region that draws its order. -/
theorem step_append_str {w0 W : World} (base : Nat) (hw : Region.wanted o (yielded ops a.tmps) = true) (s x : Operand) (t u e : TypeId)
    (ho : o.op = .call { callee := .builtin .append, args := #[s, x], argTypes := #[t, u] })
    (ht : P.underlying t = some (.slice e)) (hu : P.underlying u = some .string) (hinfo : (P.info? e).map (fun i => (i.zero, i.size, i.bytes)) = some (some (.int .u8 0), 1, 1))
    (v : Value) (xs : List Int) (y : ByteArray) (hs : a.eval s = v) (hx : a.eval x = .string y)
    (HO : u8.R e W base (fun _ => True) v xs) (HB : Below base w0 W) (hbase : base ≤ W.heap.size) (hl : xs.length + y.size ≤ 140737488355328)
    (h : ∀ v1 w1, u8.R e w1 base (fun _ => True) v1 (xs ++ bytesOf y) → Below base w0 w1 → W.grownBy w1 v.ownBlock → (v1.ownBlock = v.ownBlock ∨ ∃ b, v1.ownBlock = some b ∧ W.heap.size ≤ b) → K (a.put o.dst v1) w1) :
    if Region.wanted o (yielded ops a.tmps) = true then Oper.wp P o a W K Q else K (a.put o.dst undef) W := by
  obtain ⟨i0, hi, hzz⟩ := Option.map_eq_some_iff.1 hinfo
  simp only [Prod.mk.injEq] at hzz
  obtain ⟨hz0, hz1, hz2⟩ := hzz
  rw [if_pos hw]
  have hown := Kd.own_of_R (enc := Value.int .u8) (h1 := fun _ => rfl) HO
  obtain ⟨v1, w1, hr, ho1, hg, hat⟩ := append_str_at (P := P) W base t u o.type e i0 ht hu hi hz0 hz1 hz2 v xs.length _ hown y (by simp only [maxLen]; omega) hl hbase
  unfold Oper.wp execOp
  simp only [ho, resolve, invoke, builtin, Sem.run_bind, Sem.run_pure, Result.andThen_ok, List.map_toArray, List.map_cons, List.map_nil, hs, hx, hr]
  refine h v1 w1 (Kd.R_of_own (enc := Value.int .u8) (h1 := fun _ => rfl) ?_ (fun _ _ => trivial)) (HB.grown hg hbase (fun k hk => own_base hown k hk)) hg hat
  have hl2 : (xs ++ bytesOf y).length = xs.length + y.size := by rw [List.length_append, bytesOf_length]
  have hc : encs (Value.int .u8) (xs ++ bytesOf y) = encs (Value.int .u8) xs ++ strCells y := by
    simp [encs, strCells, bytesOf, List.map_map, Function.comp]
  rw [hl2, hc]
  exact ho1
end
end Go.Proofs.YtaonjmkfbfhanaaGreatDoor.Bk
namespace Go.Proofs.YtaonjmkfbfhanaaGreatDoor.Bk
open Go.RowKit Go.Proofs.YtaonjmkfbfhanaaGreatDoorW.PrintWords Go.Proofs.YtaonjmkfbfhanaaGreatDoor.Own Go.Proofs.YtaonjmkfbfhanaaGreatDoor.G Go.Proofs.YtaonjmkfbfhanaaGreatDoor.Wk Go.Proofs.YtaonjmkfbfhanaaGreatDoor.QBo
set_option linter.unusedVariables false
theorem toList_nil {s : ByteArray} : s.toList = ([] : List UInt8) ↔ s.size = 0 := by
  rw [ByteArray.toList_eq]
  constructor
  · intro h
    have : s.data.toList.length = s.size := Array.length_toList
    rw [h] at this
    exact this.symm
  · intro h
    exact List.eq_nil_of_length_eq_zero (Array.length_toList.trans h)
theorem batch_one (a : ByteArray) (d : Bool) (v : ByteArray) : ikey_CheckBatch.f 2 [(⟨a, d, v⟩ : S108)] = some (if a.size = 0 then 10 else if 64 < a.size then 11 else if d = false ∧ 512 < v.size then 12 else 0) := by
  have hrd : rd_T108 [(⟨a, d, v⟩ : S108)] 0 = ⟨a, d, v⟩ := rfl
  have e0 : ikey_CheckBatch.l0 1 [(⟨a, d, v⟩ : S108)] 1 1 = some 0 := by rw [ikey_CheckBatch.l0, if_neg (by decide)]
  have e1 : wrap64 (0 + 1) = 1 := by unfold wrap64; omega
  unfold ikey_CheckBatch.f
  rw [List.length_singleton, if_neg (by decide), show ((1 : Nat) : Int) = 1 from rfl, ikey_CheckBatch.l0, if_pos (by decide), if_pos (by decide), if_pos (by simp), hrd]
  simp only [e1, e0]
  unfold ikey_Check.f
  by_cases h0 : a.size = 0
  · rw [if_pos (toList_nil.2 h0), if_pos h0]; rfl
  · rw [if_neg (fun h => h0 (toList_nil.1 h)), if_neg h0]
    by_cases h1 : 64 < a.size
    · rw [if_pos (show (a.size : Int) > 64 by omega), if_pos h1]; rfl
    · rw [if_neg (show ¬ (a.size : Int) > 64 by omega), if_neg h1]
      cases d with
      | true => simp
      | false =>
        by_cases h2 : 512 < v.size
        · simp [h2]; omega
        · simp [h2]; omega
theorem writable_calls (e : En) (w : World) : Calls Tryz.prog 24 #[.agg #[.string e.f0, .int .u64 e.f1, .bool e.f2, .string e.f3]] w fun r w' => r = .returned (.int .i64 (wrongE e)) ∧ Below w.heap.size w w' := by
  refine block_writable.calls 2 e.f0 e.f1 e.f2 e.f3 _ w ?_
  unfold block_writable.f wrongE
  rw [batch_one, Option.bind_some]
  by_cases h0 : e.f0.size = 0
  · rw [if_pos h0, if_pos h0]; rfl
  · rw [if_neg h0, if_neg h0]
    by_cases h1 : 64 < e.f0.size
    · rw [if_pos h1, if_pos h1]; rfl
    · rw [if_neg h1, if_neg h1]
      by_cases h2 : e.f2 = false ∧ 512 < e.f3.size
      · rw [if_pos h2, if_pos h2]; rfl
      · rw [if_neg h2, if_neg h2, if_pos rfl]
        by_cases h3 : 72057594037927935 < e.f1
        · rw [if_pos h3, if_pos (.inl h3)]
        · rw [if_neg h3]
          by_cases h4 : e.f2 = true
          · by_cases h5 : e.f3.size = 0
            · rw [if_pos h4, if_pos (toList_nil.2 h5), if_neg (fun h => by rcases h with h | ⟨_, h⟩; exact h3 h; exact h h5)]
            · rw [if_pos h4, if_neg (fun h => h5 (toList_nil.1 h)), if_pos (.inr ⟨h4, h5⟩)]
          · rw [if_neg h4, if_neg (fun h => by rcases h with h | ⟨h, _⟩; exact h3 h; exact h4 h)]
theorem bytes_cons (a : ByteArray) (i : Nat) (h : i < a.size) : (bytesOf a).drop i = bt a (i : Int) :: (bytesOf a).drop (i + 1) := by
  have hl : i < (bytesOf a).length := by rw [bytesOf_length]; exact h
  rw [List.drop_eq_getElem_cons hl, ← rd_bytesOf]
  congr 1
  simp [rd, List.getD_eq_getElem?_getD, hl]
theorem bytes_end (a : ByteArray) (i : Nat) (h : a.size ≤ i) : (bytesOf a).drop i = [] := List.drop_of_length_le (by rw [bytesOf_length]; exact h)
theorem lcp_nil (a : List Int) : lcp a [] = 0 := by cases a <;> rfl
theorem putUint_calls (n : Nat) (hn : n < 18446744073709551616) (w : World) : Calls Tryz.prog 25 #[.slice none 0 0, .int .u64 (n : Int)] w (Made u8 5 w (numL n)) :=
  (codec_PutUint.calls none 0 [] (n : Int) (numL n) w (Kd.C_nil _ _) (Nat.le_refl _) (by unfold codec_PutUint.f; rw [if_pos ⟨by omega, by omega, by simp⟩]; simp)).mono fun _ _ h => Made.of h
theorem putText_calls (s : ByteArray) (hs : s.size ≤ 1000000) (w : World) : Calls Tryz.prog 26 #[.slice none 0 0, .string s] w (Made u8 5 w (txL s)) :=
  (codec_PutText.calls none 0 [] s (txL s) w (Kd.C_nil _ _) (Nat.le_refl _) (by unfold codec_PutText.f; rw [if_pos (by simp; omega)]; rfl)).mono fun _ _ h => Made.of h
/-- The code from a region on. -/
def tailAt (n : Nat) : Code → Option Code
  | .seq a b => match a with
    | .region i ops d => if i = n then some (.seq (.region i ops d) b) else tailAt n b
    | a => match tailAt n a with
      | some c => some c
      | none => tailAt n b
  | _ => none
noncomputable def tailC (n : Nat) : Code := ((Tryz.f10.body.bind (tailAt n)).getD .skip)
end Go.Proofs.YtaonjmkfbfhanaaGreatDoor.Bk
namespace Go.Proofs.YtaonjmkfbfhanaaGreatDoor.Bk
open Go.RowKit Go.Proofs.YtaonjmkfbfhanaaGreatDoorW.PrintWords Go.Proofs.YtaonjmkfbfhanaaGreatDoor.Own Go.Proofs.YtaonjmkfbfhanaaGreatDoor.G Go.Proofs.YtaonjmkfbfhanaaGreatDoor.Wk Go.Proofs.YtaonjmkfbfhanaaGreatDoor.QBo
set_option linter.unusedVariables false
set_option maxHeartbeats 8000000 in
set_option maxRecDepth 100000 in
theorem add_c {w wc : World} {base g h : Nat} {m : Mk} {e : En} {F : Nat → Prop} {places' : List Nat} {sh mk : Nat} {dl : Bool} {D3 : List Int} (u8 u9 u10 u11 u12 u13 u14 u15 u16 u17 u18 u19 u20 u21 u22 u23 u24 u25 u26 u27 u28 u29 u30 u31 u32 u33 u34 u35 u36 u37 u38 u39 u40 u41 u42 u43 u44 u45 u46 u47 u48 u49 u50 u51 u52 u53 u54 u55 u56 u57 u58 u59 u60 u61 u62 u63 u64 u65 u66 u67 u68 u69 u70 u71 u72 u73 u74 u75 u76 u77 u78 u79 u80 u81 u82 u83 u84 u85 u86 u87 u88 u89 u90 u91 u92 u93 u94 u95 u96 u97 u98 u99 u100 u101 u102 u103 u104 u105 u106 u107 u108 u109 u110 u111 u112 u113 u114 u115 u116 u117 u118 u119 u120 u121 u122 u123 u124 u125 u126 u127 u128 u129 u130 u131 u132 u133 u134 u135 u136 u137 u138 u139 u140 u141 u142 u143 u144 u145 u146 u147 u148 u149 u150 u151 u152 u153 u154 u155 u156 u157 u158 u159 u160 : Value) (HS7 : Aside0 (MkS w wc base g F ⟨m.rs, D3, places', m.n, m.last⟩)) (HX7 : Aside0 (wc.heap[h]? = some (.cells #[.string e.f0, .int .u64 e.f1, .bool e.f2, .string e.f3] 53 (0, 0)))) (HSH : Aside0 (sharedM m e = sh)) (HPL : Aside0 ((if m.n % m.rs = 0 then m.places ++ [m.data.length] else m.places) = places')) (HDL : Aside0 (e.f2 = dl)) (HE : Aside0 (addM m e = (0, pushM m e))) (hsl : sh ≤ e.f0.size) (h1 : 1 ≤ e.f0.size) (h2 : e.f0.size ≤ 64) (h5 : e.f2 = false → e.f3.size ≤ 512) (hn : m.n ≤ 1099511627776) (HMK : Aside0 (markE e = mk)) (HD3s : Aside0 (m.data ++ (numL sh ++ (numL (e.f0.size - sh) ++ numL mk)) = D3)) (hl3 : D3.length ≤ 1099511627776 + 30) :
    Code.wp Tryz.prog (tailC 17) (bodyPost Tryz.prog Tryz.f10 fun en w' => en = .returned (.int .i64 (addM m e).1) ∧ MkS w w' base g F (addM m e).2) ⟨#[.pointer (some ⟨g, 0, none⟩), .agg #[.string e.f0, .int .u64 e.f1, .bool e.f2, .string e.f3], undef, .pointer (some ⟨h, 0, none⟩), .int .i64 0, .int .i64 0, .int .i64 (sh : Int), .int .u64 (mk : Int), u8, u9, u10, u11, u12, u13, u14, u15, u16, u17, u18, u19, u20, u21, u22, u23, u24, u25, u26, u27, u28, u29, u30, u31, u32, u33, u34, u35, u36, u37, u38, u39, u40, u41, u42, u43, u44, u45, u46, u47, u48, u49, u50, u51, u52, u53, u54, u55, u56, u57, u58, u59, u60, u61, u62, u63, u64, u65, u66, u67, u68, u69, u70, u71, u72, u73, u74, u75, u76, u77, u78, u79, u80, u81, u82, u83, u84, u85, u86, u87, u88, u89, u90, u91, u92, u93, u94, u95, u96, u97, u98, u99, u100, u101, u102, u103, u104, u105, u106, u107, u108, u109, u110, u111, u112, u113, u114, u115, u116, u117, u118, u119, u120, u121, u122, u123, u124, u125, u126, u127, u128, u129, u130, u131, u132, u133, u134, u135, u136, u137, u138, u139, u140, u141, u142, u143, u144, u145, u146, u147, u148, u149, u150, u151, u152, u153, u154, u155, u156, u157, u158, u159, u160], []⟩ wc := by
  conv => arg 2; whnf
  obtain ⟨D4, hD4⟩ : ∃ D, D3 ++ (bytesOf e.f0).drop sh = D := ⟨_, rfl⟩
  have HD4 := Aside0.mk hD4
  have hl4 : D4.length ≤ 1099511627776 + 100 := by rw [← hD4, List.length_append, List.length_drop, bytesOf_length]; omega
  clear hD4
  go_wp2_with fail
  go_upto_region 17 with fail
  go_cut [] (fun wx => Aside0 (MkS w wx base g F ⟨m.rs, D4, places', m.n, m.last⟩) ∧ Aside0 (wx.heap[h]? = some (.cells #[.string e.f0, .int .u64 e.f1, .bool e.f2, .string e.f3] 53 (0, 0))))
  case first =>
    obtain ⟨u1, u2, hM, hR⟩ := HS7.out.open_
    obtain ⟨A1, q1, e1⟩ := Kd.R_slice hM.2.2.1
    subst e1
    have c1 : wc.cell? ⟨g, 1, none⟩ = some (.slice A1 D3.length q1) := by rw [blk_cell hM.1]; rfl
    have HMd := Aside0.mk (hM.below (below_drew (Below.refl _ wc)))
    have HRd := Aside0.mk hR.drew
    have HBd : Aside0 (base ≤ wc.drew.heap.size) := ⟨HS7.out.bs⟩
    have HXd : Aside0 (wc.drew.heap[h]? = some (.cells #[.string e.f0, .int .u64 e.f1, .bool e.f2, .string e.f3] 53 (0, 0))) := ⟨HX7.out⟩
    have x0 : wc.cell? ⟨h, 0, none⟩ = some (.string e.f0) := by rw [blk_cell HX7.out]; rfl
    have HY : Aside0 (bytesOf (e.f0.extract sh e.f0.size) = (bytesOf e.f0).drop sh) := ⟨by rw [bytesOf_extract, List.take_of_length_le (by rw [bytesOf_length]; omega)]⟩
    have PL : Aside0 (D3.length + (e.f0.extract sh e.f0.size).size ≤ 140737488355328) := ⟨by rw [ByteArray.size_extract]; omega⟩
    clear hM hR
    go_region_law (refine step_append_str (w0 := w) base (by rfl) (.tmp 127) (.tmp 131) 57 9 5 rfl Tryz.underlying57 Tryz.underlying9 infoU _ D3 (e.f0.extract sh e.f0.size) (by rfl) (by rfl) HMd.out.2.2.1 HRd.out.1 HBd.out PL.out ?_; intro v W3 ho hb hg hat; rw [HY.out, HD4.out] at ho; (obtain ⟨Av, qv, ev⟩ := Kd.R_slice ho); subst ev; (have HP := Aside0.mk (MkS.put HMd.out HRd.out ho hg hat)); (have hgr := blk_grown HMd.out.1 hg (Kd.R_ne HMd.out.2.2.1 HMd.out.1 (by decide))); (have f3 := blk_frozen hgr 1); (have c3 : W3.cell? ⟨g, 1, none⟩ = some (.slice A1 D3.length q1) := by rw [blk_cell hgr]; rfl); clear ho hb hg hat hgr)
    all_goals (try (go_wp2_with fail))
    all_goals (go_meet; case rel => exact ⟨⟨HP.out.1⟩, ⟨HP.out.2 _ _ _ HXd.out (by decide) (by decide) (by decide)⟩⟩)
  case rest =>
    obtain ⟨HS8, HX8⟩ := hcut
    clear HS7 HX7
    have x2 : wc.cell? ⟨h, 2, none⟩ = some (.bool dl) := by rw [blk_cell HX8.out, ← HDL.out]; rfl
    obtain ⟨D5, hD5⟩ : ∃ D, D4 ++ (if dl = true then [] else txL e.f3) = D := ⟨_, rfl⟩
    have HD5 := Aside0.mk hD5
    clear hD5
    go_upto_if 137 with fail
    go_cut [] (fun wx => Aside0 (MkS w wx base g F ⟨m.rs, D5, places', m.n, m.last⟩) ∧ Aside0 (wx.heap[h]? = some (.cells #[.string e.f0, .int .u64 e.f1, .bool e.f2, .string e.f3] 53 (0, 0))))
    case first =>
      cases dl with
      | true =>
        have HE5 : Aside0 (D5 = D4) := ⟨by rw [← HD5.out, if_pos rfl, List.append_nil]⟩
        go_wp2_with fail
        go_meet
        case rel => exact ⟨⟨by rw [HE5.out]; exact HS8.out⟩, HX8⟩
      | false =>
        have HE5 : Aside0 (D4 ++ txL e.f3 = D5) := ⟨by rw [← HD5.out, if_neg (by decide)]⟩
        have hf3 := h5 HDL.out
        go_wp2_with fail
        obtain ⟨u1, u2, hM, hR⟩ := HS8.out.open_
        obtain ⟨A1, q1, e1⟩ := Kd.R_slice hM.2.2.1
        subst e1
        have c1 : wc.cell? ⟨g, 1, none⟩ = some (.slice A1 D4.length q1) := by rw [blk_cell hM.1]; rfl
        have HMd := Aside0.mk (hM.below (below_drew (Below.refl _ wc)))
        have HRd := Aside0.mk hR.drew
        have HBd : Aside0 (base ≤ wc.drew.heap.size) := ⟨HS8.out.bs⟩
        have HXd : Aside0 (wc.drew.heap[h]? = some (.cells #[.string e.f0, .int .u64 e.f1, .bool e.f2, .string e.f3] 53 (0, 0))) := ⟨HX8.out⟩
        have HNL : Aside0 ((txL e.f3).length ≤ 1000) := ⟨by unfold txL; rw [List.length_append, bytesOf_length]; have z := numL_len10 (n := e.f3.size) (by omega); omega⟩
        have x0 : wc.cell? ⟨h, 3, none⟩ = some (.string e.f3) := by rw [blk_cell HX8.out]; rfl
        clear hM hR
        go_region_law (first | (refine Kd.R_append_rows_step (Kd.int .u8) (w0 := w) base (by rfl) (.tmp 142) (.tmp 145) 57 5 (.int .u8 0) 1 rfl Tryz.underlying57 infoU rfl (by decide) (by omega) _ D4 l3 _ _ _ (fun _ => True) (fun _ => False) (by rfl) (by rfl) HM2.out.2.2.1 HD3.out.2.2 (fun _ _ h => h) (fun _ h => h.elim) (fun _ _ => trivial) HR2.out.1 HB2.out PL2.out ?_; intro v W3 ho hb hg hat; rw [HL3.out, HE5.out] at ho; (obtain ⟨Av, qv, ev⟩ := Kd.R_slice ho); subst ev; (have HP := Aside0.mk (MkS.put HM2.out HR2.out ho hg hat)); (have hgr := blk_grown HM2.out.1 hg (Kd.R_ne HM2.out.2.2.1 HM2.out.1 (by decide))); (have f3 := blk_frozen hgr 1); (have c3 : W3.cell? ⟨g, 1, none⟩ = some (.slice A1 D4.length q1) := by rw [blk_cell hgr]; rfl); clear ho hb hg hat hgr) | (go_simp; go_at_call 26; go_must (refine (putText_calls e.f3 (by omega) _).mono ?_); rintro en W2 ⟨A3, n3, c3, l3, rfl, hl3, hd3, ho3, hb3⟩; (have hM2 := HMd.out.below hb3); (have c2 : W2.cell? ⟨g, 1, none⟩ = some (.slice A1 D4.length q1) := by rw [blk_cell hM2.1]; rfl); (have HM2 := Aside0.mk hM2); (have HR2 := Aside0.mk (HRd.out.below hb3 HBd.out)); (have HB2 : Aside0 (base ≤ W2.heap.size) := ⟨Nat.le_trans HBd.out hb3.size⟩); (have HX2 := Aside0.mk ((hb3.block _ (blk_lt HXd.out)).trans HXd.out)); (have HD3 := Aside0.mk hd3); (have HL3 := Aside0.mk hl3); (have PL2 : Aside0 ((D4.length + n3) * 1 ≤ 140737488355328) := ⟨by have z1 := hd3.1; have z2 := HNL.out; rw [hl3] at z1; omega⟩); clear hM2 hb3 hd3 hl3 ho3))
        all_goals (try (go_wp2_with fail))
        all_goals (go_meet; case rel => exact ⟨⟨HP.out.1⟩, ⟨HP.out.2 _ _ _ HX2.out (by decide) (by decide) (by decide)⟩⟩)
    case rest =>
      obtain ⟨HS9, HX9⟩ := hcut
      obtain ⟨u1, u2, hM, -⟩ := HS9.out.open_
      have c3 : wc.cell? ⟨g, 3, none⟩ = some (.int .i64 (m.n : Int)) := by rw [blk_cell hM.1]; rfl
      have c4 : wc.cell? ⟨g, 4, none⟩ = some (.string m.last) := by rw [blk_cell hM.1]; rfl
      have f3 := blk_frozen hM.1 3
      have f4 := blk_frozen hM.1 4
      have HNe : Aside0 (h ≠ g) := ⟨by rintro rfl; have z := HX9.out; rw [hM.1] at z; injection z with z; injection z with _ z; exact absurd z (by decide)⟩
      have hne := HNe.out
      have hne' : g ≠ h := Ne.symm hne
      have x0 : wc.cell? ⟨h, 0, none⟩ = some (.string e.f0) := by rw [blk_cell HX9.out]; rfl
      clear hM
      go_wp2_with fail
      go_ret
      rw [HE.out]
      refine ⟨rfl, ?_⟩
      have hfin : pushM m e = ⟨m.rs, D5, places', m.n + 1, e.f0⟩ := by
        unfold pushM
        rw [HSH.out, HPL.out, ← HD5.out, ← HD4.out, ← HD3s.out]
        unfold encE
        rw [HMK.out, HDL.out]
        simp only [List.append_assoc]
      have hdone := MkS.done HS9.out (m.n + 1) e.f0
      rw [show (pushM m e) = _ from hfin]
      exact hdone
end Go.Proofs.YtaonjmkfbfhanaaGreatDoor.Bk
namespace Go.Proofs.YtaonjmkfbfhanaaGreatDoor.Bk
open Go.RowKit Go.Proofs.YtaonjmkfbfhanaaGreatDoorW.PrintWords Go.Proofs.YtaonjmkfbfhanaaGreatDoor.Own Go.Proofs.YtaonjmkfbfhanaaGreatDoor.G Go.Proofs.YtaonjmkfbfhanaaGreatDoor.Wk Go.Proofs.YtaonjmkfbfhanaaGreatDoor.QBo
set_option linter.unusedVariables false
set_option maxHeartbeats 8000000 in
set_option maxRecDepth 100000 in
theorem add_b {w wc : World} {base g h : Nat} {m : Mk} {e : En} {F : Nat → Prop} {places' : List Nat} {sh : Nat} {dl : Bool} (u8 u9 u10 u11 u12 u13 u14 u15 u16 u17 u18 u19 u20 u21 u22 u23 u24 u25 u26 u27 u28 u29 u30 u31 u32 u33 u34 u35 u36 u37 u38 u39 u40 u41 u42 u43 u44 u45 u46 u47 u48 u49 u50 u51 u52 u53 u54 u55 u56 u57 u58 u59 u60 u61 u62 u63 u64 u65 u66 u67 u68 u69 u70 u71 u72 u73 u74 u75 u76 u77 u78 u79 u80 u81 u82 u83 u84 u85 u86 u87 u88 u89 u90 u91 u92 u93 u94 u95 u96 u97 u98 u99 u100 u101 u102 u103 u104 u105 u106 u107 u108 u109 u110 u111 u112 u113 u114 u115 u116 u117 u118 u119 u120 u121 u122 u123 u124 u125 u126 u127 u128 u129 u130 u131 u132 u133 u134 u135 u136 u137 u138 u139 u140 u141 u142 u143 u144 u145 u146 u147 u148 u149 u150 u151 u152 u153 u154 u155 u156 u157 u158 u159 u160 : Value) (HS4 : Aside0 (MkS w wc base g F ⟨m.rs, m.data, places', m.n, m.last⟩)) (HX4 : Aside0 (wc.heap[h]? = some (.cells #[.string e.f0, .int .u64 e.f1, .bool e.f2, .string e.f3] 53 (0, 0)))) (HSH : Aside0 (sharedM m e = sh)) (HPL : Aside0 ((if m.n % m.rs = 0 then m.places ++ [m.data.length] else m.places) = places')) (HDL : Aside0 (e.f2 = dl)) (HE : Aside0 (addM m e = (0, pushM m e))) (hsl : sh ≤ e.f0.size) (h1 : 1 ≤ e.f0.size) (h2 : e.f0.size ≤ 64) (h5 : e.f2 = false → e.f3.size ≤ 512) (hn : m.n ≤ 1099511627776) (hd : m.data.length ≤ 1099511627776) (HQ : Aside0 (0 ≤ e.f1 ∧ e.f1 ≤ 72057594037927935)) :
    Code.wp Tryz.prog (tailC 14) (bodyPost Tryz.prog Tryz.f10 fun en w' => en = .returned (.int .i64 (addM m e).1) ∧ MkS w w' base g F (addM m e).2) ⟨#[.pointer (some ⟨g, 0, none⟩), .agg #[.string e.f0, .int .u64 e.f1, .bool e.f2, .string e.f3], undef, .pointer (some ⟨h, 0, none⟩), .int .i64 0, .int .i64 0, .int .i64 (sh : Int), .int .u64 (markE e : Int), u8, u9, u10, u11, u12, u13, u14, u15, u16, u17, u18, u19, u20, u21, u22, u23, u24, u25, u26, u27, u28, u29, u30, u31, u32, u33, u34, u35, u36, u37, u38, u39, u40, u41, u42, u43, u44, u45, u46, u47, u48, u49, u50, u51, u52, u53, u54, u55, u56, u57, u58, u59, u60, u61, u62, u63, u64, u65, u66, u67, u68, u69, u70, u71, u72, u73, u74, u75, u76, u77, u78, u79, u80, u81, u82, u83, u84, u85, u86, u87, u88, u89, u90, u91, u92, u93, u94, u95, u96, u97, u98, u99, u100, u101, u102, u103, u104, u105, u106, u107, u108, u109, u110, u111, u112, u113, u114, u115, u116, u117, u118, u119, u120, u121, u122, u123, u124, u125, u126, u127, u128, u129, u130, u131, u132, u133, u134, u135, u136, u137, u138, u139, u140, u141, u142, u143, u144, u145, u146, u147, u148, u149, u150, u151, u152, u153, u154, u155, u156, u157, u158, u159, u160], []⟩ wc := by
  conv => arg 2; whnf
  have hD := hd
  obtain ⟨D1, hD1⟩ : ∃ D, m.data ++ numL sh = D := ⟨_, rfl⟩
  have HD1 := Aside0.mk hD1
  have hl1 : D1.length ≤ 1099511627776 + 10 := by have z := numL_len10 (n := sh) (by omega); rw [← hD1, List.length_append]; omega
  obtain ⟨ks, hks⟩ : ∃ ks, e.f0.size - sh = ks := ⟨_, rfl⟩
  obtain ⟨D2, hD2⟩ : ∃ D, D1 ++ numL ks = D := ⟨_, rfl⟩
  have HD2 := Aside0.mk hD2
  have hl2 : D2.length ≤ 1099511627776 + 20 := by have z := numL_len10 (n := ks) (by omega); rw [← hD2, List.length_append]; omega
  obtain ⟨mk, hmk⟩ : ∃ mk, markE e = mk := ⟨_, rfl⟩
  have hmkl : mk < 288230376151711744 := by rw [← hmk]; unfold markE; have := HQ.out; split <;> omega
  have HMK := Aside0.mk hmk
  obtain ⟨D3, hD3⟩ : ∃ D, D2 ++ numL mk = D := ⟨_, rfl⟩
  have HD3' := Aside0.mk hD3
  have hl3 : D3.length ≤ 1099511627776 + 30 := by have z := numL_len10 (n := mk) (by omega); rw [← hD3, List.length_append]; omega
  have HKS := Aside0.mk hks
  have eks : (e.f0.size : Int) - (sh : Int) = (ks : Int) := by omega
  rw [hmk]
  have w1 : IntKind.u64.wrap (sh : Int) = (sh : Int) := u64_nat (by omega)
  have w2 : IntKind.u64.wrap (ks : Int) = (ks : Int) := u64_nat (by omega)
  have w3 : IntKind.i64.wrap (ks : Int) = (ks : Int) := by rw [IntKind.wrap_i64]; omega
  go_wp2_with fail
  go_upto_region 14 with fail
  go_cut [] (fun wx => Aside0 (MkS w wx base g F ⟨m.rs, D1, places', m.n, m.last⟩) ∧ Aside0 (wx.heap[h]? = some (.cells #[.string e.f0, .int .u64 e.f1, .bool e.f2, .string e.f3] 53 (0, 0))))
  case first =>
    obtain ⟨u1, u2, hM, hR⟩ := HS4.out.open_
    obtain ⟨A1, q1, e1⟩ := Kd.R_slice hM.2.2.1
    subst e1
    have c1 : wc.cell? ⟨g, 1, none⟩ = some (.slice A1 m.data.length q1) := by rw [blk_cell hM.1]; rfl
    have HMd := Aside0.mk (hM.below (below_drew (Below.refl _ wc)))
    have HRd := Aside0.mk hR.drew
    have HBd : Aside0 (base ≤ wc.drew.heap.size) := ⟨HS4.out.bs⟩
    have HXd : Aside0 (wc.drew.heap[h]? = some (.cells #[.string e.f0, .int .u64 e.f1, .bool e.f2, .string e.f3] 53 (0, 0))) := ⟨HX4.out⟩
    have HNL : Aside0 ((numL sh).length ≤ 10) := ⟨numL_len10 (by omega)⟩
    clear hM hR
    go_region_law (first | (refine Kd.R_append_rows_step (Kd.int .u8) (w0 := w) base (by rfl) (.tmp 91) (.tmp 94) 57 5 (.int .u8 0) 1 rfl Tryz.underlying57 infoU rfl (by decide) (by omega) _ m.data l3 _ _ _ (fun _ => True) (fun _ => False) (by rfl) (by rfl) HM2.out.2.2.1 HD3.out.2.2 (fun _ _ h => h) (fun _ h => h.elim) (fun _ _ => trivial) HR2.out.1 HB2.out PL2.out ?_; intro v W3 ho hb hg hat; rw [HL3.out, HD1.out] at ho; (obtain ⟨Av, qv, ev⟩ := Kd.R_slice ho); subst ev; (have HP := Aside0.mk (MkS.put HM2.out HR2.out ho hg hat)); (have hgr := blk_grown HM2.out.1 hg (Kd.R_ne HM2.out.2.2.1 HM2.out.1 (by decide))); (have f3 := blk_frozen hgr 1); (have c3 : W3.cell? ⟨g, 1, none⟩ = some (.slice A1 m.data.length q1) := by rw [blk_cell hgr]; rfl); clear ho hb hg hat hgr) | (go_simp; go_at_call 25; go_must (refine (putUint_calls sh (by omega) _).mono ?_); rintro en W2 ⟨A3, n3, c3, l3, rfl, hl3, hd3, ho3, hb3⟩; (have hM2 := HMd.out.below hb3); (have c2 : W2.cell? ⟨g, 1, none⟩ = some (.slice A1 m.data.length q1) := by rw [blk_cell hM2.1]; rfl); (have HM2 := Aside0.mk hM2); (have HR2 := Aside0.mk (HRd.out.below hb3 HBd.out)); (have HB2 : Aside0 (base ≤ W2.heap.size) := ⟨Nat.le_trans HBd.out hb3.size⟩); (have HX2 := Aside0.mk ((hb3.block _ (blk_lt HXd.out)).trans HXd.out)); (have HD3 := Aside0.mk hd3); (have HL3 := Aside0.mk hl3); (have PL2 : Aside0 ((m.data.length + n3) * 1 ≤ 140737488355328) := ⟨by have z1 := hd3.1; have z2 := HNL.out; rw [hl3] at z1; omega⟩); clear hM2 hb3 hd3 hl3 ho3))
    all_goals (try (go_wp2_with fail))
    all_goals (go_meet; case rel => exact ⟨⟨HP.out.1⟩, ⟨HP.out.2 _ _ _ HX2.out (by decide) (by decide) (by decide)⟩⟩)
  case rest =>
    obtain ⟨HS5, HX5⟩ := hcut
    clear HS4 HX4
    go_wp2_with fail
    go_upto_region 15 with fail
    go_cut [] (fun wx => Aside0 (MkS w wx base g F ⟨m.rs, D2, places', m.n, m.last⟩) ∧ Aside0 (wx.heap[h]? = some (.cells #[.string e.f0, .int .u64 e.f1, .bool e.f2, .string e.f3] 53 (0, 0))))
    case first =>
      obtain ⟨u1, u2, hM, hR⟩ := HS5.out.open_
      obtain ⟨A1, q1, e1⟩ := Kd.R_slice hM.2.2.1
      subst e1
      have c1 : wc.cell? ⟨g, 1, none⟩ = some (.slice A1 D1.length q1) := by rw [blk_cell hM.1]; rfl
      have HMd := Aside0.mk (hM.below (below_drew (Below.refl _ wc)))
      have HRd := Aside0.mk hR.drew
      have HBd : Aside0 (base ≤ wc.drew.heap.size) := ⟨HS5.out.bs⟩
      have HXd : Aside0 (wc.drew.heap[h]? = some (.cells #[.string e.f0, .int .u64 e.f1, .bool e.f2, .string e.f3] 53 (0, 0))) := ⟨HX5.out⟩
      have HNL : Aside0 ((numL ks).length ≤ 10) := ⟨numL_len10 (by omega)⟩
      have x0 : wc.cell? ⟨h, 0, none⟩ = some (.string e.f0) := by rw [blk_cell HX5.out]; rfl
      have xd : ∀ W : World, W.heap[h]? = some (.cells #[.string e.f0, .int .u64 e.f1, .bool e.f2, .string e.f3] 53 (0, 0)) → W.cell? ⟨h, 0, none⟩ = some (.string e.f0) := fun W hW => by rw [blk_cell hW]; rfl
      clear hM hR
      go_region_law (first | (refine Kd.R_append_rows_step (Kd.int .u8) (w0 := w) base (by rfl) (.tmp 102) (.tmp 109) 57 5 (.int .u8 0) 1 rfl Tryz.underlying57 infoU rfl (by decide) (by omega) _ D1 l3 _ _ _ (fun _ => True) (fun _ => False) (by rfl) (by rfl) HM2.out.2.2.1 HD3.out.2.2 (fun _ _ h => h) (fun _ h => h.elim) (fun _ _ => trivial) HR2.out.1 HB2.out PL2.out ?_; intro v W3 ho hb hg hat; rw [HL3.out, HD2.out] at ho; (obtain ⟨Av, qv, ev⟩ := Kd.R_slice ho); subst ev; (have HP := Aside0.mk (MkS.put HM2.out HR2.out ho hg hat)); (have hgr := blk_grown HM2.out.1 hg (Kd.R_ne HM2.out.2.2.1 HM2.out.1 (by decide))); (have f3 := blk_frozen hgr 1); (have c3 : W3.cell? ⟨g, 1, none⟩ = some (.slice A1 D1.length q1) := by rw [blk_cell hgr]; rfl); clear ho hb hg hat hgr) | (go_simp; go_at_call 25; go_must (refine (putUint_calls ks (by omega) _).mono ?_); rintro en W2 ⟨A3, n3, c3, l3, rfl, hl3, hd3, ho3, hb3⟩; (have hM2 := HMd.out.below hb3); (have c2 : W2.cell? ⟨g, 1, none⟩ = some (.slice A1 D1.length q1) := by rw [blk_cell hM2.1]; rfl); (have HM2 := Aside0.mk hM2); (have HR2 := Aside0.mk (HRd.out.below hb3 HBd.out)); (have HB2 : Aside0 (base ≤ W2.heap.size) := ⟨Nat.le_trans HBd.out hb3.size⟩); (have HX2 := Aside0.mk ((hb3.block _ (blk_lt HXd.out)).trans HXd.out)); (have HD3 := Aside0.mk hd3); (have HL3 := Aside0.mk hl3); (have PL2 : Aside0 ((D1.length + n3) * 1 ≤ 140737488355328) := ⟨by have z1 := hd3.1; have z2 := HNL.out; rw [hl3] at z1; omega⟩); clear hM2 hb3 hd3 hl3 ho3))
      all_goals (try (go_wp2_with fail))
      all_goals (go_meet; case rel => exact ⟨⟨HP.out.1⟩, ⟨HP.out.2 _ _ _ HX2.out (by decide) (by decide) (by decide)⟩⟩)
    case rest =>
      obtain ⟨HS6, HX6⟩ := hcut
      clear HS5 HX5
      go_wp2_with fail
      go_upto_region 16 with fail
      go_cut [] (fun wx => Aside0 (MkS w wx base g F ⟨m.rs, D3, places', m.n, m.last⟩) ∧ Aside0 (wx.heap[h]? = some (.cells #[.string e.f0, .int .u64 e.f1, .bool e.f2, .string e.f3] 53 (0, 0))))
      case first =>
        obtain ⟨u1, u2, hM, hR⟩ := HS6.out.open_
        obtain ⟨A1, q1, e1⟩ := Kd.R_slice hM.2.2.1
        subst e1
        have c1 : wc.cell? ⟨g, 1, none⟩ = some (.slice A1 D2.length q1) := by rw [blk_cell hM.1]; rfl
        have HMd := Aside0.mk (hM.below (below_drew (Below.refl _ wc)))
        have HRd := Aside0.mk hR.drew
        have HBd : Aside0 (base ≤ wc.drew.heap.size) := ⟨HS6.out.bs⟩
        have HXd : Aside0 (wc.drew.heap[h]? = some (.cells #[.string e.f0, .int .u64 e.f1, .bool e.f2, .string e.f3] 53 (0, 0))) := ⟨HX6.out⟩
        have HNL : Aside0 ((numL mk).length ≤ 10) := ⟨numL_len10 (by omega)⟩
        clear hM hR
        go_region_law (first | (refine Kd.R_append_rows_step (Kd.int .u8) (w0 := w) base (by rfl) (.tmp 117) (.tmp 119) 57 5 (.int .u8 0) 1 rfl Tryz.underlying57 infoU rfl (by decide) (by omega) _ D2 l3 _ _ _ (fun _ => True) (fun _ => False) (by rfl) (by rfl) HM2.out.2.2.1 HD3.out.2.2 (fun _ _ h => h) (fun _ h => h.elim) (fun _ _ => trivial) HR2.out.1 HB2.out PL2.out ?_; intro v W3 ho hb hg hat; rw [HL3.out, HD3'.out] at ho; (obtain ⟨Av, qv, ev⟩ := Kd.R_slice ho); subst ev; (have HP := Aside0.mk (MkS.put HM2.out HR2.out ho hg hat)); (have hgr := blk_grown HM2.out.1 hg (Kd.R_ne HM2.out.2.2.1 HM2.out.1 (by decide))); (have f3 := blk_frozen hgr 1); (have c3 : W3.cell? ⟨g, 1, none⟩ = some (.slice A1 D2.length q1) := by rw [blk_cell hgr]; rfl); clear ho hb hg hat hgr) | (go_simp; go_at_call 25; go_must (refine (putUint_calls mk (by omega) _).mono ?_); rintro en W2 ⟨A3, n3, c3, l3, rfl, hl3, hd3, ho3, hb3⟩; (have hM2 := HMd.out.below hb3); (have c2 : W2.cell? ⟨g, 1, none⟩ = some (.slice A1 D2.length q1) := by rw [blk_cell hM2.1]; rfl); (have HM2 := Aside0.mk hM2); (have HR2 := Aside0.mk (HRd.out.below hb3 HBd.out)); (have HB2 : Aside0 (base ≤ W2.heap.size) := ⟨Nat.le_trans HBd.out hb3.size⟩); (have HX2 := Aside0.mk ((hb3.block _ (blk_lt HXd.out)).trans HXd.out)); (have HD3 := Aside0.mk hd3); (have HL3 := Aside0.mk hl3); (have PL2 : Aside0 ((D2.length + n3) * 1 ≤ 140737488355328) := ⟨by have z1 := hd3.1; have z2 := HNL.out; rw [hl3] at z1; omega⟩); clear hM2 hb3 hd3 hl3 ho3))
        all_goals (try (go_wp2_with fail))
        all_goals (go_meet; case rel => exact ⟨⟨HP.out.1⟩, ⟨HP.out.2 _ _ _ HX2.out (by decide) (by decide) (by decide)⟩⟩)
      case rest =>
        obtain ⟨HS7, HX7⟩ := hcut
        clear HS6 HX6
        refine (‹∀ (a : Act) (w : World), Code.wp _ _ _ a w → _›) _ _ ?_
        exact add_c _ _ _ _ _ _ _ _ _ _ _ _ _ _ _ _ _ _ _ _ _ _ _ _ _ _ _ _ _ _ _ _ _ _ _ _ _ _ _ _ _ _ _ _ _ _ _ _ _ _ _ _ _ _ _ _ _ _ _ _ _ _ _ _ _ _ _ _ _ _ _ _ _ _ _ _ _ _ _ _ _ _ _ _ _ _ _ _ _ _ _ _ _ _ _ _ _ _ _ _ _ _ _ _ _ _ _ _ _ _ _ _ _ _ _ _ _ _ _ _ _ _ _ _ _ _ _ _ _ _ _ _ _ _ _ _ _ _ _ _ _ _ _ _ _ _ _ _ _ _ _ _ _ HS7 HX7 HSH HPL HDL HE hsl h1 h2 h5 hn HMK ⟨by rw [← HD3'.out, ← HD2.out, ← HD1.out, HKS.out]; simp only [List.append_assoc]⟩ hl3
end Go.Proofs.YtaonjmkfbfhanaaGreatDoor.Bk
namespace Go.Proofs.YtaonjmkfbfhanaaGreatDoor.Bk
open Go.RowKit Go.Proofs.YtaonjmkfbfhanaaGreatDoorW.PrintWords Go.Proofs.YtaonjmkfbfhanaaGreatDoor.Own Go.Proofs.YtaonjmkfbfhanaaGreatDoor.G Go.Proofs.YtaonjmkfbfhanaaGreatDoor.Wk Go.Proofs.YtaonjmkfbfhanaaGreatDoor.QBo
set_option linter.unusedVariables false
set_option maxHeartbeats 8000000 in
set_option maxRecDepth 100000 in
theorem add_calls {w : World} {base g : Nat} {m : Mk} {v1 v2 : Value} {e : En} (hM : MkAt w base g m v1 v2) (he : EnW e) (hd : m.data.length ≤ 1099511627776) (hp : m.places.length ≤ 1099511627776) (hn : m.n ≤ 1099511627776) (hr : 1 ≤ m.rs) (hr2 : m.rs ≤ 9223372036854775807) (hl : m.last.size ≤ 64) :
    Calls Tryz.prog 10 #[.pointer (some ⟨g, 0, none⟩), .agg #[.string e.f0, .int .u64 e.f1, .bool e.f2, .string e.f3]] w fun en w' => en = .returned (.int .i64 (addM m e).1) ∧ MkS w w' base g (mkF g v1 v2) (addM m e).2 := by
  have HS := Aside0.mk hM.start
  obtain ⟨F, hF⟩ : ∃ F, mkF g v1 v2 = F := ⟨_, rfl⟩
  rw [hF] at HS ⊢
  clear hM hF
  have HBX : Aside0 (Below w.heap.size w (w.alloc (.cells #[.string e.f0, .int .u64 e.f1, .bool e.f2, .string e.f3] 53))) := ⟨below_alloc (Below.refl _ _) _⟩
  have HX : Aside0 ((w.alloc (.cells #[.string e.f0, .int .u64 e.f1, .bool e.f2, .string e.f3] 53)).heap[w.heap.size]? = some (.cells #[.string e.f0, .int .u64 e.f1, .bool e.f2, .string e.f3] 53 (0, 0))) := ⟨heap_alloc_new w _⟩
  by_cases hw : wrongE e ≠ 0
  · have d1 : (wrongE e != 0) = true := by rw [bne_iff_ne]; exact hw
    have HE : Aside0 (addM m e = (wrongE e, m)) := ⟨by unfold addM; rw [if_pos hw]⟩
    have HWr := Aside0.mk (writable_calls e)
    obtain ⟨r, hr⟩ : ∃ r, wrongE e = r := ⟨_, rfl⟩
    rw [hr] at d1 HE HWr
    clear hw hr
    go_enter Tryz.func10, Tryz.ntmps10
    go_wp2_with fail
    refine (HWr.out _).mono ?_
    rintro en W1 ⟨rfl, hb1⟩
    have HS1 := Aside0.mk ((HS.out.below HBX.out).below hb1)
    clear hb1
    go_wp2_with fail
    go_ret
    rw [HE.out]
    exact ⟨rfl, HS1.out⟩
  have hw0 : wrongE e = 0 := by omega
  have hE := okE_of hw0 he
  have d1 : (wrongE e != 0) = false := by rw [hw0]; rfl
  have HWr := Aside0.mk (writable_calls e)
  rw [hw0] at HWr
  by_cases ho : 0 < m.n ∧ leK e.f0 m.last = true
  · have HE : Aside0 (addM m e = (90, m)) := ⟨by unfold addM; rw [if_neg hw, if_pos ho]⟩
    have d2 : decide (0 < m.n) = true := decide_eq_true ho.1
    have d2' : decide ((0 : Int) < (m.n : Int)) = true := decide_eq_true (by omega)
    have d3 : (Op.bytesLess e.f0.toList m.last.toList || e.f0.toList == m.last.toList) = true := ho.2
    clear hw ho hw0 d1
    go_enter Tryz.func10, Tryz.ntmps10
    go_wp2_with fail
    refine (HWr.out _).mono ?_
    rintro en W1 ⟨rfl, hb1⟩
    have HS1 := Aside0.mk ((HS.out.below HBX.out).below hb1)
    have HX1 := Aside0.mk ((hb1.block _ (blk_lt HX.out)).trans HX.out)
    clear hb1
    obtain ⟨u1, u2, hM1, -⟩ := HS1.out
    have c3 : W1.cell? ⟨g, 3, none⟩ = some (.int .i64 (m.n : Int)) := by rw [blk_cell hM1.1]; rfl
    have c4 : W1.cell? ⟨g, 4, none⟩ = some (.string m.last) := by rw [blk_cell hM1.1]; rfl
    have x0 : W1.cell? ⟨w.heap.size, 0, none⟩ = some (.string e.f0) := by rw [blk_cell HX1.out]; rfl
    clear hM1
    go_wp2_with fail
    repeat (go_quiet (fail); try (go_wp2_with fail))
    go_ret
    rw [HE.out]
    exact ⟨rfl, HS1.out.below (by repeat (first | exact Below.refl _ _ | apply pw_below_drewN))⟩
  have HE : Aside0 (addM m e = (0, pushM m e)) := ⟨by unfold addM; rw [if_neg hw, if_neg ho]⟩
  have HO := Aside0.mk ho
  clear hw ho hw0
  obtain ⟨h, hh⟩ : ∃ h, w.heap.size = h := ⟨_, rfl⟩
  rw [hh] at HX
  have HH := Aside0.mk hh
  have HS0 := Aside0.mk (HS.out.below HBX.out)
  clear HS HBX
  obtain ⟨h1, h2, h3, h4, h5, h6⟩ := hE
  go_enter Tryz.func10, Tryz.ntmps10
  go_wp2_with fail
  refine (HWr.out _).mono ?_
  rintro en W1 ⟨rfl, hb1⟩
  have HS1 := Aside0.mk (HS0.out.below hb1)
  have HX1 := Aside0.mk ((hb1.block _ (blk_lt HX.out)).trans HX.out)
  clear hb1 HS0 HX hh
  go_upto_region 4 with fail
  go_cut [26] (fun s26 wx => s26 = .bool false ∧ Aside0 (Below W1.heap.size W1 wx))
  case first =>
    focus
      obtain ⟨u1, u2, hM1, -⟩ := HS1.out
      have c3 : W1.cell? ⟨g, 3, none⟩ = some (.int .i64 (m.n : Int)) := by rw [blk_cell hM1.1]; rfl
      have c4 : W1.cell? ⟨g, 4, none⟩ = some (.string m.last) := by rw [blk_cell hM1.1]; rfl
      have x0 : W1.cell? ⟨h, 0, none⟩ = some (.string e.f0) := by rw [blk_cell HX1.out]; rfl
      clear hM1
      by_cases hn0 : 0 < m.n
      · have d2 : decide (0 < m.n) = true := decide_eq_true hn0
        have d2' : decide ((0 : Int) < (m.n : Int)) = true := decide_eq_true (by omega)
        have d3 : (Op.bytesLess e.f0.toList m.last.toList || e.f0.toList == m.last.toList) = false := by
          cases hle : leK e.f0 m.last with
          | true => exact absurd ⟨hn0, hle⟩ HO.out
          | false => exact hle
        clear hn0
        repeat (go_quiet (fail); try (go_wp2_with fail))
        go_meet
        case rel => exact ⟨rfl, ⟨by repeat (first | exact Below.refl _ _ | apply pw_below_drewN)⟩⟩
      · have d2 : decide (0 < m.n) = false := decide_eq_false hn0
        have d2' : decide ((0 : Int) < (m.n : Int)) = false := decide_eq_false (by omega)
        clear hn0
        repeat (go_quiet (fail); try (go_wp2_with fail))
        go_meet
        case rel => exact ⟨rfl, ⟨by repeat (first | exact Below.refl _ _ | apply pw_below_drewN)⟩⟩
  case rest =>
    obtain ⟨rfl, BX⟩ := hcut
    have HS2 := Aside0.mk (HS1.out.below BX.out)
    have HX2 := Aside0.mk ((BX.out.block _ (blk_lt HX1.out)).trans HX1.out)
    clear BX HS1 HX1
    have z0 : ((m.rs : Int) == 0) = false := by rw [beq_eq_false_iff_ne]; omega
    have z0' : ¬ (m.rs : Int) = 0 := by omega
    obtain ⟨bz, hbz⟩ : ∃ bz, decide (m.n % m.rs = 0) = bz := ⟨_, rfl⟩
    have HZ := Aside0.mk hbz
    clear hbz
    go_upto_region 7 with fail
    go_cut [36] (fun s36 wx => s36 = .bool bz ∧ Aside0 (Below wc.heap.size wc wx))
    case first =>
      focus
        obtain ⟨u1, u2, hM2, -⟩ := HS2.out
        have c0 : wc.cell? ⟨g, 0, none⟩ = some (.int .i64 (m.rs : Int)) := by rw [blk_cell hM2.1]; rfl
        have c3 : wc.cell? ⟨g, 3, none⟩ = some (.int .i64 (m.n : Int)) := by rw [blk_cell hM2.1]; rfl
        clear hM2
        have hbz := HZ.out
        have z1 : ((m.n : Int) % (m.rs : Int) == 0) = bz := by
          rw [← hbz, Bool.eq_iff_iff, beq_iff_eq, decide_eq_true_eq]; omega
        have z1' : (m.n % m.rs == 0) = bz := by
          rw [← hbz, Bool.eq_iff_iff, beq_iff_eq, decide_eq_true_eq]
        clear hbz
        repeat (go_quiet (fail); try (go_wp2_with fail))
        go_meet
        case rel => exact ⟨rfl, ⟨by repeat (first | exact Below.refl _ _ | apply pw_below_drewN)⟩⟩
    case rest =>
      obtain ⟨rfl, BX⟩ := hcut
      have HS3 := Aside0.mk (HS2.out.below BX.out)
      have HX3 := Aside0.mk ((BX.out.block _ (blk_lt HX2.out)).trans HX2.out)
      clear BX HS2 HX2 z0 z0'
      go_upto_if 36 with fail
      go_cut [6] (fun s6 wx => s6 = .int .i64 (sharedM m e : Int) ∧ Aside0 (MkS w wx base g F ⟨m.rs, m.data, if m.n % m.rs = 0 then m.places ++ [m.data.length] else m.places, m.n, m.last⟩) ∧ Aside0 (wx.heap[h]? = some (.cells #[.string e.f0, .int .u64 e.f1, .bool e.f2, .string e.f3] 53 (0, 0))))
      case first =>
        focus
          cases bz with
          | true =>
            obtain ⟨u1, u2, hM2, hR2⟩ := HS3.out.open_
            have hz := of_decide_eq_true HZ.out
            have HSh : Aside0 (sharedM m e = 0) := ⟨by unfold sharedM; rw [if_pos hz]⟩
            have HPl : Aside0 ((if m.n % m.rs = 0 then m.places ++ [m.data.length] else m.places) = m.places ++ [m.data.length]) := ⟨if_pos hz⟩
            obtain ⟨A1, q1, e1⟩ := Kd.R_slice hM2.2.2.1
            obtain ⟨A2, q2, e2⟩ := Kd.R_slice hM2.2.2.2
            subst e1 e2
            have c1 : wc.cell? ⟨g, 1, none⟩ = some (.slice A1 m.data.length q1) := by rw [blk_cell hM2.1]; rfl
            have c2 : wc.cell? ⟨g, 2, none⟩ = some (.slice A2 (plcs m).length q2) := by rw [blk_cell hM2.1]; rfl
            have f2 := blk_frozen hM2.1 2
            have HM := Aside0.mk (hM2.below (below_drew (Below.refl _ wc)))
            have HR := Aside0.mk hR2.drew
            have HBS : Aside0 (base ≤ wc.drew.heap.size) := ⟨HS3.out.bs⟩
            have PL : Aside0 (((plcs m).length + 1) * 8 ≤ 140737488355328) := ⟨by unfold plcs; rw [List.length_map]; omega⟩
            have HPLn : Aside0 (((m.places ++ [m.data.length]).map fun (p : Nat) => (p : Int)).length = m.places.length + 1) := ⟨by simp⟩
            have HPC : Aside0 (plcs m ++ [(m.data.length : Int)] = (m.places ++ [m.data.length]).map fun (p : Nat) => (p : Int)) := ⟨by unfold plcs; rw [List.map_append]; rfl⟩
            have kA : (wc.alloc (.cells #[.int .i64 (m.data.length : Int)] 3)).cell? ⟨g, 2, none⟩ = some (.slice A2 (plcs m).length q2) := (blk_cell (blk_alloc hM2.1 _) 2).trans rfl
            have kB : (wc.alloc (.cells #[.int .i64 (m.data.length : Int)] 3)).drew.cell? ⟨g, 2, none⟩ = some (.slice A2 (plcs m).length q2) := kA
            clear hM2 hR2 hz
            go_wp2_with fail
            go_region_law (rw [show (wc.alloc (.cells #[.int .i64 (m.data.length : Int)] 3)).drew = wc.drew.alloc (.cells #[.int .i64 (m.data.length : Int)] 3) from rfl]; refine Kd.R_append_step i64 (w0 := w) base (by rfl) (.tmp 41) (.tmp 47) 26 3 (.int .i64 0) 8 rfl Tryz.underlying26 infoI rfl (by decide) (by omega) _ (plcs m) (m.data.length : Int) [.int .i64 (m.data.length : Int)] (fun _ => True) (fun _ => False) (by rfl) (by rfl) rfl (fun _ hk => hk.elim) (fun _ _ => trivial) HM.out.2.2.2 HR.out.1 HBS.out PL.out ?_; intro v W3 ho hb hg hat; rw [HPC.out] at ho; (obtain ⟨Av, qv, ev⟩ := Kd.R_slice ho); rw [HPLn.out] at ev; subst ev; (have HP := Aside0.mk (MkS.grow HM.out HR.out ho hg hat)); (have hgr := blk_grown HM.out.1 hg (Kd.R_ne HM.out.2.2.2 HM.out.1 (by decide))); (have f3 := blk_frozen hgr 2); (have c3 : W3.cell? ⟨g, 2, none⟩ = some (.slice A2 (plcs m).length q2) := by rw [blk_cell hgr]; rfl); clear ho hb hg hat hgr)
            all_goals (try (go_wp2_with fail))
            all_goals (go_meet; case rel => exact ⟨by rw [HSh.out]; rfl, ⟨by rw [HPl.out]; exact HP.out.1⟩, ⟨HP.out.2 _ _ _ (show wc.drew.heap[h]? = _ from HX3.out) (by decide) (by decide) (by decide)⟩⟩)
          | false =>
            obtain ⟨u1, u2, hM2, hR2⟩ := HS3.out.open_
            have hz := of_decide_eq_false HZ.out
            have HSh : Aside0 (sharedM m e = lcp (bytesOf e.f0) (bytesOf m.last)) := ⟨by unfold sharedM; rw [if_neg hz]⟩
            have HPl : Aside0 ((if m.n % m.rs = 0 then m.places ++ [m.data.length] else m.places) = m.places) := ⟨if_neg hz⟩
            have HM := Aside0.mk hM2
            clear hz hM2 hR2
            go_wp2_with fail
            go_loopw [6] (fun s6 wr => ∃ s : Nat, s6 = .int .i64 (s : Int) ∧ s ≤ e.f0.size ∧ s ≤ m.last.size ∧ Aside0 (lcp (bytesOf e.f0) (bytesOf m.last) = s + lcp ((bytesOf e.f0).drop s) ((bytesOf m.last).drop s)) ∧ Aside0 (Below wc.heap.size wc wr)) (fun s6 _ => e.f0.size - (intOf s6).toNat)
            case atStart => exact ⟨0, rfl, Nat.zero_le _, Nat.zero_le _, ⟨by simp⟩, ⟨Below.refl _ _⟩⟩
            case round =>
              obtain ⟨s, rfl, hs1, hs2, HI, HB⟩ := hrel
              have hM3 := HM.out.below HB.out
              have c4 : wr.cell? ⟨g, 4, none⟩ = some (.string m.last) := by rw [blk_cell hM3.1]; rfl
              have x0 : wr.cell? ⟨h, 0, none⟩ = some (.string e.f0) := by rw [blk_cell ((HB.out.block _ (blk_lt HX3.out)).trans HX3.out)]; rfl
              clear hM3
              by_cases q1 : s < e.f0.size
              · have z1 : decide (s < e.f0.size) = true := decide_eq_true q1
                have z1' : decide ((s : Int) < (e.f0.size : Int)) = true := decide_eq_true (by omega)
                by_cases q2 : s < m.last.size
                · have z2 : decide (s < m.last.size) = true := decide_eq_true q2
                  have z2' : decide ((s : Int) < (m.last.size : Int)) = true := decide_eq_true (by omega)
                  have hx6 : ((e.f0[s]'q1).toNat : Int) = bt e.f0 (s : Int) := bt_at e.f0 (s : Int) q1
                  have hx7 : ((m.last[s]'q2).toNat : Int) = bt m.last (s : Int) := bt_at m.last (s : Int) q2
                  have HC : Aside0 (lcp ((bytesOf e.f0).drop s) ((bytesOf m.last).drop s) = if bt e.f0 (s : Int) = bt m.last (s : Int) then lcp ((bytesOf e.f0).drop (s + 1)) ((bytesOf m.last).drop (s + 1)) + 1 else 0) := ⟨by rw [bytes_cons _ _ q1, bytes_cons _ _ q2]; rfl⟩
                  by_cases q3 : bt e.f0 (s : Int) = bt m.last (s : Int)
                  · have z3 : (bt e.f0 (s : Int) == bt m.last (s : Int)) = true := beq_iff_eq.mpr q3
                    have z3' : (bt e.f0 (s : Int) != bt m.last (s : Int)) = false := bne_eq_false_iff_eq.mpr q3
                    have HC2 := HC.out
                    rw [if_pos q3] at HC2
                    have HC3 := Aside0.mk HC2
                    clear q3 HC HC2
                    go_wp2_with fail
                    repeat (go_quiet (fail); try (go_wp2_with fail))
                    go_roundw
                    case rel => exact ⟨s + 1, by go_num, by omega, by omega, ⟨by rw [HI.out, HC3.out]; omega⟩, ⟨by repeat (first | exact HB.out | apply pw_below_drewN)⟩⟩
                    case measure => simp [intOf]; omega
                  · have z3 : (bt e.f0 (s : Int) == bt m.last (s : Int)) = false := beq_eq_false_iff_ne.mpr q3
                    have z3' : (bt e.f0 (s : Int) != bt m.last (s : Int)) = true := bne_iff_ne.mpr q3
                    have HC2 := HC.out
                    rw [if_neg q3] at HC2
                    have HL : Aside0 (lcp (bytesOf e.f0) (bytesOf m.last) = s) := ⟨by rw [HI.out, HC2]; rfl⟩
                    clear q3 HC HC2
                    go_wp2_with fail
                    repeat (go_quiet (fail); try (go_wp2_with fail))
                    go_meet
                    case rel => exact ⟨by rw [HSh.out, HL.out], ⟨by rw [HPl.out]; exact HS3.out.below (by repeat (first | exact HB.out | apply pw_below_drewN))⟩, ⟨(HB.out.block _ (blk_lt HX3.out)).trans HX3.out⟩⟩
                · have z2 : decide (s < m.last.size) = false := decide_eq_false q2
                  have z2' : decide ((s : Int) < (m.last.size : Int)) = false := decide_eq_false (by omega)
                  have HL : Aside0 (lcp (bytesOf e.f0) (bytesOf m.last) = s) := ⟨by rw [HI.out, bytes_end m.last s (by omega), lcp_nil]; rfl⟩
                  go_wp2_with fail
                  repeat (go_quiet (fail); try (go_wp2_with fail))
                  go_meet
                  case rel => exact ⟨by rw [HSh.out, HL.out], ⟨by rw [HPl.out]; exact HS3.out.below (by repeat (first | exact HB.out | apply pw_below_drewN))⟩, ⟨(HB.out.block _ (blk_lt HX3.out)).trans HX3.out⟩⟩
              · have z1 : decide (s < e.f0.size) = false := decide_eq_false q1
                have z1' : decide ((s : Int) < (e.f0.size : Int)) = false := decide_eq_false (by omega)
                have HL : Aside0 (lcp (bytesOf e.f0) (bytesOf m.last) = s) := ⟨by rw [HI.out, bytes_end e.f0 s (by omega)]; rfl⟩
                go_wp2_with fail
                repeat (go_quiet (fail); try (go_wp2_with fail))
                go_meet
                case rel => exact ⟨by rw [HSh.out, HL.out], ⟨by rw [HPl.out]; exact HS3.out.below (by repeat (first | exact HB.out | apply pw_below_drewN))⟩, ⟨(HB.out.block _ (blk_lt HX3.out)).trans HX3.out⟩⟩
      case rest =>
        obtain ⟨rfl, HS4, HX4⟩ := hcut
        obtain ⟨places', hpl'⟩ : ∃ places', (if m.n % m.rs = 0 then m.places ++ [m.data.length] else m.places) = places' := ⟨_, rfl⟩
        rw [hpl'] at HS4
        have HPL := Aside0.mk hpl'
        obtain ⟨sh, hsh⟩ : ∃ sh, sharedM m e = sh := ⟨_, rfl⟩
        have HSH := Aside0.mk hsh
        have hsl : sh ≤ e.f0.size := by rw [← hsh]; exact (shared_le m e).1
        rw [hsh]
        clear hpl' hsh HS3 HX3 HZ HO
        obtain ⟨q, hq⟩ : ∃ q : Nat, e.f1 = (q : Int) := Int.eq_ofNat_of_zero_le h3
        have hq2 : q ≤ 72057594037927935 := by omega
        have x1 : wc.cell? ⟨h, 1, none⟩ = some (.int .u64 (q : Int)) := by rw [blk_cell HX4.out, hq]; rfl
        obtain ⟨dl, hdl⟩ : ∃ dl, e.f2 = dl := ⟨_, rfl⟩
        have x2 : wc.cell? ⟨h, 2, none⟩ = some (.bool dl) := by rw [blk_cell HX4.out, ← hdl]; rfl
        have HDL := Aside0.mk hdl
        clear hdl
        have HQ := Aside0.mk hq
        have HQQ := Aside0.mk (And.intro h3 h4); clear hq h3 h4
        go_upto_if 84 with fail
        go_cut [7] (fun s7 wx => s7 = .int .u64 (markE e : Int) ∧ wc = wx)
        case first =>
          focus
            cases dl with
            | true =>
              have HMk : Aside0 (markE e = 2 * q + 1) := ⟨by unfold markE; rw [if_pos HDL.out, HQ.out]; rfl⟩
              go_wp2_with fail
              go_meet
              case rel => exact ⟨by rw [HMk.out]; go_num, rfl⟩
            | false =>
              have HMk : Aside0 (markE e = 2 * q) := ⟨by unfold markE; rw [if_neg (by rw [HDL.out]; decide), HQ.out]; rfl⟩
              go_wp2_with fail
              go_meet
              case rel => exact ⟨by rw [HMk.out]; go_num, rfl⟩
        case rest =>
          obtain ⟨rfl, rfl⟩ := hcut
          refine (‹∀ (a : Act) (w : World), Code.wp _ _ _ a w → _›) _ _ ?_
          exact add_b _ _ _ _ _ _ _ _ _ _ _ _ _ _ _ _ _ _ _ _ _ _ _ _ _ _ _ _ _ _ _ _ _ _ _ _ _ _ _ _ _ _ _ _ _ _ _ _ _ _ _ _ _ _ _ _ _ _ _ _ _ _ _ _ _ _ _ _ _ _ _ _ _ _ _ _ _ _ _ _ _ _ _ _ _ _ _ _ _ _ _ _ _ _ _ _ _ _ _ _ _ _ _ _ _ _ _ _ _ _ _ _ _ _ _ _ _ _ _ _ _ _ _ _ _ _ _ _ _ _ _ _ _ _ _ _ _ _ _ _ _ _ _ _ _ _ _ _ _ _ _ _ _ HS4 HX4 HSH HPL HDL HE hsl h1 h2 h5 hn hd HQQ
end Go.Proofs.YtaonjmkfbfhanaaGreatDoor.Bk
namespace Go.Proofs.YtaonjmkfbfhanaaGreatDoor.QBo
open Go.RowKit
theorem info53 : (Tryz.prog.info? 53).map (fun i => (i.zero, i.size, i.bytes)) = some (some (.agg #[(.string ⟨#[]⟩), (.int .u64 0), (.bool false), (.string ⟨#[]⟩)]), 4, 48) := by kernel_rfl
end Go.Proofs.YtaonjmkfbfhanaaGreatDoor.QBo
namespace Go.Proofs.YtaonjmkfbfhanaaGreatDoor.Bk
open Go.RowKit Go.Proofs.YtaonjmkfbfhanaaGreatDoorW.PrintWords Go.Proofs.YtaonjmkfbfhanaaGreatDoor.Own Go.Proofs.YtaonjmkfbfhanaaGreatDoor.G Go.Proofs.YtaonjmkfbfhanaaGreatDoor.Wk Go.Proofs.YtaonjmkfbfhanaaGreatDoor.QBo
set_option linter.unusedVariables false
theorem num_calls (c : Int) (w : World) : Calls Tryz.prog 9 #[.int .i64 c] w fun e w' => e = .returned (.int .i64 c) ∧ w' = w := by
  go_enter Tryz.func9, Tryz.ntmps9
  go_wp2_with fail
  go_ret
  exact ⟨rfl, rfl⟩
theorem kE_typed {q : Nat} (h : q ∈ 53 :: kE.E) : q = 53 := by
  rcases List.mem_cons.1 h with h | h
  · exact h
  · exact absurd h List.not_mem_nil
theorem MkAt.grown {W W1 : World} {base g : Nat} {m : Mk} {v1 v2 : Value} {row : Option Nat} (h : MkAt W base g m v1 v2) (hg : W.grownBy W1 row) (hr : ∀ k, row = some k → ∃ cs, W.heap[k]? = some (.cells cs 53 (0, 0))) : MkAt W1 base g m v1 v2 := by
  obtain ⟨h1, h2, h3, h4⟩ := h
  refine ⟨(hg.block g (blk_lt h1) (fun e => ?_)).trans h1, h2, Kd.R_mono (Kd.R_step (Kd.R_bound h3) (fun k hk hlt => ?_)) (fun _ _ => trivial), Kd.R_mono (Kd.R_step (Kd.R_bound h4) (fun k hk hlt => ?_)) (fun _ _ => trivial)⟩
  · obtain ⟨cs, hc⟩ := hr g e.symm
    rw [h1] at hc; injection hc with hc; injection hc with _ e3; exact absurd e3 (by decide)
  · obtain ⟨_, _, _, q, hq, cs, hc⟩ := hk
    have hq' : q = 5 := by
      rcases List.mem_cons.1 hq with h | h
      · exact h
      · exact absurd h List.not_mem_nil
    subst hq'
    exact hg.block k hlt (fun e => by
      obtain ⟨c2, e2⟩ := hr k e.symm
      rw [hc] at e2; injection e2 with e2; injection e2 with _ e3; exact absurd e3 (by decide))
  · obtain ⟨_, _, _, q, hq, cs, hc⟩ := hk
    have hq' : q = 3 := by
      rcases List.mem_cons.1 hq with h | h
      · exact h
      · exact absurd h List.not_mem_nil
    subst hq'
    exact hg.block k hlt (fun e => by
      obtain ⟨c2, e2⟩ := hr k e.symm
      rw [hc] at e2; injection e2 with e2; injection e2 with _ e3; exact absurd e3 (by decide))
theorem addM_err {m : Mk} {e : En} (h : (addM m e).1 ≠ 0) : (addM m e).2 = m := by
  unfold addM at h ⊢
  split
  · rfl
  · split
    · rfl
    · rename_i h1 h2
      rw [if_neg h1, if_neg h2] at h
      exact absurd rfl h
end Go.Proofs.YtaonjmkfbfhanaaGreatDoor.Bk
namespace Go.Proofs.YtaonjmkfbfhanaaGreatDoor.Rf
open Go.RowKit Go.Proofs.YtaonjmkfbfhanaaGreatDoorW.PrintWords Go.Proofs.YtaonjmkfbfhanaaGreatDoor.Own Go.Proofs.YtaonjmkfbfhanaaGreatDoor.G Go.Proofs.YtaonjmkfbfhanaaGreatDoor.Wk Go.Proofs.YtaonjmkfbfhanaaGreatDoor.QBo Go.Proofs.YtaonjmkfbfhanaaGreatDoor.Bk
set_option linter.unusedVariables false
theorem places_facts (r : Int) (l : List En) : ((pushAll (newM r) l).places = [] ∨ ∃ ps, (pushAll (newM r) l).places = 0 :: ps) ∧ ∀ (j p : Nat), (pushAll (newM r) l).places[j]? = some p → 3 * j ≤ p ∧ p ≤ (pushAll (newM r) l).data.length := by
  refine snoc_rec (P := fun l => ((pushAll (newM r) l).places = [] ∨ ∃ ps, (pushAll (newM r) l).places = 0 :: ps) ∧ ∀ (j p : Nat), (pushAll (newM r) l).places[j]? = some p → 3 * j ≤ p ∧ p ≤ (pushAll (newM r) l).data.length) ?_ ?_ l
  · refine ⟨.inl rfl, fun j p h => ?_⟩
    simp [pushAll, newM] at h
  · intro l x ⟨h1, h2⟩
    obtain ⟨p1, p2, p3, p4⟩ := places_inv r l
    have hld := len_data l (newM r)
    have hL3 : 3 * l.length ≤ (pushAll (newM r) l).data.length := by simpa [newM] using hld
    have hdl : (pushAll (newM r) l).data.length ≤ (pushM (pushAll (newM r) l) x).data.length := by
      show _ ≤ List.length (_ ++ _)
      rw [List.length_append]
      omega
    have hp : (pushM (pushAll (newM r) l) x).places = (pushAll (newM r) l).places ∨ (pushM (pushAll (newM r) l) x).places = (pushAll (newM r) l).places ++ [(pushAll (newM r) l).data.length] := by
      show (if _ then _ else _) = _ ∨ (if _ then _ else _) = _
      split
      · exact .inr rfl
      · exact .inl rfl
    rw [pushAll_snoc]
    rcases hp with hp | hp
    · rw [hp]
      exact ⟨h1, fun j p hj => ⟨(h2 j p hj).1, Nat.le_trans (h2 j p hj).2 hdl⟩⟩
    · rw [hp]
      refine ⟨.inr ?_, fun j p hj => ?_⟩
      · rcases h1 with h1 | ⟨ps, h1⟩
        · have h0 : l = [] := List.eq_nil_of_length_eq_zero (p1.1 (by rw [h1]; rfl))
          subst h0
          exact ⟨[], rfl⟩
        · exact ⟨ps ++ [(pushAll (newM r) l).data.length], by rw [h1]; rfl⟩
      · by_cases hlt : j < (pushAll (newM r) l).places.length
        · rw [List.getElem?_append_left hlt] at hj
          exact ⟨(h2 j p hj).1, Nat.le_trans (h2 j p hj).2 hdl⟩
        · rw [List.getElem?_append_right (by omega)] at hj
          have hz : j - (pushAll (newM r) l).places.length = 0 := by
            have := (List.getElem?_eq_some_iff.1 hj).1
            simp at this
            omega
          rw [hz, List.getElem?_cons_zero, Option.some.injEq] at hj
          subst hj
          exact ⟨by omega, hdl⟩
theorem u64w (n : Nat) (h : n < 18446744073709551616) : IntKind.u64.wrap (n : Int) = (n : Int) := by simp [IntKind.wrap, IntKind.bits, IntKind.signed]; omega
theorem number_f (n : Nat) (h : n < 18446744073709551616) : screeref2_Number.f (n : Int) = some (numL n) := by
  unfold screeref2_Number.f
  rw [if_pos ⟨by omega, by omega⟩, Int.toNat_natCast]
theorem words_f (s : ByteArray) (h : s.size ≤ 140737488) : screeref2_Words.f s = some (txL s) := by
  unfold screeref2_Words.f txL
  rw [if_pos (by omega)]
theorem txL_short (s : ByteArray) (h : s.size ≤ 140737488) : (txL s).length ≤ 140737500 := by
  have := numL_len10 (n := s.size) (by omega)
  unfold txL
  rw [List.length_append, bytesOf_length]
  omega
theorem l1_ev (l : List En) (rs : Int) (pl : List Int) (i : Nat) (hi : i < 4611686018427387904) (key : ByteArray) (seq : Int) (del : Bool) (val : ByteArray) (hk : key.size ≤ 4611686018427387) (hv : val.size ≤ 140737488) (R : List Int × List Int) (d : Nat) :
    ∀ (j : Nat) (out : List Int), j + d = key.size → out.length + d ≤ 4000000000 → Ev (fun k => screeref9_body.l0 k l rs ((out ++ (bytesOf key).drop j) ++ (if del = true then [] else txL val)) pl ((i + 1 : Nat) : Int)) R →
      Ev (fun k => screeref9_body.l1 k l rs out pl (i : Int) (j : Int) key seq del val) R := by
  have lk := bytesOf_length key
  induction d with
  | zero =>
    intro j out hj ho h
    rw [List.drop_of_length_le (by omega), List.append_nil] at h
    cases del with
    | true =>
      rw [if_pos rfl, List.append_nil] at h
      refine Ev.step (fun k => ?_) h
      rw [screeref9_body.l1, if_neg (by omega), if_pos rfl, ww i hi]
    | false =>
      rw [if_neg (by decide)] at h
      have ht := txL_short val hv
      refine Ev.step (fun k => ?_) h
      rw [screeref9_body.l1, if_neg (by omega), if_neg (by decide), words_f val hv, Option.bind_some, if_pos (by omega), ww i hi]
  | succ d ih =>
    intro j out hj ho h
    obtain ⟨h1, e1⟩ := bytesOf_bt key j (by omega)
    rw [List.drop_eq_getElem_cons h1, e1] at h
    refine Ev.step (fun k => ?_) (ih (j + 1) (out ++ [bt key (j : Int)]) (by omega) (by rw [List.length_append, List.length_singleton]; omega) ?_)
    · rw [screeref9_body.l1, if_pos (by omega), if_pos (by omega), if_pos (by omega), ww j (by omega)]
    · rw [show (out ++ [bt key (j : Int)]) ++ (bytesOf key).drop (j + 1) = out ++ bt key (j : Int) :: (bytesOf key).drop (j + 1) by simp]
      exact h
theorem j3_ev (l : List En) (rs : Int) (pl out : List Int) (i : Nat) (hi : i < 4611686018427387904) (e : En) (hok : OkE e) (n : Nat) (hn : n ≤ e.f0.size) (ho : out.length ≤ 3000000000) (R : List Int × List Int)
    (h : Ev (fun k => screeref9_body.l0 k l rs (out ++ encE n e) pl ((i + 1 : Nat) : Int)) R) : Ev (fun k => screeref9_body.j3 k l rs out pl (i : Int) (n : Int) (markE e : Int) e.f0 e.f1 e.f2 e.f3) R := by
  have hm := markE_lt hok
  obtain ⟨h1, h2, h3, h4, h5, h6⟩ := hok
  have a1 := numL_len10 (n := n) (by omega)
  have a2 := numL_len10 (n := e.f0.size - n) (by omega)
  have a3 := numL_len10 (n := markE e) (by omega)
  have hv : e.f3.size ≤ 140737488 := by
    cases hd : e.f2 with
    | true => have := h6 hd; omega
    | false => have := h5 hd; omega
  refine Ev.step (fun k => ?_) (l1_ev l rs pl i hi e.f0 e.f1 e.f2 e.f3 (by omega) hv R (e.f0.size - n) n (out ++ numL n ++ numL (e.f0.size - n) ++ numL (markE e)) (by omega) (by simp only [List.length_append]; omega) ?_)
  · rw [screeref9_body.j3, u64w n (by omega), number_f n (by omega), Option.bind_some, if_pos (by omega), Option.bind_some, show wrap64 ((e.f0.size : Int) - (n : Int)) = ((e.f0.size - n : Nat) : Int) by unfold wrap64; omega, u64w _ (by omega), number_f _ (by omega), Option.bind_some, if_pos (by rw [List.length_append]; omega), Option.bind_some, number_f _ (by omega), Option.bind_some, if_pos (by simp only [List.length_append]; omega)]
  · have e2 : (out ++ numL n ++ numL (e.f0.size - n) ++ numL (markE e) ++ (bytesOf e.f0).drop n) ++ (if e.f2 = true then [] else txL e.f3) = out ++ encE n e := by
      unfold encE
      simp only [List.append_assoc]
    rw [e2]
    exact h
theorem mark_eq (e : En) (hok : OkE e) : (e.f2 = true → IntKind.u64.wrap ((IntKind.u64.wrap (2 * e.f1)) + 1) = (markE e : Int)) ∧ (e.f2 = false → IntKind.u64.wrap (2 * e.f1) = (markE e : Int)) := by
  obtain ⟨h1, h2, h3, h4, h5, h6⟩ := hok
  unfold markE
  constructor
  · intro h
    rw [h]
    simp only [IntKind.wrap, IntKind.bits, IntKind.signed, if_true]
    simp
    omega
  · intro h
    rw [h]
    simp [IntKind.wrap, IntKind.bits, IntKind.signed]
    omega
theorem push_len (r : Int) (l : List En) (hok : ∀ e ∈ l, OkE e) : (pushAll (newM r) l).data.length ≤ 700 * l.length := by
  revert hok
  refine snoc_rec (P := fun l => (∀ e ∈ l, OkE e) → (pushAll (newM r) l).data.length ≤ 700 * l.length) (fun _ => Nat.le_refl _) ?_ l
  intro l x ih hok
  have h1 := ih (fun e he => hok e (by simp [he]))
  have h2 := (encE_bound (n := sharedM (pushAll (newM r) l) x) (hok x (by simp)) (shared_le _ x).1).1
  rw [pushAll_snoc, List.length_append, List.length_singleton]
  show (_ ++ _ : List Int).length ≤ _
  rw [List.length_append]
  omega
theorem lastK_take (l : List En) (i : Nat) (h : i < l.length) : lastK (l.take (i + 1)) = (l[i]).f0 := by
  rw [List.take_succ_eq_append_getElem h, lastK_snoc]
theorem body_ev (r : Int) (hr : r ≤ 9223372036854775807) (l : List En) (hok : ∀ e ∈ l, OkE e) (hl : l.length ≤ 1000000) (d : Nat) : ∀ i : Nat, i + d = l.length →
    Ev (fun k => screeref9_body.l0 k l ((rsOf r : Nat) : Int) (pushAll (newM r) (l.take i)).data (plcs (pushAll (newM r) (l.take i))) (i : Int)) ((pushAll (newM r) l).data, plcs (pushAll (newM r) l)) := by
  have hrs := rsOf_pos r
  have hrb : rsOf r ≤ 9223372036854775807 := by unfold rsOf; split <;> omega
  induction d with
  | zero =>
    intro i hi
    rw [show l.take i = l from List.take_of_length_le (by omega)]
    refine Ev.step (f := fun _ => some ((pushAll (newM r) l).data, plcs (pushAll (newM r) l))) (fun k => ?_) (Ev.now _)
    rw [screeref9_body.l0, if_neg (by omega)]
  | succ d ih =>
    intro i hi
    have hlt : i < l.length := by omega
    obtain ⟨m, hm⟩ : ∃ m, pushAll (newM r) (l.take i) = m := ⟨_, rfl⟩
    have hx : (rd_T53 l (i : Int)) = l[i] := by simp [rd_T53, List.getD_eq_getElem?_getD, hlt]
    obtain ⟨e, he⟩ : ∃ e, l[i] = e := ⟨_, rfl⟩
    rw [he] at hx
    have hoe : OkE e := by rw [← he]; exact hok _ (List.getElem_mem hlt)
    have hm1 : pushAll (newM r) (l.take (i + 1)) = pushM m e := by rw [List.take_succ_eq_append_getElem hlt, pushAll_snoc, hm, he]
    have hlen : m.data.length ≤ 700 * i := by
      have z := push_len r (l.take i) (fun x hx => hok x (List.mem_of_mem_take hx))
      rw [hm, List.length_take] at z
      omega
    have hpl : m.places.length ≤ i := by
      have z := (places_inv r (l.take i)).2.2.2
      rw [hm, List.length_take] at z
      omega
    have hrsn := pushAll_rs (l.take i) (newM r)
    rw [hm, List.length_take] at hrsn
    have hmn : m.n = i := by rw [hrsn.2]; show 0 + min i l.length = i; omega
    have hmr : m.rs = rsOf r := hrsn.1
    have hml : m.last = lastK (l.take i) := by rw [← hm]; exact last_eq r _
    have hI := ih (i + 1) (by omega)
    rw [hm1] at hI
    rw [hm]
    have hsh := shared_le m e
    have hnext : Ev (fun k => screeref9_body.j3 k l ((rsOf r : Nat) : Int) m.data (plcs (pushM m e)) (i : Int) ((sharedM m e : Nat) : Int) (markE e : Int) e.f0 e.f1 e.f2 e.f3) ((pushAll (newM r) l).data, plcs (pushAll (newM r) l)) :=
      j3_ev l _ _ m.data i (by omega) e hoe (sharedM m e) hsh.1 (by omega) _ hI
    have hj2 : Ev (fun k => screeref9_body.j2 k l ((rsOf r : Nat) : Int) m.data (plcs (pushM m e)) (i : Int) ((sharedM m e : Nat) : Int) e.f0 e.f1 e.f2 e.f3) ((pushAll (newM r) l).data, plcs (pushAll (newM r) l)) := by
      refine Ev.step (fun k => ?_) hnext
      have me := mark_eq e hoe
      cases hd : e.f2 with
      | true => rw [screeref9_body.j2, if_pos rfl, me.1 hd]
      | false => rw [screeref9_body.j2, if_neg (by decide), me.2 hd]
    have hmod : Int.tmod (i : Int) ((rsOf r : Nat) : Int) = ((i % rsOf r : Nat) : Int) := rfl
    by_cases hz : i % rsOf r = 0
    · have hs0 : sharedM m e = 0 := by unfold sharedM; rw [hmn, hmr, if_pos hz]
      have hpp : plcs (pushM m e) = plcs m ++ [(m.data.length : Int)] := by
        unfold plcs pushM
        simp only
        rw [hmn, hmr, if_pos hz, List.map_append]
        rfl
      rw [hs0, hpp] at hj2
      refine Ev.step (fun k => ?_) hj2
      rw [screeref9_body.l0, if_pos (by omega), if_pos (by omega), if_neg (by omega), hmod, if_pos (by omega), if_pos (by unfold plcs; rw [List.length_map]; omega), hx]
      rfl
    · have hs0 : sharedM m e = lcp (bytesOf e.f0) (bytesOf m.last) := by unfold sharedM; rw [hmn, hmr, if_neg hz]
      have hpp : plcs (pushM m e) = plcs m := by
        unfold plcs pushM
        simp only
        rw [hmn, hmr, if_neg hz]
      have hi0 : i ≠ 0 := fun h => hz (by rw [h, Nat.zero_mod])
      have hw : wrap64 ((i : Int) - 1) = ((i - 1 : Nat) : Int) := by unfold wrap64; omega
      have hx1 : (rd_T53 l ((i - 1 : Nat) : Int)).f0 = m.last := by
        have hlt1 : i - 1 < l.length := by omega
        have z := lastK_take l (i - 1) hlt1
        rw [show i - 1 + 1 = i by omega, ← hml] at z
        rw [z]
        simp [rd_T53, List.getD_eq_getElem?_getD, hlt1]
      rw [hs0, hpp, lcp_comm] at hj2
      have hls : m.last.size ≤ 64 := by
        have hlt1 : i - 1 < l.length := by omega
        have z := lastK_take l (i - 1) hlt1
        rw [show i - 1 + 1 = i by omega, ← hml] at z
        rw [z]
        exact (hok _ (List.getElem_mem hlt1)).2.1
      have hsf := shared_f m.last e.f0 (by omega)
      refine Ev.step (fun k => ?_) (Ev.bind (f := fun k (t : Int) => screeref9_body.j2 k l ((rsOf r : Nat) : Int) m.data (plcs m) (i : Int) t e.f0 e.f1 e.f2 e.f3) hsf hj2)
      rw [screeref9_body.l0, if_pos (by omega), if_pos (by omega), if_neg (by omega), hmod, if_neg (by omega), hw, if_pos (by omega), if_pos (by omega), hx1, hx]
theorem body_f (r : Int) (hr : r ≤ 9223372036854775807) (l : List En) (hok : ∀ e ∈ l, OkE e) (hl : l.length ≤ 1000000) : Ev (fun k => screeref9_body.f k l r) ((pushAll (newM r) l).data, plcs (pushAll (newM r) l)) := by
  have h := body_ev r hr l hok hl l.length 0 (by omega)
  have h0 : Ev (fun k => screeref9_body.j0 k l ((rsOf r : Nat) : Int)) ((pushAll (newM r) l).data, plcs (pushAll (newM r) l)) := by
    refine Ev.step (fun k => ?_) h
    rw [screeref9_body.j0]
    rfl
  refine Ev.congr (fun k => ?_) h0
  unfold screeref9_body.f rsOf
  by_cases h1 : r < 1
  · rw [if_pos h1, if_neg (show ¬ (1 ≤ r) by omega)]
    rfl
  · rw [if_neg h1, if_pos (show 1 ≤ r by omega), show ((r.toNat : Nat) : Int) = r by omega]
theorem four_f (p : Nat) (h : p < 4294967296) : screeref9_four.f (p : Int) = some (fourL (p : Int)) := by
  unfold screeref9_four.f screeref2_Four.f fourL
  rw [Option.bind_some]
  congr 1
  have : (p : Int) % 4294967296 = (p : Int) := by omega
  rw [this]
  congr 3
  congr 1
  omega
theorem bytes_ev (m : Mk) (hd : m.data.length ≤ 1000000000) (hb : Bytes m.data) (hp : ∀ p ∈ m.places, p < 4294967296) (hpl : m.places.length ≤ 1000000) (d : Nat) : ∀ i : Nat, i + d = m.places.length →
    Ev (fun k => screeref9_Bytes.l0 k (m.data ++ (m.places.take i).flatMap fun (p : Nat) => fourL (p : Int)) (plcs m) (i : Int)) (bytesM m) := by
  have hpm : (plcs m).length = m.places.length := by unfold plcs; rw [List.length_map]
  induction d with
  | zero =>
    intro i hi
    rw [List.take_of_length_le (by omega)]
    refine Ev.step (f := fun _ => some (bytesM m)) (fun k => ?_) (Ev.now _)
    have hbl := body_len m
    have hfl := flat_len m.places
    have hbo : Bytes (bodyM m) := bytes_app (bytes_app hb (flat4_bytes hp)) (bytes_four ⟨by omega, by omega⟩)
    have hsr := sumF_range hbo
    have hok : okB (bodyM m) = true := by
      unfold okB
      rw [List.all_eq_true]
      intro x hx
      have := hbo x hx
      simp
      omega
    rw [screeref9_Bytes.l0, if_neg (by omega), hpm, four_f _ (by omega), Option.bind_some, if_pos (by rw [List.length_append, hfl, four_len]; omega), Option.bind_some]
    rw [show m.data ++ (m.places.flatMap fun (p : Nat) => fourL (p : Int)) ++ fourL (m.places.length : Int) = bodyM m from rfl]
    unfold screeref2_Sum.f
    rw [if_pos ⟨hok, by omega⟩, Option.bind_some]
    have hf : screeref2_Four.f (sumF (bodyM m)) = some (fourL (sumF (bodyM m))) := by
      unfold screeref2_Four.f fourL
      have h2 := hsr.2
      have h1 := hsr.1
      congr 4
      congr 1
      omega
    rw [hf, Option.bind_some, if_pos (by rw [hbl, four_len]; omega)]
    rfl
  | succ d ih =>
    intro i hi
    have hlt : i < m.places.length := by omega
    have hI := ih (i + 1) (by omega)
    rw [List.take_succ_eq_append_getElem hlt, List.flatMap_append, List.flatMap_cons, List.flatMap_nil, List.append_nil, ← List.append_assoc] at hI
    have hr : rd (plcs m) (i : Int) = ((m.places[i] : Nat) : Int) := by
      unfold plcs
      simp [rd, List.getD_eq_getElem?_getD, hlt]
    have hfl := flat_len (m.places.take i)
    rw [List.length_take] at hfl
    refine Ev.step (fun k => ?_) hI
    rw [screeref9_Bytes.l0, if_pos (by omega), if_pos (by omega), hr, four_f _ (hp _ (List.getElem_mem hlt)), Option.bind_some, if_pos (by rw [List.length_append, hfl, four_len]; omega), ww i (by omega)]
theorem bytes_f (r : Int) (hr : r ≤ 9223372036854775807) (l : List En) (hok : ∀ e ∈ l, OkE e) (hl : l.length ≤ 1000000) (hg : Bytes (pushAll (newM r) l).data) : Ev (fun k => screeref9_Bytes.f k l r) (bytesM (pushAll (newM r) l)) := by
  obtain ⟨m, hm⟩ : ∃ m, pushAll (newM r) l = m := ⟨_, rfl⟩
  have h1 := body_f r hr l hok hl
  have h2 := push_len r l hok
  have h3 := (places_inv r l).2.2.2
  have h4 := (places_facts r l).2
  rw [hm] at h1 h2 h3 h4 hg ⊢
  have h5 := bytes_ev m (by omega) hg (fun p hp => by
    obtain ⟨j, hj⟩ := List.getElem?_of_mem hp
    have := (h4 j p hj).2
    omega) (by omega) m.places.length 0 (by omega)
  rw [List.take_zero, List.flatMap_nil, List.append_nil] at h5
  unfold screeref9_Bytes.f
  exact Ev.bind h1 h5
end Go.Proofs.YtaonjmkfbfhanaaGreatDoor.Rf
namespace Go.Proofs.YtaonjmkfbfhanaaGreatDoor.Rf
open Go.RowKit Go.Proofs.YtaonjmkfbfhanaaGreatDoorW.PrintWords Go.Proofs.YtaonjmkfbfhanaaGreatDoor.Own Go.Proofs.YtaonjmkfbfhanaaGreatDoor.G Go.Proofs.YtaonjmkfbfhanaaGreatDoor.Wk Go.Proofs.YtaonjmkfbfhanaaGreatDoor.QBo Go.Proofs.YtaonjmkfbfhanaaGreatDoor.Bk
set_option linter.unusedVariables false
/-- Entries that were all taken. -/
def Taken (es : List En) : Prop := addsM (newM 1) es = some (pushAll (newM 1) es) ∧ ∀ e ∈ es, EnW e
theorem adds_snoc : ∀ (l : List En) (m : Mk) (x : En), addsM m l = some (pushAll m l) → (addM (pushAll m l) x).1 = 0 → addsM m (l ++ [x]) = some (pushAll m (l ++ [x])) := by
  intro l
  induction l with
  | nil =>
    intro m x h h0
    show (if (addM m x).1 = 0 then some (addM m x).2 else none) = _
    have h0' : (addM m x).1 = 0 := h0
    rw [if_pos h0', (addM_zero h0').1]
    rfl
  | cons e l ih =>
    intro m x h h0
    unfold addsM at h
    by_cases he : (addM m e).1 = 0
    · rw [if_pos he, (addM_zero he).1] at h
      have := ih (pushM m e) x h h0
      show (if (addM m e).1 = 0 then addsM (addM m e).2 (l ++ [x]) else none) = _
      rw [if_pos he, (addM_zero he).1, this]
      rfl
    · rw [if_neg he] at h
      cases h
theorem adds_split : ∀ (l : List En) (m : Mk) (x : En), addsM m (l ++ [x]) = some (pushAll m (l ++ [x])) → addsM m l = some (pushAll m l) ∧ (addM (pushAll m l) x).1 = 0 := by
  intro l
  induction l with
  | nil =>
    intro m x h
    have h' : (if (addM m x).1 = 0 then some (addM m x).2 else none) = some (pushAll m [x]) := h
    refine ⟨rfl, ?_⟩
    by_cases h0 : (addM m x).1 = 0
    · exact h0
    · rw [if_neg h0] at h'
      cases h'
  | cons e l ih =>
    intro m x h
    have h' : (if (addM m e).1 = 0 then addsM (addM m e).2 (l ++ [x]) else none) = some (pushAll m (e :: (l ++ [x]))) := h
    by_cases he : (addM m e).1 = 0
    · rw [if_pos he, (addM_zero he).1] at h'
      obtain ⟨h1, h2⟩ := ih (pushM m e) x h'
      refine ⟨?_, h2⟩
      show (if (addM m e).1 = 0 then addsM (addM m e).2 l else none) = _
      rw [if_pos he, (addM_zero he).1, h1]
      rfl
    · rw [if_neg he] at h'
      cases h'
theorem Taken.ok {es : List En} (h : Taken es) : ∀ e ∈ es, OkE e := fun e he => okE_of ((adds_push es h.1).2.1 e he) (h.2 e he)
theorem Taken.any {es : List En} (h : Taken es) (r : Int) : addsM (newM r) es = some (pushAll (newM r) es) := adds_any es (m := newM 1) (m' := newM r) rfl rfl h.1
theorem Taken.snoc {es : List En} {x : En} (h : Taken es) (h0 : (addM (pushAll (newM 1) es) x).1 = 0) (hx : EnW x) : Taken (es ++ [x]) :=
  ⟨adds_snoc es (newM 1) x h.1 h0, fun e he => by
    rcases List.mem_append.1 he with he | he
    · exact h.2 e he
    · rw [List.mem_singleton.1 he]; exact hx⟩
theorem Taken.bytes {es : List En} (h : Taken es) (r : Int) : Bytes (pushAll (newM r) es).data := by
  have key : ∀ l : List En, (∀ e ∈ l, OkE e) → Bytes (pushAll (newM r) l).data := by
    intro l
    refine snoc_rec (P := fun l => (∀ e ∈ l, OkE e) → Bytes (pushAll (newM r) l).data) (fun _ => (by intro x hx; exact absurd hx List.not_mem_nil)) ?_ l
    intro l x ih hok
    have h1 := ih (fun e he => hok e (by simp [he]))
    have h2 := (encE_bound (n := sharedM (pushAll (newM r) l) x) (hok x (by simp)) (shared_le _ x).1).2
    rw [pushAll_snoc]
    exact bytes_app h1 h2
  exact key es h.ok
theorem Taken.last {es : List En} (h : Taken es) : (pushAll (newM 1) es).last.size ≤ 64 ∧ (pushAll (newM 1) es).n = es.length ∧ (pushAll (newM 1) es).last = lastK es := by
  have h1 := pushAll_rs es (newM 1)
  have h2 := last_eq 1 es
  refine ⟨?_, by rw [h1.2]; simp [newM], h2⟩
  rw [h2]
  unfold lastK
  split
  · exact Nat.zero_le _
  · rename_i hl
    have hlt : es.length - 1 < es.length := by omega
    have : rd_T53 es ((es.length - 1 : Nat) : Int) = es[es.length - 1] := by simp [rd_T53, List.getD_eq_getElem?_getD, hlt]
    rw [this]
    exact (h.ok _ (List.getElem_mem hlt)).2.1
theorem taken_nil : Taken [] := ⟨rfl, fun e he => absurd he List.not_mem_nil⟩
theorem refAdds_calls {w : World} {A : Option Addr} {n c : Nat} {es : List En} (x : En) (h : Rd kE w A n c es) (hl : es.length ≤ 4611686018427387) (ht : Taken es) (hx : x.f0.size < 4611686018427387904) :
    Calls Tryz.prog 8 #[.slice A n c, .agg #[.string x.f0, .int .u64 x.f1, .bool x.f2, .string x.f3]] w fun e w' => e = .returned (.int .i64 (addM (pushAll (newM 1) es) x).1) ∧ Below w.heap.size w w' := by
  obtain ⟨e1, h2, h3⟩ := h
  subst e1
  have hkl := ht.last
  obtain ⟨k, hk⟩ := (adds_f es x (pushAll (newM 1) es) hkl.2.1 hkl.2.2 (by omega) hx (by omega)).rounds
  exact screeref9_Adds.calls k A c es x.f0 x.f1 x.f2 x.f3 _ w h3 h2 hk
theorem refBytes_calls {w : World} {A : Option Addr} {n c : Nat} {es : List En} (r : Int) (hr : r ≤ 9223372036854775807) (h : Rd kE w A n c es) (hl : es.length ≤ 1000000) (ht : Taken es) :
    Calls Tryz.prog 11 #[.slice A n c, .int .i64 r] w fun e w' => ∃ v : Value, e = .returned v ∧ Kd.R (Kd.int .u8) 5 w' w.heap.size (fun _ => True) v (bytesM (pushAll (newM r) es)) ∧ Below w.heap.size w w' := by
  obtain ⟨e1, h2, h3⟩ := h
  subst e1
  obtain ⟨k, hk⟩ := (bytes_f r hr es ht.ok hl (ht.bytes r)).rounds
  exact screeref9_Bytes.calls k A c es r _ w h3 h2 hk
theorem bytesM_small {r : Int} {m : Mk} {k : Nat} (h : GoodM r m k) : (bytesM m).length ≤ 704 * k + 8 := by
  rw [bytesM_len]
  have h1 := h.data
  have h2 := h.places
  omega
/-- A maker that took entries. -/
theorem Taken.good {es : List En} (h : Taken es) (r : Int) : GoodM r (pushAll (newM r) es) es.length := by
  have key : ∀ l : List En, (∀ e ∈ l, EnW e) → addsM (newM r) l = some (pushAll (newM r) l) → GoodM r (pushAll (newM r) l) l.length := by
    intro l
    refine snoc_rec (P := fun l => (∀ e ∈ l, EnW e) → addsM (newM r) l = some (pushAll (newM r) l) → GoodM r (pushAll (newM r) l) l.length) (fun _ _ => goodM_new r) ?_ l
    intro l x ih hw ha
    have h1 : addsM (newM r) l = some (pushAll (newM r) l) ∧ (addM (pushAll (newM r) l) x).1 = 0 := adds_split l (newM r) x ha
    have h2 := ih (fun e he => hw e (by simp [he])) h1.1
    have h3 := goodM_step h2 h1.2 (hw x (by simp))
    rw [(addM_zero h1.2).1] at h3
    rw [pushAll_snoc, List.length_append]
    exact h3
  exact key es h.2 (h.any r)
theorem addM_fst (r : Int) (l : List En) (x : En) : (addM (pushAll (newM r) l) x).1 = (addM (pushAll (newM 1) l) x).1 := by
  have h1 := (pushAll_rs l (newM r)).2
  have h2 := (pushAll_rs l (newM 1)).2
  have e1 : (pushAll (newM r) l).n = (pushAll (newM 1) l).n := by rw [h1, h2]; rfl
  have e2 : (pushAll (newM r) l).last = (pushAll (newM 1) l).last := by rw [last_eq, last_eq]
  unfold addM
  rw [e1, e2]
  split
  · rfl
  · split <;> rfl
end Go.Proofs.YtaonjmkfbfhanaaGreatDoor.Rf
namespace Go.Proofs.YtaonjmkfbfhanaaGreatDoor.Bk
open Go.RowKit Go.Proofs.YtaonjmkfbfhanaaGreatDoorW.PrintWords Go.Proofs.YtaonjmkfbfhanaaGreatDoor.Own Go.Proofs.YtaonjmkfbfhanaaGreatDoor.G Go.Proofs.YtaonjmkfbfhanaaGreatDoor.Wk Go.Proofs.YtaonjmkfbfhanaaGreatDoor.QBo
set_option linter.unusedVariables false
theorem same_calls {w : World} {A1 A2 : Option Addr} {n1 c1 n2 c2 : Nat} {l1 l2 : List Int} (h1 : Rd (Kd.int .u8) w A1 n1 c1 l1) (h2 : Rd (Kd.int .u8) w A2 n2 c2 l2) (hl : l1.length ≤ 1000000000) :
    Calls Tryz.prog 13 #[.slice A1 n1 c1, .slice A2 n2 c2] w fun e w' => e = .returned (.bool (decide (l1 = l2))) ∧ Below w.heap.size w w' := by
  obtain ⟨e1, hc1, h1⟩ := h1
  obtain ⟨e2, hc2, h2⟩ := h2
  subst e1
  subst e2
  refine (screelaw9_same.calls A1 c1 l1 A2 c2 l2 (decide (l1 = l2)) w h1 hc1 h2 hc2 (by unfold screelaw9_same.f; rw [if_pos (by omega)])).mono ?_
  rintro e w' ⟨rfl, h⟩
  exact ⟨rfl, by first | exact h | exact h.below⟩
end Go.Proofs.YtaonjmkfbfhanaaGreatDoor.Bk
namespace Go.Proofs.YtaonjmkfbfhanaaGreatDoor.SmE
open Go.RowKit Go.Proofs.YtaonjmkfbfhanaaGreatDoorW.PrintWords Go.Proofs.YtaonjmkfbfhanaaGreatDoor.Own Go.Proofs.YtaonjmkfbfhanaaGreatDoor.Wk Go.Proofs.YtaonjmkfbfhanaaGreatDoor.QBo
open Go.Proofs.YtaonjmkfbfhanaaGreatDoor.Bk (En kE)
set_option linter.unusedVariables false
/-- A state of the count: so many parts more, or none. -/
def addC (s n : Int) : Int := if s ≥ 0 then s - n else s
def cntE : Int → List En → Int
  | s, [] => s
  | s, x :: l => if s ≥ 0 then cntE (addC (addC s (1 + (x.f0.size : Int))) (x.f3.size : Int)) l else s
/-- How many parts entries have. -/
def partsE (l : List En) : Nat := (l.map fun x => 1 + x.f0.size + x.f3.size).sum
/-- Their texts are no greater than what can be read. -/
def FitE (l : List En) : Prop := ∀ x ∈ l, x.f0.size ≤ 140737488351232 ∧ x.f3.size ≤ 140737488351232
def In (s : Int) : Prop := -1000000000000000 ≤ s ∧ s ≤ 32768
theorem addC_in {s n : Int} (h : In s) (h0 : 0 ≤ n) (h1 : n ≤ 140737488355328) : In (addC s n) := by
  unfold In at *; unfold addC; split <;> omega
theorem wrap_in {a : Int} (h0 : -9223372036854775808 ≤ a) (h1 : a < 9223372036854775808) : wrap64 a = a := by unfold wrap64; omega
theorem add_eq {s n : Int} (h : In s) (h0 : 0 ≤ n) (h1 : n ≤ 140737488355328) : ∃ b, screeroom_Count_Add.f s n = some (b, addC s n) := by
  unfold screeroom_Count_Add.f addC
  unfold In at h
  split
  · rw [wrap_in (by omega) (by omega)]; exact ⟨_, rfl⟩
  · exact ⟨_, rfl⟩
theorem text_eq {s : Int} {x : ByteArray} (h : In s) (hx : x.size ≤ 140737488351232) : screeroom_Count_Text.f s x = some (addC s (1 + (x.size : Int))) := by
  unfold screeroom_Count_Text.f
  rw [wrap_in (by omega) (by omega)]
  obtain ⟨b, hb⟩ := add_eq h (n := 1 + (x.size : Int)) (by omega) (by omega)
  rw [hb]
  rfl
theorem entries_ev (l : List En) (hl : l.length ≤ 140737488351232) (hf : FitE l) (d : Nat) : ∀ (i : Nat) (s : Int), i + d = l.length → In s → Ev (fun k => screeroom_Count_Entries.l0 k l (i : Int) s) (cntE s (l.drop i)) := by
  induction d with
  | zero =>
    intro i s hi hs
    refine Ev.step (f := fun k => screeroom_Count_Entries.j1 k l (i : Int) false s) (fun k => ?_) (Ev.step (f := fun _ => some s) (fun k => ?_) ?_)
    · rw [screeroom_Count_Entries.l0, if_neg (by omega)]
    · rw [screeroom_Count_Entries.j1, if_neg (by decide)]
    · rw [List.drop_of_length_le (by omega)]; exact Ev.now _
  | succ d ih =>
    intro i s hi hs
    have hlt : i < l.length := by omega
    have hx : (rd_T53 l (i : Int)) = l[i] := by simp [rd_T53, List.getD_eq_getElem?_getD, hlt]
    rw [List.drop_eq_getElem_cons hlt]
    unfold cntE
    by_cases h0 : s ≥ 0
    · rw [if_pos h0]
      have hm := hf l[i] (List.getElem_mem hlt)
      have hs1 := addC_in hs (n := 1 + (l[i].f0.size : Int)) (by omega) (by omega)
      have hs2 := addC_in hs1 (n := (l[i].f3.size : Int)) (by omega) (by omega)
      obtain ⟨b, hb⟩ := add_eq hs1 (n := (l[i].f3.size : Int)) (by omega) (by omega)
      refine Ev.step (f := fun k => screeroom_Count_Entries.j1 k l (i : Int) true s) (fun k => ?_) (Ev.step (fun k => ?_) (ih (i + 1) _ (by omega) hs2))
      · rw [screeroom_Count_Entries.l0, if_pos (by omega)]
        unfold screeroom_Count_Ok.f
        rw [decide_eq_true h0]
        rfl
      · rw [screeroom_Count_Entries.j1, if_pos rfl, if_pos (by omega), if_pos (by omega), hx, text_eq hs hm.1, Option.bind_some, hb, Option.bind_some, wrap_in (by omega) (by omega)]
        rfl
    · rw [if_neg h0]
      refine Ev.step (f := fun k => screeroom_Count_Entries.j1 k l (i : Int) false s) (fun k => ?_) (Ev.step (f := fun _ => some s) (fun k => ?_) (Ev.now _))
      · rw [screeroom_Count_Entries.l0, if_pos (by omega)]
        unfold screeroom_Count_Ok.f
        rw [decide_eq_false h0]
        rfl
      · rw [screeroom_Count_Entries.j1, if_neg (by decide)]
theorem entries_eq {l : List En} {s : Int} (hl : l.length ≤ 140737488351232) (hf : FitE l) (hs : In s) : ∃ k, screeroom_Count_Entries.f k s l = some (cntE s l) := by
  have h := (entries_ev l hl hf l.length 0 s (by omega) hs).rounds
  exact h
theorem cntE_parts {l : List En} : ∀ {s : Int}, 0 ≤ cntE s l → 0 ≤ s ∧ (partsE l : Int) + cntE s l = s := by
  induction l with
  | nil => intro s h; exact ⟨h, by simp [partsE, cntE]⟩
  | cons x l ih =>
    intro s h
    unfold cntE at h ⊢
    by_cases h0 : s ≥ 0
    · rw [if_pos h0] at h ⊢
      obtain ⟨h1, h2⟩ := ih h
      have hp : partsE (x :: l) = 1 + x.f0.size + x.f3.size + partsE l := by simp [partsE]
      have h3 : 0 ≤ addC s (1 + (x.f0.size : Int)) := by
        rcases Int.lt_or_le (addC s (1 + (x.f0.size : Int))) 0 with hlt | hge
        · have : addC (addC s (1 + (x.f0.size : Int))) (x.f3.size : Int) = addC s (1 + (x.f0.size : Int)) := by rw [addC, if_neg (by omega)]
          omega
        · exact hge
      have e1 : addC s (1 + (x.f0.size : Int)) = s - (1 + (x.f0.size : Int)) := by rw [addC, if_pos h0]
      have e2 : addC (addC s (1 + (x.f0.size : Int))) (x.f3.size : Int) = addC s (1 + (x.f0.size : Int)) - (x.f3.size : Int) := by rw [addC, if_pos h3]
      exact ⟨h0, by rw [hp]; omega⟩
    · rw [if_neg h0] at h
      omega
/-- screelaw9.small. -/
def smallB (l : List En) : Bool := decide (l.length ≤ 200) && decide (0 ≤ cntE 32768 l)
theorem smallB_true {l : List En} (h : smallB l = true) : l.length ≤ 200 ∧ partsE l ≤ 32768 := by
  unfold smallB at h
  rw [Bool.and_eq_true, decide_eq_true_eq, decide_eq_true_eq] at h
  obtain ⟨h1, h2⟩ := h
  have := (cntE_parts h2).2
  exact ⟨h1, by omega⟩
theorem small_calls {w : World} {A : Option Addr} {n c : Nat} {l : List En} (h : Rd kE w A n c l) (hl : l.length ≤ 140737488351232) (hf : FitE l) :
    Calls Tryz.prog 5 #[.slice A n c] w fun e w' => e = .returned (.bool (smallB l)) ∧ Below w.heap.size w w' := by
  obtain ⟨e1, h2, h3⟩ := h
  subst e1
  obtain ⟨k, hk⟩ := entries_eq hl hf (s := 32768) ⟨by decide, by decide⟩
  refine (screelaw9_small.calls k A c l (smallB l) w h3 h2 ?_).mono ?_
  · unfold screelaw9_small.f screeroom_Many.f
    rw [Option.bind_some, hk, Option.bind_some]
    unfold smallB screeroom_Count_Ok.f
    by_cases h200 : l.length ≤ 200
    · rw [if_pos (by omega), decide_eq_true h200]
      rfl
    · rw [if_neg (by omega), decide_eq_false h200]
      rfl
  · rintro e w' ⟨rfl, hb⟩
    exact ⟨rfl, by first | exact hb | exact hb.below⟩
end Go.Proofs.YtaonjmkfbfhanaaGreatDoor.SmE
namespace Go.Proofs.YtaonjmkfbfhanaaGreatDoor
open Go.ChangeShapes Go.WideShapes Go.ChangeAt Go.RowKit
theorem bound {H : Type} {l : List (DataW H)} (hk : Rows.uptoSmall H l = true) : Rows.uptoBulkAll l ≤ 1048576 := of_decide_eq_true hk
end Go.Proofs.YtaonjmkfbfhanaaGreatDoor
namespace Go.Proofs.YtaonjmkfbfhanaaGreatDoor
namespace Opn
open Go.ChangeShapes Go.WideShapes Go.ChangeAt Go.RowKit Go.Deep
open YtaonjmkfbfhanaaGreatDoorW.PrintWords
set_option linter.unusedVariables false
/-- The values of a type that came in, read as kind d: what holds of them; how much they bulk. -/
def Opens {H : Type} (enc : TypeId × Value → H) (P : Program) (W : World) (e : TypeId) {α : Type} (d : Kd α) (G : α → Prop) (wt : α → Nat) : Prop :=
  ∀ (base : Nat) (held : Bool) (fuel : Nat) (cs : List Value) (x : DataW H × List MemPlace), DataW.trod enc P W base (fun _ => true) held fuel e cs = some x → (∀ n ∈ x.1.weights P e, n ≤ 140737488351232) → ∃ v, d.K W v cs ∧ G v ∧ wt v ≤ Rows.uptoBulk x.1
section
variable {H : Type} {enc : TypeId × Value → H} {P : Program} {W : World} {t e : TypeId}
theorem opens_int {k : IntKind} (he : P.underlying e = some (.int k)) : Opens enc P W e (Kd.int k) (fun n => (Lit.int k n).wf = true) (fun _ => 1) := by
  intro base held fuel cs x h hw
  obtain ⟨n, rfl, rfl, hwf⟩ := DataW.trod_int he h
  exact ⟨n, rfl, hwf, by simp [Rows.uptoBulk]⟩
theorem opens_bool (he : P.underlying e = some .bool) : Opens enc P W e Kd.bool (fun _ => True) (fun _ => 1) := by
  intro base held fuel cs x h hw
  obtain ⟨n, rfl, rfl⟩ := DataW.trod_bool he h
  exact ⟨n, rfl, trivial, by simp [Rows.uptoBulk]⟩
theorem opens_str (he : P.underlying e = some .string) : Opens enc P W e Kd.string (fun s => s.size ≤ 140737488351232) (fun s => s.size + 1) := by
  intro base held fuel cs x h hw
  obtain ⟨s, rfl, rfl, hm⟩ := DataW.trod_string he h
  have hl : s.data.toList.length = s.size := Array.length_toList
  refine ⟨s, rfl, ?_, by simp only [Rows.uptoBulk, hl]; exact Nat.le_refl _⟩
  have := hw s.data.toList.length (by simp [DataW.weights])
  rw [hl] at this
  exact this
theorem list_of {α : Type} (n : Nat) (Q : Nat → α → Prop) (h : ∀ i, i < n → ∃ v, Q i v) : ∃ l : List α, l.length = n ∧ ∀ i v, l[i]? = some v → Q i v := by
  induction n with
  | zero => exact ⟨[], rfl, fun i v hv => by simp at hv⟩
  | succ n ih =>
    obtain ⟨l, hl, hq⟩ := ih (fun i hi => h i (by omega))
    obtain ⟨v, hv⟩ := h n (by omega)
    refine ⟨l ++ [v], by simp [hl], fun i u hu => ?_⟩
    by_cases hi : i < l.length
    · rw [List.getElem?_append_left hi] at hu
      exact hq i u hu
    · rw [List.getElem?_append_right (by omega)] at hu
      have h0 : i - l.length = 0 := by
        have := (List.getElem?_eq_some_iff.1 hu).1
        simp at this
        omega
      rw [h0] at hu
      simp at hu
      have hin : i = n := by omega
      subst hu
      subst hin
      exact hv
theorem bulk_all (l : List (DataW H)) : Rows.uptoBulkAll l = (l.map Rows.uptoBulk).sum := by
  induction l with
  | nil => simp [Rows.uptoBulkAll]
  | cons d l ih => simp [Rows.uptoBulkAll, ih]
theorem weights_all {d : DataW H} {l : List (DataW H)} (hd : d ∈ l) : ∀ n ∈ d.weights P e, n ∈ DataW.weightsAll P e l := by
  induction l with
  | nil => cases hd
  | cons y l ih =>
    intro n hn
    simp only [DataW.weightsAll, List.mem_append]
    rcases List.mem_cons.1 hd with rfl | hd
    · exact .inl hn
    · exact .inr (ih hd n hn)
theorem sum_bulk {α : Type} (wt : α → Nat) (l : List α) : ∀ (D : Nat → DataW H) (o : Nat), (∀ i v, l[i]? = some v → wt v ≤ Rows.uptoBulk (D (o + i))) → (l.map wt).sum ≤ (((List.range l.length).map fun i => D (o + i)).map Rows.uptoBulk).sum := by
  induction l with
  | nil => intro D o h; simp
  | cons x l ih =>
    intro D o h
    have h0 := h 0 x rfl
    have h1 := ih D (o + 1) (fun i v hv => by rw [Nat.add_assoc, Nat.add_comm 1]; exact h (i + 1) v (by simpa using hv))
    simp only [List.map_cons, List.sum_cons, List.length_cons, List.range_succ_eq_map, List.map_map]
    simp only [List.map_map] at h1
    have e : (Rows.uptoBulk ∘ (fun i => D (o + i)) ∘ Nat.succ) = (Rows.uptoBulk ∘ fun i => D (o + 1 + i)) := by
      funext i
      simp only [Function.comp]
      rw [show o + i.succ = o + 1 + i by omega]
    rw [e]
    simp only [Nat.add_zero] at h0 ⊢
    omega
theorem opens_slice {α : Type} {d : Kd α} {G : α → Prop} {wt : α → Nat} (ht : P.underlying t = some (.slice e)) (hc : P.cellsOf e = d.sz) (h : Opens enc P W e d G wt) :
    Opens enc P W t (Kd.slice e d) (fun l => l.length * P.bytesOf e ≤ 140737488351232 ∧ ∀ x ∈ l, G x) (fun l => (l.map wt).sum + 1) := by
  intro base held fuel cs x hx hw
  rcases open_slice ht hx with ⟨rfl, rfl⟩ | ⟨a, len, cap, m, n, D, Pl, rfl, hb, hl, hm, hmm, rfl, hi⟩
  · exact ⟨[], ⟨none, 0, rfl, Nat.le_refl _, Kd.C_nil _ _⟩, ⟨by simp, fun x hx => by cases hx⟩, by simp [Rows.uptoBulk]⟩
  · simp only [if_true] at hmm
    subst hmm
    have hwe : ∀ i, i < m → ∀ q ∈ (D i).weights P e, q ≤ 140737488351232 := by
      intro i him q hq
      refine hw q ?_
      simp only [DataW.weights, ht, List.mem_cons, List.mem_append]
      right
      by_cases hil : i < len
      · exact .inl (weights_all (List.mem_map.2 ⟨i, List.mem_range.2 hil, rfl⟩) q hq)
      · exact .inr (weights_all (List.mem_map.2 ⟨i - len, List.mem_range.2 (by omega), by rw [show len + (i - len) = i by omega]⟩) q hq)
    obtain ⟨l, hll, hq⟩ := list_of len (fun i v => ∃ cs', W.cells? base (a.add (i * P.cellsOf e)) (P.cellsOf e) = some cs' ∧ d.K W v cs' ∧ G v ∧ wt v ≤ Rows.uptoBulk (D i)) (fun i hil => by
      obtain ⟨cs', h1, h2⟩ := hi i (by omega)
      obtain ⟨v, k1, k2, k3⟩ := h base held n cs' (D i, Pl i) h2 (hwe i (by omega))
      exact ⟨v, cs', h1, k1, k2, k3⟩)
    refine ⟨l, ⟨some a, m, by rw [hll], by omega, rfl, by unfold maxLen at hm; omega, fun h0 => ⟨a, rfl, fun j p hp => ?_⟩⟩, ⟨?_, fun v hv => ?_⟩, ?_⟩
    · obtain ⟨cs', h1, k1, k2, k3⟩ := hq j p hp
      obtain ⟨_, hcl, hat⟩ := World.cells?_some h1
      rw [hc] at hcl hat
      refine ⟨cs', hcl, k1, fun i u hu => ?_⟩
      have hil : i < d.sz := by rw [← hcl]; exact (List.getElem?_eq_some_iff.1 hu).1
      have := hat i hil
      rw [hu, Go.Deep.add_add] at this
      exact this
    · have := hw ((len + (m - len)) * P.bytesOf e) (by simp [DataW.weights, ht])
      rw [hll]
      refine Nat.le_trans (Nat.mul_le_mul_right _ ?_) this
      omega
    · obtain ⟨i, hiv⟩ := List.getElem?_of_mem hv
      obtain ⟨cs', h1, k1, k2, k3⟩ := hq i v hiv
      exact k2
    · have hs := sum_bulk wt l D 0 (fun i v hv => by
        obtain ⟨cs', h1, k1, k2, k3⟩ := hq i v hv
        rw [Nat.zero_add]
        exact k3)
      simp only [Nat.zero_add] at hs
      rw [hll] at hs
      have e0 : (fun i => D i) = D := rfl
      rw [e0] at hs
      simp only [Rows.uptoBulk, bulk_all]
      omega
theorem field_at {fs : Array Field} {cs : List Value} (hone : oneCellFields P fs = true) (hcl : cs.length = fs.size) {xs : List (DataW H × List MemPlace)} {n base : Nat} {held : Bool}
    (hf : ∀ (i : Nat) (f : Field), fs[i]? = some f → DataW.trod enc P W base (fun _ => true) held n f.type ((cs.drop f.offset).take (P.cellsOf f.type)) = xs[i]?) (j : Nat) (f : Field) (hj : fs[j]? = some f) : ∃ v, cs[j]? = some v ∧ DataW.trod enc P W base (fun _ => true) held n f.type [v] = xs[j]? := by
  obtain ⟨ho, hk⟩ := hone_of hone j f hj
  have hjl : j < cs.length := by rw [hcl]; exact (Array.getElem?_eq_some_iff.1 hj).1
  have h1 := hf j f hj
  rw [ho, hk, List.drop_eq_getElem_cons hjl] at h1
  exact ⟨cs[j], List.getElem?_eq_getElem hjl, h1⟩
theorem each_mem {ts : List TypeId} {ds : List (DataW H)} {j : Nat} {u : TypeId} {d : DataW H} (ht : ts[j]? = some u) (hd : ds[j]? = some d) (hw : ∀ n ∈ DataW.weightsEach P ts ds, n ≤ 140737488351232) : ∀ n ∈ d.weights P u, n ≤ 140737488351232 := fun n hn => hw n (DataW.weights_mem_each ht hd n hn)
/-- A slice that is an argument. -/
theorem slice_arg {α : Type} {d : Kd α} {G : List α → Prop} {wt : List α → Nat} {base : Nat} {held : Bool} {a : Option Addr} {len cap : Nat} {da : DataW H} {ps : List MemPlace} {ts : List TypeId} {ds : List (DataW H)} {j : Nat} (ho : Opens enc P W t (Kd.slice e d) G wt)
    (hsz : (DataW.weightsEach P ts ds).all (· ≤ reachBytes) = true) (hts : ts[j]? = some t) (hds : ds[j]? = some da) (h : DataW.Trod enc P W base (fun _ => true) held t (.slice a len cap) da ps) :
    ∃ l : List α, len = l.length ∧ d.C W a l.length l ∧ l.length ≤ cap ∧ G l ∧ wt l ≤ Rows.uptoBulk da := by
  obtain ⟨fuel, hf⟩ := h
  obtain ⟨l, ⟨A, c, he, hlc, hC⟩, hg, hb⟩ := ho base held fuel _ _ hf (fun n hn => by
    exact of_decide_eq_true (List.all_eq_true.1 hsz n (DataW.weights_mem_each hts hds n hn)))
  simp only [Value.cells, List.cons.injEq, and_true, Value.slice.injEq] at he
  obtain ⟨rfl, rfl, rfl⟩ := he
  exact ⟨l, rfl, hC, hlc, hg, hb⟩
end
end Opn
end Go.Proofs.YtaonjmkfbfhanaaGreatDoor
namespace Go.Proofs.YtaonjmkfbfhanaaGreatDoor
namespace Opn
open Go.ChangeShapes Go.WideShapes Go.ChangeAt Go.RowKit Go.Deep
open YtaonjmkfbfhanaaGreatDoorW.PrintWords
set_option linter.unusedVariables false
section
variable {H : Type} {enc : TypeId × Value → H} {P : Program} {W : World} {t : TypeId}
/-- A struct of a text, a number, a bool, a text. -/
theorem opens_subs {α : Type} {d : Kd α} {f0 f1 f2 f3 : Field} {mk : ByteArray → Int → Bool → ByteArray → α} {G : α → Prop} {wt : α → Nat} (ht : P.underlying t = some (.struct #[f0, f1, f2, f3])) (hone : oneCellFields P #[f0, f1, f2, f3] = true) (hC : P.cellsOf t = 4)
    (h0 : P.underlying f0.type = some .string) (h1 : P.underlying f1.type = some (.int .u64)) (h2 : P.underlying f2.type = some .bool) (h3 : P.underlying f3.type = some .string) (hK : ∀ a n b c, d.K W (mk a n b c) [.string a, .int .u64 n, .bool b, .string c])
    (hG : ∀ a n b c, a.size ≤ 140737488351232 → (Lit.int .u64 n).wf = true → c.size ≤ 140737488351232 → G (mk a n b c)) (hwt : ∀ a n b c, wt (mk a n b c) ≤ a.size + c.size + 5) : Opens enc P W t d G wt := by
  intro base held fuel cs x hx hw
  obtain ⟨xs, n, _, rfl, hcl, hxl, hf⟩ := DataW.trod_struct ht hx
  rw [hC] at hcl
  obtain ⟨v0, e0, g0⟩ := field_at hone hcl hf 0 f0 rfl
  obtain ⟨v1, e1, g1⟩ := field_at hone hcl hf 1 f1 rfl
  obtain ⟨v2, e2, g2⟩ := field_at hone hcl hf 2 f2 rfl
  obtain ⟨v3, e3, g3⟩ := field_at hone hcl hf 3 f3 rfl
  have hxl' : xs.length = 4 := hxl
  match xs, hxl' with
  | [y0, y1, y2, y3], _ =>
    match cs, hcl with
    | [c0, c1, c2, c3], _ =>
      simp only [List.getElem?_cons_zero, List.getElem?_cons_succ, Option.some.injEq] at e0 e1 e2 e3 g0 g1 g2 g3
      subst e0 e1 e2 e3
      simp only [List.map_cons, List.map_nil, DataW.weights, ht] at hw
      have w0 := each_mem (P := P) (j := 0) (ts := [f0.type, f1.type, f2.type, f3.type]) (ds := [y0.1, y1.1, y2.1, y3.1]) rfl rfl hw
      have w3 := each_mem (P := P) (j := 3) (ts := [f0.type, f1.type, f2.type, f3.type]) (ds := [y0.1, y1.1, y2.1, y3.1]) rfl rfl hw
      obtain ⟨s0, hk0, q0, b0⟩ := opens_str h0 base held n [c0] y0 g0 w0
      obtain ⟨s1, hk1, q1, b1⟩ := opens_int h1 base held n [c1] y1 g1 (fun n hn => by
        obtain ⟨b, _, hy, _⟩ := DataW.trod_int h1 g1
        rw [hy] at hn
        simp [DataW.weights] at hn)
      obtain ⟨s2, hk2, q2, b2⟩ := opens_bool h2 base held n [c2] y2 g2 (fun n hn => by
        obtain ⟨b, _, hy⟩ := DataW.trod_bool h2 g2
        rw [hy] at hn
        simp [DataW.weights] at hn)
      obtain ⟨s3, hk3, q3, b3⟩ := opens_str h3 base held n [c3] y3 g3 w3
      have k0 : c0 = .string s0 := List.cons.inj hk0 |>.1
      have k1 : c1 = .int .u64 s1 := List.cons.inj hk1 |>.1
      have k2 : c2 = .bool s2 := List.cons.inj hk2 |>.1
      have k3 : c3 = .string s3 := List.cons.inj hk3 |>.1
      subst k0 k1 k2 k3
      refine ⟨mk s0 s1 s2 s3, hK _ _ _ _, hG _ _ _ _ q0 q1 q3, ?_⟩
      have := hwt s0 s1 s2 s3
      dsimp only at b0 b1 b2 b3
      simp only [List.map_cons, List.map_nil, Rows.uptoBulk, Rows.uptoBulkAll]
      omega
end
section
variable {H : Type} {enc : TypeId × Value → H} {W : World}
abbrev En := QBo.S53
abbrev kEn : Kd En := QBo.k53
def wtE (x : En) : Nat := x.f0.size + x.f3.size + 5
def wtEs (l : List En) : Nat := (l.map wtE).sum + 1
def GE (x : En) : Prop := x.f0.size ≤ 140737488351232 ∧ (Lit.int .u64 x.f1).wf = true ∧ x.f3.size ≤ 140737488351232
theorem opens_entry : Opens enc Tryz.prog W 53 kEn GE wtE :=
  opens_subs (mk := fun a n b c => ⟨a, n, b, c⟩) Tryz.underlying53 (by kernel_rfl) (by kernel_rfl) Tryz.underlying9 Tryz.underlying51 Tryz.underlying4 Tryz.underlying9 (fun a n b c => QBo.k53_mk W ⟨a, n, b, c⟩) (fun a n b c h0 h1 h2 => ⟨h0, h1, h2⟩) (fun a n b c => by show a.size + c.size + 5 ≤ _; omega)
theorem opens_entries : Opens enc Tryz.prog W 22 (Kd.slice 53 kEn) (fun l => l.length * Tryz.prog.bytesOf 53 ≤ 140737488351232 ∧ ∀ x ∈ l, GE x) wtEs := opens_slice Tryz.underlying22 (by kernel_rfl) opens_entry
theorem bytesE : Tryz.prog.bytesOf 53 = 48 := by kernel_rfl
def GEs (l : List En) : Prop := l.length ≤ 140737488351232 ∧ ∀ x ∈ l, GE x
theorem entries_arg {base : Nat} {held : Bool} {a : Option Addr} {len cap : Nat} {da : DataW H} {ps : List MemPlace} {ts : List TypeId} {ds : List (DataW H)} {j : Nat}
    (hsz : (DataW.weightsEach Tryz.prog ts ds).all (· ≤ reachBytes) = true) (hts : ts[j]? = some 22) (hds : ds[j]? = some da) (h : DataW.Trod enc Tryz.prog W base (fun _ => true) held 22 (.slice a len cap) da ps) :
    ∃ l : List En, len = l.length ∧ kEn.C W a l.length l ∧ l.length ≤ cap ∧ GEs l ∧ wtEs l ≤ Rows.uptoBulk da := by
  obtain ⟨l, h1, h2, h3, ⟨h4, h5⟩, h6⟩ := slice_arg opens_entries hsz hts hds h
  rw [bytesE] at h4
  exact ⟨l, h1, h2, h3, ⟨by omega, h5⟩, h6⟩
end
end Opn
end Go.Proofs.YtaonjmkfbfhanaaGreatDoor
namespace Go.Proofs.YtaonjmkfbfhanaaGreatDoor.Kb
open Go.RowKit Go.Proofs.YtaonjmkfbfhanaaGreatDoorW.PrintWords Go.Proofs.YtaonjmkfbfhanaaGreatDoor.Own Go.Proofs.YtaonjmkfbfhanaaGreatDoor.Wk
set_option linter.unusedVariables false
/-- A list as a value tells it. -/
structure Sl where
  A : Option Addr
  n : Nat
  c : Nat
def Sl.v (s : Sl) : Value := .slice s.A s.n s.c
abbrev kS : Kd Sl := Kd.scalar Sl.v (fun _ => rfl)
abbrev kI : Kd Int := Kd.int .i64
abbrev kB : Kd Int := Kd.int .u8
/-- Whose a block is, by its mark. -/
def Tg (τ : Nat → Nat) (t : Nat) (k : Nat) : Prop := τ k = t
def upd {α : Type} (f : Nat → α) (i : Nat) (u : α) (j : Nat) : α := if j = i then u else f j
theorem upd_same {α : Type} (f : Nat → α) (i : Nat) (u : α) : upd f i u i = u := if_pos rfl
theorem upd_ne {α : Type} (f : Nat → α) {i j : Nat} (u : α) (h : j ≠ i) : upd f i u j = f j := if_neg h
/-- The book's block, by its fields. -/
def BkC (W : World) (g : Nat) (f : Nat → Value) : Prop := ∃ cs : Array Value, W.heap[g]? = some (.cells cs 46 (0, 0)) ∧ cs.size = 175 ∧ ∀ i, i < 175 → cs[i]? = some (f i)
section
variable {W W' : World} {g : Nat} {f : Nat → Value}
theorem BkC.cell (h : BkC W g f) (i : Nat) (hi : i < 175) : W.cell? ⟨g, i, none⟩ = some (f i) := by
  obtain ⟨cs, h1, h2, h3⟩ := h
  rw [blk_cell h1]
  exact h3 i hi
theorem BkC.fr (h : BkC W g f) (i : Nat) : W.frozen? ⟨g, i, none⟩ = false := by
  obtain ⟨cs, h1, h2, h3⟩ := h
  exact blk_frozen h1 i
theorem BkC.set (h : BkC W g f) (i : Nat) (u : Value) : BkC (W.setCell ⟨g, i, none⟩ u) g (upd f i u) := by
  obtain ⟨cs, h1, h2, h3⟩ := h
  refine ⟨_, blk_set h1 i u, by simpa using h2, fun j hj => ?_⟩
  rw [Array.getElem?_setIfInBounds]
  unfold upd
  by_cases e : i = j
  · subst e
    rw [if_pos rfl, if_pos (by omega), if_pos rfl]
  · rw [if_neg e, if_neg (fun h => e h.symm)]
    exact h3 j hj
theorem BkC.lt (h : BkC W g f) : g < W.heap.size := by
  obtain ⟨cs, h1, h2, h3⟩ := h
  exact blk_lt h1
theorem BkC.keep (h : BkC W g f) (he : W'.heap[g]? = W.heap[g]?) : BkC W' g f := by
  obtain ⟨cs, h1, h2, h3⟩ := h
  exact ⟨cs, he.trans h1, h2, h3⟩
end
/-- From W to W': of elder blocks those alone have turned whose mark is in T; marks stand. -/
def Stp (T : Nat → Prop) (W W' : World) (τ τ' : Nat → Nat) : Prop := W.heap.size ≤ W'.heap.size ∧ (∀ k, k < W.heap.size → ¬ T (τ k) → W'.heap[k]? = W.heap[k]?) ∧ ∀ k, k < W.heap.size → τ' k = τ k
section
variable {T T' : Nat → Prop} {W W' W2 : World} {τ τ' τ2 : Nat → Nat} {α : Type} {d : Kd α} {e e' base t : Nat} {v : Value} {l : List α}
theorem Stp.refl (T : Nat → Prop) (W : World) (τ : Nat → Nat) : Stp T W W τ τ := ⟨Nat.le_refl _, fun _ _ _ => rfl, fun _ _ => rfl⟩
theorem Stp.trans (h : Stp T W W' τ τ') (h2 : Stp T' W' W2 τ' τ2) : Stp (fun t => T t ∨ T' t) W W2 τ τ2 := by
  refine ⟨Nat.le_trans h.1 h2.1, fun k hk ht => ?_, fun k hk => ?_⟩
  · have h3 := h.2.2 k hk
    have h0 := h.1
    exact (h2.2.1 k (by omega) (fun e => ht (.inr (h3 ▸ e)))).trans (h.2.1 k hk (fun e => ht (.inl e)))
  · have h0 := h.1
    exact (h2.2.2 k (by omega)).trans (h.2.2 k hk)
theorem Stp.mono (h : Stp T W W' τ τ') (hT : ∀ t, T t → T' t) : Stp T' W W' τ τ' := ⟨h.1, fun k hk ht => h.2.1 k hk (fun e => ht (hT _ e)), h.2.2⟩
theorem Stp.R (hs : Stp T W W' τ τ') (ht : ¬ T t) (h : Kd.R d e W base (Tg τ t) v l) : Kd.R d e W' base (Tg τ' t) v l := by
  have h1 := Kd.R_bound h
  refine Kd.R_mono (Kd.R_step h1 (fun k hk hlt => hs.2.1 k hlt ?_)) (fun k hk => ?_)
  · have h2 : τ k = t := hk.1
    rw [h2]; exact ht
  · show τ' k = t
    rw [hs.2.2 k hk.2.2.1]; exact hk.1
theorem Stp.V (hs : Stp T W W' τ τ') (ht : ¬ T t) (h : Kd.V d e W base (Tg τ t) v l) : Kd.V d e W' base (Tg τ' t) v l := by
  have h1 := Kd.V_bound h
  refine Kd.V_mono (Kd.V_step h1 (fun k hk hlt => hs.2.1 k hlt ?_)) (fun k hk => ?_)
  · have h2 : τ k = t := hk.1
    rw [h2]; exact ht
  · show τ' k = t
    rw [hs.2.2 k hk.2]; exact hk.1
theorem Stp.heap (hs : Stp T W W' τ τ') (he : W2.heap = W'.heap) : Stp T W W2 τ τ' := by
  refine ⟨by rw [he]; exact hs.1, fun k hk ht => ?_, hs.2.2⟩
  rw [he]; exact hs.2.1 k hk ht
end
/-- Blocks that are new get a mark. -/
def newT (τ : Nat → Nat) (W W1 : World) (t : Nat) (k : Nat) : Nat := if W.heap.size ≤ k ∧ k < W1.heap.size then t else τ k
theorem newT_old {τ : Nat → Nat} {W W1 : World} {t k : Nat} (h : k < W.heap.size) : newT τ W W1 t k = τ k := if_neg (by omega)
theorem newT_new {τ : Nat → Nat} {W W1 : World} {t k : Nat} (h : W.heap.size ≤ k) (h1 : k < W1.heap.size) : newT τ W W1 t k = t := if_pos ⟨h, h1⟩
def tailv (i : Nat) : Value := if (i - 13) % 9 = 8 then .int .i64 0 else .slice none 0 0
/-- What holds of the book's own memory: its block, its eight rows. -/
structure Inv (W : World) (τ : Nat → Nat) (M base g : Nat) (dp : Int) (f : Nat → Value) (S : Nat → List Sl) (I : Nat → List Int) : Prop where
  blk : BkC W g f
  bs : base ≤ g
  tg : τ g = 1
  new : ∀ k, W.heap.size ≤ k → τ k = 0
  mx : 20 ≤ M
  tm : ∀ k, τ k < M
  c0 : f 0 = .bool false
  c1 : f 1 = .bool false
  c2 : ∃ x, f 2 = .int .i64 x
  c3 : f 3 = .int .i64 dp
  c12 : ∃ x, f 12 = .int .i64 x
  ct : ∀ i, 13 ≤ i → i < 175 → f i = tailv i
  rs : ∀ i, 4 ≤ i → i ≤ 8 → Kd.R kS 57 W base (Tg τ i) (f i) (S i)
  ri : ∀ i, 9 ≤ i → i ≤ 11 → Kd.R kI 3 W base (Tg τ i) (f i) (I i)
section
variable {W W' W1 : World} {τ τ' : Nat → Nat} {M base g : Nat} {dp : Int} {f : Nat → Value} {S : Nat → List Sl} {I : Nat → List Int} {v v1 : Value}
theorem Inv.size (h : Inv W τ M base g dp f S I) : base ≤ W.heap.size := Nat.le_trans h.bs (Nat.le_of_lt h.blk.lt)
theorem Inv.heap (h : Inv W τ M base g dp f S I) (he : W'.heap = W.heap) : Inv W' τ M base g dp f S I := by
  have hb : ∀ k : Nat, W'.heap[k]? = W.heap[k]? := fun k => by rw [he]
  exact { h with
    blk := h.blk.keep (hb g)
    new := fun k hk => h.new k (by rw [← he]; exact hk)
    rs := fun i h1 h2 => Kd.R_step (h.rs i h1 h2) (fun k _ _ => hb k)
    ri := fun i h1 h2 => Kd.R_step (h.ri i h1 h2) (fun k _ _ => hb k) }
/-- New blocks that are nobody's. -/
theorem Inv.below (h : Inv W τ M base g dp f S I) (hb : Below W.heap.size W W') : Inv W' τ M base g dp f S I := by
  have hs := hb.size
  exact { h with
    blk := h.blk.keep (hb.block g h.blk.lt)
    new := fun k hk => h.new k (by omega)
    rs := fun i h1 h2 => Kd.R_below (h.rs i h1 h2) hb
    ri := fun i h1 h2 => Kd.R_below (h.ri i h1 h2) hb }
/-- A step that leaves the book's own memory. -/
theorem Inv.stp {T : Nat → Prop} (h : Inv W τ M base g dp f S I) (hs : Stp T W W' τ τ') (hT : ∀ t, T t → t = 0 ∨ t = 2 ∨ 12 ≤ t) (hn : ∀ k, W'.heap.size ≤ k → τ' k = 0) (hm : ∀ k, τ' k < M) : Inv W' τ' M base g dp f S I := by
  have hl := h.blk.lt
  exact { h with
    blk := h.blk.keep (hs.2.1 g hl (fun e => by have := hT _ e; rw [h.tg] at this; omega))
    tg := (hs.2.2 g hl).trans h.tg
    new := hn
    tm := hm
    rs := fun i h1 h2 => hs.R (fun e => by have := hT _ e; omega) (h.rs i h1 h2)
    ri := fun i h1 h2 => hs.R (fun e => by have := hT _ e; omega) (h.ri i h1 h2) }
/-- A field of the book is written (its value told anew). -/
theorem stp_set (h : Inv W τ M base g dp f S I) (i : Nat) (u : Value) : Stp (fun t => t = 1) W (W.setCell ⟨g, i, none⟩ u) τ τ := by
  refine ⟨by simp [World.setCell], fun k hk ht => Below.heap_setCell W ⟨g, i, none⟩ u k (fun e => ht ?_), fun _ _ => rfl⟩
  have e' : k = g := e
  rw [e']; exact h.tg
theorem Inv.setx (h : Inv W τ M base g dp f S I) (i : Nat) (u : Value) (S' : Nat → List Sl) (I' : Nat → List Int) (dp' : Int)
    (c0 : upd f i u 0 = .bool false) (c1 : upd f i u 1 = .bool false) (c2 : ∃ x, upd f i u 2 = .int .i64 x) (c3 : upd f i u 3 = .int .i64 dp') (c12 : ∃ x, upd f i u 12 = .int .i64 x) (ct : ∀ j, 13 ≤ j → j < 175 → upd f i u j = tailv j)
    (rs : ∀ j, 4 ≤ j → j ≤ 8 → Kd.R kS 57 W base (Tg τ j) (upd f i u j) (S' j)) (ri : ∀ j, 9 ≤ j → j ≤ 11 → Kd.R kI 3 W base (Tg τ j) (upd f i u j) (I' j)) :
    Inv (W.setCell ⟨g, i, none⟩ u) τ M base g dp' (upd f i u) S' I' := by
  have hs := stp_set h i u
  have hz : (W.setCell ⟨g, i, none⟩ u).heap.size = W.heap.size := by simp [World.setCell]
  exact { blk := h.blk.set i u, bs := h.bs, tg := h.tg, new := fun k hk => h.new k (by rw [hz] at hk; exact hk), mx := h.mx, tm := h.tm, c0 := c0, c1 := c1, c2 := c2, c3 := c3, c12 := c12, ct := ct
          rs := fun j h1 h2 => hs.R (by omega) (rs j h1 h2), ri := fun j h1 h2 => hs.R (by omega) (ri j h1 h2) }
theorem Inv.turn (h : Inv W τ M base g dp f S I) (x : Int) : Inv (W.setCell ⟨g, 2, none⟩ (.int .i64 x)) τ M base g dp (upd f 2 (.int .i64 x)) S I :=
  h.setx 2 _ S I dp h.c0 h.c1 ⟨x, rfl⟩ h.c3 h.c12 (fun j h1 h2 => by rw [upd_ne _ _ (by omega)]; exact h.ct j h1 h2) (fun j h1 h2 => by rw [upd_ne _ _ (by omega)]; exact h.rs j h1 h2) (fun j h1 h2 => by rw [upd_ne _ _ (by omega)]; exact h.ri j h1 h2)
theorem Inv.deep (h : Inv W τ M base g dp f S I) (x : Int) : Inv (W.setCell ⟨g, 3, none⟩ (.int .i64 x)) τ M base g x (upd f 3 (.int .i64 x)) S I :=
  h.setx 3 _ S I x h.c0 h.c1 h.c2 rfl h.c12 (fun j h1 h2 => by rw [upd_ne _ _ (by omega)]; exact h.ct j h1 h2) (fun j h1 h2 => by rw [upd_ne _ _ (by omega)]; exact h.rs j h1 h2) (fun j h1 h2 => by rw [upd_ne _ _ (by omega)]; exact h.ri j h1 h2)
theorem Inv.seen (h : Inv W τ M base g dp f S I) (x : Int) : Inv (W.setCell ⟨g, 12, none⟩ (.int .i64 x)) τ M base g dp (upd f 12 (.int .i64 x)) S I :=
  h.setx 12 _ S I dp h.c0 h.c1 h.c2 h.c3 ⟨x, rfl⟩ (fun j h1 h2 => by rw [upd_ne _ _ (by omega)]; exact h.ct j h1 h2) (fun j h1 h2 => by rw [upd_ne _ _ (by omega)]; exact h.rs j h1 h2) (fun j h1 h2 => by rw [upd_ne _ _ (by omega)]; exact h.ri j h1 h2)
theorem Inv.bad (h : Inv W τ M base g dp f S I) : Inv (W.setCell ⟨g, 1, none⟩ (.bool false)) τ M base g dp (upd f 1 (.bool false)) S I :=
  h.setx 1 _ S I dp h.c0 rfl h.c2 h.c3 h.c12 (fun j h1 h2 => by rw [upd_ne _ _ (by omega)]; exact h.ct j h1 h2) (fun j h1 h2 => by rw [upd_ne _ _ (by omega)]; exact h.rs j h1 h2) (fun j h1 h2 => by rw [upd_ne _ _ (by omega)]; exact h.ri j h1 h2)
/-- A row of lists is let go. -/
theorem Inv.nilS (h : Inv W τ M base g dp f S I) {i : Nat} (h4 : 4 ≤ i) (h8 : i ≤ 8) : Inv (W.setCell ⟨g, i, none⟩ (.slice none 0 0)) τ M base g dp (upd f i (.slice none 0 0)) (upd S i []) I :=
  h.setx i _ _ I dp (by rw [upd_ne _ _ (by omega)]; exact h.c0) (by rw [upd_ne _ _ (by omega)]; exact h.c1) (by rw [upd_ne _ _ (by omega)]; exact h.c2) (by rw [upd_ne _ _ (by omega)]; exact h.c3) (by rw [upd_ne _ _ (by omega)]; exact h.c12)
    (fun j h1 h2 => by rw [upd_ne _ _ (by omega)]; exact h.ct j h1 h2)
    (fun j h1 h2 => by
      by_cases e : j = i
      · subst e; rw [upd_same, upd_same]; exact Kd.R_nil _ _ _ _ _
      · rw [upd_ne _ _ e, upd_ne _ _ e]; exact h.rs j h1 h2)
    (fun j h1 h2 => by rw [upd_ne _ _ (by omega)]; exact h.ri j h1 h2)
theorem Inv.nilI (h : Inv W τ M base g dp f S I) {i : Nat} (h4 : 9 ≤ i) (h8 : i ≤ 11) : Inv (W.setCell ⟨g, i, none⟩ (.slice none 0 0)) τ M base g dp (upd f i (.slice none 0 0)) S (upd I i []) :=
  h.setx i _ S _ dp (by rw [upd_ne _ _ (by omega)]; exact h.c0) (by rw [upd_ne _ _ (by omega)]; exact h.c1) (by rw [upd_ne _ _ (by omega)]; exact h.c2) (by rw [upd_ne _ _ (by omega)]; exact h.c3) (by rw [upd_ne _ _ (by omega)]; exact h.c12)
    (fun j h1 h2 => by rw [upd_ne _ _ (by omega)]; exact h.ct j h1 h2)
    (fun j h1 h2 => by rw [upd_ne _ _ (by omega)]; exact h.rs j h1 h2)
    (fun j h1 h2 => by
      by_cases e : j = i
      · subst e; rw [upd_same, upd_same]; exact Kd.R_nil _ _ _ _ _
      · rw [upd_ne _ _ e, upd_ne _ _ e]; exact h.ri j h1 h2)
theorem stp_grown (h : Inv W τ M base g dp f S I) {i t : Nat} {row : Option Nat} (hrow : ∀ k, row = some k → τ k = i) (hg : W.grownBy W1 row) : Stp (fun t => t = i) W W1 τ (newT τ W W1 t) :=
  ⟨hg.size, fun k hk ht => hg.block k hk (fun e => ht (hrow k e.symm)), fun k hk => newT_old hk⟩
theorem newT_zero (h : Inv W τ M base g dp f S I) (t : Nat) (hs : W.heap.size ≤ W1.heap.size) : ∀ k, W1.heap.size ≤ k → newT τ W W1 t k = 0 := fun k hk => by
  unfold newT
  rw [if_neg (by omega)]
  exact h.new k (by omega)
theorem newT_lt (h : Inv W τ M base g dp f S I) {t : Nat} (ht : t < M) : ∀ k, newT τ W W1 t k < M := fun k => by
  unfold newT
  split
  · exact ht
  · exact h.tm k
theorem R_newT {α : Type} {d : Kd α} {e t : Nat} {l : List α} (h : Kd.R d e W1 base (fun k => Tg τ t k ∨ W.heap.size ≤ k) v l) (hnew : ∀ k, W.heap.size ≤ k → τ k = 0) : Kd.R d e W1 base (Tg (newT τ W W1 t) t) v l :=
  Kd.R_mono (Kd.R_bound h) (fun k hk => by
    show newT τ W W1 t k = t
    by_cases hlt : k < W.heap.size
    · rw [newT_old hlt]
      rcases hk.1 with h1 | h1
      · exact h1
      · omega
    · exact newT_new (by omega) hk.2.2.1)
/-- A row of lists grows, and is stored. -/
theorem Inv.pushS (h : Inv W τ M base g dp f S I) {i : Nat} (h4 : 4 ≤ i) (h8 : i ≤ 8) {L : List Sl} (ho : Kd.R kS 57 W1 base (fun k => Tg τ i k ∨ W.heap.size ≤ k) v1 L) (hg : W.grownBy W1 (f i).ownBlock) :
    Inv (W1.setCell ⟨g, i, none⟩ v1) (newT τ W W1 i) M base g dp (upd f i v1) (upd S i L) I ∧ Stp (fun t => t = 1 ∨ t = i) W (W1.setCell ⟨g, i, none⟩ v1) τ (newT τ W W1 i) := by
  have hR := h.rs i h4 h8
  have hst := stp_grown (t := i) h (i := i) (fun k hk => hR.1 k hk) hg
  have hmx := h.mx
  have hgl := h.blk.lt
  have htg := h.tg
  have hsz := hg.size
  have hb : BkC W1 g f := h.blk.keep (hst.2.1 g hgl (by omega))
  have hng : newT τ W W1 i g = 1 := (newT_old hgl).trans htg
  have hfar : ∀ j, j ≠ 1 → ∀ k, Tg (newT τ W W1 i) j k → k ≠ g := fun j hj k hk e => by
    subst e
    have hk' : newT τ W W1 i k = j := hk
    omega
  have hz : (W1.setCell ⟨g, i, none⟩ v1).heap.size = W1.heap.size := by simp [World.setCell]
  have hn := h.nilS h4 h8
  refine ⟨{ blk := hb.set i v1, bs := h.bs, tg := hng, new := fun k hk => newT_zero h i hsz k (by omega), mx := h.mx, tm := newT_lt h (by omega), c0 := by rw [upd_ne _ _ (by omega)]; exact h.c0, c1 := by rw [upd_ne _ _ (by omega)]; exact h.c1, c2 := by rw [upd_ne _ _ (by omega)]; exact h.c2, c3 := by rw [upd_ne _ _ (by omega)]; exact h.c3, c12 := by rw [upd_ne _ _ (by omega)]; exact h.c12
            ct := fun j h1 h2 => by rw [upd_ne _ _ (by omega)]; exact h.ct j h1 h2
            rs := fun j h1 h2 => Kd.R_far (p := ⟨g, i, none⟩) (by
              by_cases e : j = i
              · subst e; rw [upd_same, upd_same]; exact R_newT ho h.new
              · rw [upd_ne _ _ e, upd_ne _ _ e]; exact hst.R e (h.rs j h1 h2)) (hfar j (by omega)) _
            ri := fun j h1 h2 => Kd.R_far (p := ⟨g, i, none⟩) (by rw [upd_ne _ _ (by omega)]; exact hst.R (by omega) (h.ri j h1 h2)) (hfar j (by omega)) _ }, ?_⟩
  refine ⟨by omega, fun k hk ht => (Below.heap_setCell W1 ⟨g, i, none⟩ v1 k (fun e => ht (.inl ?_))).trans (hst.2.1 k hk (fun e => ht (.inr e))), fun k hk => newT_old hk⟩
  have e' : k = g := e
  rw [e']; exact htg
/-- A row of numbers grows, and is stored. -/
theorem Inv.pushI (h : Inv W τ M base g dp f S I) {i : Nat} (h4 : 9 ≤ i) (h8 : i ≤ 11) {L : List Int} (ho : Kd.R kI 3 W1 base (fun k => Tg τ i k ∨ W.heap.size ≤ k) v1 L) (hg : W.grownBy W1 (f i).ownBlock) :
    Inv (W1.setCell ⟨g, i, none⟩ v1) (newT τ W W1 i) M base g dp (upd f i v1) S (upd I i L) ∧ Stp (fun t => t = 1 ∨ t = i) W (W1.setCell ⟨g, i, none⟩ v1) τ (newT τ W W1 i) := by
  have hR := h.ri i h4 h8
  have hst := stp_grown (t := i) h (i := i) (fun k hk => hR.1 k hk) hg
  have hmx := h.mx
  have hgl := h.blk.lt
  have htg := h.tg
  have hsz := hg.size
  have hb : BkC W1 g f := h.blk.keep (hst.2.1 g hgl (by omega))
  have hng : newT τ W W1 i g = 1 := (newT_old hgl).trans htg
  have hfar : ∀ j, j ≠ 1 → ∀ k, Tg (newT τ W W1 i) j k → k ≠ g := fun j hj k hk e => by
    subst e
    have hk' : newT τ W W1 i k = j := hk
    omega
  have hz : (W1.setCell ⟨g, i, none⟩ v1).heap.size = W1.heap.size := by simp [World.setCell]
  refine ⟨{ blk := hb.set i v1, bs := h.bs, tg := hng, new := fun k hk => newT_zero h i hsz k (by omega), mx := h.mx, tm := newT_lt h (by omega), c0 := by rw [upd_ne _ _ (by omega)]; exact h.c0, c1 := by rw [upd_ne _ _ (by omega)]; exact h.c1, c2 := by rw [upd_ne _ _ (by omega)]; exact h.c2, c3 := by rw [upd_ne _ _ (by omega)]; exact h.c3, c12 := by rw [upd_ne _ _ (by omega)]; exact h.c12
            ct := fun j h1 h2 => by rw [upd_ne _ _ (by omega)]; exact h.ct j h1 h2
            rs := fun j h1 h2 => Kd.R_far (p := ⟨g, i, none⟩) (by rw [upd_ne _ _ (by omega)]; exact hst.R (by omega) (h.rs j h1 h2)) (hfar j (by omega)) _
            ri := fun j h1 h2 => Kd.R_far (p := ⟨g, i, none⟩) (by
              by_cases e : j = i
              · subst e; rw [upd_same, upd_same]; exact R_newT ho h.new
              · rw [upd_ne _ _ e, upd_ne _ _ e]; exact hst.R e (h.ri j h1 h2)) (hfar j (by omega)) _ }, ?_⟩
  refine ⟨by omega, fun k hk ht => (Below.heap_setCell W1 ⟨g, i, none⟩ v1 k (fun e => ht (.inl ?_))).trans (hst.2.1 k hk (fun e => ht (.inr e))), fun k hk => newT_old hk⟩
  have e' : k = g := e
  rw [e']; exact htg
end
end Go.Proofs.YtaonjmkfbfhanaaGreatDoor.Kb
namespace Go.Proofs.YtaonjmkfbfhanaaGreatDoor.Kb
open Go.RowKit Go.Proofs.YtaonjmkfbfhanaaGreatDoorW.PrintWords Go.Proofs.YtaonjmkfbfhanaaGreatDoor.Own Go.Proofs.YtaonjmkfbfhanaaGreatDoor.Wk
set_option linter.unusedVariables false
/-- A list that waits: its mark, itself, what it held. -/
structure It where
  id : Nat
  s : Sl
  nt : Sl
/-- A list that was written: its mark, itself, what it must hold. -/
structure Ou where
  tg : Nat
  s : Sl
  td : Sl
def LB : Nat := 1099511627776
def Hot (W : World) (τ : Nat → Nat) (M base : Nat) (id : Nat) (s : Sl) (l : List Int) : Prop := 20 ≤ id ∧ id < M ∧ l.length ≤ LB ∧ Kd.R kB 5 W base (Tg τ id) s.v l
def WOk (W : World) (τ : Nat → Nat) (M base : Nat) (x : It) : Prop := ∃ l, Hot W τ M base x.id x.s l ∧ Kd.V kB 0 W 0 (Tg τ 2) x.nt.v l
def OOk (W : World) (τ : Nat → Nat) (M : Nat) (o : Ou) : Prop := 20 ≤ o.tg ∧ o.tg < M ∧ ∃ l, Kd.V kB 0 W 0 (Tg τ o.tg) o.s.v l ∧ Kd.V kB 0 W 0 (Tg τ 2) o.td.v l
def FOk (W : World) (τ : Nat → Nat) (M base : Nat) (x : It) : Prop := ∃ l, Hot W τ M base x.id x.s l
/-- What holds of the lists: those that wait, those that were written, those that are to be laid on. -/
structure Con (W : World) (τ : Nat → Nat) (M base : Nat) (ws : List It) (os : List Ou) (fr : List It) : Prop where
  w : ∀ x ∈ ws, WOk W τ M base x
  o : ∀ x ∈ os, OOk W τ M x
  r : ∀ x ∈ fr, FOk W τ M base x
  ids : (ws ++ fr).Pairwise (fun x y => x.id ≠ y.id)
  ow : ∀ x ∈ os, ∀ y ∈ ws, x.tg ≠ y.id
  of : ∀ x ∈ os, ∀ y ∈ fr, x.tg = y.id → x.s = y.s
theorem rv {α : Type} {d : Kd α} {e base : Nat} {W : World} {ok : Nat → Prop} {v : Value} {l : List α} (h : Kd.R d e W base ok v l) : Kd.V d 0 W 0 ok v l := by
  obtain ⟨A, c, h1, h2, h3⟩ := Kd.R_V (base' := 0) h
  exact ⟨A, c, h1, h2, h3⟩
section
variable {W W' W1 : World} {τ τ' : Nat → Nat} {M M' base g : Nat} {ws : List It} {os : List Ou} {fr : List It} {T : Nat → Prop}
theorem Hot.step {id : Nat} {s : Sl} {l : List Int} (hs : Stp T W W' τ τ') (ht : ¬ T id) (h : Hot W τ M base id s l) : Hot W' τ' M base id s l := ⟨h.1, h.2.1, h.2.2.1, hs.R ht h.2.2.2⟩
theorem Con.step (hs : Stp T W W' τ τ') (hT : ∀ t, T t → t ≠ 2 ∧ t < 20) (h : Con W τ M base ws os fr) : Con W' τ' M base ws os fr where
  w := fun x hx => by
    obtain ⟨l, h1, h2⟩ := h.w x hx
    exact ⟨l, Hot.step hs (fun e => by have := (hT _ e).2; have := h1.1; omega) h1, hs.V (fun e => (hT _ e).1 rfl) h2⟩
  o := fun x hx => by
    obtain ⟨h1, h2, l, h3, h4⟩ := h.o x hx
    exact ⟨h1, h2, l, hs.V (fun e => by have := (hT _ e).2; omega) h3, hs.V (fun e => (hT _ e).1 rfl) h4⟩
  r := fun x hx => by
    obtain ⟨l, h1⟩ := h.r x hx
    exact ⟨l, Hot.step hs (fun e => by have := (hT _ e).2; have := h1.1; omega) h1⟩
  ids := h.ids
  ow := h.ow
  of := h.of
theorem Con.below (h : Con W τ M base ws os fr) (hb : Below W.heap.size W W') : Con W' τ M base ws os fr :=
  Con.step (T := fun _ => False) (τ := τ) ⟨hb.size, fun k hk _ => hb.block k hk, fun _ _ => rfl⟩ (fun _ e => e.elim) h
theorem Con.mono (h : Con W τ M base ws os fr) (hM : M ≤ M') : Con W τ M' base ws os fr where
  w := fun x hx => by
    obtain ⟨l, h1, h2⟩ := h.w x hx
    exact ⟨l, ⟨h1.1, Nat.lt_of_lt_of_le h1.2.1 hM, h1.2.2⟩, h2⟩
  o := fun x hx => by
    obtain ⟨h1, h2, h3⟩ := h.o x hx
    exact ⟨h1, Nat.lt_of_lt_of_le h2 hM, h3⟩
  r := fun x hx => by
    obtain ⟨l, h1⟩ := h.r x hx
    exact ⟨l, ⟨h1.1, Nat.lt_of_lt_of_le h1.2.1 hM, h1.2.2⟩⟩
  ids := h.ids
  ow := h.ow
  of := h.of
/-- One more list waits. -/
theorem Con.add (h : Con W τ M base ws os []) (hM : M < M') {s nt : Sl} {l : List Int} (h20 : 20 ≤ M) (hl : l.length ≤ LB) (hR : Kd.R kB 5 W base (Tg τ M) s.v l) (hV : Kd.V kB 0 W 0 (Tg τ 2) nt.v l) : Con W τ M' base (ws ++ [⟨M, s, nt⟩]) os [] := by
  have h2 := h.mono (Nat.le_of_lt hM)
  refine ⟨fun x hx => ?_, h2.o, h2.r, ?_, ?_, h2.of⟩
  · rcases List.mem_append.1 hx with hx | hx
    · exact h2.w x hx
    · obtain rfl := List.mem_singleton.1 hx
      exact ⟨l, ⟨h20, hM, hl, hR⟩, hV⟩
  · have hi := h.ids
    rw [List.append_nil] at hi ⊢
    refine List.pairwise_append.2 ⟨hi, List.pairwise_singleton _ _, fun x hx y hy => ?_⟩
    obtain rfl := List.mem_singleton.1 hy
    obtain ⟨_, h1, _⟩ := h.w x hx
    have := h1.2.1
    show x.id ≠ M
    omega
  · intro x hx y hy
    rcases List.mem_append.1 hy with hy | hy
    · exact h.ow x hx y hy
    · obtain rfl := List.mem_singleton.1 hy
      obtain ⟨_, h1, _⟩ := h.o x hx
      show x.tg ≠ M
      omega
/-- A list that waited (its number k) is written, and told. -/
theorem Con.mark {a b : List It} {x : It} (h : Con W τ M base (a ++ x :: b) os fr) {td : Sl} {l' : List Int} (hl : l'.length ≤ LB) (hs : Stp T W W' τ τ') (hT : ∀ t, T t → t = x.id ∨ (t ≠ 2 ∧ t < 20)) (hR : Kd.R kB 5 W' base (Tg τ' x.id) x.s.v l') (hV : Kd.V kB 0 W' 0 (Tg τ' 2) td.v l') : Con W' τ' M base (a ++ b) (os ++ [⟨x.id, x.s, td⟩]) (fr ++ [x]) := by
  obtain ⟨lx, hx, -⟩ := h.w x (by simp)
  have hids := h.ids
  have hne : ∀ y, y ∈ a ∨ y ∈ b ∨ y ∈ fr → y.id ≠ x.id := by
    rw [List.append_assoc] at hids
    have h1 := (List.pairwise_append.1 hids)
    intro y hy
    rcases hy with hy | hy | hy
    · exact h1.2.2 y hy x (by simp)
    · exact fun e => (List.pairwise_cons.1 h1.2.1).1 y (by simp [hy]) e.symm
    · exact fun e => (List.pairwise_cons.1 h1.2.1).1 y (by simp [hy]) e.symm
  have hTn : ∀ t, t ≠ x.id → 20 ≤ t → ¬ T t := fun t h1 h2 h3 => by
    rcases hT t h3 with h4 | h4 <;> omega
  have hx20 := hx.1
  have hT2 : ¬ T 2 := fun h3 => by rcases hT 2 h3 with h4 | h4 <;> omega
  refine ⟨fun y hy => ?_, fun y hy => ?_, fun y hy => ?_, ?_, ?_, ?_⟩
  · have hy' : y ∈ a ∨ y ∈ b := List.mem_append.1 hy
    obtain ⟨l, h1, h2⟩ := h.w y (by rcases hy' with e | e <;> simp [e])
    exact ⟨l, Hot.step hs (hTn _ (hne y (hy'.elim .inl (fun e => .inr (.inl e)))) h1.1) h1, hs.V hT2 h2⟩
  · rcases List.mem_append.1 hy with hy | hy
    · obtain ⟨h1, h2, l, h3, h4⟩ := h.o y hy
      exact ⟨h1, h2, l, hs.V (hTn _ (h.ow y hy x (by simp)) h1) h3, hs.V hT2 h4⟩
    · obtain rfl := List.mem_singleton.1 hy
      exact ⟨hx.1, hx.2.1, l', rv hR, hV⟩
  · rcases List.mem_append.1 hy with hy | hy
    · obtain ⟨l, h1⟩ := h.r y hy
      exact ⟨l, Hot.step hs (hTn _ (hne y (.inr (.inr hy))) h1.1) h1⟩
    · obtain rfl := List.mem_singleton.1 hy
      exact ⟨l', hx.1, hx.2.1, hl, hR⟩
  · have hp : ((a ++ b) ++ (fr ++ [x])).Perm ((a ++ x :: b) ++ fr) := by
      refine List.Perm.trans ?_ (List.Perm.append_right fr (List.perm_middle.symm))
      rw [← List.append_assoc]
      exact List.perm_append_singleton _ _
    exact (hp.pairwise_iff (fun h e => h e.symm)).2 hids
  · intro y hy z hz
    have hz' : z ∈ a ∨ z ∈ b := List.mem_append.1 hz
    rcases List.mem_append.1 hy with hy | hy
    · exact h.ow y hy z (by rcases hz' with e | e <;> simp [e])
    · obtain rfl := List.mem_singleton.1 hy
      exact fun e => hne z (hz'.elim .inl (fun e => .inr (.inl e))) e.symm
  · intro y hy z hz
    rcases List.mem_append.1 hy with hy | hy
    · rcases List.mem_append.1 hz with hz | hz
      · exact h.of y hy z hz
      · obtain rfl := List.mem_singleton.1 hz
        exact fun e => absurd e (h.ow y (by assumption) z (by simp))
    · obtain rfl := List.mem_singleton.1 hy
      rcases List.mem_append.1 hz with hz | hz
      · exact fun e => absurd e.symm (hne z (.inr (.inr hz)))
      · obtain rfl := List.mem_singleton.1 hz
        exact fun _ => rfl
/-- A list is laid on: x's is grown to gs. -/
theorem Con.grow {b : List It} {x : It} (h : Con W τ M base ws os (x :: b)) {gs td : Sl} {l' : List Int} (hs : Stp T W W' τ τ') (hT : ∀ t, T t → t = x.id ∨ (t ≠ 2 ∧ t < 20)) (hk : ∀ l, Kd.V kB 0 W 0 (Tg τ x.id) x.s.v l → Kd.V kB 0 W' 0 (Tg τ' x.id) x.s.v l)
    (hR : Kd.V kB 0 W' 0 (Tg τ' x.id) gs.v l') (hV : Kd.V kB 0 W' 0 (Tg τ' 2) td.v l') : Con W' τ' M base ws (os ++ [⟨x.id, gs, td⟩]) b := by
  obtain ⟨lx, hx⟩ := h.r x (by simp)
  have hids := h.ids
  have hne : ∀ y, y ∈ ws ∨ y ∈ b → y.id ≠ x.id := by
    have h1 := (List.pairwise_append.1 hids)
    intro y hy
    rcases hy with hy | hy
    · exact h1.2.2 y hy x (by simp)
    · exact fun e => (List.pairwise_cons.1 h1.2.1).1 y hy e.symm
  have hTn : ∀ t, t ≠ x.id → 20 ≤ t → ¬ T t := fun t h1 h2 h3 => by
    rcases hT t h3 with h4 | h4 <;> omega
  have hx20 := hx.1
  have hT2 : ¬ T 2 := fun h3 => by rcases hT 2 h3 with h4 | h4 <;> omega
  refine ⟨fun y hy => ?_, fun y hy => ?_, fun y hy => ?_, ?_, ?_, ?_⟩
  · obtain ⟨l, h1, h2⟩ := h.w y hy
    exact ⟨l, Hot.step hs (hTn _ (hne y (.inl hy)) h1.1) h1, hs.V hT2 h2⟩
  · rcases List.mem_append.1 hy with hy | hy
    · obtain ⟨h1, h2, l, h3, h4⟩ := h.o y hy
      refine ⟨h1, h2, l, ?_, hs.V hT2 h4⟩
      by_cases e : y.tg = x.id
      · have h5 := h.of y hy x (by simp) e
        rw [e, h5] at h3 ⊢
        exact hk l h3
      · exact hs.V (hTn _ e h1) h3
    · obtain rfl := List.mem_singleton.1 hy
      exact ⟨hx.1, hx.2.1, l', hR, hV⟩
  · obtain ⟨l, h1⟩ := h.r y (by simp [hy])
    exact ⟨l, Hot.step hs (hTn _ (hne y (.inr hy)) h1.1) h1⟩
  · exact hids.sublist (List.Sublist.append (List.Sublist.refl _) (List.sublist_cons_self _ _))
  · intro y hy z hz
    rcases List.mem_append.1 hy with hy | hy
    · exact h.ow y hy z hz
    · obtain rfl := List.mem_singleton.1 hy
      exact fun e => hne z (.inl hz) e.symm
  · intro y hy z hz
    rcases List.mem_append.1 hy with hy | hy
    · exact h.of y hy z (by simp [hz])
    · obtain rfl := List.mem_singleton.1 hy
      exact fun e => absurd e.symm (hne z (.inr hz))
end
end Go.Proofs.YtaonjmkfbfhanaaGreatDoor.Kb
namespace Go.Proofs.YtaonjmkfbfhanaaGreatDoor.Kb
open Go.RowKit Go.Proofs.YtaonjmkfbfhanaaGreatDoorW.PrintWords Go.Proofs.YtaonjmkfbfhanaaGreatDoor.Own Go.Proofs.YtaonjmkfbfhanaaGreatDoor.Wk
set_option linter.unusedVariables false
theorem int_at {k : IntKind} {w : World} {A : Option Addr} {n : Nat} {xs : List Int} (h : Kd.C (Kd.int k) w A n xs) (i : Nat) (h1 : i < n) : ∃ ad, A = some ad ∧ w.cell? (ad.add i) = some (.int k (xs.getD i 0)) := by
  obtain ⟨ad, c, h2, h3, h4, h5⟩ := Kd.C_get h 0 (i : Int) (by omega) (by omega)
  refine ⟨ad, h2, ?_⟩
  have h6 : c = [.int k (xs.getD i 0)] := by have h7 : c = [.int k (xs.getD ((i : Int).toNat) 0)] := h4; rw [Int.toNat_natCast] at h7; exact h7
  subst h6
  have := h5 0 _ rfl
  have hsz : (Kd.int k).sz = 1 := rfl
  rw [hsz] at this
  simpa using this
set_option maxHeartbeats 1000000 in
set_option maxRecDepth 100000 in
theorem sameBytes_calls {w : World} {A B : Option Addr} {n c c' : Nat} {l : List Int} (ha : Kd.C kB w A n l) (hb : Kd.C kB w B n l) :
    Calls Tryz.prog 69 #[.slice A n c, .slice B n c'] w fun e w' => e = .returned (.bool true) ∧ w' = w := by
  have hn : n ≤ 9223372036854775807 := ha.2.1
  have HA := Aside0.mk ha
  have HB := Aside0.mk hb
  clear ha hb
  go_enter Tryz.func69, Tryz.ntmps69
  go_wp2_with fail
  go_loopw [5] (fun s3 wr => ∃ k : Nat, s3 = .int .i64 (k : Int) ∧ k ≤ n ∧ wr = w) (fun s3 _ => n - (intOf s3).toNat)
  case atStart => exact ⟨0, rfl, Nat.zero_le _, rfl⟩
  case round =>
    obtain ⟨k, rfl, hk, rfl⟩ := hrel
    by_cases hlt : k < n
    · obtain ⟨ad, ea, hx⟩ := int_at HA.out k hlt
      obtain ⟨bd, eb, hy⟩ := int_at HB.out k hlt
      subst ea eb
      go_wp2_with fail
      go_roundw
      case rel => exact ⟨k + 1, by go_num, by omega, by first | trivial | rfl⟩
      case measure => simp [intOf]; omega
    · obtain rfl : k = n := by omega
      go_wp2_with fail
      go_ret
      exact ⟨rfl, rfl⟩
set_option maxHeartbeats 1000000 in
set_option maxRecDepth 100000 in
theorem due_calls {w : World} {g : Nat} {f : Nat → Value} (hB : BkC w g f) (h0 : f 0 = .bool false) {t : Int} (h2 : f 2 = .int .i64 t) (n : Int) :
    Calls Tryz.prog 33 #[.pointer (some ⟨g, 0, none⟩), .int .i64 n] w fun e w' => (∃ x, e = .returned (.int .i64 x)) ∧ w' = w := by
  have c0 := hB.cell 0 (by omega)
  have c2 := hB.cell 2 (by omega)
  rw [h0] at c0
  rw [h2] at c2
  clear hB h0 h2
  go_enter Tryz.func33, Tryz.ntmps33
  go_wp2_with fail
  all_goals (go_ret; exact ⟨⟨_, rfl⟩, rfl⟩)
end Go.Proofs.YtaonjmkfbfhanaaGreatDoor.Kb
