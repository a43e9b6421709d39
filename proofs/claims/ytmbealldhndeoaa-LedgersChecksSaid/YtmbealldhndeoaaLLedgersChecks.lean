/- What the printed functions of this chapter answer, as plain lists and numbers; used by the law LedgersChecks. -/
import Derived.Test.YtmbealldhndeoaaYLedgersChecks
import Derived.IntWalk
import Derived.Laws.BitsAllLaws
namespace Go.Proofs.Ytmbealldhndeoaa.Pure
open Go.RowKit Go.IntWalk Go.Proofs.Ytmbealldhndeoaa.PLedgersChecks Go.Proofs.YtmbealldhndeoaaW.PrintWords Go.Proofs.YtmbealldhndeoaaW.PrintLast Go.Proofs.YtmbealldhndeoaaW.PrintMore
set_option linter.unusedVariables false

namespace L13
theorem u64_of {n : Int} (h : (Lit.int .u64 n).wf = true) : 0 ≤ n ∧ n ≤ 18446744073709551615 := by
  simpa [Lit.wf, IntKind.min, IntKind.max, IntKind.signed, IntKind.bits] using h
theorem u8_of {n : Int} (h : (Lit.int .u8 n).wf = true) : 0 ≤ n ∧ n ≤ 255 := by
  simpa [Lit.wf, IntKind.min, IntKind.max, IntKind.signed, IntKind.bits] using h

theorem rd_at (l : List S32) (i : Nat) (h : i < l.length) : rd_T32 l (i : Int) = l[i] := by
  simp [rd_T32, List.getD_eq_getElem?_getD, List.getElem?_eq_getElem h]

def szM (x : S32) (o : Int) : Int := if x.f1 = true then x.f2 else o
def atM (pl pe id : Int) : Int := if pl < id then 0 else if pl > id then 18446744073709551615 else pe
/-- A ledger's numbers are of their kind, and its count is one that a right ledger has. -/
def Ok (x : S32) : Prop := (0 ≤ x.f0 ∧ x.f0 ≤ 18446744073709551615) ∧ 0 ≤ x.f2 ∧ x.f2 ≤ 1048576

def rightAt (l : List S32) (i : Nat) : Bool :=
  !decide ((rd_T32 l (i : Int)).f0 = 0) && !decide ((rd_T32 l (i : Int)).f2 > 1048576) && !(decide (0 < i) && decide ((rd_T32 l (i : Int)).f0 ≤ (rd_T32 l ((i : Int) - 1)).f0)) &&
    ((rd_T32 l (i : Int)).f1 || (decide (i + 1 = l.length) && decide ((rd_T32 l (i : Int)).f2 = 0)))
def rightM (l : List S32) : Bool := decide (l.length ≤ 64) && (List.range l.length).all (rightAt l)


theorem right_len {l : List S32} (h : rightM l = true) : l.length ≤ 64 := by
  unfold rightM at h; simp at h; exact h.1
theorem right_at {l : List S32} (h : rightM l = true) (i : Nat) (hi : i < l.length) : l[i].f0 ≠ 0 ∧ l[i].f2 ≤ 1048576 ∧ (0 < i → (l[i - 1]'(by omega)).f0 < l[i].f0) ∧ (l[i].f1 = false → i + 1 = l.length ∧ l[i].f2 = 0) := by
  unfold rightM at h
  rw [Bool.and_eq_true, List.all_eq_true] at h
  have h1 := h.2 i (List.mem_range.2 hi)
  unfold rightAt at h1
  rw [rd_at l i hi] at h1
  simp only [Bool.and_eq_true, Bool.not_eq_true', decide_eq_false_iff_not, Bool.and_eq_false_iff, Bool.or_eq_true, decide_eq_true_eq] at h1
  obtain ⟨⟨⟨a1, a2⟩, a3⟩, a4⟩ := h1
  refine ⟨a1, by omega, fun h0 => ?_, fun hf => ?_⟩
  · rcases a3 with a3 | a3
    · exact absurd h0 a3
    · rw [show ((i : Int) - 1) = ((i - 1 : Nat) : Int) by omega, rd_at l (i - 1) (by omega)] at a3
      omega
  · rcases a4 with a4 | a4
    · rw [hf] at a4; cases a4
    · exact a4
theorem right_ok {l : List S32} (h : rightM l = true) (hw : ∀ x ∈ l, (0 ≤ x.f0 ∧ x.f0 ≤ 18446744073709551615) ∧ 0 ≤ x.f2) : ∀ x ∈ l, Ok x := by
  intro x hx
  obtain ⟨i, hi, rfl⟩ := List.mem_iff_getElem.1 hx
  exact ⟨(hw _ hx).1, (hw _ hx).2, (right_at h i hi).2.1⟩

theorem right_mk {l : List S32} (hl : l.length ≤ 64) (h : ∀ i (hi : i < l.length), l[i].f0 ≠ 0 ∧ l[i].f2 ≤ 1048576 ∧ (0 < i → (l[i - 1]'(by omega)).f0 < l[i].f0) ∧ (l[i].f1 = false → i + 1 = l.length ∧ l[i].f2 = 0)) : rightM l = true := by
  unfold rightM
  rw [Bool.and_eq_true, List.all_eq_true]
  refine ⟨by simp [hl], fun i hi => ?_⟩
  have hi' := List.mem_range.1 hi
  obtain ⟨h1, h2, h3, h4⟩ := h i hi'
  unfold rightAt
  rw [rd_at l i hi']
  simp only [Bool.and_eq_true, Bool.not_eq_true', decide_eq_false_iff_not, Bool.and_eq_false_iff, Bool.or_eq_true, decide_eq_true_eq]
  refine ⟨⟨⟨h1, by omega⟩, ?_⟩, ?_⟩
  · by_cases h0 : 0 < i
    · right
      rw [show ((i : Int) - 1) = ((i - 1 : Nat) : Int) by omega, rd_at l (i - 1) (by omega)]
      have := h3 h0
      omega
    · exact .inl h0
  · cases hf : l[i].f1 with
    | true => exact .inl rfl
    | false => exact .inr (h4 hf)

theorem right_drop {l : List S32} (h : rightM l = true) (j : Nat) : rightM (l.drop j) = true := by
  have hl := right_len h
  refine right_mk (by rw [List.length_drop]; omega) fun i hi => ?_
  rw [List.length_drop] at hi
  obtain ⟨h1, h2, h3, h4⟩ := right_at h (j + i) (by omega)
  simp only [List.getElem_drop, List.length_drop]
  refine ⟨h1, h2, fun h0 => ?_, fun hf => ?_⟩
  · have := h3 (by omega)
    simpa only [show j + i - 1 = j + (i - 1) by omega] using this
  · obtain ⟨a, b⟩ := h4 hf
    exact ⟨by omega, b⟩

def RisingP (l : List S32) : Prop := l.Pairwise fun x y => x.f0 < y.f0
theorem right_closed {l : List S32} (hl : l.length ≤ 64) (hr : RisingP l) (h : ∀ x ∈ l, x.f1 = true ∧ x.f0 ≠ 0 ∧ x.f2 ≤ 1048576) : rightM l = true := by
  refine right_mk hl fun i hi => ?_
  obtain ⟨h1, h2, h3⟩ := h _ (List.getElem_mem hi)
  refine ⟨h2, h3, fun h0 => ?_, fun hf => ?_⟩
  · exact List.pairwise_iff_getElem.1 hr (i - 1) i (by omega) hi (by omega)
  · rw [h1] at hf; cases hf
theorem right_open {m : List S32} {x : S32} (hl : m.length < 64) (hr : RisingP (m ++ [x])) (h : ∀ y ∈ m, y.f1 = true ∧ y.f0 ≠ 0 ∧ y.f2 ≤ 1048576) (hx : x.f0 ≠ 0 ∧ x.f2 = 0) : rightM (m ++ [x]) = true := by
  refine right_mk (by simp; omega) fun i hi => ?_
  have hp : 0 < i → ((m ++ [x])[i - 1]'(by omega)).f0 < ((m ++ [x])[i]).f0 := fun h0 => List.pairwise_iff_getElem.1 hr (i - 1) i (by omega) hi (by omega)
  rcases Nat.lt_or_ge i m.length with hlt | hge
  · have e : (m ++ [x])[i] = m[i] := List.getElem_append_left hlt
    obtain ⟨h1, h2, h3⟩ := h _ (List.getElem_mem hlt)
    rw [e] at hp ⊢
    refine ⟨h2, h3, hp, fun hf => ?_⟩
    rw [h1] at hf; cases hf
  · have hi2 : i = m.length := by simp at hi; omega
    subst hi2
    have e : (m ++ [x])[m.length] = x := by simp
    rw [e] at hp ⊢
    refine ⟨hx.1, by omega, hp, fun _ => ⟨by simp, hx.2⟩⟩
theorem rising_snoc {m : List S32} {x : S32} (hm : RisingP m) (h : ∀ y ∈ m, y.f0 < x.f0) : RisingP (m ++ [x]) := by
  unfold RisingP
  rw [List.pairwise_append]
  exact ⟨hm, by simp, fun a ha b hb => by rw [List.mem_singleton.1 hb]; exact h a ha⟩
theorem rd_last (m : List S32) (x : S32) : rd_T32 (m ++ [x]) (m.length : Int) = x := by
  simp [rd_T32, List.getD_eq_getElem?_getD]
theorem last_wrap (m : List S32) (x : S32) (h : m.length ≤ 4096) : wrap64 (((m ++ [x]).length : Int) - 1) = (m.length : Int) := by
  rw [wrap64_in _ (by simp; omega)]; simp

theorem size_f (x : S32) (o : Int) : ledgers_size.f x.f0 x.f1 x.f2 o = some (szM x o) := by
  unfold ledgers_size.f szM; split <;> rfl
theorem at_f (pl pe id : Int) : ledgers_at.f pl pe id = some (atM pl pe id) := by
  unfold ledgers_at.f atM
  split
  · rfl
  · split <;> rfl

def con (o al ae bl be : Int) (x : S32) : Int :=
  if mn (atM bl be x.f0) (szM x o) > mn (atM al ae x.f0) (szM x o) then mn (atM bl be x.f0) (szM x o) - mn (atM al ae x.f0) (szM x o) else 0
def sumB (o al ae bl be : Int) : List S32 → Int
  | [] => 0
  | x :: l => con o al ae bl be x + sumB o al ae bl be l

theorem szM_bd {x : S32} {o : Int} (hx : Ok x) (ho : 0 ≤ o ∧ o ≤ 1099511627776) : 0 ≤ szM x o ∧ szM x o ≤ 1099511627776 := by
  obtain ⟨_, h1, h2⟩ := hx
  unfold szM; split <;> omega
theorem atM_bd {pl pe id : Int} (h : 0 ≤ pe) : 0 ≤ atM pl pe id := by
  unfold atM; split
  · omega
  · split <;> omega
theorem con_bd' {o al ae bl be : Int} {x : S32} (hs : 0 ≤ szM x o ∧ szM x o ≤ 1099511627776) (ha : 0 ≤ ae) (hb : 0 ≤ be) : 0 ≤ con o al ae bl be x ∧ con o al ae bl be x ≤ 1099511627776 := by
  have h2 := atM_bd (pl := al) (id := x.f0) ha
  have h3 := atM_bd (pl := bl) (id := x.f0) hb
  unfold con mn
  (repeat' split) <;> omega
theorem sumB_bd' {o al ae bl be : Int} (ha : 0 ≤ ae) (hb : 0 ≤ be) : ∀ (l : List S32), (∀ x ∈ l, 0 ≤ szM x o ∧ szM x o ≤ 1099511627776) → 0 ≤ sumB o al ae bl be l ∧ sumB o al ae bl be l ≤ l.length * 1099511627776
  | [], _ => by simp [sumB]
  | x :: l, h => by
    have h1 := con_bd' (al := al) (bl := bl) (h x List.mem_cons_self) ha hb
    have h2 := sumB_bd' (al := al) (bl := bl) ha hb l fun y hy => h y (List.mem_cons_of_mem _ hy)
    simp only [sumB, List.length_cons]
    omega
theorem sumB_bd {o al ae bl be : Int} (ho : 0 ≤ o ∧ o ≤ 1099511627776) (ha : 0 ≤ ae) (hb : 0 ≤ be) (l : List S32) (h : ∀ x ∈ l, Ok x) : 0 ≤ sumB o al ae bl be l ∧ sumB o al ae bl be l ≤ l.length * 1099511627776 :=
  sumB_bd' ha hb l fun x hx => szM_bd (h x hx) ho

theorem between_l0 {l : List S32} {o al ae bl be : Int} (hl : l.length ≤ 4096) (hs : ∀ x ∈ l, 0 ≤ szM x o ∧ szM x o ≤ 1099511627776) (ha : 0 ≤ ae) (hb : 0 ≤ be) (d : Nat) : ∀ (k : Nat) (i : Nat) (n : Int), i + d = l.length → d < k → 0 ≤ n → n ≤ i * 1099511627776 →
    ledgers_Between.l0 k o n l (l.length : Int) i al ae bl be = some (n + sumB o al ae bl be (l.drop i)) := by
  induction d with
  | zero =>
    intro k i n h hk h0 h1
    obtain ⟨k, rfl⟩ : ∃ m, k = m + 1 := ⟨k - 1, by omega⟩
    simp only [ledgers_Between.l0]; rw [if_neg (by omega), List.drop_eq_nil_of_le (by omega)]; simp [sumB]
  | succ d ih =>
    intro k i n h hk' h0 h1
    obtain ⟨k, rfl⟩ : ∃ m, k = m + 1 := ⟨k - 1, by omega⟩
    have hi : i < l.length := by omega
    have hd : l.drop i = l[i] :: l.drop (i + 1) := List.drop_eq_getElem_cons hi
    have hc := con_bd' (al := al) (bl := bl) (hs l[i] (List.getElem_mem hi)) ha hb
    simp only [ledgers_Between.l0]
    rw [if_pos (by omega), if_pos (by omega), if_pos (by omega), rd_at l i hi, hd, at_f, size_f, at_f, wrap64_in ((i : Int) + 1) (by omega), show ((i : Int) + 1) = ((i + 1 : Nat) : Int) by omega]
    simp only [Option.bind_some, sumB]
    have hcon : con o al ae bl be l[i] = if mn (atM bl be l[i].f0) (szM l[i] o) > mn (atM al ae l[i].f0) (szM l[i] o) then mn (atM bl be l[i].f0) (szM l[i] o) - mn (atM al ae l[i].f0) (szM l[i] o) else 0 := rfl
    by_cases hgt : mn (atM bl be l[i].f0) (szM l[i] o) > mn (atM al ae l[i].f0) (szM l[i] o)
    · rw [if_pos hgt] at hcon ⊢
      rw [← hcon, u64_in (con o al ae bl be l[i]) (by omega), u64_in (n + con o al ae bl be l[i]) (by omega), ih k (i + 1) _ (by omega) (by omega) (by omega) (by omega)]
      congr 1; omega
    · rw [if_neg hgt] at hcon ⊢
      rw [ih k (i + 1) _ (by omega) (by omega) (by omega) (by omega)]
      congr 1; omega

theorem between_f' {l : List S32} {o al ae bl be : Int} (hl : l.length ≤ 64) (hs : ∀ x ∈ l, 0 ≤ szM x o ∧ szM x o ≤ 1099511627776) (ha : 0 ≤ ae) (hb : 0 ≤ be) (k : Nat) (hkk : 66 ≤ k) :
    ledgers_Between.f k l o al ae bl be = some (sumB o al ae bl be l) := by
  unfold ledgers_Between.f
  have := between_l0 (l := l) (al := al) (bl := bl) (by omega) hs ha hb l.length k 0 0 (by omega) (by omega) (by omega) (by omega)
  simpa using this
theorem between_f {l : List S32} {o al ae bl be : Int} (hl : l.length ≤ 64) (hk : ∀ x ∈ l, Ok x) (ho : 0 ≤ o ∧ o ≤ 1099511627776) (ha : 0 ≤ ae) (hb : 0 ≤ be) (k : Nat) (hkk : 66 ≤ k) :
    ledgers_Between.f k l o al ae bl be = some (sumB o al ae bl be l) := between_f' hl (fun x hx => szM_bd (hk x hx) ho) ha hb k hkk

theorem right_j1 {l : List S32} {i : Nat} (hi : i < l.length) (hl : l.length ≤ 64) (b : Bool) (k : Nat) :
    mailcoachref13_Right.j1 (k + 1) l i b = if (!b && ((rd_T32 l (i : Int)).f1 || (decide (i + 1 = l.length) && decide ((rd_T32 l (i : Int)).f2 = 0)))) = true then mailcoachref13_Right.l0 k l ((i + 1 : Nat) : Int) else some false := by
  simp only [mailcoachref13_Right.j1]
  rw [wrap64_in ((i : Int) + 1) (by omega), show ((i : Int) + 1) = ((i + 1 : Nat) : Int) by omega]
  cases b with
  | true => simp
  | false =>
    rw [if_neg (by decide), if_pos (by omega), if_pos (by omega)]
    cases hf : (rd_T32 l (i : Int)).f1 with
    | true => simp
    | false =>
      rw [if_neg (by decide), wrap64_in _ (by omega)]
      by_cases h1 : i + 1 = l.length
      · rw [if_pos (by omega)]
        by_cases h2 : (rd_T32 l (i : Int)).f2 = 0
        · simp [h1, h2]
        · simp [h2]
      · rw [if_neg (by omega)]
        simp [h1]

theorem right_l0 {l : List S32} (hl : l.length ≤ 64) (d : Nat) : ∀ (k : Nat) (i : Nat), i + d = l.length → 2 * d < k → mailcoachref13_Right.l0 k l i = some ((List.range d).all fun j => rightAt l (i + j)) := by
  induction d with
  | zero =>
    intro k i h hk
    obtain ⟨k, rfl⟩ : ∃ m, k = m + 1 := ⟨k - 1, by omega⟩
    simp only [mailcoachref13_Right.l0]; rw [if_neg (by omega)]; simp
  | succ d ih =>
    intro k i h hk
    obtain ⟨k, rfl⟩ : ∃ m, k = m + 2 := ⟨k - 2, by omega⟩
    have hi : i < l.length := by omega
    have step : mailcoachref13_Right.l0 (k + 1 + 1) l i = if rightAt l i = true then mailcoachref13_Right.l0 k l ((i + 1 : Nat) : Int) else some false := by
      rw [mailcoachref13_Right.l0, if_pos (by omega), if_pos (by omega)]
      unfold rightAt
      by_cases h1 : (rd_T32 l (i : Int)).f0 = 0
      · rw [if_pos h1, right_j1 hi hl]; simp [h1]
      · rw [if_neg h1]
        by_cases h2 : (rd_T32 l (i : Int)).f2 > 1048576
        · rw [if_pos h2, right_j1 hi hl]; simp [h2]
        · rw [if_neg h2]
          by_cases h3 : (i : Int) > 0
          · rw [if_pos h3, wrap64_in _ (by omega), if_pos (by omega), if_pos (by omega), right_j1 hi hl]
            have h3' : 0 < i := by omega
            simp only [h1, h2, h3', decide_true, decide_false, Bool.not_false, Bool.true_and]
          · rw [if_neg h3, right_j1 hi hl]
            have h3' : ¬ 0 < i := by omega
            simp only [h1, h2, h3', decide_false, Bool.not_false, Bool.true_and, Bool.false_and]
    rw [step, List.range_succ_eq_map, List.all_cons, List.all_map, show i + 0 = i from rfl]
    by_cases hr : rightAt l i = true
    · rw [if_pos hr, ih k (i + 1) (by omega) (by omega), hr, Bool.true_and]
      congr 2
      funext j
      simp only [Function.comp, Nat.succ_eq_add_one]
      rw [show i + 1 + j = i + (j + 1) by omega]
    · rw [if_neg hr]
      simp [hr]

theorem right_f (l : List S32) (k : Nat) (hk : 200 ≤ k) : mailcoachref13_Right.f k l = some (rightM l) := by
  unfold mailcoachref13_Right.f rightM
  by_cases hl : l.length ≤ 64
  · rw [if_neg (by omega)]
    have := right_l0 hl l.length k 0 (by omega) (by omega)
    simp only [Nat.zero_add] at this
    rw [show ((0 : Nat) : Int) = 0 from rfl] at this
    rw [this]; simp [hl]
  · rw [if_pos (by omega)]; simp [hl]


theorem check_l0 {l : List S32} (hl : l.length ≤ 64) (hw : ∀ x ∈ l, 0 ≤ x.f2) (d : Nat) : ∀ (k : Nat) (i : Nat), i + d = l.length → d < k → ledgers_Check.l0 k l l (l.length : Int) i = some ((List.range d).all fun j => rightAt l (i + j)) := by
  induction d with
  | zero =>
    intro k i h hk
    obtain ⟨k, rfl⟩ : ∃ m, k = m + 1 := ⟨k - 1, by omega⟩
    simp only [ledgers_Check.l0]; rw [if_neg (by omega)]; simp
  | succ d ih =>
    intro k i h hk
    obtain ⟨k, rfl⟩ : ∃ m, k = m + 1 := ⟨k - 1, by omega⟩
    have hi : i < l.length := by omega
    have hx2 : 0 ≤ (rd_T32 l (i : Int)).f2 := by rw [rd_at l i hi]; exact hw _ (List.getElem_mem hi)
    have step : ledgers_Check.l0 (k + 1) l l (l.length : Int) i = if rightAt l i = true then ledgers_Check.l0 k l l (l.length : Int) ((i + 1 : Nat) : Int) else some false := by
      rw [ledgers_Check.l0, if_pos (by omega), if_pos (by omega), if_pos (by omega), wrap64_in ((i : Int) + 1) (by omega), show ((i : Int) + 1) = ((i + 1 : Nat) : Int) by omega]
      have last : (if (rd_T32 l (i : Int)).f1 = true then ledgers_Check.l0 k l l (l.length : Int) ((i + 1 : Nat) : Int) else if (rd_T32 l (i : Int)).f2 > 0 then some false else if (i : Int) < wrap64 ((l.length : Int) - 1) then some false else ledgers_Check.l0 k l l (l.length : Int) ((i + 1 : Nat) : Int)) =
          if ((rd_T32 l (i : Int)).f1 || (decide (i + 1 = l.length) && decide ((rd_T32 l (i : Int)).f2 = 0))) = true then ledgers_Check.l0 k l l (l.length : Int) ((i + 1 : Nat) : Int) else some false := by
        rw [wrap64_in ((l.length : Int) - 1) (by omega)]
        cases hf : (rd_T32 l (i : Int)).f1 with
        | true => simp
        | false =>
          rw [if_neg (by decide)]
          by_cases h2 : (rd_T32 l (i : Int)).f2 > 0
          · rw [if_pos h2]
            have : ¬ (rd_T32 l (i : Int)).f2 = 0 := by omega
            simp [this]
          · rw [if_neg h2]
            have h3 : (rd_T32 l (i : Int)).f2 = 0 := by omega
            by_cases h4 : (i : Int) < (l.length : Int) - 1
            · rw [if_pos h4]
              have : ¬ i + 1 = l.length := by omega
              simp [this]
            · rw [if_neg h4]
              have : i + 1 = l.length := by omega
              simp [this, h3]
      unfold rightAt
      by_cases h1 : (rd_T32 l (i : Int)).f0 = 0
      · rw [if_pos h1]; simp [h1]
      · rw [if_neg h1]
        by_cases h2 : (rd_T32 l (i : Int)).f2 > 1048576
        · rw [if_pos h2]; simp [h2]
        · rw [if_neg h2]
          by_cases h3 : (i : Int) > 0
          · have h3' : 0 < i := by omega
            rw [if_pos h3, wrap64_in ((i : Int) - 1) (by omega), if_pos (by omega), if_pos (by omega)]
            by_cases h4 : (rd_T32 l ((i : Int) - 1)).f0 ≥ (rd_T32 l (i : Int)).f0
            · rw [if_pos h4]
              have h5 : (rd_T32 l (i : Int)).f0 ≤ (rd_T32 l ((i : Int) - 1)).f0 := h4
              simp only [h1, h2, h3', h5, decide_true, decide_false, Bool.not_false, Bool.true_and, Bool.not_true, Bool.false_and]
              rfl
            · rw [if_neg h4, last]
              have h5 : ¬ (rd_T32 l (i : Int)).f0 ≤ (rd_T32 l ((i : Int) - 1)).f0 := h4
              simp only [h1, h2, h3', h5, decide_true, decide_false, Bool.not_false, Bool.true_and]
          · rw [if_neg h3, last]
            have h3' : ¬ 0 < i := by omega
            simp only [h1, h2, h3', decide_false, Bool.not_false, Bool.true_and, Bool.false_and]
    rw [step, List.range_succ_eq_map, List.all_cons, List.all_map, show i + 0 = i from rfl]
    by_cases hr : rightAt l i = true
    · rw [if_pos hr, ih k (i + 1) (by omega) (by omega), hr, Bool.true_and]
      congr 2
      funext j
      simp only [Function.comp, Nat.succ_eq_add_one]
      rw [show i + 1 + j = i + (j + 1) by omega]
    · rw [if_neg hr]
      simp [hr]

theorem check_f (l : List S32) (hw : ∀ x ∈ l, 0 ≤ x.f2) (k : Nat) (hk : 70 ≤ k) : ledgers_Check.f k l = some (rightM l) := by
  unfold ledgers_Check.f rightM
  by_cases hl : l.length ≤ 64
  · rw [if_neg (by omega)]
    have := check_l0 hl hw l.length k 0 (by omega) (by omega)
    simp only [Nat.zero_add] at this
    rw [show ((0 : Nat) : Int) = 0 from rfl] at this
    rw [this]; simp [hl]
  · rw [if_pos (by omega)]; simp [hl]

theorem awake (k : Nat) (hk : 60 ≤ k) : mailcoachlaw13_Awake.f k = some true :=
  at_rounds mailcoachlaw13_Awake.mono hk (by decide +kernel)

def nextM (o pl pe : Int) : Int → Int → List S32 → Int × Int × Bool
  | el, ee, [] => (el, ee, false)
  | _, _, x :: l => if atM pl pe x.f0 < szM x o then (x.f0, atM pl pe x.f0, true) else nextM o pl pe x.f0 (szM x o) l

theorem next_l0 {l : List S32} {o pl pe : Int} (hl : l.length ≤ 9223372036854775806) (d : Nat) : ∀ (k : Nat) (i : Nat) (el ee : Int), i + d = l.length → d < k →
    ledgers_Next.l0 k o l (l.length : Int) i pl pe el ee = some (nextM o pl pe el ee (l.drop i)) := by
  induction d with
  | zero =>
    intro k i el ee h hk
    obtain ⟨k, rfl⟩ : ∃ m, k = m + 1 := ⟨k - 1, by omega⟩
    simp only [ledgers_Next.l0]; rw [if_neg (by omega), List.drop_eq_nil_of_le (by omega)]; rfl
  | succ d ih =>
    intro k i el ee h hk
    obtain ⟨k, rfl⟩ : ∃ m, k = m + 1 := ⟨k - 1, by omega⟩
    have hi : i < l.length := by omega
    have hd : l.drop i = l[i] :: l.drop (i + 1) := List.drop_eq_getElem_cons hi
    simp only [ledgers_Next.l0]
    rw [if_pos (by omega), if_pos (by omega), if_pos (by omega), rd_at l i hi, hd, size_f, at_f, wrap64_in ((i : Int) + 1) (by omega), show ((i : Int) + 1) = ((i + 1 : Nat) : Int) by omega]
    simp only [Option.bind_some, nextM]
    by_cases h1 : atM pl pe l[i].f0 < szM l[i] o
    · rw [if_pos h1, if_pos h1]
    · rw [if_neg h1, if_neg h1, ih k (i + 1) _ _ (by omega) (by omega)]

theorem next_f {l : List S32} {o pl pe : Int} (hl : l.length ≤ 9223372036854775806) (k : Nat) (hk : l.length < k) : ledgers_Next.f k l o pl pe = some (nextM o pl pe 0 0 l) := by
  unfold ledgers_Next.f
  have := next_l0 (o := o) (pl := pl) (pe := pe) hl l.length k 0 0 0 (by omega) (by omega)
  simpa using this

/-- What a right ledger's entries are from a place on. -/
def conE (o pl pe : Int) (x : S32) : Int := if atM pl pe x.f0 < szM x o then szM x o - atM pl pe x.f0 else 0
def sumE (o pl pe : Int) : List S32 → Int
  | [] => 0
  | x :: l => conE o pl pe x + sumE o pl pe l
def Rising (l : List S32) : Prop := l.Pairwise fun x y => x.f0 < y.f0
/-- A ledger that is read: its number is of its kind, its size small. -/
def Sm (o : Int) (B : Int) (x : S32) : Prop := (0 ≤ x.f0 ∧ x.f0 ≤ 18446744073709551615) ∧ 0 ≤ szM x o ∧ szM x o ≤ B

theorem sumB_end {o pl pe B : Int} (hB : B ≤ 18446744073709551615) : ∀ (l : List S32), (∀ x ∈ l, Sm o B x) → sumB o pl pe 18446744073709551615 18446744073709551615 l = sumE o pl pe l
  | [], _ => rfl
  | x :: l, h => by
    have i1 := sumB_end (o := o) (pl := pl) (pe := pe) hB l fun y hy => h y (List.mem_cons_of_mem _ hy)
    obtain ⟨h1, h2⟩ := h x List.mem_cons_self
    have e : atM 18446744073709551615 18446744073709551615 x.f0 = 18446744073709551615 := by
      unfold atM; rw [if_neg (by omega)]; split <;> rfl
    simp only [sumB, sumE, i1]
    congr 1
    unfold con conE
    rw [e]
    unfold mn
    (repeat' split) <;> omega

theorem sumE_nonneg {o pl pe : Int} : ∀ (l : List S32), 0 ≤ sumE o pl pe l
  | [] => by simp [sumE]
  | x :: l => by
    have := sumE_nonneg (o := o) (pl := pl) (pe := pe) l
    simp only [sumE]
    unfold conE
    split <;> omega

theorem sumE_tail {o pl pe ql qe m : Int} (h1 : pl ≤ m) (h2 : ql ≤ m) : ∀ (l : List S32), (∀ x ∈ l, m < x.f0) → sumE o pl pe l = sumE o ql qe l
  | [], _ => rfl
  | x :: l, h => by
    have i1 := sumE_tail (o := o) (pe := pe) (qe := qe) h1 h2 l fun y hy => h y (List.mem_cons_of_mem _ hy)
    have hx := h x List.mem_cons_self
    have e1 : atM pl pe x.f0 = 0 := by unfold atM; rw [if_pos (by omega)]
    have e2 : atM ql qe x.f0 = 0 := by unfold atM; rw [if_pos (by omega)]
    simp only [sumE, i1]
    unfold conE
    rw [e1, e2]

theorem next_true {o pl pe B : Int} (hB : B < 18446744073709551615) (hp : 0 ≤ pe) : ∀ (l : List S32) (el ee a b : Int), Rising l → (∀ x ∈ l, Sm o B x) → nextM o pl pe el ee l = (a, b, true) →
    (∃ y ∈ l, y.f0 = a ∧ b < szM y o) ∧ pl ≤ a ∧ (pl = a → b = pe) ∧ (pl < a → b = 0) ∧ 0 ≤ b ∧ b < B ∧ sumE o a (b + 1) l + 1 = sumE o pl pe l ∧ ∀ el' ee', nextM o a b el' ee' l = (a, b, true)
  | [], el, ee, a, b, _, _, h => by simp [nextM] at h
  | x :: l, el, ee, a, b, hr, hs, h => by
    have hx := hs x List.mem_cons_self
    obtain ⟨⟨x1, x2⟩, x3, x4⟩ := hx
    have hr' : Rising l := (List.pairwise_cons.1 hr).2
    have hlt := (List.pairwise_cons.1 hr).1
    simp only [nextM] at h
    by_cases h1 : atM pl pe x.f0 < szM x o
    · rw [if_pos h1] at h
      obtain ⟨rfl, h2⟩ := Prod.mk.inj h
      obtain ⟨h2, _⟩ := Prod.mk.inj h2
      have hpl : pl ≤ x.f0 := by
        by_cases h3 : x.f0 < pl
        · exfalso; unfold atM at h1; rw [if_neg (by omega), if_pos (by omega)] at h1; omega
        · omega
      have hat : atM x.f0 b x.f0 = b := by unfold atM; rw [if_neg (by omega), if_neg (by omega)]
      have hat1 : atM x.f0 (b + 1) x.f0 = b + 1 := by unfold atM; rw [if_neg (by omega), if_neg (by omega)]
      have hb0 : 0 ≤ b := by rw [← h2]; unfold atM; split; omega; split <;> omega
      refine ⟨⟨x, List.mem_cons_self, rfl, by omega⟩, hpl, fun e => ?_, fun e => ?_, hb0, by omega, ?_, fun el' ee' => ?_⟩
      · rw [← h2]; unfold atM; rw [if_neg (by omega), if_neg (by omega)]
      · rw [← h2]; unfold atM; rw [if_pos e]
      · simp only [sumE]
        rw [sumE_tail (o := o) (pl := x.f0) (pe := b + 1) (ql := pl) (qe := pe) (m := x.f0) (Int.le_refl _) hpl l hlt]
        have e1 : conE o x.f0 (b + 1) x + 1 = conE o pl pe x := by
          unfold conE
          rw [hat1, h2, if_pos (show b < szM x o by omega)]
          split <;> omega
        omega
      · simp only [nextM]
        rw [hat, if_pos (by omega)]
    · rw [if_neg h1] at h
      obtain ⟨⟨y, hy, hya, hyb⟩, h2, h3, h4, h5, h6, h7, h8⟩ := next_true hB hp l _ _ a b hr' (fun z hz => hs z (List.mem_cons_of_mem _ hz)) h
      have hxa : x.f0 < a := by rw [← hya]; exact hlt y hy
      have m1 : ∀ c, atM a c x.f0 = 18446744073709551615 := fun c => by unfold atM; rw [if_neg (by omega), if_pos (by omega)]
      refine ⟨⟨y, List.mem_cons_of_mem _ hy, hya, hyb⟩, h2, h3, h4, h5, h6, ?_, fun el' ee' => ?_⟩
      · simp only [sumE]
        have e1 : conE o a (b + 1) x = 0 := by unfold conE; rw [m1, if_neg (by omega)]
        have e2 : conE o pl pe x = 0 := by unfold conE; rw [if_neg h1]
        omega
      · simp only [nextM]
        rw [m1, if_neg (by omega)]
        exact h8 _ _

theorem next_none {o pl pe : Int} : ∀ (l : List S32) (el ee a b : Int), nextM o pl pe el ee l = (a, b, false) → sumE o pl pe l = 0
  | [], _, _, _, _, _ => rfl
  | x :: l, el, ee, a, b, h => by
    simp only [nextM] at h
    by_cases h1 : atM pl pe x.f0 < szM x o
    · rw [if_pos h1] at h; simp at h
    · rw [if_neg h1] at h
      have := next_none l _ _ _ _ h
      simp only [sumE, this]
      unfold conE
      rw [if_neg h1]; rfl

theorem right_rising {l : List S32} (h : rightM l = true) : Rising l := by
  have step : ∀ i (hi : i + 1 < l.length), l[i].f0 < l[i + 1].f0 := fun i hi => by
    have := (right_at h (i + 1) hi).2.2.1 (by omega)
    simpa using this
  have far : ∀ (d i : Nat) (hi : i + d + 1 < l.length), l[i].f0 < l[i + d + 1].f0 := by
    intro d
    induction d with
    | zero => intro i hi; exact step i hi
    | succ d ih => intro i hi; exact Int.lt_trans (ih i (by omega)) (step (i + d + 1) hi)
  unfold Rising
  rw [List.pairwise_iff_getElem]
  intro i j hi hj hij
  obtain ⟨d, rfl⟩ : ∃ d, j = i + d + 1 := ⟨j - i - 1, by omega⟩
  exact far d i hj

theorem clone_f (l : List S32) (h : l.length < 5864062014805) : api_Ledger.f l = some l := by
  unfold api_Ledger.f
  simp [h]

theorem same_l0 (l : List S32) (hl : l.length ≤ 4096) (d : Nat) : ∀ (k : Nat) (i : Nat), i + d = l.length → d < k → mailcoachref13_SameLedgers.l0 k l l i = some true := by
  induction d with
  | zero =>
    intro k i h hk
    obtain ⟨k, rfl⟩ : ∃ m, k = m + 1 := ⟨k - 1, by omega⟩
    simp only [mailcoachref13_SameLedgers.l0]; rw [if_neg (by omega)]
  | succ d ih =>
    intro k i h hk
    obtain ⟨k, rfl⟩ : ∃ m, k = m + 1 := ⟨k - 1, by omega⟩
    have h1 : (i : Int) < (l.length : Int) := by omega
    simp only [mailcoachref13_SameLedgers.l0]
    rw [if_pos h1, if_pos (by omega), if_pos h1, if_neg (by simp), wrap64_in _ (by omega), show ((i : Int) + 1) = ((i + 1 : Nat) : Int) by omega]
    exact ih k (i + 1) (by omega) (by omega)
theorem same_f (l : List S32) (hl : l.length ≤ 4096) (k : Nat) (hk : l.length < k) : mailcoachref13_SameLedgers.f k l l = some true := by
  unfold mailcoachref13_SameLedgers.f
  rw [if_pos rfl]
  exact same_l0 l hl l.length k 0 (by omega) hk

theorem open_nil {id : Int} (k : Nat) (hk : 4 ≤ k) : ledgers_Open.f k [] id = some (if id = 0 then ([], 30) else ([⟨id, false, 0⟩], 0)) := by
  obtain ⟨k, rfl⟩ : ∃ m, k = m + 2 := ⟨k - 2, by omega⟩
  unfold ledgers_Open.f
  rw [if_neg (by simp)]
  simp only [ledgers_Open.j0, ledgers_Open.j1]
  by_cases h : id = 0
  · rw [if_pos h, if_pos h]; rfl
  · rw [if_neg h, if_neg h, if_neg (by simp), clone_f [] (by simp)]
    simp
theorem open_snoc {m : List S32} {x : S32} {id : Int} (hm : m.length < 4096) (k : Nat) (hk : 4 ≤ k) :
    ledgers_Open.f k (m ++ [x]) id = some (if x.f1 = false then ([], 23) else if id = 0 ∨ x.f0 ≥ id then ([], 30) else if m.length + 1 ≥ 64 then ([], 14) else (m ++ [x] ++ [⟨id, false, 0⟩], 0)) := by
  obtain ⟨k, rfl⟩ : ∃ m, k = m + 2 := ⟨k - 2, by omega⟩
  unfold ledgers_Open.f
  have hl : (((m ++ [x]).length : Nat) : Int) = (m.length : Int) + 1 := by simp
  rw [if_pos (by omega), last_wrap m x (by omega), if_pos (by omega), if_pos (by omega), rd_last]
  simp only [ledgers_Open.j0, ledgers_Open.j1]
  rw [last_wrap m x (by omega), rd_last]
  cases hf : x.f1 with
  | false => simp
  | true =>
    rw [if_neg (show ¬ (!true) = true by decide), if_neg (show ¬ (true = false) by decide)]
    by_cases h1 : id = 0
    · rw [if_pos h1, if_pos (show id = 0 ∨ x.f0 ≥ id from .inl h1)]; rfl
    · rw [if_neg h1, if_pos (by omega), if_pos (by omega), if_pos (by omega)]
      by_cases h2 : x.f0 ≥ id
      · rw [if_pos (show decide (x.f0 ≥ id) = true by simp [h2]), if_pos (show id = 0 ∨ x.f0 ≥ id from .inr h2)]
      · rw [if_neg (show ¬ decide (x.f0 ≥ id) = true by simp [h2]), if_neg (show ¬ (id = 0 ∨ x.f0 ≥ id) from fun h => h.elim h1 h2)]
        by_cases h3 : m.length + 1 ≥ 64
        · rw [if_pos (show ((m ++ [x]).length : Int) ≥ 64 by omega), if_pos h3]
        · rw [if_neg (show ¬ ((m ++ [x]).length : Int) ≥ 64 by omega), if_neg h3, clone_f _ (by simp; omega)]
          simp only [Option.bind_some]
          rw [if_pos (by simp; omega)]

theorem close_nil {c : Int} (k : Nat) (hk : 4 ≤ k) : ledgers_Close.f k [] c = some ([], 23) := by
  obtain ⟨k, rfl⟩ : ∃ m, k = m + 2 := ⟨k - 2, by omega⟩
  unfold ledgers_Close.f
  rw [if_pos (by simp)]
  simp [ledgers_Close.j0]
theorem close_snoc {m : List S32} {x : S32} {c : Int} (hm : m.length < 4096) (k : Nat) (hk : 4 ≤ k) :
    ledgers_Close.f k (m ++ [x]) c = some (if x.f1 = true then ([], 23) else if c > 1048576 then ([], 14) else (m ++ [⟨x.f0, true, c⟩], 0)) := by
  obtain ⟨k, rfl⟩ : ∃ m, k = m + 2 := ⟨k - 2, by omega⟩
  unfold ledgers_Close.f
  have hl : (((m ++ [x]).length : Nat) : Int) = (m.length : Int) + 1 := by simp
  rw [if_neg (by omega), last_wrap m x (by omega), if_pos (by omega), if_pos (by omega), rd_last]
  simp only [ledgers_Close.j0]
  rw [last_wrap m x (by omega)]
  cases hf : x.f1 with
  | true => simp
  | false =>
    rw [if_neg (show ¬ (false = true) by decide), if_neg (show ¬ (false = true) by decide)]
    by_cases h1 : c > 1048576
    · rw [if_pos h1, if_pos h1]
    · rw [if_neg h1, if_neg h1, clone_f _ (by simp; omega)]
      simp only [Option.bind_some]
      rw [if_pos (by omega), if_pos (by omega), show ((m.length : Int)).toNat = m.length by omega, rd_last]
      have e1 : (m ++ [x]).set m.length (⟨x.f0, true, x.f2⟩ : S32) = m ++ [(⟨x.f0, true, x.f2⟩ : S32)] := by simp
      rw [e1, rd_last]
      simp

/-- What Made makes: right ledgers, few, of small numbers. -/
def Mk (t : List S32) : Prop := rightM t = true ∧ t.length ≤ 13 ∧ ∀ x ∈ t, (0 ≤ x.f0 ∧ x.f0 ≤ 52) ∧ 0 ≤ x.f2 ∧ x.f2 ≤ 5

theorem made_end {acc : List S32} (isOpen : Bool) (hl : acc.length ≤ 13) (hr : RisingP acc) (h : ∀ x ∈ acc, x.f1 = true ∧ (1 ≤ x.f0 ∧ x.f0 ≤ 52) ∧ 0 ≤ x.f2 ∧ x.f2 ≤ 5) :
    ∃ t, (if isOpen = true then (if (acc.length : Int) > 0 then (if 0 ≤ (wrap64 ((acc.length : Int) - 1)) then (if (wrap64 ((acc.length : Int) - 1)) < (acc.length : Int) then ((some (acc.set ((wrap64 ((acc.length : Int) - 1)) : Int).toNat (⟨(rd_T32 acc (wrap64 ((acc.length : Int) - 1))).f0, false, (rd_T32 acc (wrap64 ((acc.length : Int) - 1))).f2⟩ : S32) : List (S32))).bind fun y141 => (some (y141.set ((wrap64 ((acc.length : Int) - 1)) : Int).toNat (⟨(rd_T32 y141 (wrap64 ((acc.length : Int) - 1))).f0, (rd_T32 y141 (wrap64 ((acc.length : Int) - 1))).f1, 0⟩ : S32)))) else (none)) else (none)) else (some acc)) else (some acc)) = some t ∧ Mk t := by
  have hc : Mk acc := ⟨right_closed (by omega) hr fun x hx => by have := h x hx; refine ⟨this.1, by omega, by omega⟩, hl, fun x hx => by have := h x hx; omega⟩
  by_cases h1 : isOpen = true
  · rw [if_pos h1]
    rcases List.eq_nil_or_concat acc with rfl | ⟨m, x, rfl⟩
    · exact ⟨[], rfl, hc⟩
    · rw [List.concat_eq_append] at *
      have hl' : (((m ++ [x]).length : Nat) : Int) = (m.length : Int) + 1 := by simp
      have hm : m.length ≤ 12 := by simp at hl; omega
      rw [if_pos (by omega), last_wrap m x (by omega), if_pos (by omega), if_pos (by omega), show ((m.length : Int)).toNat = m.length by omega, rd_last]
      have e1 : (m ++ [x]).set m.length (⟨x.f0, false, x.f2⟩ : S32) = m ++ [(⟨x.f0, false, x.f2⟩ : S32)] := by simp
      rw [e1]
      simp only [Option.bind_some]
      rw [rd_last]
      refine ⟨m ++ [⟨x.f0, false, 0⟩], by simp, ?_, by simp; omega, ?_⟩
      · have hx := h x (by simp)
        refine right_open (by omega) ?_ (fun y hy => by have := h y (by simp [hy]); exact ⟨this.1, by omega, by omega⟩) ⟨by show x.f0 ≠ 0; omega, rfl⟩
        unfold RisingP at hr ⊢
        rw [List.pairwise_append] at hr ⊢
        refine ⟨hr.1, by simp, fun a ha b hb => ?_⟩
        rw [List.mem_singleton.1 hb]
        exact hr.2.2 a ha x (by simp)
      · intro y hy
        rw [List.mem_append, List.mem_singleton] at hy
        rcases hy with hy | rfl
        · have := h y (by simp [hy]); omega
        · have := h x (by simp)
          exact ⟨⟨by show 0 ≤ x.f0; omega, by show x.f0 ≤ 52; omega⟩, by show (0 : Int) ≤ 0; omega, by show (0 : Int) ≤ 5; omega⟩
  · rw [if_neg h1]; exact ⟨acc, rfl, hc⟩

theorem made_l0 {l : List Int} (isOpen : Bool) (hw : ∀ x ∈ l, 0 ≤ x ∧ x ≤ 255) (hl : l.length ≤ 9223372036854775806) (d : Nat) : ∀ (k : Nat) (acc : List S32) (id : Int) (i : Nat), i + d = min l.length 13 → d < k → acc.length = i → RisingP acc →
    (∀ x ∈ acc, x.f1 = true ∧ (1 ≤ x.f0 ∧ x.f0 ≤ id) ∧ 0 ≤ x.f2 ∧ x.f2 ≤ 5) → 0 ≤ id → id ≤ 4 * i → ∃ t, mailcoachlaw13_Made.l0 k isOpen acc id l (l.length : Int) i = some t ∧ Mk t := by
  induction d with
  | zero =>
    intro k acc id i h hk ha hr hx h0 h1
    obtain ⟨k, rfl⟩ : ∃ m, k = m + 1 := ⟨k - 1, by omega⟩
    have he := made_end (acc := acc) isOpen (by omega) hr (fun x hx' => by have := hx x hx'; refine ⟨this.1, by omega, by omega⟩)
    simp only [mailcoachlaw13_Made.l0]
    by_cases h2 : (i : Int) < (l.length : Int)
    · rw [if_pos h2, if_pos (by omega), if_pos h2, if_pos (by omega)]
      exact he
    · rw [if_neg h2]; exact he
  | succ d ih =>
    intro k acc id i h hk ha hr hx h0 h1
    obtain ⟨k, rfl⟩ : ∃ m, k = m + 1 := ⟨k - 1, by omega⟩
    have hi : i < l.length := by omega
    have hrd : rd l (i : Int) = l[i] := by simp [rd, List.getD_eq_getElem?_getD, List.getElem?_eq_getElem hi]
    have hb := hw l[i] (List.getElem_mem hi)
    simp only [mailcoachlaw13_Made.l0]
    rw [if_pos (by omega), if_pos (by omega), if_pos (by omega), if_neg (by omega), if_pos (by omega), hrd, wrap64_in ((i : Int) + 1) (by omega), show ((i : Int) + 1) = ((i + 1 : Nat) : Int) by omega]
    have e1 : Int.tdiv l[i] 64 % 256 = l[i] / 64 := by rw [Int.tdiv_eq_ediv_of_nonneg (by omega)]; omega
    have e2 : IntKind.u64.wrap (id + (1 + Int.tdiv l[i] 64 % 256)) = id + (1 + l[i] / 64) := by rw [e1, u64_in _ (by omega)]
    have e3 : IntKind.u64.wrap (Int.tmod l[i] 6) = l[i] % 6 := by rw [Int.tmod_eq_emod_of_nonneg (by omega), u64_in _ (by omega)]
    rw [e2, e3]
    refine ih k _ _ (i + 1) (by omega) (by omega) (by simp; omega) (rising_snoc hr fun y hy => ?_) (fun y hy => ?_) (by omega) (by omega)
    · have := hx y hy
      show y.f0 < id + (1 + l[i] / 64)
      omega
    · rw [List.mem_append, List.mem_singleton] at hy
      rcases hy with hy | rfl
      · have := hx y hy
        exact ⟨this.1, by omega, by omega⟩
      · exact ⟨rfl, ⟨by show 1 ≤ id + (1 + l[i] / 64); omega, by show id + (1 + l[i] / 64) ≤ _; omega⟩, by show 0 ≤ l[i] % 6; omega, by show l[i] % 6 ≤ 5; omega⟩

theorem made_f {l : List Int} (isOpen : Bool) (hw : ∀ x ∈ l, 0 ≤ x ∧ x ≤ 255) (hl : l.length ≤ 9223372036854775806) (k : Nat) (hk : 14 ≤ k) : ∃ t, mailcoachlaw13_Made.f k l isOpen = some t ∧ Mk t := by
  unfold mailcoachlaw13_Made.f
  exact made_l0 isOpen hw hl (min l.length 13) k [] 0 0 (by omega) (by omega) rfl (by simp [RisingP]) (by simp) (by omega) (by omega)

end L13
end Go.Proofs.Ytmbealldhndeoaa.Pure
