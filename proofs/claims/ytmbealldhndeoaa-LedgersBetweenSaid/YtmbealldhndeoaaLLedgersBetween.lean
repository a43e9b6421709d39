/- What the printed functions of this chapter answer, as plain lists and numbers; used by the law LedgersBetween. -/
import Derived.Test.YtmbealldhndeoaaPLedgersBetweenx
import Derived.IntWalk
import Derived.Laws.BitsAllLaws
namespace Go.Proofs.Ytmbealldhndeoaa.Pure
open Go.RowKit Go.IntWalk Go.Proofs.Ytmbealldhndeoaa.PLedgersBetween Go.Proofs.YtmbealldhndeoaaW.PrintWords Go.Proofs.YtmbealldhndeoaaW.PrintLast Go.Proofs.YtmbealldhndeoaaW.PrintMore
set_option linter.unusedVariables false

namespace L13
theorem u64_of {n : Int} (h : (Lit.int .u64 n).wf = true) : 0 ≤ n ∧ n ≤ 18446744073709551615 := by
  simpa [Lit.wf, IntKind.min, IntKind.max, IntKind.signed, IntKind.bits] using h
theorem u8_of {n : Int} (h : (Lit.int .u8 n).wf = true) : 0 ≤ n ∧ n ≤ 255 := by
  simpa [Lit.wf, IntKind.min, IntKind.max, IntKind.signed, IntKind.bits] using h

theorem rd_at (l : List S32) (i : Nat) (h : i < l.length) : rd_T32 l (i : Int) = l[i] := by
  simp [rd_T32, List.getD_eq_getElem?_getD, List.getElem?_eq_getElem h]

def szM (x : S32) (o : Int) : Int := if x.f1 = true then x.f2 else o
def atM (pl pe id : Int) : Int := if pl < id then 0 else if pl > id then 18446744073709551615 else pe
/-- A ledger's numbers are of their kind, and its count is one that a right ledger has. -/
def Ok (x : S32) : Prop := (0 ≤ x.f0 ∧ x.f0 ≤ 18446744073709551615) ∧ 0 ≤ x.f2 ∧ x.f2 ≤ 1048576

theorem size_f (x : S32) (o : Int) : ledgers_size.f x.f0 x.f1 x.f2 o = some (szM x o) := by
  unfold ledgers_size.f szM; split <;> rfl
theorem at_f (pl pe id : Int) : ledgers_at.f pl pe id = some (atM pl pe id) := by
  unfold ledgers_at.f atM
  split
  · rfl
  · split <;> rfl

def con (o al ae bl be : Int) (x : S32) : Int :=
  if mn (atM bl be x.f0) (szM x o) > mn (atM al ae x.f0) (szM x o) then mn (atM bl be x.f0) (szM x o) - mn (atM al ae x.f0) (szM x o) else 0
def sumB (o al ae bl be : Int) : List S32 → Int
  | [] => 0
  | x :: l => con o al ae bl be x + sumB o al ae bl be l

theorem szM_bd {x : S32} {o : Int} (hx : Ok x) (ho : 0 ≤ o ∧ o ≤ 1099511627776) : 0 ≤ szM x o ∧ szM x o ≤ 1099511627776 := by
  obtain ⟨_, h1, h2⟩ := hx
  unfold szM; split <;> omega
theorem atM_bd {pl pe id : Int} (h : 0 ≤ pe) : 0 ≤ atM pl pe id := by
  unfold atM; split
  · omega
  · split <;> omega
theorem con_bd {o al ae bl be : Int} {x : S32} (hx : Ok x) (ho : 0 ≤ o ∧ o ≤ 1099511627776) (ha : 0 ≤ ae) (hb : 0 ≤ be) : 0 ≤ con o al ae bl be x ∧ con o al ae bl be x ≤ 1099511627776 := by
  have h1 := szM_bd hx ho
  have h2 := atM_bd (pl := al) (id := x.f0) ha
  have h3 := atM_bd (pl := bl) (id := x.f0) hb
  unfold con mn
  (repeat' split) <;> omega
theorem sumB_bd {o al ae bl be : Int} (ho : 0 ≤ o ∧ o ≤ 1099511627776) (ha : 0 ≤ ae) (hb : 0 ≤ be) : ∀ (l : List S32), (∀ x ∈ l, Ok x) → 0 ≤ sumB o al ae bl be l ∧ sumB o al ae bl be l ≤ l.length * 1099511627776
  | [], _ => by simp [sumB]
  | x :: l, h => by
    have h1 := con_bd (al := al) (bl := bl) (h x List.mem_cons_self) ho ha hb
    have h2 := sumB_bd (al := al) (bl := bl) ho ha hb l fun y hy => h y (List.mem_cons_of_mem _ hy)
    simp only [sumB, List.length_cons]
    omega

theorem between_l0 {l : List S32} {o al ae bl be : Int} (hl : l.length ≤ 64) (hk : ∀ x ∈ l, Ok x) (ho : 0 ≤ o ∧ o ≤ 1099511627776) (ha : 0 ≤ ae) (hb : 0 ≤ be) (d : Nat) : ∀ (k : Nat) (i : Nat) (n : Int), i + d = l.length → d < k → 0 ≤ n → n ≤ i * 1099511627776 →
    ledgers_Between.l0 k o n l (l.length : Int) i al ae bl be = some (n + sumB o al ae bl be (l.drop i)) := by
  induction d with
  | zero =>
    intro k i n h hk h0 h1
    obtain ⟨k, rfl⟩ : ∃ m, k = m + 1 := ⟨k - 1, by omega⟩
    simp only [ledgers_Between.l0]; rw [if_neg (by omega), List.drop_eq_nil_of_le (by omega)]; simp [sumB]
  | succ d ih =>
    intro k i n h hk' h0 h1
    obtain ⟨k, rfl⟩ : ∃ m, k = m + 1 := ⟨k - 1, by omega⟩
    have hi : i < l.length := by omega
    have hd : l.drop i = l[i] :: l.drop (i + 1) := List.drop_eq_getElem_cons hi
    have hx := hk l[i] (List.getElem_mem hi)
    have hc := con_bd (al := al) (bl := bl) hx ho ha hb
    simp only [ledgers_Between.l0]
    rw [if_pos (by omega), if_pos (by omega), if_pos (by omega), rd_at l i hi, hd, at_f, size_f, at_f, wrap64_in ((i : Int) + 1) (by omega), show ((i : Int) + 1) = ((i + 1 : Nat) : Int) by omega]
    simp only [Option.bind_some, sumB]
    have hcon : con o al ae bl be l[i] = if mn (atM bl be l[i].f0) (szM l[i] o) > mn (atM al ae l[i].f0) (szM l[i] o) then mn (atM bl be l[i].f0) (szM l[i] o) - mn (atM al ae l[i].f0) (szM l[i] o) else 0 := rfl
    by_cases hgt : mn (atM bl be l[i].f0) (szM l[i] o) > mn (atM al ae l[i].f0) (szM l[i] o)
    · rw [if_pos hgt] at hcon ⊢
      rw [← hcon, u64_in (con o al ae bl be l[i]) (by omega), u64_in (n + con o al ae bl be l[i]) (by omega), ih k (i + 1) _ (by omega) (by omega) (by omega) (by omega)]
      congr 1; omega
    · rw [if_neg hgt] at hcon ⊢
      rw [ih k (i + 1) _ (by omega) (by omega) (by omega) (by omega)]
      congr 1; omega

theorem between_f {l : List S32} {o al ae bl be : Int} (hl : l.length ≤ 64) (hk : ∀ x ∈ l, Ok x) (ho : 0 ≤ o ∧ o ≤ 1099511627776) (ha : 0 ≤ ae) (hb : 0 ≤ be) (k : Nat) (hkk : 66 ≤ k) :
    ledgers_Between.f k l o al ae bl be = some (sumB o al ae bl be l) := by
  unfold ledgers_Between.f
  have := between_l0 (l := l) (al := al) (bl := bl) hl hk ho ha hb l.length k 0 0 (by omega) (by omega) (by omega) (by omega)
  simpa using this

def cmpM (a b : Int) : Int := if a < b then -1 else if a > b then 1 else 0
def ordM (al ae bl be : Int) : Int := if cmpM al bl = 0 then cmpM ae be else cmpM al bl
theorem cmp_f (a b : Int) : cmp_Compare_uint64.f a b = some (cmpM a b) := by
  unfold cmp_Compare_uint64.f cmp_isNaN_uint64.f cmpM
  simp only [bne_self_eq_false, Option.bind_some]
  rw [if_neg (by decide), if_neg (by decide)]
  split
  · rfl
  · split <;> rfl
theorem or_f (x y : Int) (k : Nat) (hk : 4 ≤ k) : cmp_Or_int.f k [x, y] = some (if x = 0 then y else x) := by
  obtain ⟨k, rfl⟩ : ∃ m, k = m + 3 := ⟨k - 3, by omega⟩
  unfold cmp_Or_int.f
  simp only [cmp_Or_int.l0]
  have e1 : rd [x, y] 0 = x := rfl
  have e2 : wrap64 (0 + 1) = 1 := wrap64_in _ (by omega)
  have e3 : rd [x, y] 1 = y := rfl
  have e4 : wrap64 (1 + 1) = 2 := wrap64_in _ (by omega)
  have e5 : (([x, y] : List Int).length : Int) = 2 := rfl
  simp only [e5]
  rw [if_pos (by omega), if_pos (by omega), if_pos (by omega), e1, e2]
  by_cases h : x = 0
  · rw [if_pos h, if_pos (by omega), if_pos (by omega), if_pos (by omega), e3, if_pos h]
    by_cases h2 : y = 0
    · rw [if_pos h2, e4, if_neg (by omega), h2]
    · rw [if_neg h2]
  · rw [if_neg h, if_neg h]
theorem order_f (al ae bl be : Int) (k : Nat) (hk : 4 ≤ k) : ledgers_Order.f k al ae bl be = some (ordM al ae bl be) := by
  unfold ledgers_Order.f
  rw [cmp_f, cmp_f]
  simp only [Option.bind_some]
  rw [or_f _ _ k hk]
  rfl

def rightAt (l : List S32) (i : Nat) : Bool :=
  !decide ((rd_T32 l (i : Int)).f0 = 0) && !decide ((rd_T32 l (i : Int)).f2 > 1048576) && !(decide (0 < i) && decide ((rd_T32 l (i : Int)).f0 ≤ (rd_T32 l ((i : Int) - 1)).f0)) &&
    ((rd_T32 l (i : Int)).f1 || (decide (i + 1 = l.length) && decide ((rd_T32 l (i : Int)).f2 = 0)))
def rightM (l : List S32) : Bool := decide (l.length ≤ 64) && (List.range l.length).all (rightAt l)

theorem right_j1 {l : List S32} {i : Nat} (hi : i < l.length) (hl : l.length ≤ 64) (b : Bool) (k : Nat) :
    mailcoachref13_Right.j1 (k + 1) l i b = if (!b && ((rd_T32 l (i : Int)).f1 || (decide (i + 1 = l.length) && decide ((rd_T32 l (i : Int)).f2 = 0)))) = true then mailcoachref13_Right.l0 k l ((i + 1 : Nat) : Int) else some false := by
  simp only [mailcoachref13_Right.j1]
  rw [wrap64_in ((i : Int) + 1) (by omega), show ((i : Int) + 1) = ((i + 1 : Nat) : Int) by omega]
  cases b with
  | true => simp
  | false =>
    rw [if_neg (by decide), if_pos (by omega), if_pos (by omega)]
    cases hf : (rd_T32 l (i : Int)).f1 with
    | true => simp
    | false =>
      rw [if_neg (by decide), wrap64_in _ (by omega)]
      by_cases h1 : i + 1 = l.length
      · rw [if_pos (by omega)]
        by_cases h2 : (rd_T32 l (i : Int)).f2 = 0
        · simp [h1, h2]
        · simp [h2]
      · rw [if_neg (by omega)]
        simp [h1]

theorem right_l0 {l : List S32} (hl : l.length ≤ 64) (d : Nat) : ∀ (k : Nat) (i : Nat), i + d = l.length → 2 * d < k → mailcoachref13_Right.l0 k l i = some ((List.range d).all fun j => rightAt l (i + j)) := by
  induction d with
  | zero =>
    intro k i h hk
    obtain ⟨k, rfl⟩ : ∃ m, k = m + 1 := ⟨k - 1, by omega⟩
    simp only [mailcoachref13_Right.l0]; rw [if_neg (by omega)]; simp
  | succ d ih =>
    intro k i h hk
    obtain ⟨k, rfl⟩ : ∃ m, k = m + 2 := ⟨k - 2, by omega⟩
    have hi : i < l.length := by omega
    have step : mailcoachref13_Right.l0 (k + 1 + 1) l i = if rightAt l i = true then mailcoachref13_Right.l0 k l ((i + 1 : Nat) : Int) else some false := by
      rw [mailcoachref13_Right.l0, if_pos (by omega), if_pos (by omega)]
      unfold rightAt
      by_cases h1 : (rd_T32 l (i : Int)).f0 = 0
      · rw [if_pos h1, right_j1 hi hl]; simp [h1]
      · rw [if_neg h1]
        by_cases h2 : (rd_T32 l (i : Int)).f2 > 1048576
        · rw [if_pos h2, right_j1 hi hl]; simp [h2]
        · rw [if_neg h2]
          by_cases h3 : (i : Int) > 0
          · rw [if_pos h3, wrap64_in _ (by omega), if_pos (by omega), if_pos (by omega), right_j1 hi hl]
            have h3' : 0 < i := by omega
            simp only [h1, h2, h3', decide_true, decide_false, Bool.not_false, Bool.true_and]
          · rw [if_neg h3, right_j1 hi hl]
            have h3' : ¬ 0 < i := by omega
            simp only [h1, h2, h3', decide_false, Bool.not_false, Bool.true_and, Bool.false_and]
    rw [step, List.range_succ_eq_map, List.all_cons, List.all_map, show i + 0 = i from rfl]
    by_cases hr : rightAt l i = true
    · rw [if_pos hr, ih k (i + 1) (by omega) (by omega), hr, Bool.true_and]
      congr 2
      funext j
      simp only [Function.comp, Nat.succ_eq_add_one]
      rw [show i + 1 + j = i + (j + 1) by omega]
    · rw [if_neg hr]
      simp [hr]

theorem right_f (l : List S32) (k : Nat) (hk : 200 ≤ k) : mailcoachref13_Right.f k l = some (rightM l) := by
  unfold mailcoachref13_Right.f rightM
  by_cases hl : l.length ≤ 64
  · rw [if_neg (by omega)]
    have := right_l0 hl l.length k 0 (by omega) (by omega)
    simp only [Nat.zero_add] at this
    rw [show ((0 : Nat) : Int) = 0 from rfl] at this
    rw [this]; simp [hl]
  · rw [if_pos (by omega)]; simp [hl]

theorem right_len {l : List S32} (h : rightM l = true) : l.length ≤ 64 := by
  unfold rightM at h; simp at h; exact h.1
theorem right_at {l : List S32} (h : rightM l = true) (i : Nat) (hi : i < l.length) : l[i].f0 ≠ 0 ∧ l[i].f2 ≤ 1048576 ∧ (0 < i → (l[i - 1]'(by omega)).f0 < l[i].f0) ∧ (l[i].f1 = false → i + 1 = l.length ∧ l[i].f2 = 0) := by
  unfold rightM at h
  rw [Bool.and_eq_true, List.all_eq_true] at h
  have h1 := h.2 i (List.mem_range.2 hi)
  unfold rightAt at h1
  rw [rd_at l i hi] at h1
  simp only [Bool.and_eq_true, Bool.not_eq_true', decide_eq_false_iff_not, Bool.and_eq_false_iff, Bool.or_eq_true, decide_eq_true_eq] at h1
  obtain ⟨⟨⟨a1, a2⟩, a3⟩, a4⟩ := h1
  refine ⟨a1, by omega, fun h0 => ?_, fun hf => ?_⟩
  · rcases a3 with a3 | a3
    · exact absurd h0 a3
    · rw [show ((i : Int) - 1) = ((i - 1 : Nat) : Int) by omega, rd_at l (i - 1) (by omega)] at a3
      omega
  · rcases a4 with a4 | a4
    · rw [hf] at a4; cases a4
    · exact a4
theorem right_ok {l : List S32} (h : rightM l = true) (hw : ∀ x ∈ l, (0 ≤ x.f0 ∧ x.f0 ≤ 18446744073709551615) ∧ 0 ≤ x.f2) : ∀ x ∈ l, Ok x := by
  intro x hx
  obtain ⟨i, hi, rfl⟩ := List.mem_iff_getElem.1 hx
  exact ⟨(hw _ hx).1, (hw _ hx).2, (right_at h i hi).2.1⟩

theorem awake (k : Nat) (hk : 60 ≤ k) : mailcoachlaw13_Awake.f k = some true :=
  at_rounds mailcoachlaw13_Awake.mono hk (by decide +kernel)

end L13
end Go.Proofs.Ytmbealldhndeoaa.Pure
