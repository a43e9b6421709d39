/- What the printed functions of this chapter answer, as plain lists and numbers; used by the law RangesChecks. -/
import Derived.Test.YtehhpcijhclkfaaYRangesChecks
import Derived.IntWalk
import Derived.Laws.BitsAllLaws
namespace Go.Proofs.Ytehhpcijhclkfaa.Pure
open Go.RowKit Go.IntWalk Go.Proofs.Ytehhpcijhclkfaa.PRangesChecks Go.Proofs.YtehhpcijhclkfaaW.PrintWords Go.Proofs.YtehhpcijhclkfaaW.PrintLast Go.Proofs.YtehhpcijhclkfaaW.PrintMore
set_option linter.unusedVariables false

namespace L03
theorem u64_of {n : Int} (h : (Lit.int .u64 n).wf = true) : 0 ≤ n ∧ n ≤ 18446744073709551615 := by
  simpa [Lit.wf, IntKind.min, IntKind.max, IntKind.signed, IntKind.bits] using h

theorem rd_at (l : List S25) (i : Nat) (h : i < l.length) : rd_T25 l (i : Int) = l[i] := by
  simp [rd_T25, List.getD_eq_getElem?_getD, List.getElem?_eq_getElem h]
theorem rdi_at (l : List Int) (i : Nat) (h : i < l.length) : rd l (i : Int) = l[i] := by
  simp [rd, List.getD_eq_getElem?_getD, List.getElem?_eq_getElem h]

/-- A number that one of the ranges has. -/
def InP (l : List S25) (n : Int) : Prop := ∃ x ∈ l, x.f0 ≤ n ∧ n < x.f1
/-- Ranges in a row, none empty, none that touches the next. -/
def Can : Int → List S25 → Prop
  | _, [] => True
  | b, x :: t => b < x.f0 ∧ x.f0 < x.f1 ∧ Can x.f1 t
theorem in_nil (n : Int) : ¬ InP [] n := by simp [InP]
theorem in_cons (x : S25) (t : List S25) (n : Int) : InP (x :: t) n ↔ (x.f0 ≤ n ∧ n < x.f1) ∨ InP t n := by simp [InP]
theorem in_app (s t : List S25) (n : Int) : InP (s ++ t) n ↔ InP s n ∨ InP t n := by
  simp only [InP, List.mem_append]
  constructor
  · rintro ⟨x, h | h, r⟩
    · exact .inl ⟨x, h, r⟩
    · exact .inr ⟨x, h, r⟩
  · rintro (⟨x, h, r⟩ | ⟨x, h, r⟩)
    · exact ⟨x, .inl h, r⟩
    · exact ⟨x, .inr h, r⟩
theorem can_in : ∀ {l : List S25} {b n : Int}, Can b l → InP l n → b < n
  | [], _, _, _, h => absurd h (in_nil _)
  | x :: t, b, n, hc, h => by
    obtain ⟨h1, h2, h3⟩ := hc
    rcases (in_cons x t n).1 h with h | h
    · omega
    · have := can_in h3 h; omega
theorem can_weak : ∀ {l : List S25} {b c : Int}, Can b l → c ≤ b → Can c l
  | [], _, _, _, _ => trivial
  | x :: t, b, c, h, hc => ⟨by have := h.1; omega, h.2.1, h.2.2⟩
theorem can_mem : ∀ {l : List S25} {b : Int}, Can b l → ∀ x ∈ l, b < x.f0 ∧ x.f0 < x.f1
  | [], _, _, _, h => absurd h (List.not_mem_nil)
  | y :: t, b, hc, x, h => by
    obtain ⟨h1, h2, h3⟩ := hc
    rcases List.mem_cons.1 h with rfl | h
    · exact ⟨h1, h2⟩
    · have := can_mem h3 x h; omega
/-- Two such lists that have the same numbers are the same list. -/
theorem can_eq : ∀ {l m : List S25} {b c : Int}, Can b l → Can c m → (∀ n, InP l n ↔ InP m n) → l = m
  | [], [], _, _, _, _, _ => rfl
  | [], y :: t, _, _, _, hm, h => absurd ((h y.f0).2 ((in_cons y t _).2 (.inl ⟨by omega, hm.2.1⟩))) (in_nil _)
  | x :: s, [], _, _, hl, _, h => absurd ((h x.f0).1 ((in_cons x s _).2 (.inl ⟨by omega, hl.2.1⟩))) (in_nil _)
  | x :: s, y :: t, b, c, hl, hm, h => by
    obtain ⟨a1, a2, a3⟩ := hl
    obtain ⟨b1, b2, b3⟩ := hm
    have k1 := (in_cons y t _).1 ((h x.f0).1 ((in_cons x s _).2 (.inl ⟨by omega, a2⟩)))
    have k2 := (in_cons x s _).1 ((h y.f0).2 ((in_cons y t _).2 (.inl ⟨by omega, b2⟩)))
    have e1 : y.f0 ≤ x.f0 := by
      rcases k1 with k | k
      · exact k.1
      · have := can_in b3 k; omega
    have e2 : x.f0 ≤ y.f0 := by
      rcases k2 with k | k
      · exact k.1
      · have := can_in a3 k; omega
    have e3 : ¬ x.f1 < y.f1 := fun hlt => by
      rcases (in_cons x s _).1 ((h x.f1).2 ((in_cons y t _).2 (.inl ⟨by omega, hlt⟩))) with k | k
      · omega
      · have := can_in a3 k; omega
    have e4 : ¬ y.f1 < x.f1 := fun hlt => by
      rcases (in_cons y t _).1 ((h y.f1).1 ((in_cons x s _).2 (.inl ⟨by omega, hlt⟩))) with k | k
      · omega
      · have := can_in b3 k; omega
    have ex : x = y := by
      cases x; cases y
      simp only [S25.mk.injEq]
      simp only at e1 e2 e3 e4
      omega
    subst ex
    have ht : s = t := can_eq a3 b3 fun n => by
      constructor
      · intro hs
        have := can_in a3 hs
        rcases (in_cons x t _).1 ((h n).1 ((in_cons x s _).2 (.inr hs))) with k | k
        · omega
        · exact k
      · intro hs
        have := can_in b3 hs
        rcases (in_cons x s _).1 ((h n).2 ((in_cons x t _).2 (.inr hs))) with k | k
        · omega
        · exact k
    rw [ht]
theorem can_snoc : ∀ {m : List S25} {b : Int} {z : S25}, Can b m → (∀ w ∈ m, w.f1 < z.f0) → b < z.f0 → z.f0 < z.f1 → Can b (m ++ [z])
  | [], _, _, _, _, h1, h2 => ⟨h1, h2, trivial⟩
  | x :: t, b, z, hc, hw, h1, h2 => ⟨hc.1, hc.2.1, can_snoc hc.2.2 (fun w h => hw w (List.mem_cons_of_mem _ h)) (hw x List.mem_cons_self) h2⟩
theorem can_snoc_inv : ∀ {m : List S25} {b : Int} {z : S25}, Can b (m ++ [z]) → Can b m ∧ (∀ w ∈ m, w.f1 < z.f0) ∧ b < z.f0 ∧ z.f0 < z.f1
  | [], _, _, h => ⟨trivial, fun _ h => absurd h List.not_mem_nil, h.1, h.2.1⟩
  | x :: t, b, z, h => by
    obtain ⟨h1, h2, h3⟩ := h
    obtain ⟨k1, k2, k3, k4⟩ := can_snoc_inv (m := t) h3
    refine ⟨⟨h1, h2, k1⟩, fun w hw => ?_, by omega, k4⟩
    rcases List.mem_cons.1 hw with rfl | hw
    · exact k3
    · exact k2 w hw

/-- Right ranges of 64-bit numbers. -/
def Good (l : List S25) : Prop := Can (-1) l ∧ ∀ n, InP l n → n < 18446744073709551615
theorem good_mem {l : List S25} (h : Good l) : ∀ x ∈ l, 0 ≤ x.f0 ∧ x.f0 < x.f1 ∧ x.f1 ≤ 18446744073709551615 := fun x hx => by
  have h1 := can_mem h.1 x hx
  have h2 := h.2 (x.f1 - 1) ⟨x, hx, by omega, by omega⟩
  omega
theorem good_eq {l m : List S25} (hl : Good l) (hm : Good m) (h : ∀ n, InP l n ↔ InP m n) : l = m := can_eq hl.1 hm.1 h
theorem clone_f (l : List S25) (h : l.length < 1000000) : api_Range_25.f l = some l := by
  unfold api_Range_25.f
  simp only [Option.bind_some, List.length_nil, List.nil_append]
  rw [if_pos (by omega)]
theorem rdL_at (l : List (List S25)) (i : Nat) (h : i < l.length) : rd_L2 l (i : Int) = l[i] := by
  simp [rd_L2, List.getD_eq_getElem?_getD, List.getElem?_eq_getElem h]
theorem grow_f (n : Int) (h : 0 ≤ n ∧ n < 1000000) : api_Range_31.f [] n = some [] := by
  unfold api_Range_31.f
  simp only [Option.bind_some, List.length_nil, List.nil_append]
  rw [if_pos h.1, if_pos (by omega), if_pos (by omega)]
  rfl
theorem concat_f (a b c : List S25) (h : a.length + b.length + c.length < 100000) (k : Nat) (hk : 10 ≤ k) : api_Range_27.f k [a, b, c] = some (a ++ (b ++ c)) := by
  obtain ⟨k, rfl⟩ : ∃ m, k = m + 1 + 1 + 1 + 1 + 1 + 1 + 1 + 1 := ⟨k - 8, by omega⟩
  have e0 : rd_L2 [a, b, c] 0 = a := rfl
  have e1 : rd_L2 [a, b, c] 1 = b := rfl
  have e2 : rd_L2 [a, b, c] 2 = c := rfl
  have w1 : wrap64 ((0 : Int) + 1) = 1 := by rw [wrap64_in _ (by omega)]; rfl
  have w2 : wrap64 ((1 : Int) + 1) = 2 := by rw [wrap64_in _ (by omega)]; rfl
  have w3 : wrap64 ((2 : Int) + 1) = 3 := by rw [wrap64_in _ (by omega)]; rfl
  have hl : (([a, b, c] : List (List S25)).length : Int) = 3 := rfl
  unfold api_Range_27.f
  rw [hl]
  rw [api_Range_27.l0, if_pos (by omega), if_pos (by omega), hl, if_pos (by omega), e0, wrap64_in (0 + (a.length : Int)) (by omega), if_neg (by omega), w1]
  rw [api_Range_27.l0, if_pos (by omega), if_pos (by omega), hl, if_pos (by omega), e1, wrap64_in (0 + (a.length : Int) + (b.length : Int)) (by omega), if_neg (by omega), w2]
  rw [api_Range_27.l0, if_pos (by omega), if_pos (by omega), hl, if_pos (by omega), e2, wrap64_in (0 + (a.length : Int) + (b.length : Int) + (c.length : Int)) (by omega), if_neg (by omega), w3]
  rw [api_Range_27.l0, if_neg (by omega), grow_f _ (by omega), Option.bind_some, hl]
  rw [api_Range_27.l1, if_pos (by omega), if_pos (by omega), hl, if_pos (by omega), e0, if_pos (by simp only [List.length_nil]; omega), w1, List.nil_append]
  rw [api_Range_27.l1, if_pos (by omega), if_pos (by omega), hl, if_pos (by omega), e1, if_pos (by omega), w2]
  rw [api_Range_27.l1, if_pos (by omega), if_pos (by omega), hl, if_pos (by omega), e2, if_pos (by simp only [List.length_append]; omega), w3]
  rw [api_Range_27.l1, if_neg (by omega), List.append_assoc]
def cutM (a : Int) : List S25 → Nat
  | [] => 0
  | x :: t => if x.f1 < a then cutM a t + 1 else 0
theorem cut_spec {a : Int} : ∀ {l : List S25} {b : Int}, Can b l → cutM a l ≤ l.length ∧ (∀ i (h : i < l.length), i < cutM a l → l[i].f1 < a) ∧ (∀ i (h : i < l.length), cutM a l ≤ i → ¬ l[i].f1 < a)
  | [], _, _ => ⟨Nat.le_refl _, fun i h => absurd h (by simp), fun i h => absurd h (by simp)⟩
  | x :: t, b, hc => by
    obtain ⟨h1, h2, h3⟩ := hc
    obtain ⟨k1, k2, k3⟩ := cut_spec (a := a) h3
    unfold cutM
    by_cases h : x.f1 < a
    · rw [if_pos h]
      refine ⟨by simp only [List.length_cons]; omega, fun i hi hc => ?_, fun i hi hc => ?_⟩
      · cases i with
        | zero => exact h
        | succ i => exact k2 i (by simp only [List.length_cons] at hi; omega) (by omega)
      · cases i with
        | zero => omega
        | succ i => exact k3 i (by simp only [List.length_cons] at hi; omega) (by omega)
    · rw [if_neg h]
      refine ⟨by omega, fun i hi hc => absurd hc (by omega), fun i hi _ => ?_⟩
      cases i with
      | zero => exact h
      | succ i =>
        have hi' : i < t.length := by simp only [List.length_cons] at hi; omega
        have := can_mem h3 t[i] (List.getElem_mem hi')
        simp only [List.getElem_cons_succ]
        omega

theorem bs_l0 {l : List S25} {a : Int} (hl : l.length < 100000) {r : Nat} (h1 : ∀ i (h : i < l.length), i < r → l[i].f1 < a) (h2 : ∀ i (h : i < l.length), r ≤ i → ¬ l[i].f1 < a) (d : Nat) :
    ∀ (k i j : Nat), i ≤ r → r ≤ j → j ≤ l.length → j ≤ i + d → d < k → ∃ b, api_Range_uint64.l0 k l a l.length i j = some ((r : Int), b) := by
  have fin : ∀ (k i j : Nat), i ≤ r → r ≤ j → j ≤ l.length → ¬ i < j → ∃ b, api_Range_uint64.l0 (k + 1) l a l.length i j = some ((r : Int), b) := by
    intro k i j a1 a2 a3 a4
    have : i = r := by omega
    subst this
    rw [api_Range_uint64.l0, if_neg (by omega)]
    by_cases h : i < l.length
    · rw [if_pos (by omega), if_pos (by omega), if_pos (by omega)]
      unfold ranges_behind_1.f
      split <;> exact ⟨_, rfl⟩
    · rw [if_neg (by omega)]
      exact ⟨_, rfl⟩
  induction d with
  | zero =>
    intro k i j a1 a2 a3 a4 hk
    obtain ⟨k, rfl⟩ : ∃ m, k = m + 1 := ⟨k - 1, by omega⟩
    exact fin k i j a1 a2 a3 (by omega)
  | succ d ih =>
    intro k i j a1 a2 a3 a4 hk
    obtain ⟨k, rfl⟩ : ∃ m, k = m + 1 := ⟨k - 1, by omega⟩
    by_cases hij : i < j
    · have hh : (i + j) / 2 < l.length := by omega
      have he : wrap64 ((IntKind.u64.wrap (wrap64 ((i : Int) + (j : Int)))) / 2) = (((i + j) / 2 : Nat) : Int) := by
        rw [wrap64_in ((i : Int) + j) (by omega), u64_in _ (by omega), wrap64_in _ (by omega)]
        omega
      rw [api_Range_uint64.l0, if_pos (by omega), he, if_pos (by omega), if_pos (by omega), rd_at l _ hh]
      unfold ranges_behind_1.f
      by_cases hc : (l[(i + j) / 2]).f1 < a
      · rw [if_pos hc, Option.bind_some, if_pos (by omega), wrap64_in _ (by omega), show ((((i + j) / 2 : Nat) : Int) + 1) = (((i + j) / 2 + 1 : Nat) : Int) by omega]
        refine ih k _ j ?_ a2 a3 (by omega) (by omega)
        have := mt (h2 _ hh) (fun h => h hc)
        omega
      · rw [if_neg hc, Option.bind_some, if_neg (by omega)]
        refine ih k i _ a1 ?_ (by omega) (by omega) (by omega)
        have := mt (h1 _ hh) hc
        omega
    · exact fin k i j a1 a2 a3 hij
theorem behind_f {l : List S25} {b a : Int} (hl : l.length ≤ 1000) (hc : Can b l) (k : Nat) (hk : 1001 ≤ k) : ranges_behind.f k l a = some ((cutM a l : Nat) : Int) := by
  obtain ⟨c1, c2, c3⟩ := cut_spec (a := a) hc
  obtain ⟨q, hq⟩ := bs_l0 (a := a) (by omega) c2 c3 l.length k 0 l.length (by omega) c1 (by omega) (by omega) (by omega)
  unfold ranges_behind.f api_Range_uint64.f
  rw [show ((0 : Nat) : Int) = 0 from rfl] at hq
  rw [hq]; rfl
theorem can_lt : ∀ {l : List S25} {b : Int}, Can b l → ∀ (i : Nat) (hi : i < l.length) (j : Nat) (hj : j ≤ i), (l[j]'(by omega)).f0 ≤ l[i].f0
  | [], _, _, _, hi, _, _ => absurd hi (by simp)
  | x :: t, b, hc, 0, _, 0, _ => Int.le_refl _
  | x :: t, b, hc, i + 1, hi, 0, _ => by
    have hi' : i < t.length := by simpa using hi
    have := can_mem hc.2.2 t[i] (List.getElem_mem hi')
    have := hc.2.1
    simp only [List.getElem_cons_zero, List.getElem_cons_succ]
    omega
  | x :: t, b, hc, i + 1, hi, j + 1, hj => by
    simp only [List.getElem_cons_succ]
    exact can_lt hc.2.2 i (by simpa using hi) j (by omega)
def mergeM : Int → Int → List S25 → List S25
  | lo, hi, [] => [⟨lo, hi⟩]
  | lo, hi, x :: t => if x.f0 ≤ hi then mergeM (mn lo x.f0) (mx hi x.f1) t else ⟨lo, hi⟩ :: x :: t
def addM (lo hi : Int) : List S25 → List S25
  | [] => [⟨lo, hi⟩]
  | x :: t => if x.f1 < lo then x :: addM lo hi t else mergeM lo hi (x :: t)
theorem add_cut (lo hi : Int) : ∀ l : List S25, l.take (cutM lo l) ++ mergeM lo hi (l.drop (cutM lo l)) = addM lo hi l
  | [] => rfl
  | x :: t => by
    unfold cutM addM
    by_cases h : x.f1 < lo
    · rw [if_pos h, if_pos h, List.take_succ_cons, List.drop_succ_cons, List.cons_append, add_cut lo hi t]
    · rw [if_neg h, if_neg h]; rfl
theorem merge_spec : ∀ (l : List S25) (b c lo hi : Int), lo < hi → Can b l → (∀ x ∈ l, lo ≤ x.f1) → c < lo → c ≤ b → Can c (mergeM lo hi l) ∧ (∀ n, InP (mergeM lo hi l) n ↔ InP l n ∨ (lo ≤ n ∧ n < hi)) ∧ (mergeM lo hi l).length ≤ l.length + 1
  | [], b, c, lo, hi, h1, _, _, h2, _ => ⟨⟨h2, h1, trivial⟩, fun n => by simp [mergeM, InP], by simp [mergeM]⟩
  | x :: t, b, c, lo, hi, h1, h2, h3, h4, h5 => by
    obtain ⟨a1, a2, a3⟩ := h2
    have hx := h3 x List.mem_cons_self
    unfold mergeM
    by_cases h : x.f0 ≤ hi
    · rw [if_pos h]
      obtain ⟨r1, r2, r3⟩ := merge_spec t x.f1 c (mn lo x.f0) (mx hi x.f1) (by unfold mn mx; (repeat' split) <;> omega) a3 (fun y hy => by
        have := can_mem a3 y hy
        unfold mn; split <;> omega) (by unfold mn; split <;> omega) (by omega)
      refine ⟨r1, fun n => ?_, by simp only [List.length_cons]; omega⟩
      rw [r2, in_cons]
      have : (mn lo x.f0 ≤ n ∧ n < mx hi x.f1) ↔ (x.f0 ≤ n ∧ n < x.f1) ∨ (lo ≤ n ∧ n < hi) := by unfold mn mx; (repeat' split) <;> omega
      rw [this]
      constructor
      · rintro (h | h | h)
        · exact .inl (.inr h)
        · exact .inl (.inl h)
        · exact .inr h
      · rintro ((h | h) | h)
        · exact .inr (.inl h)
        · exact .inl h
        · exact .inr (.inr h)
    · rw [if_neg h]
      refine ⟨⟨h4, h1, by show hi < x.f0; omega, a2, a3⟩, fun n => ?_, by simp⟩
      rw [in_cons ⟨lo, hi⟩]
      exact Or.comm
theorem addM_spec : ∀ (l : List S25) (b lo hi : Int), lo < hi → Can b l → b < lo → Can b (addM lo hi l) ∧ (∀ n, InP (addM lo hi l) n ↔ InP l n ∨ (lo ≤ n ∧ n < hi)) ∧ (addM lo hi l).length ≤ l.length + 1
  | [], b, lo, hi, h1, _, h2 => ⟨⟨h2, h1, trivial⟩, fun n => by simp [addM, InP], by simp [addM]⟩
  | x :: t, b, lo, hi, h1, h2, h3 => by
    have hc := h2
    obtain ⟨a1, a2, a3⟩ := h2
    unfold addM
    by_cases h : x.f1 < lo
    · rw [if_pos h]
      obtain ⟨r1, r2, r3⟩ := addM_spec t x.f1 lo hi h1 a3 h
      refine ⟨⟨a1, a2, r1⟩, fun n => ?_, by simp only [List.length_cons]; omega⟩
      rw [in_cons, r2, in_cons, or_assoc]
    · rw [if_neg h]
      exact merge_spec (x :: t) b b lo hi h1 hc (fun y hy => by
        rcases List.mem_cons.1 hy with rfl | hy
        · omega
        · have := can_mem a3 y hy; omega) h3 (Int.le_refl _)
theorem add_l0 {l : List S25} {s : Nat} (hs : s ≤ l.length) (hl : l.length ≤ 1000) (d : Nat) : ∀ (k i : Nat) (lo hi : Int), i + d = l.length → d + 20 < k →
    ranges_Add.l0 k l s i lo hi = some (l.take s ++ mergeM lo hi (l.drop i)) := by
  have fin : ∀ (k i : Nat) (lo hi : Int), i ≤ l.length → 10 ≤ k → api_Range_27.f k (([(l.take (s : Int).toNat), (([(⟨lo, hi⟩ : S25)] : List (S25))), (l.drop (i : Int).toNat)] : List (List (S25)))) = some (l.take s ++ (⟨lo, hi⟩ :: l.drop i)) := by
    intro k i lo hi h1 h2
    rw [concat_f _ _ _ (by simp only [List.length_take, List.length_drop, List.length_cons, List.length_nil]; omega) k h2]
    simp
  induction d with
  | zero =>
    intro k i lo hi h hk
    obtain ⟨k, rfl⟩ : ∃ m, k = m + 1 := ⟨k - 1, by omega⟩
    rw [ranges_Add.l0, if_neg (by omega), if_pos (by omega), if_pos (by omega), if_pos (by omega), if_pos (by omega), fin k i lo hi (by omega) (by omega), List.drop_eq_nil_of_le (by omega)]
    rfl
  | succ d ih =>
    intro k i lo hi h hk
    obtain ⟨k, rfl⟩ : ∃ m, k = m + 1 := ⟨k - 1, by omega⟩
    have hi' : i < l.length := by omega
    have hd : l.drop i = l[i] :: l.drop (i + 1) := List.drop_eq_getElem_cons hi'
    rw [ranges_Add.l0, if_pos (by omega), if_pos (by omega), rd_at l i hi', wrap64_in _ (by omega), show ((i : Int) + 1) = ((i + 1 : Nat) : Int) by omega, ih k (i + 1) _ _ (by omega) (by omega), fin k i lo hi (by omega) (by omega), hd, mergeM]
    by_cases hc : l[i].f0 ≤ hi
    · rw [if_pos hc, if_pos hc]
    · rw [if_neg hc, if_neg hc, if_pos (by omega), if_pos (by omega), if_pos (by omega)]
      rfl
theorem add_f {l : List S25} {lo hi : Int} (hg : Good l) (hl : l.length ≤ 1000) (h0 : 0 ≤ lo) (h1 : hi ≤ 18446744073709551615) (k : Nat) (hk : 1100 ≤ k) :
    ∃ r, ranges_Add.f k l lo hi = some r ∧ Good r ∧ (∀ n, InP r n ↔ InP l n ∨ (lo ≤ n ∧ n < hi)) ∧ r.length ≤ l.length + 1 := by
  unfold ranges_Add.f
  by_cases h : lo ≥ hi
  · rw [if_pos h, clone_f l (by omega)]
    exact ⟨l, rfl, hg, fun n => by constructor <;> intro h' <;> first | exact .inl h' | (rcases h' with h' | h' <;> first | exact h' | omega), by omega⟩
  · rw [if_neg h, behind_f hl hg.1 k (by omega), Option.bind_some]
    have hc := (cut_spec (a := lo) hg.1).1
    rw [add_l0 hc hl (l.length - cutM lo l) k (cutM lo l) lo hi (by omega) (by omega), add_cut]
    obtain ⟨r1, r2, r3⟩ := addM_spec l (-1) lo hi (by omega) hg.1 (by omega)
    refine ⟨_, rfl, ⟨r1, fun n hn => ?_⟩, r2, r3⟩
    rcases (r2 n).1 hn with h' | h'
    · exact hg.2 n h'
    · omega
def pieceM (lo hi : Int) (x : S25) : List S25 :=
  if lo ≥ hi ∨ x.f1 ≤ lo ∨ hi ≤ x.f0 then [x] else (if x.f0 < lo then [⟨x.f0, lo⟩] else []) ++ (if hi < x.f1 then [⟨hi, x.f1⟩] else [])
def remM (lo hi : Int) : List S25 → List S25
  | [] => []
  | x :: t => pieceM lo hi x ++ remM lo hi t
theorem rem_spec (lo hi : Int) : ∀ (l : List S25) (b : Int), Can b l → Can b (remM lo hi l) ∧ (∀ n, InP (remM lo hi l) n ↔ InP l n ∧ ¬ (lo ≤ n ∧ n < hi)) ∧ (remM lo hi l).length ≤ 2 * l.length
  | [], _, _ => ⟨trivial, fun n => by simp [remM, InP], by simp [remM]⟩
  | x :: t, b, h => by
    obtain ⟨h1, h2, h3⟩ := h
    obtain ⟨r1, r2, r3⟩ := rem_spec lo hi t x.f1 h3
    have hin : ∀ n, InP (remM lo hi (x :: t)) n ↔ InP (pieceM lo hi x) n ∨ (InP t n ∧ ¬ (lo ≤ n ∧ n < hi)) := fun n => by
      unfold remM; rw [in_app, r2]
    have hp : (Can b (pieceM lo hi x ++ remM lo hi t)) ∧ (∀ n, InP (pieceM lo hi x) n ↔ (x.f0 ≤ n ∧ n < x.f1) ∧ ¬ (lo ≤ n ∧ n < hi)) ∧ (pieceM lo hi x).length ≤ 2 := by
      unfold pieceM
      by_cases c1 : lo ≥ hi ∨ x.f1 ≤ lo ∨ hi ≤ x.f0
      · rw [if_pos c1]
        refine ⟨⟨h1, h2, r1⟩, fun n => ?_, by simp⟩
        rw [in_cons]
        have := in_nil n
        constructor
        · rintro (h | h)
          · exact ⟨h, by omega⟩
          · exact absurd h this
        · exact fun h => .inl h.1
      · rw [if_neg c1]
        by_cases c2 : x.f0 < lo
        · rw [if_pos c2]
          by_cases c3 : hi < x.f1
          · rw [if_pos c3]
            refine ⟨⟨h1, c2, ⟨by show lo < hi; omega, c3, r1⟩⟩, fun n => ?_, by simp⟩
            simp only [List.cons_append, List.nil_append, in_cons, in_nil, or_false]
            omega
          · rw [if_neg c3]
            refine ⟨⟨h1, c2, can_weak r1 (by show lo ≤ x.f1; omega)⟩, fun n => ?_, by simp⟩
            simp only [List.append_nil, in_cons, in_nil, or_false]
            omega
        · rw [if_neg c2]
          by_cases c3 : hi < x.f1
          · rw [if_pos c3]
            refine ⟨⟨by show b < hi; omega, c3, r1⟩, fun n => ?_, by simp⟩
            simp only [List.nil_append, in_cons, in_nil, or_false]
            omega
          · rw [if_neg c3]
            refine ⟨can_weak r1 (by omega), fun n => ?_, by simp⟩
            simp only [List.nil_append, in_nil, false_iff]
            omega
    refine ⟨hp.1, fun n => ?_, ?_⟩
    · rw [hin, hp.2.1, in_cons]
      constructor
      · rintro (h | h)
        · exact ⟨.inl h.1, h.2⟩
        · exact ⟨.inr h.1, h.2⟩
      · rintro ⟨h | h, h'⟩
        · exact .inl ⟨h, h'⟩
        · exact .inr ⟨h, h'⟩
    · have := hp.2.2
      simp only [remM, List.length_append, List.length_cons]
      omega
theorem rem_l0 {l : List S25} {lo hi : Int} (hl : l.length ≤ 1000) (d : Nat) : ∀ (k i : Nat) (acc : List S25), i + d = l.length → 2 * d + 3 < k → acc.length ≤ 2 * i →
    ranges_Remove.l0 k acc l l.length i lo hi = some (acc ++ remM lo hi (l.drop i)) := by
  induction d with
  | zero =>
    intro k i acc h hk ha
    obtain ⟨k, rfl⟩ : ∃ m, k = m + 1 := ⟨k - 1, by omega⟩
    rw [ranges_Remove.l0, if_neg (by omega), List.drop_eq_nil_of_le (by omega)]
    simp [remM]
  | succ d ih =>
    intro k i acc h hk ha
    obtain ⟨k, rfl⟩ : ∃ m, k = m + 1 + 1 := ⟨k - 2, by omega⟩
    have hi' : i < l.length := by omega
    have hd : l.drop i = l[i] :: l.drop (i + 1) := List.drop_eq_getElem_cons hi'
    have hw : wrap64 ((i : Int) + 1) = ((i + 1 : Nat) : Int) := by rw [wrap64_in _ (by omega)]; omega
    have step : ∀ (acc' : List S25), acc'.length ≤ 2 * (i + 1) → ranges_Remove.l0 k acc' l l.length ((i + 1 : Nat) : Int) lo hi = some (acc' ++ remM lo hi (l.drop (i + 1))) := fun acc' h' => ih k (i + 1) acc' (by omega) (by omega) h'
    have jt : ranges_Remove.j1 (k + 1) acc l l.length i true lo hi l[i].f0 l[i].f1 = some (acc ++ ([l[i]] ++ remM lo hi (l.drop (i + 1)))) := by
      rw [ranges_Remove.j1, if_pos rfl, if_pos (by omega), hw, step _ (by simp; omega), List.append_assoc]
    rw [ranges_Remove.l0, if_pos (by omega), if_pos (by omega), if_pos (by omega), rd_at l i hi', jt, hd, remM, pieceM]
    by_cases c1 : lo ≥ hi
    · rw [if_pos c1, if_pos (.inl c1)]
    rw [if_neg c1]
    by_cases c2 : l[i].f1 ≤ lo
    · rw [if_pos c2, if_pos (.inr (.inl c2))]
    rw [if_neg c2]
    by_cases c3 : hi ≤ l[i].f0
    · rw [if_pos (show lo ≥ hi ∨ l[i].f1 ≤ lo ∨ hi ≤ l[i].f0 from .inr (.inr c3)), decide_eq_true c3, jt]
    rw [if_neg (show ¬ (lo ≥ hi ∨ l[i].f1 ≤ lo ∨ hi ≤ l[i].f0) by omega), decide_eq_false c3, ranges_Remove.j1, if_neg (by decide), hw]
    by_cases c4 : l[i].f0 < lo
    · rw [if_pos c4, if_pos c4, if_pos (by omega), Option.bind_some]
      by_cases c5 : hi < l[i].f1
      · rw [if_pos c5, if_pos c5, if_pos (by simp; omega), step _ (by simp; omega)]
        simp
      · rw [if_neg c5, if_neg c5, step _ (by simp; omega)]
        simp
    · rw [if_neg c4, if_neg c4]
      by_cases c5 : hi < l[i].f1
      · rw [if_pos c5, if_pos c5, if_pos (by omega), step _ (by simp; omega)]
        simp
      · rw [if_neg c5, if_neg c5, step _ (by omega)]
        simp
theorem rem_f {l : List S25} {lo hi : Int} (hg : Good l) (hl : l.length ≤ 1000) (k : Nat) (hk : 2100 ≤ k) :
    ∃ r, ranges_Remove.f k l lo hi = some r ∧ Good r ∧ (∀ n, InP r n ↔ InP l n ∧ ¬ (lo ≤ n ∧ n < hi)) ∧ r.length ≤ 2 * l.length := by
  unfold ranges_Remove.f
  have := rem_l0 (lo := lo) (hi := hi) hl l.length k 0 [] (by omega) (by omega) (by simp)
  rw [show ((0 : Nat) : Int) = 0 from rfl] at this
  rw [this]
  obtain ⟨r1, r2, r3⟩ := rem_spec lo hi l (-1) hg.1
  exact ⟨_, by simp only [List.nil_append, List.drop_zero], ⟨r1, fun n hn => hg.2 n ((r2 n).1 hn).1⟩, r2, r3⟩
def inB (l : List S25) (n : Int) : Bool := l.any fun x => decide (x.f0 ≤ n ∧ n < x.f1)
theorem inB_iff (l : List S25) (n : Int) : inB l n = true ↔ InP l n := by
  simp [inB, InP]
theorem in_l0 {l : List S25} {n : Int} (hl : l.length ≤ 1000) (d : Nat) : ∀ (k i : Nat), i + d = l.length → d < k → mailcoachref03_In.l0 k l n i = some (inB (l.drop i) n) := by
  induction d with
  | zero =>
    intro k i h hk
    obtain ⟨k, rfl⟩ : ∃ m, k = m + 1 := ⟨k - 1, by omega⟩
    rw [mailcoachref03_In.l0, if_neg (by omega), List.drop_eq_nil_of_le (by omega)]; rfl
  | succ d ih =>
    intro k i h hk
    obtain ⟨k, rfl⟩ : ∃ m, k = m + 1 := ⟨k - 1, by omega⟩
    have hi' : i < l.length := by omega
    have hd : l.drop i = l[i] :: l.drop (i + 1) := List.drop_eq_getElem_cons hi'
    rw [mailcoachref03_In.l0, if_pos (by omega), if_pos (by omega), rd_at l i hi', wrap64_in _ (by omega), show ((i : Int) + 1) = ((i + 1 : Nat) : Int) by omega, ih k (i + 1) (by omega) (by omega), hd]
    unfold inB
    rw [List.any_cons]
    by_cases c1 : l[i].f0 ≤ n <;> by_cases c2 : n < l[i].f1 <;> simp [c1, c2]
theorem in_f {l : List S25} {n : Int} (hl : l.length ≤ 1000) (k : Nat) (hk : 1001 ≤ k) : mailcoachref03_In.f k l n = some (inB l n) := by
  unfold mailcoachref03_In.f
  have := in_l0 (n := n) hl l.length k 0 (by omega) (by omega)
  rwa [List.drop_zero] at this
def putM (e : Int) : List Int → List Int
  | [] => [e]
  | y :: t => if y < e then y :: putM e t else if y = e then y :: t else e :: y :: t
def Inc : Int → List Int → Prop
  | _, [] => True
  | b, y :: t => b < y ∧ Inc y t
theorem put_spec (e : Int) : ∀ (l : List Int) (b : Int), Inc b l → b < e → Inc b (putM e l) ∧ (∀ y, y ∈ putM e l ↔ y = e ∨ y ∈ l) ∧ (putM e l).length ≤ l.length + 1
  | [], b, _, h => ⟨⟨h, trivial⟩, fun y => by simp [putM], by simp [putM]⟩
  | x :: t, b, hi, h => by
    obtain ⟨h1, h2⟩ := hi
    unfold putM
    by_cases c1 : x < e
    · rw [if_pos c1]
      obtain ⟨r1, r2, r3⟩ := put_spec e t x h2 c1
      refine ⟨⟨h1, r1⟩, fun y => ?_, by simp only [List.length_cons]; omega⟩
      rw [List.mem_cons, r2, List.mem_cons]
      constructor
      · rintro (h | h | h)
        · exact .inr (.inl h)
        · exact .inl h
        · exact .inr (.inr h)
      · rintro (h | h | h)
        · exact .inr (.inl h)
        · exact .inl h
        · exact .inr (.inr h)
    · rw [if_neg c1]
      by_cases c2 : x = e
      · rw [if_pos c2]
        subst c2
        exact ⟨⟨h1, h2⟩, fun y => by simp, by simp⟩
      · rw [if_neg c2]
        exact ⟨⟨h, by omega, h2⟩, fun y => by simp, by simp⟩
theorem put_l0 {l : List Int} {e : Int} (hl : l.length ≤ 1000) (d : Nat) : ∀ (k i : Nat), i + d = l.length → d < k → mailcoachref03_put.l0 k l e i = some (l.take i ++ putM e (l.drop i)) := by
  induction d with
  | zero =>
    intro k i h hk
    obtain ⟨k, rfl⟩ : ∃ m, k = m + 1 := ⟨k - 1, by omega⟩
    rw [mailcoachref03_put.l0, if_neg (by omega)]
    simp only [Option.bind_some, List.nil_append, List.length_nil, List.length_append, List.length_take, List.length_drop, List.length_cons, Int.toNat_natCast]
    rw [if_pos (by omega), if_pos (by omega), if_pos (by omega), if_pos (by omega), if_pos (by omega), List.drop_eq_nil_of_le (by omega)]
    simp [putM]
  | succ d ih =>
    intro k i h hk
    obtain ⟨k, rfl⟩ : ∃ m, k = m + 1 := ⟨k - 1, by omega⟩
    have hi' : i < l.length := by omega
    have hd : l.drop i = l[i] :: l.drop (i + 1) := List.drop_eq_getElem_cons hi'
    have ht : l.take (i + 1) = l.take i ++ [l[i]] := (List.take_append_getElem hi').symm
    rw [mailcoachref03_put.l0, if_pos (by omega), if_pos (by omega), rdi_at l i hi', wrap64_in _ (by omega), show ((i : Int) + 1) = ((i + 1 : Nat) : Int) by omega, ih k (i + 1) (by omega) (by omega), hd, ht]
    conv => rhs; unfold putM
    by_cases c1 : l[i] < e
    · rw [if_pos c1, if_pos c1, List.append_assoc]; rfl
    · rw [if_neg c1, if_neg c1]
      by_cases c2 : l[i] = e
      · rw [if_pos c2, if_pos c2, ← hd, List.take_append_drop]
      · rw [if_neg c2, if_neg c2]
        simp only [Option.bind_some, List.nil_append, List.length_nil, List.length_append, List.length_take, List.length_drop, List.length_cons, Int.toNat_natCast]
        rw [if_pos (by omega), if_pos (by omega), if_pos (by omega), if_pos (by omega), hd]
        simp
theorem put_f {l : List Int} {e : Int} (hl : l.length ≤ 1000) (k : Nat) (hk : 1001 ≤ k) : mailcoachref03_put.f k l e = some (putM e l) := by
  unfold mailcoachref03_put.f
  have := put_l0 (e := e) hl l.length k 0 (by omega) (by omega)
  simpa using this
def endsM : List S25 → List Int → List Int
  | [], acc => acc
  | x :: t, acc => endsM t (putM x.f1 (putM x.f0 acc))
theorem ends_spec : ∀ (l : List S25) (acc : List Int), (∀ x ∈ l, 0 ≤ x.f0 ∧ 0 ≤ x.f1) → Inc (-1) acc → Inc (-1) (endsM l acc) ∧ (∀ y, y ∈ endsM l acc ↔ y ∈ acc ∨ ∃ x ∈ l, y = x.f0 ∨ y = x.f1) ∧ (endsM l acc).length ≤ acc.length + 2 * l.length
  | [], acc, _, h => ⟨h, fun y => by simp [endsM], by simp [endsM]⟩
  | x :: t, acc, hp, h => by
    have hx := hp x List.mem_cons_self
    obtain ⟨a1, a2, a3⟩ := put_spec x.f0 acc (-1) h (by omega)
    obtain ⟨b1, b2, b3⟩ := put_spec x.f1 _ (-1) a1 (by omega)
    obtain ⟨r1, r2, r3⟩ := ends_spec t _ (fun z hz => hp z (List.mem_cons_of_mem _ hz)) b1
    refine ⟨r1, fun y => ?_, by simp only [endsM, List.length_cons]; omega⟩
    show y ∈ endsM t _ ↔ _
    rw [r2, b2, a2]
    simp only [List.mem_cons, exists_eq_or_imp]
    constructor
    · rintro ((h | h | h) | h)
      · exact .inr (.inl (.inr h))
      · exact .inr (.inl (.inl h))
      · exact .inl h
      · exact .inr (.inr h)
    · rintro (h | (h | h) | h)
      · exact .inl (.inr (.inr h))
      · exact .inl (.inr (.inl h))
      · exact .inl (.inl h)
      · exact .inr h
theorem ends_l0 {l : List S25} (hl : l.length ≤ 300) (d : Nat) : ∀ (k i : Nat) (acc : List Int), i + d = l.length → d + 1002 < k → acc.length ≤ 2 * i → (∀ x ∈ l, 0 ≤ x.f0 ∧ 0 ≤ x.f1) → Inc (-1) acc → mailcoachref03_ends.l0 k l acc i = some (endsM (l.drop i) acc) := by
  induction d with
  | zero =>
    intro k i acc h hk ha hp hi
    obtain ⟨k, rfl⟩ : ∃ m, k = m + 1 := ⟨k - 1, by omega⟩
    rw [mailcoachref03_ends.l0, if_neg (by omega), List.drop_eq_nil_of_le (by omega)]; rfl
  | succ d ih =>
    intro k i acc h hk ha hp hi
    obtain ⟨k, rfl⟩ : ∃ m, k = m + 1 := ⟨k - 1, by omega⟩
    have hi' : i < l.length := by omega
    have hd : l.drop i = l[i] :: l.drop (i + 1) := List.drop_eq_getElem_cons hi'
    have hx := hp l[i] (List.getElem_mem hi')
    obtain ⟨a1, a2, a3⟩ := put_spec l[i].f0 acc (-1) hi (by omega)
    obtain ⟨b1, b2, b3⟩ := put_spec l[i].f1 _ (-1) a1 (by omega)
    rw [mailcoachref03_ends.l0, if_pos (by omega), if_pos (by omega), rd_at l i hi', put_f (by omega) k (by omega), Option.bind_some, put_f (by omega) k (by omega), Option.bind_some, wrap64_in _ (by omega), show ((i : Int) + 1) = ((i + 1 : Nat) : Int) by omega, ih k (i + 1) _ (by omega) (by omega) (by omega) hp b1, hd]
    rfl
theorem ends_f {l : List S25} (hl : l.length ≤ 300) (hp : ∀ x ∈ l, 0 ≤ x.f0 ∧ 0 ≤ x.f1) (k : Nat) (hk : 1400 ≤ k) : mailcoachref03_ends.f k l = some (endsM l []) := by
  unfold mailcoachref03_ends.f
  have := ends_l0 hl l.length k 0 [] (by omega) (by omega) (by simp) hp trivial
  simpa using this

def pushM (acc : List S25) (a c : Int) : List S25 := match acc.getLast? with
  | some z => if z.f1 = a then acc.dropLast ++ [⟨z.f0, c⟩] else acc ++ [⟨a, c⟩]
  | none => [⟨a, c⟩]
theorem push_nil (a c : Int) : pushM [] a c = [⟨a, c⟩] := rfl
theorem push_snoc (m : List S25) (z : S25) (a c : Int) : pushM (m ++ [z]) a c = if z.f1 = a then m ++ [⟨z.f0, c⟩] else (m ++ [z]) ++ [⟨a, c⟩] := by
  unfold pushM
  simp
theorem push_spec (acc : List S25) (a c : Int) (hac : a < c) (h0 : 0 ≤ a) (hc : Can (-1) acc) (hb : ∀ z ∈ acc, z.f1 ≤ a) :
    Can (-1) (pushM acc a c) ∧ (∀ z ∈ pushM acc a c, z.f1 ≤ c) ∧ (∀ n, InP (pushM acc a c) n ↔ InP acc n ∨ (a ≤ n ∧ n < c)) ∧ (pushM acc a c).length ≤ acc.length + 1 := by
  rcases List.eq_nil_or_concat acc with rfl | ⟨m, z, rfl⟩
  · rw [push_nil]
    exact ⟨⟨by show -1 < a; omega, hac, trivial⟩, fun z hz => by rw [List.mem_singleton.1 hz]; exact Int.le_refl _, fun n => by simp [InP], by simp⟩
  · rw [List.concat_eq_append] at *
    rw [push_snoc]
    obtain ⟨k1, k2, k3, k4⟩ := can_snoc_inv hc
    have hz := hb z (by simp)
    have hm : ∀ w ∈ m, w.f1 ≤ a := fun w hw => hb w (by simp [hw])
    by_cases h : z.f1 = a
    · rw [if_pos h]
      refine ⟨can_snoc k1 k2 k3 (by show z.f0 < c; omega), fun w hw => ?_, fun n => ?_, by simp⟩
      · rcases List.mem_append.1 hw with hw | hw
        · have := hm w hw; omega
        · rw [List.mem_singleton.1 hw]; exact Int.le_refl _
      · rw [in_app, in_app, in_cons, in_cons]
        have := in_nil n
        have e : (z.f0 ≤ n ∧ n < c) ↔ (z.f0 ≤ n ∧ n < z.f1) ∨ (a ≤ n ∧ n < c) := by omega
        show InP m n ∨ (z.f0 ≤ n ∧ n < c) ∨ _ ↔ _
        rw [e]
        constructor
        · rintro (h | (h | h) | h)
          · exact .inl (.inl h)
          · exact .inl (.inr (.inl h))
          · exact .inr h
          · exact absurd h this
        · rintro ((h | h | h) | h)
          · exact .inl h
          · exact .inr (.inl (.inl h))
          · exact absurd h this
          · exact .inr (.inl (.inr h))
    · rw [if_neg h]
      refine ⟨can_snoc hc (fun w hw => ?_) (by show -1 < a; omega) hac, fun w hw => ?_, fun n => ?_, by simp⟩
      · show w.f1 < a
        rcases List.mem_append.1 hw with hw | hw
        · have := k2 w hw; omega
        · rw [List.mem_singleton.1 hw]; omega
      · rcases List.mem_append.1 hw with hw | hw
        · have := hb w hw; omega
        · rw [List.mem_singleton.1 hw]; exact Int.le_refl _
      · rw [in_app, in_cons]
        have := in_nil n
        constructor
        · rintro (h | h | h)
          · exact .inl h
          · exact .inr h
          · exact absurd h this
        · rintro (h | h)
          · exact .inl h
          · exact .inr (.inl h)
def keepB (x y : List S25) (a : Int) : Bool := inB x a && !inB y a
def setM (x y : List S25) : List S25 → List Int → List S25
  | acc, a :: c :: t => setM x y (if keepB x y a = true then pushM acc a c else acc) (c :: t)
  | acc, _ => acc
theorem seg_in {x : List S25} {e : List Int} (hx : ∀ z ∈ x, z.f0 ∈ e ∧ z.f1 ∈ e) {a c : Int} (hm : ∀ m ∈ e, m ≤ a ∨ c ≤ m) {n : Int} (h : a ≤ n ∧ n < c) : InP x n ↔ InP x a := by
  constructor
  · rintro ⟨z, hz, h1, h2⟩
    have := hm _ (hx z hz).1
    exact ⟨z, hz, by omega, by omega⟩
  · rintro ⟨z, hz, h1, h2⟩
    have := hm _ (hx z hz).2
    exact ⟨z, hz, by omega, by omega⟩
theorem inc_mem : ∀ {t : List Int} {a : Int}, Inc a t → ∀ m ∈ t, a < m
  | [], _, _, _, h => absurd h List.not_mem_nil
  | y :: t, a, hi, m, h => by
    rcases List.mem_cons.1 h with rfl | h
    · exact hi.1
    · have := inc_mem hi.2 m h
      have := hi.1
      omega
theorem set_spec {x y : List S25} {e : List Int} (hx : ∀ z ∈ x, z.f0 ∈ e ∧ z.f1 ∈ e) (hy : ∀ z ∈ y, z.f0 ∈ e ∧ z.f1 ∈ e) : ∀ (t : List Int) (a : Int) (acc : List S25), Inc a t → 0 ≤ a → (∀ m ∈ e, m ≤ a ∨ m ∈ t) → Can (-1) acc → (∀ z ∈ acc, z.f1 ≤ a) → (∀ n, InP acc n ↔ n < a ∧ InP x n ∧ ¬ InP y n) →
    Can (-1) (setM x y acc (a :: t)) ∧ (∀ n, InP (setM x y acc (a :: t)) n ↔ InP x n ∧ ¬ InP y n) ∧ (setM x y acc (a :: t)).length ≤ acc.length + t.length
  | [], a, acc, _, _, hm, hc, _, hn => by
    refine ⟨hc, fun n => ?_, by simp [setM]⟩
    show InP acc n ↔ _
    rw [hn]
    constructor
    · exact fun h => h.2
    · intro h
      obtain ⟨z, hz, h1, h2⟩ := h.1
      have := hm _ (hx z hz).2
      simp only [List.not_mem_nil, or_false] at this
      exact ⟨by omega, h⟩
  | c :: t, a, acc, hi, h0, hm, hc, hb, hn => by
    obtain ⟨hac, hi'⟩ := hi
    have hm' : ∀ m ∈ e, m ≤ a ∨ c ≤ m := fun m h => by
      rcases hm m h with h | h
      · exact .inl h
      · rcases List.mem_cons.1 h with rfl | h
        · exact .inr (Int.le_refl _)
        · have := inc_mem hi' m h; omega
    have hm2 : ∀ m ∈ e, m ≤ c ∨ m ∈ t := fun m h => by
      rcases hm m h with h | h
      · exact .inl (by omega)
      · rcases List.mem_cons.1 h with rfl | h
        · exact .inl (Int.le_refl _)
        · exact .inr h
    show Can (-1) (setM x y (if keepB x y a = true then pushM acc a c else acc) (c :: t)) ∧ (∀ n, InP (setM x y (if keepB x y a = true then pushM acc a c else acc) (c :: t)) n ↔ _) ∧ (setM x y (if keepB x y a = true then pushM acc a c else acc) (c :: t)).length ≤ _
    have hk : keepB x y a = true ↔ InP x a ∧ ¬ InP y a := by
      unfold keepB
      rw [Bool.and_eq_true, Bool.not_eq_true', inB_iff, ← inB_iff y, Bool.not_eq_true]
    by_cases h : keepB x y a = true
    · rw [if_pos h]
      obtain ⟨p1, p2, p3, p4⟩ := push_spec acc a c hac h0 hc hb
      obtain ⟨r1, r2, r3⟩ := set_spec hx hy t c (pushM acc a c) hi' (by omega) hm2 p1 p2 (fun n => by
        rw [p3, hn]
        constructor
        · rintro (⟨h1, h2⟩ | h1)
          · exact ⟨by omega, h2⟩
          · refine ⟨h1.2, ?_⟩
            rw [seg_in hx hm' h1, seg_in hy hm' h1]
            exact hk.1 h
        · rintro ⟨h1, h2⟩
          by_cases h3 : n < a
          · exact .inl ⟨h3, h2⟩
          · exact .inr ⟨by omega, h1⟩)
      exact ⟨r1, r2, by simp only [List.length_cons]; omega⟩
    · rw [if_neg h]
      obtain ⟨r1, r2, r3⟩ := set_spec hx hy t c acc hi' (by omega) hm2 hc (fun z hz => by have := hb z hz; omega) (fun n => by
        rw [hn]
        constructor
        · rintro ⟨h1, h2⟩
          exact ⟨by omega, h2⟩
        · rintro ⟨h1, h2⟩
          refine ⟨?_, h2⟩
          by_cases h3 : n < a
          · exact h3
          · rw [seg_in hx hm' ⟨by omega, h1⟩, seg_in hy hm' ⟨by omega, h1⟩] at h2
            exact absurd (hk.2 h2) h)
      exact ⟨r1, r2, by simp only [List.length_cons]; omega⟩
theorem set_l0 {x y : List S25} {e : List Int} (hx : x.length ≤ 1000) (hy : y.length ≤ 1000) (hl : e.length ≤ 1000) (d : Nat) : ∀ (k i : Nat) (acc : List S25), i + d = e.length → 2 * d + 1002 < k → acc.length ≤ i →
    mailcoachref03_Set.l0 k x y e acc i = some (setM x y acc (e.drop i)) := by
  induction d with
  | zero =>
    intro k i acc h hk ha
    obtain ⟨k, rfl⟩ : ∃ m, k = m + 1 := ⟨k - 1, by omega⟩
    rw [mailcoachref03_Set.l0, wrap64_in _ (by omega), if_neg (by omega), List.drop_eq_nil_of_le (by omega)]; rfl
  | succ d ih =>
    intro k i acc h hk ha
    obtain ⟨k, rfl⟩ : ∃ m, k = m + 1 + 1 := ⟨k - 2, by omega⟩
    have hi' : i < e.length := by omega
    have hd : e.drop i = e[i] :: e.drop (i + 1) := List.drop_eq_getElem_cons hi'
    have hw : wrap64 ((i : Int) + 1) = ((i + 1 : Nat) : Int) := by rw [wrap64_in _ (by omega)]; omega
    rw [mailcoachref03_Set.l0, hw]
    by_cases h1 : i + 1 < e.length
    · have hd2 : e.drop (i + 1) = e[i + 1] :: e.drop (i + 1 + 1) := List.drop_eq_getElem_cons h1
      have step : ∀ (acc' : List S25), acc'.length ≤ i + 1 → mailcoachref03_Set.l0 k x y e acc' ((i + 1 : Nat) : Int) = some (setM x y acc' (e.drop (i + 1))) := fun acc' h' => ih k (i + 1) acc' (by omega) (by omega) h'
      have jt : mailcoachref03_Set.j1 (k + 1) x y e acc i true = some (setM x y acc (e.drop (i + 1))) := by
        rw [mailcoachref03_Set.j1, if_pos rfl, hw, step acc (by omega)]
      have jf : mailcoachref03_Set.j1 (k + 1) x y e acc i false = some (setM x y (pushM acc e[i] e[i + 1]) (e.drop (i + 1))) := by
        rw [mailcoachref03_Set.j1, if_neg (by decide)]
        rcases List.eq_nil_or_concat acc with rfl | ⟨m, z, rfl⟩
        · rw [if_neg (by simp), if_pos (by omega), if_pos (by omega), hw, if_pos (by omega), if_pos (by omega), if_pos (by simp), rdi_at e i hi', rdi_at e (i + 1) h1, step _ (by simp), push_nil]
          rfl
        · rw [List.concat_eq_append] at *
          have hlen : (((m ++ [z]).length : Nat) : Int) = (m.length : Int) + 1 := by simp
          have ha' : m.length + 1 ≤ i := by simpa using ha
          have hw2 : wrap64 ((((m ++ [z]).length : Nat) : Int) - 1) = (m.length : Int) := by rw [hlen, wrap64_in _ (by omega)]; omega
          have hz : rd_T25 (m ++ [z]) (m.length : Int) = z := by rw [rd_at _ _ (by simp)]; simp
          rw [if_pos (by omega), hw2, if_pos (by omega), if_pos (by omega), if_pos (by omega), if_pos (by omega), hz, rdi_at e i hi', hw, rdi_at e (i + 1) h1, push_snoc]
          by_cases hc : z.f1 = e[i]
          · rw [if_pos hc, if_pos hc, if_pos (by omega), if_pos (by omega), step _ (by simp; omega)]
            simp
          · rw [if_neg hc, if_neg hc, if_pos (by omega), if_pos (by omega), if_pos (by simp; omega), step _ (by simp; omega)]
      rw [if_pos (by omega), if_pos (by omega), if_pos (by omega), rdi_at e i hi', in_f hx (k + 1) (by omega), Option.bind_some, in_f hy (k + 1) (by omega), Option.bind_some, jt]
      rw [hd, hd2]
      show _ = some (setM x y (if keepB x y e[i] = true then pushM acc e[i] e[i + 1] else acc) (e[i + 1] :: e.drop (i + 1 + 1)))
      rw [← hd2]
      unfold keepB
      cases inB x e[i] <;> cases hyb : inB y e[i] <;> simp [jt, jf]
    · rw [if_neg (by omega), hd, List.drop_eq_nil_of_le (by omega)]; rfl
theorem set_f {x y : List S25} (hl : x.length + y.length ≤ 300) (hx : ∀ z ∈ x, 0 ≤ z.f0 ∧ 0 ≤ z.f1 ∧ z.f1 ≤ 18446744073709551615) (hy : ∀ z ∈ y, 0 ≤ z.f0 ∧ 0 ≤ z.f1) (k : Nat) (hk : 2300 ≤ k) :
    ∃ r, mailcoachref03_Set.f k x y = some r ∧ Good r ∧ (∀ n, InP r n ↔ InP x n ∧ ¬ InP y n) ∧ r.length ≤ 2 * (x.length + y.length) := by
  have hp : ∀ z ∈ x ++ y, 0 ≤ z.f0 ∧ 0 ≤ z.f1 := fun z hz => by
    rcases List.mem_append.1 hz with h | h
    · exact ⟨(hx z h).1, (hx z h).2.1⟩
    · exact hy z h
  obtain ⟨e1, e2, e3⟩ := ends_spec (x ++ y) [] hp trivial
  simp only [List.length_append, List.length_nil] at e3
  unfold mailcoachref03_Set.f
  simp only [Option.bind_some, List.length_nil, List.nil_append]
  rw [if_pos (by omega), if_pos (by omega), ends_f (by simp only [List.length_append]; omega) hp k (by omega)]
  simp only [Option.bind_some]
  have hs := set_l0 (x := x) (y := y) (e := endsM (x ++ y) []) (by omega) (by omega) (by omega) (endsM (x ++ y) []).length k 0 [] (by omega) (by omega) (by simp)
  rw [show ((0 : Nat) : Int) = 0 from rfl, List.drop_zero] at hs
  rw [hs]
  have mx : ∀ z ∈ x, z.f0 ∈ endsM (x ++ y) [] ∧ z.f1 ∈ endsM (x ++ y) [] := fun z hz => ⟨(e2 _).2 (.inr ⟨z, List.mem_append.2 (.inl hz), .inl rfl⟩), (e2 _).2 (.inr ⟨z, List.mem_append.2 (.inl hz), .inr rfl⟩)⟩
  have my : ∀ z ∈ y, z.f0 ∈ endsM (x ++ y) [] ∧ z.f1 ∈ endsM (x ++ y) [] := fun z hz => ⟨(e2 _).2 (.inr ⟨z, List.mem_append.2 (.inr hz), .inl rfl⟩), (e2 _).2 (.inr ⟨z, List.mem_append.2 (.inr hz), .inr rfl⟩)⟩
  have key : Can (-1) (setM x y [] (endsM (x ++ y) [])) ∧ (∀ n, InP (setM x y [] (endsM (x ++ y) [])) n ↔ InP x n ∧ ¬ InP y n) ∧ (setM x y [] (endsM (x ++ y) [])).length ≤ 2 * (x.length + y.length) := by
    cases he : endsM (x ++ y) [] with
    | nil =>
      rw [he] at mx
      have hx0 : x = [] := by
        cases x with
        | nil => rfl
        | cons z t => exact absurd (mx z List.mem_cons_self).1 List.not_mem_nil
      subst hx0
      exact ⟨trivial, fun n => by simp [setM, InP], by simp [setM]⟩
    | cons a t =>
      rw [he] at mx my e1 e3
      obtain ⟨r1, r2, r3⟩ := set_spec mx my t a [] e1.2 (by have := e1.1; omega) (fun m hm => by
        rcases List.mem_cons.1 hm with rfl | h
        · exact .inl (Int.le_refl _)
        · exact .inr h) trivial (fun z hz => absurd hz List.not_mem_nil) (fun n => by
        constructor
        · exact fun h => absurd h (in_nil n)
        · rintro ⟨h1, ⟨z, hz, h2, h3⟩, _⟩
          have hm := (mx z hz).1
          rcases List.mem_cons.1 hm with h | h
          · omega
          · have := inc_mem e1.2 _ h; omega)
      refine ⟨r1, r2, ?_⟩
      simp only [List.length_cons, List.length_nil] at e3 r3
      omega
  refine ⟨_, rfl, ⟨key.1, fun n hn => ?_⟩, key.2.1, key.2.2⟩
  obtain ⟨z, hz, h1, h2⟩ := ((key.2.1 n).1 hn).1
  have := hx z hz
  omega
theorem right_f {l : List S25} (hl : l.length ≤ 8796093022208) (hx : ∀ z ∈ l, 0 ≤ z.f0 ∧ 0 ≤ z.f1 ∧ z.f1 ≤ 18446744073709551615) (k : Nat) (hk : 2300 ≤ k) :
    ∃ r, mailcoachlaw03_Right.f k l = some r ∧ Good r ∧ r.length ≤ 80 := by
  unfold mailcoachlaw03_Right.f
  have hm : mn (l.length : Int) 40 = ((min l.length 40 : Nat) : Int) := by unfold mn; split <;> omega
  rw [hm, if_pos (by omega), if_pos (by omega), Int.toNat_natCast]
  have ht : (l.take (min l.length 40)).length ≤ 40 := by rw [List.length_take]; omega
  obtain ⟨r, h1, h2, h3, h4⟩ := set_f (x := l.take (min l.length 40)) (y := []) (by simp only [List.length_nil]; omega) (fun z hz => hx z (List.mem_of_mem_take hz)) (fun z hz => absurd hz List.not_mem_nil) k hk
  rw [h1]
  simp only [List.length_nil] at h4
  exact ⟨r, rfl, h2, by omega⟩
def sumM : List S25 → Int
  | [] => 0
  | x :: t => (x.f1 - x.f0) + sumM t
theorem sum_bd : ∀ (l : List S25) (b : Int), Can b l → (∀ x ∈ l, x.f1 ≤ 18446744073709551615) → 0 ≤ sumM l ∧ (l ≠ [] → sumM l ≤ 18446744073709551615 - b - 1)
  | [], _, _, _ => ⟨Int.le_refl _, fun h => absurd rfl h⟩
  | x :: t, b, h, hx => by
    obtain ⟨h1, h2, h3⟩ := h
    have hx1 := hx x List.mem_cons_self
    obtain ⟨a1, a2⟩ := sum_bd t x.f1 h3 fun y hy => hx y (List.mem_cons_of_mem _ hy)
    have e : sumM (x :: t) = (x.f1 - x.f0) + sumM t := rfl
    by_cases ht : t = []
    · subst ht
      have : sumM [] = 0 := rfl
      exact ⟨by omega, fun _ => by omega⟩
    · have := a2 ht
      exact ⟨by omega, fun _ => by omega⟩
theorem count_l0 {l : List S25} (hg : Good l) (hl : l.length ≤ 1000) (d : Nat) : ∀ (k i : Nat) (s : Int), i + d = l.length → d < k → 0 ≤ s → s + sumM (l.drop i) ≤ 18446744073709551615 → Can (-1) (l.drop i) → ranges_Count.l0 k s l l.length i = some (s + sumM (l.drop i)) := by
  induction d with
  | zero =>
    intro k i s h hk h0 h1 hc
    obtain ⟨k, rfl⟩ : ∃ m, k = m + 1 := ⟨k - 1, by omega⟩
    rw [ranges_Count.l0, if_neg (by omega), List.drop_eq_nil_of_le (by omega)]; simp [sumM]
  | succ d ih =>
    intro k i s h hk h0 h1 hc
    obtain ⟨k, rfl⟩ : ∃ m, k = m + 1 := ⟨k - 1, by omega⟩
    have hi' : i < l.length := by omega
    have hd : l.drop i = l[i] :: l.drop (i + 1) := List.drop_eq_getElem_cons hi'
    have hx := good_mem hg l[i] (List.getElem_mem hi')
    rw [hd] at h1 hc ⊢
    have e : sumM (l[i] :: l.drop (i + 1)) = (l[i].f1 - l[i].f0) + sumM (l.drop (i + 1)) := rfl
    have hc' := hc.2.2
    have hb := (sum_bd _ _ hc' fun y hy => (good_mem hg y (List.mem_of_mem_drop hy)).2.2).1
    rw [ranges_Count.l0, if_pos (by omega), if_pos (by omega), if_pos (by omega), rd_at l i hi', wrap64_in _ (by omega), show ((i : Int) + 1) = ((i + 1 : Nat) : Int) by omega, u64_in (l[i].f1 - l[i].f0) (by omega), u64_in _ (by omega), ih k (i + 1) _ (by omega) (by omega) (by omega) (by omega) (can_weak hc' (by omega)), e]
    congr 1; omega
theorem count_f {l : List S25} (hg : Good l) (hl : l.length ≤ 1000) (k : Nat) (hk : 1001 ≤ k) : ranges_Count.f k l = some (sumM l) ∧ 0 ≤ sumM l ∧ sumM l ≤ 18446744073709551615 := by
  unfold ranges_Count.f
  have hb := sum_bd l (-1) hg.1 fun y hy => (good_mem hg y hy).2.2
  have hb2 : sumM l ≤ 18446744073709551615 := by
    by_cases h : l = []
    · subst h; show (0 : Int) ≤ _; omega
    · have := hb.2 h; omega
  have := count_l0 hg hl l.length k 0 0 (by omega) (by omega) (by omega) (by rw [List.drop_zero]; omega) (by rw [List.drop_zero]; exact hg.1)
  rw [show ((0 : Nat) : Int) = 0 from rfl, List.drop_zero] at this
  refine ⟨?_, hb.1, hb2⟩
  rw [this]; congr 1; omega
/-- How many whole numbers below N satisfy p. -/
def card (N : Nat) (p : Nat → Bool) : Nat := (List.range N).countP p
theorem card_or (N : Nat) (p q : Nat → Bool) (h : ∀ e, ¬ (p e = true ∧ q e = true)) : card N (fun e => p e || q e) = card N p + card N q := by
  unfold card
  induction N with
  | zero => rfl
  | succ N ih =>
    simp only [List.range_succ, List.countP_append, List.countP_cons, List.countP_nil, ih]
    have := h N
    cases hp : p N <;> cases hq : q N <;> simp_all <;> omega
theorem card_range (lo hi : Nat) (p : Nat → Bool) (h : ∀ e, p e = true ↔ lo ≤ e ∧ e < hi) (N : Nat) : card N p = min hi N - min lo N := by
  unfold card
  induction N with
  | zero => simp
  | succ N ih =>
    simp only [List.range_succ, List.countP_append, List.countP_cons, List.countP_nil, ih]
    have := h N
    by_cases h1 : lo ≤ N ∧ N < hi
    · rw [if_pos (this.2 h1)]; omega
    · rw [if_neg (fun h2 => h1 (this.1 h2))]; omega
theorem card_congr (N : Nat) {p q : Nat → Bool} (h : ∀ e, p e = true ↔ q e = true) : card N p = card N q := by
  have : p = q := funext fun e => Bool.eq_iff_iff.2 (h e)
  rw [this]
theorem sum_card (N : Nat) (hN : (N : Int) = 18446744073709551615) : ∀ (l : List S25) (b : Int), -1 ≤ b → Can b l → (∀ x ∈ l, x.f1 ≤ 18446744073709551615) → sumM l = ((card N fun e => inB l e : Nat) : Int)
  | [], _, _, _, _ => by
    have : card N (fun e => inB [] e) = 0 := by
      have := card_range 0 0 (fun e => inB [] e) (fun e => by simp [inB]) N
      omega
    rw [this]; rfl
  | x :: t, b, hb, h, hx => by
    obtain ⟨h1, h2, h3⟩ := h
    have hx1 := hx x List.mem_cons_self
    have ih := sum_card N hN t x.f1 (by omega) h3 fun y hy => hx y (List.mem_cons_of_mem _ hy)
    have e : sumM (x :: t) = (x.f1 - x.f0) + sumM t := rfl
    have c1 := card_range x.f0.toNat x.f1.toNat (fun e : Nat => decide (x.f0 ≤ (e : Int) ∧ (e : Int) < x.f1)) (fun e => by simp only [decide_eq_true_eq]; omega) N
    have c2 := card_or N (fun e : Nat => decide (x.f0 ≤ (e : Int) ∧ (e : Int) < x.f1)) (fun e => inB t e) (fun e h => by
      have k1 := h.1
      simp only [decide_eq_true_eq] at k1
      have k2 := can_in h3 ((inB_iff t e).1 h.2)
      omega)
    have c3 : card N (fun e => inB (x :: t) e) = card N (fun e : Nat => decide (x.f0 ≤ (e : Int) ∧ (e : Int) < x.f1) || inB t e) := rfl
    rw [e, ih, c3, c2, c1]
    omega
/-- The counts of right ranges, where one has the numbers of another and those of an interval beside them. -/
theorem sum_add {l m : List S25} {lo hi : Int} (hl : Good l) (hm : Good m) (h0 : 0 ≤ lo) (h1 : lo ≤ hi) (h2 : hi ≤ 18446744073709551615) (h : ∀ n, InP m n ↔ InP l n ∨ (lo ≤ n ∧ n < hi)) (hd : ∀ n, InP l n → ¬ (lo ≤ n ∧ n < hi)) : sumM m = sumM l + (hi - lo) := by
  obtain ⟨N, hN⟩ : ∃ N : Nat, (N : Int) = 18446744073709551615 := ⟨(18446744073709551615 : Int).toNat, by omega⟩
  rw [sum_card N hN l (-1) (by omega) hl.1 fun y hy => (good_mem hl y hy).2.2, sum_card N hN m (-1) (by omega) hm.1 fun y hy => (good_mem hm y hy).2.2]
  have c1 := card_range lo.toNat hi.toNat (fun e : Nat => decide (lo ≤ (e : Int) ∧ (e : Int) < hi)) (fun e => by simp only [decide_eq_true_eq]; omega) N
  have c2 := card_or N (fun e => inB l e) (fun e : Nat => decide (lo ≤ (e : Int) ∧ (e : Int) < hi)) (fun e h => by
    have k1 := h.2
    simp only [decide_eq_true_eq] at k1
    exact hd _ ((inB_iff l e).1 h.1) k1)
  have c3 : card N (fun e => inB m e) = card N (fun e : Nat => inB l e || decide (lo ≤ (e : Int) ∧ (e : Int) < hi)) := card_congr N fun e => by
    rw [inB_iff, h, Bool.or_eq_true, inB_iff, decide_eq_true_eq]
  rw [c3, c2, c1]
  omega
def gapM : Int → List S25 → Int
  | g, [] => g
  | g, x :: t => if x.f0 ≤ g ∧ g < x.f1 then gapM x.f1 t else gapM g t
theorem gap_out : ∀ (t : List S25) (g : Int), ¬ InP t g → gapM g t = g
  | [], _, _ => rfl
  | x :: t, g, h => by
    have h' := fun k => h ((in_cons x t g).2 k)
    unfold gapM
    rw [if_neg (fun k => h' (.inl k)), gap_out t g fun k => h' (.inr k)]
theorem gap_spec : ∀ (l : List S25) (b n : Int), Can b l → ¬ InP l (gapM n l) ∧ n ≤ gapM n l ∧ (n < gapM n l → InP l n ∧ InP l (gapM n l - 1) ∧ ∃ x ∈ l, gapM n l = x.f1) ∧ (∀ e, n ≤ e → e < gapM n l → InP l e)
  | [], _, n, _ => ⟨in_nil _, Int.le_refl _, fun h => absurd h (by simp [gapM]), fun e h1 h2 => absurd h2 (by simp only [gapM]; omega)⟩
  | x :: t, b, n, h => by
    obtain ⟨h1, h2, h3⟩ := h
    unfold gapM
    by_cases c : x.f0 ≤ n ∧ n < x.f1
    · rw [if_pos c]
      have ho : ¬ InP t x.f1 := fun k => by have := can_in h3 k; omega
      rw [gap_out t _ ho]
      refine ⟨fun k => ?_, by omega, fun _ => ⟨(in_cons x t n).2 (.inl c), (in_cons x t _).2 (.inl (by omega)), x, List.mem_cons_self, rfl⟩, fun e a1 a2 => (in_cons x t e).2 (.inl (by omega))⟩
      rcases (in_cons x t _).1 k with k | k
      · omega
      · exact ho k
    · rw [if_neg c]
      obtain ⟨r1, r2, r3, r4⟩ := gap_spec t x.f1 n h3
      refine ⟨fun k => ?_, r2, fun k => ?_, fun e a1 a2 => (in_cons x t e).2 (.inr (r4 e a1 a2))⟩
      · rcases (in_cons x t _).1 k with k | k
        · have k' : n < gapM n t := by omega
          have := can_in h3 (r3 k').1
          omega
        · exact r1 k
      · obtain ⟨a1, a2, y, hy, a3⟩ := r3 k
        exact ⟨(in_cons x t n).2 (.inr a1), (in_cons x t _).2 (.inr a2), y, List.mem_cons_of_mem _ hy, a3⟩
theorem gap_l0 {l : List S25} (hl : l.length ≤ 1000) (d : Nat) : ∀ (k i : Nat) (g : Int), i + d = l.length → d < k → ranges_Gap.l0 k g l l.length i = some (gapM g (l.drop i)) := by
  induction d with
  | zero =>
    intro k i g h hk
    obtain ⟨k, rfl⟩ : ∃ m, k = m + 1 := ⟨k - 1, by omega⟩
    rw [ranges_Gap.l0, if_neg (by omega), List.drop_eq_nil_of_le (by omega)]; rfl
  | succ d ih =>
    intro k i g h hk
    obtain ⟨k, rfl⟩ : ∃ m, k = m + 1 := ⟨k - 1, by omega⟩
    have hi' : i < l.length := by omega
    have hd : l.drop i = l[i] :: l.drop (i + 1) := List.drop_eq_getElem_cons hi'
    rw [ranges_Gap.l0, if_pos (by omega), if_pos (by omega), if_pos (by omega), rd_at l i hi', wrap64_in _ (by omega), show ((i : Int) + 1) = ((i + 1 : Nat) : Int) by omega, ih k (i + 1) _ (by omega) (by omega), ih k (i + 1) _ (by omega) (by omega), hd, gapM]
    by_cases c1 : l[i].f0 ≤ g <;> by_cases c2 : g < l[i].f1 <;> simp [c1, c2]
theorem gap_f {l : List S25} {n : Int} (hl : l.length ≤ 1000) (k : Nat) (hk : 1001 ≤ k) : ranges_Gap.f k l n = some (gapM n l) := by
  unfold ranges_Gap.f
  have := gap_l0 hl l.length k 0 n (by omega) (by omega)
  rwa [List.drop_zero] at this
theorem has_l0 {l : List S25} {b n : Int} (hc : Can b l) (hl : l.length ≤ 1000) (d : Nat) : ∀ (k i : Nat), i + d = l.length → 2 * d + 2 < k → ranges_Has.l0 k l n i = some (inB (l.drop i) n) := by
  induction d with
  | zero =>
    intro k i h hk
    obtain ⟨k, rfl⟩ : ∃ m, k = m + 1 + 1 := ⟨k - 2, by omega⟩
    rw [ranges_Has.l0, if_neg (by omega), ranges_Has.j1, if_neg (by decide), List.drop_eq_nil_of_le (by omega)]; rfl
  | succ d ih =>
    intro k i h hk
    obtain ⟨k, rfl⟩ : ∃ m, k = m + 1 + 1 := ⟨k - 2, by omega⟩
    have hi' : i < l.length := by omega
    have hd : l.drop i = l[i] :: l.drop (i + 1) := List.drop_eq_getElem_cons hi'
    rw [ranges_Has.l0, if_pos (by omega), if_pos (by omega), rd_at l i hi', ranges_Has.j1]
    by_cases c1 : l[i].f0 ≤ n
    · rw [decide_eq_true c1, if_pos rfl, if_pos (by omega), if_pos (by omega), rd_at l i hi', wrap64_in _ (by omega), show ((i : Int) + 1) = ((i + 1 : Nat) : Int) by omega, ih k (i + 1) (by omega) (by omega), hd]
      unfold inB
      rw [List.any_cons]
      by_cases c2 : n < l[i].f1 <;> simp [c1, c2]
    · rw [decide_eq_false c1, if_neg (by decide)]
      have : inB (l.drop i) n = false := by
        rw [← Bool.not_eq_true, inB_iff]
        rintro ⟨z, hz, h1, h2⟩
        obtain ⟨j, hj, rfl⟩ := List.getElem_of_mem hz
        rw [List.length_drop] at hj
        rw [List.getElem_drop] at h1
        have := can_lt hc (i + j) (by omega) i (by omega)
        omega
      rw [this]
theorem in_cut {n : Int} : ∀ (l : List S25), inB (l.drop (cutM n l)) n = inB l n
  | [] => rfl
  | x :: t => by
    unfold cutM
    by_cases h : x.f1 < n
    · rw [if_pos h, List.drop_succ_cons, in_cut t]
      unfold inB
      rw [List.any_cons]
      have : decide (x.f0 ≤ n ∧ n < x.f1) = false := by rw [decide_eq_false_iff_not]; omega
      rw [this, Bool.false_or]
    · rw [if_neg h]; rfl
theorem has_f {l : List S25} {n : Int} (hg : Good l) (hl : l.length ≤ 400) (k : Nat) (hk : 1001 ≤ k) : ranges_Has.f k l n = some (inB l n) := by
  unfold ranges_Has.f
  have hc := (cut_spec (a := n) hg.1).1
  rw [behind_f (by omega) hg.1 k (by omega), Option.bind_some, has_l0 hg.1 (by omega) (l.length - cutM n l) k (cutM n l) (by omega) (by omega), in_cut]
theorem awake (k : Nat) (hk : 60 ≤ k) : mailcoachlaw03_Awake.f k = some true :=
  at_rounds mailcoachlaw03_Awake.mono hk (by decide +kernel)

end L03
end Go.Proofs.Ytehhpcijhclkfaa.Pure
